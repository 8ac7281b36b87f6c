/- RowCfgFlows of the seat's law CfgFlows: the law holds, under the statement's own conditions. -/
import Derived.Test.YtnepgcbgkhikkaaProg
import Derived.Below
import Derived.Deep.Draws
import Derived.Deep.AppendLies
import Derived.Maps.AppendAt
import Derived.OwnWalk
import Derived.Laws.BytesArg
import Derived.Laws.MakeOwn
import Derived.Laws.OwnMore
import Derived.Deep.OwnRows
import Derived.Tactics
import Derived.Lib.ConvBytes
import Derived.Laws.Slices
import Derived.WalkKit
import Derived.KernelRfl
import Derived.RowKit3
import Derived.Deep.LoopGhost
import Derived.Deep.QuietTactic
import Derived.BigQuiet
import Derived.WideLaws
import Derived.Deep.DeepCutAuto
import Derived.Deep.CutBlock
import Derived.Deep.RegionHeld3
import Derived.Laws.Rows
import Derived.Lib.AppendStr
import Derived.ArgAppend
import Derived.Laws.IdiomCopy
import Derived.OrdersHeld
import Derived.Laws.BitsLemmas
import Derived.RowKit
import Derived.Test.YtnepgcbgkhikkaaNW
import Derived.Sort.Grow
import Derived.Sort.EncStr
import Derived.Lib.SlicesCompact
import Derived.Shelf.Abstract
import Derived.Deep.DeepMust
import Derived.Outline
import Derived.Lib.SliceRun
set_option linter.unusedVariables false
set_option linter.unusedSimpArgs false
set_option linter.unusedSectionVars false
namespace Go.Proofs.Ytnepgcbgkhikkaa.H
open Go.RowKit Go.Proofs.YtnepgcbgkhikkaaW.PrintWords Go.Proofs.YtnepgcbgkhikkaaW.PrintLast Go.Proofs.YtnepgcbgkhikkaaW.PrintMore
attribute [local go_sem] max2_int min2_int max_two min_two max_three min_three max_four min_four
def errW : Option Int → Value
 | none => .nilIface
 | some c => .iface 0 (.int .i64 c)
theorem errW_none : errW none = .nilIface := rfl
theorem errW_some (c : Int) : errW (some c) = .iface 0 (.int .i64 c) := rfl
theorem info2 : (Try.prog.info? 2).map (fun i => (i.zero, i.size, i.bytes)) = some (some (.int .i64 0), 1, 8) := by kernel_rfl
theorem info3 : (Try.prog.info? 3).map (fun i => (i.zero, i.size, i.bytes)) = some (some (.int .i64 0), 1, 8) := by kernel_rfl
theorem info4 : (Try.prog.info? 4).map (fun i => (i.zero, i.size, i.bytes)) = some (some (.bool false), 1, 1) := by kernel_rfl
theorem info9 : (Try.prog.info? 9).map (fun i => (i.zero, i.size, i.bytes)) = some (some (.string ⟨#[]⟩), 1, 16) := by kernel_rfl
theorem info30 : (Try.prog.info? 30).map (fun i => (i.zero, i.size, i.bytes)) = some (some (.agg #[(.int .i64 0), (.string ⟨#[]⟩), (.string ⟨#[]⟩), (.string ⟨#[]⟩), (.string ⟨#[]⟩), (.int .i64 0), (.int .i64 0), (.int .i64 0)]), 8, 96) := by kernel_rfl
theorem info41 : (Try.prog.info? 41).map (fun i => (i.zero, i.size, i.bytes)) = some (some (.slice none 0 0), 1, 24) := by kernel_rfl
theorem info52 : (Try.prog.info? 52).map (fun i => (i.zero, i.size, i.bytes)) = some (some (.agg #[(.int .i64 0), (.slice none 0 0)]), 2, 32) := by kernel_rfl
theorem info54 : (Try.prog.info? 54).map (fun i => (i.zero, i.size, i.bytes)) = some (some (.agg #[(.string ⟨#[]⟩), (.int .i64 0), (.int .i64 0), (.bool false)]), 4, 40) := by kernel_rfl
theorem info67 : (Try.prog.info? 67).map (fun i => (i.zero, i.size, i.bytes)) = some (some (.agg #[(.int .i64 0), (.slice none 0 0)]), 2, 32) := by kernel_rfl
theorem info68 : (Try.prog.info? 68).map (fun i => (i.zero, i.size, i.bytes)) = some (some (.agg #[(.string ⟨#[]⟩), (.int .i64 0), (.int .i64 0), (.bool false)]), 4, 40) := by kernel_rfl
-- the values' own types
/-! #### struct type 30 -/
structure Stmt where
 kind : Int
 x : ByteArray
 y : ByteArray
 z : ByteArray
 op : ByteArray
 n : Int
 a : Int
 b : Int
deriving DecidableEq
def z30 : Stmt := ⟨(0 : Int), (⟨#[]⟩ : ByteArray), (⟨#[]⟩ : ByteArray), (⟨#[]⟩ : ByteArray), (⟨#[]⟩ : ByteArray), (0 : Int), (0 : Int), (0 : Int)⟩
def k30 : Kd Stmt := Kd.iso (Kd.pair (Kd.int .i64) (Kd.pair Kd.string (Kd.pair Kd.string (Kd.pair Kd.string (Kd.pair Kd.string (Kd.pair (Kd.int .i64) (Kd.pair (Kd.int .i64) (Kd.int .i64)))))))) (fun x : Stmt => (x.kind, x.x, x.y, x.z, x.op, x.n, x.a, x.b))
theorem k30_heap : Kd.Heap k30 := Kd.heap_iso _ (Kd.heap_pair (Kd.heap_int .i64) (Kd.heap_pair Kd.heap_string (Kd.heap_pair Kd.heap_string (Kd.heap_pair Kd.heap_string (Kd.heap_pair Kd.heap_string (Kd.heap_pair (Kd.heap_int .i64) (Kd.heap_pair (Kd.heap_int .i64) (Kd.heap_int .i64))))))))
theorem k30_open {w : World} {x : Stmt} {cs : List Value} (h : k30.K w x cs) : cs = [.int .i64 x.kind, .string x.x, .string x.y, .string x.z, .string x.op, .int .i64 x.n, .int .i64 x.a, .int .i64 x.b] := by
 obtain ⟨_, _, rfl, rfl, ⟨_, _, rfl, rfl, ⟨_, _, rfl, rfl, ⟨_, _, rfl, rfl, ⟨_, _, rfl, rfl, ⟨_, _, rfl, rfl, ⟨_, _, rfl, rfl, rfl⟩⟩⟩⟩⟩⟩⟩ := h
 exact rfl
theorem k30_openM {w : World} {base : Nat} {ok : Nat → Prop} {x : Stmt} {cs : List Value} (h : k30.M w base ok x cs) : cs = [.int .i64 x.kind, .string x.x, .string x.y, .string x.z, .string x.op, .int .i64 x.n, .int .i64 x.a, .int .i64 x.b] := by
 obtain ⟨_, _, rfl, rfl, ⟨_, _, rfl, rfl, ⟨_, _, rfl, rfl, ⟨_, _, rfl, rfl, ⟨_, _, rfl, rfl, ⟨_, _, rfl, rfl, ⟨_, _, rfl, rfl, rfl⟩⟩⟩⟩⟩⟩⟩ := h
 exact rfl
theorem k30_mk (w : World) (x : Stmt)  : k30.K w x [.int .i64 x.kind, .string x.x, .string x.y, .string x.z, .string x.op, .int .i64 x.n, .int .i64 x.a, .int .i64 x.b] := ⟨[.int .i64 x.kind], [.string x.x, .string x.y, .string x.z, .string x.op, .int .i64 x.n, .int .i64 x.a, .int .i64 x.b], rfl, rfl, ⟨[.string x.x], [.string x.y, .string x.z, .string x.op, .int .i64 x.n, .int .i64 x.a, .int .i64 x.b], rfl, rfl, ⟨[.string x.y], [.string x.z, .string x.op, .int .i64 x.n, .int .i64 x.a, .int .i64 x.b], rfl, rfl, ⟨[.string x.z], [.string x.op, .int .i64 x.n, .int .i64 x.a, .int .i64 x.b], rfl, rfl, ⟨[.string x.op], [.int .i64 x.n, .int .i64 x.a, .int .i64 x.b], rfl, rfl, ⟨[.int .i64 x.n], [.int .i64 x.a, .int .i64 x.b], rfl, rfl, ⟨[.int .i64 x.a], [.int .i64 x.b], rfl, rfl, rfl⟩⟩⟩⟩⟩⟩⟩
theorem k30_mkM (w : World) (base : Nat) (ok : Nat → Prop) (x : Stmt)  : k30.M w base ok x [.int .i64 x.kind, .string x.x, .string x.y, .string x.z, .string x.op, .int .i64 x.n, .int .i64 x.a, .int .i64 x.b] := ⟨[.int .i64 x.kind], [.string x.x, .string x.y, .string x.z, .string x.op, .int .i64 x.n, .int .i64 x.a, .int .i64 x.b], rfl, rfl, ⟨[.string x.x], [.string x.y, .string x.z, .string x.op, .int .i64 x.n, .int .i64 x.a, .int .i64 x.b], rfl, rfl, ⟨[.string x.y], [.string x.z, .string x.op, .int .i64 x.n, .int .i64 x.a, .int .i64 x.b], rfl, rfl, ⟨[.string x.z], [.string x.op, .int .i64 x.n, .int .i64 x.a, .int .i64 x.b], rfl, rfl, ⟨[.string x.op], [.int .i64 x.n, .int .i64 x.a, .int .i64 x.b], rfl, rfl, ⟨[.int .i64 x.n], [.int .i64 x.a, .int .i64 x.b], rfl, rfl, ⟨[.int .i64 x.a], [.int .i64 x.b], rfl, rfl, rfl⟩⟩⟩⟩⟩⟩⟩
theorem k30_mkF (W : World) (ok : Nat → Prop) (x : Stmt) : Kd.FK k30 W ok x [.int .i64 x.kind, .string x.x, .string x.y, .string x.z, .string x.op, .int .i64 x.n, .int .i64 x.a, .int .i64 x.b] := fun W2 _ => k30_mk W2 x
def rd_T30 (xs : List Stmt) (i : Int) : Stmt := xs.getD i.toNat z30
theorem at_T30 {w : World} {A : Option Addr} {n : Nat} {xs : List Stmt} (h : Kd.C k30 w A n xs) (i : Int) (h0 : 0 ≤ i) (h1 : i < n) : ∃ ad , A = some ad ∧ w.cell? (ad.add (i.toNat * 8)) = some (.int .i64 (rd_T30 xs i).kind) ∧ w.cell? ⟨(ad.add (i.toNat * 8)).block, (ad.add (i.toNat * 8)).off + 1, none⟩ = some (.string (rd_T30 xs i).x) ∧ w.cell? ⟨(ad.add (i.toNat * 8)).block, (ad.add (i.toNat * 8)).off + 2, none⟩ = some (.string (rd_T30 xs i).y) ∧ w.cell? ⟨(ad.add (i.toNat * 8)).block, (ad.add (i.toNat * 8)).off + 3, none⟩ = some (.string (rd_T30 xs i).z) ∧ w.cell? ⟨(ad.add (i.toNat * 8)).block, (ad.add (i.toNat * 8)).off + 4, none⟩ = some (.string (rd_T30 xs i).op) ∧ w.cell? ⟨(ad.add (i.toNat * 8)).block, (ad.add (i.toNat * 8)).off + 5, none⟩ = some (.int .i64 (rd_T30 xs i).n) ∧ w.cell? ⟨(ad.add (i.toNat * 8)).block, (ad.add (i.toNat * 8)).off + 6, none⟩ = some (.int .i64 (rd_T30 xs i).a) ∧ w.cell? ⟨(ad.add (i.toNat * 8)).block, (ad.add (i.toNat * 8)).off + 7, none⟩ = some (.int .i64 (rd_T30 xs i).b) := by
 obtain ⟨ad, c, e, _, hK, hc0⟩ := Kd.C_get h z30 i h0 h1
 have hc : ∀ j u, c[j]? = some u → w.cell? (ad.add (i.toNat * 8 + j)) = some u := hc0
 obtain rfl := k30_open hK
 exact ⟨ad, e, hc 0 _ rfl, by rw [← add_field _ _ 1 (by omega)]; exact hc 1 _ rfl, by rw [← add_field _ _ 2 (by omega)]; exact hc 2 _ rfl, by rw [← add_field _ _ 3 (by omega)]; exact hc 3 _ rfl, by rw [← add_field _ _ 4 (by omega)]; exact hc 4 _ rfl, by rw [← add_field _ _ 5 (by omega)]; exact hc 5 _ rfl, by rw [← add_field _ _ 6 (by omega)]; exact hc 6 _ rfl, by rw [← add_field _ _ 7 (by omega)]; exact hc 7 _ rfl⟩
def rd_L3 (xs : List (List Stmt)) (i : Int) : (List Stmt) := xs.getD i.toNat ([] : List Stmt)
theorem at_L3 {w : World} {A : Option Addr} {n : Nat} {xs : List (List Stmt)} (h : Kd.C (Kd.slice 30 k30) w A n xs) (i : Int) (h0 : 0 ≤ i) (h1 : i < n) : ∃ ad A0 c0, A = some ad ∧ w.cell? (ad.add i.toNat) = some (.slice A0 (rd_L3 xs i).length c0) ∧ (rd_L3 xs i).length ≤ c0 ∧ k30.C w A0 (rd_L3 xs i).length (rd_L3 xs i) := by
 obtain ⟨ad, c, e, _, hK, hc0⟩ := Kd.C_get h ([] : List Stmt) i h0 h1
 have hc : ∀ j u, c[j]? = some u → w.cell? (ad.add (i.toNat * 1 + j)) = some u := hc0
 obtain ⟨A0, c0, rfl, l0, g0⟩ := hK
 exact ⟨ad, A0, c0, e, by have hq := hc 0 _ rfl; rwa [Nat.mul_one, Nat.add_zero] at hq, l0, g0⟩
def rd_L4 (xs : List (List Int)) (i : Int) : (List Int) := xs.getD i.toNat ([] : List Int)
theorem at_L4 {w : World} {A : Option Addr} {n : Nat} {xs : List (List Int)} (h : Kd.C (Kd.slice 2 (Kd.int .i64)) w A n xs) (i : Int) (h0 : 0 ≤ i) (h1 : i < n) : ∃ ad A0 c0, A = some ad ∧ w.cell? (ad.add i.toNat) = some (.slice A0 (rd_L4 xs i).length c0) ∧ (rd_L4 xs i).length ≤ c0 ∧ (Kd.int .i64).C w A0 (rd_L4 xs i).length (rd_L4 xs i) := by
 obtain ⟨ad, c, e, _, hK, hc0⟩ := Kd.C_get h ([] : List Int) i h0 h1
 have hc : ∀ j u, c[j]? = some u → w.cell? (ad.add (i.toNat * 1 + j)) = some u := hc0
 obtain ⟨A0, c0, rfl, l0, g0⟩ := hK
 exact ⟨ad, A0, c0, e, by have hq := hc 0 _ rfl; rwa [Nat.mul_one, Nat.add_zero] at hq, l0, g0⟩
def rd_L6 (xs : List (List Bool)) (i : Int) : (List Bool) := xs.getD i.toNat ([] : List Bool)
theorem at_L6 {w : World} {A : Option Addr} {n : Nat} {xs : List (List Bool)} (h : Kd.C (Kd.slice 4 Kd.bool) w A n xs) (i : Int) (h0 : 0 ≤ i) (h1 : i < n) : ∃ ad A0 c0, A = some ad ∧ w.cell? (ad.add i.toNat) = some (.slice A0 (rd_L6 xs i).length c0) ∧ (rd_L6 xs i).length ≤ c0 ∧ Kd.bool.C w A0 (rd_L6 xs i).length (rd_L6 xs i) := by
 obtain ⟨ad, c, e, _, hK, hc0⟩ := Kd.C_get h ([] : List Bool) i h0 h1
 have hc : ∀ j u, c[j]? = some u → w.cell? (ad.add (i.toNat * 1 + j)) = some u := hc0
 obtain ⟨A0, c0, rfl, l0, g0⟩ := hK
 exact ⟨ad, A0, c0, e, by have hq := hc 0 _ rfl; rwa [Nat.mul_one, Nat.add_zero] at hq, l0, g0⟩
/-! #### struct type 43 -/
structure Script where
 l : (List Stmt)
 ins : (List Int)
 ora : (List Bool)
 most : Int
deriving DecidableEq
def z43 : Script := ⟨([] : List Stmt), ([] : List Int), ([] : List Bool), (0 : Int)⟩
def k43 : Kd Script := Kd.iso (Kd.pair (Kd.slice 30 k30) (Kd.pair (Kd.slice 2 (Kd.int .i64)) (Kd.pair (Kd.slice 4 Kd.bool) (Kd.int .i64)))) (fun x : Script => (x.l, x.ins, x.ora, x.most))
theorem k43_heap : Kd.Heap k43 := Kd.heap_iso _ (Kd.heap_pair (Kd.heap_slice 30 k30_heap) (Kd.heap_pair (Kd.heap_slice 2 (Kd.heap_int .i64)) (Kd.heap_pair (Kd.heap_slice 4 Kd.heap_bool) (Kd.heap_int .i64))))
theorem k43_open {w : World} {x : Script} {cs : List Value} (h : k43.K w x cs) : ∃ A0 c0 A1 c1 A2 c2, cs = [.slice A0 x.l.length c0, .slice A1 x.ins.length c1, .slice A2 x.ora.length c2, .int .i64 x.most] ∧ x.l.length ≤ c0 ∧ k30.C w A0 x.l.length x.l ∧ x.ins.length ≤ c1 ∧ (Kd.int .i64).C w A1 x.ins.length x.ins ∧ x.ora.length ≤ c2 ∧ Kd.bool.C w A2 x.ora.length x.ora := by
 obtain ⟨_, _, rfl, ⟨A0, c0, rfl, l0, g0⟩, ⟨_, _, rfl, ⟨A1, c1, rfl, l1, g1⟩, ⟨_, _, rfl, ⟨A2, c2, rfl, l2, g2⟩, rfl⟩⟩⟩ := h
 exact ⟨A0, c0, A1, c1, A2, c2, rfl, l0, g0, l1, g1, l2, g2⟩
theorem k43_openM {w : World} {base : Nat} {ok : Nat → Prop} {x : Script} {cs : List Value} (h : k43.M w base ok x cs) : ∃ v0 v1 v2, cs = [v0, v1, v2, .int .i64 x.most] ∧ k30.R 30 w base ok v0 x.l ∧ (Kd.int .i64).R 2 w base ok v1 x.ins ∧ Kd.bool.R 4 w base ok v2 x.ora := by
 obtain ⟨_, _, rfl, ⟨v0, rfl, g0⟩, ⟨_, _, rfl, ⟨v1, rfl, g1⟩, ⟨_, _, rfl, ⟨v2, rfl, g2⟩, rfl⟩⟩⟩ := h
 exact ⟨v0, v1, v2, rfl, g0, g1, g2⟩
theorem k43_mk (w : World) (x : Script) {A0 : Option Addr} {c0 : Nat} (l0 : x.l.length ≤ c0) (g0 : k30.C w A0 x.l.length x.l) {A1 : Option Addr} {c1 : Nat} (l1 : x.ins.length ≤ c1) (g1 : (Kd.int .i64).C w A1 x.ins.length x.ins) {A2 : Option Addr} {c2 : Nat} (l2 : x.ora.length ≤ c2) (g2 : Kd.bool.C w A2 x.ora.length x.ora) : k43.K w x [.slice A0 x.l.length c0, .slice A1 x.ins.length c1, .slice A2 x.ora.length c2, .int .i64 x.most] := ⟨[.slice A0 x.l.length c0], [.slice A1 x.ins.length c1, .slice A2 x.ora.length c2, .int .i64 x.most], rfl, ⟨A0, c0, rfl, l0, g0⟩, ⟨[.slice A1 x.ins.length c1], [.slice A2 x.ora.length c2, .int .i64 x.most], rfl, ⟨A1, c1, rfl, l1, g1⟩, ⟨[.slice A2 x.ora.length c2], [.int .i64 x.most], rfl, ⟨A2, c2, rfl, l2, g2⟩, rfl⟩⟩⟩
theorem k43_mkM (w : World) (base : Nat) (ok : Nat → Prop) (x : Script) {v0 : Value} (g0 : k30.R 30 w base ok v0 x.l) {v1 : Value} (g1 : (Kd.int .i64).R 2 w base ok v1 x.ins) {v2 : Value} (g2 : Kd.bool.R 4 w base ok v2 x.ora) : k43.M w base ok x [v0, v1, v2, .int .i64 x.most] := ⟨[v0], [v1, v2, .int .i64 x.most], rfl, ⟨v0, rfl, g0⟩, ⟨[v1], [v2, .int .i64 x.most], rfl, ⟨v1, rfl, g1⟩, ⟨[v2], [.int .i64 x.most], rfl, ⟨v2, rfl, g2⟩, rfl⟩⟩⟩
theorem k43_openF {W : World} {ok : Nat → Prop} {x : Script} {cs : List Value} (h : Kd.FK k43 W ok x cs) : ∃ A0 c0 A1 c1 A2 c2, cs = [.slice A0 x.l.length c0, .slice A1 x.ins.length c1, .slice A2 x.ora.length c2, .int .i64 x.most] ∧ x.l.length ≤ c0 ∧ Kd.F k30 W ok A0 x.l.length x.l ∧ x.ins.length ≤ c1 ∧ Kd.F (Kd.int .i64) W ok A1 x.ins.length x.ins ∧ x.ora.length ≤ c2 ∧ Kd.F Kd.bool W ok A2 x.ora.length x.ora := by
 obtain ⟨A0, c0, A1, c1, A2, c2, rfl, l0, _, l1, _, l2, _⟩ := k43_open (Kd.FK_now h)
 exact ⟨A0, c0, A1, c1, A2, c2, rfl, l0, (fun W' hW => by obtain ⟨A0_, c0_, A1_, c1_, A2_, c2_, he, l0_, g0_, l1_, g1_, l2_, g2_⟩ := k43_open (h W' hW); injection (Option.some.inj (show some (Value.slice A0 x.l.length c0) = some (Value.slice A0_ x.l.length c0_) from congrArg (fun l => l[0]?) he)) with ha_ _ _; rw [ha_]; exact g0_), l1, (fun W' hW => by obtain ⟨A0_, c0_, A1_, c1_, A2_, c2_, he, l0_, g0_, l1_, g1_, l2_, g2_⟩ := k43_open (h W' hW); injection (Option.some.inj (show some (Value.slice A1 x.ins.length c1) = some (Value.slice A1_ x.ins.length c1_) from congrArg (fun l => l[1]?) he)) with ha_ _ _; rw [ha_]; exact g1_), l2, (fun W' hW => by obtain ⟨A0_, c0_, A1_, c1_, A2_, c2_, he, l0_, g0_, l1_, g1_, l2_, g2_⟩ := k43_open (h W' hW); injection (Option.some.inj (show some (Value.slice A2 x.ora.length c2) = some (Value.slice A2_ x.ora.length c2_) from congrArg (fun l => l[2]?) he)) with ha_ _ _; rw [ha_]; exact g2_)⟩
theorem k43_mkF (W : World) (ok : Nat → Prop) (x : Script) {A0 : Option Addr} {c0 : Nat} (l0 : x.l.length ≤ c0) (g0 : Kd.F k30 W ok A0 x.l.length x.l) {A1 : Option Addr} {c1 : Nat} (l1 : x.ins.length ≤ c1) (g1 : Kd.F (Kd.int .i64) W ok A1 x.ins.length x.ins) {A2 : Option Addr} {c2 : Nat} (l2 : x.ora.length ≤ c2) (g2 : Kd.F Kd.bool W ok A2 x.ora.length x.ora) : Kd.FK k43 W ok x [.slice A0 x.l.length c0, .slice A1 x.ins.length c1, .slice A2 x.ora.length c2, .int .i64 x.most] := fun W2 hW => k43_mk W2 x l0 (g0 W2 hW) l1 (g1 W2 hW) l2 (g2 W2 hW)
def rd_T43 (xs : List Script) (i : Int) : Script := xs.getD i.toNat z43
theorem at_T43 {w : World} {A : Option Addr} {n : Nat} {xs : List Script} (h : Kd.C k43 w A n xs) (i : Int) (h0 : 0 ≤ i) (h1 : i < n) : ∃ ad A0 c0 A1 c1 A2 c2, A = some ad ∧ w.cell? (ad.add (i.toNat * 4)) = some (.slice A0 (rd_T43 xs i).l.length c0) ∧ w.cell? ⟨(ad.add (i.toNat * 4)).block, (ad.add (i.toNat * 4)).off + 1, none⟩ = some (.slice A1 (rd_T43 xs i).ins.length c1) ∧ w.cell? ⟨(ad.add (i.toNat * 4)).block, (ad.add (i.toNat * 4)).off + 2, none⟩ = some (.slice A2 (rd_T43 xs i).ora.length c2) ∧ w.cell? ⟨(ad.add (i.toNat * 4)).block, (ad.add (i.toNat * 4)).off + 3, none⟩ = some (.int .i64 (rd_T43 xs i).most) ∧ (rd_T43 xs i).l.length ≤ c0 ∧ k30.C w A0 (rd_T43 xs i).l.length (rd_T43 xs i).l ∧ (rd_T43 xs i).ins.length ≤ c1 ∧ (Kd.int .i64).C w A1 (rd_T43 xs i).ins.length (rd_T43 xs i).ins ∧ (rd_T43 xs i).ora.length ≤ c2 ∧ Kd.bool.C w A2 (rd_T43 xs i).ora.length (rd_T43 xs i).ora := by
 obtain ⟨ad, c, e, _, hK, hc0⟩ := Kd.C_get h z43 i h0 h1
 have hc : ∀ j u, c[j]? = some u → w.cell? (ad.add (i.toNat * 4 + j)) = some u := hc0
 obtain ⟨A0, c0, A1, c1, A2, c2, rfl, l0, g0, l1, g1, l2, g2⟩ := k43_open hK
 exact ⟨ad, A0, c0, A1, c1, A2, c2, e, hc 0 _ rfl, by rw [← add_field _ _ 1 (by omega)]; exact hc 1 _ rfl, by rw [← add_field _ _ 2 (by omega)]; exact hc 2 _ rfl, by rw [← add_field _ _ 3 (by omega)]; exact hc 3 _ rfl, l0, g0, l1, g1, l2, g2⟩
/-! #### struct type 54 -/
structure Var where
 name : ByteArray
 n : Int
 last : Int
 taint : Bool
deriving DecidableEq
def z54 : Var := ⟨(⟨#[]⟩ : ByteArray), (0 : Int), (0 : Int), false⟩
def k54 : Kd Var := Kd.iso (Kd.pair Kd.string (Kd.pair (Kd.int .i64) (Kd.pair (Kd.int .i64) Kd.bool))) (fun x : Var => (x.name, x.n, x.last, x.taint))
theorem k54_heap : Kd.Heap k54 := Kd.heap_iso _ (Kd.heap_pair Kd.heap_string (Kd.heap_pair (Kd.heap_int .i64) (Kd.heap_pair (Kd.heap_int .i64) Kd.heap_bool)))
theorem k54_open {w : World} {x : Var} {cs : List Value} (h : k54.K w x cs) : cs = [.string x.name, .int .i64 x.n, .int .i64 x.last, .bool x.taint] := by
 obtain ⟨_, _, rfl, rfl, ⟨_, _, rfl, rfl, ⟨_, _, rfl, rfl, rfl⟩⟩⟩ := h
 exact rfl
theorem k54_openM {w : World} {base : Nat} {ok : Nat → Prop} {x : Var} {cs : List Value} (h : k54.M w base ok x cs) : cs = [.string x.name, .int .i64 x.n, .int .i64 x.last, .bool x.taint] := by
 obtain ⟨_, _, rfl, rfl, ⟨_, _, rfl, rfl, ⟨_, _, rfl, rfl, rfl⟩⟩⟩ := h
 exact rfl
theorem k54_mk (w : World) (x : Var)  : k54.K w x [.string x.name, .int .i64 x.n, .int .i64 x.last, .bool x.taint] := ⟨[.string x.name], [.int .i64 x.n, .int .i64 x.last, .bool x.taint], rfl, rfl, ⟨[.int .i64 x.n], [.int .i64 x.last, .bool x.taint], rfl, rfl, ⟨[.int .i64 x.last], [.bool x.taint], rfl, rfl, rfl⟩⟩⟩
theorem k54_mkM (w : World) (base : Nat) (ok : Nat → Prop) (x : Var)  : k54.M w base ok x [.string x.name, .int .i64 x.n, .int .i64 x.last, .bool x.taint] := ⟨[.string x.name], [.int .i64 x.n, .int .i64 x.last, .bool x.taint], rfl, rfl, ⟨[.int .i64 x.n], [.int .i64 x.last, .bool x.taint], rfl, rfl, ⟨[.int .i64 x.last], [.bool x.taint], rfl, rfl, rfl⟩⟩⟩
theorem k54_mkF (W : World) (ok : Nat → Prop) (x : Var) : Kd.FK k54 W ok x [.string x.name, .int .i64 x.n, .int .i64 x.last, .bool x.taint] := fun W2 _ => k54_mk W2 x
def rd_T54 (xs : List Var) (i : Int) : Var := xs.getD i.toNat z54
theorem at_T54 {w : World} {A : Option Addr} {n : Nat} {xs : List Var} (h : Kd.C k54 w A n xs) (i : Int) (h0 : 0 ≤ i) (h1 : i < n) : ∃ ad , A = some ad ∧ w.cell? (ad.add (i.toNat * 4)) = some (.string (rd_T54 xs i).name) ∧ w.cell? ⟨(ad.add (i.toNat * 4)).block, (ad.add (i.toNat * 4)).off + 1, none⟩ = some (.int .i64 (rd_T54 xs i).n) ∧ w.cell? ⟨(ad.add (i.toNat * 4)).block, (ad.add (i.toNat * 4)).off + 2, none⟩ = some (.int .i64 (rd_T54 xs i).last) ∧ w.cell? ⟨(ad.add (i.toNat * 4)).block, (ad.add (i.toNat * 4)).off + 3, none⟩ = some (.bool (rd_T54 xs i).taint) := by
 obtain ⟨ad, c, e, _, hK, hc0⟩ := Kd.C_get h z54 i h0 h1
 have hc : ∀ j u, c[j]? = some u → w.cell? (ad.add (i.toNat * 4 + j)) = some u := hc0
 obtain rfl := k54_open hK
 exact ⟨ad, e, hc 0 _ rfl, by rw [← add_field _ _ 1 (by omega)]; exact hc 1 _ rfl, by rw [← add_field _ _ 2 (by omega)]; exact hc 2 _ rfl, by rw [← add_field _ _ 3 (by omega)]; exact hc 3 _ rfl⟩
def rd_L9 (xs : List (List Var)) (i : Int) : (List Var) := xs.getD i.toNat ([] : List Var)
theorem at_L9 {w : World} {A : Option Addr} {n : Nat} {xs : List (List Var)} (h : Kd.C (Kd.slice 54 k54) w A n xs) (i : Int) (h0 : 0 ≤ i) (h1 : i < n) : ∃ ad A0 c0, A = some ad ∧ w.cell? (ad.add i.toNat) = some (.slice A0 (rd_L9 xs i).length c0) ∧ (rd_L9 xs i).length ≤ c0 ∧ k54.C w A0 (rd_L9 xs i).length (rd_L9 xs i) := by
 obtain ⟨ad, c, e, _, hK, hc0⟩ := Kd.C_get h ([] : List Var) i h0 h1
 have hc : ∀ j u, c[j]? = some u → w.cell? (ad.add (i.toNat * 1 + j)) = some u := hc0
 obtain ⟨A0, c0, rfl, l0, g0⟩ := hK
 exact ⟨ad, A0, c0, e, by have hq := hc 0 _ rfl; rwa [Nat.mul_one, Nat.add_zero] at hq, l0, g0⟩
/-! #### struct type 52 -/
structure Visit where
 place : Int
 vars : (List Var)
deriving DecidableEq
def z52 : Visit := ⟨(0 : Int), ([] : List Var)⟩
def k52 : Kd Visit := Kd.iso (Kd.pair (Kd.int .i64) (Kd.slice 54 k54)) (fun x : Visit => (x.place, x.vars))
theorem k52_heap : Kd.Heap k52 := Kd.heap_iso _ (Kd.heap_pair (Kd.heap_int .i64) (Kd.heap_slice 54 k54_heap))
theorem k52_open {w : World} {x : Visit} {cs : List Value} (h : k52.K w x cs) : ∃ A1 c1, cs = [.int .i64 x.place, .slice A1 x.vars.length c1] ∧ x.vars.length ≤ c1 ∧ k54.C w A1 x.vars.length x.vars := by
 obtain ⟨_, _, rfl, rfl, ⟨A1, c1, rfl, l1, g1⟩⟩ := h
 exact ⟨A1, c1, rfl, l1, g1⟩
theorem k52_openM {w : World} {base : Nat} {ok : Nat → Prop} {x : Visit} {cs : List Value} (h : k52.M w base ok x cs) : ∃ v1, cs = [.int .i64 x.place, v1] ∧ k54.R 54 w base ok v1 x.vars := by
 obtain ⟨_, _, rfl, rfl, ⟨v1, rfl, g1⟩⟩ := h
 exact ⟨v1, rfl, g1⟩
theorem k52_mk (w : World) (x : Visit) {A1 : Option Addr} {c1 : Nat} (l1 : x.vars.length ≤ c1) (g1 : k54.C w A1 x.vars.length x.vars) : k52.K w x [.int .i64 x.place, .slice A1 x.vars.length c1] := ⟨[.int .i64 x.place], [.slice A1 x.vars.length c1], rfl, rfl, ⟨A1, c1, rfl, l1, g1⟩⟩
theorem k52_mkM (w : World) (base : Nat) (ok : Nat → Prop) (x : Visit) {v1 : Value} (g1 : k54.R 54 w base ok v1 x.vars) : k52.M w base ok x [.int .i64 x.place, v1] := ⟨[.int .i64 x.place], [v1], rfl, rfl, ⟨v1, rfl, g1⟩⟩
theorem k52_openF {W : World} {ok : Nat → Prop} {x : Visit} {cs : List Value} (h : Kd.FK k52 W ok x cs) : ∃ A1 c1, cs = [.int .i64 x.place, .slice A1 x.vars.length c1] ∧ x.vars.length ≤ c1 ∧ Kd.F k54 W ok A1 x.vars.length x.vars := by
 obtain ⟨A1, c1, rfl, l1, _⟩ := k52_open (Kd.FK_now h)
 exact ⟨A1, c1, rfl, l1, (fun W' hW => by obtain ⟨A1_, c1_, he, l1_, g1_⟩ := k52_open (h W' hW); injection (Option.some.inj (show some (Value.slice A1 x.vars.length c1) = some (Value.slice A1_ x.vars.length c1_) from congrArg (fun l => l[1]?) he)) with ha_ _ _; rw [ha_]; exact g1_)⟩
theorem k52_mkF (W : World) (ok : Nat → Prop) (x : Visit) {A1 : Option Addr} {c1 : Nat} (l1 : x.vars.length ≤ c1) (g1 : Kd.F k54 W ok A1 x.vars.length x.vars) : Kd.FK k52 W ok x [.int .i64 x.place, .slice A1 x.vars.length c1] := fun W2 hW => k52_mk W2 x l1 (g1 W2 hW)
def rd_T52 (xs : List Visit) (i : Int) : Visit := xs.getD i.toNat z52
theorem at_T52 {w : World} {A : Option Addr} {n : Nat} {xs : List Visit} (h : Kd.C k52 w A n xs) (i : Int) (h0 : 0 ≤ i) (h1 : i < n) : ∃ ad A1 c1, A = some ad ∧ w.cell? (ad.add (i.toNat * 2)) = some (.int .i64 (rd_T52 xs i).place) ∧ w.cell? ⟨(ad.add (i.toNat * 2)).block, (ad.add (i.toNat * 2)).off + 1, none⟩ = some (.slice A1 (rd_T52 xs i).vars.length c1) ∧ (rd_T52 xs i).vars.length ≤ c1 ∧ k54.C w A1 (rd_T52 xs i).vars.length (rd_T52 xs i).vars := by
 obtain ⟨ad, c, e, _, hK, hc0⟩ := Kd.C_get h z52 i h0 h1
 have hc : ∀ j u, c[j]? = some u → w.cell? (ad.add (i.toNat * 2 + j)) = some u := hc0
 obtain ⟨A1, c1, rfl, l1, g1⟩ := k52_open hK
 exact ⟨ad, A1, c1, e, hc 0 _ rfl, by rw [← add_field _ _ 1 (by omega)]; exact hc 1 _ rfl, l1, g1⟩
/-! #### struct type 68 -/
structure RVar where
 name : ByteArray
 n : Int
 last : Int
 taint : Bool
deriving DecidableEq
def z68 : RVar := ⟨(⟨#[]⟩ : ByteArray), (0 : Int), (0 : Int), false⟩
def k68 : Kd RVar := Kd.iso (Kd.pair Kd.string (Kd.pair (Kd.int .i64) (Kd.pair (Kd.int .i64) Kd.bool))) (fun x : RVar => (x.name, x.n, x.last, x.taint))
theorem k68_heap : Kd.Heap k68 := Kd.heap_iso _ (Kd.heap_pair Kd.heap_string (Kd.heap_pair (Kd.heap_int .i64) (Kd.heap_pair (Kd.heap_int .i64) Kd.heap_bool)))
theorem k68_open {w : World} {x : RVar} {cs : List Value} (h : k68.K w x cs) : cs = [.string x.name, .int .i64 x.n, .int .i64 x.last, .bool x.taint] := by
 obtain ⟨_, _, rfl, rfl, ⟨_, _, rfl, rfl, ⟨_, _, rfl, rfl, rfl⟩⟩⟩ := h
 exact rfl
theorem k68_openM {w : World} {base : Nat} {ok : Nat → Prop} {x : RVar} {cs : List Value} (h : k68.M w base ok x cs) : cs = [.string x.name, .int .i64 x.n, .int .i64 x.last, .bool x.taint] := by
 obtain ⟨_, _, rfl, rfl, ⟨_, _, rfl, rfl, ⟨_, _, rfl, rfl, rfl⟩⟩⟩ := h
 exact rfl
theorem k68_mk (w : World) (x : RVar)  : k68.K w x [.string x.name, .int .i64 x.n, .int .i64 x.last, .bool x.taint] := ⟨[.string x.name], [.int .i64 x.n, .int .i64 x.last, .bool x.taint], rfl, rfl, ⟨[.int .i64 x.n], [.int .i64 x.last, .bool x.taint], rfl, rfl, ⟨[.int .i64 x.last], [.bool x.taint], rfl, rfl, rfl⟩⟩⟩
theorem k68_mkM (w : World) (base : Nat) (ok : Nat → Prop) (x : RVar)  : k68.M w base ok x [.string x.name, .int .i64 x.n, .int .i64 x.last, .bool x.taint] := ⟨[.string x.name], [.int .i64 x.n, .int .i64 x.last, .bool x.taint], rfl, rfl, ⟨[.int .i64 x.n], [.int .i64 x.last, .bool x.taint], rfl, rfl, ⟨[.int .i64 x.last], [.bool x.taint], rfl, rfl, rfl⟩⟩⟩
theorem k68_mkF (W : World) (ok : Nat → Prop) (x : RVar) : Kd.FK k68 W ok x [.string x.name, .int .i64 x.n, .int .i64 x.last, .bool x.taint] := fun W2 _ => k68_mk W2 x
def rd_T68 (xs : List RVar) (i : Int) : RVar := xs.getD i.toNat z68
theorem at_T68 {w : World} {A : Option Addr} {n : Nat} {xs : List RVar} (h : Kd.C k68 w A n xs) (i : Int) (h0 : 0 ≤ i) (h1 : i < n) : ∃ ad , A = some ad ∧ w.cell? (ad.add (i.toNat * 4)) = some (.string (rd_T68 xs i).name) ∧ w.cell? ⟨(ad.add (i.toNat * 4)).block, (ad.add (i.toNat * 4)).off + 1, none⟩ = some (.int .i64 (rd_T68 xs i).n) ∧ w.cell? ⟨(ad.add (i.toNat * 4)).block, (ad.add (i.toNat * 4)).off + 2, none⟩ = some (.int .i64 (rd_T68 xs i).last) ∧ w.cell? ⟨(ad.add (i.toNat * 4)).block, (ad.add (i.toNat * 4)).off + 3, none⟩ = some (.bool (rd_T68 xs i).taint) := by
 obtain ⟨ad, c, e, _, hK, hc0⟩ := Kd.C_get h z68 i h0 h1
 have hc : ∀ j u, c[j]? = some u → w.cell? (ad.add (i.toNat * 4 + j)) = some u := hc0
 obtain rfl := k68_open hK
 exact ⟨ad, e, hc 0 _ rfl, by rw [← add_field _ _ 1 (by omega)]; exact hc 1 _ rfl, by rw [← add_field _ _ 2 (by omega)]; exact hc 2 _ rfl, by rw [← add_field _ _ 3 (by omega)]; exact hc 3 _ rfl⟩
def rd_L12 (xs : List (List RVar)) (i : Int) : (List RVar) := xs.getD i.toNat ([] : List RVar)
theorem at_L12 {w : World} {A : Option Addr} {n : Nat} {xs : List (List RVar)} (h : Kd.C (Kd.slice 68 k68) w A n xs) (i : Int) (h0 : 0 ≤ i) (h1 : i < n) : ∃ ad A0 c0, A = some ad ∧ w.cell? (ad.add i.toNat) = some (.slice A0 (rd_L12 xs i).length c0) ∧ (rd_L12 xs i).length ≤ c0 ∧ k68.C w A0 (rd_L12 xs i).length (rd_L12 xs i) := by
 obtain ⟨ad, c, e, _, hK, hc0⟩ := Kd.C_get h ([] : List RVar) i h0 h1
 have hc : ∀ j u, c[j]? = some u → w.cell? (ad.add (i.toNat * 1 + j)) = some u := hc0
 obtain ⟨A0, c0, rfl, l0, g0⟩ := hK
 exact ⟨ad, A0, c0, e, by have hq := hc 0 _ rfl; rwa [Nat.mul_one, Nat.add_zero] at hq, l0, g0⟩
/-! #### struct type 67 -/
structure RVisit where
 place : Int
 vars : (List RVar)
deriving DecidableEq
def z67 : RVisit := ⟨(0 : Int), ([] : List RVar)⟩
def k67 : Kd RVisit := Kd.iso (Kd.pair (Kd.int .i64) (Kd.slice 68 k68)) (fun x : RVisit => (x.place, x.vars))
theorem k67_heap : Kd.Heap k67 := Kd.heap_iso _ (Kd.heap_pair (Kd.heap_int .i64) (Kd.heap_slice 68 k68_heap))
theorem k67_open {w : World} {x : RVisit} {cs : List Value} (h : k67.K w x cs) : ∃ A1 c1, cs = [.int .i64 x.place, .slice A1 x.vars.length c1] ∧ x.vars.length ≤ c1 ∧ k68.C w A1 x.vars.length x.vars := by
 obtain ⟨_, _, rfl, rfl, ⟨A1, c1, rfl, l1, g1⟩⟩ := h
 exact ⟨A1, c1, rfl, l1, g1⟩
theorem k67_openM {w : World} {base : Nat} {ok : Nat → Prop} {x : RVisit} {cs : List Value} (h : k67.M w base ok x cs) : ∃ v1, cs = [.int .i64 x.place, v1] ∧ k68.R 68 w base ok v1 x.vars := by
 obtain ⟨_, _, rfl, rfl, ⟨v1, rfl, g1⟩⟩ := h
 exact ⟨v1, rfl, g1⟩
theorem k67_mk (w : World) (x : RVisit) {A1 : Option Addr} {c1 : Nat} (l1 : x.vars.length ≤ c1) (g1 : k68.C w A1 x.vars.length x.vars) : k67.K w x [.int .i64 x.place, .slice A1 x.vars.length c1] := ⟨[.int .i64 x.place], [.slice A1 x.vars.length c1], rfl, rfl, ⟨A1, c1, rfl, l1, g1⟩⟩
theorem k67_mkM (w : World) (base : Nat) (ok : Nat → Prop) (x : RVisit) {v1 : Value} (g1 : k68.R 68 w base ok v1 x.vars) : k67.M w base ok x [.int .i64 x.place, v1] := ⟨[.int .i64 x.place], [v1], rfl, rfl, ⟨v1, rfl, g1⟩⟩
theorem k67_openF {W : World} {ok : Nat → Prop} {x : RVisit} {cs : List Value} (h : Kd.FK k67 W ok x cs) : ∃ A1 c1, cs = [.int .i64 x.place, .slice A1 x.vars.length c1] ∧ x.vars.length ≤ c1 ∧ Kd.F k68 W ok A1 x.vars.length x.vars := by
 obtain ⟨A1, c1, rfl, l1, _⟩ := k67_open (Kd.FK_now h)
 exact ⟨A1, c1, rfl, l1, (fun W' hW => by obtain ⟨A1_, c1_, he, l1_, g1_⟩ := k67_open (h W' hW); injection (Option.some.inj (show some (Value.slice A1 x.vars.length c1) = some (Value.slice A1_ x.vars.length c1_) from congrArg (fun l => l[1]?) he)) with ha_ _ _; rw [ha_]; exact g1_)⟩
theorem k67_mkF (W : World) (ok : Nat → Prop) (x : RVisit) {A1 : Option Addr} {c1 : Nat} (l1 : x.vars.length ≤ c1) (g1 : Kd.F k68 W ok A1 x.vars.length x.vars) : Kd.FK k67 W ok x [.int .i64 x.place, .slice A1 x.vars.length c1] := fun W2 hW => k67_mk W2 x l1 (g1 W2 hW)
def rd_T67 (xs : List RVisit) (i : Int) : RVisit := xs.getD i.toNat z67
theorem at_T67 {w : World} {A : Option Addr} {n : Nat} {xs : List RVisit} (h : Kd.C k67 w A n xs) (i : Int) (h0 : 0 ≤ i) (h1 : i < n) : ∃ ad A1 c1, A = some ad ∧ w.cell? (ad.add (i.toNat * 2)) = some (.int .i64 (rd_T67 xs i).place) ∧ w.cell? ⟨(ad.add (i.toNat * 2)).block, (ad.add (i.toNat * 2)).off + 1, none⟩ = some (.slice A1 (rd_T67 xs i).vars.length c1) ∧ (rd_T67 xs i).vars.length ≤ c1 ∧ k68.C w A1 (rd_T67 xs i).vars.length (rd_T67 xs i).vars := by
 obtain ⟨ad, c, e, _, hK, hc0⟩ := Kd.C_get h z67 i h0 h1
 have hc : ∀ j u, c[j]? = some u → w.cell? (ad.add (i.toNat * 2 + j)) = some u := hc0
 obtain ⟨A1, c1, rfl, l1, g1⟩ := k67_open hK
 exact ⟨ad, A1, c1, e, hc 0 _ rfl, by rw [← add_field _ _ 1 (by omega)]; exact hc 1 _ rfl, l1, g1⟩
/-! #### struct type 77 -/
structure RState where
 place : Int
 vars : (List RVar)
 ins : (List Int)
 ora : (List Bool)
deriving DecidableEq
def z77 : RState := ⟨(0 : Int), ([] : List RVar), ([] : List Int), ([] : List Bool)⟩
def k77 : Kd RState := Kd.iso (Kd.pair (Kd.int .i64) (Kd.pair (Kd.slice 68 k68) (Kd.pair (Kd.slice 2 (Kd.int .i64)) (Kd.slice 4 Kd.bool)))) (fun x : RState => (x.place, x.vars, x.ins, x.ora))
theorem k77_heap : Kd.Heap k77 := Kd.heap_iso _ (Kd.heap_pair (Kd.heap_int .i64) (Kd.heap_pair (Kd.heap_slice 68 k68_heap) (Kd.heap_pair (Kd.heap_slice 2 (Kd.heap_int .i64)) (Kd.heap_slice 4 Kd.heap_bool))))
theorem k77_open {w : World} {x : RState} {cs : List Value} (h : k77.K w x cs) : ∃ A1 c1 A2 c2 A3 c3, cs = [.int .i64 x.place, .slice A1 x.vars.length c1, .slice A2 x.ins.length c2, .slice A3 x.ora.length c3] ∧ x.vars.length ≤ c1 ∧ k68.C w A1 x.vars.length x.vars ∧ x.ins.length ≤ c2 ∧ (Kd.int .i64).C w A2 x.ins.length x.ins ∧ x.ora.length ≤ c3 ∧ Kd.bool.C w A3 x.ora.length x.ora := by
 obtain ⟨_, _, rfl, rfl, ⟨_, _, rfl, ⟨A1, c1, rfl, l1, g1⟩, ⟨_, _, rfl, ⟨A2, c2, rfl, l2, g2⟩, ⟨A3, c3, rfl, l3, g3⟩⟩⟩⟩ := h
 exact ⟨A1, c1, A2, c2, A3, c3, rfl, l1, g1, l2, g2, l3, g3⟩
theorem k77_openM {w : World} {base : Nat} {ok : Nat → Prop} {x : RState} {cs : List Value} (h : k77.M w base ok x cs) : ∃ v1 v2 v3, cs = [.int .i64 x.place, v1, v2, v3] ∧ k68.R 68 w base ok v1 x.vars ∧ (Kd.int .i64).R 2 w base ok v2 x.ins ∧ Kd.bool.R 4 w base ok v3 x.ora := by
 obtain ⟨_, _, rfl, rfl, ⟨_, _, rfl, ⟨v1, rfl, g1⟩, ⟨_, _, rfl, ⟨v2, rfl, g2⟩, ⟨v3, rfl, g3⟩⟩⟩⟩ := h
 exact ⟨v1, v2, v3, rfl, g1, g2, g3⟩
theorem k77_mk (w : World) (x : RState) {A1 : Option Addr} {c1 : Nat} (l1 : x.vars.length ≤ c1) (g1 : k68.C w A1 x.vars.length x.vars) {A2 : Option Addr} {c2 : Nat} (l2 : x.ins.length ≤ c2) (g2 : (Kd.int .i64).C w A2 x.ins.length x.ins) {A3 : Option Addr} {c3 : Nat} (l3 : x.ora.length ≤ c3) (g3 : Kd.bool.C w A3 x.ora.length x.ora) : k77.K w x [.int .i64 x.place, .slice A1 x.vars.length c1, .slice A2 x.ins.length c2, .slice A3 x.ora.length c3] := ⟨[.int .i64 x.place], [.slice A1 x.vars.length c1, .slice A2 x.ins.length c2, .slice A3 x.ora.length c3], rfl, rfl, ⟨[.slice A1 x.vars.length c1], [.slice A2 x.ins.length c2, .slice A3 x.ora.length c3], rfl, ⟨A1, c1, rfl, l1, g1⟩, ⟨[.slice A2 x.ins.length c2], [.slice A3 x.ora.length c3], rfl, ⟨A2, c2, rfl, l2, g2⟩, ⟨A3, c3, rfl, l3, g3⟩⟩⟩⟩
theorem k77_mkM (w : World) (base : Nat) (ok : Nat → Prop) (x : RState) {v1 : Value} (g1 : k68.R 68 w base ok v1 x.vars) {v2 : Value} (g2 : (Kd.int .i64).R 2 w base ok v2 x.ins) {v3 : Value} (g3 : Kd.bool.R 4 w base ok v3 x.ora) : k77.M w base ok x [.int .i64 x.place, v1, v2, v3] := ⟨[.int .i64 x.place], [v1, v2, v3], rfl, rfl, ⟨[v1], [v2, v3], rfl, ⟨v1, rfl, g1⟩, ⟨[v2], [v3], rfl, ⟨v2, rfl, g2⟩, ⟨v3, rfl, g3⟩⟩⟩⟩
theorem k77_openF {W : World} {ok : Nat → Prop} {x : RState} {cs : List Value} (h : Kd.FK k77 W ok x cs) : ∃ A1 c1 A2 c2 A3 c3, cs = [.int .i64 x.place, .slice A1 x.vars.length c1, .slice A2 x.ins.length c2, .slice A3 x.ora.length c3] ∧ x.vars.length ≤ c1 ∧ Kd.F k68 W ok A1 x.vars.length x.vars ∧ x.ins.length ≤ c2 ∧ Kd.F (Kd.int .i64) W ok A2 x.ins.length x.ins ∧ x.ora.length ≤ c3 ∧ Kd.F Kd.bool W ok A3 x.ora.length x.ora := by
 obtain ⟨A1, c1, A2, c2, A3, c3, rfl, l1, _, l2, _, l3, _⟩ := k77_open (Kd.FK_now h)
 exact ⟨A1, c1, A2, c2, A3, c3, rfl, l1, (fun W' hW => by obtain ⟨A1_, c1_, A2_, c2_, A3_, c3_, he, l1_, g1_, l2_, g2_, l3_, g3_⟩ := k77_open (h W' hW); injection (Option.some.inj (show some (Value.slice A1 x.vars.length c1) = some (Value.slice A1_ x.vars.length c1_) from congrArg (fun l => l[1]?) he)) with ha_ _ _; rw [ha_]; exact g1_), l2, (fun W' hW => by obtain ⟨A1_, c1_, A2_, c2_, A3_, c3_, he, l1_, g1_, l2_, g2_, l3_, g3_⟩ := k77_open (h W' hW); injection (Option.some.inj (show some (Value.slice A2 x.ins.length c2) = some (Value.slice A2_ x.ins.length c2_) from congrArg (fun l => l[2]?) he)) with ha_ _ _; rw [ha_]; exact g2_), l3, (fun W' hW => by obtain ⟨A1_, c1_, A2_, c2_, A3_, c3_, he, l1_, g1_, l2_, g2_, l3_, g3_⟩ := k77_open (h W' hW); injection (Option.some.inj (show some (Value.slice A3 x.ora.length c3) = some (Value.slice A3_ x.ora.length c3_) from congrArg (fun l => l[3]?) he)) with ha_ _ _; rw [ha_]; exact g3_)⟩
theorem k77_mkF (W : World) (ok : Nat → Prop) (x : RState) {A1 : Option Addr} {c1 : Nat} (l1 : x.vars.length ≤ c1) (g1 : Kd.F k68 W ok A1 x.vars.length x.vars) {A2 : Option Addr} {c2 : Nat} (l2 : x.ins.length ≤ c2) (g2 : Kd.F (Kd.int .i64) W ok A2 x.ins.length x.ins) {A3 : Option Addr} {c3 : Nat} (l3 : x.ora.length ≤ c3) (g3 : Kd.F Kd.bool W ok A3 x.ora.length x.ora) : Kd.FK k77 W ok x [.int .i64 x.place, .slice A1 x.vars.length c1, .slice A2 x.ins.length c2, .slice A3 x.ora.length c3] := fun W2 hW => k77_mk W2 x l1 (g1 W2 hW) l2 (g2 W2 hW) l3 (g3 W2 hW)
def rd_T77 (xs : List RState) (i : Int) : RState := xs.getD i.toNat z77
theorem at_T77 {w : World} {A : Option Addr} {n : Nat} {xs : List RState} (h : Kd.C k77 w A n xs) (i : Int) (h0 : 0 ≤ i) (h1 : i < n) : ∃ ad A1 c1 A2 c2 A3 c3, A = some ad ∧ w.cell? (ad.add (i.toNat * 4)) = some (.int .i64 (rd_T77 xs i).place) ∧ w.cell? ⟨(ad.add (i.toNat * 4)).block, (ad.add (i.toNat * 4)).off + 1, none⟩ = some (.slice A1 (rd_T77 xs i).vars.length c1) ∧ w.cell? ⟨(ad.add (i.toNat * 4)).block, (ad.add (i.toNat * 4)).off + 2, none⟩ = some (.slice A2 (rd_T77 xs i).ins.length c2) ∧ w.cell? ⟨(ad.add (i.toNat * 4)).block, (ad.add (i.toNat * 4)).off + 3, none⟩ = some (.slice A3 (rd_T77 xs i).ora.length c3) ∧ (rd_T77 xs i).vars.length ≤ c1 ∧ k68.C w A1 (rd_T77 xs i).vars.length (rd_T77 xs i).vars ∧ (rd_T77 xs i).ins.length ≤ c2 ∧ (Kd.int .i64).C w A2 (rd_T77 xs i).ins.length (rd_T77 xs i).ins ∧ (rd_T77 xs i).ora.length ≤ c3 ∧ Kd.bool.C w A3 (rd_T77 xs i).ora.length (rd_T77 xs i).ora := by
 obtain ⟨ad, c, e, _, hK, hc0⟩ := Kd.C_get h z77 i h0 h1
 have hc : ∀ j u, c[j]? = some u → w.cell? (ad.add (i.toNat * 4 + j)) = some u := hc0
 obtain ⟨A1, c1, A2, c2, A3, c3, rfl, l1, g1, l2, g2, l3, g3⟩ := k77_open hK
 exact ⟨ad, A1, c1, A2, c2, A3, c3, e, hc 0 _ rfl, by rw [← add_field _ _ 1 (by omega)]; exact hc 1 _ rfl, by rw [← add_field _ _ 2 (by omega)]; exact hc 2 _ rfl, by rw [← add_field _ _ 3 (by omega)]; exact hc 3 _ rfl, l1, g1, l2, g2, l3, g3⟩
def rd_L15 (xs : List (List Int)) (i : Int) : (List Int) := xs.getD i.toNat ([] : List Int)
theorem at_L15 {w : World} {A : Option Addr} {n : Nat} {xs : List (List Int)} (h : Kd.C (Kd.slice 3 (Kd.int .i64)) w A n xs) (i : Int) (h0 : 0 ≤ i) (h1 : i < n) : ∃ ad A0 c0, A = some ad ∧ w.cell? (ad.add i.toNat) = some (.slice A0 (rd_L15 xs i).length c0) ∧ (rd_L15 xs i).length ≤ c0 ∧ (Kd.int .i64).C w A0 (rd_L15 xs i).length (rd_L15 xs i) := by
 obtain ⟨ad, c, e, _, hK, hc0⟩ := Kd.C_get h ([] : List Int) i h0 h1
 have hc : ∀ j u, c[j]? = some u → w.cell? (ad.add (i.toNat * 1 + j)) = some u := hc0
 obtain ⟨A0, c0, rfl, l0, g0⟩ := hK
 exact ⟨ad, A0, c0, e, by have hq := hc 0 _ rfl; rwa [Nat.mul_one, Nat.add_zero] at hq, l0, g0⟩
def rd_L16 (xs : List (List ByteArray)) (i : Int) : (List ByteArray) := xs.getD i.toNat ([] : List ByteArray)
theorem at_L16 {w : World} {A : Option Addr} {n : Nat} {xs : List (List ByteArray)} (h : Kd.C (Kd.slice 9 Kd.string) w A n xs) (i : Int) (h0 : 0 ≤ i) (h1 : i < n) : ∃ ad A0 c0, A = some ad ∧ w.cell? (ad.add i.toNat) = some (.slice A0 (rd_L16 xs i).length c0) ∧ (rd_L16 xs i).length ≤ c0 ∧ Kd.string.C w A0 (rd_L16 xs i).length (rd_L16 xs i) := by
 obtain ⟨ad, c, e, _, hK, hc0⟩ := Kd.C_get h ([] : List ByteArray) i h0 h1
 have hc : ∀ j u, c[j]? = some u → w.cell? (ad.add (i.toNat * 1 + j)) = some u := hc0
 obtain ⟨A0, c0, rfl, l0, g0⟩ := hK
 exact ⟨ad, A0, c0, e, by have hq := hc 0 _ rfl; rwa [Nat.mul_one, Nat.add_zero] at hq, l0, g0⟩
def rd_L17 (xs : List (List Visit)) (i : Int) : (List Visit) := xs.getD i.toNat ([] : List Visit)
theorem at_L17 {w : World} {A : Option Addr} {n : Nat} {xs : List (List Visit)} (h : Kd.C (Kd.slice 52 k52) w A n xs) (i : Int) (h0 : 0 ≤ i) (h1 : i < n) : ∃ ad A0 c0, A = some ad ∧ w.cell? (ad.add i.toNat) = some (.slice A0 (rd_L17 xs i).length c0) ∧ (rd_L17 xs i).length ≤ c0 ∧ k52.C w A0 (rd_L17 xs i).length (rd_L17 xs i) := by
 obtain ⟨ad, c, e, _, hK, hc0⟩ := Kd.C_get h ([] : List Visit) i h0 h1
 have hc : ∀ j u, c[j]? = some u → w.cell? (ad.add (i.toNat * 1 + j)) = some u := hc0
 obtain ⟨A0, c0, rfl, l0, g0⟩ := hK
 exact ⟨ad, A0, c0, e, by have hq := hc 0 _ rfl; rwa [Nat.mul_one, Nat.add_zero] at hq, l0, g0⟩
def rd_L18 (xs : List (List RVisit)) (i : Int) : (List RVisit) := xs.getD i.toNat ([] : List RVisit)
theorem at_L18 {w : World} {A : Option Addr} {n : Nat} {xs : List (List RVisit)} (h : Kd.C (Kd.slice 67 k67) w A n xs) (i : Int) (h0 : 0 ≤ i) (h1 : i < n) : ∃ ad A0 c0, A = some ad ∧ w.cell? (ad.add i.toNat) = some (.slice A0 (rd_L18 xs i).length c0) ∧ (rd_L18 xs i).length ≤ c0 ∧ k67.C w A0 (rd_L18 xs i).length (rd_L18 xs i) := by
 obtain ⟨ad, c, e, _, hK, hc0⟩ := Kd.C_get h ([] : List RVisit) i h0 h1
 have hc : ∀ j u, c[j]? = some u → w.cell? (ad.add (i.toNat * 1 + j)) = some u := hc0
 obtain ⟨A0, c0, rfl, l0, g0⟩ := hK
 exact ⟨ad, A0, c0, e, by have hq := hc 0 _ rfl; rwa [Nat.mul_one, Nat.add_zero] at hq, l0, g0⟩
def rd_L19 (xs : List (List (List Bool))) (i : Int) : (List (List Bool)) := xs.getD i.toNat ([] : List (List Bool))
theorem at_L19 {w : World} {A : Option Addr} {n : Nat} {xs : List (List (List Bool))} (h : Kd.C (Kd.slice 41 (Kd.slice 4 Kd.bool)) w A n xs) (i : Int) (h0 : 0 ≤ i) (h1 : i < n) : ∃ ad A0 c0, A = some ad ∧ w.cell? (ad.add i.toNat) = some (.slice A0 (rd_L19 xs i).length c0) ∧ (rd_L19 xs i).length ≤ c0 ∧ (Kd.slice 4 Kd.bool).C w A0 (rd_L19 xs i).length (rd_L19 xs i) := by
 obtain ⟨ad, c, e, _, hK, hc0⟩ := Kd.C_get h ([] : List (List Bool)) i h0 h1
 have hc : ∀ j u, c[j]? = some u → w.cell? (ad.add (i.toNat * 1 + j)) = some u := hc0
 obtain ⟨A0, c0, rfl, l0, g0⟩ := hK
 exact ⟨ad, A0, c0, e, by have hq := hc 0 _ rfl; rwa [Nat.mul_one, Nat.add_zero] at hq, l0, g0⟩
/-- a function value: what it answers -/
abbrev OnFn := Int → Option Bool
def OnCall.f (on : OnFn) (n : Int) : Option Bool := on n
theorem blt_ {w : World} {a : Addr} {v : Value} (h : w.cell? a = some v) : a.block < w.heap.size := World.block_lt_of_cell? w a h
end Go.Proofs.Ytnepgcbgkhikkaa.H
namespace Go.Proofs.Ytnepgcbgkhikkaa.H
/-- The structs are printed in YtnepgcbgkhikkaaQ0. -/
theorem types_lie : True := trivial
/-- is a name one of some -/
def mem (s : ByteArray) (l : List ByteArray) : Bool := l.any fun x => decide (s = x)
theorem mem_iff {s : ByteArray} {l : List ByteArray} : mem s l = true ↔ s ∈ l := by simp [mem]
end Go.Proofs.Ytnepgcbgkhikkaa.H
namespace Go.Proofs.Ytnepgcbgkhikkaa.H
open Go.RowKit Go.Proofs.YtnepgcbgkhikkaaW.PrintWords
theorem lib_ba_eq {a b : ByteArray} : (a.toList = b.toList) ↔ a = b := by
  constructor
  · intro h
    have h1 : a.data.toList = b.data.toList := by
      have := congrArg id h
      rwa [ByteArray.toList_eq, ByteArray.toList_eq] at this
    cases a; cases b; simp_all
  · rintro rfl; rfl
theorem drop_end {α : Type} {l : List α} {n : Nat} (h : l.drop n = []) : ¬ (n : Int) < (l.length : Int) := by
  have := congrArg List.length h
  simp at this
  omega
theorem drop_more {α : Type} {l : List α} {n : Nat} {y : α} {r : List α} (h : l.drop n = y :: r) (hl : l.length ≤ 9223372036854775807) :
    (n : Int) < (l.length : Int) ∧ (0 : Int) ≤ (n : Int) ∧ (∀ d, l.getD (n : Int).toNat d = y) ∧ l.drop (n + 1) = r ∧ wrap64 ((n : Int) + 1) = ((n + 1 : Nat) : Int) := by
  have h1 := congrArg List.length h
  simp at h1
  have h2 : l.drop (n + 1) = r := by
    have := congrArg (List.drop 1) h
    simpa [List.drop_drop, Nat.add_comm] using this
  have h3 : l[n]? = some y := by
    have := congrArg (fun z => z[0]?) h
    simpa using this
  refine ⟨by omega, by omega, fun d => ?_, h2, ?_⟩
  · rw [Int.toNat_natCast, List.getD_eq_getElem?_getD, h3]; rfl
  · unfold wrap64; omega
theorem at_more {α : Type} {l : List α} {n : Nat} (h : n < l.length) : ∃ y r, l.drop n = y :: r ∧ l[n]? = some y :=
  ⟨l[n], l.drop (n + 1), List.drop_eq_getElem_cons h, List.getElem?_eq_getElem h⟩
theorem getD_at {α : Type} {l : List α} {n : Nat} {y : α} (h : l[n]? = some y) (d : α) : l.getD (n : Int).toNat d = y := by
  rw [Int.toNat_natCast, List.getD_eq_getElem?_getD, h]; rfl
theorem wrap_up {n : Nat} (h : n < 9223372036854775807) : wrap64 ((n : Int) + 1) = ((n + 1 : Nat) : Int) := by unfold wrap64; omega
theorem ite_t {α : Type} {c : Prop} [Decidable c] (h : c) (a b : α) : (if c then a else b) = a := if_pos h
theorem Ev.iff {α : Type} {g : Nat → Option α} {r r' : α} (h : Ev g r) (e : r = r') : Ev g r' := e ▸ h
theorem Ev.some {α : Type} {r r' : α} (e : r = r') : Ev (fun _ => some r) r' := e ▸ Ev.now r
theorem Ev.pure {α β : Type} {o : Option α} {f : Nat → α → Option β} {a : α} {r : β} (h : o = .some a) (k : Ev (fun n => f n a) r) : Ev (fun n => o.bind (f n)) r := by
  subst h; exact k
theorem Ev.pos {α : Type} {c : Prop} [Decidable c] {g f : Nat → Option α} {r : α} (h : c) (k : Ev g r) : Ev (fun n => if c then g n else f n) r := by
  simp only [if_pos h]; exact k
theorem Ev.neg {α : Type} {c : Prop} [Decidable c] {g f : Nat → Option α} {r : α} (h : ¬ c) (k : Ev f r) : Ev (fun n => if c then g n else f n) r := by
  simp only [if_neg h]; exact k
theorem Ev.cases {α : Type} {c : Prop} [Decidable c] {g f : Nat → Option α} {r r' : α} (h1 : c → Ev g r) (h2 : ¬ c → Ev f r') : Ev (fun n => if c then g n else f n) (if c then r else r') := by
  by_cases h : c
  · simp only [if_pos h]; exact h1 h
  · simp only [if_neg h]; exact h2 h
end Go.Proofs.Ytnepgcbgkhikkaa.H
/- what goes on until nothing changes -/
namespace Go.Proofs.Ytnepgcbgkhikkaa.H
def itr {σ : Type} (f : σ → σ) : Nat → σ → σ
  | 0, s => s
  | n + 1, s => itr f n (f s)
theorem itr_succ {σ : Type} (f : σ → σ) : ∀ (n : Nat) (s : σ), itr f (n + 1) s = f (itr f n s)
  | 0, _ => rfl
  | n + 1, s => itr_succ f n (f s)
theorem iter_fixed {σ : Type} (f : σ → σ) (c : σ → Nat) (B : Nat) (P : σ → Prop) (hB : ∀ s, P s → c s ≤ B) (hP : ∀ s, P s → P (f s)) (h : ∀ s, P s → f s = s ∨ c s < c (f s)) {s : σ} (hs : P s) : ∀ n, B ≤ n → f (itr f (n) s) = itr f (n) s := by
  have hPn : ∀ n, P (itr f (n) s) := by
    intro n
    induction n with
    | zero => exact hs
    | succ n ih => rw [itr_succ]; exact hP _ ih
  have key : ∀ n, f (itr f (n) s) = itr f (n) s ∨ n < c (itr f (n + 1) s) := by
    intro n
    induction n with
    | zero =>
      rcases h s hs with e | e
      · exact .inl e
      · exact .inr (by show 0 < c (f s); exact Nat.lt_of_le_of_lt (Nat.zero_le _) e)
    | succ n ih =>
      rcases ih with e | e
      · left
        rw [itr_succ, e, e]
      · rcases h _ (hPn (n + 1)) with e2 | e2
        · exact .inl e2
        · right
          rw [itr_succ f (n + 1)]
          omega
  intro n hn
  rcases key n with e | e
  · exact e
  · have := hB _ (hPn (n + 1))
    omega
def leL (a b : List Bool) : Prop := a.length = b.length ∧ ∀ i : Nat, a[i]? = some true → b[i]? = some true
theorem leL.refl (a : List Bool) : leL a a := ⟨rfl, fun _ h => h⟩
theorem leL.trans {a b c : List Bool} (h : leL a b) (k : leL b c) : leL a c := ⟨h.1.trans k.1, fun i hi => k.2 i (h.2 i hi)⟩
theorem leL.count : ∀ {a b : List Bool}, leL a b → b = a ∨ a.count true < b.count true
  | [], [], h => .inl rfl
  | [], _ :: _, h => by have := h.1; simp at this
  | _ :: _, [], h => by have := h.1; simp at this
  | x :: a, y :: b, h => by
    have ht : leL a b := ⟨by have := h.1; simpa using this, fun i hi => by have := h.2 (i + 1) (by simpa using hi); simpa using this⟩
    have h0 : x = true → y = true := fun hx => by have := h.2 0 (by simp [hx]); simpa using this
    rcases leL.count ht with e | e
    · subst e
      cases x <;> cases y
      · exact .inl rfl
      · right; simp
      · exact absurd (h0 rfl) (by simp)
      · exact .inl rfl
    · right
      cases x <;> cases y <;> simp <;> first | omega | (exact absurd (h0 rfl) (by simp))
theorem leL.set {a : List Bool} (i : Nat) {v : Bool} (hv : a[i]? = some true → v = true) : leL a (a.set i v) := by
  refine ⟨by simp, fun j hj => ?_⟩
  rw [List.getElem?_set]
  split
  · rename_i e
    subst e
    rw [if_pos (List.getElem?_eq_some_iff.1 hj).1, hv hj]
  · exact hj
def toL (b : ByteArray) : List UInt8 := b.data.toList
def ofL (l : List UInt8) : ByteArray := ⟨l.toArray⟩
theorem ofL_toL (b : ByteArray) : ofL (toL b) = b := by simp [ofL, toL]
theorem toL_ofL (l : List UInt8) : toL (ofL l) = l := by simp [ofL, toL]
end Go.Proofs.Ytnepgcbgkhikkaa.H
namespace Go.Proofs.Ytnepgcbgkhikkaa.H
open Go.RowKit Go.Sort Go.Proofs.YtnepgcbgkhikkaaW.PrintWords Go.Proofs.YtnepgcbgkhikkaaW.PrintLast Go.Proofs.YtnepgcbgkhikkaaW.PrintMore
section
variable {α : Type} [Inhabited α] {enc : α → Value}
theorem so_heap {w : World} {g n : Nat} {os : Array Obj} {cur : Array Value} {e : TypeId} {fr : Nat × Nat} (d : Array α) (hb : w.heap[g]? = some (.cells cur e fr)) :
    (grow (putRow enc (Sort.ahead w n) g 0 d) os).heap[g]? = some (.cells (putCells enc 0 d cur) e fr) := by
  have hg : g < w.heap.size := (Array.getElem?_eq_some_iff.1 hb).1
  rw [heap_grow_old _ _ (by simpa using hg)]
  simp [putRow, mapBlock, Sort.ahead, Array.getElem?_modify, hb, onCells]
theorem so_grown {w : World} {g n : Nat} {os : Array Obj} (d : Array α) : w.grownBy (grow (putRow enc (Sort.ahead w n) g 0 d) os) (some g) := by
  refine ⟨rfl, rfl, rfl, by simp, fun k hk hne => ?_⟩
  rw [heap_grow_old _ _ (by simpa using hk)]
  have : g ≠ k := fun e => hne (by rw [e])
  simp [putRow, mapBlock, Sort.ahead, Array.getElem?_modify, this]
theorem so_take (cur : Array Value) (ts : List α) (m : Nat) (hm : m ≤ ts.length) (h : ts.length ≤ cur.size) : (putCells enc 0 ts.toArray cur).toList.take m = (ts.take m).map enc := by
  apply List.ext_getElem?
  intro j
  by_cases hj : j < m
  · rw [List.getElem?_take_of_lt hj, Array.getElem?_toList]
    simp [putCells, show j < ts.length by omega, show j < cur.size by omega, hj]
  · rw [List.getElem?_take_eq_none (by omega), List.getElem?_eq_none (by simp; omega)]
theorem so_holds {w : World} {g : Nat} {cur : Array Value} {e : TypeId} {ss : List α} (hb : w.heap[g]? = some (.cells cur e (0, 0))) (ht : cur.toList.take ss.length = ss.map enc) : Holds enc w g 0 ss.toArray := by
  intro j hj
  have hj' : j < ss.length := by simpa using hj
  refine ⟨?_, by simp [World.frozen?, hb]⟩
  have h1 : (cur.toList.take ss.length)[j]? = (ss.map enc)[j]? := by rw [ht]
  rw [List.getElem?_take_of_lt hj'] at h1
  simp only [World.cell?, hb, Nat.zero_add]
  simp only [Option.isSome_none, Bool.false_eq_true, if_false]
  rw [← Array.getElem?_toList, h1]
  simp [hj']
/-- behind a sort (or a compacting): the row owns the first elements of what was laid -/
theorem so_owns {w : World} {base g cap n m : Nat} {e : TypeId} {os : Array Obj} {cur : Array Value} {ss ts : List α} (hl : ts.length = ss.length) (hm : m ≤ ts.length) (hbase : base ≤ g) (hb : w.heap[g]? = some (.cells cur e (0, 0)))
    (h1 : ss.length ≤ cap) (h2 : cap ≤ maxLen) (h3 : cur.size = cap * 1) :
    (grow (putRow enc (Sort.ahead w n) g 0 ts.toArray) os).ownsRow base e 1 (.slice (some ⟨g, 0, none⟩) m cap) m ((ts.take m).map enc) :=
  ⟨by simp; omega, .inr ⟨g, cap, _, rfl, hbase, so_heap _ hb, by omega, h2, by simp [putCells, h3], by rw [Nat.mul_one]; exact so_take cur ts m hm (by omega)⟩⟩
end
/-- what a function that writes a row of the caller's leaves -/
theorem so_kept {w w' : World} {g : Nat} {P : Nat → Prop} (hg : w.grownBy w' (some g)) (hP : P g) : Kept w w' P :=
  ⟨hg.size, fun i hi hn => hg.block i hi (fun e => hn (by cases e; exact hP))⟩
theorem so_below {w0 w w' : World} {g : Nat} (hB : Below w0.heap.size w0 w) (hg : w.grownBy w' (some g)) (hb : w0.heap.size ≤ g) : Below w0.heap.size w0 w' :=
  pw_below_grown hB (some g) hB.size hg (fun k e => by cases e; exact hb)
theorem encs_toL (xs : List ByteArray) : xs.map Value.string = (xs.map toL).map encStr := by
  rw [List.map_map]
  exact List.map_congr_left fun x _ => by simp [encStr, toL]
theorem encs_ofL (ls : List (List UInt8)) : ls.map encStr = (ls.map ofL).map Value.string := by
  rw [List.map_map]
  exact List.map_congr_left fun x _ => by simp [encStr, ofL]
def sortS (l : List ByteArray) : List ByteArray := ((l.map toL).mergeSort fun x y => decide (x ≤ y)).map ofL
def compactS (l : List ByteArray) : List ByteArray := (Go.Lib.compact (l.map toL)).map ofL
theorem sortS_len (l : List ByteArray) : (sortS l).length = l.length := by simp [sortS]
theorem compactS_len (l : List ByteArray) : (compactS l).length ≤ l.length := by
  unfold compactS Go.Lib.compact Go.Lib.compactUpTo
  simp only [List.length_map]
  exact Nat.le_trans (List.length_filter_le _ _) (by simp)
def sortI (l : List Int) : List Int := l.mergeSort fun x y => decide (x ≤ y)
def compactI (l : List Int) : List Int := Go.Lib.compact l
theorem sortI_len (l : List Int) : (sortI l).length = l.length := by simp [sortI]
theorem compactI_len (l : List Int) : (compactI l).length ≤ l.length := by
  unfold compactI Go.Lib.compact Go.Lib.compactUpTo
  simp only [List.length_map]
  exact Nat.le_trans (List.length_filter_le _ _) (by simp)
end Go.Proofs.Ytnepgcbgkhikkaa.H
namespace Go.Proofs.Ytnepgcbgkhikkaa.H
open Go.RowKit Go.Proofs.YtnepgcbgkhikkaaW.PrintWords Go.Proofs.YtnepgcbgkhikkaaW.PrintLast Go.Proofs.YtnepgcbgkhikkaaW.PrintMore
attribute [local go_sem] max2_int min2_int max_two min_two max_three min_three max_four min_four
def cfg_Def.f (a0_0 : Int) (a0_1 : ByteArray) (a0_2 : ByteArray) (a0_3 : ByteArray) (a0_4 : ByteArray) (a0_5 : Int) (a0_6 : Int) (a0_7 : Int) : Option (ByteArray × Bool) := if a0_0 = 1 then (some (a0_1, true)) else (if a0_0 = 2 then (some (a0_1, true)) else (if a0_0 = 3 then (some (a0_1, true)) else (if a0_0 = 4 then (some (a0_1, true)) else (if a0_0 = 5 then (some (a0_1, true)) else (some ((⟨#[]⟩ : ByteArray), false))))))
set_option maxHeartbeats 8000000 in
set_option maxRecDepth 100000 in
theorem cfg_Def.calls (a0_0 : Int) (a0_1 : ByteArray) (a0_2 : ByteArray) (a0_3 : ByteArray) (a0_4 : ByteArray) (a0_5 : Int) (a0_6 : Int) (a0_7 : Int) (r1 : ByteArray) (r2 : Bool) (w : World) (h : cfg_Def.f a0_0 a0_1 a0_2 a0_3 a0_4 a0_5 a0_6 a0_7 = some (r1, r2)) :
  Calls Try.prog 20 #[.agg #[.int .i64 a0_0, .string a0_1, .string a0_2, .string a0_3, .string a0_4, .int .i64 a0_5, .int .i64 a0_6, .int .i64 a0_7]] w fun e w' => e = .returned (.tuple #[.string r1, .bool r2]) ∧ Below w.heap.size w w' := by
 have hu30 := Try.underlying30
 have HB := Aside0.mk (Below.refl w.heap.size w)
 have H : (if a0_0 = 1 then (some (a0_1, true)) else (if a0_0 = 2 then (some (a0_1, true)) else (if a0_0 = 3 then (some (a0_1, true)) else (if a0_0 = 4 then (some (a0_1, true)) else (if a0_0 = 5 then (some (a0_1, true)) else (some ((⟨#[]⟩ : ByteArray), false))))))) = some (r1, r2) := h
 clear h
 by_cases c2 : a0_0 = 1
 ·rw [if_pos c2] at H
  have c2b0 : (a0_0 == 1) = true := beq_iff_eq.mpr c2
  have c2b1 : (a0_0 != 1) = false := bne_eq_false_iff_eq.mpr c2
  clear c2
  simp only [Option.some.injEq, Prod.mk.injEq] at H
  obtain ⟨rfl, rfl⟩ := H
  go_enter Try.func20, Try.ntmps20
  go_wp2_with (first | ((with_reducible refine gate_dst (N := 1) rfl ?_); refine box_event ?hg (N := 1) ?hd (cs := #[.int .i64 a0_0, .string a0_1, .string a0_2, .string a0_3, .string a0_4, .int .i64 a0_5, .int .i64 a0_6, .int .i64 a0_7]) (t := 30) ?hr ?_; (case hd => rfl); (case hg => rfl); (case hr => first | (go_simp; done) | (go_simp; rfl)); intro gb101 hg w3 hbox hb; have n0_ := Aside0.mk (below_step (by repeat (first | (with_reducible first | exact HB.out | apply below_alloc | apply pw_below_drewN | apply below_drew1) | exact HB.out)) hb); have n1_ := Aside0.mk (hbox); have n2_ := Aside0.mk ((by rw [hg]; exact (below_size (by repeat (first | (with_reducible first | exact HB.out | apply below_alloc | apply pw_below_drewN | apply below_drew1) | exact HB.out))) : w.heap.size ≤ gb101)); have n3_ := Aside0.mk ((by rw [hg]; exact (below_size (by repeat (first | (with_reducible first | exact HB.out | apply below_alloc | apply pw_below_drewN | apply below_drew1) | exact HB.out))) : w.heap.size ≤ gb101)); clear HB; have HB := n0_; have BK101 := n1_; have GW101 := n2_; have GE101 := n3_; clear n0_ n1_ n2_ n3_; clear hb hbox hg; have hcz4_0 : w3.cell? ⟨gb101, 0, none⟩ = some (.int .i64 a0_0) := (blk_cell BK101.out 0).trans rfl; have hcz4_1 : w3.cell? ⟨gb101, 1, none⟩ = some (.string a0_1) := (blk_cell BK101.out 1).trans rfl; have hcz4_2 : w3.cell? ⟨gb101, 2, none⟩ = some (.string a0_2) := (blk_cell BK101.out 2).trans rfl; have hcz4_3 : w3.cell? ⟨gb101, 3, none⟩ = some (.string a0_3) := (blk_cell BK101.out 3).trans rfl; have hcz4_4 : w3.cell? ⟨gb101, 4, none⟩ = some (.string a0_4) := (blk_cell BK101.out 4).trans rfl; have hcz4_5 : w3.cell? ⟨gb101, 5, none⟩ = some (.int .i64 a0_5) := (blk_cell BK101.out 5).trans rfl; have hcz4_6 : w3.cell? ⟨gb101, 6, none⟩ = some (.int .i64 a0_6) := (blk_cell BK101.out 6).trans rfl; have hcz4_7 : w3.cell? ⟨gb101, 7, none⟩ = some (.int .i64 a0_7) := (blk_cell BK101.out 7).trans rfl; have hfz4_0 := blk_frozen BK101.out 0; have hfz4_1 := blk_frozen BK101.out 1; have hfz4_2 := blk_frozen BK101.out 2; have hfz4_3 := blk_frozen BK101.out 3; have hfz4_4 := blk_frozen BK101.out 4; have hfz4_5 := blk_frozen BK101.out 5; have hfz4_6 := blk_frozen BK101.out 6; have hfz4_7 := blk_frozen BK101.out 7))
  go_ret2
  exact ⟨by first | rfl | (simp [errW_none, errW_some] <;> rfl) | (simp [*, errW_none, errW_some] <;> rfl), by repeat (first | (with_reducible first | exact HB.out | apply below_alloc | apply pw_below_drewN | apply below_drew1 | refine below_set ?_ GE101.out) | exact HB.out)⟩
 ·rw [if_neg c2] at H
  have c2b0 : (a0_0 == 1) = false := beq_eq_false_iff_ne.mpr c2
  have c2b1 : (a0_0 != 1) = true := bne_iff_ne.mpr c2
  by_cases c5 : a0_0 = 2
  ·rw [if_pos c5] at H
   have c5b0 : (a0_0 == 2) = true := beq_iff_eq.mpr c5
   have c5b1 : (a0_0 != 2) = false := bne_eq_false_iff_eq.mpr c5
   clear c5
   simp only [Option.some.injEq, Prod.mk.injEq] at H
   obtain ⟨rfl, rfl⟩ := H
   go_enter Try.func20, Try.ntmps20
   go_wp2_with (first | ((with_reducible refine gate_dst (N := 1) rfl ?_); refine box_event ?hg (N := 1) ?hd (cs := #[.int .i64 a0_0, .string a0_1, .string a0_2, .string a0_3, .string a0_4, .int .i64 a0_5, .int .i64 a0_6, .int .i64 a0_7]) (t := 30) ?hr ?_; (case hd => rfl); (case hg => rfl); (case hr => first | (go_simp; done) | (go_simp; rfl)); intro gb101 hg w6 hbox hb; have n0_ := Aside0.mk (below_step (by repeat (first | (with_reducible first | exact HB.out | apply below_alloc | apply pw_below_drewN | apply below_drew1) | exact HB.out)) hb); have n1_ := Aside0.mk (hbox); have n2_ := Aside0.mk ((by rw [hg]; exact (below_size (by repeat (first | (with_reducible first | exact HB.out | apply below_alloc | apply pw_below_drewN | apply below_drew1) | exact HB.out))) : w.heap.size ≤ gb101)); have n3_ := Aside0.mk ((by rw [hg]; exact (below_size (by repeat (first | (with_reducible first | exact HB.out | apply below_alloc | apply pw_below_drewN | apply below_drew1) | exact HB.out))) : w.heap.size ≤ gb101)); clear HB; have HB := n0_; have BK101 := n1_; have GW101 := n2_; have GE101 := n3_; clear n0_ n1_ n2_ n3_; clear hb hbox hg; have hcz7_0 : w6.cell? ⟨gb101, 0, none⟩ = some (.int .i64 a0_0) := (blk_cell BK101.out 0).trans rfl; have hcz7_1 : w6.cell? ⟨gb101, 1, none⟩ = some (.string a0_1) := (blk_cell BK101.out 1).trans rfl; have hcz7_2 : w6.cell? ⟨gb101, 2, none⟩ = some (.string a0_2) := (blk_cell BK101.out 2).trans rfl; have hcz7_3 : w6.cell? ⟨gb101, 3, none⟩ = some (.string a0_3) := (blk_cell BK101.out 3).trans rfl; have hcz7_4 : w6.cell? ⟨gb101, 4, none⟩ = some (.string a0_4) := (blk_cell BK101.out 4).trans rfl; have hcz7_5 : w6.cell? ⟨gb101, 5, none⟩ = some (.int .i64 a0_5) := (blk_cell BK101.out 5).trans rfl; have hcz7_6 : w6.cell? ⟨gb101, 6, none⟩ = some (.int .i64 a0_6) := (blk_cell BK101.out 6).trans rfl; have hcz7_7 : w6.cell? ⟨gb101, 7, none⟩ = some (.int .i64 a0_7) := (blk_cell BK101.out 7).trans rfl; have hfz7_0 := blk_frozen BK101.out 0; have hfz7_1 := blk_frozen BK101.out 1; have hfz7_2 := blk_frozen BK101.out 2; have hfz7_3 := blk_frozen BK101.out 3; have hfz7_4 := blk_frozen BK101.out 4; have hfz7_5 := blk_frozen BK101.out 5; have hfz7_6 := blk_frozen BK101.out 6; have hfz7_7 := blk_frozen BK101.out 7))
   go_ret2
   exact ⟨by first | rfl | (simp [errW_none, errW_some] <;> rfl) | (simp [*, errW_none, errW_some] <;> rfl), by repeat (first | (with_reducible first | exact HB.out | apply below_alloc | apply pw_below_drewN | apply below_drew1 | refine below_set ?_ GE101.out) | exact HB.out)⟩
  ·rw [if_neg c5] at H
   have c5b0 : (a0_0 == 2) = false := beq_eq_false_iff_ne.mpr c5
   have c5b1 : (a0_0 != 2) = true := bne_iff_ne.mpr c5
   by_cases c8 : a0_0 = 3
   ·rw [if_pos c8] at H
    have c8b0 : (a0_0 == 3) = true := beq_iff_eq.mpr c8
    have c8b1 : (a0_0 != 3) = false := bne_eq_false_iff_eq.mpr c8
    clear c8
    simp only [Option.some.injEq, Prod.mk.injEq] at H
    obtain ⟨rfl, rfl⟩ := H
    go_enter Try.func20, Try.ntmps20
    go_wp2_with (first | ((with_reducible refine gate_dst (N := 1) rfl ?_); refine box_event ?hg (N := 1) ?hd (cs := #[.int .i64 a0_0, .string a0_1, .string a0_2, .string a0_3, .string a0_4, .int .i64 a0_5, .int .i64 a0_6, .int .i64 a0_7]) (t := 30) ?hr ?_; (case hd => rfl); (case hg => rfl); (case hr => first | (go_simp; done) | (go_simp; rfl)); intro gb101 hg w9 hbox hb; have n0_ := Aside0.mk (below_step (by repeat (first | (with_reducible first | exact HB.out | apply below_alloc | apply pw_below_drewN | apply below_drew1) | exact HB.out)) hb); have n1_ := Aside0.mk (hbox); have n2_ := Aside0.mk ((by rw [hg]; exact (below_size (by repeat (first | (with_reducible first | exact HB.out | apply below_alloc | apply pw_below_drewN | apply below_drew1) | exact HB.out))) : w.heap.size ≤ gb101)); have n3_ := Aside0.mk ((by rw [hg]; exact (below_size (by repeat (first | (with_reducible first | exact HB.out | apply below_alloc | apply pw_below_drewN | apply below_drew1) | exact HB.out))) : w.heap.size ≤ gb101)); clear HB; have HB := n0_; have BK101 := n1_; have GW101 := n2_; have GE101 := n3_; clear n0_ n1_ n2_ n3_; clear hb hbox hg; have hcz10_0 : w9.cell? ⟨gb101, 0, none⟩ = some (.int .i64 a0_0) := (blk_cell BK101.out 0).trans rfl; have hcz10_1 : w9.cell? ⟨gb101, 1, none⟩ = some (.string a0_1) := (blk_cell BK101.out 1).trans rfl; have hcz10_2 : w9.cell? ⟨gb101, 2, none⟩ = some (.string a0_2) := (blk_cell BK101.out 2).trans rfl; have hcz10_3 : w9.cell? ⟨gb101, 3, none⟩ = some (.string a0_3) := (blk_cell BK101.out 3).trans rfl; have hcz10_4 : w9.cell? ⟨gb101, 4, none⟩ = some (.string a0_4) := (blk_cell BK101.out 4).trans rfl; have hcz10_5 : w9.cell? ⟨gb101, 5, none⟩ = some (.int .i64 a0_5) := (blk_cell BK101.out 5).trans rfl; have hcz10_6 : w9.cell? ⟨gb101, 6, none⟩ = some (.int .i64 a0_6) := (blk_cell BK101.out 6).trans rfl; have hcz10_7 : w9.cell? ⟨gb101, 7, none⟩ = some (.int .i64 a0_7) := (blk_cell BK101.out 7).trans rfl; have hfz10_0 := blk_frozen BK101.out 0; have hfz10_1 := blk_frozen BK101.out 1; have hfz10_2 := blk_frozen BK101.out 2; have hfz10_3 := blk_frozen BK101.out 3; have hfz10_4 := blk_frozen BK101.out 4; have hfz10_5 := blk_frozen BK101.out 5; have hfz10_6 := blk_frozen BK101.out 6; have hfz10_7 := blk_frozen BK101.out 7))
    go_ret2
    exact ⟨by first | rfl | (simp [errW_none, errW_some] <;> rfl) | (simp [*, errW_none, errW_some] <;> rfl), by repeat (first | (with_reducible first | exact HB.out | apply below_alloc | apply pw_below_drewN | apply below_drew1 | refine below_set ?_ GE101.out) | exact HB.out)⟩
   ·rw [if_neg c8] at H
    have c8b0 : (a0_0 == 3) = false := beq_eq_false_iff_ne.mpr c8
    have c8b1 : (a0_0 != 3) = true := bne_iff_ne.mpr c8
    by_cases c11 : a0_0 = 4
    ·rw [if_pos c11] at H
     have c11b0 : (a0_0 == 4) = true := beq_iff_eq.mpr c11
     have c11b1 : (a0_0 != 4) = false := bne_eq_false_iff_eq.mpr c11
     clear c11
     simp only [Option.some.injEq, Prod.mk.injEq] at H
     obtain ⟨rfl, rfl⟩ := H
     go_enter Try.func20, Try.ntmps20
     go_wp2_with (first | ((with_reducible refine gate_dst (N := 1) rfl ?_); refine box_event ?hg (N := 1) ?hd (cs := #[.int .i64 a0_0, .string a0_1, .string a0_2, .string a0_3, .string a0_4, .int .i64 a0_5, .int .i64 a0_6, .int .i64 a0_7]) (t := 30) ?hr ?_; (case hd => rfl); (case hg => rfl); (case hr => first | (go_simp; done) | (go_simp; rfl)); intro gb101 hg w12 hbox hb; have n0_ := Aside0.mk (below_step (by repeat (first | (with_reducible first | exact HB.out | apply below_alloc | apply pw_below_drewN | apply below_drew1) | exact HB.out)) hb); have n1_ := Aside0.mk (hbox); have n2_ := Aside0.mk ((by rw [hg]; exact (below_size (by repeat (first | (with_reducible first | exact HB.out | apply below_alloc | apply pw_below_drewN | apply below_drew1) | exact HB.out))) : w.heap.size ≤ gb101)); have n3_ := Aside0.mk ((by rw [hg]; exact (below_size (by repeat (first | (with_reducible first | exact HB.out | apply below_alloc | apply pw_below_drewN | apply below_drew1) | exact HB.out))) : w.heap.size ≤ gb101)); clear HB; have HB := n0_; have BK101 := n1_; have GW101 := n2_; have GE101 := n3_; clear n0_ n1_ n2_ n3_; clear hb hbox hg; have hcz13_0 : w12.cell? ⟨gb101, 0, none⟩ = some (.int .i64 a0_0) := (blk_cell BK101.out 0).trans rfl; have hcz13_1 : w12.cell? ⟨gb101, 1, none⟩ = some (.string a0_1) := (blk_cell BK101.out 1).trans rfl; have hcz13_2 : w12.cell? ⟨gb101, 2, none⟩ = some (.string a0_2) := (blk_cell BK101.out 2).trans rfl; have hcz13_3 : w12.cell? ⟨gb101, 3, none⟩ = some (.string a0_3) := (blk_cell BK101.out 3).trans rfl; have hcz13_4 : w12.cell? ⟨gb101, 4, none⟩ = some (.string a0_4) := (blk_cell BK101.out 4).trans rfl; have hcz13_5 : w12.cell? ⟨gb101, 5, none⟩ = some (.int .i64 a0_5) := (blk_cell BK101.out 5).trans rfl; have hcz13_6 : w12.cell? ⟨gb101, 6, none⟩ = some (.int .i64 a0_6) := (blk_cell BK101.out 6).trans rfl; have hcz13_7 : w12.cell? ⟨gb101, 7, none⟩ = some (.int .i64 a0_7) := (blk_cell BK101.out 7).trans rfl; have hfz13_0 := blk_frozen BK101.out 0; have hfz13_1 := blk_frozen BK101.out 1; have hfz13_2 := blk_frozen BK101.out 2; have hfz13_3 := blk_frozen BK101.out 3; have hfz13_4 := blk_frozen BK101.out 4; have hfz13_5 := blk_frozen BK101.out 5; have hfz13_6 := blk_frozen BK101.out 6; have hfz13_7 := blk_frozen BK101.out 7))
     go_ret2
     exact ⟨by first | rfl | (simp [errW_none, errW_some] <;> rfl) | (simp [*, errW_none, errW_some] <;> rfl), by repeat (first | (with_reducible first | exact HB.out | apply below_alloc | apply pw_below_drewN | apply below_drew1 | refine below_set ?_ GE101.out) | exact HB.out)⟩
    ·rw [if_neg c11] at H
     have c11b0 : (a0_0 == 4) = false := beq_eq_false_iff_ne.mpr c11
     have c11b1 : (a0_0 != 4) = true := bne_iff_ne.mpr c11
     by_cases c14 : a0_0 = 5
     ·rw [if_pos c14] at H
      have c14b0 : (a0_0 == 5) = true := beq_iff_eq.mpr c14
      have c14b1 : (a0_0 != 5) = false := bne_eq_false_iff_eq.mpr c14
      clear c14
      simp only [Option.some.injEq, Prod.mk.injEq] at H
      obtain ⟨rfl, rfl⟩ := H
      go_enter Try.func20, Try.ntmps20
      go_wp2_with (first | ((with_reducible refine gate_dst (N := 1) rfl ?_); refine box_event ?hg (N := 1) ?hd (cs := #[.int .i64 a0_0, .string a0_1, .string a0_2, .string a0_3, .string a0_4, .int .i64 a0_5, .int .i64 a0_6, .int .i64 a0_7]) (t := 30) ?hr ?_; (case hd => rfl); (case hg => rfl); (case hr => first | (go_simp; done) | (go_simp; rfl)); intro gb101 hg w15 hbox hb; have n0_ := Aside0.mk (below_step (by repeat (first | (with_reducible first | exact HB.out | apply below_alloc | apply pw_below_drewN | apply below_drew1) | exact HB.out)) hb); have n1_ := Aside0.mk (hbox); have n2_ := Aside0.mk ((by rw [hg]; exact (below_size (by repeat (first | (with_reducible first | exact HB.out | apply below_alloc | apply pw_below_drewN | apply below_drew1) | exact HB.out))) : w.heap.size ≤ gb101)); have n3_ := Aside0.mk ((by rw [hg]; exact (below_size (by repeat (first | (with_reducible first | exact HB.out | apply below_alloc | apply pw_below_drewN | apply below_drew1) | exact HB.out))) : w.heap.size ≤ gb101)); clear HB; have HB := n0_; have BK101 := n1_; have GW101 := n2_; have GE101 := n3_; clear n0_ n1_ n2_ n3_; clear hb hbox hg; have hcz16_0 : w15.cell? ⟨gb101, 0, none⟩ = some (.int .i64 a0_0) := (blk_cell BK101.out 0).trans rfl; have hcz16_1 : w15.cell? ⟨gb101, 1, none⟩ = some (.string a0_1) := (blk_cell BK101.out 1).trans rfl; have hcz16_2 : w15.cell? ⟨gb101, 2, none⟩ = some (.string a0_2) := (blk_cell BK101.out 2).trans rfl; have hcz16_3 : w15.cell? ⟨gb101, 3, none⟩ = some (.string a0_3) := (blk_cell BK101.out 3).trans rfl; have hcz16_4 : w15.cell? ⟨gb101, 4, none⟩ = some (.string a0_4) := (blk_cell BK101.out 4).trans rfl; have hcz16_5 : w15.cell? ⟨gb101, 5, none⟩ = some (.int .i64 a0_5) := (blk_cell BK101.out 5).trans rfl; have hcz16_6 : w15.cell? ⟨gb101, 6, none⟩ = some (.int .i64 a0_6) := (blk_cell BK101.out 6).trans rfl; have hcz16_7 : w15.cell? ⟨gb101, 7, none⟩ = some (.int .i64 a0_7) := (blk_cell BK101.out 7).trans rfl; have hfz16_0 := blk_frozen BK101.out 0; have hfz16_1 := blk_frozen BK101.out 1; have hfz16_2 := blk_frozen BK101.out 2; have hfz16_3 := blk_frozen BK101.out 3; have hfz16_4 := blk_frozen BK101.out 4; have hfz16_5 := blk_frozen BK101.out 5; have hfz16_6 := blk_frozen BK101.out 6; have hfz16_7 := blk_frozen BK101.out 7))
      go_ret2
      exact ⟨by first | rfl | (simp [errW_none, errW_some] <;> rfl) | (simp [*, errW_none, errW_some] <;> rfl), by repeat (first | (with_reducible first | exact HB.out | apply below_alloc | apply pw_below_drewN | apply below_drew1 | refine below_set ?_ GE101.out) | exact HB.out)⟩
     ·rw [if_neg c14] at H
      have c14b0 : (a0_0 == 5) = false := beq_eq_false_iff_ne.mpr c14
      have c14b1 : (a0_0 != 5) = true := bne_iff_ne.mpr c14
      simp only [Option.some.injEq, Prod.mk.injEq] at H
      obtain ⟨rfl, rfl⟩ := H
      go_enter Try.func20, Try.ntmps20
      go_wp2_with (first | ((with_reducible refine gate_dst (N := 1) rfl ?_); refine box_event ?hg (N := 1) ?hd (cs := #[.int .i64 a0_0, .string a0_1, .string a0_2, .string a0_3, .string a0_4, .int .i64 a0_5, .int .i64 a0_6, .int .i64 a0_7]) (t := 30) ?hr ?_; (case hd => rfl); (case hg => rfl); (case hr => first | (go_simp; done) | (go_simp; rfl)); intro gb101 hg w17 hbox hb; have n0_ := Aside0.mk (below_step (by repeat (first | (with_reducible first | exact HB.out | apply below_alloc | apply pw_below_drewN | apply below_drew1) | exact HB.out)) hb); have n1_ := Aside0.mk (hbox); have n2_ := Aside0.mk ((by rw [hg]; exact (below_size (by repeat (first | (with_reducible first | exact HB.out | apply below_alloc | apply pw_below_drewN | apply below_drew1) | exact HB.out))) : w.heap.size ≤ gb101)); have n3_ := Aside0.mk ((by rw [hg]; exact (below_size (by repeat (first | (with_reducible first | exact HB.out | apply below_alloc | apply pw_below_drewN | apply below_drew1) | exact HB.out))) : w.heap.size ≤ gb101)); clear HB; have HB := n0_; have BK101 := n1_; have GW101 := n2_; have GE101 := n3_; clear n0_ n1_ n2_ n3_; clear hb hbox hg; have hcz18_0 : w17.cell? ⟨gb101, 0, none⟩ = some (.int .i64 a0_0) := (blk_cell BK101.out 0).trans rfl; have hcz18_1 : w17.cell? ⟨gb101, 1, none⟩ = some (.string a0_1) := (blk_cell BK101.out 1).trans rfl; have hcz18_2 : w17.cell? ⟨gb101, 2, none⟩ = some (.string a0_2) := (blk_cell BK101.out 2).trans rfl; have hcz18_3 : w17.cell? ⟨gb101, 3, none⟩ = some (.string a0_3) := (blk_cell BK101.out 3).trans rfl; have hcz18_4 : w17.cell? ⟨gb101, 4, none⟩ = some (.string a0_4) := (blk_cell BK101.out 4).trans rfl; have hcz18_5 : w17.cell? ⟨gb101, 5, none⟩ = some (.int .i64 a0_5) := (blk_cell BK101.out 5).trans rfl; have hcz18_6 : w17.cell? ⟨gb101, 6, none⟩ = some (.int .i64 a0_6) := (blk_cell BK101.out 6).trans rfl; have hcz18_7 : w17.cell? ⟨gb101, 7, none⟩ = some (.int .i64 a0_7) := (blk_cell BK101.out 7).trans rfl; have hfz18_0 := blk_frozen BK101.out 0; have hfz18_1 := blk_frozen BK101.out 1; have hfz18_2 := blk_frozen BK101.out 2; have hfz18_3 := blk_frozen BK101.out 3; have hfz18_4 := blk_frozen BK101.out 4; have hfz18_5 := blk_frozen BK101.out 5; have hfz18_6 := blk_frozen BK101.out 6; have hfz18_7 := blk_frozen BK101.out 7))
      go_ret2
      exact ⟨by first | rfl | (simp [errW_none, errW_some] <;> rfl) | (simp [*, errW_none, errW_some] <;> rfl), by repeat (first | (with_reducible first | exact HB.out | apply below_alloc | apply pw_below_drewN | apply below_drew1 | refine below_set ?_ GE101.out) | exact HB.out)⟩
end Go.Proofs.Ytnepgcbgkhikkaa.H
namespace Go.Proofs.Ytnepgcbgkhikkaa.H
open Go.RowKit Go.Proofs.YtnepgcbgkhikkaaW.PrintWords Go.Proofs.YtnepgcbgkhikkaaW.PrintLast Go.Proofs.YtnepgcbgkhikkaaW.PrintMore
abbrev tt : Bool := true
abbrev ff : Bool := false
/-- a table of bools, told as a number -/
def bls : Nat → Nat → List Bool
  | 0, _ => []
  | n + 1, b => (b % 2 == 1) :: bls n (b / 2)
def bl (n b : Nat) : Array Bool := ⟨bls n b⟩
theorem sA {α : Type _} (l : List α) (i : Nat) (a : α) : l.toArray.setIfInBounds i a = (l.set i a).toArray := List.setIfInBounds_toArray ..
theorem sZ {α : Type _} {xs : List α} {a b : α} : (a :: xs).set 0 b = b :: xs := List.set_cons_zero
theorem sS {α : Type _} {xs : List α} {n : Nat} {a b : α} : (a :: xs).set (n + 1) b = a :: xs.set n b := List.set_cons_succ
theorem am {p : Prop} (h : p) : Aside0 p := Aside0.mk h
abbrev Va := @Kd.V_alloc
abbrev Vn := @Kd.V_drewN
abbrev Vd := @Kd.V_drew
abbrev Ra := @Kd.R_alloc
abbrev Rn := @Kd.R_drewN
abbrev Rd := @Kd.R_drew
abbrev bN := @blk_drewN
abbrev bD := @blk_drew
abbrev bA := @blk_alloc
abbrev lA := @below_alloc
abbrev lN := @pw_below_drewN
abbrev lD := @below_drew1
abbrev lS := @below_set
end Go.Proofs.Ytnepgcbgkhikkaa.H
namespace Go.Proofs.Ytnepgcbgkhikkaa.H
open Go.RowKit Go.Sort Go.Proofs.YtnepgcbgkhikkaaW.PrintWords Go.Proofs.YtnepgcbgkhikkaaW.PrintLast Go.Proofs.YtnepgcbgkhikkaaW.PrintMore
def slices_Clone_string_string.f (l : List ByteArray) : Option (List ByteArray) := if l.length * 16 ≤ 140737488355328 then some l else none
theorem slices_Clone_string_string.calls (A0 : Option Addr) (c0 : Nat) (l0 r : List ByteArray) (w : World) (hr0 : Kd.C Kd.string w A0 l0.length l0) (_ : l0.length ≤ c0) (h : slices_Clone_string_string.f l0 = some r) :
    Calls Try.prog 66 #[.slice A0 l0.length c0] w fun e w' => ∃ v0_ : Value, e = .returned v0_ ∧ Kd.R Kd.string 9 w' w.heap.size (fun _ => True) v0_ r ∧ Below w.heap.size w w' := by
  unfold slices_Clone_string_string.f at h
  split at h
  case isFalse => cases h
  rename_i hz
  cases h
  cases A0 with
  | none =>
    have h0 : l0 = [] := by
      rcases Nat.eq_zero_or_pos l0.length with h0 | h0
      · exact List.length_eq_zero_iff.1 h0
      · obtain ⟨ad, e, _⟩ := hr0.2.2 h0
        cases e
    subst h0
    refine (Try.slices_Clone_string_nil _ c0 w).mono ?_
    rintro e w' ⟨rfl, rfl⟩
    exact ⟨_, rfl, Kd.R_nil _ _ _ _ _, Below.refl _ _⟩
  | some a =>
    rcases Nat.eq_zero_or_pos l0.length with h0 | h0
    · obtain rfl := List.length_eq_zero_iff.1 h0
      refine (Try.slices_Clone_string_zero a c0 w).mono ?_
      rintro e w' ⟨v, rfl, ho, _, hb⟩
      exact ⟨v, rfl, Kd.R_of_own ho (fun _ _ => trivial), hb⟩
    · obtain ⟨ad, e0, hc⟩ := hr0.2.2 h0
      cases e0
      have hcell : ∀ j, j < l0.length → w.cell? (a.add j) = some (Value.string (l0.getD j ByteArray.empty)) := fun j hj => by
        obtain ⟨ad, e1, hx⟩ := Kd.at_string hr0 (j : Int) (by omega) (by omega)
        cases e1
        rw [Int.toNat_natCast] at hx
        rw [hx]
        simp [rdOf]
      have hs : a.spot = none := by
        have h1 := hcell 0 h0
        unfold World.cell? at h1
        cases hsp : a.spot with
        | none => rfl
        | some k =>
          simp [Addr.add, hsp] at h1
          split at h1 <;> cases h1
      obtain ⟨b, off, sp⟩ := a
      cases hs
      have hbl : w.heap.size ≥ 0 := Nat.zero_le _
      refine (Try.slices_Clone_string b off l0.length c0 l0 w (Nat.le_refl _) hz (fun j hj => ?_)).mono ?_
      · have := hcell j hj
        rwa [show (⟨b, off, none⟩ : Addr).add j = ⟨b, off + j, none⟩ by unfold Addr.add; split <;> simp_all] at this
      · rintro e w' ⟨v, rfl, ho, _, hb⟩
        rw [List.take_of_length_le (Nat.le_refl _)] at ho
        exact ⟨v, rfl, Kd.R_of_own ho (fun _ _ => trivial), hb⟩
def slices_Compact_string_string.f (l : List ByteArray) : Option (List ByteArray) := some (compactS l)
theorem slices_Compact_string_string.calls (P0_ : Nat → Prop) (u9000_ : Value) (l0 r : List ByteArray) (w0 w : World) (hB : Below w0.heap.size w0 w) (ho0 : Kd.R Kd.string 9 w w0.heap.size P0_ u9000_ l0) (h : slices_Compact_string_string.f l0 = some r) :
    Calls Try.prog 68 #[u9000_] w fun e w' => ∃ v0_ : Value, e = .returned v0_ ∧ Kd.R Kd.string 9 w' w0.heap.size (fun k_ => (P0_ k_ ∨ w.heap.size ≤ k_)) v0_ r ∧ Below w0.heap.size w0 w' ∧ Kept w w' (fun k_ => P0_ k_) := by
  cases h
  have ho := Kd.own_of_R ho0
  obtain ⟨hlen, ho⟩ := ho
  rcases ho with ⟨rfl, h0⟩ | ⟨g, cap, cur, rfl, hbase, hb, h1, h2, h3, h4⟩
  · obtain rfl := List.length_eq_zero_iff.1 h0
    refine (Try.slices_Compact_string_empty none 0 w).mono ?_
    rintro e w' ⟨rfl, rfl⟩
    exact ⟨_, rfl, by simpa [compactS, Go.Lib.compact, Go.Lib.compactUpTo] using Kd.R_mono ho0 (fun k hk => .inl hk), hB, Kept.refl _ _⟩
  · have e4 : cur.toList.take (l0.map toL).length = (l0.map toL).map encStr := by
      rw [← encs_toL, List.length_map]
      rw [Nat.mul_one] at h4
      exact h4
    have hP : P0_ g := ho0.1 g rfl
    have hz : (l0.map toL).length ≤ 9223372036854775807 := by rw [List.length_map]; unfold maxLen at h2; omega
    have c := Try.slices_Compact_string g 0 cap (l0.map toL) w (so_holds hb e4) hz (by simpa using h1)
    rw [List.length_map] at c
    refine c.mono ?_
    rintro e w' ⟨rfl, q, rfl⟩
    generalize ht : Go.Lib.compact (l0.map toL) ++ List.replicate (l0.length - (Go.Lib.compact (l0.map toL)).length) ([] : List UInt8) = ts
    have hcl : (Go.Lib.compact (l0.map toL)).length ≤ l0.length := by simpa [compactS] using compactS_len l0
    have hl : ts.length = (l0.map toL).length := by rw [← ht]; simp; omega
    have e0 : putRow encStr (Sort.ahead w q) g 0 ts.toArray = grow (putRow encStr (Sort.ahead w q) g 0 ts.toArray) #[] := by simp
    rw [e0]
    have hgr := so_grown (w := w) (g := g) (n := q) (os := #[]) (enc := encStr) ts.toArray
    refine ⟨_, rfl, ?_, so_below hB hgr hbase, so_kept hgr hP⟩
    have hr := so_owns (w := w) (n := q) (os := #[]) (enc := encStr) (m := (Go.Lib.compact (l0.map toL)).length) (ts := ts) (ss := l0.map toL) hl (by rw [hl]; simpa using hcl) hbase hb (by simpa using h1) h2 h3
    refine Kd.R_of_own ?_ (fun k hk => .inl (ho0.1 k (by simpa [Value.ownBlock] using hk)))
    rw [← ht, List.take_left' rfl, encs_ofL] at hr
    rw [show (compactS l0).length = (Go.Lib.compact (l0.map toL)).length by simp [compactS]]
    rw [ht] at hr
    exact hr
def slices_Sort_string_string.f (l : List ByteArray) : Option (List ByteArray) := if l.length < 4611686018427387904 then some (sortS l) else none
theorem slices_Sort_string_string.calls (P0_ : Nat → Prop) (u9000_ : Value) (l0 r : List ByteArray) (w0 w : World) (hB : Below w0.heap.size w0 w) (ho0 : Kd.R Kd.string 9 w w0.heap.size P0_ u9000_ l0) (h : slices_Sort_string_string.f l0 = some r) :
    Calls Try.prog 67 #[u9000_] w fun e w' => e = .returned (.tuple #[]) ∧ Kd.R Kd.string 9 w' w0.heap.size (fun k_ => (P0_ k_ ∨ w.heap.size ≤ k_)) u9000_ r ∧ Below w0.heap.size w0 w' ∧ Kept w w' (fun k_ => P0_ k_) := by
  unfold slices_Sort_string_string.f at h
  split at h
  case isFalse => cases h
  rename_i hz0
  cases h
  have ho := Kd.own_of_R ho0
  obtain ⟨hlen, ho⟩ := ho
  rcases ho with ⟨rfl, h0⟩ | ⟨g, cap, cur, rfl, hbase, hb, h1, h2, h3, h4⟩
  · obtain rfl := List.length_eq_zero_iff.1 h0
    refine (Try.slices_Sort_string_none none 0 w).mono ?_
    rintro e w' ⟨rfl, rfl⟩
    exact ⟨rfl, by simpa [sortS] using Kd.R_mono ho0 (fun k hk => .inl hk), hB, Kept.refl _ _⟩
  · have e4 : cur.toList.take (l0.map toL).length = (l0.map toL).map encStr := by
      rw [← encs_toL, List.length_map]
      rw [Nat.mul_one] at h4
      exact h4
    have hP : P0_ g := ho0.1 g rfl
    have hg : g < w.heap.size := (Array.getElem?_eq_some_iff.1 hb).1
    have hz : (l0.map toL).length < 4611686018427387904 := by rw [List.length_map]; exact hz0
    have c := Try.slices_Sort_string g 0 cap (l0.map toL) w (so_holds hb e4) hg hz
    rw [List.length_map] at c
    refine c.mono ?_
    rintro e w' ⟨rfl, n, os, rfl⟩
    have hgr := so_grown (w := w) (g := g) (n := n) (os := os) (enc := encStr) ((l0.map toL).mergeSort fun x y => decide (x ≤ y)).toArray
    refine ⟨rfl, ?_, so_below hB hgr hbase, so_kept hgr hP⟩
    have hr := so_owns (w := w) (n := n) (os := os) (enc := encStr) (m := l0.length) (ts := (l0.map toL).mergeSort fun x y => decide (x ≤ y)) (ss := l0.map toL) (by simp) (by simp) hbase hb (by simpa using h1) h2 h3
    refine Kd.R_of_own ?_ (fun k hk => .inl (ho0.1 k hk))
    rw [List.take_of_length_le (by simp), encs_ofL] at hr
    rw [sortS_len]
    simpa [sortS, encs] using hr
end Go.Proofs.Ytnepgcbgkhikkaa.H
namespace Go.Proofs.Ytnepgcbgkhikkaa.H
open Go.RowKit Go.Proofs.YtnepgcbgkhikkaaW.PrintWords Go.Proofs.YtnepgcbgkhikkaaW.PrintLast Go.Proofs.YtnepgcbgkhikkaaW.PrintMore
attribute [local go_sem] max2_int min2_int max_two min_two max_three min_three max_four min_four
def cfg_sorted_string.f (l0 : List ByteArray) : Option (List ByteArray) := (slices_Clone_string_string.f l0).bind fun t101 => ((slices_Sort_string_string.f t101).bind fun t104 => ((slices_Compact_string_string.f t104).bind fun t105 => (some t105)))
set_option maxHeartbeats 8000000 in
set_option maxRecDepth 100000 in
theorem cfg_sorted_string.calls (A0 : Option Addr) (c0 : Nat) (l0 : List ByteArray) (r : List ByteArray) (w : World) (hr0 : Kd.C Kd.string w A0 l0.length l0) (hc0 : l0.length ≤ c0) (h : cfg_sorted_string.f l0 = some r) :
  Calls Try.prog 50 #[.slice A0 l0.length c0] w fun e w' => ∃ v0_ : Value, e = .returned (v0_) ∧ Kd.R Kd.string 9 w' w.heap.size (fun _ => True) v0_ r ∧ Below w.heap.size w w' := by
 have HR0 := Aside0.mk hr0
 have HC0 := Aside0.mk hc0
 clear hr0 hc0
 have HB := Aside0.mk (Below.refl w.heap.size w)
 have H : ((slices_Clone_string_string.f l0).bind fun t101 => ((slices_Sort_string_string.f t101).bind fun t104 => ((slices_Compact_string_string.f t104).bind fun t105 => (some t105)))) = some r := h
 clear h
 replace H := Option.bind_eq_some_iff.mp H
 obtain ⟨t101, A20, H⟩ := H
 replace H : ((slices_Sort_string_string.f t101).bind fun t104 => ((slices_Compact_string_string.f t104).bind fun t105 => (some t105))) = some r := H
 have A2 := Aside0.mk A20
 clear A20
 replace H := Option.bind_eq_some_iff.mp H
 obtain ⟨t104, A30, H⟩ := H
 replace H : ((slices_Compact_string_string.f t104).bind fun t105 => (some t105)) = some r := H
 have A3 := Aside0.mk A30
 clear A30
 replace H := Option.bind_eq_some_iff.mp H
 obtain ⟨t105, A40, H⟩ := H
 replace H : (some t105) = some r := H
 have A4 := Aside0.mk A40
 clear A40
 obtain rfl := Option.some.inj H
 go_enter Try.func50, Try.ntmps50
 go_wp2_with (first | ((with_reducible refine gate_callee (f := 66) rfl ?_); refine goesL_ (some 5) rfl rfl Try.func66 (by kernel_rfl) rfl #[.slice A0 l0.length c0] rfl (by (try simp only [List.map_toArray, List.map_cons, List.map_nil]); first | done | rfl | (simp only [List.length_drop, List.length_take]; rfl)) ?_; (with_reducible refine (slices_Clone_string_string.calls _ _ l0 t101 _ ?side1 ?side2 A2.out).mono ?_); (case side1 => repeat (first | exact HR0.out | (with_reducible refine Kd.C_alloc ?_ _) | (with_reducible refine Kd.C_drewN ?_ _) | (with_reducible refine Kd.C_drew ?_))); (case side2 => exact HC0.out); rintro e w5 ⟨v102, rfl, ho0, hb⟩; refine ⟨_, rfl, ?_⟩; have n0_ := Aside0.mk (Kd.R_lower ho0 (below_size (by repeat (first | (with_reducible first | exact HB.out | apply below_alloc | apply pw_below_drewN | apply below_drew1) | exact HB.out)))); have n1_ := Aside0.mk (below_step (by repeat (first | (with_reducible first | exact HB.out | apply below_alloc | apply pw_below_drewN | apply below_drew1) | exact HB.out)) hb); clear HB; have HO103 := n0_; have HB := n1_; clear n0_ n1_; (try clear hb); (try clear hb2); (try clear hk); (try clear hi); (try clear ho0); obtain ⟨Ao6, co6, eo6⟩ := Kd.R_slice HO103.out; subst eo6) | ((with_reducible refine gate_callee (f := 67) rfl ?_); refine goesL_ (some 7) rfl rfl Try.func67 (by kernel_rfl) rfl #[.slice Ao6 t101.length co6] rfl (by (try simp only [List.map_toArray, List.map_cons, List.map_nil]); first | done | rfl | (simp only [List.length_drop, List.length_take]; rfl)) ?_; (with_reducible refine (slices_Sort_string_string.calls (fun k_ => some k_ = (.slice Ao6 t101.length co6 : Value).ownBlock) (.slice Ao6 t101.length co6) t101 t104 w _ ?side1 ?side2 A3.out).mono ?_); (case side1 => repeat (first | (with_reducible first | exact HB.out | apply below_alloc | apply pw_below_drewN | apply below_drew1) | exact HB.out)); (case side2 => exact Kd.R_tight rfl HO103.out); rintro e w7 ⟨rfl, hy0, hb, hkp⟩; refine ⟨_, rfl, ?_⟩; have n0_ := Aside0.mk (Kd.R_reok rfl hy0 (fun k_ e_ => HO103.out.1 k_ e_)); have n1_ := Aside0.mk (hb); clear HO103; clear HB; have HO103 := n0_; have HB := n1_; clear n0_ n1_; (try clear hb); (try clear hkp); (try clear hy0)) | ((with_reducible refine gate_callee (f := 68) rfl ?_); refine goesL_ (some 9) rfl rfl Try.func68 (by kernel_rfl) rfl #[.slice Ao6 t101.length co6] rfl (by (try simp only [List.map_toArray, List.map_cons, List.map_nil]); first | done | rfl | (simp only [List.length_drop, List.length_take]; rfl)) ?_; (with_reducible refine (slices_Compact_string_string.calls (fun k_ => some k_ = (.slice Ao6 t101.length co6 : Value).ownBlock) (.slice Ao6 t101.length co6) t104 t105 w _ ?side1 ?side2 A4.out).mono ?_); (case side1 => repeat (first | (with_reducible first | exact HB.out | apply below_alloc | apply pw_below_drewN | apply below_drew1) | exact HB.out)); (case side2 => exact Kd.R_tight rfl HO103.out); rintro e w8 ⟨v106, rfl, ho0, hb, hkp⟩; refine ⟨_, rfl, ?_⟩; have n0_ := Aside0.mk (Kd.R_mono (ok' := fun k_ => True) ho0 (fun k_ hk_ => trivial)); have n1_ := Aside0.mk (hb); clear HB; clear HO103; have HO107 := n0_; have HB := n1_; clear n0_ n1_; (try clear hb); (try clear hkp); (try clear ho0)))
 go_ret
 exact ⟨_, by first | rfl | (simp [errW_none, errW_some] <;> rfl) | (simp [*, errW_none, errW_some] <;> rfl), by (with_reducible repeat (first | apply Kd.R_alloc | apply Kd.R_drewN | apply Kd.R_drew)); exact HO107.out, by repeat (first | (with_reducible first | exact HB.out | apply below_alloc | apply pw_below_drewN | apply below_drew1) | exact HB.out)⟩
def cfg_Uses.f (a0_0 : Int) (a0_1 : ByteArray) (a0_2 : ByteArray) (a0_3 : ByteArray) (a0_4 : ByteArray) (a0_5 : Int) (a0_6 : Int) (a0_7 : Int) : Option (List ByteArray) := if a0_0 = 2 then ((cfg_sorted_string.f (([a0_2, a0_3] : List ByteArray))).bind fun t105 => (some t105)) else (if a0_0 = 3 then ((cfg_sorted_string.f (([a0_2] : List ByteArray))).bind fun t111 => (some t111)) else (if a0_0 = 5 then ((cfg_sorted_string.f (([a0_2] : List ByteArray))).bind fun t117 => (some t117)) else (if a0_0 = 6 then ((cfg_sorted_string.f (([a0_2] : List ByteArray))).bind fun t123 => (some t123)) else (if a0_0 = 7 then ((cfg_sorted_string.f (([a0_2] : List ByteArray))).bind fun t129 => (some t129)) else (some ([] : List ByteArray))))))
set_option maxHeartbeats 8000000 in
set_option maxRecDepth 100000 in
theorem cfg_Uses.calls (a0_0 : Int) (a0_1 : ByteArray) (a0_2 : ByteArray) (a0_3 : ByteArray) (a0_4 : ByteArray) (a0_5 : Int) (a0_6 : Int) (a0_7 : Int) (r : List ByteArray) (w : World) (h : cfg_Uses.f a0_0 a0_1 a0_2 a0_3 a0_4 a0_5 a0_6 a0_7 = some r) :
  Calls Try.prog 22 #[.agg #[.int .i64 a0_0, .string a0_1, .string a0_2, .string a0_3, .string a0_4, .int .i64 a0_5, .int .i64 a0_6, .int .i64 a0_7]] w fun e w' => ∃ v0_ : Value, e = .returned (v0_) ∧ Kd.R Kd.string 9 w' w.heap.size (fun _ => True) v0_ r ∧ Below w.heap.size w w' := by
 have hu30 := Try.underlying30
 have HB := am (Below.refl w.heap.size w)
 have H : (if a0_0 = 2 then ((cfg_sorted_string.f (([a0_2, a0_3] : List ByteArray))).bind fun t105 => (some t105)) else (if a0_0 = 3 then ((cfg_sorted_string.f (([a0_2] : List ByteArray))).bind fun t111 => (some t111)) else (if a0_0 = 5 then ((cfg_sorted_string.f (([a0_2] : List ByteArray))).bind fun t117 => (some t117)) else (if a0_0 = 6 then ((cfg_sorted_string.f (([a0_2] : List ByteArray))).bind fun t123 => (some t123)) else (if a0_0 = 7 then ((cfg_sorted_string.f (([a0_2] : List ByteArray))).bind fun t129 => (some t129)) else (some ([] : List ByteArray))))))) = some r := h
 clear h
 by_cases c2 : a0_0 = 2
 ·rw [if_pos c2] at H
  have c2b0 : (a0_0 == 2) = true := beq_iff_eq.mpr c2
  have c2b1 : (a0_0 != 2) = false := bne_eq_false_iff_eq.mpr c2
  clear c2
  obtain ⟨y102, hy102⟩ : ∃ y_ : List ByteArray, y_ = (([a0_2, a0_3] : List ByteArray)) := ⟨_, rfl⟩
  replace H : ((cfg_sorted_string.f y102).bind fun t105 => (some t105)) = some r := by first | (rw [hy102]; with_reducible exact H) | (have H2_ := (Option.bind_some _ _).symm.trans H; rw [hy102]; with_reducible exact H2_) | (have H2_ := (Option.bind_some _ _).symm.trans H; with_reducible exact H2_) | with_reducible exact H | (rw [hy102]; exact H) | exact H
  have Ny102 := am hy102
  clear hy102
  replace H := Option.bind_eq_some_iff.mp H
  obtain ⟨t105, A30, H⟩ := H
  replace H : (some t105) = some r := H
  have A3 := am A30
  clear A30
  obtain rfl := Option.some.inj H
  go_enter Try.func22, Try.ntmps22
  go_wp2_with (first | ((with_reducible refine gate_dst (N := 1) rfl ?_); refine box_event ?hg (N := 1) ?hd (cs := #[.int .i64 a0_0, .string a0_1, .string a0_2, .string a0_3, .string a0_4, .int .i64 a0_5, .int .i64 a0_6, .int .i64 a0_7]) (t := 30) ?hr ?_; (case hd => rfl); (case hg => rfl); (case hr => first | (go_simp; done) | (go_simp; rfl)); intro gb101 hg w4 hbox hb; have BK101 := am (hbox); have GW101 := am ((by rw [hg]; exact (below_size (by repeat (first | (with_reducible first | exact HB.out | apply lA | apply lN | apply lD) | exact HB.out))) : w.heap.size ≤ gb101)); have GE101 := am ((by rw [hg]; exact (below_size (by repeat (first | (with_reducible first | exact HB.out | apply lA | apply lN | apply lD) | exact HB.out))) : w.heap.size ≤ gb101)); replace HB := am (below_step (by repeat (first | (with_reducible first | exact HB.out | apply lA | apply lN | apply lD) | exact HB.out)) hb); clear hb hbox hg; have hcz5_0 : w4.cell? ⟨gb101, 0, none⟩ = some (.int .i64 a0_0) := (blk_cell BK101.out 0).trans rfl; have hcz5_1 : w4.cell? ⟨gb101, 1, none⟩ = some (.string a0_1) := (blk_cell BK101.out 1).trans rfl; have hcz5_2 : w4.cell? ⟨gb101, 2, none⟩ = some (.string a0_2) := (blk_cell BK101.out 2).trans rfl; have hcz5_3 : w4.cell? ⟨gb101, 3, none⟩ = some (.string a0_3) := (blk_cell BK101.out 3).trans rfl; have hcz5_4 : w4.cell? ⟨gb101, 4, none⟩ = some (.string a0_4) := (blk_cell BK101.out 4).trans rfl; have hcz5_5 : w4.cell? ⟨gb101, 5, none⟩ = some (.int .i64 a0_5) := (blk_cell BK101.out 5).trans rfl; have hcz5_6 : w4.cell? ⟨gb101, 6, none⟩ = some (.int .i64 a0_6) := (blk_cell BK101.out 6).trans rfl; have hcz5_7 : w4.cell? ⟨gb101, 7, none⟩ = some (.int .i64 a0_7) := (blk_cell BK101.out 7).trans rfl; have hfz5_0 := blk_frozen BK101.out 0; have hfz5_1 := blk_frozen BK101.out 1; have hfz5_2 := blk_frozen BK101.out 2; have hfz5_3 := blk_frozen BK101.out 3; have hfz5_4 := blk_frozen BK101.out 4; have hfz5_5 := blk_frozen BK101.out 5; have hfz5_6 := blk_frozen BK101.out 6; have hfz5_7 := blk_frozen BK101.out 7) | ((with_reducible refine gate_dst (N := 11) rfl ?_); refine Kd.R_lit Kd.string _ 9 ?hg (N := 11) ?hd (xs := ([a0_2, a0_3] : List ByteArray)) (inner := [.string a0_2, .string a0_3]) (ok := fun _ => True) (okp := fun _ => True) ?hr ?hp (fun _ hk => hk) trivial (Below.refl _ _) (Nat.le_refl _) (by simp) ?_; (case hd => rfl); (case hg => rfl); (case hr => first | (go_simp; done) | (go_simp; rfl)); (case hp => exact (Reps.one (show Kd.M Kd.string _ _ _ a0_2 [.string a0_2] from rfl) (Reps.one (show Kd.M Kd.string _ _ _ a0_3 [.string a0_3] from rfl) (Reps.none _ _)))); intro v103 w6 ho7 hb hg_ hnew_; clear hg_ hnew_; (first | rw [← Ny102.out] at ho7 | (simp only [Int.reduceToNat] at ho7; rw [← Ny102.out] at ho7)); have HO104 := am (Kd.R_lower ho7 (below_size (by repeat (first | (with_reducible first | exact HB.out | apply lA | apply lN | apply lD | refine lS ?_ GE101.out) | exact HB.out)))); replace BK101 := am (blk_below (g := gb101) (o := .cells #[.int .i64 a0_0, .string a0_1, .string a0_2, .string a0_3, .string a0_4, .int .i64 a0_5, .int .i64 a0_6, .int .i64 a0_7] 30 (0, 0)) (by (with_reducible repeat (first | refine bN ?_ _ | refine bD ?_ | refine bA ?_ _)); exact BK101.out) hb); replace HB := am (below_step (by repeat (first | (with_reducible first | exact HB.out | apply lA | apply lN | apply lD | refine lS ?_ GE101.out) | exact HB.out)) hb); clear hb ho7; obtain ⟨Ao8, co8, eo8⟩ := Kd.R_slice HO104.out; subst eo8) | ((with_reducible refine gate_callee (f := 50) rfl ?_); refine goesL_ (some 12) rfl rfl Try.func50 (by kernel_rfl) rfl #[.slice Ao8 y102.length co8] rfl (by (try simp only [List.map_toArray, List.map_cons, List.map_nil]); first | done | rfl | (simp only [List.length_drop, List.length_take]; rfl)) ?_; (with_reducible refine (cfg_sorted_string.calls _ _ y102 t105 _ ?side1 ?side2 A3.out).mono ?_); (case side1 => repeat (first | exact (Kd.R_reads' HO104.out).2.2 | (with_reducible refine Kd.C_alloc ?_ _) | (with_reducible refine Kd.C_drewN ?_ _) | (with_reducible refine Kd.C_drew ?_))); (case side2 => exact (Kd.R_reads' HO104.out).2.1); rintro e w9 ⟨v106, rfl, ho0, hb⟩; refine ⟨_, rfl, ?_⟩; have HO107 := am (Kd.R_lower (Kd.R_new' ho0 (Kd.R_lt (by (with_reducible repeat (first | apply Ra | apply Rn | apply Rd)); exact HO104.out))) (below_size (by repeat (first | (with_reducible first | exact HB.out | apply lA | apply lN | apply lD | refine lS ?_ GE101.out) | exact HB.out)))); replace HO104 := am (Kd.R_elder' (by (with_reducible repeat (first | apply Ra | apply Rn | apply Rd)); exact HO104.out) (Kd.R_base ho0) hb); replace BK101 := am (blk_below (g := gb101) (o := .cells #[.int .i64 a0_0, .string a0_1, .string a0_2, .string a0_3, .string a0_4, .int .i64 a0_5, .int .i64 a0_6, .int .i64 a0_7] 30 (0, 0)) (by (with_reducible repeat (first | refine bN ?_ _ | refine bD ?_ | refine bA ?_ _)); exact BK101.out) hb); replace HB := am (below_step (by repeat (first | (with_reducible first | exact HB.out | apply lA | apply lN | apply lD | refine lS ?_ GE101.out) | exact HB.out)) hb); (try clear hb); (try clear hb2); (try clear hk); (try clear hi); (try clear ho0)))
  go_ret
  exact ⟨_, by first | rfl | (simp [errW_none, errW_some] <;> rfl) | (simp [*, errW_none, errW_some] <;> rfl), by (with_reducible repeat (first | apply Ra | apply Rn | apply Rd)); exact Kd.R_mono HO107.out (fun _ hk => trivial), by repeat (first | (with_reducible first | exact HB.out | apply lA | apply lN | apply lD | refine lS ?_ GE101.out) | exact HB.out)⟩
 ·rw [if_neg c2] at H
  have c2b0 : (a0_0 == 2) = false := beq_eq_false_iff_ne.mpr c2
  have c2b1 : (a0_0 != 2) = true := bne_iff_ne.mpr c2
  by_cases c10 : a0_0 = 3
  ·rw [if_pos c10] at H
   have c10b0 : (a0_0 == 3) = true := beq_iff_eq.mpr c10
   have c10b1 : (a0_0 != 3) = false := bne_eq_false_iff_eq.mpr c10
   clear c10
   obtain ⟨y108, hy108⟩ : ∃ y_ : List ByteArray, y_ = (([a0_2] : List ByteArray)) := ⟨_, rfl⟩
   replace H : ((cfg_sorted_string.f y108).bind fun t111 => (some t111)) = some r := by first | (rw [hy108]; with_reducible exact H) | (have H2_ := (Option.bind_some _ _).symm.trans H; rw [hy108]; with_reducible exact H2_) | (have H2_ := (Option.bind_some _ _).symm.trans H; with_reducible exact H2_) | with_reducible exact H | (rw [hy108]; exact H) | exact H
   have Ny108 := am hy108
   clear hy108
   replace H := Option.bind_eq_some_iff.mp H
   obtain ⟨t111, A110, H⟩ := H
   replace H : (some t111) = some r := H
   have A11 := am A110
   clear A110
   obtain rfl := Option.some.inj H
   go_enter Try.func22, Try.ntmps22
   go_wp2_with (first | ((with_reducible refine gate_dst (N := 1) rfl ?_); refine box_event ?hg (N := 1) ?hd (cs := #[.int .i64 a0_0, .string a0_1, .string a0_2, .string a0_3, .string a0_4, .int .i64 a0_5, .int .i64 a0_6, .int .i64 a0_7]) (t := 30) ?hr ?_; (case hd => rfl); (case hg => rfl); (case hr => first | (go_simp; done) | (go_simp; rfl)); intro gb101 hg w12 hbox hb; have BK101 := am (hbox); have GW101 := am ((by rw [hg]; exact (below_size (by repeat (first | (with_reducible first | exact HB.out | apply lA | apply lN | apply lD) | exact HB.out))) : w.heap.size ≤ gb101)); have GE101 := am ((by rw [hg]; exact (below_size (by repeat (first | (with_reducible first | exact HB.out | apply lA | apply lN | apply lD) | exact HB.out))) : w.heap.size ≤ gb101)); replace HB := am (below_step (by repeat (first | (with_reducible first | exact HB.out | apply lA | apply lN | apply lD) | exact HB.out)) hb); clear hb hbox hg; have hcz13_0 : w12.cell? ⟨gb101, 0, none⟩ = some (.int .i64 a0_0) := (blk_cell BK101.out 0).trans rfl; have hcz13_1 : w12.cell? ⟨gb101, 1, none⟩ = some (.string a0_1) := (blk_cell BK101.out 1).trans rfl; have hcz13_2 : w12.cell? ⟨gb101, 2, none⟩ = some (.string a0_2) := (blk_cell BK101.out 2).trans rfl; have hcz13_3 : w12.cell? ⟨gb101, 3, none⟩ = some (.string a0_3) := (blk_cell BK101.out 3).trans rfl; have hcz13_4 : w12.cell? ⟨gb101, 4, none⟩ = some (.string a0_4) := (blk_cell BK101.out 4).trans rfl; have hcz13_5 : w12.cell? ⟨gb101, 5, none⟩ = some (.int .i64 a0_5) := (blk_cell BK101.out 5).trans rfl; have hcz13_6 : w12.cell? ⟨gb101, 6, none⟩ = some (.int .i64 a0_6) := (blk_cell BK101.out 6).trans rfl; have hcz13_7 : w12.cell? ⟨gb101, 7, none⟩ = some (.int .i64 a0_7) := (blk_cell BK101.out 7).trans rfl; have hfz13_0 := blk_frozen BK101.out 0; have hfz13_1 := blk_frozen BK101.out 1; have hfz13_2 := blk_frozen BK101.out 2; have hfz13_3 := blk_frozen BK101.out 3; have hfz13_4 := blk_frozen BK101.out 4; have hfz13_5 := blk_frozen BK101.out 5; have hfz13_6 := blk_frozen BK101.out 6; have hfz13_7 := blk_frozen BK101.out 7) | ((with_reducible refine gate_dst (N := 20) rfl ?_); refine Kd.R_lit Kd.string _ 9 ?hg (N := 20) ?hd (xs := ([a0_2] : List ByteArray)) (inner := [.string a0_2]) (ok := fun _ => True) (okp := fun _ => True) ?hr ?hp (fun _ hk => hk) trivial (Below.refl _ _) (Nat.le_refl _) (by simp) ?_; (case hd => rfl); (case hg => rfl); (case hr => first | (go_simp; done) | (go_simp; rfl)); (case hp => exact (Reps.one (show Kd.M Kd.string _ _ _ a0_2 [.string a0_2] from rfl) (Reps.none _ _))); intro v109 w14 ho15 hb hg_ hnew_; clear hg_ hnew_; (first | rw [← Ny108.out] at ho15 | (simp only [Int.reduceToNat] at ho15; rw [← Ny108.out] at ho15)); have HO110 := am (Kd.R_lower ho15 (below_size (by repeat (first | (with_reducible first | exact HB.out | apply lA | apply lN | apply lD | refine lS ?_ GE101.out) | exact HB.out)))); replace BK101 := am (blk_below (g := gb101) (o := .cells #[.int .i64 a0_0, .string a0_1, .string a0_2, .string a0_3, .string a0_4, .int .i64 a0_5, .int .i64 a0_6, .int .i64 a0_7] 30 (0, 0)) (by (with_reducible repeat (first | refine bN ?_ _ | refine bD ?_ | refine bA ?_ _)); exact BK101.out) hb); replace HB := am (below_step (by repeat (first | (with_reducible first | exact HB.out | apply lA | apply lN | apply lD | refine lS ?_ GE101.out) | exact HB.out)) hb); clear hb ho15; obtain ⟨Ao16, co16, eo16⟩ := Kd.R_slice HO110.out; subst eo16) | ((with_reducible refine gate_callee (f := 50) rfl ?_); refine goesL_ (some 21) rfl rfl Try.func50 (by kernel_rfl) rfl #[.slice Ao16 y108.length co16] rfl (by (try simp only [List.map_toArray, List.map_cons, List.map_nil]); first | done | rfl | (simp only [List.length_drop, List.length_take]; rfl)) ?_; (with_reducible refine (cfg_sorted_string.calls _ _ y108 t111 _ ?side1 ?side2 A11.out).mono ?_); (case side1 => repeat (first | exact (Kd.R_reads' HO110.out).2.2 | (with_reducible refine Kd.C_alloc ?_ _) | (with_reducible refine Kd.C_drewN ?_ _) | (with_reducible refine Kd.C_drew ?_))); (case side2 => exact (Kd.R_reads' HO110.out).2.1); rintro e w17 ⟨v112, rfl, ho0, hb⟩; refine ⟨_, rfl, ?_⟩; have HO113 := am (Kd.R_lower (Kd.R_new' ho0 (Kd.R_lt (by (with_reducible repeat (first | apply Ra | apply Rn | apply Rd)); exact HO110.out))) (below_size (by repeat (first | (with_reducible first | exact HB.out | apply lA | apply lN | apply lD | refine lS ?_ GE101.out) | exact HB.out)))); replace HO110 := am (Kd.R_elder' (by (with_reducible repeat (first | apply Ra | apply Rn | apply Rd)); exact HO110.out) (Kd.R_base ho0) hb); replace BK101 := am (blk_below (g := gb101) (o := .cells #[.int .i64 a0_0, .string a0_1, .string a0_2, .string a0_3, .string a0_4, .int .i64 a0_5, .int .i64 a0_6, .int .i64 a0_7] 30 (0, 0)) (by (with_reducible repeat (first | refine bN ?_ _ | refine bD ?_ | refine bA ?_ _)); exact BK101.out) hb); replace HB := am (below_step (by repeat (first | (with_reducible first | exact HB.out | apply lA | apply lN | apply lD | refine lS ?_ GE101.out) | exact HB.out)) hb); (try clear hb); (try clear hb2); (try clear hk); (try clear hi); (try clear ho0)))
   go_ret
   exact ⟨_, by first | rfl | (simp [errW_none, errW_some] <;> rfl) | (simp [*, errW_none, errW_some] <;> rfl), by (with_reducible repeat (first | apply Ra | apply Rn | apply Rd)); exact Kd.R_mono HO113.out (fun _ hk => trivial), by repeat (first | (with_reducible first | exact HB.out | apply lA | apply lN | apply lD | refine lS ?_ GE101.out) | exact HB.out)⟩
  ·rw [if_neg c10] at H
   have c10b0 : (a0_0 == 3) = false := beq_eq_false_iff_ne.mpr c10
   have c10b1 : (a0_0 != 3) = true := bne_iff_ne.mpr c10
   by_cases c18 : a0_0 = 5
   ·rw [if_pos c18] at H
    have c18b0 : (a0_0 == 5) = true := beq_iff_eq.mpr c18
    have c18b1 : (a0_0 != 5) = false := bne_eq_false_iff_eq.mpr c18
    clear c18
    obtain ⟨y114, hy114⟩ : ∃ y_ : List ByteArray, y_ = (([a0_2] : List ByteArray)) := ⟨_, rfl⟩
    replace H : ((cfg_sorted_string.f y114).bind fun t117 => (some t117)) = some r := by first | (rw [hy114]; with_reducible exact H) | (have H2_ := (Option.bind_some _ _).symm.trans H; rw [hy114]; with_reducible exact H2_) | (have H2_ := (Option.bind_some _ _).symm.trans H; with_reducible exact H2_) | with_reducible exact H | (rw [hy114]; exact H) | exact H
    have Ny114 := am hy114
    clear hy114
    replace H := Option.bind_eq_some_iff.mp H
    obtain ⟨t117, A190, H⟩ := H
    replace H : (some t117) = some r := H
    have A19 := am A190
    clear A190
    obtain rfl := Option.some.inj H
    go_enter Try.func22, Try.ntmps22
    go_wp2_with (first | ((with_reducible refine gate_dst (N := 1) rfl ?_); refine box_event ?hg (N := 1) ?hd (cs := #[.int .i64 a0_0, .string a0_1, .string a0_2, .string a0_3, .string a0_4, .int .i64 a0_5, .int .i64 a0_6, .int .i64 a0_7]) (t := 30) ?hr ?_; (case hd => rfl); (case hg => rfl); (case hr => first | (go_simp; done) | (go_simp; rfl)); intro gb101 hg w20 hbox hb; have BK101 := am (hbox); have GW101 := am ((by rw [hg]; exact (below_size (by repeat (first | (with_reducible first | exact HB.out | apply lA | apply lN | apply lD) | exact HB.out))) : w.heap.size ≤ gb101)); have GE101 := am ((by rw [hg]; exact (below_size (by repeat (first | (with_reducible first | exact HB.out | apply lA | apply lN | apply lD) | exact HB.out))) : w.heap.size ≤ gb101)); replace HB := am (below_step (by repeat (first | (with_reducible first | exact HB.out | apply lA | apply lN | apply lD) | exact HB.out)) hb); clear hb hbox hg; have hcz21_0 : w20.cell? ⟨gb101, 0, none⟩ = some (.int .i64 a0_0) := (blk_cell BK101.out 0).trans rfl; have hcz21_1 : w20.cell? ⟨gb101, 1, none⟩ = some (.string a0_1) := (blk_cell BK101.out 1).trans rfl; have hcz21_2 : w20.cell? ⟨gb101, 2, none⟩ = some (.string a0_2) := (blk_cell BK101.out 2).trans rfl; have hcz21_3 : w20.cell? ⟨gb101, 3, none⟩ = some (.string a0_3) := (blk_cell BK101.out 3).trans rfl; have hcz21_4 : w20.cell? ⟨gb101, 4, none⟩ = some (.string a0_4) := (blk_cell BK101.out 4).trans rfl; have hcz21_5 : w20.cell? ⟨gb101, 5, none⟩ = some (.int .i64 a0_5) := (blk_cell BK101.out 5).trans rfl; have hcz21_6 : w20.cell? ⟨gb101, 6, none⟩ = some (.int .i64 a0_6) := (blk_cell BK101.out 6).trans rfl; have hcz21_7 : w20.cell? ⟨gb101, 7, none⟩ = some (.int .i64 a0_7) := (blk_cell BK101.out 7).trans rfl; have hfz21_0 := blk_frozen BK101.out 0; have hfz21_1 := blk_frozen BK101.out 1; have hfz21_2 := blk_frozen BK101.out 2; have hfz21_3 := blk_frozen BK101.out 3; have hfz21_4 := blk_frozen BK101.out 4; have hfz21_5 := blk_frozen BK101.out 5; have hfz21_6 := blk_frozen BK101.out 6; have hfz21_7 := blk_frozen BK101.out 7) | ((with_reducible refine gate_dst (N := 20) rfl ?_); refine Kd.R_lit Kd.string _ 9 ?hg (N := 20) ?hd (xs := ([a0_2] : List ByteArray)) (inner := [.string a0_2]) (ok := fun _ => True) (okp := fun _ => True) ?hr ?hp (fun _ hk => hk) trivial (Below.refl _ _) (Nat.le_refl _) (by simp) ?_; (case hd => rfl); (case hg => rfl); (case hr => first | (go_simp; done) | (go_simp; rfl)); (case hp => exact (Reps.one (show Kd.M Kd.string _ _ _ a0_2 [.string a0_2] from rfl) (Reps.none _ _))); intro v115 w22 ho23 hb hg_ hnew_; clear hg_ hnew_; (first | rw [← Ny114.out] at ho23 | (simp only [Int.reduceToNat] at ho23; rw [← Ny114.out] at ho23)); have HO116 := am (Kd.R_lower ho23 (below_size (by repeat (first | (with_reducible first | exact HB.out | apply lA | apply lN | apply lD | refine lS ?_ GE101.out) | exact HB.out)))); replace BK101 := am (blk_below (g := gb101) (o := .cells #[.int .i64 a0_0, .string a0_1, .string a0_2, .string a0_3, .string a0_4, .int .i64 a0_5, .int .i64 a0_6, .int .i64 a0_7] 30 (0, 0)) (by (with_reducible repeat (first | refine bN ?_ _ | refine bD ?_ | refine bA ?_ _)); exact BK101.out) hb); replace HB := am (below_step (by repeat (first | (with_reducible first | exact HB.out | apply lA | apply lN | apply lD | refine lS ?_ GE101.out) | exact HB.out)) hb); clear hb ho23; obtain ⟨Ao24, co24, eo24⟩ := Kd.R_slice HO116.out; subst eo24) | ((with_reducible refine gate_callee (f := 50) rfl ?_); refine goesL_ (some 21) rfl rfl Try.func50 (by kernel_rfl) rfl #[.slice Ao24 y114.length co24] rfl (by (try simp only [List.map_toArray, List.map_cons, List.map_nil]); first | done | rfl | (simp only [List.length_drop, List.length_take]; rfl)) ?_; (with_reducible refine (cfg_sorted_string.calls _ _ y114 t117 _ ?side1 ?side2 A19.out).mono ?_); (case side1 => repeat (first | exact (Kd.R_reads' HO116.out).2.2 | (with_reducible refine Kd.C_alloc ?_ _) | (with_reducible refine Kd.C_drewN ?_ _) | (with_reducible refine Kd.C_drew ?_))); (case side2 => exact (Kd.R_reads' HO116.out).2.1); rintro e w25 ⟨v118, rfl, ho0, hb⟩; refine ⟨_, rfl, ?_⟩; have HO119 := am (Kd.R_lower (Kd.R_new' ho0 (Kd.R_lt (by (with_reducible repeat (first | apply Ra | apply Rn | apply Rd)); exact HO116.out))) (below_size (by repeat (first | (with_reducible first | exact HB.out | apply lA | apply lN | apply lD | refine lS ?_ GE101.out) | exact HB.out)))); replace HO116 := am (Kd.R_elder' (by (with_reducible repeat (first | apply Ra | apply Rn | apply Rd)); exact HO116.out) (Kd.R_base ho0) hb); replace BK101 := am (blk_below (g := gb101) (o := .cells #[.int .i64 a0_0, .string a0_1, .string a0_2, .string a0_3, .string a0_4, .int .i64 a0_5, .int .i64 a0_6, .int .i64 a0_7] 30 (0, 0)) (by (with_reducible repeat (first | refine bN ?_ _ | refine bD ?_ | refine bA ?_ _)); exact BK101.out) hb); replace HB := am (below_step (by repeat (first | (with_reducible first | exact HB.out | apply lA | apply lN | apply lD | refine lS ?_ GE101.out) | exact HB.out)) hb); (try clear hb); (try clear hb2); (try clear hk); (try clear hi); (try clear ho0)))
    go_ret
    exact ⟨_, by first | rfl | (simp [errW_none, errW_some] <;> rfl) | (simp [*, errW_none, errW_some] <;> rfl), by (with_reducible repeat (first | apply Ra | apply Rn | apply Rd)); exact Kd.R_mono HO119.out (fun _ hk => trivial), by repeat (first | (with_reducible first | exact HB.out | apply lA | apply lN | apply lD | refine lS ?_ GE101.out) | exact HB.out)⟩
   ·rw [if_neg c18] at H
    have c18b0 : (a0_0 == 5) = false := beq_eq_false_iff_ne.mpr c18
    have c18b1 : (a0_0 != 5) = true := bne_iff_ne.mpr c18
    by_cases c26 : a0_0 = 6
    ·rw [if_pos c26] at H
     have c26b0 : (a0_0 == 6) = true := beq_iff_eq.mpr c26
     have c26b1 : (a0_0 != 6) = false := bne_eq_false_iff_eq.mpr c26
     clear c26
     obtain ⟨y120, hy120⟩ : ∃ y_ : List ByteArray, y_ = (([a0_2] : List ByteArray)) := ⟨_, rfl⟩
     replace H : ((cfg_sorted_string.f y120).bind fun t123 => (some t123)) = some r := by first | (rw [hy120]; with_reducible exact H) | (have H2_ := (Option.bind_some _ _).symm.trans H; rw [hy120]; with_reducible exact H2_) | (have H2_ := (Option.bind_some _ _).symm.trans H; with_reducible exact H2_) | with_reducible exact H | (rw [hy120]; exact H) | exact H
     have Ny120 := am hy120
     clear hy120
     replace H := Option.bind_eq_some_iff.mp H
     obtain ⟨t123, A270, H⟩ := H
     replace H : (some t123) = some r := H
     have A27 := am A270
     clear A270
     obtain rfl := Option.some.inj H
     go_enter Try.func22, Try.ntmps22
     go_wp2_with (first | ((with_reducible refine gate_dst (N := 1) rfl ?_); refine box_event ?hg (N := 1) ?hd (cs := #[.int .i64 a0_0, .string a0_1, .string a0_2, .string a0_3, .string a0_4, .int .i64 a0_5, .int .i64 a0_6, .int .i64 a0_7]) (t := 30) ?hr ?_; (case hd => rfl); (case hg => rfl); (case hr => first | (go_simp; done) | (go_simp; rfl)); intro gb101 hg w28 hbox hb; have BK101 := am (hbox); have GW101 := am ((by rw [hg]; exact (below_size (by repeat (first | (with_reducible first | exact HB.out | apply lA | apply lN | apply lD) | exact HB.out))) : w.heap.size ≤ gb101)); have GE101 := am ((by rw [hg]; exact (below_size (by repeat (first | (with_reducible first | exact HB.out | apply lA | apply lN | apply lD) | exact HB.out))) : w.heap.size ≤ gb101)); replace HB := am (below_step (by repeat (first | (with_reducible first | exact HB.out | apply lA | apply lN | apply lD) | exact HB.out)) hb); clear hb hbox hg; have hcz29_0 : w28.cell? ⟨gb101, 0, none⟩ = some (.int .i64 a0_0) := (blk_cell BK101.out 0).trans rfl; have hcz29_1 : w28.cell? ⟨gb101, 1, none⟩ = some (.string a0_1) := (blk_cell BK101.out 1).trans rfl; have hcz29_2 : w28.cell? ⟨gb101, 2, none⟩ = some (.string a0_2) := (blk_cell BK101.out 2).trans rfl; have hcz29_3 : w28.cell? ⟨gb101, 3, none⟩ = some (.string a0_3) := (blk_cell BK101.out 3).trans rfl; have hcz29_4 : w28.cell? ⟨gb101, 4, none⟩ = some (.string a0_4) := (blk_cell BK101.out 4).trans rfl; have hcz29_5 : w28.cell? ⟨gb101, 5, none⟩ = some (.int .i64 a0_5) := (blk_cell BK101.out 5).trans rfl; have hcz29_6 : w28.cell? ⟨gb101, 6, none⟩ = some (.int .i64 a0_6) := (blk_cell BK101.out 6).trans rfl; have hcz29_7 : w28.cell? ⟨gb101, 7, none⟩ = some (.int .i64 a0_7) := (blk_cell BK101.out 7).trans rfl; have hfz29_0 := blk_frozen BK101.out 0; have hfz29_1 := blk_frozen BK101.out 1; have hfz29_2 := blk_frozen BK101.out 2; have hfz29_3 := blk_frozen BK101.out 3; have hfz29_4 := blk_frozen BK101.out 4; have hfz29_5 := blk_frozen BK101.out 5; have hfz29_6 := blk_frozen BK101.out 6; have hfz29_7 := blk_frozen BK101.out 7) | ((with_reducible refine gate_dst (N := 20) rfl ?_); refine Kd.R_lit Kd.string _ 9 ?hg (N := 20) ?hd (xs := ([a0_2] : List ByteArray)) (inner := [.string a0_2]) (ok := fun _ => True) (okp := fun _ => True) ?hr ?hp (fun _ hk => hk) trivial (Below.refl _ _) (Nat.le_refl _) (by simp) ?_; (case hd => rfl); (case hg => rfl); (case hr => first | (go_simp; done) | (go_simp; rfl)); (case hp => exact (Reps.one (show Kd.M Kd.string _ _ _ a0_2 [.string a0_2] from rfl) (Reps.none _ _))); intro v121 w30 ho31 hb hg_ hnew_; clear hg_ hnew_; (first | rw [← Ny120.out] at ho31 | (simp only [Int.reduceToNat] at ho31; rw [← Ny120.out] at ho31)); have HO122 := am (Kd.R_lower ho31 (below_size (by repeat (first | (with_reducible first | exact HB.out | apply lA | apply lN | apply lD | refine lS ?_ GE101.out) | exact HB.out)))); replace BK101 := am (blk_below (g := gb101) (o := .cells #[.int .i64 a0_0, .string a0_1, .string a0_2, .string a0_3, .string a0_4, .int .i64 a0_5, .int .i64 a0_6, .int .i64 a0_7] 30 (0, 0)) (by (with_reducible repeat (first | refine bN ?_ _ | refine bD ?_ | refine bA ?_ _)); exact BK101.out) hb); replace HB := am (below_step (by repeat (first | (with_reducible first | exact HB.out | apply lA | apply lN | apply lD | refine lS ?_ GE101.out) | exact HB.out)) hb); clear hb ho31; obtain ⟨Ao32, co32, eo32⟩ := Kd.R_slice HO122.out; subst eo32) | ((with_reducible refine gate_callee (f := 50) rfl ?_); refine goesL_ (some 21) rfl rfl Try.func50 (by kernel_rfl) rfl #[.slice Ao32 y120.length co32] rfl (by (try simp only [List.map_toArray, List.map_cons, List.map_nil]); first | done | rfl | (simp only [List.length_drop, List.length_take]; rfl)) ?_; (with_reducible refine (cfg_sorted_string.calls _ _ y120 t123 _ ?side1 ?side2 A27.out).mono ?_); (case side1 => repeat (first | exact (Kd.R_reads' HO122.out).2.2 | (with_reducible refine Kd.C_alloc ?_ _) | (with_reducible refine Kd.C_drewN ?_ _) | (with_reducible refine Kd.C_drew ?_))); (case side2 => exact (Kd.R_reads' HO122.out).2.1); rintro e w33 ⟨v124, rfl, ho0, hb⟩; refine ⟨_, rfl, ?_⟩; have HO125 := am (Kd.R_lower (Kd.R_new' ho0 (Kd.R_lt (by (with_reducible repeat (first | apply Ra | apply Rn | apply Rd)); exact HO122.out))) (below_size (by repeat (first | (with_reducible first | exact HB.out | apply lA | apply lN | apply lD | refine lS ?_ GE101.out) | exact HB.out)))); replace HO122 := am (Kd.R_elder' (by (with_reducible repeat (first | apply Ra | apply Rn | apply Rd)); exact HO122.out) (Kd.R_base ho0) hb); replace BK101 := am (blk_below (g := gb101) (o := .cells #[.int .i64 a0_0, .string a0_1, .string a0_2, .string a0_3, .string a0_4, .int .i64 a0_5, .int .i64 a0_6, .int .i64 a0_7] 30 (0, 0)) (by (with_reducible repeat (first | refine bN ?_ _ | refine bD ?_ | refine bA ?_ _)); exact BK101.out) hb); replace HB := am (below_step (by repeat (first | (with_reducible first | exact HB.out | apply lA | apply lN | apply lD | refine lS ?_ GE101.out) | exact HB.out)) hb); (try clear hb); (try clear hb2); (try clear hk); (try clear hi); (try clear ho0)))
     go_ret
     exact ⟨_, by first | rfl | (simp [errW_none, errW_some] <;> rfl) | (simp [*, errW_none, errW_some] <;> rfl), by (with_reducible repeat (first | apply Ra | apply Rn | apply Rd)); exact Kd.R_mono HO125.out (fun _ hk => trivial), by repeat (first | (with_reducible first | exact HB.out | apply lA | apply lN | apply lD | refine lS ?_ GE101.out) | exact HB.out)⟩
    ·rw [if_neg c26] at H
     have c26b0 : (a0_0 == 6) = false := beq_eq_false_iff_ne.mpr c26
     have c26b1 : (a0_0 != 6) = true := bne_iff_ne.mpr c26
     by_cases c34 : a0_0 = 7
     ·rw [if_pos c34] at H
      have c34b0 : (a0_0 == 7) = true := beq_iff_eq.mpr c34
      have c34b1 : (a0_0 != 7) = false := bne_eq_false_iff_eq.mpr c34
      clear c34
      obtain ⟨y126, hy126⟩ : ∃ y_ : List ByteArray, y_ = (([a0_2] : List ByteArray)) := ⟨_, rfl⟩
      replace H : ((cfg_sorted_string.f y126).bind fun t129 => (some t129)) = some r := by first | (rw [hy126]; with_reducible exact H) | (have H2_ := (Option.bind_some _ _).symm.trans H; rw [hy126]; with_reducible exact H2_) | (have H2_ := (Option.bind_some _ _).symm.trans H; with_reducible exact H2_) | with_reducible exact H | (rw [hy126]; exact H) | exact H
      have Ny126 := am hy126
      clear hy126
      replace H := Option.bind_eq_some_iff.mp H
      obtain ⟨t129, A350, H⟩ := H
      replace H : (some t129) = some r := H
      have A35 := am A350
      clear A350
      obtain rfl := Option.some.inj H
      go_enter Try.func22, Try.ntmps22
      go_wp2_with (first | ((with_reducible refine gate_dst (N := 1) rfl ?_); refine box_event ?hg (N := 1) ?hd (cs := #[.int .i64 a0_0, .string a0_1, .string a0_2, .string a0_3, .string a0_4, .int .i64 a0_5, .int .i64 a0_6, .int .i64 a0_7]) (t := 30) ?hr ?_; (case hd => rfl); (case hg => rfl); (case hr => first | (go_simp; done) | (go_simp; rfl)); intro gb101 hg w36 hbox hb; have BK101 := am (hbox); have GW101 := am ((by rw [hg]; exact (below_size (by repeat (first | (with_reducible first | exact HB.out | apply lA | apply lN | apply lD) | exact HB.out))) : w.heap.size ≤ gb101)); have GE101 := am ((by rw [hg]; exact (below_size (by repeat (first | (with_reducible first | exact HB.out | apply lA | apply lN | apply lD) | exact HB.out))) : w.heap.size ≤ gb101)); replace HB := am (below_step (by repeat (first | (with_reducible first | exact HB.out | apply lA | apply lN | apply lD) | exact HB.out)) hb); clear hb hbox hg; have hcz37_0 : w36.cell? ⟨gb101, 0, none⟩ = some (.int .i64 a0_0) := (blk_cell BK101.out 0).trans rfl; have hcz37_1 : w36.cell? ⟨gb101, 1, none⟩ = some (.string a0_1) := (blk_cell BK101.out 1).trans rfl; have hcz37_2 : w36.cell? ⟨gb101, 2, none⟩ = some (.string a0_2) := (blk_cell BK101.out 2).trans rfl; have hcz37_3 : w36.cell? ⟨gb101, 3, none⟩ = some (.string a0_3) := (blk_cell BK101.out 3).trans rfl; have hcz37_4 : w36.cell? ⟨gb101, 4, none⟩ = some (.string a0_4) := (blk_cell BK101.out 4).trans rfl; have hcz37_5 : w36.cell? ⟨gb101, 5, none⟩ = some (.int .i64 a0_5) := (blk_cell BK101.out 5).trans rfl; have hcz37_6 : w36.cell? ⟨gb101, 6, none⟩ = some (.int .i64 a0_6) := (blk_cell BK101.out 6).trans rfl; have hcz37_7 : w36.cell? ⟨gb101, 7, none⟩ = some (.int .i64 a0_7) := (blk_cell BK101.out 7).trans rfl; have hfz37_0 := blk_frozen BK101.out 0; have hfz37_1 := blk_frozen BK101.out 1; have hfz37_2 := blk_frozen BK101.out 2; have hfz37_3 := blk_frozen BK101.out 3; have hfz37_4 := blk_frozen BK101.out 4; have hfz37_5 := blk_frozen BK101.out 5; have hfz37_6 := blk_frozen BK101.out 6; have hfz37_7 := blk_frozen BK101.out 7) | ((with_reducible refine gate_dst (N := 20) rfl ?_); refine Kd.R_lit Kd.string _ 9 ?hg (N := 20) ?hd (xs := ([a0_2] : List ByteArray)) (inner := [.string a0_2]) (ok := fun _ => True) (okp := fun _ => True) ?hr ?hp (fun _ hk => hk) trivial (Below.refl _ _) (Nat.le_refl _) (by simp) ?_; (case hd => rfl); (case hg => rfl); (case hr => first | (go_simp; done) | (go_simp; rfl)); (case hp => exact (Reps.one (show Kd.M Kd.string _ _ _ a0_2 [.string a0_2] from rfl) (Reps.none _ _))); intro v127 w38 ho39 hb hg_ hnew_; clear hg_ hnew_; (first | rw [← Ny126.out] at ho39 | (simp only [Int.reduceToNat] at ho39; rw [← Ny126.out] at ho39)); have HO128 := am (Kd.R_lower ho39 (below_size (by repeat (first | (with_reducible first | exact HB.out | apply lA | apply lN | apply lD | refine lS ?_ GE101.out) | exact HB.out)))); replace BK101 := am (blk_below (g := gb101) (o := .cells #[.int .i64 a0_0, .string a0_1, .string a0_2, .string a0_3, .string a0_4, .int .i64 a0_5, .int .i64 a0_6, .int .i64 a0_7] 30 (0, 0)) (by (with_reducible repeat (first | refine bN ?_ _ | refine bD ?_ | refine bA ?_ _)); exact BK101.out) hb); replace HB := am (below_step (by repeat (first | (with_reducible first | exact HB.out | apply lA | apply lN | apply lD | refine lS ?_ GE101.out) | exact HB.out)) hb); clear hb ho39; obtain ⟨Ao40, co40, eo40⟩ := Kd.R_slice HO128.out; subst eo40) | ((with_reducible refine gate_callee (f := 50) rfl ?_); refine goesL_ (some 21) rfl rfl Try.func50 (by kernel_rfl) rfl #[.slice Ao40 y126.length co40] rfl (by (try simp only [List.map_toArray, List.map_cons, List.map_nil]); first | done | rfl | (simp only [List.length_drop, List.length_take]; rfl)) ?_; (with_reducible refine (cfg_sorted_string.calls _ _ y126 t129 _ ?side1 ?side2 A35.out).mono ?_); (case side1 => repeat (first | exact (Kd.R_reads' HO128.out).2.2 | (with_reducible refine Kd.C_alloc ?_ _) | (with_reducible refine Kd.C_drewN ?_ _) | (with_reducible refine Kd.C_drew ?_))); (case side2 => exact (Kd.R_reads' HO128.out).2.1); rintro e w41 ⟨v130, rfl, ho0, hb⟩; refine ⟨_, rfl, ?_⟩; have HO131 := am (Kd.R_lower (Kd.R_new' ho0 (Kd.R_lt (by (with_reducible repeat (first | apply Ra | apply Rn | apply Rd)); exact HO128.out))) (below_size (by repeat (first | (with_reducible first | exact HB.out | apply lA | apply lN | apply lD | refine lS ?_ GE101.out) | exact HB.out)))); replace HO128 := am (Kd.R_elder' (by (with_reducible repeat (first | apply Ra | apply Rn | apply Rd)); exact HO128.out) (Kd.R_base ho0) hb); replace BK101 := am (blk_below (g := gb101) (o := .cells #[.int .i64 a0_0, .string a0_1, .string a0_2, .string a0_3, .string a0_4, .int .i64 a0_5, .int .i64 a0_6, .int .i64 a0_7] 30 (0, 0)) (by (with_reducible repeat (first | refine bN ?_ _ | refine bD ?_ | refine bA ?_ _)); exact BK101.out) hb); replace HB := am (below_step (by repeat (first | (with_reducible first | exact HB.out | apply lA | apply lN | apply lD | refine lS ?_ GE101.out) | exact HB.out)) hb); (try clear hb); (try clear hb2); (try clear hk); (try clear hi); (try clear ho0)))
      go_ret
      exact ⟨_, by first | rfl | (simp [errW_none, errW_some] <;> rfl) | (simp [*, errW_none, errW_some] <;> rfl), by (with_reducible repeat (first | apply Ra | apply Rn | apply Rd)); exact Kd.R_mono HO131.out (fun _ hk => trivial), by repeat (first | (with_reducible first | exact HB.out | apply lA | apply lN | apply lD | refine lS ?_ GE101.out) | exact HB.out)⟩
     ·rw [if_neg c34] at H
      have c34b0 : (a0_0 == 7) = false := beq_eq_false_iff_ne.mpr c34
      have c34b1 : (a0_0 != 7) = true := bne_iff_ne.mpr c34
      obtain rfl := Option.some.inj H
      go_enter Try.func22, Try.ntmps22
      go_wp2_with (first | ((with_reducible refine gate_dst (N := 1) rfl ?_); refine box_event ?hg (N := 1) ?hd (cs := #[.int .i64 a0_0, .string a0_1, .string a0_2, .string a0_3, .string a0_4, .int .i64 a0_5, .int .i64 a0_6, .int .i64 a0_7]) (t := 30) ?hr ?_; (case hd => rfl); (case hg => rfl); (case hr => first | (go_simp; done) | (go_simp; rfl)); intro gb101 hg w42 hbox hb; have BK101 := am (hbox); have GW101 := am ((by rw [hg]; exact (below_size (by repeat (first | (with_reducible first | exact HB.out | apply lA | apply lN | apply lD) | exact HB.out))) : w.heap.size ≤ gb101)); have GE101 := am ((by rw [hg]; exact (below_size (by repeat (first | (with_reducible first | exact HB.out | apply lA | apply lN | apply lD) | exact HB.out))) : w.heap.size ≤ gb101)); replace HB := am (below_step (by repeat (first | (with_reducible first | exact HB.out | apply lA | apply lN | apply lD) | exact HB.out)) hb); clear hb hbox hg; have hcz43_0 : w42.cell? ⟨gb101, 0, none⟩ = some (.int .i64 a0_0) := (blk_cell BK101.out 0).trans rfl; have hcz43_1 : w42.cell? ⟨gb101, 1, none⟩ = some (.string a0_1) := (blk_cell BK101.out 1).trans rfl; have hcz43_2 : w42.cell? ⟨gb101, 2, none⟩ = some (.string a0_2) := (blk_cell BK101.out 2).trans rfl; have hcz43_3 : w42.cell? ⟨gb101, 3, none⟩ = some (.string a0_3) := (blk_cell BK101.out 3).trans rfl; have hcz43_4 : w42.cell? ⟨gb101, 4, none⟩ = some (.string a0_4) := (blk_cell BK101.out 4).trans rfl; have hcz43_5 : w42.cell? ⟨gb101, 5, none⟩ = some (.int .i64 a0_5) := (blk_cell BK101.out 5).trans rfl; have hcz43_6 : w42.cell? ⟨gb101, 6, none⟩ = some (.int .i64 a0_6) := (blk_cell BK101.out 6).trans rfl; have hcz43_7 : w42.cell? ⟨gb101, 7, none⟩ = some (.int .i64 a0_7) := (blk_cell BK101.out 7).trans rfl; have hfz43_0 := blk_frozen BK101.out 0; have hfz43_1 := blk_frozen BK101.out 1; have hfz43_2 := blk_frozen BK101.out 2; have hfz43_3 := blk_frozen BK101.out 3; have hfz43_4 := blk_frozen BK101.out 4; have hfz43_5 := blk_frozen BK101.out 5; have hfz43_6 := blk_frozen BK101.out 6; have hfz43_7 := blk_frozen BK101.out 7))
      go_ret
      exact ⟨_, by first | rfl | (simp [errW_none, errW_some] <;> rfl) | (simp [*, errW_none, errW_some] <;> rfl), by first | exact Kd.R_nil _ _ _ _ _ | exact Kd.N_nil _ _ _ _ _ | exact Kd.V_nil _ _ _ _ _ | exact Kd.Q_nil _ _ _ _ _ | exact Kd.S_nil _ _ _ _ _, by repeat (first | (with_reducible first | exact HB.out | apply lA | apply lN | apply lD | refine lS ?_ GE101.out) | exact HB.out)⟩
end Go.Proofs.Ytnepgcbgkhikkaa.H
namespace Go.Proofs.Ytnepgcbgkhikkaa.H
open Go.RowKit Go.Proofs.YtnepgcbgkhikkaaW.PrintWords
theorem srtS1 (a : ByteArray) : compactS (sortS [a]) = [a] := by
  simp [compactS, sortS, Go.Lib.compact, Go.Lib.compactUpTo, Go.Lib.keeps, List.filter, List.range_succ, ofL_toL, toL_ofL]
def defN (st : Stmt) : ByteArray × Bool := if st.kind = 1 ∨ st.kind = 2 ∨ st.kind = 3 ∨ st.kind = 4 ∨ st.kind = 5 then (st.x, true) else ((⟨#[]⟩ : ByteArray), false)
theorem Def_eq (st : Stmt) : cfg_Def.f st.kind st.x st.y st.z st.op st.n st.a st.b = some (defN st) := by
  unfold cfg_Def.f defN
  repeat' split
  all_goals first | rfl | (exfalso; omega)
theorem clone1 (a : ByteArray) : cfg_sorted_string.f [a] = some [a] := by
  simp [cfg_sorted_string.f, slices_Clone_string_string.f, slices_Sort_string_string.f, slices_Compact_string_string.f, srtS1]
theorem clone2 (a b : ByteArray) : cfg_sorted_string.f [a, b] = some (compactS (sortS [a, b])) := by
  simp [cfg_sorted_string.f, slices_Clone_string_string.f, slices_Sort_string_string.f, slices_Compact_string_string.f]
def usesS (st : Stmt) : List ByteArray := if st.kind = 2 then compactS (sortS [st.y, st.z]) else if st.kind = 3 ∨ st.kind = 5 ∨ st.kind = 6 ∨ st.kind = 7 then [st.y] else []
theorem Uses_eq (st : Stmt) : cfg_Uses.f st.kind st.x st.y st.z st.op st.n st.a st.b = some (usesS st) := by
  unfold cfg_Uses.f usesS
  simp only [clone1, clone2, Option.bind_some]
  repeat' split
  all_goals first | rfl | (exfalso; omega)
theorem usesS_len (st : Stmt) : (usesS st).length ≤ 2 := by
  unfold usesS
  repeat' split
  · exact Nat.le_trans (compactS_len _) (by rw [sortS_len]; simp)
  · simp
  · simp
section
variable {α : Type} [Inhabited α] [DecidableEq α]
theorem cut_mem (d : Array α) : ∀ (m : Nat), ∀ x, x ∈ Go.Lib.compactUpTo d m ↔ ∃ j, j < m ∧ d[j]! = x
  | 0, x => by simp [Go.Lib.compactUpTo]
  | m + 1, x => by
    rw [Go.Lib.compactUpTo_succ, List.mem_append, cut_mem d m x]
    constructor
    · rintro (⟨j, h1, h2⟩ | h)
      · exact ⟨j, by omega, h2⟩
      · split at h
        · exact ⟨m, by omega, by simpa using (List.mem_singleton.1 h).symm⟩
        · simp at h
    · rintro ⟨j, h1, h2⟩
      rcases Nat.lt_or_ge j m with h | h
      · exact .inl ⟨j, h, h2⟩
      · obtain rfl : j = m := by omega
        by_cases hk : Go.Lib.keeps d j = true
        · exact .inr (by rw [if_pos hk]; simp [h2])
        · left
          have : 0 < j ∧ d[j]! = d[j - 1]! := by
            unfold Go.Lib.keeps at hk
            simp at hk
            refine ⟨by omega, ?_⟩
            simpa using hk.2
          exact ⟨j - 1, by omega, by rw [← this.2]; exact h2⟩
theorem cut_sorted (lt : α → α → Prop) (le : α → α → Prop) (hle : ∀ a b c, le a b → le b c → le a c) (hlt : ∀ a b, le a b → a ≠ b → lt a b) (hll : ∀ a b c, le a b → lt b c → lt a c) (d : Array α) (hd : ∀ i j, i ≤ j → j < d.size → le d[i]! d[j]!) : ∀ (m : Nat), m ≤ d.size → (Go.Lib.compactUpTo d m).Pairwise lt
  | 0, _ => by simp [Go.Lib.compactUpTo]
  | m + 1, hm => by
    rw [Go.Lib.compactUpTo_succ, List.pairwise_append]
    refine ⟨cut_sorted lt le hle hlt hll d hd m (by omega), by split <;> simp, fun x hx y hy => ?_⟩
    split at hy
    case isFalse => simp at hy
    rename_i hk
    obtain ⟨j, hj, rfl⟩ := (cut_mem d m x).1 hx
    rw [List.mem_singleton.1 hy]
    unfold Go.Lib.keeps at hk
    simp at hk
    have hne : d[m - 1]! ≠ d[m]! := by
      intro e
      rcases hk with h | h
      · omega
      · exact h (by simpa using e.symm)
    exact hll _ _ _ (hd j (m - 1) (by omega) (by omega)) (hlt _ _ (hd (m - 1) m (by omega) (by omega)) hne)
end
def setS (l : List ByteArray) : List ByteArray := compactS (sortS l)
theorem toL_inj {a b : ByteArray} (h : toL a = toL b) : a = b := by rw [← ofL_toL a, ← ofL_toL b, h]
theorem map_toL_setS (l : List ByteArray) : (setS l).map toL = Go.Lib.compact ((l.map toL).mergeSort fun x y => decide (x ≤ y)) := by
  unfold setS compactS sortS
  rw [List.map_map, List.map_map]
  have e1 : ((toL ∘ ofL) : List UInt8 → List UInt8) = id := by funext x; simp [toL_ofL]
  rw [e1, List.map_id, List.map_id]
theorem mem_setS {l : List ByteArray} {x : ByteArray} : x ∈ setS l ↔ x ∈ l := by
  have h1 : x ∈ setS l ↔ toL x ∈ (setS l).map toL := by
    rw [List.mem_map]
    exact ⟨fun h => ⟨x, h, rfl⟩, fun ⟨y, h, e⟩ => toL_inj e ▸ h⟩
  have h2 : x ∈ l ↔ toL x ∈ (l.map toL).mergeSort fun x y => decide (x ≤ y) := by
    rw [List.mem_mergeSort, List.mem_map]
    exact ⟨fun h => ⟨x, h, rfl⟩, fun ⟨y, h, e⟩ => toL_inj e ▸ h⟩
  rw [h1, h2, map_toL_setS]
  unfold Go.Lib.compact
  generalize ((l.map toL).mergeSort fun x y => decide (x ≤ y)) = s
  rw [cut_mem, List.mem_iff_getElem]
  constructor
  · rintro ⟨j, hj, e⟩
    exact ⟨j, hj, by simpa [hj] using e⟩
  · rintro ⟨j, hj, e⟩
    exact ⟨j, hj, by simpa [hj] using e⟩
theorem setS_sorted (l : List ByteArray) : ((setS l).map toL).Pairwise (· < ·) := by
  rw [map_toL_setS]
  have hs := List.pairwise_mergeSort (le := fun x y : List UInt8 => decide (x ≤ y)) (by intro a b c; simp; exact fun h1 h2 => List.le_trans h1 h2) (by intro a b; simp; exact List.le_total a b) (l.map toL)
  unfold Go.Lib.compact
  revert hs
  generalize ((l.map toL).mergeSort fun x y => decide (x ≤ y)) = s
  intro hs
  refine cut_sorted (· < ·) (· ≤ ·) (fun a b c => List.le_trans) (fun a b h hne => ?_) (fun a b c => List.lt_of_le_of_lt) s.toArray (fun i j hij hj => ?_) s.length (by simp)
  · rcases List.le_iff_lt_or_eq.1 h with h | h
    · exact h
    · exact absurd h hne
  · simp at hj
    rcases Nat.lt_or_ge i j with h | h
    · have := List.pairwise_iff_getElem.1 hs i j (by omega) hj h
      simpa [hj, show i < s.length by omega] using this
    · obtain rfl : i = j := by omega
      exact List.le_refl _
theorem setS_ext {l l' : List ByteArray} (h : ∀ x, x ∈ l ↔ x ∈ l') : setS l = setS l' := by
  have e : (setS l).map toL = (setS l').map toL := by
    have n1 : ((setS l).map toL).Nodup := List.Pairwise.imp (R := (· < ·)) (fun {a b} h => by rintro rfl; exact List.lt_irrefl a h) (setS_sorted l)
    have n2 : ((setS l').map toL).Nodup := List.Pairwise.imp (R := (· < ·)) (fun {a b} h => by rintro rfl; exact List.lt_irrefl a h) (setS_sorted l')
    refine List.Perm.eq_of_pairwise (le := (· < ·)) ?_ (setS_sorted l) (setS_sorted l') ((List.perm_ext_iff_of_nodup n1 n2).2 fun x => ?_)
    · intro a b _ _ h1 h2
      exact absurd (List.lt_trans h1 h2) (List.lt_irrefl a)
    · rw [List.mem_map, List.mem_map]
      constructor
      · rintro ⟨y, hy, rfl⟩; exact ⟨y, mem_setS.2 ((h y).1 (mem_setS.1 hy)), rfl⟩
      · rintro ⟨y, hy, rfl⟩; exact ⟨y, mem_setS.2 ((h y).2 (mem_setS.1 hy)), rfl⟩
  have := congrArg (List.map ofL) e
  rw [List.map_map, List.map_map] at this
  have e2 : (ofL ∘ toL) = (id : ByteArray → ByteArray) := by funext x; simp [ofL_toL]
  simpa [e2] using this
theorem setS_len (l : List ByteArray) : (setS l).length ≤ l.length := by
  have := compactS_len (sortS l)
  rw [sortS_len] at this
  exact this
end Go.Proofs.Ytnepgcbgkhikkaa.H
namespace Go.Proofs.Ytnepgcbgkhikkaa.H
open Go.RowKit Go.Proofs.YtnepgcbgkhikkaaW.PrintWords Go.Proofs.YtnepgcbgkhikkaaW.PrintLast Go.Proofs.YtnepgcbgkhikkaaW.PrintMore
attribute [local go_sem] max2_int min2_int max_two min_two max_three min_three max_four min_four
def cfg_Names.l0 : Nat → List ByteArray → List (Stmt) → Int → Int → Option (List ByteArray)
 | 0, _, _, _, _ => none
 | k + 1, x3, x8, x9, x10 => if x10 < x9 then (if 0 ≤ x10 then (if x10 < (x8.length : Int) then ((cfg_Def.f ((rd_T30 x8 x10).kind) ((rd_T30 x8 x10).x) ((rd_T30 x8 x10).y) ((rd_T30 x8 x10).z) ((rd_T30 x8 x10).op) ((rd_T30 x8 x10).n) ((rd_T30 x8 x10).a) ((rd_T30 x8 x10).b)).bind fun bt106 => (if bt106.2 = true then (if x3.length < 8796093022208 then ((some (x3 ++ [bt106.1] : List ByteArray)).bind fun y108 => ((cfg_Uses.f ((rd_T30 x8 x10).kind) ((rd_T30 x8 x10).x) ((rd_T30 x8 x10).y) ((rd_T30 x8 x10).z) ((rd_T30 x8 x10).op) ((rd_T30 x8 x10).n) ((rd_T30 x8 x10).a) ((rd_T30 x8 x10).b)).bind fun t111 => (if y108.length + t111.length < 8796093022208 then (cfg_Names.l0 k (y108 ++ t111) x8 x9 (wrap64 (x10 + 1))) else (none)))) else (none)) else ((cfg_Uses.f ((rd_T30 x8 x10).kind) ((rd_T30 x8 x10).x) ((rd_T30 x8 x10).y) ((rd_T30 x8 x10).z) ((rd_T30 x8 x10).op) ((rd_T30 x8 x10).n) ((rd_T30 x8 x10).a) ((rd_T30 x8 x10).b)).bind fun t117 => (if x3.length + t117.length < 8796093022208 then (cfg_Names.l0 k (x3 ++ t117) x8 x9 (wrap64 (x10 + 1))) else (none))))) else (none)) else (none)) else ((cfg_sorted_string.f x3).bind fun t101 => (some t101))
def cfg_Names.f (k : Nat) (l0 : List (Stmt)) : Option (List ByteArray) := cfg_Names.l0 k ([] : List ByteArray) l0 (l0.length : Int) 0
theorem cfg_Names.mono_l : ∀ k, (∀ y0 y1 y2 y3, LeO (cfg_Names.l0 k y0 y1 y2 y3) (cfg_Names.l0 (k + 1) y0 y1 y2 y3))
 | 0 => fun _ _ _ _ r h => by simp [cfg_Names.l0] at h
 | k + 1 => by
  have ih0 := cfg_Names.mono_l k
  ·intro y0 y1 y2 y3
   unfold cfg_Names.l0
   repeat' first
   | (with_reducible exact ih0 _ _ _ _)
   | (with_reducible exact LeO.refl _)
   | (with_reducible exact LeO.none _)
   | (with_reducible refine LeO.ite ?_ ?_)
   | (with_reducible refine LeO.bind ?_ (fun _ => ?_))
   | exact ih0 _ _ _ _
   | exact LeO.none _
   | refine LeO.ite ?_ ?_
   | refine LeO.bind ?_ (fun _ => ?_)
theorem cfg_Names.mono : ∀ a0 k, LeO (cfg_Names.f k a0) (cfg_Names.f (k + 1) a0) := by
 intro a0 k
 have ih0 := cfg_Names.mono_l k
 unfold cfg_Names.f
 repeat' first
   | (with_reducible exact ih0 _ _ _ _)
   | (with_reducible exact LeO.refl _)
   | (with_reducible exact LeO.none _)
   | (with_reducible refine LeO.ite ?_ ?_)
   | (with_reducible refine LeO.bind ?_ (fun _ => ?_))
   | exact ih0 _ _ _ _
   | exact LeO.none _
   | refine LeO.ite ?_ ?_
   | refine LeO.bind ?_ (fun _ => ?_)
set_option maxHeartbeats 8000000 in
set_option maxRecDepth 100000 in
theorem cfg_Names.calls (k : Nat) (A0 : Option Addr) (c0 : Nat) (l0 : List (Stmt)) (r : List ByteArray) (w : World) (hr0 : Kd.C k30 w A0 l0.length l0) (hc0 : l0.length ≤ c0) (h : cfg_Names.f k l0 = some r) :
  Calls Try.prog 31 #[.slice A0 l0.length c0] w fun e w' => ∃ v0_ : Value, e = .returned (v0_) ∧ Kd.R Kd.string 9 w' w.heap.size (fun _ => True) v0_ r ∧ Below w.heap.size w w' := by
 have hu30 := Try.underlying30
 have HR0 := am hr0
 have HC0 := am hc0
 clear hr0 hc0
 have HB := am (Below.refl w.heap.size w)
 have H : (cfg_Names.l0 k ([] : List ByteArray) l0 (l0.length : Int) 0) = some r := h
 clear h
 have H' := am H
 clear H
 go_enter Try.func31, Try.ntmps31
 go_wp2
 go_loopg [3, 10] k (fun kq v3 v10 w' => ∃ (x3_1 : List ByteArray) (x10_1 : Int), v10 = .int .i64 x10_1 ∧ Aside0 (cfg_Names.l0 kq x3_1 l0 (l0.length : Int) x10_1 = some r) ∧ Aside0 (kq ≤ k) ∧ Aside0 (Kd.R Kd.string 9 w' w.heap.size (fun _ => True) v3 x3_1) ∧ Aside0 (Below w.heap.size w w'))
 case atStart => exact ⟨(([] : List ByteArray)), (0), (by first | rfl | (simp; done) | (simp [*]; done)), H', ⟨Nat.le_refl _⟩, ⟨by first | exact Kd.R_nil _ _ _ _ _ | exact Kd.N_nil _ _ _ _ _ | exact Kd.V_nil _ _ _ _ _ | exact Kd.Q_nil _ _ _ _ _ | exact Kd.S_nil _ _ _ _ _⟩, ⟨by repeat (first | (with_reducible first | exact HB.out | apply lA | apply lN | apply lD) | exact HB.out)⟩⟩
 case round =>
  clear H'
  obtain ⟨x3_1, x10_1, rfl, HA, HK1, HO_3, HB⟩ := hrel
  cases gk with
  | zero => exact absurd HA.out (by simp [cfg_Names.l0])
  | succ k1 =>
   have H := HA.out
   clear HA
   simp only [cfg_Names.l0] at H
   by_cases c2 : x10_1 < (l0.length : Int)
   ·rw [if_pos c2] at H
    have c2b0 : decide (x10_1 < (l0.length : Int)) = true := decide_eq_true c2
    clear c2
    by_cases c3 : 0 ≤ x10_1
    ·rw [if_pos c3] at H
     have c3b0 : decide (0 ≤ x10_1) = true := decide_eq_true c3
     clear c3
     by_cases c4 : x10_1 < (l0.length : Int)
     ·rw [if_pos c4] at H
      have c4b0 : decide (x10_1 < (l0.length : Int)) = true := decide_eq_true c4
      clear c4
      replace H := Option.bind_eq_some_iff.mp H
      obtain ⟨⟨t106, t107⟩, A50, H⟩ := H
      replace H : (if t107 = true then (if x3_1.length < 8796093022208 then ((some (x3_1 ++ [t106] : List ByteArray)).bind fun y108 => ((cfg_Uses.f ((rd_T30 l0 x10_1).kind) ((rd_T30 l0 x10_1).x) ((rd_T30 l0 x10_1).y) ((rd_T30 l0 x10_1).z) ((rd_T30 l0 x10_1).op) ((rd_T30 l0 x10_1).n) ((rd_T30 l0 x10_1).a) ((rd_T30 l0 x10_1).b)).bind fun t111 => (if y108.length + t111.length < 8796093022208 then (cfg_Names.l0 k1 (y108 ++ t111) l0 (l0.length : Int) (wrap64 (x10_1 + 1))) else (none)))) else (none)) else ((cfg_Uses.f ((rd_T30 l0 x10_1).kind) ((rd_T30 l0 x10_1).x) ((rd_T30 l0 x10_1).y) ((rd_T30 l0 x10_1).z) ((rd_T30 l0 x10_1).op) ((rd_T30 l0 x10_1).n) ((rd_T30 l0 x10_1).a) ((rd_T30 l0 x10_1).b)).bind fun t117 => (if x3_1.length + t117.length < 8796093022208 then (cfg_Names.l0 k1 (x3_1 ++ t117) l0 (l0.length : Int) (wrap64 (x10_1 + 1))) else (none)))) = some r := H
      have A5 := am A50
      clear A50
      by_cases c6 : t107 = true
      ·subst c6
       have H1 : (if x3_1.length < 8796093022208 then ((some (x3_1 ++ [t106] : List ByteArray)).bind fun y108 => ((cfg_Uses.f ((rd_T30 l0 x10_1).kind) ((rd_T30 l0 x10_1).x) ((rd_T30 l0 x10_1).y) ((rd_T30 l0 x10_1).z) ((rd_T30 l0 x10_1).op) ((rd_T30 l0 x10_1).n) ((rd_T30 l0 x10_1).a) ((rd_T30 l0 x10_1).b)).bind fun t111 => (if y108.length + t111.length < 8796093022208 then (cfg_Names.l0 k1 (y108 ++ t111) l0 (l0.length : Int) (wrap64 (x10_1 + 1))) else (none)))) else (none)) = some r := by rw [if_pos rfl] at H; exact H
       clear H
       have H := H1
       clear H1
       by_cases c7 : x3_1.length < 8796093022208
       ·rw [if_pos c7] at H
        have LMc7 := am c7
        clear c7
        obtain ⟨y108, hy108⟩ : ∃ y_ : List ByteArray, y_ = (x3_1 ++ [t106]) := ⟨_, rfl⟩
        replace H : ((cfg_Uses.f ((rd_T30 l0 x10_1).kind) ((rd_T30 l0 x10_1).x) ((rd_T30 l0 x10_1).y) ((rd_T30 l0 x10_1).z) ((rd_T30 l0 x10_1).op) ((rd_T30 l0 x10_1).n) ((rd_T30 l0 x10_1).a) ((rd_T30 l0 x10_1).b)).bind fun t111 => (if y108.length + t111.length < 8796093022208 then (cfg_Names.l0 k1 (y108 ++ t111) l0 (l0.length : Int) (wrap64 (x10_1 + 1))) else (none))) = some r := by first | (rw [hy108]; with_reducible exact H) | (have H2_ := (Option.bind_some _ _).symm.trans H; rw [hy108]; with_reducible exact H2_) | (have H2_ := (Option.bind_some _ _).symm.trans H; with_reducible exact H2_) | with_reducible exact H | (rw [hy108]; exact H) | exact H
        have Ny108 := am hy108
        clear hy108
        replace H := Option.bind_eq_some_iff.mp H
        obtain ⟨t111, A80, H⟩ := H
        replace H : (if y108.length + t111.length < 8796093022208 then (cfg_Names.l0 k1 (y108 ++ t111) l0 (l0.length : Int) (wrap64 (x10_1 + 1))) else (none)) = some r := H
        have A8 := am A80
        clear A80
        by_cases c9 : y108.length + t111.length < 8796093022208
        ·rw [if_pos c9] at H
         have LMc9 := am c9
         clear c9
         obtain ⟨y114, hy114⟩ : ∃ y_ : List ByteArray, y_ = (y108 ++ t111) := ⟨_, rfl⟩
         replace H : (cfg_Names.l0 k1 y114 l0 (l0.length : Int) (wrap64 (x10_1 + 1))) = some r := by first | (rw [hy114]; with_reducible exact H) | (have H2_ := (Option.bind_some _ _).symm.trans H; rw [hy114]; with_reducible exact H2_) | (have H2_ := (Option.bind_some _ _).symm.trans H; with_reducible exact H2_) | with_reducible exact H | (rw [hy114]; exact H) | exact H
         have Ny114 := am hy114
         clear hy114
         have H' := am H
         clear H
         have p104 : 0 ≤ (x10_1 : Int) := of_decide_eq_true (by first | (with_reducible assumption) | assumption)
         have q104 : x10_1 < (l0.length : Int) := of_decide_eq_true (by first | (with_reducible assumption) | assumption)
         obtain ⟨ad104, e104, hx104_0, hx104_1, hx104_2, hx104_3, hx104_4, hx104_5, hx104_6, hx104_7⟩ := at_T30 HR0.out x10_1 p104 q104
         cases e104
         replace hx104_0 := (HB.out.cell (blt_ hx104_0)).trans hx104_0
         replace hx104_1 := (HB.out.cell (blt_ hx104_1)).trans hx104_1
         replace hx104_2 := (HB.out.cell (blt_ hx104_2)).trans hx104_2
         replace hx104_3 := (HB.out.cell (blt_ hx104_3)).trans hx104_3
         replace hx104_4 := (HB.out.cell (blt_ hx104_4)).trans hx104_4
         replace hx104_5 := (HB.out.cell (blt_ hx104_5)).trans hx104_5
         replace hx104_6 := (HB.out.cell (blt_ hx104_6)).trans hx104_6
         replace hx104_7 := (HB.out.cell (blt_ hx104_7)).trans hx104_7
         replace p104 := eq_true p104
         replace q104 := eq_true q104
         go_wp2_with (first | ((with_reducible refine gate_dst (N := 5) rfl ?_); refine box_event ?hg (N := 5) ?hd (cs := #[.int .i64 0, .string (⟨#[]⟩ : ByteArray), .string (⟨#[]⟩ : ByteArray), .string (⟨#[]⟩ : ByteArray), .string (⟨#[]⟩ : ByteArray), .int .i64 0, .int .i64 0, .int .i64 0]) (t := 30) ?hr ?_; (case hd => rfl); (case hg => rfl); (case hr => first | (go_simp; done) | (go_simp; rfl)); intro gb105 hg w10 hbox hb; replace HO_3 := am (Kd.R_below (by (with_reducible repeat (first | apply Ra | apply Rn | apply Rd)); exact HO_3.out) hb); have BK105 := am (hbox); have GW105 := am ((by rw [hg]; exact (below_size (by repeat (first | (with_reducible first | exact HB.out | apply lA | apply lN | apply lD) | exact HB.out))) : w.heap.size ≤ gb105)); have GE105 := am ((by rw [hg]; exact (below_size (by repeat (first | (with_reducible first | exact HB.out | apply lA | apply lN | apply lD) | exact HB.out))) : w.heap.size ≤ gb105)); replace HB := am (below_step (by repeat (first | (with_reducible first | exact HB.out | apply lA | apply lN | apply lD) | exact HB.out)) hb); clear hb hbox hg; have hcz11_0 : w10.cell? ⟨gb105, 0, none⟩ = some (.int .i64 0) := (blk_cell BK105.out 0).trans rfl; have hcz11_1 : w10.cell? ⟨gb105, 1, none⟩ = some (.string (⟨#[]⟩ : ByteArray)) := (blk_cell BK105.out 1).trans rfl; have hcz11_2 : w10.cell? ⟨gb105, 2, none⟩ = some (.string (⟨#[]⟩ : ByteArray)) := (blk_cell BK105.out 2).trans rfl; have hcz11_3 : w10.cell? ⟨gb105, 3, none⟩ = some (.string (⟨#[]⟩ : ByteArray)) := (blk_cell BK105.out 3).trans rfl; have hcz11_4 : w10.cell? ⟨gb105, 4, none⟩ = some (.string (⟨#[]⟩ : ByteArray)) := (blk_cell BK105.out 4).trans rfl; have hcz11_5 : w10.cell? ⟨gb105, 5, none⟩ = some (.int .i64 0) := (blk_cell BK105.out 5).trans rfl; have hcz11_6 : w10.cell? ⟨gb105, 6, none⟩ = some (.int .i64 0) := (blk_cell BK105.out 6).trans rfl; have hcz11_7 : w10.cell? ⟨gb105, 7, none⟩ = some (.int .i64 0) := (blk_cell BK105.out 7).trans rfl; have hfz11_0 := blk_frozen BK105.out 0; have hfz11_1 := blk_frozen BK105.out 1; have hfz11_2 := blk_frozen BK105.out 2; have hfz11_3 := blk_frozen BK105.out 3; have hfz11_4 := blk_frozen BK105.out 4; have hfz11_5 := blk_frozen BK105.out 5; have hfz11_6 := blk_frozen BK105.out 6; have hfz11_7 := blk_frozen BK105.out 7) | ((with_reducible refine gate_callee (f := 20) rfl ?_); refine goesL_ (some 16) rfl rfl Try.func20 (by kernel_rfl) rfl #[.agg #[.int .i64 ((rd_T30 l0 x10_1).kind), .string ((rd_T30 l0 x10_1).x), .string ((rd_T30 l0 x10_1).y), .string ((rd_T30 l0 x10_1).z), .string ((rd_T30 l0 x10_1).op), .int .i64 ((rd_T30 l0 x10_1).n), .int .i64 ((rd_T30 l0 x10_1).a), .int .i64 ((rd_T30 l0 x10_1).b)]] rfl (by (try simp only [List.map_toArray, List.map_cons, List.map_nil]); first | done | rfl | (simp only [List.length_drop, List.length_take]; rfl)) ?_; (with_reducible refine (cfg_Def.calls ((rd_T30 l0 x10_1).kind) ((rd_T30 l0 x10_1).x) ((rd_T30 l0 x10_1).y) ((rd_T30 l0 x10_1).z) ((rd_T30 l0 x10_1).op) ((rd_T30 l0 x10_1).n) ((rd_T30 l0 x10_1).a) ((rd_T30 l0 x10_1).b) t106 true _ A5.out).mono ?_); rintro e w12 ⟨rfl, hb⟩; refine ⟨_, rfl, ?_⟩; replace HO_3 := am (Kd.R_below (by (with_reducible repeat (first | apply Ra | apply Rn | apply Rd)); exact (Kd.R_mono (Kd.R_far (p := ⟨gb105, 7, none⟩) (Kd.R_far (p := ⟨gb105, 6, none⟩) (Kd.R_far (p := ⟨gb105, 5, none⟩) (Kd.R_far (p := ⟨gb105, 4, none⟩) (Kd.R_far (p := ⟨gb105, 3, none⟩) (Kd.R_far (p := ⟨gb105, 2, none⟩) (Kd.R_far (p := ⟨gb105, 1, none⟩) (Kd.R_far (p := ⟨gb105, 0, none⟩) (Kd.R_types HO_3.out BK105.out (by decide)) (fun _ hk => hk.2) _) (fun _ hk => hk.2) _) (fun _ hk => hk.2) _) (fun _ hk => hk.2) _) (fun _ hk => hk.2) _) (fun _ hk => hk.2) _) (fun _ hk => hk.2) _) (fun _ hk => hk.2) _) (fun _ h_ => h_.1))) hb); replace BK105 := am (blk_below (g := gb105) (o := .cells #[.int .i64 ((rd_T30 l0 x10_1).kind), .string ((rd_T30 l0 x10_1).x), .string ((rd_T30 l0 x10_1).y), .string ((rd_T30 l0 x10_1).z), .string ((rd_T30 l0 x10_1).op), .int .i64 ((rd_T30 l0 x10_1).n), .int .i64 ((rd_T30 l0 x10_1).a), .int .i64 ((rd_T30 l0 x10_1).b)] 30 (0, 0)) (by (with_reducible repeat (first | refine bN ?_ _ | refine bD ?_ | refine bA ?_ _)); refine blk_put (cs := #[.int .i64 ((rd_T30 l0 x10_1).kind), .string ((rd_T30 l0 x10_1).x), .string ((rd_T30 l0 x10_1).y), .string ((rd_T30 l0 x10_1).z), .string ((rd_T30 l0 x10_1).op), .int .i64 ((rd_T30 l0 x10_1).n), .int .i64 ((rd_T30 l0 x10_1).a), .int .i64 0]) ?_ 7 _ rfl; (with_reducible repeat (first | refine bN ?_ _ | refine bD ?_ | refine bA ?_ _)); refine blk_put (cs := #[.int .i64 ((rd_T30 l0 x10_1).kind), .string ((rd_T30 l0 x10_1).x), .string ((rd_T30 l0 x10_1).y), .string ((rd_T30 l0 x10_1).z), .string ((rd_T30 l0 x10_1).op), .int .i64 ((rd_T30 l0 x10_1).n), .int .i64 0, .int .i64 0]) ?_ 6 _ rfl; (with_reducible repeat (first | refine bN ?_ _ | refine bD ?_ | refine bA ?_ _)); refine blk_put (cs := #[.int .i64 ((rd_T30 l0 x10_1).kind), .string ((rd_T30 l0 x10_1).x), .string ((rd_T30 l0 x10_1).y), .string ((rd_T30 l0 x10_1).z), .string ((rd_T30 l0 x10_1).op), .int .i64 0, .int .i64 0, .int .i64 0]) ?_ 5 _ rfl; (with_reducible repeat (first | refine bN ?_ _ | refine bD ?_ | refine bA ?_ _)); refine blk_put (cs := #[.int .i64 ((rd_T30 l0 x10_1).kind), .string ((rd_T30 l0 x10_1).x), .string ((rd_T30 l0 x10_1).y), .string ((rd_T30 l0 x10_1).z), .string (⟨#[]⟩ : ByteArray), .int .i64 0, .int .i64 0, .int .i64 0]) ?_ 4 _ rfl; (with_reducible repeat (first | refine bN ?_ _ | refine bD ?_ | refine bA ?_ _)); refine blk_put (cs := #[.int .i64 ((rd_T30 l0 x10_1).kind), .string ((rd_T30 l0 x10_1).x), .string ((rd_T30 l0 x10_1).y), .string (⟨#[]⟩ : ByteArray), .string (⟨#[]⟩ : ByteArray), .int .i64 0, .int .i64 0, .int .i64 0]) ?_ 3 _ rfl; (with_reducible repeat (first | refine bN ?_ _ | refine bD ?_ | refine bA ?_ _)); refine blk_put (cs := #[.int .i64 ((rd_T30 l0 x10_1).kind), .string ((rd_T30 l0 x10_1).x), .string (⟨#[]⟩ : ByteArray), .string (⟨#[]⟩ : ByteArray), .string (⟨#[]⟩ : ByteArray), .int .i64 0, .int .i64 0, .int .i64 0]) ?_ 2 _ rfl; (with_reducible repeat (first | refine bN ?_ _ | refine bD ?_ | refine bA ?_ _)); refine blk_put (cs := #[.int .i64 ((rd_T30 l0 x10_1).kind), .string (⟨#[]⟩ : ByteArray), .string (⟨#[]⟩ : ByteArray), .string (⟨#[]⟩ : ByteArray), .string (⟨#[]⟩ : ByteArray), .int .i64 0, .int .i64 0, .int .i64 0]) ?_ 1 _ rfl; (with_reducible repeat (first | refine bN ?_ _ | refine bD ?_ | refine bA ?_ _)); refine blk_put (cs := #[.int .i64 0, .string (⟨#[]⟩ : ByteArray), .string (⟨#[]⟩ : ByteArray), .string (⟨#[]⟩ : ByteArray), .string (⟨#[]⟩ : ByteArray), .int .i64 0, .int .i64 0, .int .i64 0]) ?_ 0 _ rfl; (with_reducible repeat (first | refine bN ?_ _ | refine bD ?_ | refine bA ?_ _)); exact BK105.out) hb); replace HB := am (below_step (by repeat (first | (with_reducible first | exact HB.out | apply lA | apply lN | apply lD | refine lS ?_ GE105.out) | exact HB.out)) hb); (try clear hb); (try clear hb2); (try clear hk); (try clear hi)) | ((with_reducible refine gate_builtin (b := .append) (xs := #[.tmp 20, .tmp 22]) rfl ?_); at_builtin; refine Kd.R_append Kd.string (w0 := w) w.heap.size rfl (.tmp 20) (.tmp 22) 32 9 (.string ⟨#[]⟩) 16 rfl Try.underlying32 info9 rfl (by decide) (by omega) u3 x3_1 t106 [.string t106] (fun _ => True) (fun _ => False) rfl rfl ?aP (fun _ hk => hk.elim) ?aF ?aO ?aB ?aS ?aL ?_; (case aP => exact rfl); (case aB => exact (by repeat (first | (with_reducible first | exact HB.out | apply lA | apply lN | apply lD | refine lS ?_ GE105.out) | exact HB.out))); (case aF => exact (fun _ _ => trivial)); (case aO => exact (by (with_reducible repeat (first | apply Ra | apply Rn | apply Rd)); exact HO_3.out)); (case aS => exact (below_size (by repeat (first | (with_reducible first | exact HB.out | apply lA | apply lN | apply lD | refine lS ?_ GE105.out) | exact HB.out)))); (case aL => have := LMc7.out; omega); intro v109 w13 ho hb hg hat; rw [← Ny108.out] at ho; replace BK105 := am (blk_grown (g := gb105) (o := .cells #[.int .i64 ((rd_T30 l0 x10_1).kind), .string ((rd_T30 l0 x10_1).x), .string ((rd_T30 l0 x10_1).y), .string ((rd_T30 l0 x10_1).z), .string ((rd_T30 l0 x10_1).op), .int .i64 ((rd_T30 l0 x10_1).n), .int .i64 ((rd_T30 l0 x10_1).a), .int .i64 ((rd_T30 l0 x10_1).b)] 30 (0, 0)) (by (with_reducible repeat (first | refine bN ?_ _ | refine bD ?_ | refine bA ?_ _)); exact BK105.out) hg (Kd.R_ne HO_3.out BK105.out (by decide))); replace HB := am (hb); have HO110 := am (ho); clear HO_3; clear ho hb hg hat; have hcz14_0 : w13.cell? ⟨gb105, 0, none⟩ = some (.int .i64 ((rd_T30 l0 x10_1).kind)) := (blk_cell BK105.out 0).trans rfl; have hcz14_1 : w13.cell? ⟨gb105, 1, none⟩ = some (.string ((rd_T30 l0 x10_1).x)) := (blk_cell BK105.out 1).trans rfl; have hcz14_2 : w13.cell? ⟨gb105, 2, none⟩ = some (.string ((rd_T30 l0 x10_1).y)) := (blk_cell BK105.out 2).trans rfl; have hcz14_3 : w13.cell? ⟨gb105, 3, none⟩ = some (.string ((rd_T30 l0 x10_1).z)) := (blk_cell BK105.out 3).trans rfl; have hcz14_4 : w13.cell? ⟨gb105, 4, none⟩ = some (.string ((rd_T30 l0 x10_1).op)) := (blk_cell BK105.out 4).trans rfl; have hcz14_5 : w13.cell? ⟨gb105, 5, none⟩ = some (.int .i64 ((rd_T30 l0 x10_1).n)) := (blk_cell BK105.out 5).trans rfl; have hcz14_6 : w13.cell? ⟨gb105, 6, none⟩ = some (.int .i64 ((rd_T30 l0 x10_1).a)) := (blk_cell BK105.out 6).trans rfl; have hcz14_7 : w13.cell? ⟨gb105, 7, none⟩ = some (.int .i64 ((rd_T30 l0 x10_1).b)) := (blk_cell BK105.out 7).trans rfl; have hfz14_0 := blk_frozen BK105.out 0; have hfz14_1 := blk_frozen BK105.out 1; have hfz14_2 := blk_frozen BK105.out 2; have hfz14_3 := blk_frozen BK105.out 3; have hfz14_4 := blk_frozen BK105.out 4; have hfz14_5 := blk_frozen BK105.out 5; have hfz14_6 := blk_frozen BK105.out 6; have hfz14_7 := blk_frozen BK105.out 7) | ((with_reducible refine gate_callee (f := 22) rfl ?_); refine goesL_ (some 26) rfl rfl Try.func22 (by kernel_rfl) rfl #[.agg #[.int .i64 ((rd_T30 l0 x10_1).kind), .string ((rd_T30 l0 x10_1).x), .string ((rd_T30 l0 x10_1).y), .string ((rd_T30 l0 x10_1).z), .string ((rd_T30 l0 x10_1).op), .int .i64 ((rd_T30 l0 x10_1).n), .int .i64 ((rd_T30 l0 x10_1).a), .int .i64 ((rd_T30 l0 x10_1).b)]] rfl (by (try simp only [List.map_toArray, List.map_cons, List.map_nil]); first | done | rfl | (simp only [List.length_drop, List.length_take]; rfl)) ?_; (with_reducible refine (cfg_Uses.calls ((rd_T30 l0 x10_1).kind) ((rd_T30 l0 x10_1).x) ((rd_T30 l0 x10_1).y) ((rd_T30 l0 x10_1).z) ((rd_T30 l0 x10_1).op) ((rd_T30 l0 x10_1).n) ((rd_T30 l0 x10_1).a) ((rd_T30 l0 x10_1).b) t111 _ A8.out).mono ?_); rintro e w15 ⟨v112, rfl, ho0, hb⟩; refine ⟨_, rfl, ?_⟩; have HO113 := am (Kd.R_lower (Kd.R_new' ho0 (Kd.R_lt (by (with_reducible repeat (first | apply Ra | apply Rn | apply Rd)); exact HO110.out))) (below_size (by repeat (first | (with_reducible first | exact HB.out | apply lA | apply lN | apply lD | refine lS ?_ GE105.out) | exact HB.out)))); replace HO110 := am (Kd.R_elder' (by (with_reducible repeat (first | apply Ra | apply Rn | apply Rd)); exact HO110.out) (Kd.R_base ho0) hb); replace BK105 := am (blk_below (g := gb105) (o := .cells #[.int .i64 ((rd_T30 l0 x10_1).kind), .string ((rd_T30 l0 x10_1).x), .string ((rd_T30 l0 x10_1).y), .string ((rd_T30 l0 x10_1).z), .string ((rd_T30 l0 x10_1).op), .int .i64 ((rd_T30 l0 x10_1).n), .int .i64 ((rd_T30 l0 x10_1).a), .int .i64 ((rd_T30 l0 x10_1).b)] 30 (0, 0)) (by (with_reducible repeat (first | refine bN ?_ _ | refine bD ?_ | refine bA ?_ _)); exact BK105.out) hb); replace HB := am (below_step (by repeat (first | (with_reducible first | exact HB.out | apply lA | apply lN | apply lD | refine lS ?_ GE105.out) | exact HB.out)) hb); (try clear hb); (try clear hb2); (try clear hk); (try clear hi); (try clear ho0); obtain ⟨Ao17, co17, eo17⟩ := Kd.R_slice HO113.out; subst eo17) | ((with_reducible refine gate_builtin (b := .append) (xs := #[.tmp 24, .tmp 26]) rfl ?_); at_builtin; refine Kd.R_append_rows Kd.string (w0 := w) w.heap.size rfl (.tmp 24) (.tmp 26) 32 9 (.string ⟨#[]⟩) 16 rfl Try.underlying32 info9 rfl (by decide) (by omega) v109 y108 t111 _ _ _ (fun k_ => some k_ ≠ (.slice Ao17 t111.length co17 : Value).ownBlock) (fun _ => False) rfl rfl ?aO ?aR (fun _ _ h => h) (fun _ h => h.elim) ?aF ?aB ?aS ?aL ?_; (case aR => repeat (first | exact (Kd.R_reads' HO113.out).2.2 | (with_reducible refine Kd.C_alloc ?_ _) | (with_reducible refine Kd.C_drewN ?_ _) | (with_reducible refine Kd.C_drew ?_))); (case aB => exact (by repeat (first | (with_reducible first | exact HB.out | apply lA | apply lN | apply lD | refine lS ?_ GE105.out) | exact HB.out))); (case aF => exact (fun k_ hk => Kd.fresh' (Kd.R_lt (by (with_reducible repeat (first | apply Ra | apply Rn | apply Rd)); exact HO113.out)) k_ hk)); (case aO => exact (by (with_reducible repeat (first | apply Ra | apply Rn | apply Rd)); exact Kd.R_mono HO110.out (fun _ hk => hk.2))); (case aS => exact (below_size (by repeat (first | (with_reducible first | exact HB.out | apply lA | apply lN | apply lD | refine lS ?_ GE105.out) | exact HB.out)))); (case aL => have := LMc9.out; omega); intro v115 w16 ho hb hg hat; rw [← Ny114.out] at ho; replace BK105 := am (blk_grown (g := gb105) (o := .cells #[.int .i64 ((rd_T30 l0 x10_1).kind), .string ((rd_T30 l0 x10_1).x), .string ((rd_T30 l0 x10_1).y), .string ((rd_T30 l0 x10_1).z), .string ((rd_T30 l0 x10_1).op), .int .i64 ((rd_T30 l0 x10_1).n), .int .i64 ((rd_T30 l0 x10_1).a), .int .i64 ((rd_T30 l0 x10_1).b)] 30 (0, 0)) (by (with_reducible repeat (first | refine bN ?_ _ | refine bD ?_ | refine bA ?_ _)); exact BK105.out) hg (Kd.R_ne HO110.out BK105.out (by decide))); replace HO113 := am (Kd.R_after (ok := (fun _ => True)) (by (with_reducible repeat (first | apply Ra | apply Rn | apply Rd)); exact HO113.out) hg hat); replace HB := am (hb); have HO116 := am (ho); clear HO110; clear ho hb hg hat))
         go_roundg k1
         case measure => have := HK1.out; omega
         case rel => exact ⟨(y114), (wrap64 (x10_1 + 1)), (by first | rfl | (simp; done) | (simp [*]; done)), H', ⟨by have := HK1.out; omega⟩, ⟨by (with_reducible repeat (first | apply Ra | apply Rn | apply Rd)); exact Kd.R_mono HO116.out (fun _ hk => trivial)⟩, ⟨by repeat (first | (with_reducible first | exact HB.out | apply lA | apply lN | apply lD | refine lS ?_ GE105.out) | exact HB.out)⟩⟩
        ·rw [if_neg c9] at H
         exact absurd H (by simp)
       ·rw [if_neg c7] at H
        exact absurd H (by simp)
      ·replace c6 := Bool.eq_false_iff.mpr c6
       subst c6
       have H1 : ((cfg_Uses.f ((rd_T30 l0 x10_1).kind) ((rd_T30 l0 x10_1).x) ((rd_T30 l0 x10_1).y) ((rd_T30 l0 x10_1).z) ((rd_T30 l0 x10_1).op) ((rd_T30 l0 x10_1).n) ((rd_T30 l0 x10_1).a) ((rd_T30 l0 x10_1).b)).bind fun t117 => (if x3_1.length + t117.length < 8796093022208 then (cfg_Names.l0 k1 (x3_1 ++ t117) l0 (l0.length : Int) (wrap64 (x10_1 + 1))) else (none))) = some r := by rw [if_neg (show ¬ (false = true) by decide)] at H; exact H
       clear H
       have H := H1
       clear H1
       replace H := Option.bind_eq_some_iff.mp H
       obtain ⟨t117, A180, H⟩ := H
       replace H : (if x3_1.length + t117.length < 8796093022208 then (cfg_Names.l0 k1 (x3_1 ++ t117) l0 (l0.length : Int) (wrap64 (x10_1 + 1))) else (none)) = some r := H
       have A18 := am A180
       clear A180
       by_cases c19 : x3_1.length + t117.length < 8796093022208
       ·rw [if_pos c19] at H
        have LMc19 := am c19
        clear c19
        obtain ⟨y120, hy120⟩ : ∃ y_ : List ByteArray, y_ = (x3_1 ++ t117) := ⟨_, rfl⟩
        replace H : (cfg_Names.l0 k1 y120 l0 (l0.length : Int) (wrap64 (x10_1 + 1))) = some r := by first | (rw [hy120]; with_reducible exact H) | (have H2_ := (Option.bind_some _ _).symm.trans H; rw [hy120]; with_reducible exact H2_) | (have H2_ := (Option.bind_some _ _).symm.trans H; with_reducible exact H2_) | with_reducible exact H | (rw [hy120]; exact H) | exact H
        have Ny120 := am hy120
        clear hy120
        have H' := am H
        clear H
        have p104 : 0 ≤ (x10_1 : Int) := of_decide_eq_true (by first | (with_reducible assumption) | assumption)
        have q104 : x10_1 < (l0.length : Int) := of_decide_eq_true (by first | (with_reducible assumption) | assumption)
        obtain ⟨ad104, e104, hx104_0, hx104_1, hx104_2, hx104_3, hx104_4, hx104_5, hx104_6, hx104_7⟩ := at_T30 HR0.out x10_1 p104 q104
        cases e104
        replace hx104_0 := (HB.out.cell (blt_ hx104_0)).trans hx104_0
        replace hx104_1 := (HB.out.cell (blt_ hx104_1)).trans hx104_1
        replace hx104_2 := (HB.out.cell (blt_ hx104_2)).trans hx104_2
        replace hx104_3 := (HB.out.cell (blt_ hx104_3)).trans hx104_3
        replace hx104_4 := (HB.out.cell (blt_ hx104_4)).trans hx104_4
        replace hx104_5 := (HB.out.cell (blt_ hx104_5)).trans hx104_5
        replace hx104_6 := (HB.out.cell (blt_ hx104_6)).trans hx104_6
        replace hx104_7 := (HB.out.cell (blt_ hx104_7)).trans hx104_7
        replace p104 := eq_true p104
        replace q104 := eq_true q104
        go_wp2_with (first | ((with_reducible refine gate_dst (N := 5) rfl ?_); refine box_event ?hg (N := 5) ?hd (cs := #[.int .i64 0, .string (⟨#[]⟩ : ByteArray), .string (⟨#[]⟩ : ByteArray), .string (⟨#[]⟩ : ByteArray), .string (⟨#[]⟩ : ByteArray), .int .i64 0, .int .i64 0, .int .i64 0]) (t := 30) ?hr ?_; (case hd => rfl); (case hg => rfl); (case hr => first | (go_simp; done) | (go_simp; rfl)); intro gb105 hg w20 hbox hb; replace HO_3 := am (Kd.R_below (by (with_reducible repeat (first | apply Ra | apply Rn | apply Rd)); exact HO_3.out) hb); have BK105 := am (hbox); have GW105 := am ((by rw [hg]; exact (below_size (by repeat (first | (with_reducible first | exact HB.out | apply lA | apply lN | apply lD) | exact HB.out))) : w.heap.size ≤ gb105)); have GE105 := am ((by rw [hg]; exact (below_size (by repeat (first | (with_reducible first | exact HB.out | apply lA | apply lN | apply lD) | exact HB.out))) : w.heap.size ≤ gb105)); replace HB := am (below_step (by repeat (first | (with_reducible first | exact HB.out | apply lA | apply lN | apply lD) | exact HB.out)) hb); clear hb hbox hg; have hcz21_0 : w20.cell? ⟨gb105, 0, none⟩ = some (.int .i64 0) := (blk_cell BK105.out 0).trans rfl; have hcz21_1 : w20.cell? ⟨gb105, 1, none⟩ = some (.string (⟨#[]⟩ : ByteArray)) := (blk_cell BK105.out 1).trans rfl; have hcz21_2 : w20.cell? ⟨gb105, 2, none⟩ = some (.string (⟨#[]⟩ : ByteArray)) := (blk_cell BK105.out 2).trans rfl; have hcz21_3 : w20.cell? ⟨gb105, 3, none⟩ = some (.string (⟨#[]⟩ : ByteArray)) := (blk_cell BK105.out 3).trans rfl; have hcz21_4 : w20.cell? ⟨gb105, 4, none⟩ = some (.string (⟨#[]⟩ : ByteArray)) := (blk_cell BK105.out 4).trans rfl; have hcz21_5 : w20.cell? ⟨gb105, 5, none⟩ = some (.int .i64 0) := (blk_cell BK105.out 5).trans rfl; have hcz21_6 : w20.cell? ⟨gb105, 6, none⟩ = some (.int .i64 0) := (blk_cell BK105.out 6).trans rfl; have hcz21_7 : w20.cell? ⟨gb105, 7, none⟩ = some (.int .i64 0) := (blk_cell BK105.out 7).trans rfl; have hfz21_0 := blk_frozen BK105.out 0; have hfz21_1 := blk_frozen BK105.out 1; have hfz21_2 := blk_frozen BK105.out 2; have hfz21_3 := blk_frozen BK105.out 3; have hfz21_4 := blk_frozen BK105.out 4; have hfz21_5 := blk_frozen BK105.out 5; have hfz21_6 := blk_frozen BK105.out 6; have hfz21_7 := blk_frozen BK105.out 7) | ((with_reducible refine gate_callee (f := 20) rfl ?_); refine goesL_ (some 16) rfl rfl Try.func20 (by kernel_rfl) rfl #[.agg #[.int .i64 ((rd_T30 l0 x10_1).kind), .string ((rd_T30 l0 x10_1).x), .string ((rd_T30 l0 x10_1).y), .string ((rd_T30 l0 x10_1).z), .string ((rd_T30 l0 x10_1).op), .int .i64 ((rd_T30 l0 x10_1).n), .int .i64 ((rd_T30 l0 x10_1).a), .int .i64 ((rd_T30 l0 x10_1).b)]] rfl (by (try simp only [List.map_toArray, List.map_cons, List.map_nil]); first | done | rfl | (simp only [List.length_drop, List.length_take]; rfl)) ?_; (with_reducible refine (cfg_Def.calls ((rd_T30 l0 x10_1).kind) ((rd_T30 l0 x10_1).x) ((rd_T30 l0 x10_1).y) ((rd_T30 l0 x10_1).z) ((rd_T30 l0 x10_1).op) ((rd_T30 l0 x10_1).n) ((rd_T30 l0 x10_1).a) ((rd_T30 l0 x10_1).b) t106 false _ A5.out).mono ?_); rintro e w22 ⟨rfl, hb⟩; refine ⟨_, rfl, ?_⟩; replace HO_3 := am (Kd.R_below (by (with_reducible repeat (first | apply Ra | apply Rn | apply Rd)); exact (Kd.R_mono (Kd.R_far (p := ⟨gb105, 7, none⟩) (Kd.R_far (p := ⟨gb105, 6, none⟩) (Kd.R_far (p := ⟨gb105, 5, none⟩) (Kd.R_far (p := ⟨gb105, 4, none⟩) (Kd.R_far (p := ⟨gb105, 3, none⟩) (Kd.R_far (p := ⟨gb105, 2, none⟩) (Kd.R_far (p := ⟨gb105, 1, none⟩) (Kd.R_far (p := ⟨gb105, 0, none⟩) (Kd.R_types HO_3.out BK105.out (by decide)) (fun _ hk => hk.2) _) (fun _ hk => hk.2) _) (fun _ hk => hk.2) _) (fun _ hk => hk.2) _) (fun _ hk => hk.2) _) (fun _ hk => hk.2) _) (fun _ hk => hk.2) _) (fun _ hk => hk.2) _) (fun _ h_ => h_.1))) hb); replace BK105 := am (blk_below (g := gb105) (o := .cells #[.int .i64 ((rd_T30 l0 x10_1).kind), .string ((rd_T30 l0 x10_1).x), .string ((rd_T30 l0 x10_1).y), .string ((rd_T30 l0 x10_1).z), .string ((rd_T30 l0 x10_1).op), .int .i64 ((rd_T30 l0 x10_1).n), .int .i64 ((rd_T30 l0 x10_1).a), .int .i64 ((rd_T30 l0 x10_1).b)] 30 (0, 0)) (by (with_reducible repeat (first | refine bN ?_ _ | refine bD ?_ | refine bA ?_ _)); refine blk_put (cs := #[.int .i64 ((rd_T30 l0 x10_1).kind), .string ((rd_T30 l0 x10_1).x), .string ((rd_T30 l0 x10_1).y), .string ((rd_T30 l0 x10_1).z), .string ((rd_T30 l0 x10_1).op), .int .i64 ((rd_T30 l0 x10_1).n), .int .i64 ((rd_T30 l0 x10_1).a), .int .i64 0]) ?_ 7 _ rfl; (with_reducible repeat (first | refine bN ?_ _ | refine bD ?_ | refine bA ?_ _)); refine blk_put (cs := #[.int .i64 ((rd_T30 l0 x10_1).kind), .string ((rd_T30 l0 x10_1).x), .string ((rd_T30 l0 x10_1).y), .string ((rd_T30 l0 x10_1).z), .string ((rd_T30 l0 x10_1).op), .int .i64 ((rd_T30 l0 x10_1).n), .int .i64 0, .int .i64 0]) ?_ 6 _ rfl; (with_reducible repeat (first | refine bN ?_ _ | refine bD ?_ | refine bA ?_ _)); refine blk_put (cs := #[.int .i64 ((rd_T30 l0 x10_1).kind), .string ((rd_T30 l0 x10_1).x), .string ((rd_T30 l0 x10_1).y), .string ((rd_T30 l0 x10_1).z), .string ((rd_T30 l0 x10_1).op), .int .i64 0, .int .i64 0, .int .i64 0]) ?_ 5 _ rfl; (with_reducible repeat (first | refine bN ?_ _ | refine bD ?_ | refine bA ?_ _)); refine blk_put (cs := #[.int .i64 ((rd_T30 l0 x10_1).kind), .string ((rd_T30 l0 x10_1).x), .string ((rd_T30 l0 x10_1).y), .string ((rd_T30 l0 x10_1).z), .string (⟨#[]⟩ : ByteArray), .int .i64 0, .int .i64 0, .int .i64 0]) ?_ 4 _ rfl; (with_reducible repeat (first | refine bN ?_ _ | refine bD ?_ | refine bA ?_ _)); refine blk_put (cs := #[.int .i64 ((rd_T30 l0 x10_1).kind), .string ((rd_T30 l0 x10_1).x), .string ((rd_T30 l0 x10_1).y), .string (⟨#[]⟩ : ByteArray), .string (⟨#[]⟩ : ByteArray), .int .i64 0, .int .i64 0, .int .i64 0]) ?_ 3 _ rfl; (with_reducible repeat (first | refine bN ?_ _ | refine bD ?_ | refine bA ?_ _)); refine blk_put (cs := #[.int .i64 ((rd_T30 l0 x10_1).kind), .string ((rd_T30 l0 x10_1).x), .string (⟨#[]⟩ : ByteArray), .string (⟨#[]⟩ : ByteArray), .string (⟨#[]⟩ : ByteArray), .int .i64 0, .int .i64 0, .int .i64 0]) ?_ 2 _ rfl; (with_reducible repeat (first | refine bN ?_ _ | refine bD ?_ | refine bA ?_ _)); refine blk_put (cs := #[.int .i64 ((rd_T30 l0 x10_1).kind), .string (⟨#[]⟩ : ByteArray), .string (⟨#[]⟩ : ByteArray), .string (⟨#[]⟩ : ByteArray), .string (⟨#[]⟩ : ByteArray), .int .i64 0, .int .i64 0, .int .i64 0]) ?_ 1 _ rfl; (with_reducible repeat (first | refine bN ?_ _ | refine bD ?_ | refine bA ?_ _)); refine blk_put (cs := #[.int .i64 0, .string (⟨#[]⟩ : ByteArray), .string (⟨#[]⟩ : ByteArray), .string (⟨#[]⟩ : ByteArray), .string (⟨#[]⟩ : ByteArray), .int .i64 0, .int .i64 0, .int .i64 0]) ?_ 0 _ rfl; (with_reducible repeat (first | refine bN ?_ _ | refine bD ?_ | refine bA ?_ _)); exact BK105.out) hb); replace HB := am (below_step (by repeat (first | (with_reducible first | exact HB.out | apply lA | apply lN | apply lD | refine lS ?_ GE105.out) | exact HB.out)) hb); (try clear hb); (try clear hb2); (try clear hk); (try clear hi); have hcz23_0 : w22.cell? ⟨gb105, 0, none⟩ = some (.int .i64 ((rd_T30 l0 x10_1).kind)) := (blk_cell BK105.out 0).trans rfl; have hcz23_1 : w22.cell? ⟨gb105, 1, none⟩ = some (.string ((rd_T30 l0 x10_1).x)) := (blk_cell BK105.out 1).trans rfl; have hcz23_2 : w22.cell? ⟨gb105, 2, none⟩ = some (.string ((rd_T30 l0 x10_1).y)) := (blk_cell BK105.out 2).trans rfl; have hcz23_3 : w22.cell? ⟨gb105, 3, none⟩ = some (.string ((rd_T30 l0 x10_1).z)) := (blk_cell BK105.out 3).trans rfl; have hcz23_4 : w22.cell? ⟨gb105, 4, none⟩ = some (.string ((rd_T30 l0 x10_1).op)) := (blk_cell BK105.out 4).trans rfl; have hcz23_5 : w22.cell? ⟨gb105, 5, none⟩ = some (.int .i64 ((rd_T30 l0 x10_1).n)) := (blk_cell BK105.out 5).trans rfl; have hcz23_6 : w22.cell? ⟨gb105, 6, none⟩ = some (.int .i64 ((rd_T30 l0 x10_1).a)) := (blk_cell BK105.out 6).trans rfl; have hcz23_7 : w22.cell? ⟨gb105, 7, none⟩ = some (.int .i64 ((rd_T30 l0 x10_1).b)) := (blk_cell BK105.out 7).trans rfl; have hfz23_0 := blk_frozen BK105.out 0; have hfz23_1 := blk_frozen BK105.out 1; have hfz23_2 := blk_frozen BK105.out 2; have hfz23_3 := blk_frozen BK105.out 3; have hfz23_4 := blk_frozen BK105.out 4; have hfz23_5 := blk_frozen BK105.out 5; have hfz23_6 := blk_frozen BK105.out 6; have hfz23_7 := blk_frozen BK105.out 7) | ((with_reducible refine gate_callee (f := 22) rfl ?_); refine goesL_ (some 26) rfl rfl Try.func22 (by kernel_rfl) rfl #[.agg #[.int .i64 ((rd_T30 l0 x10_1).kind), .string ((rd_T30 l0 x10_1).x), .string ((rd_T30 l0 x10_1).y), .string ((rd_T30 l0 x10_1).z), .string ((rd_T30 l0 x10_1).op), .int .i64 ((rd_T30 l0 x10_1).n), .int .i64 ((rd_T30 l0 x10_1).a), .int .i64 ((rd_T30 l0 x10_1).b)]] rfl (by (try simp only [List.map_toArray, List.map_cons, List.map_nil]); first | done | rfl | (simp only [List.length_drop, List.length_take]; rfl)) ?_; (with_reducible refine (cfg_Uses.calls ((rd_T30 l0 x10_1).kind) ((rd_T30 l0 x10_1).x) ((rd_T30 l0 x10_1).y) ((rd_T30 l0 x10_1).z) ((rd_T30 l0 x10_1).op) ((rd_T30 l0 x10_1).n) ((rd_T30 l0 x10_1).a) ((rd_T30 l0 x10_1).b) t117 _ A18.out).mono ?_); rintro e w24 ⟨v118, rfl, ho0, hb⟩; refine ⟨_, rfl, ?_⟩; have HO119 := am (Kd.R_lower (Kd.R_new' ho0 (Kd.R_lt (by (with_reducible repeat (first | apply Ra | apply Rn | apply Rd)); exact HO_3.out))) (below_size (by repeat (first | (with_reducible first | exact HB.out | apply lA | apply lN | apply lD | refine lS ?_ GE105.out) | exact HB.out)))); replace HO_3 := am (Kd.R_elder' (by (with_reducible repeat (first | apply Ra | apply Rn | apply Rd)); exact HO_3.out) (Kd.R_base ho0) hb); replace BK105 := am (blk_below (g := gb105) (o := .cells #[.int .i64 ((rd_T30 l0 x10_1).kind), .string ((rd_T30 l0 x10_1).x), .string ((rd_T30 l0 x10_1).y), .string ((rd_T30 l0 x10_1).z), .string ((rd_T30 l0 x10_1).op), .int .i64 ((rd_T30 l0 x10_1).n), .int .i64 ((rd_T30 l0 x10_1).a), .int .i64 ((rd_T30 l0 x10_1).b)] 30 (0, 0)) (by (with_reducible repeat (first | refine bN ?_ _ | refine bD ?_ | refine bA ?_ _)); exact BK105.out) hb); replace HB := am (below_step (by repeat (first | (with_reducible first | exact HB.out | apply lA | apply lN | apply lD | refine lS ?_ GE105.out) | exact HB.out)) hb); (try clear hb); (try clear hb2); (try clear hk); (try clear hi); (try clear ho0); obtain ⟨Ao26, co26, eo26⟩ := Kd.R_slice HO119.out; subst eo26) | ((with_reducible refine gate_builtin (b := .append) (xs := #[.tmp 24, .tmp 26]) rfl ?_); at_builtin; refine Kd.R_append_rows Kd.string (w0 := w) w.heap.size rfl (.tmp 24) (.tmp 26) 32 9 (.string ⟨#[]⟩) 16 rfl Try.underlying32 info9 rfl (by decide) (by omega) u3 x3_1 t117 _ _ _ (fun k_ => some k_ ≠ (.slice Ao26 t117.length co26 : Value).ownBlock) (fun _ => False) rfl rfl ?aO ?aR (fun _ _ h => h) (fun _ h => h.elim) ?aF ?aB ?aS ?aL ?_; (case aR => repeat (first | exact (Kd.R_reads' HO119.out).2.2 | (with_reducible refine Kd.C_alloc ?_ _) | (with_reducible refine Kd.C_drewN ?_ _) | (with_reducible refine Kd.C_drew ?_))); (case aB => exact (by repeat (first | (with_reducible first | exact HB.out | apply lA | apply lN | apply lD | refine lS ?_ GE105.out) | exact HB.out))); (case aF => exact (fun k_ hk => Kd.fresh' (Kd.R_lt (by (with_reducible repeat (first | apply Ra | apply Rn | apply Rd)); exact HO119.out)) k_ hk)); (case aO => exact (by (with_reducible repeat (first | apply Ra | apply Rn | apply Rd)); exact Kd.R_mono HO_3.out (fun _ hk => hk.2))); (case aS => exact (below_size (by repeat (first | (with_reducible first | exact HB.out | apply lA | apply lN | apply lD | refine lS ?_ GE105.out) | exact HB.out)))); (case aL => have := LMc19.out; omega); intro v121 w25 ho hb hg hat; rw [← Ny120.out] at ho; replace BK105 := am (blk_grown (g := gb105) (o := .cells #[.int .i64 ((rd_T30 l0 x10_1).kind), .string ((rd_T30 l0 x10_1).x), .string ((rd_T30 l0 x10_1).y), .string ((rd_T30 l0 x10_1).z), .string ((rd_T30 l0 x10_1).op), .int .i64 ((rd_T30 l0 x10_1).n), .int .i64 ((rd_T30 l0 x10_1).a), .int .i64 ((rd_T30 l0 x10_1).b)] 30 (0, 0)) (by (with_reducible repeat (first | refine bN ?_ _ | refine bD ?_ | refine bA ?_ _)); exact BK105.out) hg (Kd.R_ne HO_3.out BK105.out (by decide))); replace HO119 := am (Kd.R_after (ok := (fun _ => True)) (by (with_reducible repeat (first | apply Ra | apply Rn | apply Rd)); exact HO119.out) hg hat); replace HB := am (hb); have HO122 := am (ho); clear HO_3; clear ho hb hg hat))
        go_roundg k1
        case measure => have := HK1.out; omega
        case rel => exact ⟨(y120), (wrap64 (x10_1 + 1)), (by first | rfl | (simp; done) | (simp [*]; done)), H', ⟨by have := HK1.out; omega⟩, ⟨by (with_reducible repeat (first | apply Ra | apply Rn | apply Rd)); exact Kd.R_mono HO122.out (fun _ hk => trivial)⟩, ⟨by repeat (first | (with_reducible first | exact HB.out | apply lA | apply lN | apply lD | refine lS ?_ GE105.out) | exact HB.out)⟩⟩
       ·rw [if_neg c19] at H
        exact absurd H (by simp)
     ·rw [if_neg c4] at H
      exact absurd H (by simp)
    ·rw [if_neg c3] at H
     exact absurd H (by simp)
   ·rw [if_neg c2] at H
    have c2b0 : decide (x10_1 < (l0.length : Int)) = false := decide_eq_false c2
    clear c2
    replace H := Option.bind_eq_some_iff.mp H
    obtain ⟨t101, A270, H⟩ := H
    replace H : (some t101) = some r := H
    have A27 := am A270
    clear A270
    obtain rfl := Option.some.inj H
    obtain ⟨Ao28, co28, eo28⟩ := Kd.R_slice HO_3.out
    subst eo28
    go_wp2_with (first | ((with_reducible refine gate_callee (f := 50) rfl ?_); refine goesL_ (some 30) rfl rfl Try.func50 (by kernel_rfl) rfl #[.slice Ao28 x3_1.length co28] rfl (by (try simp only [List.map_toArray, List.map_cons, List.map_nil]); first | done | rfl | (simp only [List.length_drop, List.length_take]; rfl)) ?_; (with_reducible refine (cfg_sorted_string.calls _ _ x3_1 t101 _ ?side1 ?side2 A27.out).mono ?_); (case side1 => repeat (first | exact (Kd.R_reads' HO_3.out).2.2 | (with_reducible refine Kd.C_alloc ?_ _) | (with_reducible refine Kd.C_drewN ?_ _) | (with_reducible refine Kd.C_drew ?_))); (case side2 => exact (Kd.R_reads' HO_3.out).2.1); rintro e w29 ⟨v102, rfl, ho0, hb⟩; refine ⟨_, rfl, ?_⟩; have HO103 := am (Kd.R_lower (Kd.R_new' ho0 (Kd.R_lt (by (with_reducible repeat (first | apply Ra | apply Rn | apply Rd)); exact HO_3.out))) (below_size (by repeat (first | (with_reducible first | exact HB.out | apply lA | apply lN | apply lD) | exact HB.out)))); replace HO_3 := am (Kd.R_elder' (by (with_reducible repeat (first | apply Ra | apply Rn | apply Rd)); exact HO_3.out) (Kd.R_base ho0) hb); replace HB := am (below_step (by repeat (first | (with_reducible first | exact HB.out | apply lA | apply lN | apply lD) | exact HB.out)) hb); (try clear hb); (try clear hb2); (try clear hk); (try clear hi); (try clear ho0)))
    go_ret
    exact ⟨_, by first | rfl | (simp [errW_none, errW_some] <;> rfl) | (simp [*, errW_none, errW_some] <;> rfl), by (with_reducible repeat (first | apply Ra | apply Rn | apply Rd)); exact Kd.R_mono HO103.out (fun _ hk => trivial), by repeat (first | (with_reducible first | exact HB.out | apply lA | apply lN | apply lD) | exact HB.out)⟩
end Go.Proofs.Ytnepgcbgkhikkaa.H
namespace Go.Proofs.Ytnepgcbgkhikkaa.H
open Go.RowKit Go.Proofs.YtnepgcbgkhikkaaW.PrintWords
def namesOf (st : Stmt) : List ByteArray := (if (defN st).2 = true then [(defN st).1] else []) ++ usesS st
theorem namesOf_len (st : Stmt) : (namesOf st).length ≤ 3 := by
  have := usesS_len st
  unfold namesOf
  split <;> simp <;> omega
theorem cNames_l0 (s : List Stmt) (hs : s.length ≤ 1000) : ∀ (r : List Stmt) (n : Nat) (acc : List ByteArray), s.drop n = r → n ≤ s.length → acc.length ≤ n * 3 → Ev (fun k => cfg_Names.l0 k acc s (s.length : Int) n) (setS (acc ++ r.flatMap namesOf))
  | [], n, acc, h, hn, hc => by
    refine Ev.step (fun k => by rw [cfg_Names.l0]) ?_
    refine Ev.neg (drop_end h) (Ev.pure (a := setS acc) ?_ (Ev.some (by simp)))
    unfold cfg_sorted_string.f slices_Clone_string_string.f slices_Sort_string_string.f slices_Compact_string_string.f
    rw [if_pos (by omega)]
    simp only [Option.bind_some]
    rw [if_pos (by omega)]
    rfl
  | y :: r, n, acc, h, hn, hc => by
    obtain ⟨h1, h2, h3, h4, h5⟩ := drop_more h (by omega)
    have hu := usesS_len y
    refine Ev.step (fun k => by rw [cfg_Names.l0]) ?_
    refine Ev.pos h1 (Ev.pos h2 (Ev.pos h1 ?_))
    rw [show rd_T30 s n = y from h3 _, h5]
    refine Ev.pure (Def_eq y) ?_
    by_cases hd : (defN y).2 = true
    · refine Ev.pos hd (Ev.pos (by omega) (Ev.pure (a := acc ++ [(defN y).1]) rfl (Ev.pure (Uses_eq y) (Ev.pos (by simp; omega) ?_))))
      exact Ev.iff (cNames_l0 s hs r (n + 1) _ h4 (by omega) (by simp; omega)) (by simp [namesOf, hd])
    · refine Ev.neg hd (Ev.pure (Uses_eq y) (Ev.pos (by omega) ?_))
      exact Ev.iff (cNames_l0 s hs r (n + 1) _ h4 (by omega) (by simp; omega)) (by simp [namesOf, hd])
theorem Names_ev (s : List Stmt) (hs : s.length ≤ 1000) : Ev (fun k => cfg_Names.f k s) (setS (s.flatMap namesOf)) := cNames_l0 s hs s 0 [] rfl (by omega) (by simp)
theorem names_len (s : List Stmt) : (setS (s.flatMap namesOf)).length ≤ s.length * 3 := by
  have : ∀ l : List Stmt, (l.flatMap namesOf).length ≤ l.length * 3 := by
    intro l
    induction l with
    | nil => simp
    | cons a l ih =>
      have := namesOf_len a
      rw [List.flatMap_cons, List.length_append, List.length_cons]
      omega
  have h1 := setS_len (s.flatMap namesOf)
  have h2 := this s
  omega
end Go.Proofs.Ytnepgcbgkhikkaa.H
namespace Go.Proofs.Ytnepgcbgkhikkaa.H
open Go.RowKit Go.Proofs.YtnepgcbgkhikkaaW.PrintWords Go.Proofs.YtnepgcbgkhikkaaW.PrintLast Go.Proofs.YtnepgcbgkhikkaaW.PrintMore
attribute [local go_sem] max2_int min2_int max_two min_two max_three min_three max_four min_four
def lambrequinref09_In.l0 : Nat → List ByteArray → ByteArray → Int → Option (Bool)
 | 0, _, _, _ => none
 | k + 1, x0, x1, x5 => if x5 < (x0.length : Int) then (if 0 ≤ x5 then (if (rdOf ByteArray.empty x0 x5).toList = x1.toList then (some true) else (lambrequinref09_In.l0 k x0 x1 (wrap64 (x5 + 1)))) else (none)) else (some false)
def lambrequinref09_In.f (k : Nat) (l0 : List ByteArray) (a1 : ByteArray) : Option (Bool) := lambrequinref09_In.l0 k l0 a1 0
theorem lambrequinref09_In.mono_l : ∀ k, (∀ y0 y1 y2, LeO (lambrequinref09_In.l0 k y0 y1 y2) (lambrequinref09_In.l0 (k + 1) y0 y1 y2))
 | 0 => fun _ _ _ r h => by simp [lambrequinref09_In.l0] at h
 | k + 1 => by
  have ih0 := lambrequinref09_In.mono_l k
  ·intro y0 y1 y2
   unfold lambrequinref09_In.l0
   repeat' first
   | (with_reducible exact ih0 _ _ _)
   | (with_reducible exact LeO.refl _)
   | (with_reducible exact LeO.none _)
   | (with_reducible refine LeO.ite ?_ ?_)
   | (with_reducible refine LeO.bind ?_ (fun _ => ?_))
   | exact ih0 _ _ _
   | exact LeO.none _
   | refine LeO.ite ?_ ?_
   | refine LeO.bind ?_ (fun _ => ?_)
theorem lambrequinref09_In.mono : ∀ a0 a1 k, LeO (lambrequinref09_In.f k a0 a1) (lambrequinref09_In.f (k + 1) a0 a1) := by
 intro a0 a1 k
 have ih0 := lambrequinref09_In.mono_l k
 unfold lambrequinref09_In.f
 repeat' first
   | (with_reducible exact ih0 _ _ _)
   | (with_reducible exact LeO.refl _)
   | (with_reducible exact LeO.none _)
   | (with_reducible refine LeO.ite ?_ ?_)
   | (with_reducible refine LeO.bind ?_ (fun _ => ?_))
   | exact ih0 _ _ _
   | exact LeO.none _
   | refine LeO.ite ?_ ?_
   | refine LeO.bind ?_ (fun _ => ?_)
set_option maxHeartbeats 8000000 in
set_option maxRecDepth 100000 in
theorem lambrequinref09_In.calls (k : Nat) (A0 : Option Addr) (c0 : Nat) (l0 : List ByteArray) (a1 : ByteArray) (r : Bool) (w : World) (hr0 : Kd.C Kd.string w A0 l0.length l0) (hc0 : l0.length ≤ c0) (h : lambrequinref09_In.f k l0 a1 = some r) :
  Calls Try.prog 21 #[.slice A0 l0.length c0, .string a1] w fun e w' => e = .returned (.bool r) ∧ Drawn0 w w' := by
 have HR0 := Aside0.mk hr0
 have HC0 := Aside0.mk hc0
 clear hr0 hc0
 have H : (lambrequinref09_In.l0 k l0 a1 0) = some r := h
 clear h
 have H' := Aside0.mk H
 clear H
 go_enter Try.func21, Try.ntmps21
 go_wp2
 go_loopg [5] k (fun kq v5 w' => ∃ (x5_1 : Int), v5 = .int .i64 x5_1 ∧ Aside0 (lambrequinref09_In.l0 kq l0 a1 x5_1 = some r) ∧ Aside0 (kq ≤ k) ∧ Drawn0 w w')
 case atStart => exact ⟨(0), (by first | rfl | (simp; done) | (simp [*]; done)), H', ⟨Nat.le_refl _⟩, by repeat (first | exact Drawn0.refl _ | apply Drawn0.step)⟩
 case round =>
  clear H'
  try clear c2
  try clear p2
  obtain ⟨x5_1, rfl, HA, HK1, ⟨m1, rfl⟩⟩ := hrel
  cases gk with
  | zero => exact absurd HA.out (by simp [lambrequinref09_In.l0])
  | succ k1 =>
   have H := HA.out
   clear HA
   simp only [lambrequinref09_In.l0] at H
   by_cases c3 : x5_1 < (l0.length : Int)
   ·rw [if_pos c3] at H
    have c3b0 : decide (x5_1 < (l0.length : Int)) = true := decide_eq_true c3
    clear c3
    by_cases c4 : 0 ≤ x5_1
    ·rw [if_pos c4] at H
     have c4b0 : decide (0 ≤ x5_1) = true := decide_eq_true c4
     clear c4
     by_cases c5 : (rdOf ByteArray.empty l0 x5_1).toList = a1.toList
     ·rw [if_pos c5] at H
      have c5b0 : ((rdOf ByteArray.empty l0 x5_1).toList == a1.toList) = true := beq_iff_eq.mpr c5
      have c5b1 : ((rdOf ByteArray.empty l0 x5_1).toList != a1.toList) = false := bne_eq_false_iff_eq.mpr c5
      clear c5
      obtain rfl := Option.some.inj H
      have p101 : 0 ≤ (x5_1 : Int) := of_decide_eq_true (by first | (with_reducible assumption) | assumption)
      have q101 : x5_1 < (l0.length : Int) := of_decide_eq_true (by first | (with_reducible assumption) | assumption)
      obtain ⟨ad101, e101, hx101_0⟩ := Kd.at_string HR0.out x5_1 p101 q101
      cases e101
      replace p101 := eq_true p101
      replace q101 := eq_true q101
      go_wp2
      go_ret
      exact ⟨by first | rfl | (simp; done) | (simp [*]; done), by repeat (first | exact Drawn0.refl _ | apply Drawn0.step)⟩
     ·rw [if_neg c5] at H
      have c5b0 : ((rdOf ByteArray.empty l0 x5_1).toList == a1.toList) = false := beq_eq_false_iff_ne.mpr c5
      have c5b1 : ((rdOf ByteArray.empty l0 x5_1).toList != a1.toList) = true := bne_iff_ne.mpr c5
      have H' := Aside0.mk H
      clear H
      have p101 : 0 ≤ (x5_1 : Int) := of_decide_eq_true (by first | (with_reducible assumption) | assumption)
      have q101 : x5_1 < (l0.length : Int) := of_decide_eq_true (by first | (with_reducible assumption) | assumption)
      obtain ⟨ad101, e101, hx101_0⟩ := Kd.at_string HR0.out x5_1 p101 q101
      cases e101
      replace p101 := eq_true p101
      replace q101 := eq_true q101
      go_wp2
      go_roundg k1
      case measure => have := HK1.out; omega
      case rel => exact ⟨(wrap64 (x5_1 + 1)), (by first | rfl | (simp; done) | (simp [*]; done)), H', ⟨by have := HK1.out; omega⟩, by repeat (first | exact Drawn0.refl _ | apply Drawn0.step)⟩
    ·rw [if_neg c4] at H
     exact absurd H (by simp)
   ·rw [if_neg c3] at H
    have c3b0 : decide (x5_1 < (l0.length : Int)) = false := decide_eq_false c3
    clear c3
    obtain rfl := Option.some.inj H
    go_wp2
    go_ret
    exact ⟨by first | rfl | (simp; done) | (simp [*]; done), by repeat (first | exact Drawn0.refl _ | apply Drawn0.step)⟩
def lambrequinref10_Ints.l0 : Nat → List Int → List Int → Int → Option (Bool)
 | 0, _, _, _ => none
 | k + 1, x0, x1, x5 => if x5 < (x0.length : Int) then (if 0 ≤ x5 then (if x5 < (x1.length : Int) then (if (rd x0 x5) = (rd x1 x5) then (lambrequinref10_Ints.l0 k x0 x1 (wrap64 (x5 + 1))) else (some false)) else (none)) else (none)) else (some true)
def lambrequinref10_Ints.f (k : Nat) (l0 : List Int) (l1 : List Int) : Option (Bool) := if (l0.length : Int) = (l1.length : Int) then (lambrequinref10_Ints.l0 k l0 l1 0) else (some false)
theorem lambrequinref10_Ints.mono_l : ∀ k, (∀ y0 y1 y2, LeO (lambrequinref10_Ints.l0 k y0 y1 y2) (lambrequinref10_Ints.l0 (k + 1) y0 y1 y2))
 | 0 => fun _ _ _ r h => by simp [lambrequinref10_Ints.l0] at h
 | k + 1 => by
  have ih0 := lambrequinref10_Ints.mono_l k
  ·intro y0 y1 y2
   unfold lambrequinref10_Ints.l0
   repeat' first
   | (with_reducible exact ih0 _ _ _)
   | (with_reducible exact LeO.refl _)
   | (with_reducible exact LeO.none _)
   | (with_reducible refine LeO.ite ?_ ?_)
   | (with_reducible refine LeO.bind ?_ (fun _ => ?_))
   | exact ih0 _ _ _
   | exact LeO.none _
   | refine LeO.ite ?_ ?_
   | refine LeO.bind ?_ (fun _ => ?_)
theorem lambrequinref10_Ints.mono : ∀ a0 a1 k, LeO (lambrequinref10_Ints.f k a0 a1) (lambrequinref10_Ints.f (k + 1) a0 a1) := by
 intro a0 a1 k
 have ih0 := lambrequinref10_Ints.mono_l k
 unfold lambrequinref10_Ints.f
 repeat' first
   | (with_reducible exact ih0 _ _ _)
   | (with_reducible exact LeO.refl _)
   | (with_reducible exact LeO.none _)
   | (with_reducible refine LeO.ite ?_ ?_)
   | (with_reducible refine LeO.bind ?_ (fun _ => ?_))
   | exact ih0 _ _ _
   | exact LeO.none _
   | refine LeO.ite ?_ ?_
   | refine LeO.bind ?_ (fun _ => ?_)
set_option maxHeartbeats 8000000 in
set_option maxRecDepth 100000 in
theorem lambrequinref10_Ints.calls (k : Nat) (A0 : Option Addr) (c0 : Nat) (l0 : List Int) (A1 : Option Addr) (c1 : Nat) (l1 : List Int) (r : Bool) (w : World) (hr0 : Kd.C (Kd.int .i64) w A0 l0.length l0) (hc0 : l0.length ≤ c0) (hr1 : Kd.C (Kd.int .i64) w A1 l1.length l1) (hc1 : l1.length ≤ c1) (h : lambrequinref10_Ints.f k l0 l1 = some r) :
  Calls Try.prog 26 #[.slice A0 l0.length c0, .slice A1 l1.length c1] w fun e w' => e = .returned (.bool r) ∧ Drawn0 w w' := by
 have HR0 := Aside0.mk hr0
 have HC0 := Aside0.mk hc0
 clear hr0 hc0
 have HR1 := Aside0.mk hr1
 have HC1 := Aside0.mk hc1
 clear hr1 hc1
 have H : (if (l0.length : Int) = (l1.length : Int) then (lambrequinref10_Ints.l0 k l0 l1 0) else (some false)) = some r := h
 clear h
 by_cases c3 : (l0.length : Int) = (l1.length : Int)
 ·rw [if_pos c3] at H
  have c3b0 : ((l0.length : Int) == (l1.length : Int)) = true := beq_iff_eq.mpr c3
  have c3b1 : ((l0.length : Int) != (l1.length : Int)) = false := bne_eq_false_iff_eq.mpr c3
  have c3b2 : (l0.length == l1.length) = true := by first | simpa using c3 | (simp at c3 ⊢; omega)
  clear c3
  have H' := Aside0.mk H
  clear H
  go_enter Try.func26, Try.ntmps26
  go_wp2
  repeat (go_quiet (fail); try go_wp2)
  go_loopg [5] k (fun kq v5 w' => ∃ (x5_1 : Int), v5 = .int .i64 x5_1 ∧ Aside0 (lambrequinref10_Ints.l0 kq l0 l1 x5_1 = some r) ∧ Aside0 (kq ≤ k) ∧ Drawn0 w w')
  case atStart => exact ⟨(0), (by first | rfl | (simp; done) | (simp [*]; done)), H', ⟨Nat.le_refl _⟩, by repeat (first | exact Drawn0.refl _ | apply Drawn0.step)⟩
  case round =>
   clear H'
   try clear c1
   try clear c2
   try clear p2
   try clear c3
   try clear c3b0
   try clear c3b1
   try clear c3b2
   obtain ⟨x5_1, rfl, HA, HK1, ⟨m1, rfl⟩⟩ := hrel
   cases gk with
   | zero => exact absurd HA.out (by simp [lambrequinref10_Ints.l0])
   | succ k1 =>
    have H := HA.out
    clear HA
    simp only [lambrequinref10_Ints.l0] at H
    by_cases c4 : x5_1 < (l0.length : Int)
    ·rw [if_pos c4] at H
     have c4b0 : decide (x5_1 < (l0.length : Int)) = true := decide_eq_true c4
     clear c4
     by_cases c5 : 0 ≤ x5_1
     ·rw [if_pos c5] at H
      have c5b0 : decide (0 ≤ x5_1) = true := decide_eq_true c5
      clear c5
      by_cases c6 : x5_1 < (l1.length : Int)
      ·rw [if_pos c6] at H
       have c6b0 : decide (x5_1 < (l1.length : Int)) = true := decide_eq_true c6
       clear c6
       by_cases c7 : (rd l0 x5_1) = (rd l1 x5_1)
       ·rw [if_pos c7] at H
        have c7b0 : ((rd l0 x5_1) == (rd l1 x5_1)) = true := beq_iff_eq.mpr c7
        have c7b1 : ((rd l0 x5_1) != (rd l1 x5_1)) = false := bne_eq_false_iff_eq.mpr c7
        clear c7
        have H' := Aside0.mk H
        clear H
        have p101 : 0 ≤ (x5_1 : Int) := of_decide_eq_true (by first | (with_reducible assumption) | assumption)
        have q101 : x5_1 < (l0.length : Int) := of_decide_eq_true (by first | (with_reducible assumption) | assumption)
        obtain ⟨ad101, e101, hx101_0⟩ := Kd.at_int HR0.out x5_1 p101 q101
        cases e101
        replace p101 := eq_true p101
        replace q101 := eq_true q101
        have p102 : 0 ≤ (x5_1 : Int) := of_decide_eq_true (by first | (with_reducible assumption) | assumption)
        have q102 : x5_1 < (l1.length : Int) := of_decide_eq_true (by first | (with_reducible assumption) | assumption)
        obtain ⟨ad102, e102, hx102_0⟩ := Kd.at_int HR1.out x5_1 p102 q102
        cases e102
        replace p102 := eq_true p102
        replace q102 := eq_true q102
        go_wp2
        repeat (go_quiet (fail); try go_wp2)
        go_roundg k1
        case measure => have := HK1.out; omega
        case rel => exact ⟨(wrap64 (x5_1 + 1)), (by first | rfl | (simp; done) | (simp [*]; done)), H', ⟨by have := HK1.out; omega⟩, by repeat (first | exact Drawn0.refl _ | apply Drawn0.step)⟩
       ·rw [if_neg c7] at H
        have c7b0 : ((rd l0 x5_1) == (rd l1 x5_1)) = false := beq_eq_false_iff_ne.mpr c7
        have c7b1 : ((rd l0 x5_1) != (rd l1 x5_1)) = true := bne_iff_ne.mpr c7
        obtain rfl := Option.some.inj H
        have p101 : 0 ≤ (x5_1 : Int) := of_decide_eq_true (by first | (with_reducible assumption) | assumption)
        have q101 : x5_1 < (l0.length : Int) := of_decide_eq_true (by first | (with_reducible assumption) | assumption)
        obtain ⟨ad101, e101, hx101_0⟩ := Kd.at_int HR0.out x5_1 p101 q101
        cases e101
        replace p101 := eq_true p101
        replace q101 := eq_true q101
        have p102 : 0 ≤ (x5_1 : Int) := of_decide_eq_true (by first | (with_reducible assumption) | assumption)
        have q102 : x5_1 < (l1.length : Int) := of_decide_eq_true (by first | (with_reducible assumption) | assumption)
        obtain ⟨ad102, e102, hx102_0⟩ := Kd.at_int HR1.out x5_1 p102 q102
        cases e102
        replace p102 := eq_true p102
        replace q102 := eq_true q102
        go_wp2
        repeat (go_quiet (fail); try go_wp2)
        go_ret
        exact ⟨by first | rfl | (simp; done) | (simp [*]; done), by repeat (first | exact Drawn0.refl _ | apply Drawn0.step)⟩
      ·rw [if_neg c6] at H
       exact absurd H (by simp)
     ·rw [if_neg c5] at H
      exact absurd H (by simp)
    ·rw [if_neg c4] at H
     have c4b0 : decide (x5_1 < (l0.length : Int)) = false := decide_eq_false c4
     clear c4
     obtain rfl := Option.some.inj H
     go_wp2
     repeat (go_quiet (fail); try go_wp2)
     go_ret
     exact ⟨by first | rfl | (simp; done) | (simp [*]; done), by repeat (first | exact Drawn0.refl _ | apply Drawn0.step)⟩
 ·rw [if_neg c3] at H
  have c3b0 : ((l0.length : Int) == (l1.length : Int)) = false := beq_eq_false_iff_ne.mpr c3
  have c3b1 : ((l0.length : Int) != (l1.length : Int)) = true := bne_iff_ne.mpr c3
  have c3b2 : (l0.length == l1.length) = false := by first | simpa using c3 | (simp at c3 ⊢; omega)
  obtain rfl := Option.some.inj H
  go_enter Try.func26, Try.ntmps26
  go_wp2
  repeat (go_quiet (fail); try go_wp2)
  go_ret
  exact ⟨by first | rfl | (simp; done) | (simp [*]; done), by repeat (first | exact Drawn0.refl _ | apply Drawn0.step)⟩
def slices_Index_string_string.l0 : Nat → List ByteArray → ByteArray → Int → Int → Option (Int)
 | 0, _, _, _, _ => none
 | k + 1, x0, x1, x7, x8 => if x8 < x7 then (if 0 ≤ x8 then (if x8 < (x0.length : Int) then (if x1.toList = (rdOf ByteArray.empty x0 x8).toList then (some x8) else (slices_Index_string_string.l0 k x0 x1 x7 (wrap64 (x8 + 1)))) else (none)) else (none)) else (some (-1))
def slices_Index_string_string.f (k : Nat) (l0 : List ByteArray) (a1 : ByteArray) : Option (Int) := slices_Index_string_string.l0 k l0 a1 (l0.length : Int) 0
theorem slices_Index_string_string.mono_l : ∀ k, (∀ y0 y1 y2 y3, LeO (slices_Index_string_string.l0 k y0 y1 y2 y3) (slices_Index_string_string.l0 (k + 1) y0 y1 y2 y3))
 | 0 => fun _ _ _ _ r h => by simp [slices_Index_string_string.l0] at h
 | k + 1 => by
  have ih0 := slices_Index_string_string.mono_l k
  ·intro y0 y1 y2 y3
   unfold slices_Index_string_string.l0
   repeat' first
   | (with_reducible exact ih0 _ _ _ _)
   | (with_reducible exact LeO.refl _)
   | (with_reducible exact LeO.none _)
   | (with_reducible refine LeO.ite ?_ ?_)
   | (with_reducible refine LeO.bind ?_ (fun _ => ?_))
   | exact ih0 _ _ _ _
   | exact LeO.none _
   | refine LeO.ite ?_ ?_
   | refine LeO.bind ?_ (fun _ => ?_)
theorem slices_Index_string_string.mono : ∀ a0 a1 k, LeO (slices_Index_string_string.f k a0 a1) (slices_Index_string_string.f (k + 1) a0 a1) := by
 intro a0 a1 k
 have ih0 := slices_Index_string_string.mono_l k
 unfold slices_Index_string_string.f
 repeat' first
   | (with_reducible exact ih0 _ _ _ _)
   | (with_reducible exact LeO.refl _)
   | (with_reducible exact LeO.none _)
   | (with_reducible refine LeO.ite ?_ ?_)
   | (with_reducible refine LeO.bind ?_ (fun _ => ?_))
   | exact ih0 _ _ _ _
   | exact LeO.none _
   | refine LeO.ite ?_ ?_
   | refine LeO.bind ?_ (fun _ => ?_)
set_option maxHeartbeats 8000000 in
set_option maxRecDepth 100000 in
theorem slices_Index_string_string.calls (k : Nat) (A0 : Option Addr) (c0 : Nat) (l0 : List ByteArray) (a1 : ByteArray) (r : Int) (w : World) (hr0 : Kd.C Kd.string w A0 l0.length l0) (hc0 : l0.length ≤ c0) (h : slices_Index_string_string.f k l0 a1 = some r) :
  Calls Try.prog 59 #[.slice A0 l0.length c0, .string a1] w fun e w' => e = .returned (.int .i64 r) ∧ Drawn0 w w' := by
 have HR0 := Aside0.mk hr0
 have HC0 := Aside0.mk hc0
 clear hr0 hc0
 have H : (slices_Index_string_string.l0 k l0 a1 (l0.length : Int) 0) = some r := h
 clear h
 have H' := Aside0.mk H
 clear H
 go_enter Try.func59, Try.ntmps59
 go_wp2
 go_loopg [8] k (fun kq v8 w' => ∃ (x8_1 : Int), v8 = .int .i64 x8_1 ∧ Aside0 (slices_Index_string_string.l0 kq l0 a1 (l0.length : Int) x8_1 = some r) ∧ Aside0 (kq ≤ k) ∧ Drawn0 w w')
 case atStart => exact ⟨(0), (by first | rfl | (simp; done) | (simp [*]; done)), H', ⟨Nat.le_refl _⟩, by repeat (first | exact Drawn0.refl _ | apply Drawn0.step)⟩
 case round =>
  clear H'
  try clear p2
  obtain ⟨x8_1, rfl, HA, HK1, ⟨m1, rfl⟩⟩ := hrel
  cases gk with
  | zero => exact absurd HA.out (by simp [slices_Index_string_string.l0])
  | succ k1 =>
   have H := HA.out
   clear HA
   simp only [slices_Index_string_string.l0] at H
   by_cases c3 : x8_1 < (l0.length : Int)
   ·rw [if_pos c3] at H
    have c3b0 : decide (x8_1 < (l0.length : Int)) = true := decide_eq_true c3
    clear c3
    by_cases c4 : 0 ≤ x8_1
    ·rw [if_pos c4] at H
     have c4b0 : decide (0 ≤ x8_1) = true := decide_eq_true c4
     clear c4
     by_cases c5 : x8_1 < (l0.length : Int)
     ·rw [if_pos c5] at H
      have c5b0 : decide (x8_1 < (l0.length : Int)) = true := decide_eq_true c5
      clear c5
      by_cases c6 : a1.toList = (rdOf ByteArray.empty l0 x8_1).toList
      ·rw [if_pos c6] at H
       have c6b0 : (a1.toList == (rdOf ByteArray.empty l0 x8_1).toList) = true := beq_iff_eq.mpr c6
       have c6b1 : (a1.toList != (rdOf ByteArray.empty l0 x8_1).toList) = false := bne_eq_false_iff_eq.mpr c6
       clear c6
       obtain rfl := Option.some.inj H
       have p101 : 0 ≤ (x8_1 : Int) := of_decide_eq_true (by first | (with_reducible assumption) | assumption)
       have q101 : x8_1 < (l0.length : Int) := of_decide_eq_true (by first | (with_reducible assumption) | assumption)
       obtain ⟨ad101, e101, hx101_0⟩ := Kd.at_string HR0.out x8_1 p101 q101
       cases e101
       replace p101 := eq_true p101
       replace q101 := eq_true q101
       go_wp2
       go_ret
       exact ⟨by first | rfl | (simp; done) | (simp [*]; done), by repeat (first | exact Drawn0.refl _ | apply Drawn0.step)⟩
      ·rw [if_neg c6] at H
       have c6b0 : (a1.toList == (rdOf ByteArray.empty l0 x8_1).toList) = false := beq_eq_false_iff_ne.mpr c6
       have c6b1 : (a1.toList != (rdOf ByteArray.empty l0 x8_1).toList) = true := bne_iff_ne.mpr c6
       have H' := Aside0.mk H
       clear H
       have p101 : 0 ≤ (x8_1 : Int) := of_decide_eq_true (by first | (with_reducible assumption) | assumption)
       have q101 : x8_1 < (l0.length : Int) := of_decide_eq_true (by first | (with_reducible assumption) | assumption)
       obtain ⟨ad101, e101, hx101_0⟩ := Kd.at_string HR0.out x8_1 p101 q101
       cases e101
       replace p101 := eq_true p101
       replace q101 := eq_true q101
       go_wp2
       go_roundg k1
       case measure => have := HK1.out; omega
       case rel => exact ⟨(wrap64 (x8_1 + 1)), (by first | rfl | (simp; done) | (simp [*]; done)), H', ⟨by have := HK1.out; omega⟩, by repeat (first | exact Drawn0.refl _ | apply Drawn0.step)⟩
     ·rw [if_neg c5] at H
      exact absurd H (by simp)
    ·rw [if_neg c4] at H
     exact absurd H (by simp)
   ·rw [if_neg c3] at H
    have c3b0 : decide (x8_1 < (l0.length : Int)) = false := decide_eq_false c3
    clear c3
    obtain rfl := Option.some.inj H
    go_wp2
    go_ret
    exact ⟨by first | rfl | (simp; done) | (simp [*]; done), by repeat (first | exact Drawn0.refl _ | apply Drawn0.step)⟩
def slices_Contains_string_string.f (k : Nat) (l0 : List ByteArray) (a1 : ByteArray) : Option (Bool) := (slices_Index_string_string.f k l0 a1).bind fun t101 => (some (decide (t101 ≥ 0)))
theorem slices_Contains_string_string.mono : ∀ a0 a1 k, LeO (slices_Contains_string_string.f k a0 a1) (slices_Contains_string_string.f (k + 1) a0 a1) := by
 intro a0 a1 k
 unfold slices_Contains_string_string.f
 repeat' first
   | (with_reducible exact slices_Index_string_string.mono _ _ _)
   | (with_reducible exact LeO.refl _)
   | (with_reducible exact LeO.none _)
   | (with_reducible refine LeO.ite ?_ ?_)
   | (with_reducible refine LeO.bind ?_ (fun _ => ?_))
   | exact slices_Index_string_string.mono _ _ _
   | exact LeO.none _
   | refine LeO.ite ?_ ?_
   | refine LeO.bind ?_ (fun _ => ?_)
set_option maxHeartbeats 8000000 in
set_option maxRecDepth 100000 in
theorem slices_Contains_string_string.calls (k : Nat) (A0 : Option Addr) (c0 : Nat) (l0 : List ByteArray) (a1 : ByteArray) (r : Bool) (w : World) (hr0 : Kd.C Kd.string w A0 l0.length l0) (hc0 : l0.length ≤ c0) (h : slices_Contains_string_string.f k l0 a1 = some r) :
  Calls Try.prog 46 #[.slice A0 l0.length c0, .string a1] w fun e w' => e = .returned (.bool r) ∧ Drawn0 w w' := by
 have HR0 := Aside0.mk hr0
 have HC0 := Aside0.mk hc0
 clear hr0 hc0
 have H : ((slices_Index_string_string.f k l0 a1).bind fun t101 => (some (decide (t101 ≥ 0)))) = some r := h
 clear h
 replace H := Option.bind_eq_some_iff.mp H
 obtain ⟨t101, A30, H⟩ := H
 replace H : (some (decide (t101 ≥ 0))) = some r := H
 have A3 := Aside0.mk A30
 clear A30
 obtain rfl := Option.some.inj H
 go_enter Try.func46, Try.ntmps46
 go_wp2_with (first | ((with_reducible refine gate_callee (f := 59) rfl ?_); refine goesL_ (some 7) rfl rfl Try.func59 (by kernel_rfl) rfl #[.slice A0 l0.length c0, .string a1] rfl (by (try simp only [List.map_toArray, List.map_cons, List.map_nil]); first | done | rfl | (simp only [List.length_drop, List.length_take]; rfl)) ?_; (with_reducible refine (slices_Index_string_string.calls k _ _ l0 a1 t101 _ ?side1 ?side2 A3.out).mono ?_); (case side1 => repeat (first | exact HR0.out | (with_reducible refine Kd.C_alloc ?_ _) | (with_reducible refine Kd.C_drewN ?_ _) | (with_reducible refine Kd.C_drew ?_))); (case side2 => exact HC0.out); rintro e w' ⟨rfl, ⟨nd, rfl⟩⟩; refine ⟨_, rfl, ?_⟩))
 go_ret
 exact ⟨by first | rfl | (simp; done) | (simp [*]; done), by repeat (first | exact Drawn0.refl _ | apply Drawn0.step)⟩
def slices_Index_int_int.l0 : Nat → List Int → Int → Int → Int → Option (Int)
 | 0, _, _, _, _ => none
 | k + 1, x0, x1, x7, x8 => if x8 < x7 then (if 0 ≤ x8 then (if x8 < (x0.length : Int) then (if x1 = (rd x0 x8) then (some x8) else (slices_Index_int_int.l0 k x0 x1 x7 (wrap64 (x8 + 1)))) else (none)) else (none)) else (some (-1))
def slices_Index_int_int.f (k : Nat) (l0 : List Int) (a1 : Int) : Option (Int) := slices_Index_int_int.l0 k l0 a1 (l0.length : Int) 0
theorem slices_Index_int_int.mono_l : ∀ k, (∀ y0 y1 y2 y3, LeO (slices_Index_int_int.l0 k y0 y1 y2 y3) (slices_Index_int_int.l0 (k + 1) y0 y1 y2 y3))
 | 0 => fun _ _ _ _ r h => by simp [slices_Index_int_int.l0] at h
 | k + 1 => by
  have ih0 := slices_Index_int_int.mono_l k
  ·intro y0 y1 y2 y3
   unfold slices_Index_int_int.l0
   repeat' first
   | (with_reducible exact ih0 _ _ _ _)
   | (with_reducible exact LeO.refl _)
   | (with_reducible exact LeO.none _)
   | (with_reducible refine LeO.ite ?_ ?_)
   | (with_reducible refine LeO.bind ?_ (fun _ => ?_))
   | exact ih0 _ _ _ _
   | exact LeO.none _
   | refine LeO.ite ?_ ?_
   | refine LeO.bind ?_ (fun _ => ?_)
theorem slices_Index_int_int.mono : ∀ a0 a1 k, LeO (slices_Index_int_int.f k a0 a1) (slices_Index_int_int.f (k + 1) a0 a1) := by
 intro a0 a1 k
 have ih0 := slices_Index_int_int.mono_l k
 unfold slices_Index_int_int.f
 repeat' first
   | (with_reducible exact ih0 _ _ _ _)
   | (with_reducible exact LeO.refl _)
   | (with_reducible exact LeO.none _)
   | (with_reducible refine LeO.ite ?_ ?_)
   | (with_reducible refine LeO.bind ?_ (fun _ => ?_))
   | exact ih0 _ _ _ _
   | exact LeO.none _
   | refine LeO.ite ?_ ?_
   | refine LeO.bind ?_ (fun _ => ?_)
set_option maxHeartbeats 8000000 in
set_option maxRecDepth 100000 in
theorem slices_Index_int_int.calls (k : Nat) (A0 : Option Addr) (c0 : Nat) (l0 : List Int) (a1 : Int) (r : Int) (w : World) (hr0 : Kd.C (Kd.int .i64) w A0 l0.length l0) (hc0 : l0.length ≤ c0) (h : slices_Index_int_int.f k l0 a1 = some r) :
  Calls Try.prog 69 #[.slice A0 l0.length c0, .int .i64 a1] w fun e w' => e = .returned (.int .i64 r) ∧ Drawn0 w w' := by
 have HR0 := Aside0.mk hr0
 have HC0 := Aside0.mk hc0
 clear hr0 hc0
 have H : (slices_Index_int_int.l0 k l0 a1 (l0.length : Int) 0) = some r := h
 clear h
 have H' := Aside0.mk H
 clear H
 go_enter Try.func69, Try.ntmps69
 go_wp2
 go_loopg [8] k (fun kq v8 w' => ∃ (x8_1 : Int), v8 = .int .i64 x8_1 ∧ Aside0 (slices_Index_int_int.l0 kq l0 a1 (l0.length : Int) x8_1 = some r) ∧ Aside0 (kq ≤ k) ∧ Drawn0 w w')
 case atStart => exact ⟨(0), (by first | rfl | (simp; done) | (simp [*]; done)), H', ⟨Nat.le_refl _⟩, by repeat (first | exact Drawn0.refl _ | apply Drawn0.step)⟩
 case round =>
  clear H'
  try clear p2
  obtain ⟨x8_1, rfl, HA, HK1, ⟨m1, rfl⟩⟩ := hrel
  cases gk with
  | zero => exact absurd HA.out (by simp [slices_Index_int_int.l0])
  | succ k1 =>
   have H := HA.out
   clear HA
   simp only [slices_Index_int_int.l0] at H
   by_cases c3 : x8_1 < (l0.length : Int)
   ·rw [if_pos c3] at H
    have c3b0 : decide (x8_1 < (l0.length : Int)) = true := decide_eq_true c3
    clear c3
    by_cases c4 : 0 ≤ x8_1
    ·rw [if_pos c4] at H
     have c4b0 : decide (0 ≤ x8_1) = true := decide_eq_true c4
     clear c4
     by_cases c5 : x8_1 < (l0.length : Int)
     ·rw [if_pos c5] at H
      have c5b0 : decide (x8_1 < (l0.length : Int)) = true := decide_eq_true c5
      clear c5
      by_cases c6 : a1 = (rd l0 x8_1)
      ·rw [if_pos c6] at H
       have c6b0 : (a1 == (rd l0 x8_1)) = true := beq_iff_eq.mpr c6
       have c6b1 : (a1 != (rd l0 x8_1)) = false := bne_eq_false_iff_eq.mpr c6
       clear c6
       obtain rfl := Option.some.inj H
       have p101 : 0 ≤ (x8_1 : Int) := of_decide_eq_true (by first | (with_reducible assumption) | assumption)
       have q101 : x8_1 < (l0.length : Int) := of_decide_eq_true (by first | (with_reducible assumption) | assumption)
       obtain ⟨ad101, e101, hx101_0⟩ := Kd.at_int HR0.out x8_1 p101 q101
       cases e101
       replace p101 := eq_true p101
       replace q101 := eq_true q101
       go_wp2
       go_ret
       exact ⟨by first | rfl | (simp; done) | (simp [*]; done), by repeat (first | exact Drawn0.refl _ | apply Drawn0.step)⟩
      ·rw [if_neg c6] at H
       have c6b0 : (a1 == (rd l0 x8_1)) = false := beq_eq_false_iff_ne.mpr c6
       have c6b1 : (a1 != (rd l0 x8_1)) = true := bne_iff_ne.mpr c6
       have H' := Aside0.mk H
       clear H
       have p101 : 0 ≤ (x8_1 : Int) := of_decide_eq_true (by first | (with_reducible assumption) | assumption)
       have q101 : x8_1 < (l0.length : Int) := of_decide_eq_true (by first | (with_reducible assumption) | assumption)
       obtain ⟨ad101, e101, hx101_0⟩ := Kd.at_int HR0.out x8_1 p101 q101
       cases e101
       replace p101 := eq_true p101
       replace q101 := eq_true q101
       go_wp2
       go_roundg k1
       case measure => have := HK1.out; omega
       case rel => exact ⟨(wrap64 (x8_1 + 1)), (by first | rfl | (simp; done) | (simp [*]; done)), H', ⟨by have := HK1.out; omega⟩, by repeat (first | exact Drawn0.refl _ | apply Drawn0.step)⟩
     ·rw [if_neg c5] at H
      exact absurd H (by simp)
    ·rw [if_neg c4] at H
     exact absurd H (by simp)
   ·rw [if_neg c3] at H
    have c3b0 : decide (x8_1 < (l0.length : Int)) = false := decide_eq_false c3
    clear c3
    obtain rfl := Option.some.inj H
    go_wp2
    go_ret
    exact ⟨by first | rfl | (simp; done) | (simp [*]; done), by repeat (first | exact Drawn0.refl _ | apply Drawn0.step)⟩
def slices_Contains_int_int.f (k : Nat) (l0 : List Int) (a1 : Int) : Option (Bool) := (slices_Index_int_int.f k l0 a1).bind fun t101 => (some (decide (t101 ≥ 0)))
theorem slices_Contains_int_int.mono : ∀ a0 a1 k, LeO (slices_Contains_int_int.f k a0 a1) (slices_Contains_int_int.f (k + 1) a0 a1) := by
 intro a0 a1 k
 unfold slices_Contains_int_int.f
 repeat' first
   | (with_reducible exact slices_Index_int_int.mono _ _ _)
   | (with_reducible exact LeO.refl _)
   | (with_reducible exact LeO.none _)
   | (with_reducible refine LeO.ite ?_ ?_)
   | (with_reducible refine LeO.bind ?_ (fun _ => ?_))
   | exact slices_Index_int_int.mono _ _ _
   | exact LeO.none _
   | refine LeO.ite ?_ ?_
   | refine LeO.bind ?_ (fun _ => ?_)
set_option maxHeartbeats 8000000 in
set_option maxRecDepth 100000 in
theorem slices_Contains_int_int.calls (k : Nat) (A0 : Option Addr) (c0 : Nat) (l0 : List Int) (a1 : Int) (r : Bool) (w : World) (hr0 : Kd.C (Kd.int .i64) w A0 l0.length l0) (hc0 : l0.length ≤ c0) (h : slices_Contains_int_int.f k l0 a1 = some r) :
  Calls Try.prog 52 #[.slice A0 l0.length c0, .int .i64 a1] w fun e w' => e = .returned (.bool r) ∧ Drawn0 w w' := by
 have HR0 := Aside0.mk hr0
 have HC0 := Aside0.mk hc0
 clear hr0 hc0
 have H : ((slices_Index_int_int.f k l0 a1).bind fun t101 => (some (decide (t101 ≥ 0)))) = some r := h
 clear h
 replace H := Option.bind_eq_some_iff.mp H
 obtain ⟨t101, A30, H⟩ := H
 replace H : (some (decide (t101 ≥ 0))) = some r := H
 have A3 := Aside0.mk A30
 clear A30
 obtain rfl := Option.some.inj H
 go_enter Try.func52, Try.ntmps52
 go_wp2_with (first | ((with_reducible refine gate_callee (f := 69) rfl ?_); refine goesL_ (some 7) rfl rfl Try.func69 (by kernel_rfl) rfl #[.slice A0 l0.length c0, .int .i64 a1] rfl (by (try simp only [List.map_toArray, List.map_cons, List.map_nil]); first | done | rfl | (simp only [List.length_drop, List.length_take]; rfl)) ?_; (with_reducible refine (slices_Index_int_int.calls k _ _ l0 a1 t101 _ ?side1 ?side2 A3.out).mono ?_); (case side1 => repeat (first | exact HR0.out | (with_reducible refine Kd.C_alloc ?_ _) | (with_reducible refine Kd.C_drewN ?_ _) | (with_reducible refine Kd.C_drew ?_))); (case side2 => exact HC0.out); rintro e w' ⟨rfl, ⟨nd, rfl⟩⟩; refine ⟨_, rfl, ?_⟩))
 go_ret
 exact ⟨by first | rfl | (simp; done) | (simp [*]; done), by repeat (first | exact Drawn0.refl _ | apply Drawn0.step)⟩
end Go.Proofs.Ytnepgcbgkhikkaa.H
namespace Go.Proofs.Ytnepgcbgkhikkaa.H
open Go.RowKit Go.Proofs.YtnepgcbgkhikkaaW.PrintWords
theorem In_l0 (l : List ByteArray) (s : ByteArray) (hl : l.length ≤ 9223372036854775807) : ∀ (r : List ByteArray) (n : Nat), l.drop n = r → Ev (fun k => lambrequinref09_In.l0 k l s n) (mem s r)
  | [], n, h => by
    refine Ev.step (fun k => by rw [lambrequinref09_In.l0]) ?_
    exact Ev.neg (drop_end h) (Ev.some (by simp [mem]))
  | y :: r, n, h => by
    obtain ⟨h1, h2, h3, h4, h5⟩ := drop_more h hl
    refine Ev.step (fun k => by rw [lambrequinref09_In.l0]) ?_
    refine Ev.pos h1 (Ev.pos h2 ?_)
    rw [show rdOf ByteArray.empty l n = y from h3 _, h5]
    refine Ev.iff (Ev.cases (fun _ => Ev.now true) (fun _ => In_l0 l s hl r (n + 1) h4)) ?_
    simp only [lib_ba_eq, mem, List.any_cons]
    by_cases e : y = s
    · subst e; simp
    · have e' : ¬ s = y := fun h => e h.symm
      simp [e, e']
theorem In_ev (l : List ByteArray) (s : ByteArray) (hl : l.length ≤ 9223372036854775807) : Ev (fun k => lambrequinref09_In.f k l s) (mem s l) := In_l0 l s hl l 0 rfl
theorem Ints_l0 (a b : List Int) (e : a.length = b.length) (hl : a.length ≤ 9223372036854775807) : ∀ (r s : List Int) (n : Nat), a.drop n = r → b.drop n = s → Ev (fun k => lambrequinref10_Ints.l0 k a b n) (decide (r = s))
  | [], s, n, h, h' => by
    refine Ev.step (fun k => by rw [lambrequinref10_Ints.l0]) ?_
    have : s = [] := by
      have h1 := congrArg List.length h; have h2 := congrArg List.length h'
      simp at h1 h2
      cases s <;> simp at h2 ⊢
      omega
    exact Ev.neg (drop_end h) (Ev.some (by simp [this]))
  | y :: r, [], n, h, h' => by
    have h1 := congrArg List.length h; have h2 := congrArg List.length h'
    simp at h1 h2
    omega
  | y :: r, z :: s, n, h, h' => by
    obtain ⟨h1, h2, h3, h4, h5⟩ := drop_more h (by omega)
    obtain ⟨g1, g2, g3, g4, g5⟩ := drop_more h' (by omega)
    refine Ev.step (fun k => by rw [lambrequinref10_Ints.l0]) ?_
    refine Ev.pos h1 (Ev.pos h2 (Ev.pos g1 ?_))
    rw [show rd a n = y from h3 _, show rd b n = z from g3 _, h5]
    refine Ev.iff (Ev.cases (fun _ => Ints_l0 a b e hl r s (n + 1) h4 g4) (fun _ => Ev.now false)) ?_
    by_cases c : y = z <;> simp [c]
theorem Ints_ev (a b : List Int) (hl : a.length ≤ 9223372036854775807) : Ev (fun k => lambrequinref10_Ints.f k a b) (decide (a = b)) := by
  unfold lambrequinref10_Ints.f
  by_cases c : a.length = b.length
  · exact Ev.pos (by omega) (Ints_l0 a b c hl a b 0 rfl rfl)
  · exact Ev.neg (by omega) (Ev.some (by rw [eq_comm, decide_eq_false_iff_not]; rintro rfl; exact c rfl))
theorem Index_l0 (l : List ByteArray) (s : ByteArray) (hl : l.length ≤ 9223372036854775807) : ∀ (r : List ByteArray) (n : Nat), l.drop n = r → ∃ v : Int, Ev (fun k => slices_Index_string_string.l0 k l s (l.length : Int) n) v ∧ decide (v ≥ 0) = mem s r
  | [], n, h => by
    refine ⟨-1, Ev.step (fun k => by rw [slices_Index_string_string.l0]) ?_, by simp [mem]⟩
    exact Ev.neg (drop_end h) (Ev.now _)
  | y :: r, n, h => by
    obtain ⟨h1, h2, h3, h4, h5⟩ := drop_more h hl
    obtain ⟨v, hv, e⟩ := Index_l0 l s hl r (n + 1) h4
    by_cases c : s = y
    · refine ⟨n, Ev.step (fun k => by rw [slices_Index_string_string.l0]) ?_, by simp [mem, c]⟩
      refine Ev.pos h1 (Ev.pos h2 (Ev.pos h1 ?_))
      rw [show rdOf ByteArray.empty l n = y from h3 _]
      exact Ev.pos (by rw [c]) (Ev.now _)
    · refine ⟨v, Ev.step (fun k => by rw [slices_Index_string_string.l0]) ?_, by rw [e]; simp [mem, c]⟩
      refine Ev.pos h1 (Ev.pos h2 (Ev.pos h1 ?_))
      rw [show rdOf ByteArray.empty l n = y from h3 _, h5]
      exact Ev.neg (by rw [lib_ba_eq]; exact c) hv
theorem Contains_ev (l : List ByteArray) (s : ByteArray) (hl : l.length ≤ 9223372036854775807) : Ev (fun k => slices_Contains_string_string.f k l s) (mem s l) := by
  obtain ⟨v, hv, e⟩ := Index_l0 l s hl l 0 rfl
  exact Ev.bind hv (Ev.some e)
theorem IndexI_l0 (l : List Int) (s : Int) (hl : l.length ≤ 9223372036854775807) : ∀ (r : List Int) (n : Nat), l.drop n = r → ∃ v : Int, Ev (fun k => slices_Index_int_int.l0 k l s (l.length : Int) n) v ∧ decide (v ≥ 0) = decide (s ∈ r)
  | [], n, h => by
    refine ⟨-1, Ev.step (fun k => by rw [slices_Index_int_int.l0]) ?_, by simp⟩
    exact Ev.neg (drop_end h) (Ev.now _)
  | y :: r, n, h => by
    obtain ⟨h1, h2, h3, h4, h5⟩ := drop_more h hl
    obtain ⟨v, hv, e⟩ := IndexI_l0 l s hl r (n + 1) h4
    by_cases c : s = y
    · refine ⟨n, Ev.step (fun k => by rw [slices_Index_int_int.l0]) ?_, by simp [c]⟩
      refine Ev.pos h1 (Ev.pos h2 (Ev.pos h1 ?_))
      rw [show rd l n = y from h3 _]
      exact Ev.pos c (Ev.now _)
    · refine ⟨v, Ev.step (fun k => by rw [slices_Index_int_int.l0]) ?_, by rw [e]; simp [c]⟩
      refine Ev.pos h1 (Ev.pos h2 (Ev.pos h1 ?_))
      rw [show rd l n = y from h3 _, h5]
      exact Ev.neg c hv
theorem ContainsI_ev (l : List Int) (s : Int) (hl : l.length ≤ 9223372036854775807) : Ev (fun k => slices_Contains_int_int.f k l s) (decide (s ∈ l)) := by
  obtain ⟨v, hv, e⟩ := IndexI_l0 l s hl l 0 rfl
  exact Ev.bind hv (Ev.some e)
end Go.Proofs.Ytnepgcbgkhikkaa.H
namespace Go.Proofs.Ytnepgcbgkhikkaa.H
open Go.RowKit Go.Proofs.YtnepgcbgkhikkaaW.PrintWords Go.Proofs.YtnepgcbgkhikkaaW.PrintLast Go.Proofs.YtnepgcbgkhikkaaW.PrintMore
attribute [local go_sem] max2_int min2_int max_two min_two max_three min_three max_four min_four
def cfg_defines.f (a0_0 : Int) (a0_1 : ByteArray) (a0_2 : ByteArray) (a0_3 : ByteArray) (a0_4 : ByteArray) (a0_5 : Int) (a0_6 : Int) (a0_7 : Int) (a1 : ByteArray) : Option (Bool) := (cfg_Def.f a0_0 a0_1 a0_2 a0_3 a0_4 a0_5 a0_6 a0_7).bind fun bt102 => (if bt102.2 = true then (some (bt102.1.toList == a1.toList)) else (some false))
set_option maxHeartbeats 8000000 in
set_option maxRecDepth 100000 in
theorem cfg_defines.calls (a0_0 : Int) (a0_1 : ByteArray) (a0_2 : ByteArray) (a0_3 : ByteArray) (a0_4 : ByteArray) (a0_5 : Int) (a0_6 : Int) (a0_7 : Int) (a1 : ByteArray) (r : Bool) (w : World) (h : cfg_defines.f a0_0 a0_1 a0_2 a0_3 a0_4 a0_5 a0_6 a0_7 a1 = some r) :
  Calls Try.prog 45 #[.agg #[.int .i64 a0_0, .string a0_1, .string a0_2, .string a0_3, .string a0_4, .int .i64 a0_5, .int .i64 a0_6, .int .i64 a0_7], .string a1] w fun e w' => e = .returned (.bool r) ∧ Below w.heap.size w w' := by
 have hu30 := Try.underlying30
 have HB := Aside0.mk (Below.refl w.heap.size w)
 have H : ((cfg_Def.f a0_0 a0_1 a0_2 a0_3 a0_4 a0_5 a0_6 a0_7).bind fun bt102 => (if bt102.2 = true then (some (bt102.1.toList == a1.toList)) else (some false))) = some r := h
 clear h
 replace H := Option.bind_eq_some_iff.mp H
 obtain ⟨⟨t102, t103⟩, A30, H⟩ := H
 replace H : (if t103 = true then (some (t102.toList == a1.toList)) else (some false)) = some r := H
 have A3 := Aside0.mk A30
 clear A30
 by_cases c4 : t103 = true
 ·subst c4
  have H1 : (some (t102.toList == a1.toList)) = some r := by rw [if_pos rfl] at H; exact H
  clear H
  have H := H1
  clear H1
  obtain rfl := Option.some.inj H
  go_enter Try.func45, Try.ntmps45
  go_wp2_with (first | ((with_reducible refine gate_dst (N := 2) rfl ?_); refine box_event ?hg (N := 2) ?hd (cs := #[.int .i64 a0_0, .string a0_1, .string a0_2, .string a0_3, .string a0_4, .int .i64 a0_5, .int .i64 a0_6, .int .i64 a0_7]) (t := 30) ?hr ?_; (case hd => rfl); (case hg => rfl); (case hr => first | (go_simp; done) | (go_simp; rfl)); intro gb101 hg w5 hbox hb; have n0_ := Aside0.mk (below_step (by repeat (first | (with_reducible first | exact HB.out | apply below_alloc | apply pw_below_drewN | apply below_drew1) | exact HB.out)) hb); have n1_ := Aside0.mk (hbox); have n2_ := Aside0.mk ((by rw [hg]; exact (below_size (by repeat (first | (with_reducible first | exact HB.out | apply below_alloc | apply pw_below_drewN | apply below_drew1) | exact HB.out))) : w.heap.size ≤ gb101)); have n3_ := Aside0.mk ((by rw [hg]; exact (below_size (by repeat (first | (with_reducible first | exact HB.out | apply below_alloc | apply pw_below_drewN | apply below_drew1) | exact HB.out))) : w.heap.size ≤ gb101)); clear HB; have HB := n0_; have BK101 := n1_; have GW101 := n2_; have GE101 := n3_; clear n0_ n1_ n2_ n3_; clear hb hbox hg; have hcz6_0 : w5.cell? ⟨gb101, 0, none⟩ = some (.int .i64 a0_0) := (blk_cell BK101.out 0).trans rfl; have hcz6_1 : w5.cell? ⟨gb101, 1, none⟩ = some (.string a0_1) := (blk_cell BK101.out 1).trans rfl; have hcz6_2 : w5.cell? ⟨gb101, 2, none⟩ = some (.string a0_2) := (blk_cell BK101.out 2).trans rfl; have hcz6_3 : w5.cell? ⟨gb101, 3, none⟩ = some (.string a0_3) := (blk_cell BK101.out 3).trans rfl; have hcz6_4 : w5.cell? ⟨gb101, 4, none⟩ = some (.string a0_4) := (blk_cell BK101.out 4).trans rfl; have hcz6_5 : w5.cell? ⟨gb101, 5, none⟩ = some (.int .i64 a0_5) := (blk_cell BK101.out 5).trans rfl; have hcz6_6 : w5.cell? ⟨gb101, 6, none⟩ = some (.int .i64 a0_6) := (blk_cell BK101.out 6).trans rfl; have hcz6_7 : w5.cell? ⟨gb101, 7, none⟩ = some (.int .i64 a0_7) := (blk_cell BK101.out 7).trans rfl; have hfz6_0 := blk_frozen BK101.out 0; have hfz6_1 := blk_frozen BK101.out 1; have hfz6_2 := blk_frozen BK101.out 2; have hfz6_3 := blk_frozen BK101.out 3; have hfz6_4 := blk_frozen BK101.out 4; have hfz6_5 := blk_frozen BK101.out 5; have hfz6_6 := blk_frozen BK101.out 6; have hfz6_7 := blk_frozen BK101.out 7) | ((with_reducible refine gate_callee (f := 20) rfl ?_); refine goesL_ (some 9) rfl rfl Try.func20 (by kernel_rfl) rfl #[.agg #[.int .i64 a0_0, .string a0_1, .string a0_2, .string a0_3, .string a0_4, .int .i64 a0_5, .int .i64 a0_6, .int .i64 a0_7]] rfl (by (try simp only [List.map_toArray, List.map_cons, List.map_nil]); first | done | rfl | (simp only [List.length_drop, List.length_take]; rfl)) ?_; (with_reducible refine (cfg_Def.calls a0_0 a0_1 a0_2 a0_3 a0_4 a0_5 a0_6 a0_7 t102 true _ A3.out).mono ?_); rintro e w7 ⟨rfl, hb⟩; refine ⟨_, rfl, ?_⟩; have n0_ := Aside0.mk (blk_below (g := gb101) (o := .cells #[.int .i64 a0_0, .string a0_1, .string a0_2, .string a0_3, .string a0_4, .int .i64 a0_5, .int .i64 a0_6, .int .i64 a0_7] 30 (0, 0)) (by (with_reducible repeat (first | refine blk_drewN ?_ _ | refine blk_drew ?_ | refine blk_alloc ?_ _)); exact BK101.out) hb); have n1_ := Aside0.mk (below_step (by repeat (first | (with_reducible first | exact HB.out | apply below_alloc | apply pw_below_drewN | apply below_drew1 | refine below_set ?_ GE101.out) | exact HB.out)) hb); clear BK101; clear HB; have BK101 := n0_; have HB := n1_; clear n0_ n1_; (try clear hb); (try clear hb2); (try clear hk); (try clear hi)))
  go_ret
  exact ⟨by first | rfl | (simp [errW_none, errW_some] <;> rfl) | (simp [*, errW_none, errW_some] <;> rfl), by repeat (first | (with_reducible first | exact HB.out | apply below_alloc | apply pw_below_drewN | apply below_drew1 | refine below_set ?_ GE101.out) | exact HB.out)⟩
 ·replace c4 := Bool.eq_false_iff.mpr c4
  subst c4
  have H1 : (some false) = some r := by rw [if_neg (show ¬ (false = true) by decide)] at H; exact H
  clear H
  have H := H1
  clear H1
  obtain rfl := Option.some.inj H
  go_enter Try.func45, Try.ntmps45
  go_wp2_with (first | ((with_reducible refine gate_dst (N := 2) rfl ?_); refine box_event ?hg (N := 2) ?hd (cs := #[.int .i64 a0_0, .string a0_1, .string a0_2, .string a0_3, .string a0_4, .int .i64 a0_5, .int .i64 a0_6, .int .i64 a0_7]) (t := 30) ?hr ?_; (case hd => rfl); (case hg => rfl); (case hr => first | (go_simp; done) | (go_simp; rfl)); intro gb101 hg w8 hbox hb; have n0_ := Aside0.mk (below_step (by repeat (first | (with_reducible first | exact HB.out | apply below_alloc | apply pw_below_drewN | apply below_drew1) | exact HB.out)) hb); have n1_ := Aside0.mk (hbox); have n2_ := Aside0.mk ((by rw [hg]; exact (below_size (by repeat (first | (with_reducible first | exact HB.out | apply below_alloc | apply pw_below_drewN | apply below_drew1) | exact HB.out))) : w.heap.size ≤ gb101)); have n3_ := Aside0.mk ((by rw [hg]; exact (below_size (by repeat (first | (with_reducible first | exact HB.out | apply below_alloc | apply pw_below_drewN | apply below_drew1) | exact HB.out))) : w.heap.size ≤ gb101)); clear HB; have HB := n0_; have BK101 := n1_; have GW101 := n2_; have GE101 := n3_; clear n0_ n1_ n2_ n3_; clear hb hbox hg; have hcz9_0 : w8.cell? ⟨gb101, 0, none⟩ = some (.int .i64 a0_0) := (blk_cell BK101.out 0).trans rfl; have hcz9_1 : w8.cell? ⟨gb101, 1, none⟩ = some (.string a0_1) := (blk_cell BK101.out 1).trans rfl; have hcz9_2 : w8.cell? ⟨gb101, 2, none⟩ = some (.string a0_2) := (blk_cell BK101.out 2).trans rfl; have hcz9_3 : w8.cell? ⟨gb101, 3, none⟩ = some (.string a0_3) := (blk_cell BK101.out 3).trans rfl; have hcz9_4 : w8.cell? ⟨gb101, 4, none⟩ = some (.string a0_4) := (blk_cell BK101.out 4).trans rfl; have hcz9_5 : w8.cell? ⟨gb101, 5, none⟩ = some (.int .i64 a0_5) := (blk_cell BK101.out 5).trans rfl; have hcz9_6 : w8.cell? ⟨gb101, 6, none⟩ = some (.int .i64 a0_6) := (blk_cell BK101.out 6).trans rfl; have hcz9_7 : w8.cell? ⟨gb101, 7, none⟩ = some (.int .i64 a0_7) := (blk_cell BK101.out 7).trans rfl; have hfz9_0 := blk_frozen BK101.out 0; have hfz9_1 := blk_frozen BK101.out 1; have hfz9_2 := blk_frozen BK101.out 2; have hfz9_3 := blk_frozen BK101.out 3; have hfz9_4 := blk_frozen BK101.out 4; have hfz9_5 := blk_frozen BK101.out 5; have hfz9_6 := blk_frozen BK101.out 6; have hfz9_7 := blk_frozen BK101.out 7) | ((with_reducible refine gate_callee (f := 20) rfl ?_); refine goesL_ (some 9) rfl rfl Try.func20 (by kernel_rfl) rfl #[.agg #[.int .i64 a0_0, .string a0_1, .string a0_2, .string a0_3, .string a0_4, .int .i64 a0_5, .int .i64 a0_6, .int .i64 a0_7]] rfl (by (try simp only [List.map_toArray, List.map_cons, List.map_nil]); first | done | rfl | (simp only [List.length_drop, List.length_take]; rfl)) ?_; (with_reducible refine (cfg_Def.calls a0_0 a0_1 a0_2 a0_3 a0_4 a0_5 a0_6 a0_7 t102 false _ A3.out).mono ?_); rintro e w10 ⟨rfl, hb⟩; refine ⟨_, rfl, ?_⟩; have n0_ := Aside0.mk (blk_below (g := gb101) (o := .cells #[.int .i64 a0_0, .string a0_1, .string a0_2, .string a0_3, .string a0_4, .int .i64 a0_5, .int .i64 a0_6, .int .i64 a0_7] 30 (0, 0)) (by (with_reducible repeat (first | refine blk_drewN ?_ _ | refine blk_drew ?_ | refine blk_alloc ?_ _)); exact BK101.out) hb); have n1_ := Aside0.mk (below_step (by repeat (first | (with_reducible first | exact HB.out | apply below_alloc | apply pw_below_drewN | apply below_drew1 | refine below_set ?_ GE101.out) | exact HB.out)) hb); clear BK101; clear HB; have BK101 := n0_; have HB := n1_; clear n0_ n1_; (try clear hb); (try clear hb2); (try clear hk); (try clear hi)))
  go_ret
  exact ⟨by first | rfl | (simp [errW_none, errW_some] <;> rfl) | (simp [*, errW_none, errW_some] <;> rfl), by repeat (first | (with_reducible first | exact HB.out | apply below_alloc | apply pw_below_drewN | apply below_drew1 | refine below_set ?_ GE101.out) | exact HB.out)⟩
end Go.Proofs.Ytnepgcbgkhikkaa.H
namespace Go.Proofs.Ytnepgcbgkhikkaa.H
open Go.RowKit Go.Sort Go.Proofs.YtnepgcbgkhikkaaW.PrintWords Go.Proofs.YtnepgcbgkhikkaaW.PrintLast Go.Proofs.YtnepgcbgkhikkaaW.PrintMore
def slices_Clone_int_int.f (l : List Int) : Option (List Int) := if l.length * 8 ≤ 140737488355328 then some l else none
theorem slices_Clone_int_int.calls (A0 : Option Addr) (c0 : Nat) (l0 r : List Int) (w : World) (hr0 : Kd.C (Kd.int .i64) w A0 l0.length l0) (_ : l0.length ≤ c0) (h : slices_Clone_int_int.f l0 = some r) :
    Calls Try.prog 61 #[.slice A0 l0.length c0] w fun e w' => ∃ v0_ : Value, e = .returned v0_ ∧ Kd.R (Kd.int .i64) 3 w' w.heap.size (fun _ => True) v0_ r ∧ Below w.heap.size w w' := by
  unfold slices_Clone_int_int.f at h
  split at h
  case isFalse => cases h
  rename_i hz
  cases h
  cases A0 with
  | none =>
    have h0 : l0 = [] := by
      rcases Nat.eq_zero_or_pos l0.length with h0 | h0
      · exact List.length_eq_zero_iff.1 h0
      · obtain ⟨ad, e, _⟩ := hr0.2.2 h0
        cases e
    subst h0
    refine (Try.slices_Clone_int_nil _ c0 w).mono ?_
    rintro e w' ⟨rfl, rfl⟩
    exact ⟨_, rfl, Kd.R_nil _ _ _ _ _, Below.refl _ _⟩
  | some a =>
    rcases Nat.eq_zero_or_pos l0.length with h0 | h0
    · obtain rfl := List.length_eq_zero_iff.1 h0
      refine (Try.slices_Clone_int_zero a c0 w).mono ?_
      rintro e w' ⟨v, rfl, ho, _, hb⟩
      exact ⟨v, rfl, Kd.R_of_own ho (fun _ _ => trivial), hb⟩
    · obtain ⟨ad, e0, hc⟩ := hr0.2.2 h0
      cases e0
      have hcell : ∀ j, j < l0.length → w.cell? (a.add j) = some (Value.int .i64 (l0.getD j 0)) := fun j hj => by
        obtain ⟨ad, e1, hx⟩ := Kd.at_int hr0 (j : Int) (by omega) (by omega)
        cases e1
        rw [Int.toNat_natCast] at hx
        rw [hx]
        simp [Go.Proofs.YtnepgcbgkhikkaaW.PrintWords.rd]
      have hs : a.spot = none := by
        have h1 := hcell 0 h0
        unfold World.cell? at h1
        cases hsp : a.spot with
        | none => rfl
        | some k =>
          simp [Addr.add, hsp] at h1
          split at h1 <;> cases h1
      obtain ⟨b, off, sp⟩ := a
      cases hs
      have hbl : w.heap.size ≥ 0 := Nat.zero_le _
      refine (Try.slices_Clone_int b off l0.length c0 l0 w (Nat.le_refl _) hz (fun j hj => ?_)).mono ?_
      · have := hcell j hj
        rwa [show (⟨b, off, none⟩ : Addr).add j = ⟨b, off + j, none⟩ by unfold Addr.add; split <;> simp_all] at this
      · rintro e w' ⟨v, rfl, ho, _, hb⟩
        rw [List.take_of_length_le (Nat.le_refl _)] at ho
        exact ⟨v, rfl, Kd.R_of_own ho (fun _ _ => trivial), hb⟩
def slices_Compact_int_int.f (l : List Int) : Option (List Int) := some (compactI l)
theorem slices_Compact_int_int.calls (P0_ : Nat → Prop) (u9000_ : Value) (l0 r : List Int) (w0 w : World) (hB : Below w0.heap.size w0 w) (ho0 : Kd.R (Kd.int .i64) 3 w w0.heap.size P0_ u9000_ l0) (h : slices_Compact_int_int.f l0 = some r) :
    Calls Try.prog 64 #[u9000_] w fun e w' => ∃ v0_ : Value, e = .returned v0_ ∧ Kd.R (Kd.int .i64) 3 w' w0.heap.size (fun k_ => (P0_ k_ ∨ w.heap.size ≤ k_)) v0_ r ∧ Below w0.heap.size w0 w' ∧ Kept w w' (fun k_ => P0_ k_) := by
  cases h
  have ho := Kd.own_of_R ho0
  obtain ⟨hlen, ho⟩ := ho
  rcases ho with ⟨rfl, h0⟩ | ⟨g, cap, cur, rfl, hbase, hb, h1, h2, h3, h4⟩
  · obtain rfl := List.length_eq_zero_iff.1 h0
    refine (Try.slices_Compact_int_empty none 0 w).mono ?_
    rintro e w' ⟨rfl, rfl⟩
    exact ⟨_, rfl, by simpa [compactI, Go.Lib.compact, Go.Lib.compactUpTo] using Kd.R_mono ho0 (fun k hk => .inl hk), hB, Kept.refl _ _⟩
  · have e4 : cur.toList.take l0.length = l0.map (Value.int .i64) := by
      rw [Nat.mul_one] at h4
      exact h4
    have hP : P0_ g := ho0.1 g rfl
    have hz : l0.length ≤ 9223372036854775807 := by unfold maxLen at h2; omega
    have c := Try.slices_Compact_int g 0 cap l0 w (so_holds hb e4) hz (by simpa using h1)
    refine c.mono ?_
    rintro e w' ⟨rfl, q, rfl⟩
    generalize ht : Go.Lib.compact l0 ++ List.replicate (l0.length - (Go.Lib.compact l0).length) (0 : Int) = ts
    have hcl : (Go.Lib.compact l0).length ≤ l0.length := by simpa [compactI] using compactI_len l0
    have hl : ts.length = l0.length := by rw [← ht]; simp; omega
    have e0 : putRow (Value.int .i64) (Sort.ahead w q) g 0 ts.toArray = grow (putRow (Value.int .i64) (Sort.ahead w q) g 0 ts.toArray) #[] := by simp
    rw [e0]
    have hgr := so_grown (w := w) (g := g) (n := q) (os := #[]) (enc := (Value.int .i64)) ts.toArray
    refine ⟨_, rfl, ?_, so_below hB hgr hbase, so_kept hgr hP⟩
    have hr := so_owns (w := w) (n := q) (os := #[]) (enc := (Value.int .i64)) (m := (Go.Lib.compact l0).length) (ts := ts) (ss := l0) hl (by rw [hl]; simpa using hcl) hbase hb (by simpa using h1) h2 h3
    refine Kd.R_of_own ?_ (fun k hk => .inl (ho0.1 k (by simpa [Value.ownBlock] using hk)))
    rw [← ht, List.take_left' rfl] at hr
    rw [show (compactI l0).length = (Go.Lib.compact l0).length by simp [compactI]]
    rw [ht] at hr
    exact hr
def slices_Sort_int_int.f (l : List Int) : Option (List Int) := if l.length < 4611686018427387904 then some (sortI l) else none
theorem slices_Sort_int_int.calls (P0_ : Nat → Prop) (u9000_ : Value) (l0 r : List Int) (w0 w : World) (hB : Below w0.heap.size w0 w) (ho0 : Kd.R (Kd.int .i64) 3 w w0.heap.size P0_ u9000_ l0) (h : slices_Sort_int_int.f l0 = some r) :
    Calls Try.prog 63 #[u9000_] w fun e w' => e = .returned (.tuple #[]) ∧ Kd.R (Kd.int .i64) 3 w' w0.heap.size (fun k_ => (P0_ k_ ∨ w.heap.size ≤ k_)) u9000_ r ∧ Below w0.heap.size w0 w' ∧ Kept w w' (fun k_ => P0_ k_) := by
  unfold slices_Sort_int_int.f at h
  split at h
  case isFalse => cases h
  rename_i hz0
  cases h
  have ho := Kd.own_of_R ho0
  obtain ⟨hlen, ho⟩ := ho
  rcases ho with ⟨rfl, h0⟩ | ⟨g, cap, cur, rfl, hbase, hb, h1, h2, h3, h4⟩
  · obtain rfl := List.length_eq_zero_iff.1 h0
    refine (Try.slices_Sort_int_none none 0 w).mono ?_
    rintro e w' ⟨rfl, rfl⟩
    exact ⟨rfl, by simpa [sortI] using Kd.R_mono ho0 (fun k hk => .inl hk), hB, Kept.refl _ _⟩
  · have e4 : cur.toList.take l0.length = l0.map (Value.int .i64) := by
      rw [Nat.mul_one] at h4
      exact h4
    have hP : P0_ g := ho0.1 g rfl
    have hg : g < w.heap.size := (Array.getElem?_eq_some_iff.1 hb).1
    have hz : l0.length < 4611686018427387904 := hz0
    have c := Try.slices_Sort_int g 0 cap l0 w (so_holds hb e4) hg hz
    refine c.mono ?_
    rintro e w' ⟨rfl, n, os, rfl⟩
    have hgr := so_grown (w := w) (g := g) (n := n) (os := os) (enc := (Value.int .i64)) (l0.mergeSort fun x y => decide (x ≤ y)).toArray
    refine ⟨rfl, ?_, so_below hB hgr hbase, so_kept hgr hP⟩
    have hr := so_owns (w := w) (n := n) (os := os) (enc := (Value.int .i64)) (m := l0.length) (ts := l0.mergeSort fun x y => decide (x ≤ y)) (ss := l0) (by simp) (by simp) hbase hb (by simpa using h1) h2 h3
    refine Kd.R_of_own ?_ (fun k hk => .inl (ho0.1 k hk))
    rw [List.take_of_length_le (by simp)] at hr
    rw [sortI_len]
    simpa [sortI, encs] using hr
end Go.Proofs.Ytnepgcbgkhikkaa.H
namespace Go.Proofs.Ytnepgcbgkhikkaa.H
open Go.RowKit Go.Proofs.YtnepgcbgkhikkaaW.PrintWords Go.Proofs.YtnepgcbgkhikkaaW.PrintLast Go.Proofs.YtnepgcbgkhikkaaW.PrintMore
attribute [local go_sem] max2_int min2_int max_two min_two max_three min_three max_four min_four
def cfg_sorted_int.f (l0 : List Int) : Option (List Int) := (slices_Clone_int_int.f l0).bind fun t101 => ((slices_Sort_int_int.f t101).bind fun t104 => ((slices_Compact_int_int.f t104).bind fun t105 => (some t105)))
set_option maxHeartbeats 8000000 in
set_option maxRecDepth 100000 in
theorem cfg_sorted_int.calls (A0 : Option Addr) (c0 : Nat) (l0 : List Int) (r : List Int) (w : World) (hr0 : Kd.C (Kd.int .i64) w A0 l0.length l0) (hc0 : l0.length ≤ c0) (h : cfg_sorted_int.f l0 = some r) :
  Calls Try.prog 47 #[.slice A0 l0.length c0] w fun e w' => ∃ v0_ : Value, e = .returned (v0_) ∧ Kd.R (Kd.int .i64) 3 w' w.heap.size (fun _ => True) v0_ r ∧ Below w.heap.size w w' := by
 have HR0 := Aside0.mk hr0
 have HC0 := Aside0.mk hc0
 clear hr0 hc0
 have HB := Aside0.mk (Below.refl w.heap.size w)
 have H : ((slices_Clone_int_int.f l0).bind fun t101 => ((slices_Sort_int_int.f t101).bind fun t104 => ((slices_Compact_int_int.f t104).bind fun t105 => (some t105)))) = some r := h
 clear h
 replace H := Option.bind_eq_some_iff.mp H
 obtain ⟨t101, A20, H⟩ := H
 replace H : ((slices_Sort_int_int.f t101).bind fun t104 => ((slices_Compact_int_int.f t104).bind fun t105 => (some t105))) = some r := H
 have A2 := Aside0.mk A20
 clear A20
 replace H := Option.bind_eq_some_iff.mp H
 obtain ⟨t104, A30, H⟩ := H
 replace H : ((slices_Compact_int_int.f t104).bind fun t105 => (some t105)) = some r := H
 have A3 := Aside0.mk A30
 clear A30
 replace H := Option.bind_eq_some_iff.mp H
 obtain ⟨t105, A40, H⟩ := H
 replace H : (some t105) = some r := H
 have A4 := Aside0.mk A40
 clear A40
 obtain rfl := Option.some.inj H
 go_enter Try.func47, Try.ntmps47
 go_wp2_with (first | ((with_reducible refine gate_callee (f := 61) rfl ?_); refine goesL_ (some 5) rfl rfl Try.func61 (by kernel_rfl) rfl #[.slice A0 l0.length c0] rfl (by (try simp only [List.map_toArray, List.map_cons, List.map_nil]); first | done | rfl | (simp only [List.length_drop, List.length_take]; rfl)) ?_; (with_reducible refine (slices_Clone_int_int.calls _ _ l0 t101 _ ?side1 ?side2 A2.out).mono ?_); (case side1 => repeat (first | exact HR0.out | (with_reducible refine Kd.C_alloc ?_ _) | (with_reducible refine Kd.C_drewN ?_ _) | (with_reducible refine Kd.C_drew ?_))); (case side2 => exact HC0.out); rintro e w5 ⟨v102, rfl, ho0, hb⟩; refine ⟨_, rfl, ?_⟩; have n0_ := Aside0.mk (Kd.R_lower ho0 (below_size (by repeat (first | (with_reducible first | exact HB.out | apply below_alloc | apply pw_below_drewN | apply below_drew1) | exact HB.out)))); have n1_ := Aside0.mk (below_step (by repeat (first | (with_reducible first | exact HB.out | apply below_alloc | apply pw_below_drewN | apply below_drew1) | exact HB.out)) hb); clear HB; have HO103 := n0_; have HB := n1_; clear n0_ n1_; (try clear hb); (try clear hb2); (try clear hk); (try clear hi); (try clear ho0); obtain ⟨Ao6, co6, eo6⟩ := Kd.R_slice HO103.out; subst eo6) | ((with_reducible refine gate_callee (f := 63) rfl ?_); refine goesL_ (some 7) rfl rfl Try.func63 (by kernel_rfl) rfl #[.slice Ao6 t101.length co6] rfl (by (try simp only [List.map_toArray, List.map_cons, List.map_nil]); first | done | rfl | (simp only [List.length_drop, List.length_take]; rfl)) ?_; (with_reducible refine (slices_Sort_int_int.calls (fun k_ => some k_ = (.slice Ao6 t101.length co6 : Value).ownBlock) (.slice Ao6 t101.length co6) t101 t104 w _ ?side1 ?side2 A3.out).mono ?_); (case side1 => repeat (first | (with_reducible first | exact HB.out | apply below_alloc | apply pw_below_drewN | apply below_drew1) | exact HB.out)); (case side2 => exact Kd.R_tight rfl HO103.out); rintro e w7 ⟨rfl, hy0, hb, hkp⟩; refine ⟨_, rfl, ?_⟩; have n0_ := Aside0.mk (Kd.R_reok rfl hy0 (fun k_ e_ => HO103.out.1 k_ e_)); have n1_ := Aside0.mk (hb); clear HO103; clear HB; have HO103 := n0_; have HB := n1_; clear n0_ n1_; (try clear hb); (try clear hkp); (try clear hy0)) | ((with_reducible refine gate_callee (f := 64) rfl ?_); refine goesL_ (some 9) rfl rfl Try.func64 (by kernel_rfl) rfl #[.slice Ao6 t101.length co6] rfl (by (try simp only [List.map_toArray, List.map_cons, List.map_nil]); first | done | rfl | (simp only [List.length_drop, List.length_take]; rfl)) ?_; (with_reducible refine (slices_Compact_int_int.calls (fun k_ => some k_ = (.slice Ao6 t101.length co6 : Value).ownBlock) (.slice Ao6 t101.length co6) t104 t105 w _ ?side1 ?side2 A4.out).mono ?_); (case side1 => repeat (first | (with_reducible first | exact HB.out | apply below_alloc | apply pw_below_drewN | apply below_drew1) | exact HB.out)); (case side2 => exact Kd.R_tight rfl HO103.out); rintro e w8 ⟨v106, rfl, ho0, hb, hkp⟩; refine ⟨_, rfl, ?_⟩; have n0_ := Aside0.mk (Kd.R_mono (ok' := fun k_ => True) ho0 (fun k_ hk_ => trivial)); have n1_ := Aside0.mk (hb); clear HB; clear HO103; have HO107 := n0_; have HB := n1_; clear n0_ n1_; (try clear hb); (try clear hkp); (try clear ho0)))
 go_ret
 exact ⟨_, by first | rfl | (simp [errW_none, errW_some] <;> rfl) | (simp [*, errW_none, errW_some] <;> rfl), by (with_reducible repeat (first | apply Kd.R_alloc | apply Kd.R_drewN | apply Kd.R_drew)); exact HO107.out, by repeat (first | (with_reducible first | exact HB.out | apply below_alloc | apply pw_below_drewN | apply below_drew1) | exact HB.out)⟩
def cfg_within.f (l0 : List (Stmt)) (a1 : Int) : Option (Bool) := if a1 ≥ 0 then (some (decide (a1 < (l0.length : Int)))) else (some false)
set_option maxHeartbeats 8000000 in
set_option maxRecDepth 100000 in
theorem cfg_within.calls (A0 : Option Addr) (c0 : Nat) (l0 : List (Stmt)) (a1 : Int) (r : Bool) (w : World) (hr0 : Kd.C k30 w A0 l0.length l0) (hc0 : l0.length ≤ c0) (h : cfg_within.f l0 a1 = some r) :
  Calls Try.prog 42 #[.slice A0 l0.length c0, .int .i64 a1] w fun e w' => e = .returned (.bool r) ∧ Drawn0 w w' := by
 have HR0 := Aside0.mk hr0
 have HC0 := Aside0.mk hc0
 clear hr0 hc0
 have H : (if a1 ≥ 0 then (some (decide (a1 < (l0.length : Int)))) else (some false)) = some r := h
 clear h
 by_cases c3 : a1 ≥ 0
 ·rw [if_pos c3] at H
  have c3b0 : decide (0 ≤ a1) = true := decide_eq_true c3
  clear c3
  obtain rfl := Option.some.inj H
  go_enter Try.func42, Try.ntmps42
  go_wp2
  go_ret
  exact ⟨by first | rfl | (simp; done) | (simp [*]; done), by repeat (first | exact Drawn0.refl _ | apply Drawn0.step)⟩
 ·rw [if_neg c3] at H
  have c3b0 : decide (0 ≤ a1) = false := decide_eq_false c3
  clear c3
  obtain rfl := Option.some.inj H
  go_enter Try.func42, Try.ntmps42
  go_wp2
  go_ret
  exact ⟨by first | rfl | (simp; done) | (simp [*]; done), by repeat (first | exact Drawn0.refl _ | apply Drawn0.step)⟩
end Go.Proofs.Ytnepgcbgkhikkaa.H
namespace Go.Proofs.Ytnepgcbgkhikkaa.H
open Go.RowKit Go.Proofs.YtnepgcbgkhikkaaW.PrintWords
theorem Kd.C_nth {α : Type} {d : Kd α} {w : World} {A : Option Addr} {n : Nat} {xs : List α} (h : Kd.C d w A n xs) {i : Nat} {y : α} (hy : xs[i]? = some y) :
    ∃ ad c, A = some ad ∧ c.length = d.sz ∧ d.K w y c ∧ ∀ j u, c[j]? = some u → w.cell? (ad.add (i * d.sz + j)) = some u := by
  obtain ⟨h1, h2, h3⟩ := h
  have hi : i < xs.length := (List.getElem?_eq_some_iff.1 hy).1
  obtain ⟨ad, e, hc⟩ := h3 (by omega)
  obtain ⟨c, hs, hr, hcell⟩ := hc i y hy
  exact ⟨ad, c, e, hs, hr, hcell⟩
theorem at_Stmt {w : World} {A : Option Addr} {n : Nat} {xs : List Stmt} (h : Kd.C k30 w A n xs) {i : Nat} {y : Stmt} (hy : xs[i]? = some y) : ∃ ad , A = some ad ∧ w.cell? (ad.add (i * 8)) = some (.int .i64 y.kind) ∧ w.cell? ⟨(ad.add (i * 8)).block, (ad.add (i * 8)).off + 1, none⟩ = some (.string y.x) ∧ w.cell? ⟨(ad.add (i * 8)).block, (ad.add (i * 8)).off + 2, none⟩ = some (.string y.y) ∧ w.cell? ⟨(ad.add (i * 8)).block, (ad.add (i * 8)).off + 3, none⟩ = some (.string y.z) ∧ w.cell? ⟨(ad.add (i * 8)).block, (ad.add (i * 8)).off + 4, none⟩ = some (.string y.op) ∧ w.cell? ⟨(ad.add (i * 8)).block, (ad.add (i * 8)).off + 5, none⟩ = some (.int .i64 y.n) ∧ w.cell? ⟨(ad.add (i * 8)).block, (ad.add (i * 8)).off + 6, none⟩ = some (.int .i64 y.a) ∧ w.cell? ⟨(ad.add (i * 8)).block, (ad.add (i * 8)).off + 7, none⟩ = some (.int .i64 y.b) := by
  obtain ⟨ad, c, e, _, hK, hc⟩ := Kd.C_nth h hy
  rw [show k30.sz = 8 from rfl] at hc
  obtain rfl := k30_open hK
  exact ⟨ad, e, by have hq := hc 0 _ rfl; rwa [Nat.add_zero] at hq, by rw [← add_field _ _ 1 (by omega)]; exact hc 1 _ rfl, by rw [← add_field _ _ 2 (by omega)]; exact hc 2 _ rfl, by rw [← add_field _ _ 3 (by omega)]; exact hc 3 _ rfl, by rw [← add_field _ _ 4 (by omega)]; exact hc 4 _ rfl, by rw [← add_field _ _ 5 (by omega)]; exact hc 5 _ rfl, by rw [← add_field _ _ 6 (by omega)]; exact hc 6 _ rfl, by rw [← add_field _ _ 7 (by omega)]; exact hc 7 _ rfl⟩
theorem at_Var {w : World} {A : Option Addr} {n : Nat} {xs : List Var} (h : Kd.C k54 w A n xs) {i : Nat} {y : Var} (hy : xs[i]? = some y) : ∃ ad , A = some ad ∧ w.cell? (ad.add (i * 4)) = some (.string y.name) ∧ w.cell? ⟨(ad.add (i * 4)).block, (ad.add (i * 4)).off + 1, none⟩ = some (.int .i64 y.n) ∧ w.cell? ⟨(ad.add (i * 4)).block, (ad.add (i * 4)).off + 2, none⟩ = some (.int .i64 y.last) ∧ w.cell? ⟨(ad.add (i * 4)).block, (ad.add (i * 4)).off + 3, none⟩ = some (.bool y.taint) := by
  obtain ⟨ad, c, e, _, hK, hc⟩ := Kd.C_nth h hy
  rw [show k54.sz = 4 from rfl] at hc
  obtain rfl := k54_open hK
  exact ⟨ad, e, by have hq := hc 0 _ rfl; rwa [Nat.add_zero] at hq, by rw [← add_field _ _ 1 (by omega)]; exact hc 1 _ rfl, by rw [← add_field _ _ 2 (by omega)]; exact hc 2 _ rfl, by rw [← add_field _ _ 3 (by omega)]; exact hc 3 _ rfl⟩
theorem at_Visit {w : World} {A : Option Addr} {n : Nat} {xs : List Visit} (h : Kd.C k52 w A n xs) {i : Nat} {y : Visit} (hy : xs[i]? = some y) : ∃ ad A1 c1, A = some ad ∧ w.cell? (ad.add (i * 2)) = some (.int .i64 y.place) ∧ w.cell? ⟨(ad.add (i * 2)).block, (ad.add (i * 2)).off + 1, none⟩ = some (.slice A1 y.vars.length c1) ∧ y.vars.length ≤ c1 ∧ k54.C w A1 y.vars.length y.vars := by
  obtain ⟨ad, c, e, _, hK, hc⟩ := Kd.C_nth h hy
  rw [show k52.sz = 2 from rfl] at hc
  obtain ⟨A1, c1, rfl, l1, g1⟩ := k52_open hK
  exact ⟨ad, A1, c1, e, by have hq := hc 0 _ rfl; rwa [Nat.add_zero] at hq, by rw [← add_field _ _ 1 (by omega)]; exact hc 1 _ rfl, l1, g1⟩
theorem at_Script {w : World} {A : Option Addr} {n : Nat} {xs : List Script} (h : Kd.C k43 w A n xs) {i : Nat} {y : Script} (hy : xs[i]? = some y) : ∃ ad A0 c0 A1 c1 A2 c2, A = some ad ∧ w.cell? (ad.add (i * 4)) = some (.slice A0 y.l.length c0) ∧ w.cell? ⟨(ad.add (i * 4)).block, (ad.add (i * 4)).off + 1, none⟩ = some (.slice A1 y.ins.length c1) ∧ w.cell? ⟨(ad.add (i * 4)).block, (ad.add (i * 4)).off + 2, none⟩ = some (.slice A2 y.ora.length c2) ∧ w.cell? ⟨(ad.add (i * 4)).block, (ad.add (i * 4)).off + 3, none⟩ = some (.int .i64 y.most) ∧ y.l.length ≤ c0 ∧ k30.C w A0 y.l.length y.l ∧ y.ins.length ≤ c1 ∧ (Kd.int .i64).C w A1 y.ins.length y.ins ∧ y.ora.length ≤ c2 ∧ Kd.bool.C w A2 y.ora.length y.ora := by
  obtain ⟨ad, c, e, _, hK, hc⟩ := Kd.C_nth h hy
  rw [show k43.sz = 4 from rfl] at hc
  obtain ⟨A0, c0, A1, c1, A2, c2, rfl, l0, g0, l1, g1, l2, g2⟩ := k43_open hK
  exact ⟨ad, A0, c0, A1, c1, A2, c2, e, by have hq := hc 0 _ rfl; rwa [Nat.add_zero] at hq, by rw [← add_field _ _ 1 (by omega)]; exact hc 1 _ rfl, by rw [← add_field _ _ 2 (by omega)]; exact hc 2 _ rfl, by rw [← add_field _ _ 3 (by omega)]; exact hc 3 _ rfl, l0, g0, l1, g1, l2, g2⟩
theorem at_RVar {w : World} {A : Option Addr} {n : Nat} {xs : List RVar} (h : Kd.C k68 w A n xs) {i : Nat} {y : RVar} (hy : xs[i]? = some y) : ∃ ad , A = some ad ∧ w.cell? (ad.add (i * 4)) = some (.string y.name) ∧ w.cell? ⟨(ad.add (i * 4)).block, (ad.add (i * 4)).off + 1, none⟩ = some (.int .i64 y.n) ∧ w.cell? ⟨(ad.add (i * 4)).block, (ad.add (i * 4)).off + 2, none⟩ = some (.int .i64 y.last) ∧ w.cell? ⟨(ad.add (i * 4)).block, (ad.add (i * 4)).off + 3, none⟩ = some (.bool y.taint) := by
  obtain ⟨ad, c, e, _, hK, hc⟩ := Kd.C_nth h hy
  rw [show k68.sz = 4 from rfl] at hc
  obtain rfl := k68_open hK
  exact ⟨ad, e, by have hq := hc 0 _ rfl; rwa [Nat.add_zero] at hq, by rw [← add_field _ _ 1 (by omega)]; exact hc 1 _ rfl, by rw [← add_field _ _ 2 (by omega)]; exact hc 2 _ rfl, by rw [← add_field _ _ 3 (by omega)]; exact hc 3 _ rfl⟩
theorem at_RVisit {w : World} {A : Option Addr} {n : Nat} {xs : List RVisit} (h : Kd.C k67 w A n xs) {i : Nat} {y : RVisit} (hy : xs[i]? = some y) : ∃ ad A1 c1, A = some ad ∧ w.cell? (ad.add (i * 2)) = some (.int .i64 y.place) ∧ w.cell? ⟨(ad.add (i * 2)).block, (ad.add (i * 2)).off + 1, none⟩ = some (.slice A1 y.vars.length c1) ∧ y.vars.length ≤ c1 ∧ k68.C w A1 y.vars.length y.vars := by
  obtain ⟨ad, c, e, _, hK, hc⟩ := Kd.C_nth h hy
  rw [show k67.sz = 2 from rfl] at hc
  obtain ⟨A1, c1, rfl, l1, g1⟩ := k67_open hK
  exact ⟨ad, A1, c1, e, by have hq := hc 0 _ rfl; rwa [Nat.add_zero] at hq, by rw [← add_field _ _ 1 (by omega)]; exact hc 1 _ rfl, l1, g1⟩
theorem at_RState {w : World} {A : Option Addr} {n : Nat} {xs : List RState} (h : Kd.C k77 w A n xs) {i : Nat} {y : RState} (hy : xs[i]? = some y) : ∃ ad A1 c1 A2 c2 A3 c3, A = some ad ∧ w.cell? (ad.add (i * 4)) = some (.int .i64 y.place) ∧ w.cell? ⟨(ad.add (i * 4)).block, (ad.add (i * 4)).off + 1, none⟩ = some (.slice A1 y.vars.length c1) ∧ w.cell? ⟨(ad.add (i * 4)).block, (ad.add (i * 4)).off + 2, none⟩ = some (.slice A2 y.ins.length c2) ∧ w.cell? ⟨(ad.add (i * 4)).block, (ad.add (i * 4)).off + 3, none⟩ = some (.slice A3 y.ora.length c3) ∧ y.vars.length ≤ c1 ∧ k68.C w A1 y.vars.length y.vars ∧ y.ins.length ≤ c2 ∧ (Kd.int .i64).C w A2 y.ins.length y.ins ∧ y.ora.length ≤ c3 ∧ Kd.bool.C w A3 y.ora.length y.ora := by
  obtain ⟨ad, c, e, _, hK, hc⟩ := Kd.C_nth h hy
  rw [show k77.sz = 4 from rfl] at hc
  obtain ⟨A1, c1, A2, c2, A3, c3, rfl, l1, g1, l2, g2, l3, g3⟩ := k77_open hK
  exact ⟨ad, A1, c1, A2, c2, A3, c3, e, by have hq := hc 0 _ rfl; rwa [Nat.add_zero] at hq, by rw [← add_field _ _ 1 (by omega)]; exact hc 1 _ rfl, by rw [← add_field _ _ 2 (by omega)]; exact hc 2 _ rfl, by rw [← add_field _ _ 3 (by omega)]; exact hc 3 _ rfl, l1, g1, l2, g2, l3, g3⟩
end Go.Proofs.Ytnepgcbgkhikkaa.H
namespace Go.Proofs.Ytnepgcbgkhikkaa.H
open Go.RowKit Go.Proofs.YtnepgcbgkhikkaaW.PrintWords Go.Proofs.YtnepgcbgkhikkaaW.PrintLast Go.Proofs.YtnepgcbgkhikkaaW.PrintMore
/-- a predicate that is handed to the library, at one cell -/
def PredK (P : Program) (g : Nat) (lb : Array Value) {α : Type} (enc : α → Value) (p : α → Bool) (w : World) (l : List α) : Prop :=
  ∀ (W : World) (x : α), x ∈ l → Below w.heap.size w W → Calls P g (#[enc x] ++ lb) W fun e w' => e = .returned (.bool (p x)) ∧ Below W.heap.size W w'
/-- the same at a struct -/
def PredA (P : Program) (g : Nat) (lb : Array Value) {α : Type} (d : Kd α) (p : α → Bool) (w : World) (l : List α) : Prop :=
  ∀ (W : World) (x : α) (cs : List Value), x ∈ l → Below w.heap.size w W → d.K W x cs → Calls P g (#[.agg cs.toArray] ++ lb) W fun e w' => e = .returned (.bool (p x)) ∧ Below W.heap.size W w'
/-- the first place from i on at which p holds; -1 -/
def idxP {α : Type} (p : α → Bool) : List α → Nat → Int
  | [], _ => -1
  | x :: l, i => if p x = true then (i : Int) else idxP p l (i + 1)
theorem drop_cons {α : Type} {l : List α} {k : Nat} {y : α} (hy : l[k]? = some y) : l.drop k = y :: l.drop (k + 1) := by
  obtain ⟨h, rfl⟩ := List.getElem?_eq_some_iff.1 hy
  exact List.drop_eq_getElem_cons h
theorem drop_all {α : Type} (l : List α) : l.drop l.length = [] := List.drop_length
theorem at_some {α : Type} {l : List α} {k : Nat} (h : k < l.length) : ∃ y, l[k]? = some y := ⟨l[k], List.getElem?_eq_getElem h⟩
theorem idxP_any {α : Type} (p : α → Bool) : ∀ (l : List α) (i : Nat), decide (0 ≤ idxP p l i) = l.any p
  | [], i => by simp [idxP]
  | x :: l, i => by
    unfold idxP
    by_cases h : p x = true
    · rw [if_pos h]; simp [h]
    · rw [if_neg h, idxP_any p l (i + 1)]; simp [h]
theorem ba_eq {a b : ByteArray} : (a.toList = b.toList) ↔ a = b := by
  constructor
  · intro h
    have h1 : a.data.toList = b.data.toList := by
      have := h
      rwa [ByteArray.toList_eq, ByteArray.toList_eq] at this
    cases a; cases b; simp at h1; subst h1; rfl
  · rintro rfl; rfl
theorem ba_beq {a b : ByteArray} (h : a = b) : (a.toList == b.toList) = true ∧ (a.toList != b.toList) = false := by subst h; simp
theorem ba_bne {a b : ByteArray} (h : ¬ a = b) : (a.toList == b.toList) = false ∧ (a.toList != b.toList) = true :=
  ⟨beq_eq_false_iff_ne.2 (fun e => h (ba_eq.1 e)), bne_iff_ne.2 (fun e => h (ba_eq.1 e))⟩
section
variable {w : World} {A : Option Addr} {n i : Nat}
theorem at_int {k : IntKind} {xs : List Int} {y : Int} (h : (Kd.int k).C w A n xs) (hy : xs[i]? = some y) : ∃ ad, A = some ad ∧ w.cell? (ad.add i) = some (.int k y) := by
  obtain ⟨ad, c, e, _, hK, hc⟩ := Kd.C_nth h hy
  obtain rfl : c = [.int k y] := hK
  have hq := hc 0 _ rfl
  exact ⟨ad, e, by rwa [show i * (Kd.int k).sz + 0 = i from Nat.mul_one i] at hq⟩
theorem at_bool {xs : List Bool} {y : Bool} (h : Kd.bool.C w A n xs) (hy : xs[i]? = some y) : ∃ ad, A = some ad ∧ w.cell? (ad.add i) = some (.bool y) := by
  obtain ⟨ad, c, e, _, hK, hc⟩ := Kd.C_nth h hy
  obtain rfl : c = [.bool y] := hK
  have hq := hc 0 _ rfl
  exact ⟨ad, e, by rwa [show i * Kd.bool.sz + 0 = i from Nat.mul_one i] at hq⟩
theorem at_str {xs : List ByteArray} {y : ByteArray} (h : Kd.string.C w A n xs) (hy : xs[i]? = some y) : ∃ ad, A = some ad ∧ w.cell? (ad.add i) = some (.string y) := by
  obtain ⟨ad, c, e, _, hK, hc⟩ := Kd.C_nth h hy
  obtain rfl : c = [.string y] := hK
  have hq := hc 0 _ rfl
  exact ⟨ad, e, by rwa [show i * Kd.string.sz + 0 = i from Nat.mul_one i] at hq⟩
theorem at_row {α : Type} {d : Kd α} {t : Nat} {xs : List (List α)} {y : List α} (h : (Kd.slice t d).C w A n xs) (hy : xs[i]? = some y) : ∃ ad A1 c1, A = some ad ∧ w.cell? (ad.add i) = some (.slice A1 y.length c1) ∧ y.length ≤ c1 ∧ d.C w A1 y.length y := by
  obtain ⟨ad, c, e, _, hK, hc⟩ := Kd.C_nth h hy
  obtain ⟨A1, c1, rfl, hl, hr⟩ := hK
  have hq := hc 0 _ rfl
  exact ⟨ad, A1, c1, e, by rwa [show i * (Kd.slice t d).sz + 0 = i from Nat.mul_one i] at hq, hl, hr⟩
end
/-- an old cell, in a world that comes behind -/
theorem Below.old {w W : World} {a : Addr} {v : Value} (hb : Below w.heap.size w W) (h : w.cell? a = some v) : W.cell? a = some v := (hb.cell (World.block_lt_of_cell? w _ h)).trans h
theorem Below.then {w W X : World} (h : Below w.heap.size w W) (k : Below W.heap.size W X) : Below w.heap.size w X := below_then h h.size k
theorem ret_int {k : IntKind} {a b : Int} (h : a = b) : Ending.returned (.int k a) = .returned (.int k b) := by rw [h]
theorem ret_bool {a b : Bool} (h : a = b) : Ending.returned (.bool a) = .returned (.bool b) := by rw [h]
end Go.Proofs.Ytnepgcbgkhikkaa.H
namespace Go.Proofs.Ytnepgcbgkhikkaa.H
open Go.RowKit Go.Proofs.YtnepgcbgkhikkaaW.PrintWords Go.Proofs.YtnepgcbgkhikkaaW.PrintLast Go.Proofs.YtnepgcbgkhikkaaW.PrintMore
theorem grown_set (w : World) (g j : Nat) (v : Value) : w.grownBy (w.setCell ⟨g, j, none⟩ v) (some g) :=
  ⟨rfl, rfl, rfl, by simp [World.setCell], fun k hk hne => Below.heap_setCell w ⟨g, j, none⟩ v k (fun e => hne (by rw [e]))⟩
theorem grown_trans {w w1 w2 : World} {r : Option Nat} (h : w.grownBy w1 r) (k : w1.grownBy w2 r) : w.grownBy w2 r :=
  ⟨k.os.trans h.os, k.tape.trans h.tape, k.output.trans h.output, Nat.le_trans h.size k.size, fun j hj hne => (k.block j (Nat.lt_of_lt_of_le hj h.size) hne).trans (h.block j hj hne)⟩
theorem setCells_rowH {g : Nat} {e : TypeId} : ∀ (vs : List Value) (o : Nat) (w : World) (cur : Array Value), w.heap[g]? = some (.cells cur e (0, 0)) →
    ∃ cur', (w.setCells g o vs).heap[g]? = some (.cells cur' e (0, 0)) ∧ cur'.size = cur.size ∧ (∀ j, j < o → cur'[j]? = cur[j]?) ∧ w.grownBy (w.setCells g o vs) (some g)
  | [], o, w, cur, h => ⟨cur, h, rfl, fun _ _ => rfl, World.grownBy.refl w _⟩
  | v :: r, o, w, cur, h => by
    have h1 := blk_set h o v
    obtain ⟨cur', h2, h3, h4, h5⟩ := setCells_rowH r (o + 1) _ _ h1
    refine ⟨cur', h2, by rw [h3]; simp, fun j hj => ?_, ?_⟩
    · rw [h4 j (by omega)]; simp [show ¬ o = j by omega]
    · exact grown_trans (grown_set w g o v) h5
theorem run_clear_row {P : Program} (w : World) (t e ty : TypeId) (z : Value) (ht : P.underlying t = some (.slice e)) (hv : ∀ w, (zeroValue e).run P w = .ok z w) (h1 : ∀ v ∈ z.cells, v.oneCell' = true) (g o n c : Nat) (cur : Array Value)
    (hh : w.heap[g]? = some (.cells cur e (0, 0))) (hn : o + n * z.cells.size ≤ cur.size) :
    ∃ vs, (Builtin.clear_ #[t] ty #[.slice (some ⟨g, o, none⟩) n c]).run P w = .ok (.tuple #[]) (w.setCells g o vs) := by
  cases n with
  | zero => exact ⟨[], by simp [Builtin.clear_, run_underlying ht]; rfl⟩
  | succ m =>
    have hst := run_storeCells_cells (P := P) g o (Builtin.zeroCells z.cells (m + 1)).toList 0 w
      (by intro j hj
          have hj' : j < (m + 1) * z.cells.size := by simpa [Builtin.zeroCells] using hj
          rw [Nat.add_zero, blk_cell hh, Array.getElem?_eq_getElem (by omega)]; rfl)
      (fun j _ => blk_frozen hh _)
      (by intro v hv'
          simp only [Builtin.zeroCells, Array.toList_map, List.mem_map] at hv'
          obtain ⟨i, hi, rfl⟩ := hv'
          have hi' : i < (m + 1) * z.cells.size := by simpa using hi
          have hz : 0 < z.cells.size := by
            rcases Nat.eq_zero_or_pos z.cells.size with h0 | h0
            · rw [h0] at hi'; omega
            · exact h0
          rw [getElem!_pos z.cells _ (Nat.mod_lt _ hz)]
          exact h1 _ (Array.getElem_mem _))
    simp only [Nat.add_zero] at hst
    exact ⟨(Builtin.zeroCells z.cells (m + 1)).toList, by simp [Builtin.clear_, run_underlying ht, hv, hst]⟩
/-- a row whose tail was written, cut before that tail -/
theorem R_cut {α : Type} {d : Kd α} {e : Nat} {w w1 : World} {base : Nat} {ok : Nat → Prop} {g n cap i : Nat} {xs : List α} (h : d.R e w base ok (.slice (some ⟨g, 0, none⟩) n cap) xs) (hi : i ≤ xs.length) (hg : w.grownBy w1 (some g)) {cur cur' : Array Value}
    (h0 : w.heap[g]? = some (.cells cur e (0, 0))) (h1 : w1.heap[g]? = some (.cells cur' e (0, 0))) (hs : cur'.size = cur.size) (hp : ∀ j, j < i * d.sz → cur'[j]? = cur[j]?) :
    d.R e w1 base ok (.slice (some ⟨g, 0, none⟩) i cap) (xs.take i) := by
  obtain ⟨hok, inner, ⟨hlen, ho⟩, hr⟩ := h
  rcases ho with ⟨he, _⟩ | ⟨g', cap', cur0, he, hb, hh, hnc, hcm, hcs, htk⟩
  · cases he
  · cases he
    have hcc : cur0 = cur := by rw [h0] at hh; injection hh with hh; injection hh with hh; exact hh.symm
    subst hcc
    have hle : i * d.sz ≤ xs.length * d.sz := Nat.mul_le_mul_right _ hi
    have hlt : (xs.take i).length = i := by rw [List.length_take]; omega
    have hll : inner.length = xs.length * d.sz := hlen
    refine ⟨hok, inner.take (i * d.sz), ⟨?_, .inr ⟨g, cap, cur', by rw [hlt], hb, h1, by omega, hcm, by rw [hs, hcs], ?_⟩⟩, ?_, ?_⟩
    · rw [List.length_take, hlt]; omega
    · rw [hlt, ← htk, List.take_take, Nat.min_eq_left hle]
      apply List.ext_getElem?
      intro j
      rw [List.getElem?_take, List.getElem?_take]
      split
      · have := hp j (by assumption)
        simpa using this
      · rfl
    · rw [List.length_take, hlt]; omega
    · intro j p hj
      rw [List.getElem?_take] at hj
      split at hj
      · rename_i hji
        have h3 := hr.2 j p hj
        have hjs : j * d.sz + d.sz ≤ i * d.sz := by rw [← Nat.succ_mul]; exact Nat.mul_le_mul_right _ hji
        have e1 : ((inner.take (i * d.sz)).drop (j * d.sz)).take d.sz = (inner.drop (j * d.sz)).take d.sz := by
          rw [List.drop_take, List.take_take, Nat.min_eq_left (by omega)]
        rw [e1]
        refine Kd.M_grown h3 hg (fun k hk => ?_)
        simpa [Value.ownBlock] using hk.2
      · cases hj
theorem R_blk {α : Type} {d : Kd α} {e : Nat} {w : World} {base : Nat} {ok : Nat → Prop} {g n cap : Nat} {xs : List α} (h : d.R e w base ok (.slice (some ⟨g, 0, none⟩) n cap) xs) : ∃ cells, w.heap[g]? = some (.cells cells e (0, 0)) := by
  obtain ⟨_, inner, ⟨_, ho⟩, _⟩ := h
  rcases ho with ⟨he, _⟩ | ⟨g', cap', cur0, he, hb, hh, _⟩
  · cases he
  · cases he; exact ⟨_, hh⟩
theorem R_size {α : Type} {d : Kd α} {e : Nat} {w : World} {base : Nat} {ok : Nat → Prop} {g n cap : Nat} {xs : List α} (h : d.R e w base ok (.slice (some ⟨g, 0, none⟩) n cap) xs) {cells : Array Value} (hc : w.heap[g]? = some (.cells cells e (0, 0))) : cells.size = cap * d.sz ∧ n ≤ cap := by
  obtain ⟨_, inner, ⟨_, ho⟩, _⟩ := h
  rcases ho with ⟨he, _⟩ | ⟨g', cap', cur0, he, hb, hh, h1, h2, h3, _⟩
  · cases he
  · cases he
    rw [hh] at hc; injection hc with hc; injection hc with hc; subst hc
    exact ⟨h3, h1⟩
theorem R_put1 {α : Type} {enc : α → Value} {h1 : ∀ x, (enc x).oneCell' = true} {e : Nat} {w : World} {base : Nat} {ok : Nat → Prop} {g n cap : Nat} {xs : List α} (h : (Kd.scalar enc h1).R e w base ok (.slice (some ⟨g, 0, none⟩) n cap) xs) (i : Nat) (x : α) :
    (Kd.scalar enc h1).R e (w.setCell ⟨g, i, none⟩ (enc x)) base ok (.slice (some ⟨g, 0, none⟩) n cap) (xs.set i x) ∧ w.grownBy (w.setCell ⟨g, i, none⟩ (enc x)) (some g) := by
  obtain ⟨rfl, _, _⟩ := Kd.R_reads' h
  have := Kd.R_put h (i : Int) x
  simpa using this
/-- a row that was made by a literal, read -/
theorem C_cells {α : Type} {d : Kd α} {w : World} {g e : Nat} {cs : Array Value} {xs : List α} (h : w.heap[g]? = some (.cells cs e (0, 0))) (hr : Reps (d.K w) d.sz xs cs.toList) (hl : xs.length ≤ 9223372036854775807) :
    d.C w (some ⟨g, 0, none⟩) xs.length xs := by
  refine ⟨rfl, hl, fun _ => ⟨⟨g, 0, none⟩, rfl, fun j p hj => ?_⟩⟩
  refine ⟨(cs.toList.drop (j * d.sz)).take d.sz, ?_, hr.2 j p hj, fun i u hu => ?_⟩
  · have hjl := (List.getElem?_eq_some_iff.1 hj).1
    have : j * d.sz + d.sz ≤ xs.length * d.sz := by rw [← Nat.succ_mul]; exact Nat.mul_le_mul_right _ hjl
    rw [List.length_take, List.length_drop, hr.1]; omega
  · rw [List.getElem?_take] at hu
    split at hu
    · rw [add_plain, blk_cell h]
      rw [List.getElem?_drop] at hu
      simpa using hu
    · cases hu
/-- a predicate that is handed to what rewrites the row as it goes -/
def PredG (P : Program) (g : Nat) (lb : Array Value) {α : Type} (enc : α → Value) (p : α → Bool) (w : World) (row : Option Nat) (l : List α) : Prop :=
  ∀ (W : World) (x : α), x ∈ l → w.grownBy W row → Calls P g (#[enc x] ++ lb) W fun e w' => e = .returned (.bool (p x)) ∧ Below W.heap.size W w'
theorem grown_below {w w1 : World} (h : Below w.heap.size w w1) (row : Option Nat) : w.grownBy w1 row := grown_of_below h row
theorem PredG.k {P : Program} {g : Nat} {lb : Array Value} {α : Type} {enc : α → Value} {p : α → Bool} {w : World} {row : Option Nat} {l : List α} (h : PredG P g lb enc p w row l) : PredK P g lb enc p w l :=
  fun W x hm hb => h W x hm (grown_of_below hb row)
structure KeptIv {α : Type} (q : α → Bool) (l : List α) (j i : Nat) (dk : List α) : Prop where
  len : dk.length = l.length
  lt : i < j
  le : j ≤ l.length
  low : dk.take i = (l.take j).filter q
  high : dk.drop j = l.drop j
theorem KeptIv.skip {α : Type} {q : α → Bool} {l dk : List α} {j i : Nat} {y : α} (h : KeptIv q l j i dk) (hy : l[j]? = some y) (hq : q y = false) : KeptIv q l (j + 1) i dk := by
  have hj : j < l.length := (List.getElem?_eq_some_iff.1 hy).1
  refine ⟨h.len, by have := h.lt; omega, by omega, ?_, ?_⟩
  · rw [List.take_add_one, hy, List.filter_append, h.low]; simp [hq]
  · have := congrArg (List.drop 1) h.high; simpa [List.drop_drop, Nat.add_comm] using this
theorem KeptIv.keep {α : Type} {q : α → Bool} {l dk : List α} {j i : Nat} {y : α} (h : KeptIv q l j i dk) (hy : l[j]? = some y) (hq : q y = true) : KeptIv q l (j + 1) (i + 1) (dk.set i y) := by
  have hj : j < l.length := (List.getElem?_eq_some_iff.1 hy).1
  have hlt := h.lt
  have hlen := h.len
  refine ⟨by simpa using h.len, by omega, by omega, ?_, ?_⟩
  · have e1 : (dk.set i y).take (i + 1) = dk.take i ++ [y] := by
      rw [List.take_add_one, List.getElem?_set_self (by omega)]
      simp [List.take_set_of_le (Nat.le_refl i)]
    rw [e1, h.low, List.take_add_one, hy, List.filter_append]; simp [hq]
  · rw [List.drop_set_of_lt (by omega)]
    have := congrArg (List.drop 1) h.high; simpa [List.drop_drop, Nat.add_comm] using this
theorem KeptIv.start {α : Type} {q : α → Bool} {l : List α} {k : Nat} {y : α} (h : ∀ x ∈ l.take k, q x = true) (hy : l[k]? = some y) (hq : q y = false) : KeptIv q l (k + 1) k l := by
  have hk : k < l.length := (List.getElem?_eq_some_iff.1 hy).1
  refine ⟨rfl, by omega, by omega, ?_, rfl⟩
  rw [List.take_add_one, hy, List.filter_append, List.filter_eq_self.2 h]; simp [hq]
theorem idxP_cases {α : Type} (p : α → Bool) : ∀ (l : List α) (i : Nat), (idxP p l i = -1 ∧ ∀ x ∈ l, p x = false) ∨ ∃ k y, idxP p l i = ((i + k : Nat) : Int) ∧ l[k]? = some y ∧ p y = true ∧ ∀ x ∈ l.take k, p x = false
  | [], i => .inl ⟨rfl, by simp⟩
  | x :: l, i => by
    cases h : p x with
    | true => exact .inr ⟨0, x, by simp [idxP, h], by simp, h, by simp⟩
    | false =>
      rcases idxP_cases p l (i + 1) with ⟨e, ha⟩ | ⟨k, y, e, hy, hp, ha⟩
      · exact .inl ⟨by simp [idxP, h, e], by simpa [h] using ha⟩
      · exact .inr ⟨k + 1, y, by rw [idxP, if_neg (by rw [h]; decide), e]; congr 1; omega, by simpa using hy, hp, by simpa [h] using ha⟩
set_option maxHeartbeats 1000000 in
/-- slices.IndexFunc at int -/
theorem IndexFuncInt (g : Nat) (lb : Array Value) (eg : ∀ args w, (callFunc g args).run Try.prog w = .ok (.enter g args) w) (p : Int → Bool)
    (A0 : Option Addr) (c0 : Nat) (l0 : List Int) (w : World) (hr0 : Kd.C (Kd.int .i64) w A0 l0.length l0) (hp : PredK Try.prog g lb (Value.int .i64) p w l0) :
    Calls Try.prog 65 #[.slice A0 l0.length c0, .func (.func g) #[] lb] w fun e w' => e = .returned (.int .i64 (idxP p l0 0)) ∧ Below w.heap.size w w' := by
  have HR := Aside0.mk hr0
  have HP := Aside0.mk hp
  have hl : l0.length ≤ 9223372036854775807 := hr0.2.1
  clear hr0 hp
  go_enter Try.func65, Try.ntmps65
  go_wp2
  go_loopg [5, 8] l0.length (fun gg _ s8 wr => ∃ kk : Nat, kk ≤ l0.length ∧ l0.length - kk ≤ gg ∧ s8 = .int .i64 kk ∧ Aside0 (Below w.heap.size w wr) ∧ Aside0 (idxP p l0 0 = idxP p (l0.drop kk) kk))
  case atStart => exact ⟨0, Nat.zero_le _, by omega, rfl, ⟨Below.refl _ w⟩, ⟨rfl⟩⟩
  case round =>
    obtain ⟨kk, hkk, hg, rfl, BW, A⟩ := hrel
    by_cases hlt : kk < l0.length
    · have hltz : (kk : Int) < (l0.length : Int) := by omega
      obtain ⟨y, hy⟩ := at_some hlt
      obtain ⟨ad, e1, hx⟩ := at_int HR.out hy
      cases e1
      replace hx := Below.old BW.out hx
      have hcall := HP.out wr y (List.mem_of_getElem? hy) BW.out
      have HA := Aside0.mk (A.out.trans (by rw [drop_cons hy]))
      clear A hy
      cases hq : p y with
      | true =>
        rw [hq] at hcall
        go_wp2_with (go_at_fn g; refine hcall.mono ?_; rintro e w' ⟨rfl, hb'⟩)
        go_ret
        exact ⟨by rw [HA.out, idxP, if_pos hq]; rfl, Below.then BW.out hb'⟩
      | false =>
        rw [hq] at hcall
        go_wp2_with (go_at_fn g; refine hcall.mono ?_; rintro e w' ⟨rfl, hb'⟩)
        go_roundg (l0.length - (kk + 1))
        case measure => omega
        case rel => exact ⟨kk + 1, by omega, by omega, by go_num, ⟨Below.then BW.out hb'⟩, ⟨by rw [HA.out, idxP, if_neg (by rw [hq]; decide)]⟩⟩
    · have hltz : ¬ (kk : Int) < (l0.length : Int) := by omega
      obtain rfl : kk = l0.length := by omega
      go_wp2
      go_ret
      exact ⟨by rw [A.out]; simp [idxP], BW.out⟩
set_option maxHeartbeats 4000000 in
set_option maxRecDepth 100000 in
/-- slices.DeleteFunc at int: elements of one cell -/
theorem DeleteFuncInt (g : Nat) (lb : Array Value) (eg : ∀ args w, (callFunc g args).run Try.prog w = .ok (.enter g args) w) (p : Int → Bool) (base : Nat) (ok : Nat → Prop)
    (v : Value) (l : List Int) (w : World) (ho : Kd.R (Kd.int .i64) 3 w base ok v l) (hp : PredG Try.prog g lb (Value.int .i64) p w v.ownBlock l) :
    Calls Try.prog 48 #[v, .func (.func g) #[] lb] w fun e w' => ∃ v', e = .returned v' ∧ Kd.R (Kd.int .i64) 3 w' base ok v' (l.filter fun x => !p x) ∧ w.grownBy w' v.ownBlock ∧ v'.ownBlock = v.ownBlock := by
  obtain ⟨A, c, rfl, hlc, hC⟩ := Kd.R_reads ho
  have hl : l.length ≤ 9223372036854775807 := hC.2.1
  have hIF := IndexFuncInt g lb eg p A c l w hC hp.k
  rcases idxP_cases p l 0 with ⟨e1, hall⟩ | ⟨k0, y0, e1, hy0, ht, hall⟩
  · rw [e1] at hIF
    have hf : (l.filter fun x => !p x) = l := List.filter_eq_self.2 (fun x hx => by simp [hall x hx])
    have HO := Aside0.mk ho
    have HF := Aside0.mk hf
    clear ho hp hC hf hall e1
    go_enter Try.func48, Try.ntmps48
    go_wp2_with (go_at_call 65; refine hIF.mono ?_; rintro e w' ⟨rfl, hb⟩)
    go_ret
    exact ⟨_, rfl, by rw [HF.out]; exact Kd.R_below HO.out hb, grown_of_below hb _, rfl⟩
  · rw [e1, Nat.zero_add] at hIF
    have hk0 : k0 < l.length := (List.getElem?_eq_some_iff.1 hy0).1
    obtain ⟨b, cap, e2, hbb, hbl, cells0, hcells0⟩ := Kd.R_form ho (by omega)
    cases e2
    have hne1 : ((k0 : Int) == -1) = false := beq_eq_false_iff_ne.2 (by omega)
    have HI0 := Aside0.mk (KeptIv.start (q := fun x => !p x) (fun x hx => by simp [hall x hx]) hy0 (by simp [ht]))
    have HO := Aside0.mk ho
    have HP := Aside0.mk hp
    clear ho hp hC hall e1 hy0 ht hcells0
    go_enter Try.func48, Try.ntmps48
    go_wp2_with (go_at_call 65; refine hIF.mono ?_; rintro e w0 ⟨rfl, hb0⟩; have HB0 := Aside0.mk hb0; clear hb0)
    go_loopg [5, 6, 7] l.length (fun gg s5 s6 _ wr => ∃ (i j : Nat) (dk : List Int), s5 = .int .i64 i ∧ s6 = .int .i64 j ∧ j ≤ l.length ∧ i < j ∧ l.length - j ≤ gg ∧ Aside0 (KeptIv (fun x => !p x) l j i dk) ∧ Aside0 (Kd.R (Kd.int .i64) 3 wr base ok (.slice (some ⟨b, 0, none⟩) l.length c) dk) ∧ Aside0 (w.grownBy wr (some b)))
    case atStart => exact ⟨k0, k0 + 1, l, rfl, by go_num, by omega, by omega, by omega, HI0, ⟨Kd.R_below HO.out HB0.out⟩, ⟨grown_of_below HB0.out _⟩⟩
    case round =>
      clear HI0 HO
      obtain ⟨i, j, dk, rfl, rfl, hjl, hij, hgg, HI, HO, HG⟩ := hrel
      have hdl := HI.out.len
      by_cases hlt : j < l.length
      · have hltz : (j : Int) < (l.length : Int) := by omega
        obtain ⟨y, hy⟩ := at_some hlt
        have hyd : dk[j]? = some y := by
          have := congrArg (fun z => z[0]?) HI.out.high
          simpa [hy] using this
        obtain ⟨-, -, hC⟩ := Kd.R_reads' HO.out
        obtain ⟨ad, e1, hx⟩ := at_int hC hyd
        cases e1
        rw [add_plain] at hx
        have hcall := HP.out wr y (List.mem_of_getElem? hy) HG.out
        have HY := Aside0.mk hy
        clear hy hyd hC
        cases hq : p y with
        | true =>
          rw [hq] at hcall
          go_wp2_with (go_at_fn g; refine hcall.mono ?_; rintro e w' ⟨rfl, hb'⟩; have HB' := Aside0.mk hb'; clear hb')
          go_roundg (l.length - (j + 1))
          case measure => omega
          case rel => exact ⟨i, j + 1, dk, rfl, by go_num, by omega, by omega, by omega, ⟨HI.out.skip HY.out (by simp [hq])⟩, ⟨Kd.R_below HO.out HB'.out⟩, ⟨grown_trans HG.out (grown_of_below HB'.out _)⟩⟩
        | false =>
          rw [hq] at hcall
          obtain ⟨yi, hyi⟩ : ∃ yi, dk[i]? = some yi := at_some (by omega)
          obtain ⟨-, -, hC⟩ := Kd.R_reads' HO.out
          obtain ⟨ad, e1, hxi⟩ := at_int hC hyi
          cases e1
          rw [add_plain] at hxi
          clear hyi hC
          go_wp2_with (go_at_fn g; refine hcall.mono ?_; rintro e w' ⟨rfl, hb'⟩; have HO1 := Aside0.mk (Kd.R_below HO.out hb'); have hxi1 := Below.old hb' hxi; obtain ⟨cells, hcells⟩ := R_blk HO1.out; have hfz := blk_frozen hcells i; have HB' := Aside0.mk hb'; clear hb' hcells)
          obtain ⟨hp1, hp2⟩ := R_put1 HO1.out i y
          go_roundg (l.length - (j + 1))
          case measure => omega
          case rel => exact ⟨i + 1, j + 1, dk.set i y, by go_num, by go_num, by omega, by omega, by omega, ⟨HI.out.keep HY.out (by simp [hq])⟩, ⟨hp1⟩, ⟨grown_trans HG.out (grown_trans (grown_of_below HB'.out _) hp2)⟩⟩
      · have hltz : ¬ (j : Int) < (l.length : Int) := by omega
        obtain rfl : j = l.length := by omega
        obtain ⟨cells, hcells⟩ := R_blk HO.out
        have hsz := R_size HO.out hcells
        obtain ⟨vs, hclr⟩ := run_clear_row (P := Try.prog) wr 25 3 0 (.int .i64 0) Try.underlying25 Try.zeroValue3 (by intro v hv; simp [Value.cells] at hv; subst hv; rfl) b i (l.length - i) (c - i) cells hcells (by have h1 := hsz.1; have h2 := hsz.2; have h3 : (Kd.int .i64).sz = 1 := rfl; rw [h3] at h1; simp [Value.cells]; omega)
        obtain ⟨cur', h1, h2, h3, h4⟩ := setCells_rowH vs i wr cells hcells
        have HR := Aside0.mk (R_cut HO.out (by omega : i ≤ dk.length) h4 hcells h1 h2 (fun j hj => h3 j (by have h3 : (Kd.int .i64).sz = 1 := rfl; rw [h3] at hj; omega)))
        have HG4 := Aside0.mk h4
        clear h1 h2 h3 h4 hsz hcells
        have HL := Aside0.mk hdl
        clear hdl
        go_wp2
        go_ret
        exact ⟨_, rfl, by
          have := HI.out.low
          rw [List.take_length] at this
          rw [← this]; exact HR.out, grown_trans HG.out HG4.out, rfl⟩
end Go.Proofs.Ytnepgcbgkhikkaa.H
namespace Go.Proofs.Ytnepgcbgkhikkaa.H
open Go.RowKit Go.Sort Go.Proofs.YtnepgcbgkhikkaaW.PrintWords Go.Proofs.YtnepgcbgkhikkaaW.PrintLast Go.Proofs.YtnepgcbgkhikkaaW.PrintMore
def withinB (n : Nat) (m : Int) : Bool := decide (0 ≤ m) && decide (m < (n : Int))
theorem within_eq (s : List Stmt) (m : Int) : cfg_within.f s m = some (withinB s.length m) := by
  unfold cfg_within.f withinB
  by_cases h : m ≥ 0
  · simp [h]
  · simp [h]
def GNextDel.f (l : List Int) (s : List Stmt) : Option (List Int) := some (l.filter (withinB s.length))
theorem nextDel1 {w : World} {gb : Nat} {row : Option Nat} {A1 : Option Addr} {c1 : Nat} {l1 : List Stmt} (l : List Int) (hb : w.heap[gb]? = some (.cells #[.slice A1 l1.length c1] 22 (0, 0))) (hne : some gb ≠ row)
    (hr : ∀ W, w.grownBy W row → Kd.C k30 W A1 l1.length l1) (hc : l1.length ≤ c1) :
    PredG Try.prog 49 #[.pointer (some ⟨gb, 0, none⟩)] (Value.int .i64) (fun m => !withinB l1.length m) w row l := by
  intro W x _ hg
  have h1 : W.heap[gb]? = some (.cells #[.slice A1 l1.length c1] 22 (0, 0)) := (hg.block gb (blk_lt hb) hne).trans hb
  have hx : W.cell? ⟨gb, 0, none⟩ = some (.slice A1 l1.length c1) := (blk_cell h1 0).trans rfl
  have HR := Aside0.mk (hr W hg)
  clear hg hr hb h1
  go_enter Try.func49, Try.ntmps49
  go_wp2_with (go_at_call 42; go_must (refine (cfg_within.calls _ _ l1 x _ _ HR.out hc (within_eq l1 x)).mono ?_); rintro e w' ⟨rfl, hd⟩; have HD := Aside0.mk hd.below; clear hd)
  go_ret
  exact ⟨rfl, HD.out⟩
theorem GNextDel.calls (P0_ : Nat → Prop) (u9000_ : Value) (l0 : List Int) (A1 : Option Addr) (c1 : Nat) (l1 : List Stmt) (r : List Int) (w0 w : World) {gb : Nat} (hB : Below w0.heap.size w0 w) (ho0 : Kd.R (Kd.int .i64) 3 w w0.heap.size P0_ u9000_ l0)
    (hr1 : ∀ W_, Kept w W_ (fun k_ => P0_ k_) → Kd.C k30 W_ A1 l1.length l1) (hc1 : l1.length ≤ c1) (hb : w.heap[gb]? = some (.cells #[.slice A1 l1.length c1] 22 (0, 0))) (h : GNextDel.f l0 l1 = some r) :
    Calls Try.prog 48 #[u9000_, .func (.func 49) #[] #[.pointer (some ⟨gb, 0, none⟩)]] w fun e w' => ∃ v0_ : Value, e = .returned v0_ ∧ Kd.R (Kd.int .i64) 3 w' w0.heap.size (fun k_ => (P0_ k_ ∨ w.heap.size ≤ k_)) v0_ r ∧ Below w0.heap.size w0 w' ∧ Kept w w' (fun k_ => P0_ k_) := by
  cases h
  have eg := enters_of Try.func49 (by kernel_rfl) rfl
  have kept : ∀ W, w.grownBy W u9000_.ownBlock → Kept w W (fun k_ => P0_ k_) := fun W hg => ⟨hg.size, fun i hi hn => hg.block i hi (fun e => hn (ho0.1 i e.symm))⟩
  refine (DeleteFuncInt 49 #[.pointer (some ⟨gb, 0, none⟩)] eg (fun m => !withinB l1.length m) w0.heap.size P0_ u9000_ l0 w ho0
    (nextDel1 l0 hb (Kd.R_ne ho0 hb (by decide)) (fun W hg => hr1 W (kept W hg)) hc1)).mono ?_
  rintro e w' ⟨v, rfl, hR, hg, hv⟩
  refine ⟨v, rfl, ?_, pw_below_grown hB _ hB.size hg (fun k hk => Kd.R_base ho0 k hk), kept w' hg⟩
  have e1 : (l0.filter fun x => !(fun m => !withinB l1.length m) x) = l0.filter (withinB l1.length) := List.filter_congr fun x _ => by simp
  rw [e1] at hR
  exact Kd.R_mono hR (fun k hk => .inl hk)
end Go.Proofs.Ytnepgcbgkhikkaa.H
