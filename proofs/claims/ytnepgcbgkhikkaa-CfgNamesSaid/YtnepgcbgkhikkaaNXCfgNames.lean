/- RowCfgNames of the seat's law CfgNames: the law holds, under the statement's own conditions. -/
import Derived.Test.YtnepgcbgkhikkaaProg
import Derived.Below
import Derived.Deep.Draws
import Derived.Deep.AppendLies
import Derived.Maps.AppendAt
import Derived.OwnWalk
import Derived.Laws.BytesArg
import Derived.Laws.MakeOwn
import Derived.Laws.OwnMore
import Derived.Deep.OwnRows
import Derived.Tactics
import Derived.Lib.ConvBytes
import Derived.Laws.Slices
import Derived.WalkKit
import Derived.KernelRfl
import Derived.RowKit3
import Derived.Deep.LoopGhost
import Derived.Deep.QuietTactic
import Derived.BigQuiet
import Derived.WideLaws
import Derived.Deep.DeepCutAuto
import Derived.Deep.CutBlock
import Derived.Deep.RegionHeld3
import Derived.Laws.Rows
import Derived.Lib.AppendStr
import Derived.ArgAppend
import Derived.Laws.IdiomCopy
import Derived.OrdersHeld
import Derived.Laws.BitsLemmas
import Derived.RowKit
import Derived.Test.YtnepgcbgkhikkaaNW
import Derived.Sort.Grow
import Derived.Sort.EncStr
import Derived.Lib.SlicesCompact
import Derived.Shelf.Sort.Plain
import Derived.Ground.Names2Prog
import Derived.Shelf.Slices.Clone
import Derived.Shelf.Slices.CompactI
import Derived.Shelf.Slices.CompactS
import Derived.Shelf.Slices.SearchI
import Derived.Shelf.Slices.Cells
import Derived.Shelf.Slices.In.SortNone
import Derived.Ground.SlgnProg
import Derived.Shelf.SlicesE.Compact
import Derived.Shelf.SlicesE.Clone
import Derived.Ground.SlgfProg
import Derived.Shelf.SlicesE.IndexFunc
import Derived.Shelf.SlicesE.DeleteFunc
import Derived.Shelf.Abstract
import Derived.Deep.DeepMust
import Derived.Outline
import Derived.Lib.SliceRun
namespace Go.Proofs.Ytnepgcbgkhikkaa.H
open Go.RowKit Go.Proofs.YtnepgcbgkhikkaaW.PrintWords Go.Proofs.YtnepgcbgkhikkaaW.PrintLast Go.Proofs.YtnepgcbgkhikkaaW.PrintMore
attribute [local go_sem] max2_int min2_int max_two min_two max_three min_three max_four min_four
set_option linter.unusedVariables false
set_option linter.unusedSimpArgs false
def errW : Option Int → Value
 | none => .nilIface
 | some c => .iface 0 (.int .i64 c)
theorem errW_none : errW none = .nilIface := rfl
theorem errW_some (c : Int) : errW (some c) = .iface 0 (.int .i64 c) := rfl
theorem info2 : (Try.prog.info? 2).map (fun i => (i.zero, i.size, i.bytes)) = some (some (.int .i64 0), 1, 8) := by kernel_rfl
theorem info3 : (Try.prog.info? 3).map (fun i => (i.zero, i.size, i.bytes)) = some (some (.int .i64 0), 1, 8) := by kernel_rfl
theorem info4 : (Try.prog.info? 4).map (fun i => (i.zero, i.size, i.bytes)) = some (some (.bool false), 1, 1) := by kernel_rfl
theorem info9 : (Try.prog.info? 9).map (fun i => (i.zero, i.size, i.bytes)) = some (some (.string ⟨#[]⟩), 1, 16) := by kernel_rfl
theorem info30 : (Try.prog.info? 30).map (fun i => (i.zero, i.size, i.bytes)) = some (some (.agg #[(.int .i64 0), (.string ⟨#[]⟩), (.string ⟨#[]⟩), (.string ⟨#[]⟩), (.string ⟨#[]⟩), (.int .i64 0), (.int .i64 0), (.int .i64 0)]), 8, 96) := by kernel_rfl
theorem info41 : (Try.prog.info? 41).map (fun i => (i.zero, i.size, i.bytes)) = some (some (.slice none 0 0), 1, 24) := by kernel_rfl
theorem info52 : (Try.prog.info? 52).map (fun i => (i.zero, i.size, i.bytes)) = some (some (.agg #[(.int .i64 0), (.slice none 0 0)]), 2, 32) := by kernel_rfl
theorem info54 : (Try.prog.info? 54).map (fun i => (i.zero, i.size, i.bytes)) = some (some (.agg #[(.string ⟨#[]⟩), (.int .i64 0), (.int .i64 0), (.bool false)]), 4, 40) := by kernel_rfl
theorem info67 : (Try.prog.info? 67).map (fun i => (i.zero, i.size, i.bytes)) = some (some (.agg #[(.int .i64 0), (.slice none 0 0)]), 2, 32) := by kernel_rfl
theorem info68 : (Try.prog.info? 68).map (fun i => (i.zero, i.size, i.bytes)) = some (some (.agg #[(.string ⟨#[]⟩), (.int .i64 0), (.int .i64 0), (.bool false)]), 4, 40) := by kernel_rfl
-- the values' own types
/-! #### struct type 30 -/
structure Stmt where
 kind : Int
 x : ByteArray
 y : ByteArray
 z : ByteArray
 op : ByteArray
 n : Int
 a : Int
 b : Int
deriving DecidableEq
def z30 : Stmt := ⟨(0 : Int), (⟨#[]⟩ : ByteArray), (⟨#[]⟩ : ByteArray), (⟨#[]⟩ : ByteArray), (⟨#[]⟩ : ByteArray), (0 : Int), (0 : Int), (0 : Int)⟩
def k30 : Kd Stmt := Kd.iso (Kd.pair (Kd.int .i64) (Kd.pair Kd.string (Kd.pair Kd.string (Kd.pair Kd.string (Kd.pair Kd.string (Kd.pair (Kd.int .i64) (Kd.pair (Kd.int .i64) (Kd.int .i64)))))))) (fun x : Stmt => (x.kind, x.x, x.y, x.z, x.op, x.n, x.a, x.b))
theorem k30_heap : Kd.Heap k30 := Kd.heap_iso _ (Kd.heap_pair (Kd.heap_int .i64) (Kd.heap_pair Kd.heap_string (Kd.heap_pair Kd.heap_string (Kd.heap_pair Kd.heap_string (Kd.heap_pair Kd.heap_string (Kd.heap_pair (Kd.heap_int .i64) (Kd.heap_pair (Kd.heap_int .i64) (Kd.heap_int .i64))))))))
theorem k30_open {w : World} {x : Stmt} {cs : List Value} (h : k30.K w x cs) : cs = [.int .i64 x.kind, .string x.x, .string x.y, .string x.z, .string x.op, .int .i64 x.n, .int .i64 x.a, .int .i64 x.b] := by
 obtain ⟨_, _, rfl, rfl, ⟨_, _, rfl, rfl, ⟨_, _, rfl, rfl, ⟨_, _, rfl, rfl, ⟨_, _, rfl, rfl, ⟨_, _, rfl, rfl, ⟨_, _, rfl, rfl, rfl⟩⟩⟩⟩⟩⟩⟩ := h
 exact rfl
theorem k30_openM {w : World} {base : Nat} {ok : Nat → Prop} {x : Stmt} {cs : List Value} (h : k30.M w base ok x cs) : cs = [.int .i64 x.kind, .string x.x, .string x.y, .string x.z, .string x.op, .int .i64 x.n, .int .i64 x.a, .int .i64 x.b] := by
 obtain ⟨_, _, rfl, rfl, ⟨_, _, rfl, rfl, ⟨_, _, rfl, rfl, ⟨_, _, rfl, rfl, ⟨_, _, rfl, rfl, ⟨_, _, rfl, rfl, ⟨_, _, rfl, rfl, rfl⟩⟩⟩⟩⟩⟩⟩ := h
 exact rfl
theorem k30_mk (w : World) (x : Stmt)  : k30.K w x [.int .i64 x.kind, .string x.x, .string x.y, .string x.z, .string x.op, .int .i64 x.n, .int .i64 x.a, .int .i64 x.b] := ⟨[.int .i64 x.kind], [.string x.x, .string x.y, .string x.z, .string x.op, .int .i64 x.n, .int .i64 x.a, .int .i64 x.b], rfl, rfl, ⟨[.string x.x], [.string x.y, .string x.z, .string x.op, .int .i64 x.n, .int .i64 x.a, .int .i64 x.b], rfl, rfl, ⟨[.string x.y], [.string x.z, .string x.op, .int .i64 x.n, .int .i64 x.a, .int .i64 x.b], rfl, rfl, ⟨[.string x.z], [.string x.op, .int .i64 x.n, .int .i64 x.a, .int .i64 x.b], rfl, rfl, ⟨[.string x.op], [.int .i64 x.n, .int .i64 x.a, .int .i64 x.b], rfl, rfl, ⟨[.int .i64 x.n], [.int .i64 x.a, .int .i64 x.b], rfl, rfl, ⟨[.int .i64 x.a], [.int .i64 x.b], rfl, rfl, rfl⟩⟩⟩⟩⟩⟩⟩
theorem k30_mkM (w : World) (base : Nat) (ok : Nat → Prop) (x : Stmt)  : k30.M w base ok x [.int .i64 x.kind, .string x.x, .string x.y, .string x.z, .string x.op, .int .i64 x.n, .int .i64 x.a, .int .i64 x.b] := ⟨[.int .i64 x.kind], [.string x.x, .string x.y, .string x.z, .string x.op, .int .i64 x.n, .int .i64 x.a, .int .i64 x.b], rfl, rfl, ⟨[.string x.x], [.string x.y, .string x.z, .string x.op, .int .i64 x.n, .int .i64 x.a, .int .i64 x.b], rfl, rfl, ⟨[.string x.y], [.string x.z, .string x.op, .int .i64 x.n, .int .i64 x.a, .int .i64 x.b], rfl, rfl, ⟨[.string x.z], [.string x.op, .int .i64 x.n, .int .i64 x.a, .int .i64 x.b], rfl, rfl, ⟨[.string x.op], [.int .i64 x.n, .int .i64 x.a, .int .i64 x.b], rfl, rfl, ⟨[.int .i64 x.n], [.int .i64 x.a, .int .i64 x.b], rfl, rfl, ⟨[.int .i64 x.a], [.int .i64 x.b], rfl, rfl, rfl⟩⟩⟩⟩⟩⟩⟩
theorem k30_mkF (W : World) (ok : Nat → Prop) (x : Stmt) : Kd.FK k30 W ok x [.int .i64 x.kind, .string x.x, .string x.y, .string x.z, .string x.op, .int .i64 x.n, .int .i64 x.a, .int .i64 x.b] := fun W2 _ => k30_mk W2 x
def rd_T30 (xs : List Stmt) (i : Int) : Stmt := xs.getD i.toNat z30
theorem at_T30 {w : World} {A : Option Addr} {n : Nat} {xs : List Stmt} (h : Kd.C k30 w A n xs) (i : Int) (h0 : 0 ≤ i) (h1 : i < n) : ∃ ad , A = some ad ∧ w.cell? (ad.add (i.toNat * 8)) = some (.int .i64 (rd_T30 xs i).kind) ∧ w.cell? ⟨(ad.add (i.toNat * 8)).block, (ad.add (i.toNat * 8)).off + 1, none⟩ = some (.string (rd_T30 xs i).x) ∧ w.cell? ⟨(ad.add (i.toNat * 8)).block, (ad.add (i.toNat * 8)).off + 2, none⟩ = some (.string (rd_T30 xs i).y) ∧ w.cell? ⟨(ad.add (i.toNat * 8)).block, (ad.add (i.toNat * 8)).off + 3, none⟩ = some (.string (rd_T30 xs i).z) ∧ w.cell? ⟨(ad.add (i.toNat * 8)).block, (ad.add (i.toNat * 8)).off + 4, none⟩ = some (.string (rd_T30 xs i).op) ∧ w.cell? ⟨(ad.add (i.toNat * 8)).block, (ad.add (i.toNat * 8)).off + 5, none⟩ = some (.int .i64 (rd_T30 xs i).n) ∧ w.cell? ⟨(ad.add (i.toNat * 8)).block, (ad.add (i.toNat * 8)).off + 6, none⟩ = some (.int .i64 (rd_T30 xs i).a) ∧ w.cell? ⟨(ad.add (i.toNat * 8)).block, (ad.add (i.toNat * 8)).off + 7, none⟩ = some (.int .i64 (rd_T30 xs i).b) := by
 obtain ⟨ad, c, e, _, hK, hc0⟩ := Kd.C_get h z30 i h0 h1
 have hc : ∀ j u, c[j]? = some u → w.cell? (ad.add (i.toNat * 8 + j)) = some u := hc0
 obtain rfl := k30_open hK
 exact ⟨ad, e, hc 0 _ rfl, by rw [← add_field _ _ 1 (by omega)]; exact hc 1 _ rfl, by rw [← add_field _ _ 2 (by omega)]; exact hc 2 _ rfl, by rw [← add_field _ _ 3 (by omega)]; exact hc 3 _ rfl, by rw [← add_field _ _ 4 (by omega)]; exact hc 4 _ rfl, by rw [← add_field _ _ 5 (by omega)]; exact hc 5 _ rfl, by rw [← add_field _ _ 6 (by omega)]; exact hc 6 _ rfl, by rw [← add_field _ _ 7 (by omega)]; exact hc 7 _ rfl⟩
/-! #### struct type 54 -/
structure Var where
 name : ByteArray
 n : Int
 last : Int
 taint : Bool
deriving DecidableEq
def z54 : Var := ⟨(⟨#[]⟩ : ByteArray), (0 : Int), (0 : Int), false⟩
def k54 : Kd Var := Kd.iso (Kd.pair Kd.string (Kd.pair (Kd.int .i64) (Kd.pair (Kd.int .i64) Kd.bool))) (fun x : Var => (x.name, x.n, x.last, x.taint))
theorem k54_heap : Kd.Heap k54 := Kd.heap_iso _ (Kd.heap_pair Kd.heap_string (Kd.heap_pair (Kd.heap_int .i64) (Kd.heap_pair (Kd.heap_int .i64) Kd.heap_bool)))
theorem k54_open {w : World} {x : Var} {cs : List Value} (h : k54.K w x cs) : cs = [.string x.name, .int .i64 x.n, .int .i64 x.last, .bool x.taint] := by
 obtain ⟨_, _, rfl, rfl, ⟨_, _, rfl, rfl, ⟨_, _, rfl, rfl, rfl⟩⟩⟩ := h
 exact rfl
theorem k54_openM {w : World} {base : Nat} {ok : Nat → Prop} {x : Var} {cs : List Value} (h : k54.M w base ok x cs) : cs = [.string x.name, .int .i64 x.n, .int .i64 x.last, .bool x.taint] := by
 obtain ⟨_, _, rfl, rfl, ⟨_, _, rfl, rfl, ⟨_, _, rfl, rfl, rfl⟩⟩⟩ := h
 exact rfl
theorem k54_mk (w : World) (x : Var)  : k54.K w x [.string x.name, .int .i64 x.n, .int .i64 x.last, .bool x.taint] := ⟨[.string x.name], [.int .i64 x.n, .int .i64 x.last, .bool x.taint], rfl, rfl, ⟨[.int .i64 x.n], [.int .i64 x.last, .bool x.taint], rfl, rfl, ⟨[.int .i64 x.last], [.bool x.taint], rfl, rfl, rfl⟩⟩⟩
theorem k54_mkM (w : World) (base : Nat) (ok : Nat → Prop) (x : Var)  : k54.M w base ok x [.string x.name, .int .i64 x.n, .int .i64 x.last, .bool x.taint] := ⟨[.string x.name], [.int .i64 x.n, .int .i64 x.last, .bool x.taint], rfl, rfl, ⟨[.int .i64 x.n], [.int .i64 x.last, .bool x.taint], rfl, rfl, ⟨[.int .i64 x.last], [.bool x.taint], rfl, rfl, rfl⟩⟩⟩
theorem k54_mkF (W : World) (ok : Nat → Prop) (x : Var) : Kd.FK k54 W ok x [.string x.name, .int .i64 x.n, .int .i64 x.last, .bool x.taint] := fun W2 _ => k54_mk W2 x
def rd_T54 (xs : List Var) (i : Int) : Var := xs.getD i.toNat z54
theorem at_T54 {w : World} {A : Option Addr} {n : Nat} {xs : List Var} (h : Kd.C k54 w A n xs) (i : Int) (h0 : 0 ≤ i) (h1 : i < n) : ∃ ad , A = some ad ∧ w.cell? (ad.add (i.toNat * 4)) = some (.string (rd_T54 xs i).name) ∧ w.cell? ⟨(ad.add (i.toNat * 4)).block, (ad.add (i.toNat * 4)).off + 1, none⟩ = some (.int .i64 (rd_T54 xs i).n) ∧ w.cell? ⟨(ad.add (i.toNat * 4)).block, (ad.add (i.toNat * 4)).off + 2, none⟩ = some (.int .i64 (rd_T54 xs i).last) ∧ w.cell? ⟨(ad.add (i.toNat * 4)).block, (ad.add (i.toNat * 4)).off + 3, none⟩ = some (.bool (rd_T54 xs i).taint) := by
 obtain ⟨ad, c, e, _, hK, hc0⟩ := Kd.C_get h z54 i h0 h1
 have hc : ∀ j u, c[j]? = some u → w.cell? (ad.add (i.toNat * 4 + j)) = some u := hc0
 obtain rfl := k54_open hK
 exact ⟨ad, e, hc 0 _ rfl, by rw [← add_field _ _ 1 (by omega)]; exact hc 1 _ rfl, by rw [← add_field _ _ 2 (by omega)]; exact hc 2 _ rfl, by rw [← add_field _ _ 3 (by omega)]; exact hc 3 _ rfl⟩
def rd_L5 (xs : List (List Var)) (i : Int) : (List Var) := xs.getD i.toNat ([] : List Var)
theorem at_L5 {w : World} {A : Option Addr} {n : Nat} {xs : List (List Var)} (h : Kd.C (Kd.slice 54 k54) w A n xs) (i : Int) (h0 : 0 ≤ i) (h1 : i < n) : ∃ ad A0 c0, A = some ad ∧ w.cell? (ad.add i.toNat) = some (.slice A0 (rd_L5 xs i).length c0) ∧ (rd_L5 xs i).length ≤ c0 ∧ k54.C w A0 (rd_L5 xs i).length (rd_L5 xs i) := by
 obtain ⟨ad, c, e, _, hK, hc0⟩ := Kd.C_get h ([] : List Var) i h0 h1
 have hc : ∀ j u, c[j]? = some u → w.cell? (ad.add (i.toNat * 1 + j)) = some u := hc0
 obtain ⟨A0, c0, rfl, l0, g0⟩ := hK
 exact ⟨ad, A0, c0, e, by have hq := hc 0 _ rfl; rwa [Nat.mul_one, Nat.add_zero] at hq, l0, g0⟩
/-! #### struct type 52 -/
structure Visit where
 place : Int
 vars : (List Var)
deriving DecidableEq
def z52 : Visit := ⟨(0 : Int), ([] : List Var)⟩
def k52 : Kd Visit := Kd.iso (Kd.pair (Kd.int .i64) (Kd.slice 54 k54)) (fun x : Visit => (x.place, x.vars))
theorem k52_heap : Kd.Heap k52 := Kd.heap_iso _ (Kd.heap_pair (Kd.heap_int .i64) (Kd.heap_slice 54 k54_heap))
theorem k52_open {w : World} {x : Visit} {cs : List Value} (h : k52.K w x cs) : ∃ A1 c1, cs = [.int .i64 x.place, .slice A1 x.vars.length c1] ∧ x.vars.length ≤ c1 ∧ k54.C w A1 x.vars.length x.vars := by
 obtain ⟨_, _, rfl, rfl, ⟨A1, c1, rfl, l1, g1⟩⟩ := h
 exact ⟨A1, c1, rfl, l1, g1⟩
theorem k52_openM {w : World} {base : Nat} {ok : Nat → Prop} {x : Visit} {cs : List Value} (h : k52.M w base ok x cs) : ∃ v1, cs = [.int .i64 x.place, v1] ∧ k54.R 54 w base ok v1 x.vars := by
 obtain ⟨_, _, rfl, rfl, ⟨v1, rfl, g1⟩⟩ := h
 exact ⟨v1, rfl, g1⟩
theorem k52_mk (w : World) (x : Visit) {A1 : Option Addr} {c1 : Nat} (l1 : x.vars.length ≤ c1) (g1 : k54.C w A1 x.vars.length x.vars) : k52.K w x [.int .i64 x.place, .slice A1 x.vars.length c1] := ⟨[.int .i64 x.place], [.slice A1 x.vars.length c1], rfl, rfl, ⟨A1, c1, rfl, l1, g1⟩⟩
theorem k52_mkM (w : World) (base : Nat) (ok : Nat → Prop) (x : Visit) {v1 : Value} (g1 : k54.R 54 w base ok v1 x.vars) : k52.M w base ok x [.int .i64 x.place, v1] := ⟨[.int .i64 x.place], [v1], rfl, rfl, ⟨v1, rfl, g1⟩⟩
theorem k52_openF {W : World} {ok : Nat → Prop} {x : Visit} {cs : List Value} (h : Kd.FK k52 W ok x cs) : ∃ A1 c1, cs = [.int .i64 x.place, .slice A1 x.vars.length c1] ∧ x.vars.length ≤ c1 ∧ Kd.F k54 W ok A1 x.vars.length x.vars := by
 obtain ⟨A1, c1, rfl, l1, _⟩ := k52_open (Kd.FK_now h)
 exact ⟨A1, c1, rfl, l1, (fun W' hW => by obtain ⟨A1_, c1_, he, l1_, g1_⟩ := k52_open (h W' hW); injection (Option.some.inj (show some (Value.slice A1 x.vars.length c1) = some (Value.slice A1_ x.vars.length c1_) from congrArg (fun l => l[1]?) he)) with ha_ _ _; rw [ha_]; exact g1_)⟩
theorem k52_mkF (W : World) (ok : Nat → Prop) (x : Visit) {A1 : Option Addr} {c1 : Nat} (l1 : x.vars.length ≤ c1) (g1 : Kd.F k54 W ok A1 x.vars.length x.vars) : Kd.FK k52 W ok x [.int .i64 x.place, .slice A1 x.vars.length c1] := fun W2 hW => k52_mk W2 x l1 (g1 W2 hW)
def rd_T52 (xs : List Visit) (i : Int) : Visit := xs.getD i.toNat z52
theorem at_T52 {w : World} {A : Option Addr} {n : Nat} {xs : List Visit} (h : Kd.C k52 w A n xs) (i : Int) (h0 : 0 ≤ i) (h1 : i < n) : ∃ ad A1 c1, A = some ad ∧ w.cell? (ad.add (i.toNat * 2)) = some (.int .i64 (rd_T52 xs i).place) ∧ w.cell? ⟨(ad.add (i.toNat * 2)).block, (ad.add (i.toNat * 2)).off + 1, none⟩ = some (.slice A1 (rd_T52 xs i).vars.length c1) ∧ (rd_T52 xs i).vars.length ≤ c1 ∧ k54.C w A1 (rd_T52 xs i).vars.length (rd_T52 xs i).vars := by
 obtain ⟨ad, c, e, _, hK, hc0⟩ := Kd.C_get h z52 i h0 h1
 have hc : ∀ j u, c[j]? = some u → w.cell? (ad.add (i.toNat * 2 + j)) = some u := hc0
 obtain ⟨A1, c1, rfl, l1, g1⟩ := k52_open hK
 exact ⟨ad, A1, c1, e, hc 0 _ rfl, by rw [← add_field _ _ 1 (by omega)]; exact hc 1 _ rfl, l1, g1⟩
def rd_L7 (xs : List (List Stmt)) (i : Int) : (List Stmt) := xs.getD i.toNat ([] : List Stmt)
theorem at_L7 {w : World} {A : Option Addr} {n : Nat} {xs : List (List Stmt)} (h : Kd.C (Kd.slice 30 k30) w A n xs) (i : Int) (h0 : 0 ≤ i) (h1 : i < n) : ∃ ad A0 c0, A = some ad ∧ w.cell? (ad.add i.toNat) = some (.slice A0 (rd_L7 xs i).length c0) ∧ (rd_L7 xs i).length ≤ c0 ∧ k30.C w A0 (rd_L7 xs i).length (rd_L7 xs i) := by
 obtain ⟨ad, c, e, _, hK, hc0⟩ := Kd.C_get h ([] : List Stmt) i h0 h1
 have hc : ∀ j u, c[j]? = some u → w.cell? (ad.add (i.toNat * 1 + j)) = some u := hc0
 obtain ⟨A0, c0, rfl, l0, g0⟩ := hK
 exact ⟨ad, A0, c0, e, by have hq := hc 0 _ rfl; rwa [Nat.mul_one, Nat.add_zero] at hq, l0, g0⟩
def rd_L8 (xs : List (List Int)) (i : Int) : (List Int) := xs.getD i.toNat ([] : List Int)
theorem at_L8 {w : World} {A : Option Addr} {n : Nat} {xs : List (List Int)} (h : Kd.C (Kd.slice 3 (Kd.int .i64)) w A n xs) (i : Int) (h0 : 0 ≤ i) (h1 : i < n) : ∃ ad A0 c0, A = some ad ∧ w.cell? (ad.add i.toNat) = some (.slice A0 (rd_L8 xs i).length c0) ∧ (rd_L8 xs i).length ≤ c0 ∧ (Kd.int .i64).C w A0 (rd_L8 xs i).length (rd_L8 xs i) := by
 obtain ⟨ad, c, e, _, hK, hc0⟩ := Kd.C_get h ([] : List Int) i h0 h1
 have hc : ∀ j u, c[j]? = some u → w.cell? (ad.add (i.toNat * 1 + j)) = some u := hc0
 obtain ⟨A0, c0, rfl, l0, g0⟩ := hK
 exact ⟨ad, A0, c0, e, by have hq := hc 0 _ rfl; rwa [Nat.mul_one, Nat.add_zero] at hq, l0, g0⟩
def rd_L9 (xs : List (List ByteArray)) (i : Int) : (List ByteArray) := xs.getD i.toNat ([] : List ByteArray)
theorem at_L9 {w : World} {A : Option Addr} {n : Nat} {xs : List (List ByteArray)} (h : Kd.C (Kd.slice 9 Kd.string) w A n xs) (i : Int) (h0 : 0 ≤ i) (h1 : i < n) : ∃ ad A0 c0, A = some ad ∧ w.cell? (ad.add i.toNat) = some (.slice A0 (rd_L9 xs i).length c0) ∧ (rd_L9 xs i).length ≤ c0 ∧ Kd.string.C w A0 (rd_L9 xs i).length (rd_L9 xs i) := by
 obtain ⟨ad, c, e, _, hK, hc0⟩ := Kd.C_get h ([] : List ByteArray) i h0 h1
 have hc : ∀ j u, c[j]? = some u → w.cell? (ad.add (i.toNat * 1 + j)) = some u := hc0
 obtain ⟨A0, c0, rfl, l0, g0⟩ := hK
 exact ⟨ad, A0, c0, e, by have hq := hc 0 _ rfl; rwa [Nat.mul_one, Nat.add_zero] at hq, l0, g0⟩
def rd_L10 (xs : List (List Int)) (i : Int) : (List Int) := xs.getD i.toNat ([] : List Int)
theorem at_L10 {w : World} {A : Option Addr} {n : Nat} {xs : List (List Int)} (h : Kd.C (Kd.slice 2 (Kd.int .i64)) w A n xs) (i : Int) (h0 : 0 ≤ i) (h1 : i < n) : ∃ ad A0 c0, A = some ad ∧ w.cell? (ad.add i.toNat) = some (.slice A0 (rd_L10 xs i).length c0) ∧ (rd_L10 xs i).length ≤ c0 ∧ (Kd.int .i64).C w A0 (rd_L10 xs i).length (rd_L10 xs i) := by
 obtain ⟨ad, c, e, _, hK, hc0⟩ := Kd.C_get h ([] : List Int) i h0 h1
 have hc : ∀ j u, c[j]? = some u → w.cell? (ad.add (i.toNat * 1 + j)) = some u := hc0
 obtain ⟨A0, c0, rfl, l0, g0⟩ := hK
 exact ⟨ad, A0, c0, e, by have hq := hc 0 _ rfl; rwa [Nat.mul_one, Nat.add_zero] at hq, l0, g0⟩
def rd_L11 (xs : List (List Bool)) (i : Int) : (List Bool) := xs.getD i.toNat ([] : List Bool)
theorem at_L11 {w : World} {A : Option Addr} {n : Nat} {xs : List (List Bool)} (h : Kd.C (Kd.slice 4 Kd.bool) w A n xs) (i : Int) (h0 : 0 ≤ i) (h1 : i < n) : ∃ ad A0 c0, A = some ad ∧ w.cell? (ad.add i.toNat) = some (.slice A0 (rd_L11 xs i).length c0) ∧ (rd_L11 xs i).length ≤ c0 ∧ Kd.bool.C w A0 (rd_L11 xs i).length (rd_L11 xs i) := by
 obtain ⟨ad, c, e, _, hK, hc0⟩ := Kd.C_get h ([] : List Bool) i h0 h1
 have hc : ∀ j u, c[j]? = some u → w.cell? (ad.add (i.toNat * 1 + j)) = some u := hc0
 obtain ⟨A0, c0, rfl, l0, g0⟩ := hK
 exact ⟨ad, A0, c0, e, by have hq := hc 0 _ rfl; rwa [Nat.mul_one, Nat.add_zero] at hq, l0, g0⟩
def rd_L12 (xs : List (List Visit)) (i : Int) : (List Visit) := xs.getD i.toNat ([] : List Visit)
theorem at_L12 {w : World} {A : Option Addr} {n : Nat} {xs : List (List Visit)} (h : Kd.C (Kd.slice 52 k52) w A n xs) (i : Int) (h0 : 0 ≤ i) (h1 : i < n) : ∃ ad A0 c0, A = some ad ∧ w.cell? (ad.add i.toNat) = some (.slice A0 (rd_L12 xs i).length c0) ∧ (rd_L12 xs i).length ≤ c0 ∧ k52.C w A0 (rd_L12 xs i).length (rd_L12 xs i) := by
 obtain ⟨ad, c, e, _, hK, hc0⟩ := Kd.C_get h ([] : List Visit) i h0 h1
 have hc : ∀ j u, c[j]? = some u → w.cell? (ad.add (i.toNat * 1 + j)) = some u := hc0
 obtain ⟨A0, c0, rfl, l0, g0⟩ := hK
 exact ⟨ad, A0, c0, e, by have hq := hc 0 _ rfl; rwa [Nat.mul_one, Nat.add_zero] at hq, l0, g0⟩
/-! #### struct type 68 -/
structure S68 where
 f0 : ByteArray
 f1 : Int
 f2 : Int
 f3 : Bool
deriving DecidableEq
def z68 : S68 := ⟨(⟨#[]⟩ : ByteArray), (0 : Int), (0 : Int), false⟩
def k68 : Kd S68 := Kd.iso (Kd.pair Kd.string (Kd.pair (Kd.int .i64) (Kd.pair (Kd.int .i64) Kd.bool))) (fun x : S68 => (x.f0, x.f1, x.f2, x.f3))
theorem k68_heap : Kd.Heap k68 := Kd.heap_iso _ (Kd.heap_pair Kd.heap_string (Kd.heap_pair (Kd.heap_int .i64) (Kd.heap_pair (Kd.heap_int .i64) Kd.heap_bool)))
theorem k68_open {w : World} {x : S68} {cs : List Value} (h : k68.K w x cs) : cs = [.string x.f0, .int .i64 x.f1, .int .i64 x.f2, .bool x.f3] := by
 obtain ⟨_, _, rfl, rfl, ⟨_, _, rfl, rfl, ⟨_, _, rfl, rfl, rfl⟩⟩⟩ := h
 exact rfl
theorem k68_openM {w : World} {base : Nat} {ok : Nat → Prop} {x : S68} {cs : List Value} (h : k68.M w base ok x cs) : cs = [.string x.f0, .int .i64 x.f1, .int .i64 x.f2, .bool x.f3] := by
 obtain ⟨_, _, rfl, rfl, ⟨_, _, rfl, rfl, ⟨_, _, rfl, rfl, rfl⟩⟩⟩ := h
 exact rfl
theorem k68_mk (w : World) (x : S68)  : k68.K w x [.string x.f0, .int .i64 x.f1, .int .i64 x.f2, .bool x.f3] := ⟨[.string x.f0], [.int .i64 x.f1, .int .i64 x.f2, .bool x.f3], rfl, rfl, ⟨[.int .i64 x.f1], [.int .i64 x.f2, .bool x.f3], rfl, rfl, ⟨[.int .i64 x.f2], [.bool x.f3], rfl, rfl, rfl⟩⟩⟩
theorem k68_mkM (w : World) (base : Nat) (ok : Nat → Prop) (x : S68)  : k68.M w base ok x [.string x.f0, .int .i64 x.f1, .int .i64 x.f2, .bool x.f3] := ⟨[.string x.f0], [.int .i64 x.f1, .int .i64 x.f2, .bool x.f3], rfl, rfl, ⟨[.int .i64 x.f1], [.int .i64 x.f2, .bool x.f3], rfl, rfl, ⟨[.int .i64 x.f2], [.bool x.f3], rfl, rfl, rfl⟩⟩⟩
theorem k68_mkF (W : World) (ok : Nat → Prop) (x : S68) : Kd.FK k68 W ok x [.string x.f0, .int .i64 x.f1, .int .i64 x.f2, .bool x.f3] := fun W2 _ => k68_mk W2 x
def rd_T68 (xs : List S68) (i : Int) : S68 := xs.getD i.toNat z68
theorem at_T68 {w : World} {A : Option Addr} {n : Nat} {xs : List S68} (h : Kd.C k68 w A n xs) (i : Int) (h0 : 0 ≤ i) (h1 : i < n) : ∃ ad , A = some ad ∧ w.cell? (ad.add (i.toNat * 4)) = some (.string (rd_T68 xs i).f0) ∧ w.cell? ⟨(ad.add (i.toNat * 4)).block, (ad.add (i.toNat * 4)).off + 1, none⟩ = some (.int .i64 (rd_T68 xs i).f1) ∧ w.cell? ⟨(ad.add (i.toNat * 4)).block, (ad.add (i.toNat * 4)).off + 2, none⟩ = some (.int .i64 (rd_T68 xs i).f2) ∧ w.cell? ⟨(ad.add (i.toNat * 4)).block, (ad.add (i.toNat * 4)).off + 3, none⟩ = some (.bool (rd_T68 xs i).f3) := by
 obtain ⟨ad, c, e, _, hK, hc0⟩ := Kd.C_get h z68 i h0 h1
 have hc : ∀ j u, c[j]? = some u → w.cell? (ad.add (i.toNat * 4 + j)) = some u := hc0
 obtain rfl := k68_open hK
 exact ⟨ad, e, hc 0 _ rfl, by rw [← add_field _ _ 1 (by omega)]; exact hc 1 _ rfl, by rw [← add_field _ _ 2 (by omega)]; exact hc 2 _ rfl, by rw [← add_field _ _ 3 (by omega)]; exact hc 3 _ rfl⟩
def rd_L14 (xs : List (List S68)) (i : Int) : (List S68) := xs.getD i.toNat ([] : List S68)
theorem at_L14 {w : World} {A : Option Addr} {n : Nat} {xs : List (List S68)} (h : Kd.C (Kd.slice 68 k68) w A n xs) (i : Int) (h0 : 0 ≤ i) (h1 : i < n) : ∃ ad A0 c0, A = some ad ∧ w.cell? (ad.add i.toNat) = some (.slice A0 (rd_L14 xs i).length c0) ∧ (rd_L14 xs i).length ≤ c0 ∧ k68.C w A0 (rd_L14 xs i).length (rd_L14 xs i) := by
 obtain ⟨ad, c, e, _, hK, hc0⟩ := Kd.C_get h ([] : List S68) i h0 h1
 have hc : ∀ j u, c[j]? = some u → w.cell? (ad.add (i.toNat * 1 + j)) = some u := hc0
 obtain ⟨A0, c0, rfl, l0, g0⟩ := hK
 exact ⟨ad, A0, c0, e, by have hq := hc 0 _ rfl; rwa [Nat.mul_one, Nat.add_zero] at hq, l0, g0⟩
/-! #### struct type 67 -/
structure S67 where
 f0 : Int
 f1 : (List S68)
deriving DecidableEq
def z67 : S67 := ⟨(0 : Int), ([] : List S68)⟩
def k67 : Kd S67 := Kd.iso (Kd.pair (Kd.int .i64) (Kd.slice 68 k68)) (fun x : S67 => (x.f0, x.f1))
theorem k67_heap : Kd.Heap k67 := Kd.heap_iso _ (Kd.heap_pair (Kd.heap_int .i64) (Kd.heap_slice 68 k68_heap))
theorem k67_open {w : World} {x : S67} {cs : List Value} (h : k67.K w x cs) : ∃ A1 c1, cs = [.int .i64 x.f0, .slice A1 x.f1.length c1] ∧ x.f1.length ≤ c1 ∧ k68.C w A1 x.f1.length x.f1 := by
 obtain ⟨_, _, rfl, rfl, ⟨A1, c1, rfl, l1, g1⟩⟩ := h
 exact ⟨A1, c1, rfl, l1, g1⟩
theorem k67_openM {w : World} {base : Nat} {ok : Nat → Prop} {x : S67} {cs : List Value} (h : k67.M w base ok x cs) : ∃ v1, cs = [.int .i64 x.f0, v1] ∧ k68.R 68 w base ok v1 x.f1 := by
 obtain ⟨_, _, rfl, rfl, ⟨v1, rfl, g1⟩⟩ := h
 exact ⟨v1, rfl, g1⟩
theorem k67_mk (w : World) (x : S67) {A1 : Option Addr} {c1 : Nat} (l1 : x.f1.length ≤ c1) (g1 : k68.C w A1 x.f1.length x.f1) : k67.K w x [.int .i64 x.f0, .slice A1 x.f1.length c1] := ⟨[.int .i64 x.f0], [.slice A1 x.f1.length c1], rfl, rfl, ⟨A1, c1, rfl, l1, g1⟩⟩
theorem k67_mkM (w : World) (base : Nat) (ok : Nat → Prop) (x : S67) {v1 : Value} (g1 : k68.R 68 w base ok v1 x.f1) : k67.M w base ok x [.int .i64 x.f0, v1] := ⟨[.int .i64 x.f0], [v1], rfl, rfl, ⟨v1, rfl, g1⟩⟩
theorem k67_openF {W : World} {ok : Nat → Prop} {x : S67} {cs : List Value} (h : Kd.FK k67 W ok x cs) : ∃ A1 c1, cs = [.int .i64 x.f0, .slice A1 x.f1.length c1] ∧ x.f1.length ≤ c1 ∧ Kd.F k68 W ok A1 x.f1.length x.f1 := by
 obtain ⟨A1, c1, rfl, l1, _⟩ := k67_open (Kd.FK_now h)
 exact ⟨A1, c1, rfl, l1, (fun W' hW => by obtain ⟨A1_, c1_, he, l1_, g1_⟩ := k67_open (h W' hW); injection (Option.some.inj (show some (Value.slice A1 x.f1.length c1) = some (Value.slice A1_ x.f1.length c1_) from congrArg (fun l => l[1]?) he)) with ha_ _ _; rw [ha_]; exact g1_)⟩
theorem k67_mkF (W : World) (ok : Nat → Prop) (x : S67) {A1 : Option Addr} {c1 : Nat} (l1 : x.f1.length ≤ c1) (g1 : Kd.F k68 W ok A1 x.f1.length x.f1) : Kd.FK k67 W ok x [.int .i64 x.f0, .slice A1 x.f1.length c1] := fun W2 hW => k67_mk W2 x l1 (g1 W2 hW)
def rd_T67 (xs : List S67) (i : Int) : S67 := xs.getD i.toNat z67
theorem at_T67 {w : World} {A : Option Addr} {n : Nat} {xs : List S67} (h : Kd.C k67 w A n xs) (i : Int) (h0 : 0 ≤ i) (h1 : i < n) : ∃ ad A1 c1, A = some ad ∧ w.cell? (ad.add (i.toNat * 2)) = some (.int .i64 (rd_T67 xs i).f0) ∧ w.cell? ⟨(ad.add (i.toNat * 2)).block, (ad.add (i.toNat * 2)).off + 1, none⟩ = some (.slice A1 (rd_T67 xs i).f1.length c1) ∧ (rd_T67 xs i).f1.length ≤ c1 ∧ k68.C w A1 (rd_T67 xs i).f1.length (rd_T67 xs i).f1 := by
 obtain ⟨ad, c, e, _, hK, hc0⟩ := Kd.C_get h z67 i h0 h1
 have hc : ∀ j u, c[j]? = some u → w.cell? (ad.add (i.toNat * 2 + j)) = some u := hc0
 obtain ⟨A1, c1, rfl, l1, g1⟩ := k67_open hK
 exact ⟨ad, A1, c1, e, hc 0 _ rfl, by rw [← add_field _ _ 1 (by omega)]; exact hc 1 _ rfl, l1, g1⟩
def rd_L16 (xs : List (List S67)) (i : Int) : (List S67) := xs.getD i.toNat ([] : List S67)
theorem at_L16 {w : World} {A : Option Addr} {n : Nat} {xs : List (List S67)} (h : Kd.C (Kd.slice 67 k67) w A n xs) (i : Int) (h0 : 0 ≤ i) (h1 : i < n) : ∃ ad A0 c0, A = some ad ∧ w.cell? (ad.add i.toNat) = some (.slice A0 (rd_L16 xs i).length c0) ∧ (rd_L16 xs i).length ≤ c0 ∧ k67.C w A0 (rd_L16 xs i).length (rd_L16 xs i) := by
 obtain ⟨ad, c, e, _, hK, hc0⟩ := Kd.C_get h ([] : List S67) i h0 h1
 have hc : ∀ j u, c[j]? = some u → w.cell? (ad.add (i.toNat * 1 + j)) = some u := hc0
 obtain ⟨A0, c0, rfl, l0, g0⟩ := hK
 exact ⟨ad, A0, c0, e, by have hq := hc 0 _ rfl; rwa [Nat.mul_one, Nat.add_zero] at hq, l0, g0⟩
def rd_L17 (xs : List (List (List Bool))) (i : Int) : (List (List Bool)) := xs.getD i.toNat ([] : List (List Bool))
theorem at_L17 {w : World} {A : Option Addr} {n : Nat} {xs : List (List (List Bool))} (h : Kd.C (Kd.slice 41 (Kd.slice 4 Kd.bool)) w A n xs) (i : Int) (h0 : 0 ≤ i) (h1 : i < n) : ∃ ad A0 c0, A = some ad ∧ w.cell? (ad.add i.toNat) = some (.slice A0 (rd_L17 xs i).length c0) ∧ (rd_L17 xs i).length ≤ c0 ∧ (Kd.slice 4 Kd.bool).C w A0 (rd_L17 xs i).length (rd_L17 xs i) := by
 obtain ⟨ad, c, e, _, hK, hc0⟩ := Kd.C_get h ([] : List (List Bool)) i h0 h1
 have hc : ∀ j u, c[j]? = some u → w.cell? (ad.add (i.toNat * 1 + j)) = some u := hc0
 obtain ⟨A0, c0, rfl, l0, g0⟩ := hK
 exact ⟨ad, A0, c0, e, by have hq := hc 0 _ rfl; rwa [Nat.mul_one, Nat.add_zero] at hq, l0, g0⟩
/-- a function value: what it answers -/
abbrev OnFn := Int → Option Bool
def OnCall.f (on : OnFn) (n : Int) : Option Bool := on n
theorem blt_ {w : World} {a : Addr} {v : Value} (h : w.cell? a = some v) : a.block < w.heap.size := World.block_lt_of_cell? w a h
end Go.Proofs.Ytnepgcbgkhikkaa.H
namespace Go.Proofs.Ytnepgcbgkhikkaa.H
/-- The structs are printed in YtnepgcbgkhikkaaQ0. -/
theorem types_lie : True := trivial
end Go.Proofs.Ytnepgcbgkhikkaa.H
namespace Go.Proofs.Ytnepgcbgkhikkaa.H
/-- is a name one of some -/
def mem (s : ByteArray) (l : List ByteArray) : Bool := l.any fun x => decide (s = x)
theorem mem_iff {s : ByteArray} {l : List ByteArray} : mem s l = true ↔ s ∈ l := by simp [mem]
end Go.Proofs.Ytnepgcbgkhikkaa.H
namespace Go.Proofs.Ytnepgcbgkhikkaa.H
open Go.RowKit Go.Proofs.YtnepgcbgkhikkaaW.PrintWords
set_option linter.unusedVariables false
theorem lib_ba_eq {a b : ByteArray} : (a.toList = b.toList) ↔ a = b := by
  constructor
  · intro h
    have h1 : a.data.toList = b.data.toList := by
      have := congrArg id h
      rwa [ByteArray.toList_eq, ByteArray.toList_eq] at this
    cases a; cases b; simp_all
  · rintro rfl; rfl
theorem drop_end {α : Type} {l : List α} {n : Nat} (h : l.drop n = []) : ¬ (n : Int) < (l.length : Int) := by
  have := congrArg List.length h
  simp at this
  omega
theorem drop_more {α : Type} {l : List α} {n : Nat} {y : α} {r : List α} (h : l.drop n = y :: r) (hl : l.length ≤ 9223372036854775807) :
    (n : Int) < (l.length : Int) ∧ (0 : Int) ≤ (n : Int) ∧ (∀ d, l.getD (n : Int).toNat d = y) ∧ l.drop (n + 1) = r ∧ wrap64 ((n : Int) + 1) = ((n + 1 : Nat) : Int) := by
  have h1 := congrArg List.length h
  simp at h1
  have h2 : l.drop (n + 1) = r := by
    have := congrArg (List.drop 1) h
    simpa [List.drop_drop, Nat.add_comm] using this
  have h3 : l[n]? = some y := by
    have := congrArg (fun z => z[0]?) h
    simpa using this
  refine ⟨by omega, by omega, fun d => ?_, h2, ?_⟩
  · rw [Int.toNat_natCast, List.getD_eq_getElem?_getD, h3]; rfl
  · unfold wrap64; omega
theorem at_more {α : Type} {l : List α} {n : Nat} (h : n < l.length) : ∃ y r, l.drop n = y :: r ∧ l[n]? = some y :=
  ⟨l[n], l.drop (n + 1), List.drop_eq_getElem_cons h, List.getElem?_eq_getElem h⟩
theorem getD_at {α : Type} {l : List α} {n : Nat} {y : α} (h : l[n]? = some y) (d : α) : l.getD (n : Int).toNat d = y := by
  rw [Int.toNat_natCast, List.getD_eq_getElem?_getD, h]; rfl
theorem wrap_up {n : Nat} (h : n < 9223372036854775807) : wrap64 ((n : Int) + 1) = ((n + 1 : Nat) : Int) := by unfold wrap64; omega
theorem ite_t {α : Type} {c : Prop} [Decidable c] (h : c) (a b : α) : (if c then a else b) = a := if_pos h
theorem Ev.iff {α : Type} {g : Nat → Option α} {r r' : α} (h : Ev g r) (e : r = r') : Ev g r' := e ▸ h
theorem Ev.some {α : Type} {r r' : α} (e : r = r') : Ev (fun _ => some r) r' := e ▸ Ev.now r
theorem Ev.pure {α β : Type} {o : Option α} {f : Nat → α → Option β} {a : α} {r : β} (h : o = .some a) (k : Ev (fun n => f n a) r) : Ev (fun n => o.bind (f n)) r := by
  subst h; exact k
theorem Ev.pos {α : Type} {c : Prop} [Decidable c] {g f : Nat → Option α} {r : α} (h : c) (k : Ev g r) : Ev (fun n => if c then g n else f n) r := by
  simp only [if_pos h]; exact k
theorem Ev.neg {α : Type} {c : Prop} [Decidable c] {g f : Nat → Option α} {r : α} (h : ¬ c) (k : Ev f r) : Ev (fun n => if c then g n else f n) r := by
  simp only [if_neg h]; exact k
theorem Ev.cases {α : Type} {c : Prop} [Decidable c] {g f : Nat → Option α} {r r' : α} (h1 : c → Ev g r) (h2 : ¬ c → Ev f r') : Ev (fun n => if c then g n else f n) (if c then r else r') := by
  by_cases h : c
  · simp only [if_pos h]; exact h1 h
  · simp only [if_neg h]; exact h2 h
end Go.Proofs.Ytnepgcbgkhikkaa.H
namespace Go.Proofs.Ytnepgcbgkhikkaa.H
open Go.RowKit Go.Proofs.YtnepgcbgkhikkaaW.PrintWords Go.Proofs.YtnepgcbgkhikkaaW.PrintLast Go.Proofs.YtnepgcbgkhikkaaW.PrintMore
attribute [local go_sem] max2_int min2_int max_two min_two max_three min_three max_four min_four
set_option linter.unusedVariables false
set_option linter.unusedSimpArgs false
def lambrequinref09_In.l0 : Nat → List ByteArray → ByteArray → Int → Option (Bool)
 | 0, _, _, _ => none
 | k + 1, x0, x1, x5 => if x5 < (x0.length : Int) then (if 0 ≤ x5 then (if (rdOf ByteArray.empty x0 x5).toList = x1.toList then (some true) else (lambrequinref09_In.l0 k x0 x1 (wrap64 (x5 + 1)))) else (none)) else (some false)
def lambrequinref09_In.f (k : Nat) (l0 : List ByteArray) (a1 : ByteArray) : Option (Bool) := lambrequinref09_In.l0 k l0 a1 0
theorem lambrequinref09_In.mono_l : ∀ k, (∀ y0 y1 y2, LeO (lambrequinref09_In.l0 k y0 y1 y2) (lambrequinref09_In.l0 (k + 1) y0 y1 y2))
 | 0 => fun _ _ _ r h => by simp [lambrequinref09_In.l0] at h
 | k + 1 => by
  have ih0 := lambrequinref09_In.mono_l k
  ·intro y0 y1 y2
   unfold lambrequinref09_In.l0
   repeat' first
   | (with_reducible exact ih0 _ _ _)
   | (with_reducible exact LeO.refl _)
   | (with_reducible exact LeO.none _)
   | (with_reducible refine LeO.ite ?_ ?_)
   | (with_reducible refine LeO.bind ?_ (fun _ => ?_))
   | exact ih0 _ _ _
   | exact LeO.none _
   | refine LeO.ite ?_ ?_
   | refine LeO.bind ?_ (fun _ => ?_)
theorem lambrequinref09_In.mono : ∀ a0 a1 k, LeO (lambrequinref09_In.f k a0 a1) (lambrequinref09_In.f (k + 1) a0 a1) := by
 intro a0 a1 k
 have ih0 := lambrequinref09_In.mono_l k
 unfold lambrequinref09_In.f
 repeat' first
   | (with_reducible exact ih0 _ _ _)
   | (with_reducible exact LeO.refl _)
   | (with_reducible exact LeO.none _)
   | (with_reducible refine LeO.ite ?_ ?_)
   | (with_reducible refine LeO.bind ?_ (fun _ => ?_))
   | exact ih0 _ _ _
   | exact LeO.none _
   | refine LeO.ite ?_ ?_
   | refine LeO.bind ?_ (fun _ => ?_)
set_option maxHeartbeats 8000000 in
set_option maxRecDepth 100000 in
theorem lambrequinref09_In.calls (k : Nat) (A0 : Option Addr) (c0 : Nat) (l0 : List ByteArray) (a1 : ByteArray) (r : Bool) (w : World) (hr0 : Kd.C Kd.string w A0 l0.length l0) (hc0 : l0.length ≤ c0) (h : lambrequinref09_In.f k l0 a1 = some r) :
  Calls Try.prog 21 #[.slice A0 l0.length c0, .string a1] w fun e w' => e = .returned (.bool r) ∧ Drawn0 w w' := by
 have HR0 := Aside0.mk hr0
 have HC0 := Aside0.mk hc0
 clear hr0 hc0
 have H : (lambrequinref09_In.l0 k l0 a1 0) = some r := h
 clear h
 have H' := Aside0.mk H
 clear H
 go_enter Try.func21, Try.ntmps21
 go_wp2
 go_loopg [5] k (fun kq v5 w' => ∃ (x5_1 : Int), v5 = .int .i64 x5_1 ∧ Aside0 (lambrequinref09_In.l0 kq l0 a1 x5_1 = some r) ∧ Aside0 (kq ≤ k) ∧ Drawn0 w w')
 case atStart => exact ⟨(0), (by first | rfl | (simp; done) | (simp [*]; done)), H', ⟨Nat.le_refl _⟩, by repeat (first | exact Drawn0.refl _ | apply Drawn0.step)⟩
 case round =>
  clear H'
  try clear c2
  try clear p2
  obtain ⟨x5_1, rfl, HA, HK1, ⟨m1, rfl⟩⟩ := hrel
  cases gk with
  | zero => exact absurd HA.out (by simp [lambrequinref09_In.l0])
  | succ k1 =>
   have H := HA.out
   clear HA
   simp only [lambrequinref09_In.l0] at H
   by_cases c3 : x5_1 < (l0.length : Int)
   ·rw [if_pos c3] at H
    have c3b0 : decide (x5_1 < (l0.length : Int)) = true := decide_eq_true c3
    clear c3
    by_cases c4 : 0 ≤ x5_1
    ·rw [if_pos c4] at H
     have c4b0 : decide (0 ≤ x5_1) = true := decide_eq_true c4
     clear c4
     by_cases c5 : (rdOf ByteArray.empty l0 x5_1).toList = a1.toList
     ·rw [if_pos c5] at H
      have c5b0 : ((rdOf ByteArray.empty l0 x5_1).toList == a1.toList) = true := beq_iff_eq.mpr c5
      have c5b1 : ((rdOf ByteArray.empty l0 x5_1).toList != a1.toList) = false := bne_eq_false_iff_eq.mpr c5
      clear c5
      obtain rfl := Option.some.inj H
      have p101 : 0 ≤ (x5_1 : Int) := of_decide_eq_true (by first | (with_reducible assumption) | assumption)
      have q101 : x5_1 < (l0.length : Int) := of_decide_eq_true (by first | (with_reducible assumption) | assumption)
      obtain ⟨ad101, e101, hx101_0⟩ := Kd.at_string HR0.out x5_1 p101 q101
      cases e101
      replace p101 := eq_true p101
      replace q101 := eq_true q101
      go_wp2
      go_ret
      exact ⟨by first | rfl | (simp; done) | (simp [*]; done), by repeat (first | exact Drawn0.refl _ | apply Drawn0.step)⟩
     ·rw [if_neg c5] at H
      have c5b0 : ((rdOf ByteArray.empty l0 x5_1).toList == a1.toList) = false := beq_eq_false_iff_ne.mpr c5
      have c5b1 : ((rdOf ByteArray.empty l0 x5_1).toList != a1.toList) = true := bne_iff_ne.mpr c5
      have H' := Aside0.mk H
      clear H
      have p101 : 0 ≤ (x5_1 : Int) := of_decide_eq_true (by first | (with_reducible assumption) | assumption)
      have q101 : x5_1 < (l0.length : Int) := of_decide_eq_true (by first | (with_reducible assumption) | assumption)
      obtain ⟨ad101, e101, hx101_0⟩ := Kd.at_string HR0.out x5_1 p101 q101
      cases e101
      replace p101 := eq_true p101
      replace q101 := eq_true q101
      go_wp2
      go_roundg k1
      case measure => have := HK1.out; omega
      case rel => exact ⟨(wrap64 (x5_1 + 1)), (by first | rfl | (simp; done) | (simp [*]; done)), H', ⟨by have := HK1.out; omega⟩, by repeat (first | exact Drawn0.refl _ | apply Drawn0.step)⟩
    ·rw [if_neg c4] at H
     exact absurd H (by simp)
   ·rw [if_neg c3] at H
    have c3b0 : decide (x5_1 < (l0.length : Int)) = false := decide_eq_false c3
    clear c3
    obtain rfl := Option.some.inj H
    go_wp2
    go_ret
    exact ⟨by first | rfl | (simp; done) | (simp [*]; done), by repeat (first | exact Drawn0.refl _ | apply Drawn0.step)⟩
end Go.Proofs.Ytnepgcbgkhikkaa.H
namespace Go.Proofs.Ytnepgcbgkhikkaa.H
open Go.RowKit Go.Proofs.YtnepgcbgkhikkaaW.PrintWords Go.Proofs.YtnepgcbgkhikkaaW.PrintLast Go.Proofs.YtnepgcbgkhikkaaW.PrintMore
attribute [local go_sem] max2_int min2_int max_two min_two max_three min_three max_four min_four
set_option linter.unusedVariables false
set_option linter.unusedSimpArgs false
def lambrequinref10_Ints.l0 : Nat → List Int → List Int → Int → Option (Bool)
 | 0, _, _, _ => none
 | k + 1, x0, x1, x5 => if x5 < (x0.length : Int) then (if 0 ≤ x5 then (if x5 < (x1.length : Int) then (if (rd x0 x5) = (rd x1 x5) then (lambrequinref10_Ints.l0 k x0 x1 (wrap64 (x5 + 1))) else (some false)) else (none)) else (none)) else (some true)
def lambrequinref10_Ints.f (k : Nat) (l0 : List Int) (l1 : List Int) : Option (Bool) := if (l0.length : Int) = (l1.length : Int) then (lambrequinref10_Ints.l0 k l0 l1 0) else (some false)
theorem lambrequinref10_Ints.mono_l : ∀ k, (∀ y0 y1 y2, LeO (lambrequinref10_Ints.l0 k y0 y1 y2) (lambrequinref10_Ints.l0 (k + 1) y0 y1 y2))
 | 0 => fun _ _ _ r h => by simp [lambrequinref10_Ints.l0] at h
 | k + 1 => by
  have ih0 := lambrequinref10_Ints.mono_l k
  ·intro y0 y1 y2
   unfold lambrequinref10_Ints.l0
   repeat' first
   | (with_reducible exact ih0 _ _ _)
   | (with_reducible exact LeO.refl _)
   | (with_reducible exact LeO.none _)
   | (with_reducible refine LeO.ite ?_ ?_)
   | (with_reducible refine LeO.bind ?_ (fun _ => ?_))
   | exact ih0 _ _ _
   | exact LeO.none _
   | refine LeO.ite ?_ ?_
   | refine LeO.bind ?_ (fun _ => ?_)
theorem lambrequinref10_Ints.mono : ∀ a0 a1 k, LeO (lambrequinref10_Ints.f k a0 a1) (lambrequinref10_Ints.f (k + 1) a0 a1) := by
 intro a0 a1 k
 have ih0 := lambrequinref10_Ints.mono_l k
 unfold lambrequinref10_Ints.f
 repeat' first
   | (with_reducible exact ih0 _ _ _)
   | (with_reducible exact LeO.refl _)
   | (with_reducible exact LeO.none _)
   | (with_reducible refine LeO.ite ?_ ?_)
   | (with_reducible refine LeO.bind ?_ (fun _ => ?_))
   | exact ih0 _ _ _
   | exact LeO.none _
   | refine LeO.ite ?_ ?_
   | refine LeO.bind ?_ (fun _ => ?_)
set_option maxHeartbeats 8000000 in
set_option maxRecDepth 100000 in
theorem lambrequinref10_Ints.calls (k : Nat) (A0 : Option Addr) (c0 : Nat) (l0 : List Int) (A1 : Option Addr) (c1 : Nat) (l1 : List Int) (r : Bool) (w : World) (hr0 : Kd.C (Kd.int .i64) w A0 l0.length l0) (hc0 : l0.length ≤ c0) (hr1 : Kd.C (Kd.int .i64) w A1 l1.length l1) (hc1 : l1.length ≤ c1) (h : lambrequinref10_Ints.f k l0 l1 = some r) :
  Calls Try.prog 26 #[.slice A0 l0.length c0, .slice A1 l1.length c1] w fun e w' => e = .returned (.bool r) ∧ Drawn0 w w' := by
 have HR0 := Aside0.mk hr0
 have HC0 := Aside0.mk hc0
 clear hr0 hc0
 have HR1 := Aside0.mk hr1
 have HC1 := Aside0.mk hc1
 clear hr1 hc1
 have H : (if (l0.length : Int) = (l1.length : Int) then (lambrequinref10_Ints.l0 k l0 l1 0) else (some false)) = some r := h
 clear h
 by_cases c3 : (l0.length : Int) = (l1.length : Int)
 ·rw [if_pos c3] at H
  have c3b0 : ((l0.length : Int) == (l1.length : Int)) = true := beq_iff_eq.mpr c3
  have c3b1 : ((l0.length : Int) != (l1.length : Int)) = false := bne_eq_false_iff_eq.mpr c3
  have c3b2 : (l0.length == l1.length) = true := by first | simpa using c3 | (simp at c3 ⊢; omega)
  clear c3
  have H' := Aside0.mk H
  clear H
  go_enter Try.func26, Try.ntmps26
  go_wp2
  repeat (go_quiet (fail); try go_wp2)
  go_loopg [5] k (fun kq v5 w' => ∃ (x5_1 : Int), v5 = .int .i64 x5_1 ∧ Aside0 (lambrequinref10_Ints.l0 kq l0 l1 x5_1 = some r) ∧ Aside0 (kq ≤ k) ∧ Drawn0 w w')
  case atStart => exact ⟨(0), (by first | rfl | (simp; done) | (simp [*]; done)), H', ⟨Nat.le_refl _⟩, by repeat (first | exact Drawn0.refl _ | apply Drawn0.step)⟩
  case round =>
   clear H'
   try clear c1
   try clear c2
   try clear p2
   try clear c3
   try clear c3b0
   try clear c3b1
   try clear c3b2
   obtain ⟨x5_1, rfl, HA, HK1, ⟨m1, rfl⟩⟩ := hrel
   cases gk with
   | zero => exact absurd HA.out (by simp [lambrequinref10_Ints.l0])
   | succ k1 =>
    have H := HA.out
    clear HA
    simp only [lambrequinref10_Ints.l0] at H
    by_cases c4 : x5_1 < (l0.length : Int)
    ·rw [if_pos c4] at H
     have c4b0 : decide (x5_1 < (l0.length : Int)) = true := decide_eq_true c4
     clear c4
     by_cases c5 : 0 ≤ x5_1
     ·rw [if_pos c5] at H
      have c5b0 : decide (0 ≤ x5_1) = true := decide_eq_true c5
      clear c5
      by_cases c6 : x5_1 < (l1.length : Int)
      ·rw [if_pos c6] at H
       have c6b0 : decide (x5_1 < (l1.length : Int)) = true := decide_eq_true c6
       clear c6
       by_cases c7 : (rd l0 x5_1) = (rd l1 x5_1)
       ·rw [if_pos c7] at H
        have c7b0 : ((rd l0 x5_1) == (rd l1 x5_1)) = true := beq_iff_eq.mpr c7
        have c7b1 : ((rd l0 x5_1) != (rd l1 x5_1)) = false := bne_eq_false_iff_eq.mpr c7
        clear c7
        have H' := Aside0.mk H
        clear H
        have p101 : 0 ≤ (x5_1 : Int) := of_decide_eq_true (by first | (with_reducible assumption) | assumption)
        have q101 : x5_1 < (l0.length : Int) := of_decide_eq_true (by first | (with_reducible assumption) | assumption)
        obtain ⟨ad101, e101, hx101_0⟩ := Kd.at_int HR0.out x5_1 p101 q101
        cases e101
        replace p101 := eq_true p101
        replace q101 := eq_true q101
        have p102 : 0 ≤ (x5_1 : Int) := of_decide_eq_true (by first | (with_reducible assumption) | assumption)
        have q102 : x5_1 < (l1.length : Int) := of_decide_eq_true (by first | (with_reducible assumption) | assumption)
        obtain ⟨ad102, e102, hx102_0⟩ := Kd.at_int HR1.out x5_1 p102 q102
        cases e102
        replace p102 := eq_true p102
        replace q102 := eq_true q102
        go_wp2
        repeat (go_quiet (fail); try go_wp2)
        go_roundg k1
        case measure => have := HK1.out; omega
        case rel => exact ⟨(wrap64 (x5_1 + 1)), (by first | rfl | (simp; done) | (simp [*]; done)), H', ⟨by have := HK1.out; omega⟩, by repeat (first | exact Drawn0.refl _ | apply Drawn0.step)⟩
       ·rw [if_neg c7] at H
        have c7b0 : ((rd l0 x5_1) == (rd l1 x5_1)) = false := beq_eq_false_iff_ne.mpr c7
        have c7b1 : ((rd l0 x5_1) != (rd l1 x5_1)) = true := bne_iff_ne.mpr c7
        obtain rfl := Option.some.inj H
        have p101 : 0 ≤ (x5_1 : Int) := of_decide_eq_true (by first | (with_reducible assumption) | assumption)
        have q101 : x5_1 < (l0.length : Int) := of_decide_eq_true (by first | (with_reducible assumption) | assumption)
        obtain ⟨ad101, e101, hx101_0⟩ := Kd.at_int HR0.out x5_1 p101 q101
        cases e101
        replace p101 := eq_true p101
        replace q101 := eq_true q101
        have p102 : 0 ≤ (x5_1 : Int) := of_decide_eq_true (by first | (with_reducible assumption) | assumption)
        have q102 : x5_1 < (l1.length : Int) := of_decide_eq_true (by first | (with_reducible assumption) | assumption)
        obtain ⟨ad102, e102, hx102_0⟩ := Kd.at_int HR1.out x5_1 p102 q102
        cases e102
        replace p102 := eq_true p102
        replace q102 := eq_true q102
        go_wp2
        repeat (go_quiet (fail); try go_wp2)
        go_ret
        exact ⟨by first | rfl | (simp; done) | (simp [*]; done), by repeat (first | exact Drawn0.refl _ | apply Drawn0.step)⟩
      ·rw [if_neg c6] at H
       exact absurd H (by simp)
     ·rw [if_neg c5] at H
      exact absurd H (by simp)
    ·rw [if_neg c4] at H
     have c4b0 : decide (x5_1 < (l0.length : Int)) = false := decide_eq_false c4
     clear c4
     obtain rfl := Option.some.inj H
     go_wp2
     repeat (go_quiet (fail); try go_wp2)
     go_ret
     exact ⟨by first | rfl | (simp; done) | (simp [*]; done), by repeat (first | exact Drawn0.refl _ | apply Drawn0.step)⟩
 ·rw [if_neg c3] at H
  have c3b0 : ((l0.length : Int) == (l1.length : Int)) = false := beq_eq_false_iff_ne.mpr c3
  have c3b1 : ((l0.length : Int) != (l1.length : Int)) = true := bne_iff_ne.mpr c3
  have c3b2 : (l0.length == l1.length) = false := by first | simpa using c3 | (simp at c3 ⊢; omega)
  obtain rfl := Option.some.inj H
  go_enter Try.func26, Try.ntmps26
  go_wp2
  repeat (go_quiet (fail); try go_wp2)
  go_ret
  exact ⟨by first | rfl | (simp; done) | (simp [*]; done), by repeat (first | exact Drawn0.refl _ | apply Drawn0.step)⟩
end Go.Proofs.Ytnepgcbgkhikkaa.H
namespace Go.Proofs.Ytnepgcbgkhikkaa.H
open Go.RowKit Go.Proofs.YtnepgcbgkhikkaaW.PrintWords Go.Proofs.YtnepgcbgkhikkaaW.PrintLast Go.Proofs.YtnepgcbgkhikkaaW.PrintMore
attribute [local go_sem] max2_int min2_int max_two min_two max_three min_three max_four min_four
set_option linter.unusedVariables false
set_option linter.unusedSimpArgs false
def slices_Index_string_string.l0 : Nat → List ByteArray → ByteArray → Int → Int → Option (Int)
 | 0, _, _, _, _ => none
 | k + 1, x0, x1, x7, x8 => if x8 < x7 then (if 0 ≤ x8 then (if x8 < (x0.length : Int) then (if x1.toList = (rdOf ByteArray.empty x0 x8).toList then (some x8) else (slices_Index_string_string.l0 k x0 x1 x7 (wrap64 (x8 + 1)))) else (none)) else (none)) else (some (-1))
def slices_Index_string_string.f (k : Nat) (l0 : List ByteArray) (a1 : ByteArray) : Option (Int) := slices_Index_string_string.l0 k l0 a1 (l0.length : Int) 0
theorem slices_Index_string_string.mono_l : ∀ k, (∀ y0 y1 y2 y3, LeO (slices_Index_string_string.l0 k y0 y1 y2 y3) (slices_Index_string_string.l0 (k + 1) y0 y1 y2 y3))
 | 0 => fun _ _ _ _ r h => by simp [slices_Index_string_string.l0] at h
 | k + 1 => by
  have ih0 := slices_Index_string_string.mono_l k
  ·intro y0 y1 y2 y3
   unfold slices_Index_string_string.l0
   repeat' first
   | (with_reducible exact ih0 _ _ _ _)
   | (with_reducible exact LeO.refl _)
   | (with_reducible exact LeO.none _)
   | (with_reducible refine LeO.ite ?_ ?_)
   | (with_reducible refine LeO.bind ?_ (fun _ => ?_))
   | exact ih0 _ _ _ _
   | exact LeO.none _
   | refine LeO.ite ?_ ?_
   | refine LeO.bind ?_ (fun _ => ?_)
theorem slices_Index_string_string.mono : ∀ a0 a1 k, LeO (slices_Index_string_string.f k a0 a1) (slices_Index_string_string.f (k + 1) a0 a1) := by
 intro a0 a1 k
 have ih0 := slices_Index_string_string.mono_l k
 unfold slices_Index_string_string.f
 repeat' first
   | (with_reducible exact ih0 _ _ _ _)
   | (with_reducible exact LeO.refl _)
   | (with_reducible exact LeO.none _)
   | (with_reducible refine LeO.ite ?_ ?_)
   | (with_reducible refine LeO.bind ?_ (fun _ => ?_))
   | exact ih0 _ _ _ _
   | exact LeO.none _
   | refine LeO.ite ?_ ?_
   | refine LeO.bind ?_ (fun _ => ?_)
set_option maxHeartbeats 8000000 in
set_option maxRecDepth 100000 in
theorem slices_Index_string_string.calls (k : Nat) (A0 : Option Addr) (c0 : Nat) (l0 : List ByteArray) (a1 : ByteArray) (r : Int) (w : World) (hr0 : Kd.C Kd.string w A0 l0.length l0) (hc0 : l0.length ≤ c0) (h : slices_Index_string_string.f k l0 a1 = some r) :
  Calls Try.prog 59 #[.slice A0 l0.length c0, .string a1] w fun e w' => e = .returned (.int .i64 r) ∧ Drawn0 w w' := by
 have HR0 := Aside0.mk hr0
 have HC0 := Aside0.mk hc0
 clear hr0 hc0
 have H : (slices_Index_string_string.l0 k l0 a1 (l0.length : Int) 0) = some r := h
 clear h
 have H' := Aside0.mk H
 clear H
 go_enter Try.func59, Try.ntmps59
 go_wp2
 go_loopg [8] k (fun kq v8 w' => ∃ (x8_1 : Int), v8 = .int .i64 x8_1 ∧ Aside0 (slices_Index_string_string.l0 kq l0 a1 (l0.length : Int) x8_1 = some r) ∧ Aside0 (kq ≤ k) ∧ Drawn0 w w')
 case atStart => exact ⟨(0), (by first | rfl | (simp; done) | (simp [*]; done)), H', ⟨Nat.le_refl _⟩, by repeat (first | exact Drawn0.refl _ | apply Drawn0.step)⟩
 case round =>
  clear H'
  try clear p2
  obtain ⟨x8_1, rfl, HA, HK1, ⟨m1, rfl⟩⟩ := hrel
  cases gk with
  | zero => exact absurd HA.out (by simp [slices_Index_string_string.l0])
  | succ k1 =>
   have H := HA.out
   clear HA
   simp only [slices_Index_string_string.l0] at H
   by_cases c3 : x8_1 < (l0.length : Int)
   ·rw [if_pos c3] at H
    have c3b0 : decide (x8_1 < (l0.length : Int)) = true := decide_eq_true c3
    clear c3
    by_cases c4 : 0 ≤ x8_1
    ·rw [if_pos c4] at H
     have c4b0 : decide (0 ≤ x8_1) = true := decide_eq_true c4
     clear c4
     by_cases c5 : x8_1 < (l0.length : Int)
     ·rw [if_pos c5] at H
      have c5b0 : decide (x8_1 < (l0.length : Int)) = true := decide_eq_true c5
      clear c5
      by_cases c6 : a1.toList = (rdOf ByteArray.empty l0 x8_1).toList
      ·rw [if_pos c6] at H
       have c6b0 : (a1.toList == (rdOf ByteArray.empty l0 x8_1).toList) = true := beq_iff_eq.mpr c6
       have c6b1 : (a1.toList != (rdOf ByteArray.empty l0 x8_1).toList) = false := bne_eq_false_iff_eq.mpr c6
       clear c6
       obtain rfl := Option.some.inj H
       have p101 : 0 ≤ (x8_1 : Int) := of_decide_eq_true (by first | (with_reducible assumption) | assumption)
       have q101 : x8_1 < (l0.length : Int) := of_decide_eq_true (by first | (with_reducible assumption) | assumption)
       obtain ⟨ad101, e101, hx101_0⟩ := Kd.at_string HR0.out x8_1 p101 q101
       cases e101
       replace p101 := eq_true p101
       replace q101 := eq_true q101
       go_wp2
       go_ret
       exact ⟨by first | rfl | (simp; done) | (simp [*]; done), by repeat (first | exact Drawn0.refl _ | apply Drawn0.step)⟩
      ·rw [if_neg c6] at H
       have c6b0 : (a1.toList == (rdOf ByteArray.empty l0 x8_1).toList) = false := beq_eq_false_iff_ne.mpr c6
       have c6b1 : (a1.toList != (rdOf ByteArray.empty l0 x8_1).toList) = true := bne_iff_ne.mpr c6
       have H' := Aside0.mk H
       clear H
       have p101 : 0 ≤ (x8_1 : Int) := of_decide_eq_true (by first | (with_reducible assumption) | assumption)
       have q101 : x8_1 < (l0.length : Int) := of_decide_eq_true (by first | (with_reducible assumption) | assumption)
       obtain ⟨ad101, e101, hx101_0⟩ := Kd.at_string HR0.out x8_1 p101 q101
       cases e101
       replace p101 := eq_true p101
       replace q101 := eq_true q101
       go_wp2
       go_roundg k1
       case measure => have := HK1.out; omega
       case rel => exact ⟨(wrap64 (x8_1 + 1)), (by first | rfl | (simp; done) | (simp [*]; done)), H', ⟨by have := HK1.out; omega⟩, by repeat (first | exact Drawn0.refl _ | apply Drawn0.step)⟩
     ·rw [if_neg c5] at H
      exact absurd H (by simp)
    ·rw [if_neg c4] at H
     exact absurd H (by simp)
   ·rw [if_neg c3] at H
    have c3b0 : decide (x8_1 < (l0.length : Int)) = false := decide_eq_false c3
    clear c3
    obtain rfl := Option.some.inj H
    go_wp2
    go_ret
    exact ⟨by first | rfl | (simp; done) | (simp [*]; done), by repeat (first | exact Drawn0.refl _ | apply Drawn0.step)⟩
end Go.Proofs.Ytnepgcbgkhikkaa.H
namespace Go.Proofs.Ytnepgcbgkhikkaa.H
open Go.RowKit Go.Proofs.YtnepgcbgkhikkaaW.PrintWords Go.Proofs.YtnepgcbgkhikkaaW.PrintLast Go.Proofs.YtnepgcbgkhikkaaW.PrintMore
attribute [local go_sem] max2_int min2_int max_two min_two max_three min_three max_four min_four
set_option linter.unusedVariables false
set_option linter.unusedSimpArgs false
def slices_Contains_string_string.f (k : Nat) (l0 : List ByteArray) (a1 : ByteArray) : Option (Bool) := (slices_Index_string_string.f k l0 a1).bind fun t101 => (some (decide (t101 ≥ 0)))
theorem slices_Contains_string_string.mono : ∀ a0 a1 k, LeO (slices_Contains_string_string.f k a0 a1) (slices_Contains_string_string.f (k + 1) a0 a1) := by
 intro a0 a1 k
 unfold slices_Contains_string_string.f
 repeat' first
   | (with_reducible exact slices_Index_string_string.mono _ _ _)
   | (with_reducible exact LeO.refl _)
   | (with_reducible exact LeO.none _)
   | (with_reducible refine LeO.ite ?_ ?_)
   | (with_reducible refine LeO.bind ?_ (fun _ => ?_))
   | exact slices_Index_string_string.mono _ _ _
   | exact LeO.none _
   | refine LeO.ite ?_ ?_
   | refine LeO.bind ?_ (fun _ => ?_)
set_option maxHeartbeats 8000000 in
set_option maxRecDepth 100000 in
theorem slices_Contains_string_string.calls (k : Nat) (A0 : Option Addr) (c0 : Nat) (l0 : List ByteArray) (a1 : ByteArray) (r : Bool) (w : World) (hr0 : Kd.C Kd.string w A0 l0.length l0) (hc0 : l0.length ≤ c0) (h : slices_Contains_string_string.f k l0 a1 = some r) :
  Calls Try.prog 46 #[.slice A0 l0.length c0, .string a1] w fun e w' => e = .returned (.bool r) ∧ Drawn0 w w' := by
 have HR0 := Aside0.mk hr0
 have HC0 := Aside0.mk hc0
 clear hr0 hc0
 have H : ((slices_Index_string_string.f k l0 a1).bind fun t101 => (some (decide (t101 ≥ 0)))) = some r := h
 clear h
 replace H := Option.bind_eq_some_iff.mp H
 obtain ⟨t101, A30, H⟩ := H
 replace H : (some (decide (t101 ≥ 0))) = some r := H
 have A3 := Aside0.mk A30
 clear A30
 obtain rfl := Option.some.inj H
 go_enter Try.func46, Try.ntmps46
 go_wp2_with (first | ((with_reducible refine gate_callee (f := 59) rfl ?_); refine goesL_ (some 7) rfl rfl Try.func59 (by kernel_rfl) rfl #[.slice A0 l0.length c0, .string a1] rfl (by (try simp only [List.map_toArray, List.map_cons, List.map_nil]); first | done | rfl | (simp only [List.length_drop, List.length_take]; rfl)) ?_; (with_reducible refine (slices_Index_string_string.calls k _ _ l0 a1 t101 _ ?side1 ?side2 A3.out).mono ?_); (case side1 => repeat (first | exact HR0.out | (with_reducible refine Kd.C_alloc ?_ _) | (with_reducible refine Kd.C_drewN ?_ _) | (with_reducible refine Kd.C_drew ?_))); (case side2 => exact HC0.out); rintro e w' ⟨rfl, ⟨nd, rfl⟩⟩; refine ⟨_, rfl, ?_⟩))
 go_ret
 exact ⟨by first | rfl | (simp; done) | (simp [*]; done), by repeat (first | exact Drawn0.refl _ | apply Drawn0.step)⟩
end Go.Proofs.Ytnepgcbgkhikkaa.H
namespace Go.Proofs.Ytnepgcbgkhikkaa.H
open Go.RowKit Go.Proofs.YtnepgcbgkhikkaaW.PrintWords Go.Proofs.YtnepgcbgkhikkaaW.PrintLast Go.Proofs.YtnepgcbgkhikkaaW.PrintMore
attribute [local go_sem] max2_int min2_int max_two min_two max_three min_three max_four min_four
set_option linter.unusedVariables false
set_option linter.unusedSimpArgs false
def slices_Index_int_int.l0 : Nat → List Int → Int → Int → Int → Option (Int)
 | 0, _, _, _, _ => none
 | k + 1, x0, x1, x7, x8 => if x8 < x7 then (if 0 ≤ x8 then (if x8 < (x0.length : Int) then (if x1 = (rd x0 x8) then (some x8) else (slices_Index_int_int.l0 k x0 x1 x7 (wrap64 (x8 + 1)))) else (none)) else (none)) else (some (-1))
def slices_Index_int_int.f (k : Nat) (l0 : List Int) (a1 : Int) : Option (Int) := slices_Index_int_int.l0 k l0 a1 (l0.length : Int) 0
theorem slices_Index_int_int.mono_l : ∀ k, (∀ y0 y1 y2 y3, LeO (slices_Index_int_int.l0 k y0 y1 y2 y3) (slices_Index_int_int.l0 (k + 1) y0 y1 y2 y3))
 | 0 => fun _ _ _ _ r h => by simp [slices_Index_int_int.l0] at h
 | k + 1 => by
  have ih0 := slices_Index_int_int.mono_l k
  ·intro y0 y1 y2 y3
   unfold slices_Index_int_int.l0
   repeat' first
   | (with_reducible exact ih0 _ _ _ _)
   | (with_reducible exact LeO.refl _)
   | (with_reducible exact LeO.none _)
   | (with_reducible refine LeO.ite ?_ ?_)
   | (with_reducible refine LeO.bind ?_ (fun _ => ?_))
   | exact ih0 _ _ _ _
   | exact LeO.none _
   | refine LeO.ite ?_ ?_
   | refine LeO.bind ?_ (fun _ => ?_)
theorem slices_Index_int_int.mono : ∀ a0 a1 k, LeO (slices_Index_int_int.f k a0 a1) (slices_Index_int_int.f (k + 1) a0 a1) := by
 intro a0 a1 k
 have ih0 := slices_Index_int_int.mono_l k
 unfold slices_Index_int_int.f
 repeat' first
   | (with_reducible exact ih0 _ _ _ _)
   | (with_reducible exact LeO.refl _)
   | (with_reducible exact LeO.none _)
   | (with_reducible refine LeO.ite ?_ ?_)
   | (with_reducible refine LeO.bind ?_ (fun _ => ?_))
   | exact ih0 _ _ _ _
   | exact LeO.none _
   | refine LeO.ite ?_ ?_
   | refine LeO.bind ?_ (fun _ => ?_)
set_option maxHeartbeats 8000000 in
set_option maxRecDepth 100000 in
theorem slices_Index_int_int.calls (k : Nat) (A0 : Option Addr) (c0 : Nat) (l0 : List Int) (a1 : Int) (r : Int) (w : World) (hr0 : Kd.C (Kd.int .i64) w A0 l0.length l0) (hc0 : l0.length ≤ c0) (h : slices_Index_int_int.f k l0 a1 = some r) :
  Calls Try.prog 69 #[.slice A0 l0.length c0, .int .i64 a1] w fun e w' => e = .returned (.int .i64 r) ∧ Drawn0 w w' := by
 have HR0 := Aside0.mk hr0
 have HC0 := Aside0.mk hc0
 clear hr0 hc0
 have H : (slices_Index_int_int.l0 k l0 a1 (l0.length : Int) 0) = some r := h
 clear h
 have H' := Aside0.mk H
 clear H
 go_enter Try.func69, Try.ntmps69
 go_wp2
 go_loopg [8] k (fun kq v8 w' => ∃ (x8_1 : Int), v8 = .int .i64 x8_1 ∧ Aside0 (slices_Index_int_int.l0 kq l0 a1 (l0.length : Int) x8_1 = some r) ∧ Aside0 (kq ≤ k) ∧ Drawn0 w w')
 case atStart => exact ⟨(0), (by first | rfl | (simp; done) | (simp [*]; done)), H', ⟨Nat.le_refl _⟩, by repeat (first | exact Drawn0.refl _ | apply Drawn0.step)⟩
 case round =>
  clear H'
  try clear p2
  obtain ⟨x8_1, rfl, HA, HK1, ⟨m1, rfl⟩⟩ := hrel
  cases gk with
  | zero => exact absurd HA.out (by simp [slices_Index_int_int.l0])
  | succ k1 =>
   have H := HA.out
   clear HA
   simp only [slices_Index_int_int.l0] at H
   by_cases c3 : x8_1 < (l0.length : Int)
   ·rw [if_pos c3] at H
    have c3b0 : decide (x8_1 < (l0.length : Int)) = true := decide_eq_true c3
    clear c3
    by_cases c4 : 0 ≤ x8_1
    ·rw [if_pos c4] at H
     have c4b0 : decide (0 ≤ x8_1) = true := decide_eq_true c4
     clear c4
     by_cases c5 : x8_1 < (l0.length : Int)
     ·rw [if_pos c5] at H
      have c5b0 : decide (x8_1 < (l0.length : Int)) = true := decide_eq_true c5
      clear c5
      by_cases c6 : a1 = (rd l0 x8_1)
      ·rw [if_pos c6] at H
       have c6b0 : (a1 == (rd l0 x8_1)) = true := beq_iff_eq.mpr c6
       have c6b1 : (a1 != (rd l0 x8_1)) = false := bne_eq_false_iff_eq.mpr c6
       clear c6
       obtain rfl := Option.some.inj H
       have p101 : 0 ≤ (x8_1 : Int) := of_decide_eq_true (by first | (with_reducible assumption) | assumption)
       have q101 : x8_1 < (l0.length : Int) := of_decide_eq_true (by first | (with_reducible assumption) | assumption)
       obtain ⟨ad101, e101, hx101_0⟩ := Kd.at_int HR0.out x8_1 p101 q101
       cases e101
       replace p101 := eq_true p101
       replace q101 := eq_true q101
       go_wp2
       go_ret
       exact ⟨by first | rfl | (simp; done) | (simp [*]; done), by repeat (first | exact Drawn0.refl _ | apply Drawn0.step)⟩
      ·rw [if_neg c6] at H
       have c6b0 : (a1 == (rd l0 x8_1)) = false := beq_eq_false_iff_ne.mpr c6
       have c6b1 : (a1 != (rd l0 x8_1)) = true := bne_iff_ne.mpr c6
       have H' := Aside0.mk H
       clear H
       have p101 : 0 ≤ (x8_1 : Int) := of_decide_eq_true (by first | (with_reducible assumption) | assumption)
       have q101 : x8_1 < (l0.length : Int) := of_decide_eq_true (by first | (with_reducible assumption) | assumption)
       obtain ⟨ad101, e101, hx101_0⟩ := Kd.at_int HR0.out x8_1 p101 q101
       cases e101
       replace p101 := eq_true p101
       replace q101 := eq_true q101
       go_wp2
       go_roundg k1
       case measure => have := HK1.out; omega
       case rel => exact ⟨(wrap64 (x8_1 + 1)), (by first | rfl | (simp; done) | (simp [*]; done)), H', ⟨by have := HK1.out; omega⟩, by repeat (first | exact Drawn0.refl _ | apply Drawn0.step)⟩
     ·rw [if_neg c5] at H
      exact absurd H (by simp)
    ·rw [if_neg c4] at H
     exact absurd H (by simp)
   ·rw [if_neg c3] at H
    have c3b0 : decide (x8_1 < (l0.length : Int)) = false := decide_eq_false c3
    clear c3
    obtain rfl := Option.some.inj H
    go_wp2
    go_ret
    exact ⟨by first | rfl | (simp; done) | (simp [*]; done), by repeat (first | exact Drawn0.refl _ | apply Drawn0.step)⟩
end Go.Proofs.Ytnepgcbgkhikkaa.H
namespace Go.Proofs.Ytnepgcbgkhikkaa.H
open Go.RowKit Go.Proofs.YtnepgcbgkhikkaaW.PrintWords Go.Proofs.YtnepgcbgkhikkaaW.PrintLast Go.Proofs.YtnepgcbgkhikkaaW.PrintMore
attribute [local go_sem] max2_int min2_int max_two min_two max_three min_three max_four min_four
set_option linter.unusedVariables false
set_option linter.unusedSimpArgs false
def slices_Contains_int_int.f (k : Nat) (l0 : List Int) (a1 : Int) : Option (Bool) := (slices_Index_int_int.f k l0 a1).bind fun t101 => (some (decide (t101 ≥ 0)))
theorem slices_Contains_int_int.mono : ∀ a0 a1 k, LeO (slices_Contains_int_int.f k a0 a1) (slices_Contains_int_int.f (k + 1) a0 a1) := by
 intro a0 a1 k
 unfold slices_Contains_int_int.f
 repeat' first
   | (with_reducible exact slices_Index_int_int.mono _ _ _)
   | (with_reducible exact LeO.refl _)
   | (with_reducible exact LeO.none _)
   | (with_reducible refine LeO.ite ?_ ?_)
   | (with_reducible refine LeO.bind ?_ (fun _ => ?_))
   | exact slices_Index_int_int.mono _ _ _
   | exact LeO.none _
   | refine LeO.ite ?_ ?_
   | refine LeO.bind ?_ (fun _ => ?_)
set_option maxHeartbeats 8000000 in
set_option maxRecDepth 100000 in
theorem slices_Contains_int_int.calls (k : Nat) (A0 : Option Addr) (c0 : Nat) (l0 : List Int) (a1 : Int) (r : Bool) (w : World) (hr0 : Kd.C (Kd.int .i64) w A0 l0.length l0) (hc0 : l0.length ≤ c0) (h : slices_Contains_int_int.f k l0 a1 = some r) :
  Calls Try.prog 52 #[.slice A0 l0.length c0, .int .i64 a1] w fun e w' => e = .returned (.bool r) ∧ Drawn0 w w' := by
 have HR0 := Aside0.mk hr0
 have HC0 := Aside0.mk hc0
 clear hr0 hc0
 have H : ((slices_Index_int_int.f k l0 a1).bind fun t101 => (some (decide (t101 ≥ 0)))) = some r := h
 clear h
 replace H := Option.bind_eq_some_iff.mp H
 obtain ⟨t101, A30, H⟩ := H
 replace H : (some (decide (t101 ≥ 0))) = some r := H
 have A3 := Aside0.mk A30
 clear A30
 obtain rfl := Option.some.inj H
 go_enter Try.func52, Try.ntmps52
 go_wp2_with (first | ((with_reducible refine gate_callee (f := 69) rfl ?_); refine goesL_ (some 7) rfl rfl Try.func69 (by kernel_rfl) rfl #[.slice A0 l0.length c0, .int .i64 a1] rfl (by (try simp only [List.map_toArray, List.map_cons, List.map_nil]); first | done | rfl | (simp only [List.length_drop, List.length_take]; rfl)) ?_; (with_reducible refine (slices_Index_int_int.calls k _ _ l0 a1 t101 _ ?side1 ?side2 A3.out).mono ?_); (case side1 => repeat (first | exact HR0.out | (with_reducible refine Kd.C_alloc ?_ _) | (with_reducible refine Kd.C_drewN ?_ _) | (with_reducible refine Kd.C_drew ?_))); (case side2 => exact HC0.out); rintro e w' ⟨rfl, ⟨nd, rfl⟩⟩; refine ⟨_, rfl, ?_⟩))
 go_ret
 exact ⟨by first | rfl | (simp; done) | (simp [*]; done), by repeat (first | exact Drawn0.refl _ | apply Drawn0.step)⟩
end Go.Proofs.Ytnepgcbgkhikkaa.H
namespace Go.Proofs.Ytnepgcbgkhikkaa.H
open Go.RowKit Go.Proofs.YtnepgcbgkhikkaaW.PrintWords
set_option linter.unusedVariables false
theorem In_l0 (l : List ByteArray) (s : ByteArray) (hl : l.length ≤ 9223372036854775807) : ∀ (r : List ByteArray) (n : Nat), l.drop n = r → Ev (fun k => lambrequinref09_In.l0 k l s n) (mem s r)
  | [], n, h => by
    refine Ev.step (fun k => by rw [lambrequinref09_In.l0]) ?_
    exact Ev.neg (drop_end h) (Ev.some (by simp [mem]))
  | y :: r, n, h => by
    obtain ⟨h1, h2, h3, h4, h5⟩ := drop_more h hl
    refine Ev.step (fun k => by rw [lambrequinref09_In.l0]) ?_
    refine Ev.pos h1 (Ev.pos h2 ?_)
    rw [show rdOf ByteArray.empty l n = y from h3 _, h5]
    refine Ev.iff (Ev.cases (fun _ => Ev.now true) (fun _ => In_l0 l s hl r (n + 1) h4)) ?_
    simp only [lib_ba_eq, mem, List.any_cons]
    by_cases e : y = s
    · subst e; simp
    · have e' : ¬ s = y := fun h => e h.symm
      simp [e, e']
theorem In_ev (l : List ByteArray) (s : ByteArray) (hl : l.length ≤ 9223372036854775807) : Ev (fun k => lambrequinref09_In.f k l s) (mem s l) := In_l0 l s hl l 0 rfl
theorem Ints_l0 (a b : List Int) (e : a.length = b.length) (hl : a.length ≤ 9223372036854775807) : ∀ (r s : List Int) (n : Nat), a.drop n = r → b.drop n = s → Ev (fun k => lambrequinref10_Ints.l0 k a b n) (decide (r = s))
  | [], s, n, h, h' => by
    refine Ev.step (fun k => by rw [lambrequinref10_Ints.l0]) ?_
    have : s = [] := by
      have h1 := congrArg List.length h; have h2 := congrArg List.length h'
      simp at h1 h2
      cases s <;> simp at h2 ⊢
      omega
    exact Ev.neg (drop_end h) (Ev.some (by simp [this]))
  | y :: r, [], n, h, h' => by
    have h1 := congrArg List.length h; have h2 := congrArg List.length h'
    simp at h1 h2
    omega
  | y :: r, z :: s, n, h, h' => by
    obtain ⟨h1, h2, h3, h4, h5⟩ := drop_more h (by omega)
    obtain ⟨g1, g2, g3, g4, g5⟩ := drop_more h' (by omega)
    refine Ev.step (fun k => by rw [lambrequinref10_Ints.l0]) ?_
    refine Ev.pos h1 (Ev.pos h2 (Ev.pos g1 ?_))
    rw [show rd a n = y from h3 _, show rd b n = z from g3 _, h5]
    refine Ev.iff (Ev.cases (fun _ => Ints_l0 a b e hl r s (n + 1) h4 g4) (fun _ => Ev.now false)) ?_
    by_cases c : y = z <;> simp [c]
theorem Ints_ev (a b : List Int) (hl : a.length ≤ 9223372036854775807) : Ev (fun k => lambrequinref10_Ints.f k a b) (decide (a = b)) := by
  unfold lambrequinref10_Ints.f
  by_cases c : a.length = b.length
  · exact Ev.pos (by omega) (Ints_l0 a b c hl a b 0 rfl rfl)
  · exact Ev.neg (by omega) (Ev.some (by rw [eq_comm, decide_eq_false_iff_not]; rintro rfl; exact c rfl))
theorem Index_l0 (l : List ByteArray) (s : ByteArray) (hl : l.length ≤ 9223372036854775807) : ∀ (r : List ByteArray) (n : Nat), l.drop n = r → ∃ v : Int, Ev (fun k => slices_Index_string_string.l0 k l s (l.length : Int) n) v ∧ decide (v ≥ 0) = mem s r
  | [], n, h => by
    refine ⟨-1, Ev.step (fun k => by rw [slices_Index_string_string.l0]) ?_, by simp [mem]⟩
    exact Ev.neg (drop_end h) (Ev.now _)
  | y :: r, n, h => by
    obtain ⟨h1, h2, h3, h4, h5⟩ := drop_more h hl
    obtain ⟨v, hv, e⟩ := Index_l0 l s hl r (n + 1) h4
    by_cases c : s = y
    · refine ⟨n, Ev.step (fun k => by rw [slices_Index_string_string.l0]) ?_, by simp [mem, c]⟩
      refine Ev.pos h1 (Ev.pos h2 (Ev.pos h1 ?_))
      rw [show rdOf ByteArray.empty l n = y from h3 _]
      exact Ev.pos (by rw [c]) (Ev.now _)
    · refine ⟨v, Ev.step (fun k => by rw [slices_Index_string_string.l0]) ?_, by rw [e]; simp [mem, c]⟩
      refine Ev.pos h1 (Ev.pos h2 (Ev.pos h1 ?_))
      rw [show rdOf ByteArray.empty l n = y from h3 _, h5]
      exact Ev.neg (by rw [lib_ba_eq]; exact c) hv
theorem Contains_ev (l : List ByteArray) (s : ByteArray) (hl : l.length ≤ 9223372036854775807) : Ev (fun k => slices_Contains_string_string.f k l s) (mem s l) := by
  obtain ⟨v, hv, e⟩ := Index_l0 l s hl l 0 rfl
  exact Ev.bind hv (Ev.some e)
theorem IndexI_l0 (l : List Int) (s : Int) (hl : l.length ≤ 9223372036854775807) : ∀ (r : List Int) (n : Nat), l.drop n = r → ∃ v : Int, Ev (fun k => slices_Index_int_int.l0 k l s (l.length : Int) n) v ∧ decide (v ≥ 0) = decide (s ∈ r)
  | [], n, h => by
    refine ⟨-1, Ev.step (fun k => by rw [slices_Index_int_int.l0]) ?_, by simp⟩
    exact Ev.neg (drop_end h) (Ev.now _)
  | y :: r, n, h => by
    obtain ⟨h1, h2, h3, h4, h5⟩ := drop_more h hl
    obtain ⟨v, hv, e⟩ := IndexI_l0 l s hl r (n + 1) h4
    by_cases c : s = y
    · refine ⟨n, Ev.step (fun k => by rw [slices_Index_int_int.l0]) ?_, by simp [c]⟩
      refine Ev.pos h1 (Ev.pos h2 (Ev.pos h1 ?_))
      rw [show rd l n = y from h3 _]
      exact Ev.pos c (Ev.now _)
    · refine ⟨v, Ev.step (fun k => by rw [slices_Index_int_int.l0]) ?_, by rw [e]; simp [c]⟩
      refine Ev.pos h1 (Ev.pos h2 (Ev.pos h1 ?_))
      rw [show rd l n = y from h3 _, h5]
      exact Ev.neg c hv
theorem ContainsI_ev (l : List Int) (s : Int) (hl : l.length ≤ 9223372036854775807) : Ev (fun k => slices_Contains_int_int.f k l s) (decide (s ∈ l)) := by
  obtain ⟨v, hv, e⟩ := IndexI_l0 l s hl l 0 rfl
  exact Ev.bind hv (Ev.some e)
end Go.Proofs.Ytnepgcbgkhikkaa.H
namespace Go.Proofs.Ytnepgcbgkhikkaa.H
def toL (b : ByteArray) : List UInt8 := b.data.toList
def ofL (l : List UInt8) : ByteArray := ⟨l.toArray⟩
theorem ofL_toL (b : ByteArray) : ofL (toL b) = b := by simp [ofL, toL]
theorem toL_ofL (l : List UInt8) : toL (ofL l) = l := by simp [ofL, toL]
end Go.Proofs.Ytnepgcbgkhikkaa.H
namespace Go.Proofs.Ytnepgcbgkhikkaa.H
open Go.RowKit Go.Sort Go.Proofs.YtnepgcbgkhikkaaW.PrintWords Go.Proofs.YtnepgcbgkhikkaaW.PrintLast Go.Proofs.YtnepgcbgkhikkaaW.PrintMore
set_option linter.unusedVariables false
section
variable {α : Type} [Inhabited α] {enc : α → Value}
theorem so_heap {w : World} {g n : Nat} {os : Array Obj} {cur : Array Value} {e : TypeId} {fr : Nat × Nat} (d : Array α) (hb : w.heap[g]? = some (.cells cur e fr)) :
    (grow (putRow enc (Sort.ahead w n) g 0 d) os).heap[g]? = some (.cells (putCells enc 0 d cur) e fr) := by
  have hg : g < w.heap.size := (Array.getElem?_eq_some_iff.1 hb).1
  rw [heap_grow_old _ _ (by simpa using hg)]
  simp [putRow, mapBlock, Sort.ahead, Array.getElem?_modify, hb, onCells]
theorem so_grown {w : World} {g n : Nat} {os : Array Obj} (d : Array α) : w.grownBy (grow (putRow enc (Sort.ahead w n) g 0 d) os) (some g) := by
  refine ⟨rfl, rfl, rfl, by simp, fun k hk hne => ?_⟩
  rw [heap_grow_old _ _ (by simpa using hk)]
  have : g ≠ k := fun e => hne (by rw [e])
  simp [putRow, mapBlock, Sort.ahead, Array.getElem?_modify, this]
theorem so_take (cur : Array Value) (ts : List α) (m : Nat) (hm : m ≤ ts.length) (h : ts.length ≤ cur.size) : (putCells enc 0 ts.toArray cur).toList.take m = (ts.take m).map enc := by
  apply List.ext_getElem?
  intro j
  by_cases hj : j < m
  · rw [List.getElem?_take_of_lt hj, Array.getElem?_toList]
    simp [putCells, show j < ts.length by omega, show j < cur.size by omega, hj]
  · rw [List.getElem?_take_eq_none (by omega), List.getElem?_eq_none (by simp; omega)]
theorem so_holds {w : World} {g : Nat} {cur : Array Value} {e : TypeId} {ss : List α} (hb : w.heap[g]? = some (.cells cur e (0, 0))) (ht : cur.toList.take ss.length = ss.map enc) : Holds enc w g 0 ss.toArray := by
  intro j hj
  have hj' : j < ss.length := by simpa using hj
  refine ⟨?_, by simp [World.frozen?, hb]⟩
  have h1 : (cur.toList.take ss.length)[j]? = (ss.map enc)[j]? := by rw [ht]
  rw [List.getElem?_take_of_lt hj'] at h1
  simp only [World.cell?, hb, Nat.zero_add]
  simp only [Option.isSome_none, Bool.false_eq_true, if_false]
  rw [← Array.getElem?_toList, h1]
  simp [hj']
/-- behind a sort (or a compacting): the row owns the first elements of what was laid -/
theorem so_owns {w : World} {base g cap n m : Nat} {e : TypeId} {os : Array Obj} {cur : Array Value} {ss ts : List α} (hl : ts.length = ss.length) (hm : m ≤ ts.length) (hbase : base ≤ g) (hb : w.heap[g]? = some (.cells cur e (0, 0)))
    (h1 : ss.length ≤ cap) (h2 : cap ≤ maxLen) (h3 : cur.size = cap * 1) :
    (grow (putRow enc (Sort.ahead w n) g 0 ts.toArray) os).ownsRow base e 1 (.slice (some ⟨g, 0, none⟩) m cap) m ((ts.take m).map enc) :=
  ⟨by simp; omega, .inr ⟨g, cap, _, rfl, hbase, so_heap _ hb, by omega, h2, by simp [putCells, h3], by rw [Nat.mul_one]; exact so_take cur ts m hm (by omega)⟩⟩
end
/-- what a function that writes a row of the caller's leaves -/
theorem so_kept {w w' : World} {g : Nat} {P : Nat → Prop} (hg : w.grownBy w' (some g)) (hP : P g) : Kept w w' P :=
  ⟨hg.size, fun i hi hn => hg.block i hi (fun e => hn (by cases e; exact hP))⟩
theorem so_below {w0 w w' : World} {g : Nat} (hB : Below w0.heap.size w0 w) (hg : w.grownBy w' (some g)) (hb : w0.heap.size ≤ g) : Below w0.heap.size w0 w' :=
  pw_below_grown hB (some g) hB.size hg (fun k e => by cases e; exact hb)
theorem encs_toL (xs : List ByteArray) : xs.map Value.string = (xs.map toL).map encStr := by
  rw [List.map_map]
  exact List.map_congr_left fun x _ => by simp [encStr, toL]
theorem encs_ofL (ls : List (List UInt8)) : ls.map encStr = (ls.map ofL).map Value.string := by
  rw [List.map_map]
  exact List.map_congr_left fun x _ => by simp [encStr, ofL]
def sortS (l : List ByteArray) : List ByteArray := ((l.map toL).mergeSort fun x y => decide (x ≤ y)).map ofL
def compactS (l : List ByteArray) : List ByteArray := (Go.Lib.compact (l.map toL)).map ofL
theorem sortS_len (l : List ByteArray) : (sortS l).length = l.length := by simp [sortS]
theorem compactS_len (l : List ByteArray) : (compactS l).length ≤ l.length := by
  unfold compactS Go.Lib.compact Go.Lib.compactUpTo
  simp only [List.length_map]
  exact Nat.le_trans (List.length_filter_le _ _) (by simp)
def sortI (l : List Int) : List Int := l.mergeSort fun x y => decide (x ≤ y)
def compactI (l : List Int) : List Int := Go.Lib.compact l
theorem sortI_len (l : List Int) : (sortI l).length = l.length := by simp [sortI]
theorem compactI_len (l : List Int) : (compactI l).length ≤ l.length := by
  unfold compactI Go.Lib.compact Go.Lib.compactUpTo
  simp only [List.length_map]
  exact Nat.le_trans (List.length_filter_le _ _) (by simp)
end Go.Proofs.Ytnepgcbgkhikkaa.H
namespace Go.Proofs.Ytnepgcbgkhikkaa.H
open Go.RowKit Go.Proofs.YtnepgcbgkhikkaaW.PrintWords Go.Proofs.YtnepgcbgkhikkaaW.PrintLast Go.Proofs.YtnepgcbgkhikkaaW.PrintMore
abbrev tt : Bool := true
abbrev ff : Bool := false
/-- a table of bools, told as a number -/
def bls : Nat → Nat → List Bool
  | 0, _ => []
  | n + 1, b => (b % 2 == 1) :: bls n (b / 2)
def bl (n b : Nat) : Array Bool := ⟨bls n b⟩
theorem sA {α : Type _} (l : List α) (i : Nat) (a : α) : l.toArray.setIfInBounds i a = (l.set i a).toArray := List.setIfInBounds_toArray ..
theorem sZ {α : Type _} {xs : List α} {a b : α} : (a :: xs).set 0 b = b :: xs := List.set_cons_zero
theorem sS {α : Type _} {xs : List α} {n : Nat} {a b : α} : (a :: xs).set (n + 1) b = a :: xs.set n b := List.set_cons_succ
theorem am {p : Prop} (h : p) : Aside0 p := Aside0.mk h
abbrev Va := @Kd.V_alloc
abbrev Vn := @Kd.V_drewN
abbrev Vd := @Kd.V_drew
abbrev Ra := @Kd.R_alloc
abbrev Rn := @Kd.R_drewN
abbrev Rd := @Kd.R_drew
abbrev bN := @blk_drewN
abbrev bD := @blk_drew
abbrev bA := @blk_alloc
abbrev lA := @below_alloc
abbrev lN := @pw_below_drewN
abbrev lD := @below_drew1
abbrev lS := @below_set
end Go.Proofs.Ytnepgcbgkhikkaa.H
namespace Go.Proofs.Ytnepgcbgkhikkaa.H
open Go.RowKit Go.Proofs.YtnepgcbgkhikkaaW.PrintWords Go.Proofs.YtnepgcbgkhikkaaW.PrintLast Go.Proofs.YtnepgcbgkhikkaaW.PrintMore
attribute [local go_sem] max2_int min2_int max_two min_two max_three min_three max_four min_four
set_option linter.unusedVariables false
set_option linter.unusedSimpArgs false
def cfg_Def.f (a0_0 : Int) (a0_1 : ByteArray) (a0_2 : ByteArray) (a0_3 : ByteArray) (a0_4 : ByteArray) (a0_5 : Int) (a0_6 : Int) (a0_7 : Int) : Option (ByteArray × Bool) := if a0_0 = 1 then (some (a0_1, true)) else (if a0_0 = 2 then (some (a0_1, true)) else (if a0_0 = 3 then (some (a0_1, true)) else (if a0_0 = 4 then (some (a0_1, true)) else (if a0_0 = 5 then (some (a0_1, true)) else (some ((⟨#[]⟩ : ByteArray), false))))))
set_option maxHeartbeats 8000000 in
set_option maxRecDepth 100000 in
theorem cfg_Def.calls (a0_0 : Int) (a0_1 : ByteArray) (a0_2 : ByteArray) (a0_3 : ByteArray) (a0_4 : ByteArray) (a0_5 : Int) (a0_6 : Int) (a0_7 : Int) (r1 : ByteArray) (r2 : Bool) (w : World) (h : cfg_Def.f a0_0 a0_1 a0_2 a0_3 a0_4 a0_5 a0_6 a0_7 = some (r1, r2)) :
  Calls Try.prog 20 #[.agg #[.int .i64 a0_0, .string a0_1, .string a0_2, .string a0_3, .string a0_4, .int .i64 a0_5, .int .i64 a0_6, .int .i64 a0_7]] w fun e w' => e = .returned (.tuple #[.string r1, .bool r2]) ∧ Below w.heap.size w w' := by
 have hu30 := Try.underlying30
 have HB := Aside0.mk (Below.refl w.heap.size w)
 have H : (if a0_0 = 1 then (some (a0_1, true)) else (if a0_0 = 2 then (some (a0_1, true)) else (if a0_0 = 3 then (some (a0_1, true)) else (if a0_0 = 4 then (some (a0_1, true)) else (if a0_0 = 5 then (some (a0_1, true)) else (some ((⟨#[]⟩ : ByteArray), false))))))) = some (r1, r2) := h
 clear h
 by_cases c2 : a0_0 = 1
 ·rw [if_pos c2] at H
  have c2b0 : (a0_0 == 1) = true := beq_iff_eq.mpr c2
  have c2b1 : (a0_0 != 1) = false := bne_eq_false_iff_eq.mpr c2
  clear c2
  simp only [Option.some.injEq, Prod.mk.injEq] at H
  obtain ⟨rfl, rfl⟩ := H
  go_enter Try.func20, Try.ntmps20
  go_wp2_with (first | ((with_reducible refine gate_dst (N := 1) rfl ?_); refine box_event ?hg (N := 1) ?hd (cs := #[.int .i64 a0_0, .string a0_1, .string a0_2, .string a0_3, .string a0_4, .int .i64 a0_5, .int .i64 a0_6, .int .i64 a0_7]) (t := 30) ?hr ?_; (case hd => rfl); (case hg => rfl); (case hr => first | (go_simp; done) | (go_simp; rfl)); intro gb101 hg w3 hbox hb; have n0_ := Aside0.mk (below_step (by repeat (first | (with_reducible first | exact HB.out | apply below_alloc | apply pw_below_drewN | apply below_drew1) | exact HB.out)) hb); have n1_ := Aside0.mk (hbox); have n2_ := Aside0.mk ((by rw [hg]; exact (below_size (by repeat (first | (with_reducible first | exact HB.out | apply below_alloc | apply pw_below_drewN | apply below_drew1) | exact HB.out))) : w.heap.size ≤ gb101)); have n3_ := Aside0.mk ((by rw [hg]; exact (below_size (by repeat (first | (with_reducible first | exact HB.out | apply below_alloc | apply pw_below_drewN | apply below_drew1) | exact HB.out))) : w.heap.size ≤ gb101)); clear HB; have HB := n0_; have BK101 := n1_; have GW101 := n2_; have GE101 := n3_; clear n0_ n1_ n2_ n3_; clear hb hbox hg; have hcz4_0 : w3.cell? ⟨gb101, 0, none⟩ = some (.int .i64 a0_0) := (blk_cell BK101.out 0).trans rfl; have hcz4_1 : w3.cell? ⟨gb101, 1, none⟩ = some (.string a0_1) := (blk_cell BK101.out 1).trans rfl; have hcz4_2 : w3.cell? ⟨gb101, 2, none⟩ = some (.string a0_2) := (blk_cell BK101.out 2).trans rfl; have hcz4_3 : w3.cell? ⟨gb101, 3, none⟩ = some (.string a0_3) := (blk_cell BK101.out 3).trans rfl; have hcz4_4 : w3.cell? ⟨gb101, 4, none⟩ = some (.string a0_4) := (blk_cell BK101.out 4).trans rfl; have hcz4_5 : w3.cell? ⟨gb101, 5, none⟩ = some (.int .i64 a0_5) := (blk_cell BK101.out 5).trans rfl; have hcz4_6 : w3.cell? ⟨gb101, 6, none⟩ = some (.int .i64 a0_6) := (blk_cell BK101.out 6).trans rfl; have hcz4_7 : w3.cell? ⟨gb101, 7, none⟩ = some (.int .i64 a0_7) := (blk_cell BK101.out 7).trans rfl; have hfz4_0 := blk_frozen BK101.out 0; have hfz4_1 := blk_frozen BK101.out 1; have hfz4_2 := blk_frozen BK101.out 2; have hfz4_3 := blk_frozen BK101.out 3; have hfz4_4 := blk_frozen BK101.out 4; have hfz4_5 := blk_frozen BK101.out 5; have hfz4_6 := blk_frozen BK101.out 6; have hfz4_7 := blk_frozen BK101.out 7))
  go_ret2
  exact ⟨by first | rfl | (simp [errW_none, errW_some] <;> rfl) | (simp [*, errW_none, errW_some] <;> rfl), by repeat (first | (with_reducible first | exact HB.out | apply below_alloc | apply pw_below_drewN | apply below_drew1 | refine below_set ?_ GE101.out) | exact HB.out)⟩
 ·rw [if_neg c2] at H
  have c2b0 : (a0_0 == 1) = false := beq_eq_false_iff_ne.mpr c2
  have c2b1 : (a0_0 != 1) = true := bne_iff_ne.mpr c2
  by_cases c5 : a0_0 = 2
  ·rw [if_pos c5] at H
   have c5b0 : (a0_0 == 2) = true := beq_iff_eq.mpr c5
   have c5b1 : (a0_0 != 2) = false := bne_eq_false_iff_eq.mpr c5
   clear c5
   simp only [Option.some.injEq, Prod.mk.injEq] at H
   obtain ⟨rfl, rfl⟩ := H
   go_enter Try.func20, Try.ntmps20
   go_wp2_with (first | ((with_reducible refine gate_dst (N := 1) rfl ?_); refine box_event ?hg (N := 1) ?hd (cs := #[.int .i64 a0_0, .string a0_1, .string a0_2, .string a0_3, .string a0_4, .int .i64 a0_5, .int .i64 a0_6, .int .i64 a0_7]) (t := 30) ?hr ?_; (case hd => rfl); (case hg => rfl); (case hr => first | (go_simp; done) | (go_simp; rfl)); intro gb101 hg w6 hbox hb; have n0_ := Aside0.mk (below_step (by repeat (first | (with_reducible first | exact HB.out | apply below_alloc | apply pw_below_drewN | apply below_drew1) | exact HB.out)) hb); have n1_ := Aside0.mk (hbox); have n2_ := Aside0.mk ((by rw [hg]; exact (below_size (by repeat (first | (with_reducible first | exact HB.out | apply below_alloc | apply pw_below_drewN | apply below_drew1) | exact HB.out))) : w.heap.size ≤ gb101)); have n3_ := Aside0.mk ((by rw [hg]; exact (below_size (by repeat (first | (with_reducible first | exact HB.out | apply below_alloc | apply pw_below_drewN | apply below_drew1) | exact HB.out))) : w.heap.size ≤ gb101)); clear HB; have HB := n0_; have BK101 := n1_; have GW101 := n2_; have GE101 := n3_; clear n0_ n1_ n2_ n3_; clear hb hbox hg; have hcz7_0 : w6.cell? ⟨gb101, 0, none⟩ = some (.int .i64 a0_0) := (blk_cell BK101.out 0).trans rfl; have hcz7_1 : w6.cell? ⟨gb101, 1, none⟩ = some (.string a0_1) := (blk_cell BK101.out 1).trans rfl; have hcz7_2 : w6.cell? ⟨gb101, 2, none⟩ = some (.string a0_2) := (blk_cell BK101.out 2).trans rfl; have hcz7_3 : w6.cell? ⟨gb101, 3, none⟩ = some (.string a0_3) := (blk_cell BK101.out 3).trans rfl; have hcz7_4 : w6.cell? ⟨gb101, 4, none⟩ = some (.string a0_4) := (blk_cell BK101.out 4).trans rfl; have hcz7_5 : w6.cell? ⟨gb101, 5, none⟩ = some (.int .i64 a0_5) := (blk_cell BK101.out 5).trans rfl; have hcz7_6 : w6.cell? ⟨gb101, 6, none⟩ = some (.int .i64 a0_6) := (blk_cell BK101.out 6).trans rfl; have hcz7_7 : w6.cell? ⟨gb101, 7, none⟩ = some (.int .i64 a0_7) := (blk_cell BK101.out 7).trans rfl; have hfz7_0 := blk_frozen BK101.out 0; have hfz7_1 := blk_frozen BK101.out 1; have hfz7_2 := blk_frozen BK101.out 2; have hfz7_3 := blk_frozen BK101.out 3; have hfz7_4 := blk_frozen BK101.out 4; have hfz7_5 := blk_frozen BK101.out 5; have hfz7_6 := blk_frozen BK101.out 6; have hfz7_7 := blk_frozen BK101.out 7))
   go_ret2
   exact ⟨by first | rfl | (simp [errW_none, errW_some] <;> rfl) | (simp [*, errW_none, errW_some] <;> rfl), by repeat (first | (with_reducible first | exact HB.out | apply below_alloc | apply pw_below_drewN | apply below_drew1 | refine below_set ?_ GE101.out) | exact HB.out)⟩
  ·rw [if_neg c5] at H
   have c5b0 : (a0_0 == 2) = false := beq_eq_false_iff_ne.mpr c5
   have c5b1 : (a0_0 != 2) = true := bne_iff_ne.mpr c5
   by_cases c8 : a0_0 = 3
   ·rw [if_pos c8] at H
    have c8b0 : (a0_0 == 3) = true := beq_iff_eq.mpr c8
    have c8b1 : (a0_0 != 3) = false := bne_eq_false_iff_eq.mpr c8
    clear c8
    simp only [Option.some.injEq, Prod.mk.injEq] at H
    obtain ⟨rfl, rfl⟩ := H
    go_enter Try.func20, Try.ntmps20
    go_wp2_with (first | ((with_reducible refine gate_dst (N := 1) rfl ?_); refine box_event ?hg (N := 1) ?hd (cs := #[.int .i64 a0_0, .string a0_1, .string a0_2, .string a0_3, .string a0_4, .int .i64 a0_5, .int .i64 a0_6, .int .i64 a0_7]) (t := 30) ?hr ?_; (case hd => rfl); (case hg => rfl); (case hr => first | (go_simp; done) | (go_simp; rfl)); intro gb101 hg w9 hbox hb; have n0_ := Aside0.mk (below_step (by repeat (first | (with_reducible first | exact HB.out | apply below_alloc | apply pw_below_drewN | apply below_drew1) | exact HB.out)) hb); have n1_ := Aside0.mk (hbox); have n2_ := Aside0.mk ((by rw [hg]; exact (below_size (by repeat (first | (with_reducible first | exact HB.out | apply below_alloc | apply pw_below_drewN | apply below_drew1) | exact HB.out))) : w.heap.size ≤ gb101)); have n3_ := Aside0.mk ((by rw [hg]; exact (below_size (by repeat (first | (with_reducible first | exact HB.out | apply below_alloc | apply pw_below_drewN | apply below_drew1) | exact HB.out))) : w.heap.size ≤ gb101)); clear HB; have HB := n0_; have BK101 := n1_; have GW101 := n2_; have GE101 := n3_; clear n0_ n1_ n2_ n3_; clear hb hbox hg; have hcz10_0 : w9.cell? ⟨gb101, 0, none⟩ = some (.int .i64 a0_0) := (blk_cell BK101.out 0).trans rfl; have hcz10_1 : w9.cell? ⟨gb101, 1, none⟩ = some (.string a0_1) := (blk_cell BK101.out 1).trans rfl; have hcz10_2 : w9.cell? ⟨gb101, 2, none⟩ = some (.string a0_2) := (blk_cell BK101.out 2).trans rfl; have hcz10_3 : w9.cell? ⟨gb101, 3, none⟩ = some (.string a0_3) := (blk_cell BK101.out 3).trans rfl; have hcz10_4 : w9.cell? ⟨gb101, 4, none⟩ = some (.string a0_4) := (blk_cell BK101.out 4).trans rfl; have hcz10_5 : w9.cell? ⟨gb101, 5, none⟩ = some (.int .i64 a0_5) := (blk_cell BK101.out 5).trans rfl; have hcz10_6 : w9.cell? ⟨gb101, 6, none⟩ = some (.int .i64 a0_6) := (blk_cell BK101.out 6).trans rfl; have hcz10_7 : w9.cell? ⟨gb101, 7, none⟩ = some (.int .i64 a0_7) := (blk_cell BK101.out 7).trans rfl; have hfz10_0 := blk_frozen BK101.out 0; have hfz10_1 := blk_frozen BK101.out 1; have hfz10_2 := blk_frozen BK101.out 2; have hfz10_3 := blk_frozen BK101.out 3; have hfz10_4 := blk_frozen BK101.out 4; have hfz10_5 := blk_frozen BK101.out 5; have hfz10_6 := blk_frozen BK101.out 6; have hfz10_7 := blk_frozen BK101.out 7))
    go_ret2
    exact ⟨by first | rfl | (simp [errW_none, errW_some] <;> rfl) | (simp [*, errW_none, errW_some] <;> rfl), by repeat (first | (with_reducible first | exact HB.out | apply below_alloc | apply pw_below_drewN | apply below_drew1 | refine below_set ?_ GE101.out) | exact HB.out)⟩
   ·rw [if_neg c8] at H
    have c8b0 : (a0_0 == 3) = false := beq_eq_false_iff_ne.mpr c8
    have c8b1 : (a0_0 != 3) = true := bne_iff_ne.mpr c8
    by_cases c11 : a0_0 = 4
    ·rw [if_pos c11] at H
     have c11b0 : (a0_0 == 4) = true := beq_iff_eq.mpr c11
     have c11b1 : (a0_0 != 4) = false := bne_eq_false_iff_eq.mpr c11
     clear c11
     simp only [Option.some.injEq, Prod.mk.injEq] at H
     obtain ⟨rfl, rfl⟩ := H
     go_enter Try.func20, Try.ntmps20
     go_wp2_with (first | ((with_reducible refine gate_dst (N := 1) rfl ?_); refine box_event ?hg (N := 1) ?hd (cs := #[.int .i64 a0_0, .string a0_1, .string a0_2, .string a0_3, .string a0_4, .int .i64 a0_5, .int .i64 a0_6, .int .i64 a0_7]) (t := 30) ?hr ?_; (case hd => rfl); (case hg => rfl); (case hr => first | (go_simp; done) | (go_simp; rfl)); intro gb101 hg w12 hbox hb; have n0_ := Aside0.mk (below_step (by repeat (first | (with_reducible first | exact HB.out | apply below_alloc | apply pw_below_drewN | apply below_drew1) | exact HB.out)) hb); have n1_ := Aside0.mk (hbox); have n2_ := Aside0.mk ((by rw [hg]; exact (below_size (by repeat (first | (with_reducible first | exact HB.out | apply below_alloc | apply pw_below_drewN | apply below_drew1) | exact HB.out))) : w.heap.size ≤ gb101)); have n3_ := Aside0.mk ((by rw [hg]; exact (below_size (by repeat (first | (with_reducible first | exact HB.out | apply below_alloc | apply pw_below_drewN | apply below_drew1) | exact HB.out))) : w.heap.size ≤ gb101)); clear HB; have HB := n0_; have BK101 := n1_; have GW101 := n2_; have GE101 := n3_; clear n0_ n1_ n2_ n3_; clear hb hbox hg; have hcz13_0 : w12.cell? ⟨gb101, 0, none⟩ = some (.int .i64 a0_0) := (blk_cell BK101.out 0).trans rfl; have hcz13_1 : w12.cell? ⟨gb101, 1, none⟩ = some (.string a0_1) := (blk_cell BK101.out 1).trans rfl; have hcz13_2 : w12.cell? ⟨gb101, 2, none⟩ = some (.string a0_2) := (blk_cell BK101.out 2).trans rfl; have hcz13_3 : w12.cell? ⟨gb101, 3, none⟩ = some (.string a0_3) := (blk_cell BK101.out 3).trans rfl; have hcz13_4 : w12.cell? ⟨gb101, 4, none⟩ = some (.string a0_4) := (blk_cell BK101.out 4).trans rfl; have hcz13_5 : w12.cell? ⟨gb101, 5, none⟩ = some (.int .i64 a0_5) := (blk_cell BK101.out 5).trans rfl; have hcz13_6 : w12.cell? ⟨gb101, 6, none⟩ = some (.int .i64 a0_6) := (blk_cell BK101.out 6).trans rfl; have hcz13_7 : w12.cell? ⟨gb101, 7, none⟩ = some (.int .i64 a0_7) := (blk_cell BK101.out 7).trans rfl; have hfz13_0 := blk_frozen BK101.out 0; have hfz13_1 := blk_frozen BK101.out 1; have hfz13_2 := blk_frozen BK101.out 2; have hfz13_3 := blk_frozen BK101.out 3; have hfz13_4 := blk_frozen BK101.out 4; have hfz13_5 := blk_frozen BK101.out 5; have hfz13_6 := blk_frozen BK101.out 6; have hfz13_7 := blk_frozen BK101.out 7))
     go_ret2
     exact ⟨by first | rfl | (simp [errW_none, errW_some] <;> rfl) | (simp [*, errW_none, errW_some] <;> rfl), by repeat (first | (with_reducible first | exact HB.out | apply below_alloc | apply pw_below_drewN | apply below_drew1 | refine below_set ?_ GE101.out) | exact HB.out)⟩
    ·rw [if_neg c11] at H
     have c11b0 : (a0_0 == 4) = false := beq_eq_false_iff_ne.mpr c11
     have c11b1 : (a0_0 != 4) = true := bne_iff_ne.mpr c11
     by_cases c14 : a0_0 = 5
     ·rw [if_pos c14] at H
      have c14b0 : (a0_0 == 5) = true := beq_iff_eq.mpr c14
      have c14b1 : (a0_0 != 5) = false := bne_eq_false_iff_eq.mpr c14
      clear c14
      simp only [Option.some.injEq, Prod.mk.injEq] at H
      obtain ⟨rfl, rfl⟩ := H
      go_enter Try.func20, Try.ntmps20
      go_wp2_with (first | ((with_reducible refine gate_dst (N := 1) rfl ?_); refine box_event ?hg (N := 1) ?hd (cs := #[.int .i64 a0_0, .string a0_1, .string a0_2, .string a0_3, .string a0_4, .int .i64 a0_5, .int .i64 a0_6, .int .i64 a0_7]) (t := 30) ?hr ?_; (case hd => rfl); (case hg => rfl); (case hr => first | (go_simp; done) | (go_simp; rfl)); intro gb101 hg w15 hbox hb; have n0_ := Aside0.mk (below_step (by repeat (first | (with_reducible first | exact HB.out | apply below_alloc | apply pw_below_drewN | apply below_drew1) | exact HB.out)) hb); have n1_ := Aside0.mk (hbox); have n2_ := Aside0.mk ((by rw [hg]; exact (below_size (by repeat (first | (with_reducible first | exact HB.out | apply below_alloc | apply pw_below_drewN | apply below_drew1) | exact HB.out))) : w.heap.size ≤ gb101)); have n3_ := Aside0.mk ((by rw [hg]; exact (below_size (by repeat (first | (with_reducible first | exact HB.out | apply below_alloc | apply pw_below_drewN | apply below_drew1) | exact HB.out))) : w.heap.size ≤ gb101)); clear HB; have HB := n0_; have BK101 := n1_; have GW101 := n2_; have GE101 := n3_; clear n0_ n1_ n2_ n3_; clear hb hbox hg; have hcz16_0 : w15.cell? ⟨gb101, 0, none⟩ = some (.int .i64 a0_0) := (blk_cell BK101.out 0).trans rfl; have hcz16_1 : w15.cell? ⟨gb101, 1, none⟩ = some (.string a0_1) := (blk_cell BK101.out 1).trans rfl; have hcz16_2 : w15.cell? ⟨gb101, 2, none⟩ = some (.string a0_2) := (blk_cell BK101.out 2).trans rfl; have hcz16_3 : w15.cell? ⟨gb101, 3, none⟩ = some (.string a0_3) := (blk_cell BK101.out 3).trans rfl; have hcz16_4 : w15.cell? ⟨gb101, 4, none⟩ = some (.string a0_4) := (blk_cell BK101.out 4).trans rfl; have hcz16_5 : w15.cell? ⟨gb101, 5, none⟩ = some (.int .i64 a0_5) := (blk_cell BK101.out 5).trans rfl; have hcz16_6 : w15.cell? ⟨gb101, 6, none⟩ = some (.int .i64 a0_6) := (blk_cell BK101.out 6).trans rfl; have hcz16_7 : w15.cell? ⟨gb101, 7, none⟩ = some (.int .i64 a0_7) := (blk_cell BK101.out 7).trans rfl; have hfz16_0 := blk_frozen BK101.out 0; have hfz16_1 := blk_frozen BK101.out 1; have hfz16_2 := blk_frozen BK101.out 2; have hfz16_3 := blk_frozen BK101.out 3; have hfz16_4 := blk_frozen BK101.out 4; have hfz16_5 := blk_frozen BK101.out 5; have hfz16_6 := blk_frozen BK101.out 6; have hfz16_7 := blk_frozen BK101.out 7))
      go_ret2
      exact ⟨by first | rfl | (simp [errW_none, errW_some] <;> rfl) | (simp [*, errW_none, errW_some] <;> rfl), by repeat (first | (with_reducible first | exact HB.out | apply below_alloc | apply pw_below_drewN | apply below_drew1 | refine below_set ?_ GE101.out) | exact HB.out)⟩
     ·rw [if_neg c14] at H
      have c14b0 : (a0_0 == 5) = false := beq_eq_false_iff_ne.mpr c14
      have c14b1 : (a0_0 != 5) = true := bne_iff_ne.mpr c14
      simp only [Option.some.injEq, Prod.mk.injEq] at H
      obtain ⟨rfl, rfl⟩ := H
      go_enter Try.func20, Try.ntmps20
      go_wp2_with (first | ((with_reducible refine gate_dst (N := 1) rfl ?_); refine box_event ?hg (N := 1) ?hd (cs := #[.int .i64 a0_0, .string a0_1, .string a0_2, .string a0_3, .string a0_4, .int .i64 a0_5, .int .i64 a0_6, .int .i64 a0_7]) (t := 30) ?hr ?_; (case hd => rfl); (case hg => rfl); (case hr => first | (go_simp; done) | (go_simp; rfl)); intro gb101 hg w17 hbox hb; have n0_ := Aside0.mk (below_step (by repeat (first | (with_reducible first | exact HB.out | apply below_alloc | apply pw_below_drewN | apply below_drew1) | exact HB.out)) hb); have n1_ := Aside0.mk (hbox); have n2_ := Aside0.mk ((by rw [hg]; exact (below_size (by repeat (first | (with_reducible first | exact HB.out | apply below_alloc | apply pw_below_drewN | apply below_drew1) | exact HB.out))) : w.heap.size ≤ gb101)); have n3_ := Aside0.mk ((by rw [hg]; exact (below_size (by repeat (first | (with_reducible first | exact HB.out | apply below_alloc | apply pw_below_drewN | apply below_drew1) | exact HB.out))) : w.heap.size ≤ gb101)); clear HB; have HB := n0_; have BK101 := n1_; have GW101 := n2_; have GE101 := n3_; clear n0_ n1_ n2_ n3_; clear hb hbox hg; have hcz18_0 : w17.cell? ⟨gb101, 0, none⟩ = some (.int .i64 a0_0) := (blk_cell BK101.out 0).trans rfl; have hcz18_1 : w17.cell? ⟨gb101, 1, none⟩ = some (.string a0_1) := (blk_cell BK101.out 1).trans rfl; have hcz18_2 : w17.cell? ⟨gb101, 2, none⟩ = some (.string a0_2) := (blk_cell BK101.out 2).trans rfl; have hcz18_3 : w17.cell? ⟨gb101, 3, none⟩ = some (.string a0_3) := (blk_cell BK101.out 3).trans rfl; have hcz18_4 : w17.cell? ⟨gb101, 4, none⟩ = some (.string a0_4) := (blk_cell BK101.out 4).trans rfl; have hcz18_5 : w17.cell? ⟨gb101, 5, none⟩ = some (.int .i64 a0_5) := (blk_cell BK101.out 5).trans rfl; have hcz18_6 : w17.cell? ⟨gb101, 6, none⟩ = some (.int .i64 a0_6) := (blk_cell BK101.out 6).trans rfl; have hcz18_7 : w17.cell? ⟨gb101, 7, none⟩ = some (.int .i64 a0_7) := (blk_cell BK101.out 7).trans rfl; have hfz18_0 := blk_frozen BK101.out 0; have hfz18_1 := blk_frozen BK101.out 1; have hfz18_2 := blk_frozen BK101.out 2; have hfz18_3 := blk_frozen BK101.out 3; have hfz18_4 := blk_frozen BK101.out 4; have hfz18_5 := blk_frozen BK101.out 5; have hfz18_6 := blk_frozen BK101.out 6; have hfz18_7 := blk_frozen BK101.out 7))
      go_ret2
      exact ⟨by first | rfl | (simp [errW_none, errW_some] <;> rfl) | (simp [*, errW_none, errW_some] <;> rfl), by repeat (first | (with_reducible first | exact HB.out | apply below_alloc | apply pw_below_drewN | apply below_drew1 | refine below_set ?_ GE101.out) | exact HB.out)⟩
end Go.Proofs.Ytnepgcbgkhikkaa.H
namespace Go.Proofs.Ytnepgcbgkhikkaa.H
open Go.RowKit Go.Proofs.YtnepgcbgkhikkaaW.PrintWords Go.Proofs.YtnepgcbgkhikkaaW.PrintLast Go.Proofs.YtnepgcbgkhikkaaW.PrintMore
attribute [local go_sem] max2_int min2_int max_two min_two max_three min_three max_four min_four
set_option linter.unusedVariables false
set_option linter.unusedSimpArgs false
def cfg_defines.f (a0_0 : Int) (a0_1 : ByteArray) (a0_2 : ByteArray) (a0_3 : ByteArray) (a0_4 : ByteArray) (a0_5 : Int) (a0_6 : Int) (a0_7 : Int) (a1 : ByteArray) : Option (Bool) := (cfg_Def.f a0_0 a0_1 a0_2 a0_3 a0_4 a0_5 a0_6 a0_7).bind fun bt102 => (if bt102.2 = true then (some (bt102.1.toList == a1.toList)) else (some false))
set_option maxHeartbeats 8000000 in
set_option maxRecDepth 100000 in
theorem cfg_defines.calls (a0_0 : Int) (a0_1 : ByteArray) (a0_2 : ByteArray) (a0_3 : ByteArray) (a0_4 : ByteArray) (a0_5 : Int) (a0_6 : Int) (a0_7 : Int) (a1 : ByteArray) (r : Bool) (w : World) (h : cfg_defines.f a0_0 a0_1 a0_2 a0_3 a0_4 a0_5 a0_6 a0_7 a1 = some r) :
  Calls Try.prog 45 #[.agg #[.int .i64 a0_0, .string a0_1, .string a0_2, .string a0_3, .string a0_4, .int .i64 a0_5, .int .i64 a0_6, .int .i64 a0_7], .string a1] w fun e w' => e = .returned (.bool r) ∧ Below w.heap.size w w' := by
 have hu30 := Try.underlying30
 have HB := Aside0.mk (Below.refl w.heap.size w)
 have H : ((cfg_Def.f a0_0 a0_1 a0_2 a0_3 a0_4 a0_5 a0_6 a0_7).bind fun bt102 => (if bt102.2 = true then (some (bt102.1.toList == a1.toList)) else (some false))) = some r := h
 clear h
 replace H := Option.bind_eq_some_iff.mp H
 obtain ⟨⟨t102, t103⟩, A30, H⟩ := H
 replace H : (if t103 = true then (some (t102.toList == a1.toList)) else (some false)) = some r := H
 have A3 := Aside0.mk A30
 clear A30
 by_cases c4 : t103 = true
 ·subst c4
  have H1 : (some (t102.toList == a1.toList)) = some r := by rw [if_pos rfl] at H; exact H
  clear H
  have H := H1
  clear H1
  obtain rfl := Option.some.inj H
  go_enter Try.func45, Try.ntmps45
  go_wp2_with (first | ((with_reducible refine gate_dst (N := 2) rfl ?_); refine box_event ?hg (N := 2) ?hd (cs := #[.int .i64 a0_0, .string a0_1, .string a0_2, .string a0_3, .string a0_4, .int .i64 a0_5, .int .i64 a0_6, .int .i64 a0_7]) (t := 30) ?hr ?_; (case hd => rfl); (case hg => rfl); (case hr => first | (go_simp; done) | (go_simp; rfl)); intro gb101 hg w5 hbox hb; have n0_ := Aside0.mk (below_step (by repeat (first | (with_reducible first | exact HB.out | apply below_alloc | apply pw_below_drewN | apply below_drew1) | exact HB.out)) hb); have n1_ := Aside0.mk (hbox); have n2_ := Aside0.mk ((by rw [hg]; exact (below_size (by repeat (first | (with_reducible first | exact HB.out | apply below_alloc | apply pw_below_drewN | apply below_drew1) | exact HB.out))) : w.heap.size ≤ gb101)); have n3_ := Aside0.mk ((by rw [hg]; exact (below_size (by repeat (first | (with_reducible first | exact HB.out | apply below_alloc | apply pw_below_drewN | apply below_drew1) | exact HB.out))) : w.heap.size ≤ gb101)); clear HB; have HB := n0_; have BK101 := n1_; have GW101 := n2_; have GE101 := n3_; clear n0_ n1_ n2_ n3_; clear hb hbox hg; have hcz6_0 : w5.cell? ⟨gb101, 0, none⟩ = some (.int .i64 a0_0) := (blk_cell BK101.out 0).trans rfl; have hcz6_1 : w5.cell? ⟨gb101, 1, none⟩ = some (.string a0_1) := (blk_cell BK101.out 1).trans rfl; have hcz6_2 : w5.cell? ⟨gb101, 2, none⟩ = some (.string a0_2) := (blk_cell BK101.out 2).trans rfl; have hcz6_3 : w5.cell? ⟨gb101, 3, none⟩ = some (.string a0_3) := (blk_cell BK101.out 3).trans rfl; have hcz6_4 : w5.cell? ⟨gb101, 4, none⟩ = some (.string a0_4) := (blk_cell BK101.out 4).trans rfl; have hcz6_5 : w5.cell? ⟨gb101, 5, none⟩ = some (.int .i64 a0_5) := (blk_cell BK101.out 5).trans rfl; have hcz6_6 : w5.cell? ⟨gb101, 6, none⟩ = some (.int .i64 a0_6) := (blk_cell BK101.out 6).trans rfl; have hcz6_7 : w5.cell? ⟨gb101, 7, none⟩ = some (.int .i64 a0_7) := (blk_cell BK101.out 7).trans rfl; have hfz6_0 := blk_frozen BK101.out 0; have hfz6_1 := blk_frozen BK101.out 1; have hfz6_2 := blk_frozen BK101.out 2; have hfz6_3 := blk_frozen BK101.out 3; have hfz6_4 := blk_frozen BK101.out 4; have hfz6_5 := blk_frozen BK101.out 5; have hfz6_6 := blk_frozen BK101.out 6; have hfz6_7 := blk_frozen BK101.out 7) | ((with_reducible refine gate_callee (f := 20) rfl ?_); refine goesL_ (some 9) rfl rfl Try.func20 (by kernel_rfl) rfl #[.agg #[.int .i64 a0_0, .string a0_1, .string a0_2, .string a0_3, .string a0_4, .int .i64 a0_5, .int .i64 a0_6, .int .i64 a0_7]] rfl (by (try simp only [List.map_toArray, List.map_cons, List.map_nil]); first | done | rfl | (simp only [List.length_drop, List.length_take]; rfl)) ?_; (with_reducible refine (cfg_Def.calls a0_0 a0_1 a0_2 a0_3 a0_4 a0_5 a0_6 a0_7 t102 true _ A3.out).mono ?_); rintro e w7 ⟨rfl, hb⟩; refine ⟨_, rfl, ?_⟩; have n0_ := Aside0.mk (blk_below (g := gb101) (o := .cells #[.int .i64 a0_0, .string a0_1, .string a0_2, .string a0_3, .string a0_4, .int .i64 a0_5, .int .i64 a0_6, .int .i64 a0_7] 30 (0, 0)) (by (with_reducible repeat (first | refine blk_drewN ?_ _ | refine blk_drew ?_ | refine blk_alloc ?_ _)); exact BK101.out) hb); have n1_ := Aside0.mk (below_step (by repeat (first | (with_reducible first | exact HB.out | apply below_alloc | apply pw_below_drewN | apply below_drew1 | refine below_set ?_ GE101.out) | exact HB.out)) hb); clear BK101; clear HB; have BK101 := n0_; have HB := n1_; clear n0_ n1_; (try clear hb); (try clear hb2); (try clear hk); (try clear hi)))
  go_ret
  exact ⟨by first | rfl | (simp [errW_none, errW_some] <;> rfl) | (simp [*, errW_none, errW_some] <;> rfl), by repeat (first | (with_reducible first | exact HB.out | apply below_alloc | apply pw_below_drewN | apply below_drew1 | refine below_set ?_ GE101.out) | exact HB.out)⟩
 ·replace c4 := Bool.eq_false_iff.mpr c4
  subst c4
  have H1 : (some false) = some r := by rw [if_neg (show ¬ (false = true) by decide)] at H; exact H
  clear H
  have H := H1
  clear H1
  obtain rfl := Option.some.inj H
  go_enter Try.func45, Try.ntmps45
  go_wp2_with (first | ((with_reducible refine gate_dst (N := 2) rfl ?_); refine box_event ?hg (N := 2) ?hd (cs := #[.int .i64 a0_0, .string a0_1, .string a0_2, .string a0_3, .string a0_4, .int .i64 a0_5, .int .i64 a0_6, .int .i64 a0_7]) (t := 30) ?hr ?_; (case hd => rfl); (case hg => rfl); (case hr => first | (go_simp; done) | (go_simp; rfl)); intro gb101 hg w8 hbox hb; have n0_ := Aside0.mk (below_step (by repeat (first | (with_reducible first | exact HB.out | apply below_alloc | apply pw_below_drewN | apply below_drew1) | exact HB.out)) hb); have n1_ := Aside0.mk (hbox); have n2_ := Aside0.mk ((by rw [hg]; exact (below_size (by repeat (first | (with_reducible first | exact HB.out | apply below_alloc | apply pw_below_drewN | apply below_drew1) | exact HB.out))) : w.heap.size ≤ gb101)); have n3_ := Aside0.mk ((by rw [hg]; exact (below_size (by repeat (first | (with_reducible first | exact HB.out | apply below_alloc | apply pw_below_drewN | apply below_drew1) | exact HB.out))) : w.heap.size ≤ gb101)); clear HB; have HB := n0_; have BK101 := n1_; have GW101 := n2_; have GE101 := n3_; clear n0_ n1_ n2_ n3_; clear hb hbox hg; have hcz9_0 : w8.cell? ⟨gb101, 0, none⟩ = some (.int .i64 a0_0) := (blk_cell BK101.out 0).trans rfl; have hcz9_1 : w8.cell? ⟨gb101, 1, none⟩ = some (.string a0_1) := (blk_cell BK101.out 1).trans rfl; have hcz9_2 : w8.cell? ⟨gb101, 2, none⟩ = some (.string a0_2) := (blk_cell BK101.out 2).trans rfl; have hcz9_3 : w8.cell? ⟨gb101, 3, none⟩ = some (.string a0_3) := (blk_cell BK101.out 3).trans rfl; have hcz9_4 : w8.cell? ⟨gb101, 4, none⟩ = some (.string a0_4) := (blk_cell BK101.out 4).trans rfl; have hcz9_5 : w8.cell? ⟨gb101, 5, none⟩ = some (.int .i64 a0_5) := (blk_cell BK101.out 5).trans rfl; have hcz9_6 : w8.cell? ⟨gb101, 6, none⟩ = some (.int .i64 a0_6) := (blk_cell BK101.out 6).trans rfl; have hcz9_7 : w8.cell? ⟨gb101, 7, none⟩ = some (.int .i64 a0_7) := (blk_cell BK101.out 7).trans rfl; have hfz9_0 := blk_frozen BK101.out 0; have hfz9_1 := blk_frozen BK101.out 1; have hfz9_2 := blk_frozen BK101.out 2; have hfz9_3 := blk_frozen BK101.out 3; have hfz9_4 := blk_frozen BK101.out 4; have hfz9_5 := blk_frozen BK101.out 5; have hfz9_6 := blk_frozen BK101.out 6; have hfz9_7 := blk_frozen BK101.out 7) | ((with_reducible refine gate_callee (f := 20) rfl ?_); refine goesL_ (some 9) rfl rfl Try.func20 (by kernel_rfl) rfl #[.agg #[.int .i64 a0_0, .string a0_1, .string a0_2, .string a0_3, .string a0_4, .int .i64 a0_5, .int .i64 a0_6, .int .i64 a0_7]] rfl (by (try simp only [List.map_toArray, List.map_cons, List.map_nil]); first | done | rfl | (simp only [List.length_drop, List.length_take]; rfl)) ?_; (with_reducible refine (cfg_Def.calls a0_0 a0_1 a0_2 a0_3 a0_4 a0_5 a0_6 a0_7 t102 false _ A3.out).mono ?_); rintro e w10 ⟨rfl, hb⟩; refine ⟨_, rfl, ?_⟩; have n0_ := Aside0.mk (blk_below (g := gb101) (o := .cells #[.int .i64 a0_0, .string a0_1, .string a0_2, .string a0_3, .string a0_4, .int .i64 a0_5, .int .i64 a0_6, .int .i64 a0_7] 30 (0, 0)) (by (with_reducible repeat (first | refine blk_drewN ?_ _ | refine blk_drew ?_ | refine blk_alloc ?_ _)); exact BK101.out) hb); have n1_ := Aside0.mk (below_step (by repeat (first | (with_reducible first | exact HB.out | apply below_alloc | apply pw_below_drewN | apply below_drew1 | refine below_set ?_ GE101.out) | exact HB.out)) hb); clear BK101; clear HB; have BK101 := n0_; have HB := n1_; clear n0_ n1_; (try clear hb); (try clear hb2); (try clear hk); (try clear hi)))
  go_ret
  exact ⟨by first | rfl | (simp [errW_none, errW_some] <;> rfl) | (simp [*, errW_none, errW_some] <;> rfl), by repeat (first | (with_reducible first | exact HB.out | apply below_alloc | apply pw_below_drewN | apply below_drew1 | refine below_set ?_ GE101.out) | exact HB.out)⟩
end Go.Proofs.Ytnepgcbgkhikkaa.H
/-
  DERIVED: THE SHELF's CONTRACTS AT THIS DUMP, IN PLAIN WORDS (tools/lay-plain.mjs out of 'TryShelf.lean', which tools/lay-shelf.mjs wrote): THE SAME DECLARATIONS UNDER THE SAME NAMES: 'import', 'namespace', 'open', 'def', 'theorem' AND NOTHING ELSE: no command of the shelf's: FOR A HAND-IN. Each laying: the table of numbers ('.._ren') and one theorem, a field a fact of the dump's own or the kernel's comparison; each contract: ONE APPLICATION.
-/
namespace Go.Proofs
open Go.Shelf
def Try.lays189_ren : Go.Shelf.Ren := ⟨fun | 189 => 63 | 125 => 80 | 257 => 79 | 128 => 94 | 129 => 95 | 294 => 85 | 295 => 86 | 296 => 87 | 297 => 88 | 298 => 89 | 299 => 90 | 216 => 91 | 300 => 92 | 301 => 93 | 328 => 106 | 329 => 107 | 330 => 108 | 331 => 109 | 332 => 110 | 215 => 111 | 343 => 116 | n => n, fun | 28 => 25 | 3 => 3 | 46 => 104 | 0 => 0 | 51 => 118 | 53 => 120 | 4 => 4 | 183 => 110 | 182 => 109 | 131 => 115 | 5 => 5 | 9 => 9 | 218 => 128 | 222 => 132 | 228 => 137 | 229 => 138 | n => n, fun | n => n⟩
theorem Try.lays189 : Go.Proofs.Lays.n189 Try.prog Try.lays189_ren := {
  mixed := by kernel_rfl
  f125 := Try.func80.trans (congrArg some (by kernel_rfl))
  f128 := Try.func94.trans (congrArg some (by kernel_rfl))
  f129 := Try.func95.trans (congrArg some (by kernel_rfl))
  f189 := Try.func63.trans (congrArg some (by kernel_rfl))
  f215 := Try.func111.trans (congrArg some (by kernel_rfl))
  f216 := Try.func91.trans (congrArg some (by kernel_rfl))
  f257 := Try.func79.trans (congrArg some (by kernel_rfl))
  f294 := Try.func85.trans (congrArg some (by kernel_rfl))
  f295 := Try.func86.trans (congrArg some (by kernel_rfl))
  f296 := Try.func87.trans (congrArg some (by kernel_rfl))
  f297 := Try.func88.trans (congrArg some (by kernel_rfl))
  f298 := Try.func89.trans (congrArg some (by kernel_rfl))
  f299 := Try.func90.trans (congrArg some (by kernel_rfl))
  f300 := Try.func92.trans (congrArg some (by kernel_rfl))
  f301 := Try.func93.trans (congrArg some (by kernel_rfl))
  f328 := Try.func106.trans (congrArg some (by kernel_rfl))
  f329 := Try.func107.trans (congrArg some (by kernel_rfl))
  f330 := Try.func108.trans (congrArg some (by kernel_rfl))
  f331 := Try.func109.trans (congrArg some (by kernel_rfl))
  f332 := Try.func110.trans (congrArg some (by kernel_rfl))
  f343 := Try.func116.trans (congrArg some (by kernel_rfl))
  t0 := Try.underlying0
  a0 := Try.isAgg0
  z0 := Try.sizeOf0
  v0 := Try.zeroValue0
  t3 := Try.underlying3
  a3 := Try.isAgg3
  z3 := Try.sizeOf3
  v3 := Try.zeroValue3
  t4 := Try.underlying4
  a4 := Try.isAgg4
  z4 := Try.sizeOf4
  v4 := Try.zeroValue4
  t5 := Try.underlying5
  a5 := Try.isAgg5
  z5 := Try.sizeOf5
  v5 := Try.zeroValue5
  t9 := Try.underlying9
  a9 := Try.isAgg9
  z9 := Try.sizeOf9
  v9 := Try.zeroValue9
  t28 := Try.underlying25
  a28 := Try.isAgg25
  z28 := Try.sizeOf25
  v28 := Try.zeroValue25
  t46 := Try.underlying104
  a46 := Try.isAgg104
  z46 := Try.sizeOf104
  v46 := Try.zeroValue104
  t51 := Try.underlying118
  a51 := Try.isAgg118
  z51 := Try.sizeOf118
  v51 := Try.zeroValue118
  t53 := Try.underlying120
  a53 := Try.isAgg120
  z53 := Try.sizeOf120
  v53 := Try.zeroValue120
  t131 := Try.underlying115
  a131 := Try.isAgg115
  z131 := Try.sizeOf115
  v131 := Try.zeroValue115
  t182 := Try.underlying109
  a182 := Try.isAgg109
  z182 := Try.sizeOf109
  v182 := Try.zeroValue109
  t183 := Try.underlying110
  a183 := Try.isAgg110
  z183 := Try.sizeOf110
  v183 := Try.zeroValue110
  t218 := Try.underlying128
  a218 := Try.isAgg128
  z218 := Try.sizeOf128
  v218 := Try.zeroValue128
  t222 := Try.underlying132
  a222 := Try.isAgg132
  z222 := Try.sizeOf132
  v222 := Try.zeroValue132
  t228 := Try.underlying137
  a228 := Try.isAgg137
  z228 := Try.sizeOf137
  v228 := Try.zeroValue137
  t229 := Try.underlying138
  a229 := Try.isAgg138
  z229 := Try.sizeOf138
  v229 := Try.zeroValue138 }
open Go.Sort Go.RowKit in
theorem Try.slices_Sort_int (blk off cap : Nat) (zs : List Int) (w : World) (hH : Holds (Value.int .i64) w blk off zs.toArray) (hblk : blk < w.heap.size) (hsz : zs.length < 4611686018427387904) :
    Calls Try.prog 63 #[.slice (some ⟨blk, off, none⟩) zs.length cap] w fun e w' =>
      e = .returned (.tuple #[]) ∧ ∃ n os, w' = grow (putRow (Value.int .i64) (Sort.ahead w n) blk off (zs.mergeSort fun x y => decide (x ≤ y)).toArray) os := Any.slices_Sort_int Try.lays189 blk off cap zs w hH hblk hsz
def Try.lays190_ren : Go.Shelf.Ren := ⟨fun | 190 => 67 | 125 => 80 | 258 => 81 | 128 => 94 | 129 => 95 | 302 => 96 | 303 => 97 | 304 => 98 | 305 => 99 | 306 => 100 | 307 => 101 | 308 => 102 | 309 => 103 | 310 => 104 | 333 => 112 | 329 => 107 | 330 => 108 | 334 => 113 | 335 => 114 | 336 => 115 | 344 => 117 | n => n, fun | 31 => 32 | 9 => 9 | 3 => 3 | 46 => 104 | 0 => 0 | 51 => 118 | 53 => 120 | 4 => 4 | 183 => 110 | 182 => 109 | 131 => 115 | 5 => 5 | 218 => 128 | 222 => 132 | 228 => 137 | 229 => 138 | n => n, fun | n => n⟩
theorem Try.lays190 : Go.Proofs.Lays.n190 Try.prog Try.lays190_ren := {
  mixed := by kernel_rfl
  f125 := Try.func80.trans (congrArg some (by kernel_rfl))
  f128 := Try.func94.trans (congrArg some (by kernel_rfl))
  f129 := Try.func95.trans (congrArg some (by kernel_rfl))
  f190 := Try.func67.trans (congrArg some (by kernel_rfl))
  f258 := Try.func81.trans (congrArg some (by kernel_rfl))
  f302 := Try.func96.trans (congrArg some (by kernel_rfl))
  f303 := Try.func97.trans (congrArg some (by kernel_rfl))
  f304 := Try.func98.trans (congrArg some (by kernel_rfl))
  f305 := Try.func99.trans (congrArg some (by kernel_rfl))
  f306 := Try.func100.trans (congrArg some (by kernel_rfl))
  f307 := Try.func101.trans (congrArg some (by kernel_rfl))
  f308 := Try.func102.trans (congrArg some (by kernel_rfl))
  f309 := Try.func103.trans (congrArg some (by kernel_rfl))
  f310 := Try.func104.trans (congrArg some (by kernel_rfl))
  f329 := Try.func107.trans (congrArg some (by kernel_rfl))
  f330 := Try.func108.trans (congrArg some (by kernel_rfl))
  f333 := Try.func112.trans (congrArg some (by kernel_rfl))
  f334 := Try.func113.trans (congrArg some (by kernel_rfl))
  f335 := Try.func114.trans (congrArg some (by kernel_rfl))
  f336 := Try.func115.trans (congrArg some (by kernel_rfl))
  f344 := Try.func117.trans (congrArg some (by kernel_rfl))
  t0 := Try.underlying0
  a0 := Try.isAgg0
  z0 := Try.sizeOf0
  v0 := Try.zeroValue0
  t3 := Try.underlying3
  a3 := Try.isAgg3
  z3 := Try.sizeOf3
  v3 := Try.zeroValue3
  t4 := Try.underlying4
  a4 := Try.isAgg4
  z4 := Try.sizeOf4
  v4 := Try.zeroValue4
  t5 := Try.underlying5
  a5 := Try.isAgg5
  z5 := Try.sizeOf5
  v5 := Try.zeroValue5
  t9 := Try.underlying9
  a9 := Try.isAgg9
  z9 := Try.sizeOf9
  v9 := Try.zeroValue9
  t31 := Try.underlying32
  a31 := Try.isAgg32
  z31 := Try.sizeOf32
  v31 := Try.zeroValue32
  t46 := Try.underlying104
  a46 := Try.isAgg104
  z46 := Try.sizeOf104
  v46 := Try.zeroValue104
  t51 := Try.underlying118
  a51 := Try.isAgg118
  z51 := Try.sizeOf118
  v51 := Try.zeroValue118
  t53 := Try.underlying120
  a53 := Try.isAgg120
  z53 := Try.sizeOf120
  v53 := Try.zeroValue120
  t131 := Try.underlying115
  a131 := Try.isAgg115
  z131 := Try.sizeOf115
  v131 := Try.zeroValue115
  t182 := Try.underlying109
  a182 := Try.isAgg109
  z182 := Try.sizeOf109
  v182 := Try.zeroValue109
  t183 := Try.underlying110
  a183 := Try.isAgg110
  z183 := Try.sizeOf110
  v183 := Try.zeroValue110
  t218 := Try.underlying128
  a218 := Try.isAgg128
  z218 := Try.sizeOf128
  v218 := Try.zeroValue128
  t222 := Try.underlying132
  a222 := Try.isAgg132
  z222 := Try.sizeOf132
  v222 := Try.zeroValue132
  t228 := Try.underlying137
  a228 := Try.isAgg137
  z228 := Try.sizeOf137
  v228 := Try.zeroValue137
  t229 := Try.underlying138
  a229 := Try.isAgg138
  z229 := Try.sizeOf138
  v229 := Try.zeroValue138 }
open Go.Sort Go.RowKit in
theorem Try.slices_Sort_string (blk off cap : Nat) (ss : List (List UInt8)) (w : World) (hH : Holds encStr w blk off ss.toArray) (hblk : blk < w.heap.size) (hsz : ss.length < 4611686018427387904) :
    Calls Try.prog 67 #[.slice (some ⟨blk, off, none⟩) ss.length cap] w fun e w' =>
      e = .returned (.tuple #[]) ∧ ∃ n os, w' = grow (putRow encStr (Sort.ahead w n) blk off (ss.mergeSort fun x y => decide (x ≤ y)).toArray) os := Any.slices_Sort_string Try.lays190 blk off cap ss w hH hblk hsz
def Try.laysNm215_ren : Go.Shelf.Ren := ⟨fun | 15 => 61 | n => n, fun | 22 => 25 | 3 => 3 | 4 => 4 | n => n, fun | n => n⟩
theorem Try.laysNm215 : Go.Proofs.Lays2.n15 Try.prog Try.laysNm215_ren := {
  mixed := by kernel_rfl
  f15 := Try.func61.trans (congrArg some (by kernel_rfl))
  t3 := Try.underlying3
  a3 := Try.isAgg3
  z3 := Try.sizeOf3
  v3 := Try.zeroValue3
  t4 := Try.underlying4
  a4 := Try.isAgg4
  z4 := Try.sizeOf4
  v4 := Try.zeroValue4
  t22 := Try.underlying25
  a22 := Try.isAgg25
  z22 := Try.sizeOf25
  v22 := Try.zeroValue25
  i3 := by kernel_rfl }
open Go.RowKit Go.Lib in
/-- slices.Clone at []int: "Clone returns a copy of the slice. The elements are copied using assignment, so this is a shallow clone. The result may have additional unused capacity. The result preserves the nilness of s.": OF A SLICE THAT IS NOT nil IT RETURNS A SLICE THAT IS NOT nil, OF THE SAME ELEMENTS, IN MEMORY OF THE CALL's OWN: in the how-to's words (6f): 'w'.ownsRow B e 1 v' n cells': v' begins at the head of a row among the blocks from B on (B: the heap's size at the call), not frozen, whose first cells are the elements · 'Below B w w'': below B all is as it was. The capacity is whatever the run-time gives. 'zs': what the cells behind the slice's address hold; 'zs.take n': its elements. (LAID: no walk: one application.) -/
theorem Try.slices_Clone_int (b off n c : Nat) (zs : List Int) (w : World) (hz : n ≤ zs.length) (hbig : n * 8 ≤ 140737488355328) (hc : ∀ j, j < zs.length → w.cell? ⟨b, off + j, none⟩ = some (.int .i64 (zs.getD j 0))) :
    Calls Try.prog 61 #[.slice (some ⟨b, off, none⟩) n c] w fun e w' => ∃ v', e = .returned v' ∧ w'.ownsRow w.heap.size 3 1 v' n ((zs.take n).map (Value.int .i64)) ∧ v' ≠ .slice none 0 0 ∧ Below w.heap.size w w' := Any.slices_Clone_int Try.laysNm215 b off n c zs w hz hbig hc
open Go.RowKit Go.Lib in
/-- The same at nil: nil comes back; the world is as it was. (LAID: no walk: one application.) -/
theorem Try.slices_Clone_int_nil (n c : Nat) (w : World) :
    Calls Try.prog 61 #[.slice none n c] w fun e w' => e = .returned (.slice none 0 0) ∧ w' = w := Any.slices_Clone_int_nil Try.laysNm215 n c w
def Try.laysNm216_ren : Go.Shelf.Ren := ⟨fun | 16 => 66 | n => n, fun | 24 => 32 | 9 => 9 | 4 => 4 | n => n, fun | n => n⟩
theorem Try.laysNm216 : Go.Proofs.Lays2.n16 Try.prog Try.laysNm216_ren := {
  mixed := by kernel_rfl
  f16 := Try.func66.trans (congrArg some (by kernel_rfl))
  t4 := Try.underlying4
  a4 := Try.isAgg4
  z4 := Try.sizeOf4
  v4 := Try.zeroValue4
  t9 := Try.underlying9
  a9 := Try.isAgg9
  z9 := Try.sizeOf9
  v9 := Try.zeroValue9
  t24 := Try.underlying32
  a24 := Try.isAgg32
  z24 := Try.sizeOf32
  v24 := Try.zeroValue32
  i9 := by kernel_rfl }
open Go.RowKit Go.Lib in
/-- slices.Clone at []string: "Clone returns a copy of the slice. The elements are copied using assignment, so this is a shallow clone. The result may have additional unused capacity. The result preserves the nilness of s.": OF A SLICE THAT IS NOT nil IT RETURNS A SLICE THAT IS NOT nil, OF THE SAME ELEMENTS, IN MEMORY OF THE CALL's OWN: in the how-to's words (6f): 'w'.ownsRow B e 1 v' n cells': v' begins at the head of a row among the blocks from B on (B: the heap's size at the call), not frozen, whose first cells are the elements · 'Below B w w'': below B all is as it was. The capacity is whatever the run-time gives. 'zs': what the cells behind the slice's address hold; 'zs.take n': its elements. (LAID: no walk: one application.) -/
theorem Try.slices_Clone_string (b off n c : Nat) (zs : List ByteArray) (w : World) (hz : n ≤ zs.length) (hbig : n * 16 ≤ 140737488355328) (hc : ∀ j, j < zs.length → w.cell? ⟨b, off + j, none⟩ = some (.string (zs.getD j ByteArray.empty))) :
    Calls Try.prog 66 #[.slice (some ⟨b, off, none⟩) n c] w fun e w' => ∃ v', e = .returned v' ∧ w'.ownsRow w.heap.size 9 1 v' n ((zs.take n).map (Value.string)) ∧ v' ≠ .slice none 0 0 ∧ Below w.heap.size w w' := Any.slices_Clone_string Try.laysNm216 b off n c zs w hz hbig hc
open Go.RowKit Go.Lib in
/-- The same at nil: nil comes back; the world is as it was. (LAID: no walk: one application.) -/
theorem Try.slices_Clone_string_nil (n c : Nat) (w : World) :
    Calls Try.prog 66 #[.slice none n c] w fun e w' => e = .returned (.slice none 0 0) ∧ w' = w := Any.slices_Clone_string_nil Try.laysNm216 n c w
open Go.RowKit Go.Lib in
/-- The same at a slice of length 0 that is not nil, WHATEVER ITS ADDRESS (no cell is asked for): a slice that is not nil and owns nothing comes back. (LAID: no walk: one application.) -/
theorem Try.slices_Clone_int_zero (a : Addr) (c : Nat) (w : World) :
    Calls Try.prog 61 #[.slice (some a) 0 c] w fun e w' => ∃ v', e = .returned v' ∧ w'.ownsRow w.heap.size 3 1 v' 0 [] ∧ v' ≠ .slice none 0 0 ∧ Below w.heap.size w w' := Any.slices_Clone_int_zero Try.laysNm215 a c w
open Go.RowKit Go.Lib in
/-- The same at a slice of length 0 that is not nil, WHATEVER ITS ADDRESS (no cell is asked for): a slice that is not nil and owns nothing comes back. (LAID: no walk: one application.) -/
theorem Try.slices_Clone_string_zero (a : Addr) (c : Nat) (w : World) :
    Calls Try.prog 66 #[.slice (some a) 0 c] w fun e w' => ∃ v', e = .returned v' ∧ w'.ownsRow w.heap.size 9 1 v' 0 [] ∧ v' ≠ .slice none 0 0 ∧ Below w.heap.size w w' := Any.slices_Clone_string_zero Try.laysNm216 a c w
def Try.laysNm220_ren : Go.Shelf.Ren := ⟨fun | 20 => 64 | n => n, fun | 22 => 25 | 3 => 3 | 4 => 4 | 0 => 0 | n => n, fun | n => n⟩
theorem Try.laysNm220 : Go.Proofs.Lays2.n20 Try.prog Try.laysNm220_ren := {
  mixed := by kernel_rfl
  f20 := Try.func64.trans (congrArg some (by kernel_rfl))
  t0 := Try.underlying0
  a0 := Try.isAgg0
  z0 := Try.sizeOf0
  v0 := Try.zeroValue0
  t3 := Try.underlying3
  a3 := Try.isAgg3
  z3 := Try.sizeOf3
  v3 := Try.zeroValue3
  t4 := Try.underlying4
  a4 := Try.isAgg4
  z4 := Try.sizeOf4
  v4 := Try.zeroValue4
  t22 := Try.underlying25
  a22 := Try.isAgg25
  z22 := Try.sizeOf25
  v22 := Try.zeroValue25
  i3 := by kernel_rfl }
open Go.RowKit Go.Lib Go.Sort in
/-- slices.Compact at []int, over an array: the library's two loops are walked. (LAID: no walk: one application.) -/
theorem Try.slices_Compact_int_arr (blk off cap : Nat) (d : Array Int) (w : World) (hH : Holds encI w blk off d) (hsz : d.size ≤ 9223372036854775807) (hcap : d.size ≤ cap) :
    Calls Try.prog 64 #[.slice (some ⟨blk, off, none⟩) d.size cap] w fun e w' => e = .returned (.slice (some ⟨blk, off, none⟩) (compactUpTo d d.size).length cap) ∧ ∃ q, w' = putRow encI (Sort.ahead w q) blk off (compactUpTo d d.size ++ List.replicate (d.size - (compactUpTo d d.size).length) 0).toArray := Any.slices_Compact_int_arr Try.laysNm220 blk off cap d w hH hsz hcap
open Go.RowKit Go.Lib Go.Sort in
/-- slices.Compact at []int: "Compact replaces consecutive runs of equal elements with a single copy. This is like the uniq command found on Unix. Compact modifies the contents of the slice s and returns the modified slice, which may have a smaller length. Compact zeroes the elements between the new length and the original length. The result preserves the nilness of s.": IT RETURNS THE SLICE CUT TO 'Lib.compact zs'; ITS CELLS HOLD 'Lib.compact zs', THEN ZERO VALUES up to the old length; all else is as it was, but for the count of draws. IN THE WORDS OF slices.Sort's CONTRACT ('Holds', 'putRow'): so the everyday 'slices.Sort(xs); xs = slices.Compact(xs)' goes from the one contract to the other. It asks 'zs.length ≤ cap' (every slice's: the reslicing 's[:k]' looks at it). Length 0, nil: '.._empty'. (LAID: no walk: one application.) -/
theorem Try.slices_Compact_int (blk off cap : Nat) (zs : List Int) (w : World) (hH : Holds (Value.int .i64) w blk off zs.toArray) (hsz : zs.length ≤ 9223372036854775807) (hcap : zs.length ≤ cap) :
    Calls Try.prog 64 #[.slice (some ⟨blk, off, none⟩) zs.length cap] w fun e w' => e = .returned (.slice (some ⟨blk, off, none⟩) (Lib.compact zs).length cap) ∧ ∃ q, w' = putRow (Value.int .i64) (Sort.ahead w q) blk off (Lib.compact zs ++ List.replicate (zs.length - (Lib.compact zs).length) 0).toArray := Any.slices_Compact_int Try.laysNm220 blk off cap zs w hH hsz hcap
open Go.RowKit Go.Lib Go.Sort in
/-- The same at a slice of length 0, a nil one too: it comes back as it is. (LAID: no walk: one application.) -/
theorem Try.slices_Compact_int_empty (a : Option Addr) (cap : Nat) (w : World) :
    Calls Try.prog 64 #[.slice a 0 cap] w fun e w' => e = .returned (.slice a 0 cap) ∧ w' = w := Any.slices_Compact_int_empty Try.laysNm220 a cap w
def Try.lays194_ren : Go.Shelf.Ren := ⟨fun | 194 => 68 | n => n, fun | 31 => 32 | 9 => 9 | 3 => 3 | 4 => 4 | 0 => 0 | n => n, fun | n => n⟩
theorem Try.lays194 : Go.Proofs.Lays.n194 Try.prog Try.lays194_ren := {
  mixed := by kernel_rfl
  f194 := Try.func68.trans (congrArg some (by kernel_rfl))
  t0 := Try.underlying0
  a0 := Try.isAgg0
  z0 := Try.sizeOf0
  v0 := Try.zeroValue0
  t3 := Try.underlying3
  a3 := Try.isAgg3
  z3 := Try.sizeOf3
  v3 := Try.zeroValue3
  t4 := Try.underlying4
  a4 := Try.isAgg4
  z4 := Try.sizeOf4
  v4 := Try.zeroValue4
  t9 := Try.underlying9
  a9 := Try.isAgg9
  z9 := Try.sizeOf9
  v9 := Try.zeroValue9
  t31 := Try.underlying32
  a31 := Try.isAgg32
  z31 := Try.sizeOf32
  v31 := Try.zeroValue32 }
open Go.RowKit Go.Lib Go.Sort in
/-- slices.Compact at []string, over an array: the library's two loops are walked. (LAID: no walk: one application.) -/
theorem Try.slices_Compact_string_arr (blk off cap : Nat) (d : Array (List UInt8)) (w : World) (hH : Holds encStr w blk off d) (hsz : d.size ≤ 9223372036854775807) (hcap : d.size ≤ cap) :
    Calls Try.prog 68 #[.slice (some ⟨blk, off, none⟩) d.size cap] w fun e w' => e = .returned (.slice (some ⟨blk, off, none⟩) (compactUpTo d d.size).length cap) ∧ ∃ q, w' = putRow encStr (Sort.ahead w q) blk off (compactUpTo d d.size ++ List.replicate (d.size - (compactUpTo d d.size).length) []).toArray := Any.slices_Compact_string_arr Try.lays194 blk off cap d w hH hsz hcap
open Go.RowKit Go.Lib Go.Sort in
/-- slices.Compact at []string: "Compact replaces consecutive runs of equal elements with a single copy. This is like the uniq command found on Unix. Compact modifies the contents of the slice s and returns the modified slice, which may have a smaller length. Compact zeroes the elements between the new length and the original length. The result preserves the nilness of s.": IT RETURNS THE SLICE CUT TO 'Lib.compact zs'; ITS CELLS HOLD 'Lib.compact zs', THEN ZERO VALUES up to the old length; all else is as it was, but for the count of draws. IN THE WORDS OF slices.Sort's CONTRACT ('Holds', 'putRow'): so the everyday 'slices.Sort(xs); xs = slices.Compact(xs)' goes from the one contract to the other. It asks 'zs.length ≤ cap' (every slice's: the reslicing 's[:k]' looks at it). Length 0, nil: '.._empty'. (LAID: no walk: one application.) -/
theorem Try.slices_Compact_string (blk off cap : Nat) (zs : List (List UInt8)) (w : World) (hH : Holds encStr w blk off zs.toArray) (hsz : zs.length ≤ 9223372036854775807) (hcap : zs.length ≤ cap) :
    Calls Try.prog 68 #[.slice (some ⟨blk, off, none⟩) zs.length cap] w fun e w' => e = .returned (.slice (some ⟨blk, off, none⟩) (Lib.compact zs).length cap) ∧ ∃ q, w' = putRow encStr (Sort.ahead w q) blk off (Lib.compact zs ++ List.replicate (zs.length - (Lib.compact zs).length) []).toArray := Any.slices_Compact_string Try.lays194 blk off cap zs w hH hsz hcap
open Go.RowKit Go.Lib Go.Sort in
/-- The same at a slice of length 0, a nil one too: it comes back as it is. (LAID: no walk: one application.) -/
theorem Try.slices_Compact_string_empty (a : Option Addr) (cap : Nat) (w : World) :
    Calls Try.prog 68 #[.slice a 0 cap] w fun e w' => e = .returned (.slice a 0 cap) ∧ w' = w := Any.slices_Compact_string_empty Try.lays194 a cap w
def Try.laysNm237_ren : Go.Shelf.Ren := ⟨fun | 37 => 111 | n => n, fun | 3 => 3 | 4 => 4 | n => n, fun | n => n⟩
theorem Try.laysNm237 : Go.Proofs.Lays2.n37 Try.prog Try.laysNm237_ren := {
  mixed := by kernel_rfl
  f37 := Try.func111.trans (congrArg some (by kernel_rfl))
  t3 := Try.underlying3
  a3 := Try.isAgg3
  z3 := Try.sizeOf3
  v3 := Try.zeroValue3
  t4 := Try.underlying4
  a4 := Try.isAgg4
  z4 := Try.sizeOf4
  v4 := Try.zeroValue4 }
open Go.RowKit Go.Lib in
/-- cmp.isNaN[int]: 'x != x': false. (LAID: no walk: one application.) -/
theorem Try.cmp_isNaN_int2 (x : Int) (w : World) :
    Calls Try.prog 111 #[.int .i64 x] w fun e w' => e = .returned (.bool false) ∧ w' = w := Any.cmp_isNaN_int2 Try.laysNm237 x w
def Try.laysNm231_ren : Go.Shelf.Ren := ⟨fun | 31 => 91 | 37 => 111 | n => n, fun | 3 => 3 | 4 => 4 | n => n, fun | n => n⟩
theorem Try.laysNm231 : Go.Proofs.Lays2.n31 Try.prog Try.laysNm231_ren := {
  mixed := by kernel_rfl
  f31 := Try.func91.trans (congrArg some (by kernel_rfl))
  f37 := Try.func111.trans (congrArg some (by kernel_rfl))
  t3 := Try.underlying3
  a3 := Try.isAgg3
  z3 := Try.sizeOf3
  v3 := Try.zeroValue3
  t4 := Try.underlying4
  a4 := Try.isAgg4
  z4 := Try.sizeOf4
  v4 := Try.zeroValue4 }
open Go.RowKit Go.Lib in
/-- cmp.Less[int]: "Less reports whether x is less than y.": 'x < y'; the world is as it was. (LAID: no walk: one application.) -/
theorem Try.cmp_Less_int2 (x y : Int) (w : World) :
    Calls Try.prog 91 #[.int .i64 x, .int .i64 y] w fun e w' => e = .returned (.bool (decide (x < y))) ∧ w' = w := Any.cmp_Less_int2 Try.laysNm231 x y w
open Go.RowKit Go.Lib Go.Sort in
/-- slices.Compact at []int, of an argument: the slice cut to 'Lib.compact (elements)'; the n cells hold that, then zeros. (LAID: no walk: one application.) -/
theorem Try.slices_Compact_int_cells (b off n c : Nat) (zs : List Int) (w : World) (hz : n ≤ zs.length) (hbig : n ≤ 9223372036854775807) (hcap : n ≤ c) (hc : ∀ j, j < zs.length → w.cell? ⟨b, off + j, none⟩ = some (.int .i64 (zs.getD j 0))) (hf : ∀ j, j < n → w.frozen? ⟨b, off + j, none⟩ = false) :
    Calls Try.prog 64 #[.slice (some ⟨b, off, none⟩) n c] w fun e w' => e = .returned (.slice (some ⟨b, off, none⟩) (Lib.compact (zs.take n)).length c) ∧ ∃ q, w' = (w.drewN q).setCells b off ((Lib.compact (zs.take n) ++ List.replicate (n - (Lib.compact (zs.take n)).length) 0).map (Value.int .i64)) := Any.slices_Compact_int_cells Try.laysNm220 b off n c zs w hz hbig hcap hc hf
open Go.RowKit Go.Lib Go.Sort in
/-- slices.Compact at []string, of an argument. (LAID: no walk: one application.) -/
theorem Try.slices_Compact_string_cells (b off n c : Nat) (Sx : Nat → ByteArray) (w : World) (hbig : n ≤ 9223372036854775807) (hcap : n ≤ c) (hc : ∀ i, i < n → w.cell? ⟨b, off + i, none⟩ = some (.string (Sx i))) (hf : ∀ j, j < n → w.frozen? ⟨b, off + j, none⟩ = false) :
    Calls Try.prog 68 #[.slice (some ⟨b, off, none⟩) n c] w fun e w' => e = .returned (.slice (some ⟨b, off, none⟩) (Lib.compact (Lib.strsOf Sx n)).length c) ∧ ∃ q, w' = (w.drewN q).setCells b off ((Lib.compact (Lib.strsOf Sx n) ++ List.replicate (n - (Lib.compact (Lib.strsOf Sx n)).length) []).map encStr) := Any.slices_Compact_string_cells Try.lays194 b off n c Sx w hbig hcap hc hf
open Go.RowKit Go.Sort in
/-- .. and plain. (LAID: no walk: one application.) -/
theorem Try.slices_Sort_string_none (p : Option Addr) (cap : Nat) (w : World) :
    Calls Try.prog 67 #[.slice p 0 cap] w fun e w' => e = .returned (.tuple #[]) ∧ w' = w := Any.slices_Sort_string_none Try.lays190 p cap w
open Go.RowKit Go.Sort in
/-- .. and plain. (LAID: no walk: one application.) -/
theorem Try.slices_Sort_int_none (p : Option Addr) (cap : Nat) (w : World) :
    Calls Try.prog 63 #[.slice p 0 cap] w fun e w' => e = .returned (.tuple #[]) ∧ w' = w := Any.slices_Sort_int_none Try.lays189 p cap w
def Try.laysSlE43_f64_ren : Go.Shelf.Ren := ⟨fun | 43 => 64 | n => n, fun | 22 => 25 | 23 => 3 | 3 => 3 | 4 => 4 | 0 => 0 | n => n, fun | n => n⟩
theorem Try.laysSlE43_f64 : Go.Proofs.SlLaysE.n43 Try.prog Try.laysSlE43_f64_ren := {
  mixed := by kernel_rfl
  f43 := ⟨Try.f64.name, by decide, Try.func64.trans (congrArg some (by kernel_rfl))⟩
  t0 := Try.underlying0
  a0 := Try.isAgg0
  z0 := Try.sizeOf0
  v0 := Try.zeroValue0
  t3 := Try.underlying3
  a3 := Try.isAgg3
  z3 := Try.sizeOf3
  v3 := Try.zeroValue3
  t4 := Try.underlying4
  a4 := Try.isAgg4
  z4 := Try.sizeOf4
  v4 := Try.zeroValue4
  t22 := Try.underlying25
  a22 := Try.isAgg25
  z22 := Try.sizeOf25
  v22 := Try.zeroValue25
  a23 := Try.isAgg3
  z23 := Try.sizeOf3 }
open Go.RowKit Go.Lib Go.Sort in
/-- slices.Compact: "Compact replaces consecutive runs of equal elements with a single copy. .. Compact zeroes the elements between the new length and the original length.": IT RETURNS THE SLICE CUT TO 'compactUpTo d d.size'; ITS CELLS HOLD THAT, THEN ZERO VALUES up to the old length; the library's two loops are walked. (LAID AT THE INSTANCE 'slices.Compact[[]int,int]': no walk: one application.) -/
theorem Try.slices_Compact_f64 {α : Type} [Inhabited α] [DecidableEq α] (enc : α → Value) (hO : OneCell enc) (heq : EqlAt Try.prog 3 enc (fun x y => decide (x = y))) (hne : NeqAt Try.prog 3 enc (fun x y => decide (x = y))) (zr : α) (v23 : ∀ w, (zeroValue 3).run Try.prog w = .ok (enc zr) w) (blk off cap : Nat) (d : Array α) (w : World) (hH : Holds enc w blk off d) (hsz : d.size ≤ 9223372036854775807) (hcap : d.size ≤ cap) :
    Calls Try.prog 64 #[.slice (some ⟨blk, off, none⟩) d.size cap] w fun e w' => e = .returned (.slice (some ⟨blk, off, none⟩) (compactUpTo d d.size).length cap) ∧ ∃ q, w' = putRow enc (Sort.ahead w q) blk off (compactUpTo d d.size ++ List.replicate (d.size - (compactUpTo d d.size).length) zr).toArray := AnyE.slices_Compact Try.laysSlE43_f64 enc hO heq hne zr v23 blk off cap d w hH hsz hcap
def Try.laysSlE43_f68_ren : Go.Shelf.Ren := ⟨fun | 43 => 68 | n => n, fun | 22 => 32 | 23 => 9 | 3 => 3 | 4 => 4 | 0 => 0 | n => n, fun | n => n⟩
theorem Try.laysSlE43_f68 : Go.Proofs.SlLaysE.n43 Try.prog Try.laysSlE43_f68_ren := {
  mixed := by kernel_rfl
  f43 := ⟨Try.f68.name, by decide, Try.func68.trans (congrArg some (by kernel_rfl))⟩
  t0 := Try.underlying0
  a0 := Try.isAgg0
  z0 := Try.sizeOf0
  v0 := Try.zeroValue0
  t3 := Try.underlying3
  a3 := Try.isAgg3
  z3 := Try.sizeOf3
  v3 := Try.zeroValue3
  t4 := Try.underlying4
  a4 := Try.isAgg4
  z4 := Try.sizeOf4
  v4 := Try.zeroValue4
  t22 := Try.underlying32
  a22 := Try.isAgg32
  z22 := Try.sizeOf32
  v22 := Try.zeroValue32
  a23 := Try.isAgg9
  z23 := Try.sizeOf9 }
open Go.RowKit Go.Lib Go.Sort in
/-- slices.Compact: "Compact replaces consecutive runs of equal elements with a single copy. .. Compact zeroes the elements between the new length and the original length.": IT RETURNS THE SLICE CUT TO 'compactUpTo d d.size'; ITS CELLS HOLD THAT, THEN ZERO VALUES up to the old length; the library's two loops are walked. (LAID AT THE INSTANCE 'slices.Compact[[]string,string]': no walk: one application.) -/
theorem Try.slices_Compact_f68 {α : Type} [Inhabited α] [DecidableEq α] (enc : α → Value) (hO : OneCell enc) (heq : EqlAt Try.prog 9 enc (fun x y => decide (x = y))) (hne : NeqAt Try.prog 9 enc (fun x y => decide (x = y))) (zr : α) (v23 : ∀ w, (zeroValue 9).run Try.prog w = .ok (enc zr) w) (blk off cap : Nat) (d : Array α) (w : World) (hH : Holds enc w blk off d) (hsz : d.size ≤ 9223372036854775807) (hcap : d.size ≤ cap) :
    Calls Try.prog 68 #[.slice (some ⟨blk, off, none⟩) d.size cap] w fun e w' => e = .returned (.slice (some ⟨blk, off, none⟩) (compactUpTo d d.size).length cap) ∧ ∃ q, w' = putRow enc (Sort.ahead w q) blk off (compactUpTo d d.size ++ List.replicate (d.size - (compactUpTo d d.size).length) zr).toArray := AnyE.slices_Compact Try.laysSlE43_f68 enc hO heq hne zr v23 blk off cap d w hH hsz hcap
def Try.laysSlE041_f61_ren : Go.Shelf.Ren := ⟨fun | 41 => 61 | n => n, fun | 22 => 25 | 23 => 3 | 4 => 4 | n => n, fun | n => n⟩
theorem Try.laysSlE041_f61 : Go.Proofs.SlLaysE0.n41 Try.prog Try.laysSlE041_f61_ren := {
  mixed := by kernel_rfl
  f41 := ⟨Try.f61.name, by decide, Try.func61.trans (congrArg some (by kernel_rfl))⟩
  t4 := Try.underlying4
  a4 := Try.isAgg4
  z4 := Try.sizeOf4
  v4 := Try.zeroValue4
  t22 := Try.underlying25
  a22 := Try.isAgg25
  z22 := Try.sizeOf25
  v22 := Try.zeroValue25 }
open Go.RowKit Go.Lib in
/-- slices.Clone: "Clone returns a copy of the slice. The elements are copied using assignment, so this is a shallow clone. The result may have additional unused capacity. The result preserves the nilness of s.": OF A SLICE THAT IS NOT nil IT RETURNS A SLICE THAT IS NOT nil, OF THE SAME CELLS, IN MEMORY OF THE CALL's OWN ('ownsRow': the how-to's 6f); below the heap's size at the call all is as it was. (LAID AT THE INSTANCE 'slices.Clone[[]int,int]': no walk: one application.) -/
theorem Try.slices_Clone_f61 (i0 : TypeInfo) (z : Value) (size bytes : Nat) (hi : Try.prog.info? 3 = some i0) (hz0 : i0.zero = some z) (hz1 : i0.size = size) (hz2 : i0.bytes = bytes) (hzs : z.cells.size = size) (hsz : 0 < size) (z23 : ∀ w, (Go.sizeOf 3).run Try.prog w = .ok size w) (b off n c : Nat) (news : List Value) (w : World) (hl : news.length = n * size) (hn : n ≤ maxLen) (hbig : n * bytes ≤ 140737488355328) (hc : ∀ j u, news[j]? = some u → w.cell? ⟨b, off + j, none⟩ = some u) (h1 : ∀ u ∈ news, u.oneCell' = true) :
    Calls Try.prog 61 #[.slice (some ⟨b, off, none⟩) n c] w fun e w' => ∃ v', e = .returned v' ∧ w'.ownsRow w.heap.size 3 size v' n news ∧ v' ≠ .slice none 0 0 ∧ Below w.heap.size w w' := AnyE.slices_Clone Try.laysSlE041_f61 i0 z size bytes hi hz0 hz1 hz2 hzs hsz z23 b off n c news w hl hn hbig hc h1
def Try.laysSlE041_f66_ren : Go.Shelf.Ren := ⟨fun | 41 => 66 | n => n, fun | 22 => 32 | 23 => 9 | 4 => 4 | n => n, fun | n => n⟩
theorem Try.laysSlE041_f66 : Go.Proofs.SlLaysE0.n41 Try.prog Try.laysSlE041_f66_ren := {
  mixed := by kernel_rfl
  f41 := ⟨Try.f66.name, by decide, Try.func66.trans (congrArg some (by kernel_rfl))⟩
  t4 := Try.underlying4
  a4 := Try.isAgg4
  z4 := Try.sizeOf4
  v4 := Try.zeroValue4
  t22 := Try.underlying32
  a22 := Try.isAgg32
  z22 := Try.sizeOf32
  v22 := Try.zeroValue32 }
open Go.RowKit Go.Lib in
/-- slices.Clone: "Clone returns a copy of the slice. The elements are copied using assignment, so this is a shallow clone. The result may have additional unused capacity. The result preserves the nilness of s.": OF A SLICE THAT IS NOT nil IT RETURNS A SLICE THAT IS NOT nil, OF THE SAME CELLS, IN MEMORY OF THE CALL's OWN ('ownsRow': the how-to's 6f); below the heap's size at the call all is as it was. (LAID AT THE INSTANCE 'slices.Clone[[]string,string]': no walk: one application.) -/
theorem Try.slices_Clone_f66 (i0 : TypeInfo) (z : Value) (size bytes : Nat) (hi : Try.prog.info? 9 = some i0) (hz0 : i0.zero = some z) (hz1 : i0.size = size) (hz2 : i0.bytes = bytes) (hzs : z.cells.size = size) (hsz : 0 < size) (z23 : ∀ w, (Go.sizeOf 9).run Try.prog w = .ok size w) (b off n c : Nat) (news : List Value) (w : World) (hl : news.length = n * size) (hn : n ≤ maxLen) (hbig : n * bytes ≤ 140737488355328) (hc : ∀ j u, news[j]? = some u → w.cell? ⟨b, off + j, none⟩ = some u) (h1 : ∀ u ∈ news, u.oneCell' = true) :
    Calls Try.prog 66 #[.slice (some ⟨b, off, none⟩) n c] w fun e w' => ∃ v', e = .returned v' ∧ w'.ownsRow w.heap.size 9 size v' n news ∧ v' ≠ .slice none 0 0 ∧ Below w.heap.size w w' := AnyE.slices_Clone Try.laysSlE041_f66 i0 z size bytes hi hz0 hz1 hz2 hzs hsz z23 b off n c news w hl hn hbig hc h1
open Go.RowKit Go.Lib in
/-- The same at nil: nil comes back; the world is as it was; nothing is asked of the element's type. (LAID AT THE INSTANCE 'slices.Clone[[]int,int]': no walk: one application.) -/
theorem Try.slices_Clone_nil_f61 (n c : Nat) (w : World) :
    Calls Try.prog 61 #[.slice none n c] w fun e w' => e = .returned (.slice none 0 0) ∧ w' = w := AnyE.slices_Clone_nil Try.laysSlE041_f61 n c w
open Go.RowKit Go.Lib in
/-- The same at nil: nil comes back; the world is as it was; nothing is asked of the element's type. (LAID AT THE INSTANCE 'slices.Clone[[]string,string]': no walk: one application.) -/
theorem Try.slices_Clone_nil_f66 (n c : Nat) (w : World) :
    Calls Try.prog 66 #[.slice none n c] w fun e w' => e = .returned (.slice none 0 0) ∧ w' = w := AnyE.slices_Clone_nil Try.laysSlE041_f66 n c w
def Try.laysSlH6_f65_ren : Go.Shelf.Ren := ⟨fun | 6 => 65 | n => n, fun | 22 => 25 | 23 => 3 | 25 => 59 | 3 => 3 | 0 => 0 | 4 => 4 | n => n, fun | n => n⟩
theorem Try.laysSlH6_f65 : Go.Proofs.SlLaysH.n6 Try.prog Try.laysSlH6_f65_ren := {
  mixed := by kernel_rfl
  f6 := ⟨Try.f65.name, by decide, Try.func65.trans (congrArg some (by kernel_rfl))⟩
  t0 := Try.underlying0
  a0 := Try.isAgg0
  z0 := Try.sizeOf0
  v0 := Try.zeroValue0
  t3 := Try.underlying3
  a3 := Try.isAgg3
  z3 := Try.sizeOf3
  v3 := Try.zeroValue3
  t4 := Try.underlying4
  a4 := Try.isAgg4
  z4 := Try.sizeOf4
  v4 := Try.zeroValue4
  t22 := Try.underlying25
  a22 := Try.isAgg25
  z22 := Try.sizeOf25
  v22 := Try.zeroValue25
  a23 := Try.isAgg3
  z23 := Try.sizeOf3
  t25 := Try.underlying59
  a25 := Try.isAgg59
  z25 := Try.sizeOf59
  v25 := Try.zeroValue59 }
open Go.RowKit Go.Lib in
/-- slices.IndexFunc: "IndexFunc returns the first index i satisfying f(s[i]), or -1 if none do." (LAID AT THE INSTANCE 'slices.IndexFunc[[]int,int]': no walk: one application.) -/
theorem Try.slices_IndexFunc {α : Type} [Inhabited α] (enc : α → Value) (p : α → Bool) (g : Nat) (lb : Array Value) (eg : ∀ args w, (callFunc g args).run Try.prog w = .ok (.enter g args) w) (b off n c : Nat) (zs : List α) (w : World) (hp : PredAt Try.prog g lb enc p w) (hz : n ≤ zs.length) (hbig : n ≤ 9223372036854775807) (hc : ∀ j, j < zs.length → w.cell? ⟨b, off + j, none⟩ = some (enc zs[j]!)) :
    Calls Try.prog 65 #[.slice (some ⟨b, off, none⟩) n c, .func (.func g) #[] lb] w fun e w' => e = .returned (.int .i64 (Lib.idxBy (fun _ y => p y) (zs.take n) default)) ∧ ∃ q, w' = w.drewN q := AnyE.slices_IndexFunc Try.laysSlH6_f65 enc p g lb eg b off n c zs w hp hz hbig hc
open Go.RowKit Go.Lib in
/-- The same at a slice of length 0, a nil one too: the predicate is not called: nothing is asked of it. (LAID AT THE INSTANCE 'slices.IndexFunc[[]int,int]': no walk: one application.) -/
theorem Try.slices_IndexFunc_empty {α : Type} [Inhabited α] (a : Option Addr) (c : Nat) (fv : Value) (w : World) :
    Calls Try.prog 65 #[.slice a 0 c, fv] w fun e w' => e = .returned (.int .i64 (-1)) ∧ w' = w := AnyE.slices_IndexFunc_empty Try.laysSlH6_f65 a c fv w
def Try.laysSlH10_f48_ren : Go.Shelf.Ren := ⟨fun | 10 => 48 | 6 => 65 | n => n, fun | 22 => 25 | 23 => 3 | 25 => 59 | 3 => 3 | 4 => 4 | 0 => 0 | n => n, fun | n => n⟩
theorem Try.laysSlH10_f48 : Go.Proofs.SlLaysH.n10 Try.prog Try.laysSlH10_f48_ren := {
  mixed := by kernel_rfl
  f6 := ⟨Try.f65.name, by decide, Try.func65.trans (congrArg some (by kernel_rfl))⟩
  f10 := ⟨Try.f48.name, by decide, Try.func48.trans (congrArg some (by kernel_rfl))⟩
  t0 := Try.underlying0
  a0 := Try.isAgg0
  z0 := Try.sizeOf0
  v0 := Try.zeroValue0
  t3 := Try.underlying3
  a3 := Try.isAgg3
  z3 := Try.sizeOf3
  v3 := Try.zeroValue3
  t4 := Try.underlying4
  a4 := Try.isAgg4
  z4 := Try.sizeOf4
  v4 := Try.zeroValue4
  t22 := Try.underlying25
  a22 := Try.isAgg25
  z22 := Try.sizeOf25
  v22 := Try.zeroValue25
  a23 := Try.isAgg3
  z23 := Try.sizeOf3
  t25 := Try.underlying59
  a25 := Try.isAgg59
  z25 := Try.sizeOf59
  v25 := Try.zeroValue59 }
open Go.RowKit Go.Lib Go.Sort in
theorem Try.slices_DeleteFunc {α : Type} [Inhabited α] (enc : α → Value) (hO : OneCell enc) (p : α → Bool) (g : Nat) (lb : Array Value) (eg : ∀ args w, (callFunc g args).run Try.prog w = .ok (.enter g args) w) (zr : α) (v23 : ∀ w, (zeroValue 3).run Try.prog w = .ok (enc zr) w) (blk off cap : Nat) (d : Array α) (w : World) (hp : PredAt Try.prog g lb enc p w) (hpo : PredOver Try.prog g lb enc p blk off d.size w) (hH : Holds enc w blk off d) (hsz : d.size ≤ 9223372036854775807) (hcap : d.size ≤ cap) :
    Calls Try.prog 48 #[.slice (some ⟨blk, off, none⟩) d.size cap, .func (.func g) #[] lb] w fun e w' => e = .returned (.slice (some ⟨blk, off, none⟩) (d.toList.filter fun x => !p x).length cap) ∧ ∃ q, w' = putRow enc (Sort.ahead w q) blk off ((d.toList.filter fun x => !p x) ++ List.replicate (d.size - (d.toList.filter fun x => !p x).length) zr).toArray := AnyE.slices_DeleteFunc Try.laysSlH10_f48 enc hO p g lb eg zr v23 blk off cap d w hp hpo hH hsz hcap
end Go.Proofs
namespace Go.Proofs.Ytnepgcbgkhikkaa.H
open Go.RowKit Go.Sort Go.Proofs.YtnepgcbgkhikkaaW.PrintWords Go.Proofs.YtnepgcbgkhikkaaW.PrintLast Go.Proofs.YtnepgcbgkhikkaaW.PrintMore
set_option linter.unusedVariables false
def slices_Clone_int_int.f (l : List Int) : Option (List Int) := if l.length * 8 ≤ 140737488355328 then some l else none
theorem slices_Clone_int_int.calls (A0 : Option Addr) (c0 : Nat) (l0 r : List Int) (w : World) (hr0 : Kd.C (Kd.int .i64) w A0 l0.length l0) (_ : l0.length ≤ c0) (h : slices_Clone_int_int.f l0 = some r) :
    Calls Try.prog 61 #[.slice A0 l0.length c0] w fun e w' => ∃ v0_ : Value, e = .returned v0_ ∧ Kd.R (Kd.int .i64) 3 w' w.heap.size (fun _ => True) v0_ r ∧ Below w.heap.size w w' := by
  unfold slices_Clone_int_int.f at h
  split at h
  case isFalse => cases h
  rename_i hz
  cases h
  cases A0 with
  | none =>
    have h0 : l0 = [] := by
      rcases Nat.eq_zero_or_pos l0.length with h0 | h0
      · exact List.length_eq_zero_iff.1 h0
      · obtain ⟨ad, e, _⟩ := hr0.2.2 h0
        cases e
    subst h0
    refine (Try.slices_Clone_int_nil _ c0 w).mono ?_
    rintro e w' ⟨rfl, rfl⟩
    exact ⟨_, rfl, Kd.R_nil _ _ _ _ _, Below.refl _ _⟩
  | some a =>
    rcases Nat.eq_zero_or_pos l0.length with h0 | h0
    · obtain rfl := List.length_eq_zero_iff.1 h0
      refine (Try.slices_Clone_int_zero a c0 w).mono ?_
      rintro e w' ⟨v, rfl, ho, _, hb⟩
      exact ⟨v, rfl, Kd.R_of_own ho (fun _ _ => trivial), hb⟩
    · obtain ⟨ad, e0, hc⟩ := hr0.2.2 h0
      cases e0
      have hcell : ∀ j, j < l0.length → w.cell? (a.add j) = some (Value.int .i64 (l0.getD j 0)) := fun j hj => by
        obtain ⟨ad, e1, hx⟩ := Kd.at_int hr0 (j : Int) (by omega) (by omega)
        cases e1
        rw [Int.toNat_natCast] at hx
        rw [hx]
        simp [Go.Proofs.YtnepgcbgkhikkaaW.PrintWords.rd]
      have hs : a.spot = none := by
        have h1 := hcell 0 h0
        unfold World.cell? at h1
        cases hsp : a.spot with
        | none => rfl
        | some k =>
          simp [Addr.add, hsp] at h1
          split at h1 <;> cases h1
      obtain ⟨b, off, sp⟩ := a
      cases hs
      have hbl : w.heap.size ≥ 0 := Nat.zero_le _
      refine (Try.slices_Clone_int b off l0.length c0 l0 w (Nat.le_refl _) hz (fun j hj => ?_)).mono ?_
      · have := hcell j hj
        rwa [show (⟨b, off, none⟩ : Addr).add j = ⟨b, off + j, none⟩ by unfold Addr.add; split <;> simp_all] at this
      · rintro e w' ⟨v, rfl, ho, _, hb⟩
        rw [List.take_of_length_le (Nat.le_refl _)] at ho
        exact ⟨v, rfl, Kd.R_of_own ho (fun _ _ => trivial), hb⟩
end Go.Proofs.Ytnepgcbgkhikkaa.H
namespace Go.Proofs.Ytnepgcbgkhikkaa.H
open Go.RowKit Go.Sort Go.Proofs.YtnepgcbgkhikkaaW.PrintWords Go.Proofs.YtnepgcbgkhikkaaW.PrintLast Go.Proofs.YtnepgcbgkhikkaaW.PrintMore
set_option linter.unusedVariables false
def slices_Compact_int_int.f (l : List Int) : Option (List Int) := some (compactI l)
theorem slices_Compact_int_int.calls (P0_ : Nat → Prop) (u9000_ : Value) (l0 r : List Int) (w0 w : World) (hB : Below w0.heap.size w0 w) (ho0 : Kd.R (Kd.int .i64) 3 w w0.heap.size P0_ u9000_ l0) (h : slices_Compact_int_int.f l0 = some r) :
    Calls Try.prog 64 #[u9000_] w fun e w' => ∃ v0_ : Value, e = .returned v0_ ∧ Kd.R (Kd.int .i64) 3 w' w0.heap.size (fun k_ => (P0_ k_ ∨ w.heap.size ≤ k_)) v0_ r ∧ Below w0.heap.size w0 w' ∧ Kept w w' (fun k_ => P0_ k_) := by
  cases h
  have ho := Kd.own_of_R ho0
  obtain ⟨hlen, ho⟩ := ho
  rcases ho with ⟨rfl, h0⟩ | ⟨g, cap, cur, rfl, hbase, hb, h1, h2, h3, h4⟩
  · obtain rfl := List.length_eq_zero_iff.1 h0
    refine (Try.slices_Compact_int_empty none 0 w).mono ?_
    rintro e w' ⟨rfl, rfl⟩
    exact ⟨_, rfl, by simpa [compactI, Go.Lib.compact, Go.Lib.compactUpTo] using Kd.R_mono ho0 (fun k hk => .inl hk), hB, Kept.refl _ _⟩
  · have e4 : cur.toList.take l0.length = l0.map (Value.int .i64) := by
      rw [Nat.mul_one] at h4
      exact h4
    have hP : P0_ g := ho0.1 g rfl
    have hz : l0.length ≤ 9223372036854775807 := by unfold maxLen at h2; omega
    have c := Try.slices_Compact_int g 0 cap l0 w (so_holds hb e4) hz (by simpa using h1)
    refine c.mono ?_
    rintro e w' ⟨rfl, q, rfl⟩
    generalize ht : Go.Lib.compact l0 ++ List.replicate (l0.length - (Go.Lib.compact l0).length) (0 : Int) = ts
    have hcl : (Go.Lib.compact l0).length ≤ l0.length := by simpa [compactI] using compactI_len l0
    have hl : ts.length = l0.length := by rw [← ht]; simp; omega
    have e0 : putRow (Value.int .i64) (Sort.ahead w q) g 0 ts.toArray = grow (putRow (Value.int .i64) (Sort.ahead w q) g 0 ts.toArray) #[] := by simp
    rw [e0]
    have hgr := so_grown (w := w) (g := g) (n := q) (os := #[]) (enc := (Value.int .i64)) ts.toArray
    refine ⟨_, rfl, ?_, so_below hB hgr hbase, so_kept hgr hP⟩
    have hr := so_owns (w := w) (n := q) (os := #[]) (enc := (Value.int .i64)) (m := (Go.Lib.compact l0).length) (ts := ts) (ss := l0) hl (by rw [hl]; simpa using hcl) hbase hb (by simpa using h1) h2 h3
    refine Kd.R_of_own ?_ (fun k hk => .inl (ho0.1 k (by simpa [Value.ownBlock] using hk)))
    rw [← ht, List.take_left' rfl] at hr
    rw [show (compactI l0).length = (Go.Lib.compact l0).length by simp [compactI]]
    rw [ht] at hr
    exact hr
end Go.Proofs.Ytnepgcbgkhikkaa.H
namespace Go.Proofs.Ytnepgcbgkhikkaa.H
open Go.RowKit Go.Sort Go.Proofs.YtnepgcbgkhikkaaW.PrintWords Go.Proofs.YtnepgcbgkhikkaaW.PrintLast Go.Proofs.YtnepgcbgkhikkaaW.PrintMore
set_option linter.unusedVariables false
def slices_Sort_int_int.f (l : List Int) : Option (List Int) := if l.length < 4611686018427387904 then some (sortI l) else none
theorem slices_Sort_int_int.calls (P0_ : Nat → Prop) (u9000_ : Value) (l0 r : List Int) (w0 w : World) (hB : Below w0.heap.size w0 w) (ho0 : Kd.R (Kd.int .i64) 3 w w0.heap.size P0_ u9000_ l0) (h : slices_Sort_int_int.f l0 = some r) :
    Calls Try.prog 63 #[u9000_] w fun e w' => e = .returned (.tuple #[]) ∧ Kd.R (Kd.int .i64) 3 w' w0.heap.size (fun k_ => (P0_ k_ ∨ w.heap.size ≤ k_)) u9000_ r ∧ Below w0.heap.size w0 w' ∧ Kept w w' (fun k_ => P0_ k_) := by
  unfold slices_Sort_int_int.f at h
  split at h
  case isFalse => cases h
  rename_i hz0
  cases h
  have ho := Kd.own_of_R ho0
  obtain ⟨hlen, ho⟩ := ho
  rcases ho with ⟨rfl, h0⟩ | ⟨g, cap, cur, rfl, hbase, hb, h1, h2, h3, h4⟩
  · obtain rfl := List.length_eq_zero_iff.1 h0
    refine (Try.slices_Sort_int_none none 0 w).mono ?_
    rintro e w' ⟨rfl, rfl⟩
    exact ⟨rfl, by simpa [sortI] using Kd.R_mono ho0 (fun k hk => .inl hk), hB, Kept.refl _ _⟩
  · have e4 : cur.toList.take l0.length = l0.map (Value.int .i64) := by
      rw [Nat.mul_one] at h4
      exact h4
    have hP : P0_ g := ho0.1 g rfl
    have hg : g < w.heap.size := (Array.getElem?_eq_some_iff.1 hb).1
    have hz : l0.length < 4611686018427387904 := hz0
    have c := Try.slices_Sort_int g 0 cap l0 w (so_holds hb e4) hg hz
    refine c.mono ?_
    rintro e w' ⟨rfl, n, os, rfl⟩
    have hgr := so_grown (w := w) (g := g) (n := n) (os := os) (enc := (Value.int .i64)) (l0.mergeSort fun x y => decide (x ≤ y)).toArray
    refine ⟨rfl, ?_, so_below hB hgr hbase, so_kept hgr hP⟩
    have hr := so_owns (w := w) (n := n) (os := os) (enc := (Value.int .i64)) (m := l0.length) (ts := l0.mergeSort fun x y => decide (x ≤ y)) (ss := l0) (by simp) (by simp) hbase hb (by simpa using h1) h2 h3
    refine Kd.R_of_own ?_ (fun k hk => .inl (ho0.1 k hk))
    rw [List.take_of_length_le (by simp)] at hr
    rw [sortI_len]
    simpa [sortI, encs] using hr
end Go.Proofs.Ytnepgcbgkhikkaa.H
namespace Go.Proofs.Ytnepgcbgkhikkaa.H
open Go.RowKit Go.Proofs.YtnepgcbgkhikkaaW.PrintWords Go.Proofs.YtnepgcbgkhikkaaW.PrintLast Go.Proofs.YtnepgcbgkhikkaaW.PrintMore
attribute [local go_sem] max2_int min2_int max_two min_two max_three min_three max_four min_four
set_option linter.unusedVariables false
set_option linter.unusedSimpArgs false
def cfg_sorted_int.f (l0 : List Int) : Option (List Int) := (slices_Clone_int_int.f l0).bind fun t101 => ((slices_Sort_int_int.f t101).bind fun t104 => ((slices_Compact_int_int.f t104).bind fun t105 => (some t105)))
set_option maxHeartbeats 8000000 in
set_option maxRecDepth 100000 in
theorem cfg_sorted_int.calls (A0 : Option Addr) (c0 : Nat) (l0 : List Int) (r : List Int) (w : World) (hr0 : Kd.C (Kd.int .i64) w A0 l0.length l0) (hc0 : l0.length ≤ c0) (h : cfg_sorted_int.f l0 = some r) :
  Calls Try.prog 47 #[.slice A0 l0.length c0] w fun e w' => ∃ v0_ : Value, e = .returned (v0_) ∧ Kd.R (Kd.int .i64) 3 w' w.heap.size (fun _ => True) v0_ r ∧ Below w.heap.size w w' := by
 have HR0 := Aside0.mk hr0
 have HC0 := Aside0.mk hc0
 clear hr0 hc0
 have HB := Aside0.mk (Below.refl w.heap.size w)
 have H : ((slices_Clone_int_int.f l0).bind fun t101 => ((slices_Sort_int_int.f t101).bind fun t104 => ((slices_Compact_int_int.f t104).bind fun t105 => (some t105)))) = some r := h
 clear h
 replace H := Option.bind_eq_some_iff.mp H
 obtain ⟨t101, A20, H⟩ := H
 replace H : ((slices_Sort_int_int.f t101).bind fun t104 => ((slices_Compact_int_int.f t104).bind fun t105 => (some t105))) = some r := H
 have A2 := Aside0.mk A20
 clear A20
 replace H := Option.bind_eq_some_iff.mp H
 obtain ⟨t104, A30, H⟩ := H
 replace H : ((slices_Compact_int_int.f t104).bind fun t105 => (some t105)) = some r := H
 have A3 := Aside0.mk A30
 clear A30
 replace H := Option.bind_eq_some_iff.mp H
 obtain ⟨t105, A40, H⟩ := H
 replace H : (some t105) = some r := H
 have A4 := Aside0.mk A40
 clear A40
 obtain rfl := Option.some.inj H
 go_enter Try.func47, Try.ntmps47
 go_wp2_with (first | ((with_reducible refine gate_callee (f := 61) rfl ?_); refine goesL_ (some 5) rfl rfl Try.func61 (by kernel_rfl) rfl #[.slice A0 l0.length c0] rfl (by (try simp only [List.map_toArray, List.map_cons, List.map_nil]); first | done | rfl | (simp only [List.length_drop, List.length_take]; rfl)) ?_; (with_reducible refine (slices_Clone_int_int.calls _ _ l0 t101 _ ?side1 ?side2 A2.out).mono ?_); (case side1 => repeat (first | exact HR0.out | (with_reducible refine Kd.C_alloc ?_ _) | (with_reducible refine Kd.C_drewN ?_ _) | (with_reducible refine Kd.C_drew ?_))); (case side2 => exact HC0.out); rintro e w5 ⟨v102, rfl, ho0, hb⟩; refine ⟨_, rfl, ?_⟩; have n0_ := Aside0.mk (Kd.R_lower ho0 (below_size (by repeat (first | (with_reducible first | exact HB.out | apply below_alloc | apply pw_below_drewN | apply below_drew1) | exact HB.out)))); have n1_ := Aside0.mk (below_step (by repeat (first | (with_reducible first | exact HB.out | apply below_alloc | apply pw_below_drewN | apply below_drew1) | exact HB.out)) hb); clear HB; have HO103 := n0_; have HB := n1_; clear n0_ n1_; (try clear hb); (try clear hb2); (try clear hk); (try clear hi); (try clear ho0); obtain ⟨Ao6, co6, eo6⟩ := Kd.R_slice HO103.out; subst eo6) | ((with_reducible refine gate_callee (f := 63) rfl ?_); refine goesL_ (some 7) rfl rfl Try.func63 (by kernel_rfl) rfl #[.slice Ao6 t101.length co6] rfl (by (try simp only [List.map_toArray, List.map_cons, List.map_nil]); first | done | rfl | (simp only [List.length_drop, List.length_take]; rfl)) ?_; (with_reducible refine (slices_Sort_int_int.calls (fun k_ => some k_ = (.slice Ao6 t101.length co6 : Value).ownBlock) (.slice Ao6 t101.length co6) t101 t104 w _ ?side1 ?side2 A3.out).mono ?_); (case side1 => repeat (first | (with_reducible first | exact HB.out | apply below_alloc | apply pw_below_drewN | apply below_drew1) | exact HB.out)); (case side2 => exact Kd.R_tight rfl HO103.out); rintro e w7 ⟨rfl, hy0, hb, hkp⟩; refine ⟨_, rfl, ?_⟩; have n0_ := Aside0.mk (Kd.R_reok rfl hy0 (fun k_ e_ => HO103.out.1 k_ e_)); have n1_ := Aside0.mk (hb); clear HO103; clear HB; have HO103 := n0_; have HB := n1_; clear n0_ n1_; (try clear hb); (try clear hkp); (try clear hy0)) | ((with_reducible refine gate_callee (f := 64) rfl ?_); refine goesL_ (some 9) rfl rfl Try.func64 (by kernel_rfl) rfl #[.slice Ao6 t101.length co6] rfl (by (try simp only [List.map_toArray, List.map_cons, List.map_nil]); first | done | rfl | (simp only [List.length_drop, List.length_take]; rfl)) ?_; (with_reducible refine (slices_Compact_int_int.calls (fun k_ => some k_ = (.slice Ao6 t101.length co6 : Value).ownBlock) (.slice Ao6 t101.length co6) t104 t105 w _ ?side1 ?side2 A4.out).mono ?_); (case side1 => repeat (first | (with_reducible first | exact HB.out | apply below_alloc | apply pw_below_drewN | apply below_drew1) | exact HB.out)); (case side2 => exact Kd.R_tight rfl HO103.out); rintro e w8 ⟨v106, rfl, ho0, hb, hkp⟩; refine ⟨_, rfl, ?_⟩; have n0_ := Aside0.mk (Kd.R_mono (ok' := fun k_ => True) ho0 (fun k_ hk_ => trivial)); have n1_ := Aside0.mk (hb); clear HB; clear HO103; have HO107 := n0_; have HB := n1_; clear n0_ n1_; (try clear hb); (try clear hkp); (try clear ho0)))
 go_ret
 exact ⟨_, by first | rfl | (simp [errW_none, errW_some] <;> rfl) | (simp [*, errW_none, errW_some] <;> rfl), by (with_reducible repeat (first | apply Kd.R_alloc | apply Kd.R_drewN | apply Kd.R_drew)); exact HO107.out, by repeat (first | (with_reducible first | exact HB.out | apply below_alloc | apply pw_below_drewN | apply below_drew1) | exact HB.out)⟩
end Go.Proofs.Ytnepgcbgkhikkaa.H
namespace Go.Proofs.Ytnepgcbgkhikkaa.H
open Go.RowKit Go.Proofs.YtnepgcbgkhikkaaW.PrintWords Go.Proofs.YtnepgcbgkhikkaaW.PrintLast Go.Proofs.YtnepgcbgkhikkaaW.PrintMore
attribute [local go_sem] max2_int min2_int max_two min_two max_three min_three max_four min_four
set_option linter.unusedVariables false
set_option linter.unusedSimpArgs false
def cfg_within.f (l0 : List (Stmt)) (a1 : Int) : Option (Bool) := if a1 ≥ 0 then (some (decide (a1 < (l0.length : Int)))) else (some false)
set_option maxHeartbeats 8000000 in
set_option maxRecDepth 100000 in
theorem cfg_within.calls (A0 : Option Addr) (c0 : Nat) (l0 : List (Stmt)) (a1 : Int) (r : Bool) (w : World) (hr0 : Kd.C k30 w A0 l0.length l0) (hc0 : l0.length ≤ c0) (h : cfg_within.f l0 a1 = some r) :
  Calls Try.prog 42 #[.slice A0 l0.length c0, .int .i64 a1] w fun e w' => e = .returned (.bool r) ∧ Drawn0 w w' := by
 have HR0 := Aside0.mk hr0
 have HC0 := Aside0.mk hc0
 clear hr0 hc0
 have H : (if a1 ≥ 0 then (some (decide (a1 < (l0.length : Int)))) else (some false)) = some r := h
 clear h
 by_cases c3 : a1 ≥ 0
 ·rw [if_pos c3] at H
  have c3b0 : decide (0 ≤ a1) = true := decide_eq_true c3
  clear c3
  obtain rfl := Option.some.inj H
  go_enter Try.func42, Try.ntmps42
  go_wp2
  go_ret
  exact ⟨by first | rfl | (simp; done) | (simp [*]; done), by repeat (first | exact Drawn0.refl _ | apply Drawn0.step)⟩
 ·rw [if_neg c3] at H
  have c3b0 : decide (0 ≤ a1) = false := decide_eq_false c3
  clear c3
  obtain rfl := Option.some.inj H
  go_enter Try.func42, Try.ntmps42
  go_wp2
  go_ret
  exact ⟨by first | rfl | (simp; done) | (simp [*]; done), by repeat (first | exact Drawn0.refl _ | apply Drawn0.step)⟩
end Go.Proofs.Ytnepgcbgkhikkaa.H
namespace Go.Proofs.Ytnepgcbgkhikkaa.H
open Go.RowKit Go.Proofs.YtnepgcbgkhikkaaW.PrintWords
set_option linter.unusedVariables false
theorem Kd.C_nth {α : Type} {d : Kd α} {w : World} {A : Option Addr} {n : Nat} {xs : List α} (h : Kd.C d w A n xs) {i : Nat} {y : α} (hy : xs[i]? = some y) :
    ∃ ad c, A = some ad ∧ c.length = d.sz ∧ d.K w y c ∧ ∀ j u, c[j]? = some u → w.cell? (ad.add (i * d.sz + j)) = some u := by
  obtain ⟨h1, h2, h3⟩ := h
  have hi : i < xs.length := (List.getElem?_eq_some_iff.1 hy).1
  obtain ⟨ad, e, hc⟩ := h3 (by omega)
  obtain ⟨c, hs, hr, hcell⟩ := hc i y hy
  exact ⟨ad, c, e, hs, hr, hcell⟩
theorem at_Stmt {w : World} {A : Option Addr} {n : Nat} {xs : List Stmt} (h : Kd.C k30 w A n xs) {i : Nat} {y : Stmt} (hy : xs[i]? = some y) : ∃ ad , A = some ad ∧ w.cell? (ad.add (i * 8)) = some (.int .i64 y.kind) ∧ w.cell? ⟨(ad.add (i * 8)).block, (ad.add (i * 8)).off + 1, none⟩ = some (.string y.x) ∧ w.cell? ⟨(ad.add (i * 8)).block, (ad.add (i * 8)).off + 2, none⟩ = some (.string y.y) ∧ w.cell? ⟨(ad.add (i * 8)).block, (ad.add (i * 8)).off + 3, none⟩ = some (.string y.z) ∧ w.cell? ⟨(ad.add (i * 8)).block, (ad.add (i * 8)).off + 4, none⟩ = some (.string y.op) ∧ w.cell? ⟨(ad.add (i * 8)).block, (ad.add (i * 8)).off + 5, none⟩ = some (.int .i64 y.n) ∧ w.cell? ⟨(ad.add (i * 8)).block, (ad.add (i * 8)).off + 6, none⟩ = some (.int .i64 y.a) ∧ w.cell? ⟨(ad.add (i * 8)).block, (ad.add (i * 8)).off + 7, none⟩ = some (.int .i64 y.b) := by
  obtain ⟨ad, c, e, _, hK, hc⟩ := Kd.C_nth h hy
  rw [show k30.sz = 8 from rfl] at hc
  obtain rfl := k30_open hK
  exact ⟨ad, e, by have hq := hc 0 _ rfl; rwa [Nat.add_zero] at hq, by rw [← add_field _ _ 1 (by omega)]; exact hc 1 _ rfl, by rw [← add_field _ _ 2 (by omega)]; exact hc 2 _ rfl, by rw [← add_field _ _ 3 (by omega)]; exact hc 3 _ rfl, by rw [← add_field _ _ 4 (by omega)]; exact hc 4 _ rfl, by rw [← add_field _ _ 5 (by omega)]; exact hc 5 _ rfl, by rw [← add_field _ _ 6 (by omega)]; exact hc 6 _ rfl, by rw [← add_field _ _ 7 (by omega)]; exact hc 7 _ rfl⟩
theorem at_Var {w : World} {A : Option Addr} {n : Nat} {xs : List Var} (h : Kd.C k54 w A n xs) {i : Nat} {y : Var} (hy : xs[i]? = some y) : ∃ ad , A = some ad ∧ w.cell? (ad.add (i * 4)) = some (.string y.name) ∧ w.cell? ⟨(ad.add (i * 4)).block, (ad.add (i * 4)).off + 1, none⟩ = some (.int .i64 y.n) ∧ w.cell? ⟨(ad.add (i * 4)).block, (ad.add (i * 4)).off + 2, none⟩ = some (.int .i64 y.last) ∧ w.cell? ⟨(ad.add (i * 4)).block, (ad.add (i * 4)).off + 3, none⟩ = some (.bool y.taint) := by
  obtain ⟨ad, c, e, _, hK, hc⟩ := Kd.C_nth h hy
  rw [show k54.sz = 4 from rfl] at hc
  obtain rfl := k54_open hK
  exact ⟨ad, e, by have hq := hc 0 _ rfl; rwa [Nat.add_zero] at hq, by rw [← add_field _ _ 1 (by omega)]; exact hc 1 _ rfl, by rw [← add_field _ _ 2 (by omega)]; exact hc 2 _ rfl, by rw [← add_field _ _ 3 (by omega)]; exact hc 3 _ rfl⟩
theorem at_Visit {w : World} {A : Option Addr} {n : Nat} {xs : List Visit} (h : Kd.C k52 w A n xs) {i : Nat} {y : Visit} (hy : xs[i]? = some y) : ∃ ad A1 c1, A = some ad ∧ w.cell? (ad.add (i * 2)) = some (.int .i64 y.place) ∧ w.cell? ⟨(ad.add (i * 2)).block, (ad.add (i * 2)).off + 1, none⟩ = some (.slice A1 y.vars.length c1) ∧ y.vars.length ≤ c1 ∧ k54.C w A1 y.vars.length y.vars := by
  obtain ⟨ad, c, e, _, hK, hc⟩ := Kd.C_nth h hy
  rw [show k52.sz = 2 from rfl] at hc
  obtain ⟨A1, c1, rfl, l1, g1⟩ := k52_open hK
  exact ⟨ad, A1, c1, e, by have hq := hc 0 _ rfl; rwa [Nat.add_zero] at hq, by rw [← add_field _ _ 1 (by omega)]; exact hc 1 _ rfl, l1, g1⟩
end Go.Proofs.Ytnepgcbgkhikkaa.H
namespace Go.Proofs.Ytnepgcbgkhikkaa.H
open Go.RowKit Go.Proofs.YtnepgcbgkhikkaaW.PrintWords Go.Proofs.YtnepgcbgkhikkaaW.PrintLast Go.Proofs.YtnepgcbgkhikkaaW.PrintMore
set_option linter.unusedVariables false
/-- a predicate that is handed to the library, at one cell -/
def PredK (P : Program) (g : Nat) (lb : Array Value) {α : Type} (enc : α → Value) (p : α → Bool) (w : World) (l : List α) : Prop :=
  ∀ (W : World) (x : α), x ∈ l → Below w.heap.size w W → Calls P g (#[enc x] ++ lb) W fun e w' => e = .returned (.bool (p x)) ∧ Below W.heap.size W w'
/-- the same at a struct -/
def PredA (P : Program) (g : Nat) (lb : Array Value) {α : Type} (d : Kd α) (p : α → Bool) (w : World) (l : List α) : Prop :=
  ∀ (W : World) (x : α) (cs : List Value), x ∈ l → Below w.heap.size w W → d.K W x cs → Calls P g (#[.agg cs.toArray] ++ lb) W fun e w' => e = .returned (.bool (p x)) ∧ Below W.heap.size W w'
/-- the first place from i on at which p holds; -1 -/
def idxP {α : Type} (p : α → Bool) : List α → Nat → Int
  | [], _ => -1
  | x :: l, i => if p x = true then (i : Int) else idxP p l (i + 1)
theorem drop_cons {α : Type} {l : List α} {k : Nat} {y : α} (hy : l[k]? = some y) : l.drop k = y :: l.drop (k + 1) := by
  obtain ⟨h, rfl⟩ := List.getElem?_eq_some_iff.1 hy
  exact List.drop_eq_getElem_cons h
theorem drop_all {α : Type} (l : List α) : l.drop l.length = [] := List.drop_length
theorem at_some {α : Type} {l : List α} {k : Nat} (h : k < l.length) : ∃ y, l[k]? = some y := ⟨l[k], List.getElem?_eq_getElem h⟩
theorem idxP_any {α : Type} (p : α → Bool) : ∀ (l : List α) (i : Nat), decide (0 ≤ idxP p l i) = l.any p
  | [], i => by simp [idxP]
  | x :: l, i => by
    unfold idxP
    by_cases h : p x = true
    · rw [if_pos h]; simp [h]
    · rw [if_neg h, idxP_any p l (i + 1)]; simp [h]
theorem ba_eq {a b : ByteArray} : (a.toList = b.toList) ↔ a = b := by
  constructor
  · intro h
    have h1 : a.data.toList = b.data.toList := by
      have := h
      rwa [ByteArray.toList_eq, ByteArray.toList_eq] at this
    cases a; cases b; simp at h1; subst h1; rfl
  · rintro rfl; rfl
theorem ba_beq {a b : ByteArray} (h : a = b) : (a.toList == b.toList) = true ∧ (a.toList != b.toList) = false := by subst h; simp
theorem ba_bne {a b : ByteArray} (h : ¬ a = b) : (a.toList == b.toList) = false ∧ (a.toList != b.toList) = true :=
  ⟨beq_eq_false_iff_ne.2 (fun e => h (ba_eq.1 e)), bne_iff_ne.2 (fun e => h (ba_eq.1 e))⟩
section
variable {w : World} {A : Option Addr} {n i : Nat}
theorem at_int {k : IntKind} {xs : List Int} {y : Int} (h : (Kd.int k).C w A n xs) (hy : xs[i]? = some y) : ∃ ad, A = some ad ∧ w.cell? (ad.add i) = some (.int k y) := by
  obtain ⟨ad, c, e, _, hK, hc⟩ := Kd.C_nth h hy
  obtain rfl : c = [.int k y] := hK
  have hq := hc 0 _ rfl
  exact ⟨ad, e, by rwa [show i * (Kd.int k).sz + 0 = i from Nat.mul_one i] at hq⟩
theorem at_bool {xs : List Bool} {y : Bool} (h : Kd.bool.C w A n xs) (hy : xs[i]? = some y) : ∃ ad, A = some ad ∧ w.cell? (ad.add i) = some (.bool y) := by
  obtain ⟨ad, c, e, _, hK, hc⟩ := Kd.C_nth h hy
  obtain rfl : c = [.bool y] := hK
  have hq := hc 0 _ rfl
  exact ⟨ad, e, by rwa [show i * Kd.bool.sz + 0 = i from Nat.mul_one i] at hq⟩
theorem at_str {xs : List ByteArray} {y : ByteArray} (h : Kd.string.C w A n xs) (hy : xs[i]? = some y) : ∃ ad, A = some ad ∧ w.cell? (ad.add i) = some (.string y) := by
  obtain ⟨ad, c, e, _, hK, hc⟩ := Kd.C_nth h hy
  obtain rfl : c = [.string y] := hK
  have hq := hc 0 _ rfl
  exact ⟨ad, e, by rwa [show i * Kd.string.sz + 0 = i from Nat.mul_one i] at hq⟩
theorem at_row {α : Type} {d : Kd α} {t : Nat} {xs : List (List α)} {y : List α} (h : (Kd.slice t d).C w A n xs) (hy : xs[i]? = some y) : ∃ ad A1 c1, A = some ad ∧ w.cell? (ad.add i) = some (.slice A1 y.length c1) ∧ y.length ≤ c1 ∧ d.C w A1 y.length y := by
  obtain ⟨ad, c, e, _, hK, hc⟩ := Kd.C_nth h hy
  obtain ⟨A1, c1, rfl, hl, hr⟩ := hK
  have hq := hc 0 _ rfl
  exact ⟨ad, A1, c1, e, by rwa [show i * (Kd.slice t d).sz + 0 = i from Nat.mul_one i] at hq, hl, hr⟩
end
/-- an old cell, in a world that comes behind -/
theorem Below.old {w W : World} {a : Addr} {v : Value} (hb : Below w.heap.size w W) (h : w.cell? a = some v) : W.cell? a = some v := (hb.cell (World.block_lt_of_cell? w _ h)).trans h
theorem Below.then {w W X : World} (h : Below w.heap.size w W) (k : Below W.heap.size W X) : Below w.heap.size w X := below_then h h.size k
theorem ret_int {k : IntKind} {a b : Int} (h : a = b) : Ending.returned (.int k a) = .returned (.int k b) := by rw [h]
theorem ret_bool {a b : Bool} (h : a = b) : Ending.returned (.bool a) = .returned (.bool b) := by rw [h]
end Go.Proofs.Ytnepgcbgkhikkaa.H
namespace Go.Proofs.Ytnepgcbgkhikkaa.H
open Go.RowKit Go.Proofs.YtnepgcbgkhikkaaW.PrintWords Go.Proofs.YtnepgcbgkhikkaaW.PrintLast Go.Proofs.YtnepgcbgkhikkaaW.PrintMore
set_option linter.unusedVariables false
theorem grown_set (w : World) (g j : Nat) (v : Value) : w.grownBy (w.setCell ⟨g, j, none⟩ v) (some g) :=
  ⟨rfl, rfl, rfl, by simp [World.setCell], fun k hk hne => Below.heap_setCell w ⟨g, j, none⟩ v k (fun e => hne (by rw [e]))⟩
theorem grown_trans {w w1 w2 : World} {r : Option Nat} (h : w.grownBy w1 r) (k : w1.grownBy w2 r) : w.grownBy w2 r :=
  ⟨k.os.trans h.os, k.tape.trans h.tape, k.output.trans h.output, Nat.le_trans h.size k.size, fun j hj hne => (k.block j (Nat.lt_of_lt_of_le hj h.size) hne).trans (h.block j hj hne)⟩
theorem setCells_rowH {g : Nat} {e : TypeId} : ∀ (vs : List Value) (o : Nat) (w : World) (cur : Array Value), w.heap[g]? = some (.cells cur e (0, 0)) →
    ∃ cur', (w.setCells g o vs).heap[g]? = some (.cells cur' e (0, 0)) ∧ cur'.size = cur.size ∧ (∀ j, j < o → cur'[j]? = cur[j]?) ∧ w.grownBy (w.setCells g o vs) (some g)
  | [], o, w, cur, h => ⟨cur, h, rfl, fun _ _ => rfl, World.grownBy.refl w _⟩
  | v :: r, o, w, cur, h => by
    have h1 := blk_set h o v
    obtain ⟨cur', h2, h3, h4, h5⟩ := setCells_rowH r (o + 1) _ _ h1
    refine ⟨cur', h2, by rw [h3]; simp, fun j hj => ?_, ?_⟩
    · rw [h4 j (by omega)]; simp [show ¬ o = j by omega]
    · exact grown_trans (grown_set w g o v) h5
theorem run_clear_row {P : Program} (w : World) (t e ty : TypeId) (z : Value) (ht : P.underlying t = some (.slice e)) (hv : ∀ w, (zeroValue e).run P w = .ok z w) (h1 : ∀ v ∈ z.cells, v.oneCell' = true) (g o n c : Nat) (cur : Array Value)
    (hh : w.heap[g]? = some (.cells cur e (0, 0))) (hn : o + n * z.cells.size ≤ cur.size) :
    ∃ vs, (Builtin.clear_ #[t] ty #[.slice (some ⟨g, o, none⟩) n c]).run P w = .ok (.tuple #[]) (w.setCells g o vs) := by
  cases n with
  | zero => exact ⟨[], by simp [Builtin.clear_, run_underlying ht]; rfl⟩
  | succ m =>
    have hst := run_storeCells_cells (P := P) g o (Builtin.zeroCells z.cells (m + 1)).toList 0 w
      (by intro j hj
          have hj' : j < (m + 1) * z.cells.size := by simpa [Builtin.zeroCells] using hj
          rw [Nat.add_zero, blk_cell hh, Array.getElem?_eq_getElem (by omega)]; rfl)
      (fun j _ => blk_frozen hh _)
      (by intro v hv'
          simp only [Builtin.zeroCells, Array.toList_map, List.mem_map] at hv'
          obtain ⟨i, hi, rfl⟩ := hv'
          have hi' : i < (m + 1) * z.cells.size := by simpa using hi
          have hz : 0 < z.cells.size := by
            rcases Nat.eq_zero_or_pos z.cells.size with h0 | h0
            · rw [h0] at hi'; omega
            · exact h0
          rw [getElem!_pos z.cells _ (Nat.mod_lt _ hz)]
          exact h1 _ (Array.getElem_mem _))
    simp only [Nat.add_zero] at hst
    exact ⟨(Builtin.zeroCells z.cells (m + 1)).toList, by simp [Builtin.clear_, run_underlying ht, hv, hst]⟩
/-- a row whose tail was written, cut before that tail -/
theorem R_cut {α : Type} {d : Kd α} {e : Nat} {w w1 : World} {base : Nat} {ok : Nat → Prop} {g n cap i : Nat} {xs : List α} (h : d.R e w base ok (.slice (some ⟨g, 0, none⟩) n cap) xs) (hi : i ≤ xs.length) (hg : w.grownBy w1 (some g)) {cur cur' : Array Value}
    (h0 : w.heap[g]? = some (.cells cur e (0, 0))) (h1 : w1.heap[g]? = some (.cells cur' e (0, 0))) (hs : cur'.size = cur.size) (hp : ∀ j, j < i * d.sz → cur'[j]? = cur[j]?) :
    d.R e w1 base ok (.slice (some ⟨g, 0, none⟩) i cap) (xs.take i) := by
  obtain ⟨hok, inner, ⟨hlen, ho⟩, hr⟩ := h
  rcases ho with ⟨he, _⟩ | ⟨g', cap', cur0, he, hb, hh, hnc, hcm, hcs, htk⟩
  · cases he
  · cases he
    have hcc : cur0 = cur := by rw [h0] at hh; injection hh with hh; injection hh with hh; exact hh.symm
    subst hcc
    have hle : i * d.sz ≤ xs.length * d.sz := Nat.mul_le_mul_right _ hi
    have hlt : (xs.take i).length = i := by rw [List.length_take]; omega
    have hll : inner.length = xs.length * d.sz := hlen
    refine ⟨hok, inner.take (i * d.sz), ⟨?_, .inr ⟨g, cap, cur', by rw [hlt], hb, h1, by omega, hcm, by rw [hs, hcs], ?_⟩⟩, ?_, ?_⟩
    · rw [List.length_take, hlt]; omega
    · rw [hlt, ← htk, List.take_take, Nat.min_eq_left hle]
      apply List.ext_getElem?
      intro j
      rw [List.getElem?_take, List.getElem?_take]
      split
      · have := hp j (by assumption)
        simpa using this
      · rfl
    · rw [List.length_take, hlt]; omega
    · intro j p hj
      rw [List.getElem?_take] at hj
      split at hj
      · rename_i hji
        have h3 := hr.2 j p hj
        have hjs : j * d.sz + d.sz ≤ i * d.sz := by rw [← Nat.succ_mul]; exact Nat.mul_le_mul_right _ hji
        have e1 : ((inner.take (i * d.sz)).drop (j * d.sz)).take d.sz = (inner.drop (j * d.sz)).take d.sz := by
          rw [List.drop_take, List.take_take, Nat.min_eq_left (by omega)]
        rw [e1]
        refine Kd.M_grown h3 hg (fun k hk => ?_)
        simpa [Value.ownBlock] using hk.2
      · cases hj
theorem R_blk {α : Type} {d : Kd α} {e : Nat} {w : World} {base : Nat} {ok : Nat → Prop} {g n cap : Nat} {xs : List α} (h : d.R e w base ok (.slice (some ⟨g, 0, none⟩) n cap) xs) : ∃ cells, w.heap[g]? = some (.cells cells e (0, 0)) := by
  obtain ⟨_, inner, ⟨_, ho⟩, _⟩ := h
  rcases ho with ⟨he, _⟩ | ⟨g', cap', cur0, he, hb, hh, _⟩
  · cases he
  · cases he; exact ⟨_, hh⟩
theorem R_size {α : Type} {d : Kd α} {e : Nat} {w : World} {base : Nat} {ok : Nat → Prop} {g n cap : Nat} {xs : List α} (h : d.R e w base ok (.slice (some ⟨g, 0, none⟩) n cap) xs) {cells : Array Value} (hc : w.heap[g]? = some (.cells cells e (0, 0))) : cells.size = cap * d.sz ∧ n ≤ cap := by
  obtain ⟨_, inner, ⟨_, ho⟩, _⟩ := h
  rcases ho with ⟨he, _⟩ | ⟨g', cap', cur0, he, hb, hh, h1, h2, h3, _⟩
  · cases he
  · cases he
    rw [hh] at hc; injection hc with hc; injection hc with hc; subst hc
    exact ⟨h3, h1⟩
theorem R_put1 {α : Type} {enc : α → Value} {h1 : ∀ x, (enc x).oneCell' = true} {e : Nat} {w : World} {base : Nat} {ok : Nat → Prop} {g n cap : Nat} {xs : List α} (h : (Kd.scalar enc h1).R e w base ok (.slice (some ⟨g, 0, none⟩) n cap) xs) (i : Nat) (x : α) :
    (Kd.scalar enc h1).R e (w.setCell ⟨g, i, none⟩ (enc x)) base ok (.slice (some ⟨g, 0, none⟩) n cap) (xs.set i x) ∧ w.grownBy (w.setCell ⟨g, i, none⟩ (enc x)) (some g) := by
  obtain ⟨rfl, _, _⟩ := Kd.R_reads' h
  have := Kd.R_put h (i : Int) x
  simpa using this
/-- a row that was made by a literal, read -/
theorem C_cells {α : Type} {d : Kd α} {w : World} {g e : Nat} {cs : Array Value} {xs : List α} (h : w.heap[g]? = some (.cells cs e (0, 0))) (hr : Reps (d.K w) d.sz xs cs.toList) (hl : xs.length ≤ 9223372036854775807) :
    d.C w (some ⟨g, 0, none⟩) xs.length xs := by
  refine ⟨rfl, hl, fun _ => ⟨⟨g, 0, none⟩, rfl, fun j p hj => ?_⟩⟩
  refine ⟨(cs.toList.drop (j * d.sz)).take d.sz, ?_, hr.2 j p hj, fun i u hu => ?_⟩
  · have hjl := (List.getElem?_eq_some_iff.1 hj).1
    have : j * d.sz + d.sz ≤ xs.length * d.sz := by rw [← Nat.succ_mul]; exact Nat.mul_le_mul_right _ hjl
    rw [List.length_take, List.length_drop, hr.1]; omega
  · rw [List.getElem?_take] at hu
    split at hu
    · rw [add_plain, blk_cell h]
      rw [List.getElem?_drop] at hu
      simpa using hu
    · cases hu
/-- a predicate that is handed to what rewrites the row as it goes -/
def PredG (P : Program) (g : Nat) (lb : Array Value) {α : Type} (enc : α → Value) (p : α → Bool) (w : World) (row : Option Nat) (l : List α) : Prop :=
  ∀ (W : World) (x : α), x ∈ l → w.grownBy W row → Calls P g (#[enc x] ++ lb) W fun e w' => e = .returned (.bool (p x)) ∧ Below W.heap.size W w'
theorem grown_below {w w1 : World} (h : Below w.heap.size w w1) (row : Option Nat) : w.grownBy w1 row := grown_of_below h row
theorem PredG.k {P : Program} {g : Nat} {lb : Array Value} {α : Type} {enc : α → Value} {p : α → Bool} {w : World} {row : Option Nat} {l : List α} (h : PredG P g lb enc p w row l) : PredK P g lb enc p w l :=
  fun W x hm hb => h W x hm (grown_of_below hb row)
structure KeptIv {α : Type} (q : α → Bool) (l : List α) (j i : Nat) (dk : List α) : Prop where
  len : dk.length = l.length
  lt : i < j
  le : j ≤ l.length
  low : dk.take i = (l.take j).filter q
  high : dk.drop j = l.drop j
theorem KeptIv.skip {α : Type} {q : α → Bool} {l dk : List α} {j i : Nat} {y : α} (h : KeptIv q l j i dk) (hy : l[j]? = some y) (hq : q y = false) : KeptIv q l (j + 1) i dk := by
  have hj : j < l.length := (List.getElem?_eq_some_iff.1 hy).1
  refine ⟨h.len, by have := h.lt; omega, by omega, ?_, ?_⟩
  · rw [List.take_add_one, hy, List.filter_append, h.low]; simp [hq]
  · have := congrArg (List.drop 1) h.high; simpa [List.drop_drop, Nat.add_comm] using this
theorem KeptIv.keep {α : Type} {q : α → Bool} {l dk : List α} {j i : Nat} {y : α} (h : KeptIv q l j i dk) (hy : l[j]? = some y) (hq : q y = true) : KeptIv q l (j + 1) (i + 1) (dk.set i y) := by
  have hj : j < l.length := (List.getElem?_eq_some_iff.1 hy).1
  have hlt := h.lt
  have hlen := h.len
  refine ⟨by simpa using h.len, by omega, by omega, ?_, ?_⟩
  · have e1 : (dk.set i y).take (i + 1) = dk.take i ++ [y] := by
      rw [List.take_add_one, List.getElem?_set_self (by omega)]
      simp [List.take_set_of_le (Nat.le_refl i)]
    rw [e1, h.low, List.take_add_one, hy, List.filter_append]; simp [hq]
  · rw [List.drop_set_of_lt (by omega)]
    have := congrArg (List.drop 1) h.high; simpa [List.drop_drop, Nat.add_comm] using this
theorem KeptIv.start {α : Type} {q : α → Bool} {l : List α} {k : Nat} {y : α} (h : ∀ x ∈ l.take k, q x = true) (hy : l[k]? = some y) (hq : q y = false) : KeptIv q l (k + 1) k l := by
  have hk : k < l.length := (List.getElem?_eq_some_iff.1 hy).1
  refine ⟨rfl, by omega, by omega, ?_, rfl⟩
  rw [List.take_add_one, hy, List.filter_append, List.filter_eq_self.2 h]; simp [hq]
theorem idxP_cases {α : Type} (p : α → Bool) : ∀ (l : List α) (i : Nat), (idxP p l i = -1 ∧ ∀ x ∈ l, p x = false) ∨ ∃ k y, idxP p l i = ((i + k : Nat) : Int) ∧ l[k]? = some y ∧ p y = true ∧ ∀ x ∈ l.take k, p x = false
  | [], i => .inl ⟨rfl, by simp⟩
  | x :: l, i => by
    cases h : p x with
    | true => exact .inr ⟨0, x, by simp [idxP, h], by simp, h, by simp⟩
    | false =>
      rcases idxP_cases p l (i + 1) with ⟨e, ha⟩ | ⟨k, y, e, hy, hp, ha⟩
      · exact .inl ⟨by simp [idxP, h, e], by simpa [h] using ha⟩
      · exact .inr ⟨k + 1, y, by rw [idxP, if_neg (by rw [h]; decide), e]; congr 1; omega, by simpa using hy, hp, by simpa [h] using ha⟩
end Go.Proofs.Ytnepgcbgkhikkaa.H
namespace Go.Proofs.Ytnepgcbgkhikkaa.H
open Go.RowKit Go.Proofs.YtnepgcbgkhikkaaW.PrintWords Go.Proofs.YtnepgcbgkhikkaaW.PrintLast Go.Proofs.YtnepgcbgkhikkaaW.PrintMore
set_option linter.unusedVariables false
set_option maxHeartbeats 1000000 in
/-- slices.IndexFunc at int -/
theorem IndexFuncInt (g : Nat) (lb : Array Value) (eg : ∀ args w, (callFunc g args).run Try.prog w = .ok (.enter g args) w) (p : Int → Bool)
    (A0 : Option Addr) (c0 : Nat) (l0 : List Int) (w : World) (hr0 : Kd.C (Kd.int .i64) w A0 l0.length l0) (hp : PredK Try.prog g lb (Value.int .i64) p w l0) :
    Calls Try.prog 65 #[.slice A0 l0.length c0, .func (.func g) #[] lb] w fun e w' => e = .returned (.int .i64 (idxP p l0 0)) ∧ Below w.heap.size w w' := by
  have HR := Aside0.mk hr0
  have HP := Aside0.mk hp
  have hl : l0.length ≤ 9223372036854775807 := hr0.2.1
  clear hr0 hp
  go_enter Try.func65, Try.ntmps65
  go_wp2
  go_loopg [5, 8] l0.length (fun gg _ s8 wr => ∃ kk : Nat, kk ≤ l0.length ∧ l0.length - kk ≤ gg ∧ s8 = .int .i64 kk ∧ Aside0 (Below w.heap.size w wr) ∧ Aside0 (idxP p l0 0 = idxP p (l0.drop kk) kk))
  case atStart => exact ⟨0, Nat.zero_le _, by omega, rfl, ⟨Below.refl _ w⟩, ⟨rfl⟩⟩
  case round =>
    obtain ⟨kk, hkk, hg, rfl, BW, A⟩ := hrel
    by_cases hlt : kk < l0.length
    · have hltz : (kk : Int) < (l0.length : Int) := by omega
      obtain ⟨y, hy⟩ := at_some hlt
      obtain ⟨ad, e1, hx⟩ := at_int HR.out hy
      cases e1
      replace hx := Below.old BW.out hx
      have hcall := HP.out wr y (List.mem_of_getElem? hy) BW.out
      have HA := Aside0.mk (A.out.trans (by rw [drop_cons hy]))
      clear A hy
      cases hq : p y with
      | true =>
        rw [hq] at hcall
        go_wp2_with (go_at_fn g; refine hcall.mono ?_; rintro e w' ⟨rfl, hb'⟩)
        go_ret
        exact ⟨by rw [HA.out, idxP, if_pos hq]; rfl, Below.then BW.out hb'⟩
      | false =>
        rw [hq] at hcall
        go_wp2_with (go_at_fn g; refine hcall.mono ?_; rintro e w' ⟨rfl, hb'⟩)
        go_roundg (l0.length - (kk + 1))
        case measure => omega
        case rel => exact ⟨kk + 1, by omega, by omega, by go_num, ⟨Below.then BW.out hb'⟩, ⟨by rw [HA.out, idxP, if_neg (by rw [hq]; decide)]⟩⟩
    · have hltz : ¬ (kk : Int) < (l0.length : Int) := by omega
      obtain rfl : kk = l0.length := by omega
      go_wp2
      go_ret
      exact ⟨by rw [A.out]; simp [idxP], BW.out⟩
set_option maxHeartbeats 4000000 in
set_option maxRecDepth 100000 in
/-- slices.DeleteFunc at int: elements of one cell -/
theorem DeleteFuncInt (g : Nat) (lb : Array Value) (eg : ∀ args w, (callFunc g args).run Try.prog w = .ok (.enter g args) w) (p : Int → Bool) (base : Nat) (ok : Nat → Prop)
    (v : Value) (l : List Int) (w : World) (ho : Kd.R (Kd.int .i64) 3 w base ok v l) (hp : PredG Try.prog g lb (Value.int .i64) p w v.ownBlock l) :
    Calls Try.prog 48 #[v, .func (.func g) #[] lb] w fun e w' => ∃ v', e = .returned v' ∧ Kd.R (Kd.int .i64) 3 w' base ok v' (l.filter fun x => !p x) ∧ w.grownBy w' v.ownBlock ∧ v'.ownBlock = v.ownBlock := by
  obtain ⟨A, c, rfl, hlc, hC⟩ := Kd.R_reads ho
  have hl : l.length ≤ 9223372036854775807 := hC.2.1
  have hIF := IndexFuncInt g lb eg p A c l w hC hp.k
  rcases idxP_cases p l 0 with ⟨e1, hall⟩ | ⟨k0, y0, e1, hy0, ht, hall⟩
  · rw [e1] at hIF
    have hf : (l.filter fun x => !p x) = l := List.filter_eq_self.2 (fun x hx => by simp [hall x hx])
    have HO := Aside0.mk ho
    have HF := Aside0.mk hf
    clear ho hp hC hf hall e1
    go_enter Try.func48, Try.ntmps48
    go_wp2_with (go_at_call 65; refine hIF.mono ?_; rintro e w' ⟨rfl, hb⟩)
    go_ret
    exact ⟨_, rfl, by rw [HF.out]; exact Kd.R_below HO.out hb, grown_of_below hb _, rfl⟩
  · rw [e1, Nat.zero_add] at hIF
    have hk0 : k0 < l.length := (List.getElem?_eq_some_iff.1 hy0).1
    obtain ⟨b, cap, e2, hbb, hbl, cells0, hcells0⟩ := Kd.R_form ho (by omega)
    cases e2
    have hne1 : ((k0 : Int) == -1) = false := beq_eq_false_iff_ne.2 (by omega)
    have HI0 := Aside0.mk (KeptIv.start (q := fun x => !p x) (fun x hx => by simp [hall x hx]) hy0 (by simp [ht]))
    have HO := Aside0.mk ho
    have HP := Aside0.mk hp
    clear ho hp hC hall e1 hy0 ht hcells0
    go_enter Try.func48, Try.ntmps48
    go_wp2_with (go_at_call 65; refine hIF.mono ?_; rintro e w0 ⟨rfl, hb0⟩; have HB0 := Aside0.mk hb0; clear hb0)
    go_loopg [5, 6, 7] l.length (fun gg s5 s6 _ wr => ∃ (i j : Nat) (dk : List Int), s5 = .int .i64 i ∧ s6 = .int .i64 j ∧ j ≤ l.length ∧ i < j ∧ l.length - j ≤ gg ∧ Aside0 (KeptIv (fun x => !p x) l j i dk) ∧ Aside0 (Kd.R (Kd.int .i64) 3 wr base ok (.slice (some ⟨b, 0, none⟩) l.length c) dk) ∧ Aside0 (w.grownBy wr (some b)))
    case atStart => exact ⟨k0, k0 + 1, l, rfl, by go_num, by omega, by omega, by omega, HI0, ⟨Kd.R_below HO.out HB0.out⟩, ⟨grown_of_below HB0.out _⟩⟩
    case round =>
      clear HI0 HO
      obtain ⟨i, j, dk, rfl, rfl, hjl, hij, hgg, HI, HO, HG⟩ := hrel
      have hdl := HI.out.len
      by_cases hlt : j < l.length
      · have hltz : (j : Int) < (l.length : Int) := by omega
        obtain ⟨y, hy⟩ := at_some hlt
        have hyd : dk[j]? = some y := by
          have := congrArg (fun z => z[0]?) HI.out.high
          simpa [hy] using this
        obtain ⟨-, -, hC⟩ := Kd.R_reads' HO.out
        obtain ⟨ad, e1, hx⟩ := at_int hC hyd
        cases e1
        rw [add_plain] at hx
        have hcall := HP.out wr y (List.mem_of_getElem? hy) HG.out
        have HY := Aside0.mk hy
        clear hy hyd hC
        cases hq : p y with
        | true =>
          rw [hq] at hcall
          go_wp2_with (go_at_fn g; refine hcall.mono ?_; rintro e w' ⟨rfl, hb'⟩; have HB' := Aside0.mk hb'; clear hb')
          go_roundg (l.length - (j + 1))
          case measure => omega
          case rel => exact ⟨i, j + 1, dk, rfl, by go_num, by omega, by omega, by omega, ⟨HI.out.skip HY.out (by simp [hq])⟩, ⟨Kd.R_below HO.out HB'.out⟩, ⟨grown_trans HG.out (grown_of_below HB'.out _)⟩⟩
        | false =>
          rw [hq] at hcall
          obtain ⟨yi, hyi⟩ : ∃ yi, dk[i]? = some yi := at_some (by omega)
          obtain ⟨-, -, hC⟩ := Kd.R_reads' HO.out
          obtain ⟨ad, e1, hxi⟩ := at_int hC hyi
          cases e1
          rw [add_plain] at hxi
          clear hyi hC
          go_wp2_with (go_at_fn g; refine hcall.mono ?_; rintro e w' ⟨rfl, hb'⟩; have HO1 := Aside0.mk (Kd.R_below HO.out hb'); have hxi1 := Below.old hb' hxi; obtain ⟨cells, hcells⟩ := R_blk HO1.out; have hfz := blk_frozen hcells i; have HB' := Aside0.mk hb'; clear hb' hcells)
          obtain ⟨hp1, hp2⟩ := R_put1 HO1.out i y
          go_roundg (l.length - (j + 1))
          case measure => omega
          case rel => exact ⟨i + 1, j + 1, dk.set i y, by go_num, by go_num, by omega, by omega, by omega, ⟨HI.out.keep HY.out (by simp [hq])⟩, ⟨hp1⟩, ⟨grown_trans HG.out (grown_trans (grown_of_below HB'.out _) hp2)⟩⟩
      · have hltz : ¬ (j : Int) < (l.length : Int) := by omega
        obtain rfl : j = l.length := by omega
        obtain ⟨cells, hcells⟩ := R_blk HO.out
        have hsz := R_size HO.out hcells
        obtain ⟨vs, hclr⟩ := run_clear_row (P := Try.prog) wr 25 3 0 (.int .i64 0) Try.underlying25 Try.zeroValue3 (by intro v hv; simp [Value.cells] at hv; subst hv; rfl) b i (l.length - i) (c - i) cells hcells (by have h1 := hsz.1; have h2 := hsz.2; have h3 : (Kd.int .i64).sz = 1 := rfl; rw [h3] at h1; simp [Value.cells]; omega)
        obtain ⟨cur', h1, h2, h3, h4⟩ := setCells_rowH vs i wr cells hcells
        have HR := Aside0.mk (R_cut HO.out (by omega : i ≤ dk.length) h4 hcells h1 h2 (fun j hj => h3 j (by have h3 : (Kd.int .i64).sz = 1 := rfl; rw [h3] at hj; omega)))
        have HG4 := Aside0.mk h4
        clear h1 h2 h3 h4 hsz hcells
        have HL := Aside0.mk hdl
        clear hdl
        go_wp2
        go_ret
        exact ⟨_, rfl, by
          have := HI.out.low
          rw [List.take_length] at this
          rw [← this]; exact HR.out, grown_trans HG.out HG4.out, rfl⟩
end Go.Proofs.Ytnepgcbgkhikkaa.H
namespace Go.Proofs.Ytnepgcbgkhikkaa.H
open Go.RowKit Go.Sort Go.Proofs.YtnepgcbgkhikkaaW.PrintWords Go.Proofs.YtnepgcbgkhikkaaW.PrintLast Go.Proofs.YtnepgcbgkhikkaaW.PrintMore
set_option linter.unusedVariables false
def withinB (n : Nat) (m : Int) : Bool := decide (0 ≤ m) && decide (m < (n : Int))
theorem within_eq (s : List Stmt) (m : Int) : cfg_within.f s m = some (withinB s.length m) := by
  unfold cfg_within.f withinB
  by_cases h : m ≥ 0
  · simp [h]
  · simp [h]
def GNextDel.f (l : List Int) (s : List Stmt) : Option (List Int) := some (l.filter (withinB s.length))
theorem nextDel1 {w : World} {gb : Nat} {row : Option Nat} {A1 : Option Addr} {c1 : Nat} {l1 : List Stmt} (l : List Int) (hb : w.heap[gb]? = some (.cells #[.slice A1 l1.length c1] 22 (0, 0))) (hne : some gb ≠ row)
    (hr : ∀ W, w.grownBy W row → Kd.C k30 W A1 l1.length l1) (hc : l1.length ≤ c1) :
    PredG Try.prog 49 #[.pointer (some ⟨gb, 0, none⟩)] (Value.int .i64) (fun m => !withinB l1.length m) w row l := by
  intro W x _ hg
  have h1 : W.heap[gb]? = some (.cells #[.slice A1 l1.length c1] 22 (0, 0)) := (hg.block gb (blk_lt hb) hne).trans hb
  have hx : W.cell? ⟨gb, 0, none⟩ = some (.slice A1 l1.length c1) := (blk_cell h1 0).trans rfl
  have HR := Aside0.mk (hr W hg)
  clear hg hr hb h1
  go_enter Try.func49, Try.ntmps49
  go_wp2_with (go_at_call 42; go_must (refine (cfg_within.calls _ _ l1 x _ _ HR.out hc (within_eq l1 x)).mono ?_); rintro e w' ⟨rfl, hd⟩; have HD := Aside0.mk hd.below; clear hd)
  go_ret
  exact ⟨rfl, HD.out⟩
theorem GNextDel.calls (P0_ : Nat → Prop) (u9000_ : Value) (l0 : List Int) (A1 : Option Addr) (c1 : Nat) (l1 : List Stmt) (r : List Int) (w0 w : World) {gb : Nat} (hB : Below w0.heap.size w0 w) (ho0 : Kd.R (Kd.int .i64) 3 w w0.heap.size P0_ u9000_ l0)
    (hr1 : ∀ W_, Kept w W_ (fun k_ => P0_ k_) → Kd.C k30 W_ A1 l1.length l1) (hc1 : l1.length ≤ c1) (hb : w.heap[gb]? = some (.cells #[.slice A1 l1.length c1] 22 (0, 0))) (h : GNextDel.f l0 l1 = some r) :
    Calls Try.prog 48 #[u9000_, .func (.func 49) #[] #[.pointer (some ⟨gb, 0, none⟩)]] w fun e w' => ∃ v0_ : Value, e = .returned v0_ ∧ Kd.R (Kd.int .i64) 3 w' w0.heap.size (fun k_ => (P0_ k_ ∨ w.heap.size ≤ k_)) v0_ r ∧ Below w0.heap.size w0 w' ∧ Kept w w' (fun k_ => P0_ k_) := by
  cases h
  have eg := enters_of Try.func49 (by kernel_rfl) rfl
  have kept : ∀ W, w.grownBy W u9000_.ownBlock → Kept w W (fun k_ => P0_ k_) := fun W hg => ⟨hg.size, fun i hi hn => hg.block i hi (fun e => hn (ho0.1 i e.symm))⟩
  refine (DeleteFuncInt 49 #[.pointer (some ⟨gb, 0, none⟩)] eg (fun m => !withinB l1.length m) w0.heap.size P0_ u9000_ l0 w ho0
    (nextDel1 l0 hb (Kd.R_ne ho0 hb (by decide)) (fun W hg => hr1 W (kept W hg)) hc1)).mono ?_
  rintro e w' ⟨v, rfl, hR, hg, hv⟩
  refine ⟨v, rfl, ?_, pw_below_grown hB _ hB.size hg (fun k hk => Kd.R_base ho0 k hk), kept w' hg⟩
  have e1 : (l0.filter fun x => !(fun m => !withinB l1.length m) x) = l0.filter (withinB l1.length) := List.filter_congr fun x _ => by simp
  rw [e1] at hR
  exact Kd.R_mono hR (fun k hk => .inl hk)
end Go.Proofs.Ytnepgcbgkhikkaa.H
namespace Go.Proofs.Ytnepgcbgkhikkaa.H
open Go.RowKit Go.Proofs.YtnepgcbgkhikkaaW.PrintWords Go.Proofs.YtnepgcbgkhikkaaW.PrintLast Go.Proofs.YtnepgcbgkhikkaaW.PrintMore
attribute [local go_sem] max2_int min2_int max_two min_two max_three min_three max_four min_four
set_option linter.unusedVariables false
set_option linter.unusedSimpArgs false
def cfg_Next.f (l0 : List (Stmt)) (a1 : Int) : Option (List Int) := (cfg_within.f l0 a1).bind fun t102 => (if t102 = true then (if 0 ≤ a1 then (if a1 < (l0.length : Int) then (if ((rd_T30 l0 a1).kind) = 7 then ((cfg_sorted_int.f (([(rd_T30 l0 a1).a, (rd_T30 l0 a1).b] : List Int))).bind fun t109 => ((GNextDel.f t109 l0).bind fun t112 => (some t112))) else (if ((rd_T30 l0 a1).kind) = 8 then ((cfg_sorted_int.f (([(rd_T30 l0 a1).a] : List Int))).bind fun t119 => ((GNextDel.f t119 l0).bind fun t122 => (some t122))) else (if ((rd_T30 l0 a1).kind) = 9 then ((GNextDel.f ([] : List Int) l0).bind fun t125 => (some t125)) else ((cfg_sorted_int.f (([wrap64 (a1 + 1)] : List Int))).bind fun t131 => ((GNextDel.f t131 l0).bind fun t134 => (some t134)))))) else (none)) else (none)) else (some ([] : List Int)))
def cfg_Next.T7 : Bool × List (List Nat × List Nat) := (true, [([], []), ([], []), ([0, 1], [0, 1]), ([2], [2]), ([3], [3]), ([], []), ([], []), ([5, 6], [5, 6]), ([7], [7]), ([8], [8]), ([4, 9], [4, 9]), ([10], [10]), ([11, 11, 0, 1, 2, 3, 4, 5, 6, 7, 8, 9, 10, 11], [11])])
def cfg_Next.B7 : List Nat := [0, 0, 3, 7, 15, 0, 0, 96, 224, 480, 1023, 2047, 4095]
theorem cfg_Next.tab7 : rtab .any (opsOf Try.f19 7) = cfg_Next.T7 := by kernel_rfl
theorem cfg_Next.bits7 : waitsOk cfg_Next.T7.2 cfg_Next.B7 = true := by kernel_rfl
set_option maxHeartbeats 8000000 in
set_option maxRecDepth 100000 in
theorem cfg_Next.calls (A0 : Option Addr) (c0 : Nat) (l0 : List (Stmt)) (a1 : Int) (r : List Int) (w : World) (hr0 : Kd.C k30 w A0 l0.length l0) (hc0 : l0.length ≤ c0) (h : cfg_Next.f l0 a1 = some r) :
  Calls Try.prog 19 #[.slice A0 l0.length c0, .int .i64 a1] w fun e w' => ∃ v0_ : Value, e = .returned (v0_) ∧ Kd.R (Kd.int .i64) 3 w' w.heap.size (fun _ => True) v0_ r ∧ Below w.heap.size w w' := by
 have HR0 := am hr0
 have HC0 := am hc0
 clear hr0 hc0
 have HB := am (Below.refl w.heap.size w)
 have H : ((cfg_within.f l0 a1).bind fun t102 => (if t102 = true then (if 0 ≤ a1 then (if a1 < (l0.length : Int) then (if ((rd_T30 l0 a1).kind) = 7 then ((cfg_sorted_int.f (([(rd_T30 l0 a1).a, (rd_T30 l0 a1).b] : List Int))).bind fun t109 => ((GNextDel.f t109 l0).bind fun t112 => (some t112))) else (if ((rd_T30 l0 a1).kind) = 8 then ((cfg_sorted_int.f (([(rd_T30 l0 a1).a] : List Int))).bind fun t119 => ((GNextDel.f t119 l0).bind fun t122 => (some t122))) else (if ((rd_T30 l0 a1).kind) = 9 then ((GNextDel.f ([] : List Int) l0).bind fun t125 => (some t125)) else ((cfg_sorted_int.f (([wrap64 (a1 + 1)] : List Int))).bind fun t131 => ((GNextDel.f t131 l0).bind fun t134 => (some t134)))))) else (none)) else (none)) else (some ([] : List Int)))) = some r := h
 clear h
 replace H := Option.bind_eq_some_iff.mp H
 obtain ⟨t102, A30, H⟩ := H
 replace H : (if t102 = true then (if 0 ≤ a1 then (if a1 < (l0.length : Int) then (if ((rd_T30 l0 a1).kind) = 7 then ((cfg_sorted_int.f (([(rd_T30 l0 a1).a, (rd_T30 l0 a1).b] : List Int))).bind fun t109 => ((GNextDel.f t109 l0).bind fun t112 => (some t112))) else (if ((rd_T30 l0 a1).kind) = 8 then ((cfg_sorted_int.f (([(rd_T30 l0 a1).a] : List Int))).bind fun t119 => ((GNextDel.f t119 l0).bind fun t122 => (some t122))) else (if ((rd_T30 l0 a1).kind) = 9 then ((GNextDel.f ([] : List Int) l0).bind fun t125 => (some t125)) else ((cfg_sorted_int.f (([wrap64 (a1 + 1)] : List Int))).bind fun t131 => ((GNextDel.f t131 l0).bind fun t134 => (some t134)))))) else (none)) else (none)) else (some ([] : List Int))) = some r := H
 have A3 := am A30
 clear A30
 by_cases c4 : t102 = true
 ·subst c4
  have H1 : (if 0 ≤ a1 then (if a1 < (l0.length : Int) then (if ((rd_T30 l0 a1).kind) = 7 then ((cfg_sorted_int.f (([(rd_T30 l0 a1).a, (rd_T30 l0 a1).b] : List Int))).bind fun t109 => ((GNextDel.f t109 l0).bind fun t112 => (some t112))) else (if ((rd_T30 l0 a1).kind) = 8 then ((cfg_sorted_int.f (([(rd_T30 l0 a1).a] : List Int))).bind fun t119 => ((GNextDel.f t119 l0).bind fun t122 => (some t122))) else (if ((rd_T30 l0 a1).kind) = 9 then ((GNextDel.f ([] : List Int) l0).bind fun t125 => (some t125)) else ((cfg_sorted_int.f (([wrap64 (a1 + 1)] : List Int))).bind fun t131 => ((GNextDel.f t131 l0).bind fun t134 => (some t134)))))) else (none)) else (none)) = some r := by rw [if_pos rfl] at H; exact H
  clear H
  have H := H1
  clear H1
  by_cases c5 : 0 ≤ a1
  ·rw [if_pos c5] at H
   have c5b0 : decide (0 ≤ a1) = true := decide_eq_true c5
   clear c5
   by_cases c6 : a1 < (l0.length : Int)
   ·rw [if_pos c6] at H
    have c6b0 : decide (a1 < (l0.length : Int)) = true := decide_eq_true c6
    clear c6
    by_cases c7 : ((rd_T30 l0 a1).kind) = 7
    ·rw [if_pos c7] at H
     have c7b0 : (((rd_T30 l0 a1).kind) == 7) = true := beq_iff_eq.mpr c7
     have c7b1 : (((rd_T30 l0 a1).kind) != 7) = false := bne_eq_false_iff_eq.mpr c7
     clear c7
     obtain ⟨y106, hy106⟩ : ∃ y_ : List Int, y_ = (([(rd_T30 l0 a1).a, (rd_T30 l0 a1).b] : List Int)) := ⟨_, rfl⟩
     replace H : ((cfg_sorted_int.f y106).bind fun t109 => ((GNextDel.f t109 l0).bind fun t112 => (some t112))) = some r := by first | (rw [hy106]; with_reducible exact H) | (have H2_ := (Option.bind_some _ _).symm.trans H; rw [hy106]; with_reducible exact H2_) | (have H2_ := (Option.bind_some _ _).symm.trans H; with_reducible exact H2_) | with_reducible exact H | (rw [hy106]; exact H) | exact H
     have Ny106 := am hy106
     clear hy106
     replace H := Option.bind_eq_some_iff.mp H
     obtain ⟨t109, A80, H⟩ := H
     replace H : ((GNextDel.f t109 l0).bind fun t112 => (some t112)) = some r := H
     have A8 := am A80
     clear A80
     replace H := Option.bind_eq_some_iff.mp H
     obtain ⟨t112, A90, H⟩ := H
     replace H : (some t112) = some r := H
     have A9 := am A90
     clear A90
     obtain rfl := Option.some.inj H
     go_enter Try.func19, Try.ntmps19
     try go_wp2_with (first | ((with_reducible refine gate_dst (N := 2) rfl ?_); refine box_event ?hg (N := 2) ?hd (cs := #[.slice A0 l0.length c0]) (t := 22) ?hr ?_; (case hd => rfl); (case hg => rfl); (case hr => first | (go_simp; done) | (go_simp; rfl)); intro gb101 hg w10 hbox hb; have BK101 := am (hbox); have GW101 := am ((by rw [hg]; exact (below_size (by repeat (first | (with_reducible first | exact HB.out | apply lA | apply lN | apply lD) | exact HB.out))) : w.heap.size ≤ gb101)); have GE101 := am ((by rw [hg]; exact (below_size (by repeat (first | (with_reducible first | exact HB.out | apply lA | apply lN | apply lD) | exact HB.out))) : w.heap.size ≤ gb101)); replace HB := am (below_step (by repeat (first | (with_reducible first | exact HB.out | apply lA | apply lN | apply lD) | exact HB.out)) hb); clear hb hbox hg; have hcz11_0 : w10.cell? ⟨gb101, 0, none⟩ = some (.slice A0 l0.length c0) := (blk_cell BK101.out 0).trans rfl; have hfz11_0 := blk_frozen BK101.out 0) | ((with_reducible refine gate_callee (f := 42) rfl ?_); refine goesL_ (some 8) rfl rfl Try.func42 (by kernel_rfl) rfl #[.slice A0 l0.length c0, .int .i64 a1] rfl (by (try simp only [List.map_toArray, List.map_cons, List.map_nil]); first | done | rfl | (simp only [List.length_drop, List.length_take]; rfl)) ?_; (with_reducible refine (cfg_within.calls _ _ l0 a1 true _ ?side1 ?side2 A3.out).mono ?_); (case side1 => repeat (first | exact (Kd.C_below HR0.out HB.out) | (with_reducible refine Kd.C_alloc ?_ _) | (with_reducible refine Kd.C_drewN ?_ _) | (with_reducible refine Kd.C_drew ?_))); (case side2 => exact HC0.out); rintro e w' ⟨rfl, ⟨nd, rfl⟩⟩; refine ⟨_, rfl, ?_⟩; have p103 : 0 ≤ (a1 : Int) := of_decide_eq_true (by first | (with_reducible assumption) | assumption); have q103 : a1 < (l0.length : Int) := of_decide_eq_true (by first | (with_reducible assumption) | assumption); obtain ⟨ad103, e103, hx103_0, hx103_1, hx103_2, hx103_3, hx103_4, hx103_5, hx103_6, hx103_7⟩ := at_T30 HR0.out a1 p103 q103; cases e103; replace hx103_0 := (HB.out.cell (blt_ hx103_0)).trans hx103_0; replace hx103_1 := (HB.out.cell (blt_ hx103_1)).trans hx103_1; replace hx103_2 := (HB.out.cell (blt_ hx103_2)).trans hx103_2; replace hx103_3 := (HB.out.cell (blt_ hx103_3)).trans hx103_3; replace hx103_4 := (HB.out.cell (blt_ hx103_4)).trans hx103_4; replace hx103_5 := (HB.out.cell (blt_ hx103_5)).trans hx103_5; replace hx103_6 := (HB.out.cell (blt_ hx103_6)).trans hx103_6; replace hx103_7 := (HB.out.cell (blt_ hx103_7)).trans hx103_7; replace p103 := eq_true p103; replace q103 := eq_true q103))
     (try (rw [drewN_self w10]; generalize hq_ : World.drewN w10 _ = w10; replace BK101 : Aside0 (w10.heap[gb101]? = some (.cells #[.slice (some ad103) l0.length c0] 22 (0, 0))) := ⟨by rw [← hq_]; exact (by (with_reducible repeat (first | refine bN ?_ _ | refine bD ?_ | refine bA ?_ _)); exact BK101.out)⟩; replace HB : Aside0 (Below w.heap.size w w10) := ⟨by rw [← hq_]; exact (by repeat (first | (with_reducible first | exact HB.out | apply lA | apply lN | apply lD | refine lS ?_ GE101.out) | exact HB.out))⟩; clear hq_))
     replace BK101 := am (blk_drew BK101.out)
     replace HB := am (below_drew1 HB.out)
     have p104 : 0 ≤ (a1 : Int) := of_decide_eq_true (by first | (with_reducible assumption) | assumption)
     have q104 : a1 < (l0.length : Int) := of_decide_eq_true (by first | (with_reducible assumption) | assumption)
     obtain ⟨ad104, e104, hx104_0, hx104_1, hx104_2, hx104_3, hx104_4, hx104_5, hx104_6, hx104_7⟩ := at_T30 HR0.out a1 p104 q104
     have hw104_7 := hx104_7
     have hw104_6 := hx104_6
     have hw104_5 := hx104_5
     have hw104_4 := hx104_4
     have hw104_3 := hx104_3
     have hw104_2 := hx104_2
     have hw104_1 := hx104_1
     have hw104_0 := hx104_0
     obtain rfl : ad103 = ad104 := (by injection e104)
     replace hx104_0 := (HB.out.cell (blt_ hx104_0)).trans hx104_0
     replace hx104_1 := (HB.out.cell (blt_ hx104_1)).trans hx104_1
     replace hx104_2 := (HB.out.cell (blt_ hx104_2)).trans hx104_2
     replace hx104_3 := (HB.out.cell (blt_ hx104_3)).trans hx104_3
     replace hx104_4 := (HB.out.cell (blt_ hx104_4)).trans hx104_4
     replace hx104_5 := (HB.out.cell (blt_ hx104_5)).trans hx104_5
     replace hx104_6 := (HB.out.cell (blt_ hx104_6)).trans hx104_6
     replace hx104_7 := (HB.out.cell (blt_ hx104_7)).trans hx104_7
     replace p104 := eq_true p104
     replace q104 := eq_true q104
     have p105 : 0 ≤ (a1 : Int) := of_decide_eq_true (by first | (with_reducible assumption) | assumption)
     have q105 : a1 < (l0.length : Int) := of_decide_eq_true (by first | (with_reducible assumption) | assumption)
     obtain ⟨ad105, e105, hx105_0, hx105_1, hx105_2, hx105_3, hx105_4, hx105_5, hx105_6, hx105_7⟩ := at_T30 HR0.out a1 p105 q105
     have hw105_7 := hx105_7
     have hw105_6 := hx105_6
     have hw105_5 := hx105_5
     have hw105_4 := hx105_4
     have hw105_3 := hx105_3
     have hw105_2 := hx105_2
     have hw105_1 := hx105_1
     have hw105_0 := hx105_0
     obtain rfl : ad103 = ad105 := (by injection e105)
     replace hx105_0 := (HB.out.cell (blt_ hx105_0)).trans hx105_0
     replace hx105_1 := (HB.out.cell (blt_ hx105_1)).trans hx105_1
     replace hx105_2 := (HB.out.cell (blt_ hx105_2)).trans hx105_2
     replace hx105_3 := (HB.out.cell (blt_ hx105_3)).trans hx105_3
     replace hx105_4 := (HB.out.cell (blt_ hx105_4)).trans hx105_4
     replace hx105_5 := (HB.out.cell (blt_ hx105_5)).trans hx105_5
     replace hx105_6 := (HB.out.cell (blt_ hx105_6)).trans hx105_6
     replace hx105_7 := (HB.out.cell (blt_ hx105_7)).trans hx105_7
     replace p105 := eq_true p105
     replace q105 := eq_true q105
     refine start_ (n := 13) (S := fun w' => w'.cell? ⟨gb101, 0, none⟩ = some (.slice (some ad103) l0.length c0) ∧ w'.cell? (ad103.add ((a1).toNat * 8)) = some (.int .i64 ((rd_T30 l0 a1).kind)) ∧ w'.cell? ⟨(ad103.add ((a1).toNat * 8)).block, (ad103.add ((a1).toNat * 8)).off + 1, none⟩ = some (.string ((rd_T30 l0 a1).x)) ∧ w'.cell? ⟨(ad103.add ((a1).toNat * 8)).block, (ad103.add ((a1).toNat * 8)).off + 2, none⟩ = some (.string ((rd_T30 l0 a1).y)) ∧ w'.cell? ⟨(ad103.add ((a1).toNat * 8)).block, (ad103.add ((a1).toNat * 8)).off + 3, none⟩ = some (.string ((rd_T30 l0 a1).z)) ∧ w'.cell? ⟨(ad103.add ((a1).toNat * 8)).block, (ad103.add ((a1).toNat * 8)).off + 4, none⟩ = some (.string ((rd_T30 l0 a1).op)) ∧ w'.cell? ⟨(ad103.add ((a1).toNat * 8)).block, (ad103.add ((a1).toNat * 8)).off + 5, none⟩ = some (.int .i64 ((rd_T30 l0 a1).n)) ∧ w'.cell? ⟨(ad103.add ((a1).toNat * 8)).block, (ad103.add ((a1).toNat * 8)).off + 6, none⟩ = some (.int .i64 ((rd_T30 l0 a1).a)) ∧ w'.cell? ⟨(ad103.add ((a1).toNat * 8)).block, (ad103.add ((a1).toNat * 8)).off + 7, none⟩ = some (.int .i64 ((rd_T30 l0 a1).b)) ∧ w'.cell? (ad103.add ((a1).toNat * 8)) = some (.int .i64 ((rd_T30 l0 a1).kind)) ∧ w'.cell? ⟨(ad103.add ((a1).toNat * 8)).block, (ad103.add ((a1).toNat * 8)).off + 1, none⟩ = some (.string ((rd_T30 l0 a1).x)) ∧ w'.cell? ⟨(ad103.add ((a1).toNat * 8)).block, (ad103.add ((a1).toNat * 8)).off + 2, none⟩ = some (.string ((rd_T30 l0 a1).y)) ∧ w'.cell? ⟨(ad103.add ((a1).toNat * 8)).block, (ad103.add ((a1).toNat * 8)).off + 3, none⟩ = some (.string ((rd_T30 l0 a1).z)) ∧ w'.cell? ⟨(ad103.add ((a1).toNat * 8)).block, (ad103.add ((a1).toNat * 8)).off + 4, none⟩ = some (.string ((rd_T30 l0 a1).op)) ∧ w'.cell? ⟨(ad103.add ((a1).toNat * 8)).block, (ad103.add ((a1).toNat * 8)).off + 5, none⟩ = some (.int .i64 ((rd_T30 l0 a1).n)) ∧ w'.cell? ⟨(ad103.add ((a1).toNat * 8)).block, (ad103.add ((a1).toNat * 8)).off + 6, none⟩ = some (.int .i64 ((rd_T30 l0 a1).a)) ∧ w'.cell? ⟨(ad103.add ((a1).toNat * 8)).block, (ad103.add ((a1).toNat * 8)).off + 7, none⟩ = some (.int .i64 ((rd_T30 l0 a1).b))) (ds := []) (bl 13 0) (by kernel_rfl) rfl rfl ⟨(blk_cell BK101.out 0).trans rfl, ((HB.out.cell (blt_ hw104_0)).trans hw104_0), ((HB.out.cell (blt_ hw104_1)).trans hw104_1), ((HB.out.cell (blt_ hw104_2)).trans hw104_2), ((HB.out.cell (blt_ hw104_3)).trans hw104_3), ((HB.out.cell (blt_ hw104_4)).trans hw104_4), ((HB.out.cell (blt_ hw104_5)).trans hw104_5), ((HB.out.cell (blt_ hw104_6)).trans hw104_6), ((HB.out.cell (blt_ hw104_7)).trans hw104_7), ((HB.out.cell (blt_ hw105_0)).trans hw105_0), ((HB.out.cell (blt_ hw105_1)).trans hw105_1), ((HB.out.cell (blt_ hw105_2)).trans hw105_2), ((HB.out.cell (blt_ hw105_3)).trans hw105_3), ((HB.out.cell (blt_ hw105_4)).trans hw105_4), ((HB.out.cell (blt_ hw105_5)).trans hw105_5), ((HB.out.cell (blt_ hw105_6)).trans hw105_6), ((HB.out.cell (blt_ hw105_7)).trans hw105_7)⟩ (fun hHeld => ?_); refine with_tabW cfg_Next.tab7 cfg_Next.bits7 (fun HT_ HW_ => ?_)
     generalize w10.drew = w12 at BK101 HB hx104_0 hx104_1 hx104_2 hx104_3 hx104_4 hx104_5 hx104_6 hx104_7 hx105_0 hx105_1 hx105_2 hx105_3 hx105_4 hx105_5 hx105_6 hx105_7 hHeld ⊢
     refine pure_ (i := 1) (N := some 22) (v := ?_) (a' := ?_) (bl 13 2) rfl rfl (any_of HT_.out (by kernel_rfl)) (fun _ _ _ h => h) (Or.inl ⟨by rfl, ?_⟩) ?_ ?_
     rotate_left
     ·intro w'
      go_simp
      with_reducible rfl
     rotate_left
     ·simp only [Act.put, sA, sZ, sS, i64_w, i32_w]
      rfl
     refine pure_ (i := 6) (N := some 27) (v := ?_) (a' := ?_) (bl 13 66) rfl rfl (any_of HT_.out (by kernel_rfl)) (fun _ _ _ h => h) (Or.inl ⟨by rfl, ?_⟩) ?_ ?_
     rotate_left
     ·intro w'
      go_simp
      with_reducible rfl
     rotate_left
     ·simp only [Act.put, sA, sZ, sS, i64_w, i32_w]
      rfl
     refine take_ (i := 0) (N := some 21) (v := ?_) (a' := ?_) (bl 13 67) rfl rfl (take_ofW HT_.out HW_.out (by kernel_rfl)) (fun _ _ _ h => h) (Or.inl ⟨by rfl, ?_⟩) hHeld ?_ ?_
     rotate_left
     ·rintro w' ⟨s0, s1, s2, s3, s4, s5, s6, s7, s8, s9, s10, s11, s12, s13, s14, s15, s16⟩
      go_simp
      with_reducible rfl
     rotate_left
     ·simp only [Act.put, sA, sZ, sS, i64_w, i32_w]
      rfl
     refine pure_ (i := 2) (N := some 23) (v := ?_) (a' := ?_) (bl 13 71) rfl rfl (any_of HT_.out (by kernel_rfl)) (fun _ _ _ h => h) (Or.inl ⟨by rfl, ?_⟩) ?_ ?_
     rotate_left
     ·intro w'
      go_simp
      with_reducible rfl
     rotate_left
     ·simp only [Act.put, sA, sZ, sS, i64_w, i32_w]
      rfl
     refine pure_ (i := 3) (N := some 24) (v := ?_) (a' := ?_) (bl 13 79) rfl rfl (any_of HT_.out (by kernel_rfl)) (fun _ _ _ h => h) (Or.inl ⟨by rfl, ?_⟩) ?_ ?_
     rotate_left
     ·intro w'
      go_simp
      with_reducible rfl
     rotate_left
     ·simp only [Act.put, sA, sZ, sS, i64_w, i32_w]
      rfl
     refine take_ (i := 4) (N := some 25) (v := ?_) (a' := ?_) (bl 13 95) rfl rfl (take_ofW HT_.out HW_.out (by kernel_rfl)) (fun _ _ _ h => h) (Or.inl ⟨by rfl, ?_⟩) hHeld ?_ ?_
     rotate_left
     ·rintro w' ⟨s0, s1, s2, s3, s4, s5, s6, s7, s8, s9, s10, s11, s12, s13, s14, s15, s16⟩
      go_simp
      with_reducible rfl
     rotate_left
     ·simp only [Act.put, sA, sZ, sS, i64_w, i32_w]
      rfl
     refine take_ (i := 5) (N := some 26) (v := ?_) (a' := ?_) (bl 13 127) rfl rfl (take_ofW HT_.out HW_.out (by kernel_rfl)) (fun _ _ _ h => h) (Or.inl ⟨by rfl, ?_⟩) hHeld ?_ ?_
     rotate_left
     ·rintro w' ⟨s0, s1, s2, s3, s4, s5, s6, s7, s8, s9, s10, s11, s12, s13, s14, s15, s16⟩
      go_simp
      with_reducible rfl
     rotate_left
     ·simp only [Act.put, sA, sZ, sS, i64_w, i32_w]
      rfl
     refine pure_ (i := 7) (N := some 28) (v := ?_) (a' := ?_) (bl 13 255) rfl rfl (any_of HT_.out (by kernel_rfl)) (fun _ _ _ h => h) (Or.inl ⟨by rfl, ?_⟩) ?_ ?_
     rotate_left
     ·intro w'
      go_simp
      with_reducible rfl
     rotate_left
     ·simp only [Act.put, sA, sZ, sS, i64_w, i32_w]
      rfl
     refine pure_ (i := 8) (N := some 29) (v := ?_) (a' := ?_) (bl 13 511) rfl rfl (any_of HT_.out (by kernel_rfl)) (fun _ _ _ h => h) (Or.inl ⟨by rfl, ?_⟩) ?_ ?_
     rotate_left
     ·intro w'
      go_simp
      with_reducible rfl
     rotate_left
     ·simp only [Act.put, sA, sZ, sS, i64_w, i32_w]
      rfl
     refine take_ (i := 9) (N := some 30) (v := ?_) (a' := ?_) (bl 13 1023) rfl rfl (take_ofW HT_.out HW_.out (by kernel_rfl)) (fun _ _ _ h => h) (Or.inl ⟨by rfl, ?_⟩) hHeld ?_ ?_
     rotate_left
     ·rintro w' ⟨s0, s1, s2, s3, s4, s5, s6, s7, s8, s9, s10, s11, s12, s13, s14, s15, s16⟩
      go_simp
      with_reducible rfl
     rotate_left
     ·simp only [Act.put, sA, sZ, sS, i64_w, i32_w]
      rfl
     refine one_ (i := 10) (N := some 31) (bl 13 2047) rfl rfl (one_of HT_.out (by kernel_rfl)) (by decide) (fun K hK => ?_)
     refine Kd.R_lit_step (Kd.int .i64) _ 3 ?hg (N := 31) ?hd (xs := ([(rd_T30 l0 a1).a, (rd_T30 l0 a1).b] : List Int)) (inner := [.int .i64 ((rd_T30 l0 a1).a), .int .i64 ((rd_T30 l0 a1).b)]) (ok := fun _ => True) (okp := fun _ => True) ?hr ?hp (fun _ hk => hk) trivial (Below.refl _ _) (Nat.le_refl _) (by simp) ?_; (case hd => rfl); (case hg => rfl); (case hr => first | (go_simp; done) | (go_simp; rfl)); (case hp => exact (Reps.one (show Kd.M (Kd.int .i64) _ _ _ ((rd_T30 l0 a1).a) [.int .i64 ((rd_T30 l0 a1).a)] from rfl) (Reps.one (show Kd.M (Kd.int .i64) _ _ _ ((rd_T30 l0 a1).b) [.int .i64 ((rd_T30 l0 a1).b)] from rfl) (Reps.none _ _))))
     intro v107 w13 ho14 hb hg_ hnew_
     clear hg_ hnew_
     (first | rw [← Ny106.out] at ho14 | (simp only [Int.reduceToNat] at ho14; rw [← Ny106.out] at ho14))
     have HO108 := am (Kd.R_lower ho14 (below_size (by repeat (first | (with_reducible first | exact HB.out | apply lA | apply lN | apply lD | refine lS ?_ GE101.out) | exact HB.out))))
     replace BK101 := am (blk_below (g := gb101) (o := .cells #[.slice (some ad103) l0.length c0] 22 (0, 0)) (by (with_reducible repeat (first | refine bN ?_ _ | refine bD ?_ | refine bA ?_ _)); exact BK101.out) hb)
     replace HB := am (below_step (by repeat (first | (with_reducible first | exact HB.out | apply lA | apply lN | apply lD | refine lS ?_ GE101.out) | exact HB.out)) hb)
     clear hb ho14
     obtain ⟨Ao15, co15, eo15⟩ := Kd.R_slice HO108.out
     (first | subst eo15 | (injection eo15 with f1_ f2_ f3_; have f4_ := f1_.symm; have f5_ := f3_.symm; clear f1_ f2_ f3_; subst f4_; subst f5_))
     refine hK.out _ _ ⟨(blk_cell BK101.out 0).trans rfl, ((HB.out.cell (blt_ hw104_0)).trans hw104_0), ((HB.out.cell (blt_ hw104_1)).trans hw104_1), ((HB.out.cell (blt_ hw104_2)).trans hw104_2), ((HB.out.cell (blt_ hw104_3)).trans hw104_3), ((HB.out.cell (blt_ hw104_4)).trans hw104_4), ((HB.out.cell (blt_ hw104_5)).trans hw104_5), ((HB.out.cell (blt_ hw104_6)).trans hw104_6), ((HB.out.cell (blt_ hw104_7)).trans hw104_7), ((HB.out.cell (blt_ hw105_0)).trans hw105_0), ((HB.out.cell (blt_ hw105_1)).trans hw105_1), ((HB.out.cell (blt_ hw105_2)).trans hw105_2), ((HB.out.cell (blt_ hw105_3)).trans hw105_3), ((HB.out.cell (blt_ hw105_4)).trans hw105_4), ((HB.out.cell (blt_ hw105_5)).trans hw105_5), ((HB.out.cell (blt_ hw105_6)).trans hw105_6), ((HB.out.cell (blt_ hw105_7)).trans hw105_7)⟩ (fun hHeld => ?_)
     clear hK K
     refine norm_ (a' := ?_) ?_ ?_
     rotate_left
     ·show Act.put _ (some 31) _ = _
      simp only [Act.put, sA, sZ, sS, i64_w, i32_w]
      rfl
     refine one_ (i := 11) (N := some 32) (bl 13 4095) rfl rfl (one_of HT_.out (by kernel_rfl)) (by decide) (fun K hK => ?_)
     refine goes_ Try.func47 (by kernel_rfl) rfl #[.slice Ao15 y106.length co15] (by rfl) rfl rfl (by (try simp only [List.map_toArray, List.map_cons, List.map_nil]); first | done | rfl | (simp only [List.length_drop, List.length_take]; rfl)) ?_
     with_reducible refine (cfg_sorted_int.calls _ _ y106 t109 _ ?side1 ?side2 A8.out).mono ?_
     (case side1 => repeat (first | exact (Kd.R_reads' HO108.out).2.2 | (with_reducible refine Kd.C_alloc ?_ _) | (with_reducible refine Kd.C_drewN ?_ _) | (with_reducible refine Kd.C_drew ?_)))
     (case side2 => exact (Kd.R_reads' HO108.out).2.1)
     rintro e w16 ⟨v110, rfl, ho0, hb⟩
     refine ⟨_, rfl, ?_⟩
     have HO111 := am (Kd.R_lower (Kd.R_new' ho0 (Kd.R_lt (by (with_reducible repeat (first | apply Ra | apply Rn | apply Rd)); exact HO108.out))) (below_size (by repeat (first | (with_reducible first | exact HB.out | apply lA | apply lN | apply lD | refine lS ?_ GE101.out) | exact HB.out))))
     replace HO108 := am (Kd.R_elder' (by (with_reducible repeat (first | apply Ra | apply Rn | apply Rd)); exact HO108.out) (Kd.R_base ho0) hb)
     replace BK101 := am (blk_below (g := gb101) (o := .cells #[.slice (some ad103) l0.length c0] 22 (0, 0)) (by (with_reducible repeat (first | refine bN ?_ _ | refine bD ?_ | refine bA ?_ _)); exact BK101.out) hb)
     replace HB := am (below_step (by repeat (first | (with_reducible first | exact HB.out | apply lA | apply lN | apply lD | refine lS ?_ GE101.out) | exact HB.out)) hb)
     (try clear hb)
     (try clear hb2)
     (try clear hk)
     (try clear hi)
     (try clear ho0)
     refine hK.out _ _ ⟨(blk_cell BK101.out 0).trans rfl, ((HB.out.cell (blt_ hw104_0)).trans hw104_0), ((HB.out.cell (blt_ hw104_1)).trans hw104_1), ((HB.out.cell (blt_ hw104_2)).trans hw104_2), ((HB.out.cell (blt_ hw104_3)).trans hw104_3), ((HB.out.cell (blt_ hw104_4)).trans hw104_4), ((HB.out.cell (blt_ hw104_5)).trans hw104_5), ((HB.out.cell (blt_ hw104_6)).trans hw104_6), ((HB.out.cell (blt_ hw104_7)).trans hw104_7), ((HB.out.cell (blt_ hw105_0)).trans hw105_0), ((HB.out.cell (blt_ hw105_1)).trans hw105_1), ((HB.out.cell (blt_ hw105_2)).trans hw105_2), ((HB.out.cell (blt_ hw105_3)).trans hw105_3), ((HB.out.cell (blt_ hw105_4)).trans hw105_4), ((HB.out.cell (blt_ hw105_5)).trans hw105_5), ((HB.out.cell (blt_ hw105_6)).trans hw105_6), ((HB.out.cell (blt_ hw105_7)).trans hw105_7)⟩ (fun hHeld => ?_)
     clear hK K
     refine norm_ (a' := ?_) ?_ ?_
     rotate_left
     ·show Act.put _ (some 32) _ = _
      simp only [Act.put, sA, sZ, sS, i64_w, i32_w]
      rfl
     refine pure_ (i := 12) (N := some 5) (v := ?_) (a' := ?_) (bl 13 8191) rfl rfl (any_of HT_.out (by kernel_rfl)) (fun _ _ _ h => h) (Or.inl ⟨by rfl, ?_⟩) ?_ ?_
     rotate_left
     ·intro w'
      go_simp
      with_reducible rfl
     rotate_left
     ·simp only [Act.put, sA, sZ, sS, i64_w, i32_w]
      rfl
     refine done_ (done_of HT_.out (by kernel_rfl)) ?_
     obtain ⟨Ao17, co17, eo17⟩ := Kd.R_slice HO111.out
     subst eo17
     try go_wp2_with (first | ((with_reducible refine gate_callee (f := 48) rfl ?_); refine goesL_ (some 46) rfl rfl Try.func48 (by kernel_rfl) rfl #[.slice Ao17 t109.length co17, .func (.func 49) #[] #[.pointer (some ⟨gb101, 0, none⟩)]] rfl (by (try simp only [List.map_toArray, List.map_cons, List.map_nil]); first | done | rfl | (simp only [List.length_drop, List.length_take]; rfl)) ?_; (refine (GNextDel.calls (fun k_ => some k_ = (.slice Ao17 t109.length co17 : Value).ownBlock) (.slice Ao17 t109.length co17) t109 (some ad103) c0 l0 t112 w _ ?side1 ?side2 ?side3 ?side4 ?side5 A9.out).mono ?_); (case side1 => repeat (first | (with_reducible first | exact HB.out | apply lA | apply lN | apply lD | refine lS ?_ GE101.out) | exact HB.out)); (case side2 => exact Kd.R_tight rfl HO111.out); (case side3 => exact Kd.C_kept_came k30_heap HR0.out (by repeat (first | (with_reducible first | exact HB.out | apply lA | apply lN | apply lD | refine lS ?_ GE101.out) | exact HB.out)) (fun k_ hs_ => (fun e_ => Kd.R_base HO111.out k_ e_.symm) hs_)); (case side4 => exact HC0.out); (case side5 => (with_reducible repeat (first | refine bN ?_ _ | refine bD ?_ | refine bA ?_ _)); exact BK101.out); rintro e w18 ⟨v113, rfl, ho0, hb, hkp⟩; refine ⟨_, rfl, ?_⟩; replace BK101 := am (blk_kept (by (with_reducible repeat (first | refine bN ?_ _ | refine bD ?_ | refine bA ?_ _)); exact BK101.out) hkp (fun hs_ => (fun e_ => (Kd.R_ne HO111.out BK101.out (by decide)) e_) hs_)); have HO114 := am (Kd.R_mono (ok' := fun k_ => some k_ ≠ (.slice Ao15 y106.length co15 : Value).ownBlock) ho0 (fun k_ hk_ => Or.elim hk_ (fun hs_ => fun e_ => (((HO108.out).1 k_ e_.symm).2) hs_) (fun hn_ => (Kd.fresh' (Kd.R_lt (by (with_reducible repeat (first | apply Ra | apply Rn | apply Rd)); exact HO108.out)) k_ hn_)))); replace HO108 := am (Kd.R_mono (ok' := fun k_ => some k_ ≠ (v113 : Value).ownBlock) (Kd.R_keptB (HO108.out) hkp (fun k_ hk_ hs_ => (hk_.2) hs_)) (fun k_ hk_ => fun e_ => Or.elim (ho0.1 k_ e_.symm) (fun hs_ => hk_.2.1 hs_) (fun hn_ => Nat.not_le.2 hk_.2.2 hn_))); replace HB := am (hb); clear HO111; (try clear hb); (try clear hkp); (try clear ho0)))
     go_ret
     exact ⟨_, by first | rfl | (simp [errW_none, errW_some] <;> rfl) | (simp [*, errW_none, errW_some] <;> rfl), by (with_reducible repeat (first | apply Ra | apply Rn | apply Rd)); exact Kd.R_mono HO114.out (fun _ hk => trivial), by repeat (first | (with_reducible first | exact HB.out | apply lA | apply lN | apply lD | refine lS ?_ GE101.out) | exact HB.out)⟩
    ·rw [if_neg c7] at H
     have c7b0 : (((rd_T30 l0 a1).kind) == 7) = false := beq_eq_false_iff_ne.mpr c7
     have c7b1 : (((rd_T30 l0 a1).kind) != 7) = true := bne_iff_ne.mpr c7
     by_cases c19 : ((rd_T30 l0 a1).kind) = 8
     ·rw [if_pos c19] at H
      have c19b0 : (((rd_T30 l0 a1).kind) == 8) = true := beq_iff_eq.mpr c19
      have c19b1 : (((rd_T30 l0 a1).kind) != 8) = false := bne_eq_false_iff_eq.mpr c19
      clear c19
      obtain ⟨y116, hy116⟩ : ∃ y_ : List Int, y_ = (([(rd_T30 l0 a1).a] : List Int)) := ⟨_, rfl⟩
      replace H : ((cfg_sorted_int.f y116).bind fun t119 => ((GNextDel.f t119 l0).bind fun t122 => (some t122))) = some r := by first | (rw [hy116]; with_reducible exact H) | (have H2_ := (Option.bind_some _ _).symm.trans H; rw [hy116]; with_reducible exact H2_) | (have H2_ := (Option.bind_some _ _).symm.trans H; with_reducible exact H2_) | with_reducible exact H | (rw [hy116]; exact H) | exact H
      have Ny116 := am hy116
      clear hy116
      replace H := Option.bind_eq_some_iff.mp H
      obtain ⟨t119, A200, H⟩ := H
      replace H : ((GNextDel.f t119 l0).bind fun t122 => (some t122)) = some r := H
      have A20 := am A200
      clear A200
      replace H := Option.bind_eq_some_iff.mp H
      obtain ⟨t122, A210, H⟩ := H
      replace H : (some t122) = some r := H
      have A21 := am A210
      clear A210
      obtain rfl := Option.some.inj H
      go_enter Try.func19, Try.ntmps19
      go_wp2_with (first | ((with_reducible refine gate_dst (N := 2) rfl ?_); refine box_event ?hg (N := 2) ?hd (cs := #[.slice A0 l0.length c0]) (t := 22) ?hr ?_; (case hd => rfl); (case hg => rfl); (case hr => first | (go_simp; done) | (go_simp; rfl)); intro gb101 hg w22 hbox hb; have BK101 := am (hbox); have GW101 := am ((by rw [hg]; exact (below_size (by repeat (first | (with_reducible first | exact HB.out | apply lA | apply lN | apply lD) | exact HB.out))) : w.heap.size ≤ gb101)); have GE101 := am ((by rw [hg]; exact (below_size (by repeat (first | (with_reducible first | exact HB.out | apply lA | apply lN | apply lD) | exact HB.out))) : w.heap.size ≤ gb101)); replace HB := am (below_step (by repeat (first | (with_reducible first | exact HB.out | apply lA | apply lN | apply lD) | exact HB.out)) hb); clear hb hbox hg; have hcz23_0 : w22.cell? ⟨gb101, 0, none⟩ = some (.slice A0 l0.length c0) := (blk_cell BK101.out 0).trans rfl; have hfz23_0 := blk_frozen BK101.out 0) | ((with_reducible refine gate_callee (f := 42) rfl ?_); refine goesL_ (some 8) rfl rfl Try.func42 (by kernel_rfl) rfl #[.slice A0 l0.length c0, .int .i64 a1] rfl (by (try simp only [List.map_toArray, List.map_cons, List.map_nil]); first | done | rfl | (simp only [List.length_drop, List.length_take]; rfl)) ?_; (with_reducible refine (cfg_within.calls _ _ l0 a1 true _ ?side1 ?side2 A3.out).mono ?_); (case side1 => repeat (first | exact (Kd.C_below HR0.out HB.out) | (with_reducible refine Kd.C_alloc ?_ _) | (with_reducible refine Kd.C_drewN ?_ _) | (with_reducible refine Kd.C_drew ?_))); (case side2 => exact HC0.out); rintro e w' ⟨rfl, ⟨nd, rfl⟩⟩; refine ⟨_, rfl, ?_⟩; have p103 : 0 ≤ (a1 : Int) := of_decide_eq_true (by first | (with_reducible assumption) | assumption); have q103 : a1 < (l0.length : Int) := of_decide_eq_true (by first | (with_reducible assumption) | assumption); obtain ⟨ad103, e103, hx103_0, hx103_1, hx103_2, hx103_3, hx103_4, hx103_5, hx103_6, hx103_7⟩ := at_T30 HR0.out a1 p103 q103; cases e103; replace hx103_0 := (HB.out.cell (blt_ hx103_0)).trans hx103_0; replace hx103_1 := (HB.out.cell (blt_ hx103_1)).trans hx103_1; replace hx103_2 := (HB.out.cell (blt_ hx103_2)).trans hx103_2; replace hx103_3 := (HB.out.cell (blt_ hx103_3)).trans hx103_3; replace hx103_4 := (HB.out.cell (blt_ hx103_4)).trans hx103_4; replace hx103_5 := (HB.out.cell (blt_ hx103_5)).trans hx103_5; replace hx103_6 := (HB.out.cell (blt_ hx103_6)).trans hx103_6; replace hx103_7 := (HB.out.cell (blt_ hx103_7)).trans hx103_7; replace p103 := eq_true p103; replace q103 := eq_true q103; have p115 : 0 ≤ (a1 : Int) := of_decide_eq_true (by first | (with_reducible assumption) | assumption); have q115 : a1 < (l0.length : Int) := of_decide_eq_true (by first | (with_reducible assumption) | assumption); obtain ⟨ad115, e115, hx115_0, hx115_1, hx115_2, hx115_3, hx115_4, hx115_5, hx115_6, hx115_7⟩ := at_T30 HR0.out a1 p115 q115; obtain rfl : ad103 = ad115 := (by injection e115); replace hx115_0 := (HB.out.cell (blt_ hx115_0)).trans hx115_0; replace hx115_1 := (HB.out.cell (blt_ hx115_1)).trans hx115_1; replace hx115_2 := (HB.out.cell (blt_ hx115_2)).trans hx115_2; replace hx115_3 := (HB.out.cell (blt_ hx115_3)).trans hx115_3; replace hx115_4 := (HB.out.cell (blt_ hx115_4)).trans hx115_4; replace hx115_5 := (HB.out.cell (blt_ hx115_5)).trans hx115_5; replace hx115_6 := (HB.out.cell (blt_ hx115_6)).trans hx115_6; replace hx115_7 := (HB.out.cell (blt_ hx115_7)).trans hx115_7; replace p115 := eq_true p115; replace q115 := eq_true q115) | ((with_reducible refine gate_dst (N := 40) rfl ?_); refine Kd.R_lit (Kd.int .i64) _ 3 ?hg (N := 40) ?hd (xs := ([(rd_T30 l0 a1).a] : List Int)) (inner := [.int .i64 ((rd_T30 l0 a1).a)]) (ok := fun _ => True) (okp := fun _ => True) ?hr ?hp (fun _ hk => hk) trivial (Below.refl _ _) (Nat.le_refl _) (by simp) ?_; (case hd => rfl); (case hg => rfl); (case hr => first | (go_simp; done) | (go_simp; rfl)); (case hp => exact (Reps.one (show Kd.M (Kd.int .i64) _ _ _ ((rd_T30 l0 a1).a) [.int .i64 ((rd_T30 l0 a1).a)] from rfl) (Reps.none _ _))); intro v117 w24 ho25 hb hg_ hnew_; clear hg_ hnew_; (first | rw [← Ny116.out] at ho25 | (simp only [Int.reduceToNat] at ho25; rw [← Ny116.out] at ho25)); have HO118 := am (Kd.R_lower ho25 (below_size (by repeat (first | (with_reducible first | exact HB.out | apply lA | apply lN | apply lD | refine lS ?_ GE101.out) | exact HB.out)))); replace BK101 := am (blk_below (g := gb101) (o := .cells #[.slice (some ad103) l0.length c0] 22 (0, 0)) (by (with_reducible repeat (first | refine bN ?_ _ | refine bD ?_ | refine bA ?_ _)); exact BK101.out) hb); replace HB := am (below_step (by repeat (first | (with_reducible first | exact HB.out | apply lA | apply lN | apply lD | refine lS ?_ GE101.out) | exact HB.out)) hb); clear hb ho25; obtain ⟨Ao26, co26, eo26⟩ := Kd.R_slice HO118.out; subst eo26) | ((with_reducible refine gate_callee (f := 47) rfl ?_); refine goesL_ (some 41) rfl rfl Try.func47 (by kernel_rfl) rfl #[.slice Ao26 y116.length co26] rfl (by (try simp only [List.map_toArray, List.map_cons, List.map_nil]); first | done | rfl | (simp only [List.length_drop, List.length_take]; rfl)) ?_; (with_reducible refine (cfg_sorted_int.calls _ _ y116 t119 _ ?side1 ?side2 A20.out).mono ?_); (case side1 => repeat (first | exact (Kd.R_reads' HO118.out).2.2 | (with_reducible refine Kd.C_alloc ?_ _) | (with_reducible refine Kd.C_drewN ?_ _) | (with_reducible refine Kd.C_drew ?_))); (case side2 => exact (Kd.R_reads' HO118.out).2.1); rintro e w27 ⟨v120, rfl, ho0, hb⟩; refine ⟨_, rfl, ?_⟩; have HO121 := am (Kd.R_lower (Kd.R_new' ho0 (Kd.R_lt (by (with_reducible repeat (first | apply Ra | apply Rn | apply Rd)); exact HO118.out))) (below_size (by repeat (first | (with_reducible first | exact HB.out | apply lA | apply lN | apply lD | refine lS ?_ GE101.out) | exact HB.out)))); replace HO118 := am (Kd.R_elder' (by (with_reducible repeat (first | apply Ra | apply Rn | apply Rd)); exact HO118.out) (Kd.R_base ho0) hb); replace BK101 := am (blk_below (g := gb101) (o := .cells #[.slice (some ad103) l0.length c0] 22 (0, 0)) (by (with_reducible repeat (first | refine bN ?_ _ | refine bD ?_ | refine bA ?_ _)); exact BK101.out) hb); replace HB := am (below_step (by repeat (first | (with_reducible first | exact HB.out | apply lA | apply lN | apply lD | refine lS ?_ GE101.out) | exact HB.out)) hb); (try clear hb); (try clear hb2); (try clear hk); (try clear hi); (try clear ho0); obtain ⟨Ao28, co28, eo28⟩ := Kd.R_slice HO121.out; subst eo28) | ((with_reducible refine gate_callee (f := 48) rfl ?_); refine goesL_ (some 46) rfl rfl Try.func48 (by kernel_rfl) rfl #[.slice Ao28 t119.length co28, .func (.func 49) #[] #[.pointer (some ⟨gb101, 0, none⟩)]] rfl (by (try simp only [List.map_toArray, List.map_cons, List.map_nil]); first | done | rfl | (simp only [List.length_drop, List.length_take]; rfl)) ?_; (refine (GNextDel.calls (fun k_ => some k_ = (.slice Ao28 t119.length co28 : Value).ownBlock) (.slice Ao28 t119.length co28) t119 (some ad103) c0 l0 t122 w _ ?side1 ?side2 ?side3 ?side4 ?side5 A21.out).mono ?_); (case side1 => repeat (first | (with_reducible first | exact HB.out | apply lA | apply lN | apply lD | refine lS ?_ GE101.out) | exact HB.out)); (case side2 => exact Kd.R_tight rfl HO121.out); (case side3 => exact Kd.C_kept_came k30_heap HR0.out (by repeat (first | (with_reducible first | exact HB.out | apply lA | apply lN | apply lD | refine lS ?_ GE101.out) | exact HB.out)) (fun k_ hs_ => (fun e_ => Kd.R_base HO121.out k_ e_.symm) hs_)); (case side4 => exact HC0.out); (case side5 => (with_reducible repeat (first | refine bN ?_ _ | refine bD ?_ | refine bA ?_ _)); exact BK101.out); rintro e w29 ⟨v123, rfl, ho0, hb, hkp⟩; refine ⟨_, rfl, ?_⟩; replace BK101 := am (blk_kept (by (with_reducible repeat (first | refine bN ?_ _ | refine bD ?_ | refine bA ?_ _)); exact BK101.out) hkp (fun hs_ => (fun e_ => (Kd.R_ne HO121.out BK101.out (by decide)) e_) hs_)); have HO124 := am (Kd.R_mono (ok' := fun k_ => some k_ ≠ (.slice Ao26 y116.length co26 : Value).ownBlock) ho0 (fun k_ hk_ => Or.elim hk_ (fun hs_ => fun e_ => (((HO118.out).1 k_ e_.symm).2) hs_) (fun hn_ => (Kd.fresh' (Kd.R_lt (by (with_reducible repeat (first | apply Ra | apply Rn | apply Rd)); exact HO118.out)) k_ hn_)))); replace HO118 := am (Kd.R_mono (ok' := fun k_ => some k_ ≠ (v123 : Value).ownBlock) (Kd.R_keptB (HO118.out) hkp (fun k_ hk_ hs_ => (hk_.2) hs_)) (fun k_ hk_ => fun e_ => Or.elim (ho0.1 k_ e_.symm) (fun hs_ => hk_.2.1 hs_) (fun hn_ => Nat.not_le.2 hk_.2.2 hn_))); replace HB := am (hb); clear HO121; (try clear hb); (try clear hkp); (try clear ho0)))
      go_ret
      exact ⟨_, by first | rfl | (simp [errW_none, errW_some] <;> rfl) | (simp [*, errW_none, errW_some] <;> rfl), by (with_reducible repeat (first | apply Ra | apply Rn | apply Rd)); exact Kd.R_mono HO124.out (fun _ hk => trivial), by repeat (first | (with_reducible first | exact HB.out | apply lA | apply lN | apply lD | refine lS ?_ GE101.out) | exact HB.out)⟩
     ·rw [if_neg c19] at H
      have c19b0 : (((rd_T30 l0 a1).kind) == 8) = false := beq_eq_false_iff_ne.mpr c19
      have c19b1 : (((rd_T30 l0 a1).kind) != 8) = true := bne_iff_ne.mpr c19
      by_cases c30 : ((rd_T30 l0 a1).kind) = 9
      ·rw [if_pos c30] at H
       have c30b0 : (((rd_T30 l0 a1).kind) == 9) = true := beq_iff_eq.mpr c30
       have c30b1 : (((rd_T30 l0 a1).kind) != 9) = false := bne_eq_false_iff_eq.mpr c30
       clear c30
       replace H := Option.bind_eq_some_iff.mp H
       obtain ⟨t125, A310, H⟩ := H
       replace H : (some t125) = some r := H
       have A31 := am A310
       clear A310
       obtain rfl := Option.some.inj H
       go_enter Try.func19, Try.ntmps19
       go_wp2_with (first | ((with_reducible refine gate_dst (N := 2) rfl ?_); refine box_event ?hg (N := 2) ?hd (cs := #[.slice A0 l0.length c0]) (t := 22) ?hr ?_; (case hd => rfl); (case hg => rfl); (case hr => first | (go_simp; done) | (go_simp; rfl)); intro gb101 hg w32 hbox hb; have BK101 := am (hbox); have GW101 := am ((by rw [hg]; exact (below_size (by repeat (first | (with_reducible first | exact HB.out | apply lA | apply lN | apply lD) | exact HB.out))) : w.heap.size ≤ gb101)); have GE101 := am ((by rw [hg]; exact (below_size (by repeat (first | (with_reducible first | exact HB.out | apply lA | apply lN | apply lD) | exact HB.out))) : w.heap.size ≤ gb101)); replace HB := am (below_step (by repeat (first | (with_reducible first | exact HB.out | apply lA | apply lN | apply lD) | exact HB.out)) hb); clear hb hbox hg; have hcz33_0 : w32.cell? ⟨gb101, 0, none⟩ = some (.slice A0 l0.length c0) := (blk_cell BK101.out 0).trans rfl; have hfz33_0 := blk_frozen BK101.out 0) | ((with_reducible refine gate_callee (f := 42) rfl ?_); refine goesL_ (some 8) rfl rfl Try.func42 (by kernel_rfl) rfl #[.slice A0 l0.length c0, .int .i64 a1] rfl (by (try simp only [List.map_toArray, List.map_cons, List.map_nil]); first | done | rfl | (simp only [List.length_drop, List.length_take]; rfl)) ?_; (with_reducible refine (cfg_within.calls _ _ l0 a1 true _ ?side1 ?side2 A3.out).mono ?_); (case side1 => repeat (first | exact (Kd.C_below HR0.out HB.out) | (with_reducible refine Kd.C_alloc ?_ _) | (with_reducible refine Kd.C_drewN ?_ _) | (with_reducible refine Kd.C_drew ?_))); (case side2 => exact HC0.out); rintro e w' ⟨rfl, ⟨nd, rfl⟩⟩; refine ⟨_, rfl, ?_⟩; have p103 : 0 ≤ (a1 : Int) := of_decide_eq_true (by first | (with_reducible assumption) | assumption); have q103 : a1 < (l0.length : Int) := of_decide_eq_true (by first | (with_reducible assumption) | assumption); obtain ⟨ad103, e103, hx103_0, hx103_1, hx103_2, hx103_3, hx103_4, hx103_5, hx103_6, hx103_7⟩ := at_T30 HR0.out a1 p103 q103; cases e103; replace hx103_0 := (HB.out.cell (blt_ hx103_0)).trans hx103_0; replace hx103_1 := (HB.out.cell (blt_ hx103_1)).trans hx103_1; replace hx103_2 := (HB.out.cell (blt_ hx103_2)).trans hx103_2; replace hx103_3 := (HB.out.cell (blt_ hx103_3)).trans hx103_3; replace hx103_4 := (HB.out.cell (blt_ hx103_4)).trans hx103_4; replace hx103_5 := (HB.out.cell (blt_ hx103_5)).trans hx103_5; replace hx103_6 := (HB.out.cell (blt_ hx103_6)).trans hx103_6; replace hx103_7 := (HB.out.cell (blt_ hx103_7)).trans hx103_7; replace p103 := eq_true p103; replace q103 := eq_true q103) | ((with_reducible refine gate_callee (f := 48) rfl ?_); refine goesL_ (some 46) rfl rfl Try.func48 (by kernel_rfl) rfl #[.slice none 0 0, .func (.func 49) #[] #[.pointer (some ⟨gb101, 0, none⟩)]] rfl (by (try simp only [List.map_toArray, List.map_cons, List.map_nil]); first | done | rfl | (simp only [List.length_drop, List.length_take]; rfl)) ?_; (refine (GNextDel.calls (fun k_ => some k_ = (.slice none 0 0 : Value).ownBlock) (.slice none 0 0) ([] : List Int) (some ad103) c0 l0 t125 w _ ?side1 ?side2 ?side3 ?side4 ?side5 A31.out).mono ?_); (case side1 => repeat (first | (with_reducible first | exact HB.out | apply lA | apply lN | apply lD | refine lS ?_ GE101.out) | exact HB.out)); (case side2 => exact Kd.R_nil _ _ _ _ _); (case side3 => exact Kd.C_kept_came k30_heap HR0.out (by repeat (first | (with_reducible first | exact HB.out | apply lA | apply lN | apply lD | refine lS ?_ GE101.out) | exact HB.out)) (fun k_ hs_ => (fun e_ => by simp [Value.ownBlock] at e_) hs_)); (case side4 => exact HC0.out); (case side5 => (with_reducible repeat (first | refine bN ?_ _ | refine bD ?_ | refine bA ?_ _)); exact BK101.out); rintro e w34 ⟨v126, rfl, ho0, hb, hkp⟩; refine ⟨_, rfl, ?_⟩; replace BK101 := am (blk_kept (by (with_reducible repeat (first | refine bN ?_ _ | refine bD ?_ | refine bA ?_ _)); exact BK101.out) hkp (fun hs_ => (fun e_ => by simp [Value.ownBlock] at e_) hs_)); have HO127 := am (Kd.R_mono (ok' := fun k_ => True) ho0 (fun k_ hk_ => trivial)); replace HB := am (hb); (try clear hb); (try clear hkp); (try clear ho0)))
       go_ret
       exact ⟨_, by first | rfl | (simp [errW_none, errW_some] <;> rfl) | (simp [*, errW_none, errW_some] <;> rfl), by (with_reducible repeat (first | apply Ra | apply Rn | apply Rd)); exact HO127.out, by repeat (first | (with_reducible first | exact HB.out | apply lA | apply lN | apply lD | refine lS ?_ GE101.out) | exact HB.out)⟩
      ·rw [if_neg c30] at H
       have c30b0 : (((rd_T30 l0 a1).kind) == 9) = false := beq_eq_false_iff_ne.mpr c30
       have c30b1 : (((rd_T30 l0 a1).kind) != 9) = true := bne_iff_ne.mpr c30
       obtain ⟨y128, hy128⟩ : ∃ y_ : List Int, y_ = (([wrap64 (a1 + 1)] : List Int)) := ⟨_, rfl⟩
       replace H : ((cfg_sorted_int.f y128).bind fun t131 => ((GNextDel.f t131 l0).bind fun t134 => (some t134))) = some r := by first | (rw [hy128]; with_reducible exact H) | (have H2_ := (Option.bind_some _ _).symm.trans H; rw [hy128]; with_reducible exact H2_) | (have H2_ := (Option.bind_some _ _).symm.trans H; with_reducible exact H2_) | with_reducible exact H | (rw [hy128]; exact H) | exact H
       have Ny128 := am hy128
       clear hy128
       replace H := Option.bind_eq_some_iff.mp H
       obtain ⟨t131, A350, H⟩ := H
       replace H : ((GNextDel.f t131 l0).bind fun t134 => (some t134)) = some r := H
       have A35 := am A350
       clear A350
       replace H := Option.bind_eq_some_iff.mp H
       obtain ⟨t134, A360, H⟩ := H
       replace H : (some t134) = some r := H
       have A36 := am A360
       clear A360
       obtain rfl := Option.some.inj H
       go_enter Try.func19, Try.ntmps19
       go_wp2_with (first | ((with_reducible refine gate_dst (N := 2) rfl ?_); refine box_event ?hg (N := 2) ?hd (cs := #[.slice A0 l0.length c0]) (t := 22) ?hr ?_; (case hd => rfl); (case hg => rfl); (case hr => first | (go_simp; done) | (go_simp; rfl)); intro gb101 hg w37 hbox hb; have BK101 := am (hbox); have GW101 := am ((by rw [hg]; exact (below_size (by repeat (first | (with_reducible first | exact HB.out | apply lA | apply lN | apply lD) | exact HB.out))) : w.heap.size ≤ gb101)); have GE101 := am ((by rw [hg]; exact (below_size (by repeat (first | (with_reducible first | exact HB.out | apply lA | apply lN | apply lD) | exact HB.out))) : w.heap.size ≤ gb101)); replace HB := am (below_step (by repeat (first | (with_reducible first | exact HB.out | apply lA | apply lN | apply lD) | exact HB.out)) hb); clear hb hbox hg; have hcz38_0 : w37.cell? ⟨gb101, 0, none⟩ = some (.slice A0 l0.length c0) := (blk_cell BK101.out 0).trans rfl; have hfz38_0 := blk_frozen BK101.out 0) | ((with_reducible refine gate_callee (f := 42) rfl ?_); refine goesL_ (some 8) rfl rfl Try.func42 (by kernel_rfl) rfl #[.slice A0 l0.length c0, .int .i64 a1] rfl (by (try simp only [List.map_toArray, List.map_cons, List.map_nil]); first | done | rfl | (simp only [List.length_drop, List.length_take]; rfl)) ?_; (with_reducible refine (cfg_within.calls _ _ l0 a1 true _ ?side1 ?side2 A3.out).mono ?_); (case side1 => repeat (first | exact (Kd.C_below HR0.out HB.out) | (with_reducible refine Kd.C_alloc ?_ _) | (with_reducible refine Kd.C_drewN ?_ _) | (with_reducible refine Kd.C_drew ?_))); (case side2 => exact HC0.out); rintro e w' ⟨rfl, ⟨nd, rfl⟩⟩; refine ⟨_, rfl, ?_⟩; have p103 : 0 ≤ (a1 : Int) := of_decide_eq_true (by first | (with_reducible assumption) | assumption); have q103 : a1 < (l0.length : Int) := of_decide_eq_true (by first | (with_reducible assumption) | assumption); obtain ⟨ad103, e103, hx103_0, hx103_1, hx103_2, hx103_3, hx103_4, hx103_5, hx103_6, hx103_7⟩ := at_T30 HR0.out a1 p103 q103; cases e103; replace hx103_0 := (HB.out.cell (blt_ hx103_0)).trans hx103_0; replace hx103_1 := (HB.out.cell (blt_ hx103_1)).trans hx103_1; replace hx103_2 := (HB.out.cell (blt_ hx103_2)).trans hx103_2; replace hx103_3 := (HB.out.cell (blt_ hx103_3)).trans hx103_3; replace hx103_4 := (HB.out.cell (blt_ hx103_4)).trans hx103_4; replace hx103_5 := (HB.out.cell (blt_ hx103_5)).trans hx103_5; replace hx103_6 := (HB.out.cell (blt_ hx103_6)).trans hx103_6; replace hx103_7 := (HB.out.cell (blt_ hx103_7)).trans hx103_7; replace p103 := eq_true p103; replace q103 := eq_true q103) | ((with_reducible refine gate_dst (N := 17) rfl ?_); refine Kd.R_lit (Kd.int .i64) _ 3 ?hg (N := 17) ?hd (xs := ([wrap64 (a1 + 1)] : List Int)) (inner := [.int .i64 (wrap64 (a1 + 1))]) (ok := fun _ => True) (okp := fun _ => True) ?hr ?hp (fun _ hk => hk) trivial (Below.refl _ _) (Nat.le_refl _) (by simp) ?_; (case hd => rfl); (case hg => rfl); (case hr => first | (go_simp; done) | (go_simp; rfl)); (case hp => exact (Reps.one (show Kd.M (Kd.int .i64) _ _ _ (wrap64 (a1 + 1)) [.int .i64 (wrap64 (a1 + 1))] from rfl) (Reps.none _ _))); intro v129 w39 ho40 hb hg_ hnew_; clear hg_ hnew_; (first | rw [← Ny128.out] at ho40 | (simp only [Int.reduceToNat] at ho40; rw [← Ny128.out] at ho40)); have HO130 := am (Kd.R_lower ho40 (below_size (by repeat (first | (with_reducible first | exact HB.out | apply lA | apply lN | apply lD | refine lS ?_ GE101.out) | exact HB.out)))); replace BK101 := am (blk_below (g := gb101) (o := .cells #[.slice (some ad103) l0.length c0] 22 (0, 0)) (by (with_reducible repeat (first | refine bN ?_ _ | refine bD ?_ | refine bA ?_ _)); exact BK101.out) hb); replace HB := am (below_step (by repeat (first | (with_reducible first | exact HB.out | apply lA | apply lN | apply lD | refine lS ?_ GE101.out) | exact HB.out)) hb); clear hb ho40; obtain ⟨Ao41, co41, eo41⟩ := Kd.R_slice HO130.out; subst eo41) | ((with_reducible refine gate_callee (f := 47) rfl ?_); refine goesL_ (some 18) rfl rfl Try.func47 (by kernel_rfl) rfl #[.slice Ao41 y128.length co41] rfl (by (try simp only [List.map_toArray, List.map_cons, List.map_nil]); first | done | rfl | (simp only [List.length_drop, List.length_take]; rfl)) ?_; (with_reducible refine (cfg_sorted_int.calls _ _ y128 t131 _ ?side1 ?side2 A35.out).mono ?_); (case side1 => repeat (first | exact (Kd.R_reads' HO130.out).2.2 | (with_reducible refine Kd.C_alloc ?_ _) | (with_reducible refine Kd.C_drewN ?_ _) | (with_reducible refine Kd.C_drew ?_))); (case side2 => exact (Kd.R_reads' HO130.out).2.1); rintro e w42 ⟨v132, rfl, ho0, hb⟩; refine ⟨_, rfl, ?_⟩; have HO133 := am (Kd.R_lower (Kd.R_new' ho0 (Kd.R_lt (by (with_reducible repeat (first | apply Ra | apply Rn | apply Rd)); exact HO130.out))) (below_size (by repeat (first | (with_reducible first | exact HB.out | apply lA | apply lN | apply lD | refine lS ?_ GE101.out) | exact HB.out)))); replace HO130 := am (Kd.R_elder' (by (with_reducible repeat (first | apply Ra | apply Rn | apply Rd)); exact HO130.out) (Kd.R_base ho0) hb); replace BK101 := am (blk_below (g := gb101) (o := .cells #[.slice (some ad103) l0.length c0] 22 (0, 0)) (by (with_reducible repeat (first | refine bN ?_ _ | refine bD ?_ | refine bA ?_ _)); exact BK101.out) hb); replace HB := am (below_step (by repeat (first | (with_reducible first | exact HB.out | apply lA | apply lN | apply lD | refine lS ?_ GE101.out) | exact HB.out)) hb); (try clear hb); (try clear hb2); (try clear hk); (try clear hi); (try clear ho0); obtain ⟨Ao43, co43, eo43⟩ := Kd.R_slice HO133.out; subst eo43) | ((with_reducible refine gate_callee (f := 48) rfl ?_); refine goesL_ (some 46) rfl rfl Try.func48 (by kernel_rfl) rfl #[.slice Ao43 t131.length co43, .func (.func 49) #[] #[.pointer (some ⟨gb101, 0, none⟩)]] rfl (by (try simp only [List.map_toArray, List.map_cons, List.map_nil]); first | done | rfl | (simp only [List.length_drop, List.length_take]; rfl)) ?_; (refine (GNextDel.calls (fun k_ => some k_ = (.slice Ao43 t131.length co43 : Value).ownBlock) (.slice Ao43 t131.length co43) t131 (some ad103) c0 l0 t134 w _ ?side1 ?side2 ?side3 ?side4 ?side5 A36.out).mono ?_); (case side1 => repeat (first | (with_reducible first | exact HB.out | apply lA | apply lN | apply lD | refine lS ?_ GE101.out) | exact HB.out)); (case side2 => exact Kd.R_tight rfl HO133.out); (case side3 => exact Kd.C_kept_came k30_heap HR0.out (by repeat (first | (with_reducible first | exact HB.out | apply lA | apply lN | apply lD | refine lS ?_ GE101.out) | exact HB.out)) (fun k_ hs_ => (fun e_ => Kd.R_base HO133.out k_ e_.symm) hs_)); (case side4 => exact HC0.out); (case side5 => (with_reducible repeat (first | refine bN ?_ _ | refine bD ?_ | refine bA ?_ _)); exact BK101.out); rintro e w44 ⟨v135, rfl, ho0, hb, hkp⟩; refine ⟨_, rfl, ?_⟩; replace BK101 := am (blk_kept (by (with_reducible repeat (first | refine bN ?_ _ | refine bD ?_ | refine bA ?_ _)); exact BK101.out) hkp (fun hs_ => (fun e_ => (Kd.R_ne HO133.out BK101.out (by decide)) e_) hs_)); have HO136 := am (Kd.R_mono (ok' := fun k_ => some k_ ≠ (.slice Ao41 y128.length co41 : Value).ownBlock) ho0 (fun k_ hk_ => Or.elim hk_ (fun hs_ => fun e_ => (((HO130.out).1 k_ e_.symm).2) hs_) (fun hn_ => (Kd.fresh' (Kd.R_lt (by (with_reducible repeat (first | apply Ra | apply Rn | apply Rd)); exact HO130.out)) k_ hn_)))); replace HO130 := am (Kd.R_mono (ok' := fun k_ => some k_ ≠ (v135 : Value).ownBlock) (Kd.R_keptB (HO130.out) hkp (fun k_ hk_ hs_ => (hk_.2) hs_)) (fun k_ hk_ => fun e_ => Or.elim (ho0.1 k_ e_.symm) (fun hs_ => hk_.2.1 hs_) (fun hn_ => Nat.not_le.2 hk_.2.2 hn_))); replace HB := am (hb); clear HO133; (try clear hb); (try clear hkp); (try clear ho0)))
       go_ret
       exact ⟨_, by first | rfl | (simp [errW_none, errW_some] <;> rfl) | (simp [*, errW_none, errW_some] <;> rfl), by (with_reducible repeat (first | apply Ra | apply Rn | apply Rd)); exact Kd.R_mono HO136.out (fun _ hk => trivial), by repeat (first | (with_reducible first | exact HB.out | apply lA | apply lN | apply lD | refine lS ?_ GE101.out) | exact HB.out)⟩
   ·rw [if_neg c6] at H
    exact absurd H (by simp)
  ·rw [if_neg c5] at H
   exact absurd H (by simp)
 ·replace c4 := Bool.eq_false_iff.mpr c4
  subst c4
  have H1 : (some ([] : List Int)) = some r := by rw [if_neg (show ¬ (false = true) by decide)] at H; exact H
  clear H
  have H := H1
  clear H1
  obtain rfl := Option.some.inj H
  go_enter Try.func19, Try.ntmps19
  go_wp2_with (first | ((with_reducible refine gate_dst (N := 2) rfl ?_); refine box_event ?hg (N := 2) ?hd (cs := #[.slice A0 l0.length c0]) (t := 22) ?hr ?_; (case hd => rfl); (case hg => rfl); (case hr => first | (go_simp; done) | (go_simp; rfl)); intro gb101 hg w45 hbox hb; have BK101 := am (hbox); have GW101 := am ((by rw [hg]; exact (below_size (by repeat (first | (with_reducible first | exact HB.out | apply lA | apply lN | apply lD) | exact HB.out))) : w.heap.size ≤ gb101)); have GE101 := am ((by rw [hg]; exact (below_size (by repeat (first | (with_reducible first | exact HB.out | apply lA | apply lN | apply lD) | exact HB.out))) : w.heap.size ≤ gb101)); replace HB := am (below_step (by repeat (first | (with_reducible first | exact HB.out | apply lA | apply lN | apply lD) | exact HB.out)) hb); clear hb hbox hg; have hcz46_0 : w45.cell? ⟨gb101, 0, none⟩ = some (.slice A0 l0.length c0) := (blk_cell BK101.out 0).trans rfl; have hfz46_0 := blk_frozen BK101.out 0) | ((with_reducible refine gate_callee (f := 42) rfl ?_); refine goesL_ (some 8) rfl rfl Try.func42 (by kernel_rfl) rfl #[.slice A0 l0.length c0, .int .i64 a1] rfl (by (try simp only [List.map_toArray, List.map_cons, List.map_nil]); first | done | rfl | (simp only [List.length_drop, List.length_take]; rfl)) ?_; (with_reducible refine (cfg_within.calls _ _ l0 a1 false _ ?side1 ?side2 A3.out).mono ?_); (case side1 => repeat (first | exact (Kd.C_below HR0.out HB.out) | (with_reducible refine Kd.C_alloc ?_ _) | (with_reducible refine Kd.C_drewN ?_ _) | (with_reducible refine Kd.C_drew ?_))); (case side2 => exact HC0.out); rintro e w' ⟨rfl, ⟨nd, rfl⟩⟩; refine ⟨_, rfl, ?_⟩))
  go_ret
  exact ⟨_, by first | rfl | (simp [errW_none, errW_some] <;> rfl) | (simp [*, errW_none, errW_some] <;> rfl), by first | exact Kd.R_nil _ _ _ _ _ | exact Kd.N_nil _ _ _ _ _ | exact Kd.V_nil _ _ _ _ _ | exact Kd.Q_nil _ _ _ _ _ | exact Kd.S_nil _ _ _ _ _, by repeat (first | (with_reducible first | exact HB.out | apply lA | apply lN | apply lD | refine lS ?_ GE101.out) | exact HB.out)⟩
end Go.Proofs.Ytnepgcbgkhikkaa.H
namespace Go.Proofs.Ytnepgcbgkhikkaa.H
open Go.RowKit Go.Proofs.YtnepgcbgkhikkaaW.PrintWords Go.Proofs.YtnepgcbgkhikkaaW.PrintLast Go.Proofs.YtnepgcbgkhikkaaW.PrintMore
set_option linter.unusedVariables false
/-- what a way may go on through: a statement that doesn't define the name -/
def keepF (s : List Stmt) (x : ByteArray) : OnFn := fun m => if 0 ≤ m then if m < (s.length : Int) then (cfg_defines.f (rd_T30 s m).kind (rd_T30 s m).x (rd_T30 s m).y (rd_T30 s m).z (rd_T30 s m).op (rd_T30 s m).n (rd_T30 s m).a (rd_T30 s m).b x).map (fun b => !b) else none else none
abbrev SeesS (w : World) (gl gx : Nat) (ad : Addr) (n c : Nat) (x : ByteArray) (y : Stmt) (j : Nat) (w' : World) : Prop :=
  Below w.heap.size w w' ∧ w'.cell? ⟨gl, 0, none⟩ = some (.slice (some ad) n c) ∧ w'.cell? ⟨gx, 0, none⟩ = some (.string x) ∧ w'.cell? (ad.add (j * 8)) = some (.int .i64 y.kind) ∧ w'.cell? ⟨(ad.add (j * 8)).block, (ad.add (j * 8)).off + 1, none⟩ = some (.string y.x) ∧ w'.cell? ⟨(ad.add (j * 8)).block, (ad.add (j * 8)).off + 2, none⟩ = some (.string y.y) ∧ w'.cell? ⟨(ad.add (j * 8)).block, (ad.add (j * 8)).off + 3, none⟩ = some (.string y.z) ∧ w'.cell? ⟨(ad.add (j * 8)).block, (ad.add (j * 8)).off + 4, none⟩ = some (.string y.op) ∧ w'.cell? ⟨(ad.add (j * 8)).block, (ad.add (j * 8)).off + 5, none⟩ = some (.int .i64 y.n) ∧ w'.cell? ⟨(ad.add (j * 8)).block, (ad.add (j * 8)).off + 6, none⟩ = some (.int .i64 y.a) ∧ w'.cell? ⟨(ad.add (j * 8)).block, (ad.add (j * 8)).off + 7, none⟩ = some (.int .i64 y.b)
set_option maxHeartbeats 8000000 in
set_option maxRecDepth 100000 in
theorem keepReach {w : World} {gl gx : Nat} {A : Option Addr} {c : Nat} {s : List Stmt} {x : ByteArray} (hl : w.heap[gl]? = some (.cells #[.slice A s.length c] 22 (0, 0))) (hx : w.heap[gx]? = some (.cells #[.string x] 9 (0, 0)))
    (hr : Kd.C k30 w A s.length s) (m : Int) (b : Bool) (h : keepF s x m = some b) :
    Calls Try.prog 51 #[.int .i64 m, .pointer (some ⟨gl, 0, none⟩), .pointer (some ⟨gx, 0, none⟩)] w fun e w' => e = .returned (.bool b) ∧ Below w.heap.size w w' := by
  unfold keepF at h
  split at h
  case isFalse => cases h
  rename_i h0
  split at h
  case isFalse => cases h
  rename_i h1
  obtain ⟨d, hd, hb⟩ := Option.map_eq_some_iff.1 h
  obtain ⟨j, rfl⟩ : ∃ j : Nat, m = (j : Int) := ⟨m.toNat, (Int.toNat_of_nonneg h0).symm⟩
  have hj : j < s.length := by omega
  have hy : s[j]? = some (s[j]'hj) := List.getElem?_eq_getElem hj
  have hrd : rd_T30 s (j : Int) = s[j]'hj := by unfold rd_T30; rw [Int.toNat_natCast, List.getD_eq_getElem?_getD, hy]; rfl
  rw [hrd] at hd
  generalize s[j]'hj = y at hd hy
  have hu := Try.underlying30
  have hb0 := (blk_cell hl 0).trans rfl
  have hb1 := (blk_cell hx 0).trans rfl
  obtain ⟨ad, e1, hx0, hx1, hx2, hx3, hx4, hx5, hx6, hx7⟩ := at_Stmt hr hy
  cases e1
  have HD := Aside0.mk hd
  have HBB := Aside0.mk hb
  clear hd hb hr hy h hl hx hrd h0 hj
  have hbd : Below w.heap.size w w.drew := below_drew (Below.refl _ _)
  have KS : Aside0 (∀ w', Below w.heap.size w w' → SeesS w gl gx ad s.length c x y j w') := ⟨fun w' hb => ⟨hb, Below.old hb hb0, Below.old hb hb1, Below.old hb hx0, Below.old hb hx1, Below.old hb hx2, Below.old hb hx3, Below.old hb hx4, Below.old hb hx5, Below.old hb hx6, Below.old hb hx7⟩⟩
  go_enter Try.func51, Try.ntmps51
  go_wp2
  go_region_held3 (fun w' => SeesS w gl gx ad s.length c x y j w') (first | exact KS.out _ (below_drew (Below.refl _ _)) | exact KS.out _ (Below.then (by assumption) (by assumption))) ((go_at_call 45; go_must (refine (cfg_defines.calls _ _ _ _ _ _ _ _ _ _ _ HD.out).mono ?_); rintro e w2 ⟨rfl, hb⟩))
  have HB := Aside0.mk (Below.then hbd hb)
  clear hb hbd KS
  go_wp2
  go_ret
  exact ⟨by rw [HBB.out]; rfl, HB.out⟩
set_option maxHeartbeats 8000000 in
set_option maxRecDepth 100000 in
theorem keepLive {w : World} {gl gx : Nat} {A : Option Addr} {c : Nat} {s : List Stmt} {x : ByteArray} (hl : w.heap[gl]? = some (.cells #[.slice A s.length c] 22 (0, 0))) (hx : w.heap[gx]? = some (.cells #[.string x] 9 (0, 0)))
    (hr : Kd.C k30 w A s.length s) (m : Int) (b : Bool) (h : keepF s x m = some b) :
    Calls Try.prog 44 #[.int .i64 m, .pointer (some ⟨gl, 0, none⟩), .pointer (some ⟨gx, 0, none⟩)] w fun e w' => e = .returned (.bool b) ∧ Below w.heap.size w w' := by
  unfold keepF at h
  split at h
  case isFalse => cases h
  rename_i h0
  split at h
  case isFalse => cases h
  rename_i h1
  obtain ⟨d, hd, hb⟩ := Option.map_eq_some_iff.1 h
  obtain ⟨j, rfl⟩ : ∃ j : Nat, m = (j : Int) := ⟨m.toNat, (Int.toNat_of_nonneg h0).symm⟩
  have hj : j < s.length := by omega
  have hy : s[j]? = some (s[j]'hj) := List.getElem?_eq_getElem hj
  have hrd : rd_T30 s (j : Int) = s[j]'hj := by unfold rd_T30; rw [Int.toNat_natCast, List.getD_eq_getElem?_getD, hy]; rfl
  rw [hrd] at hd
  generalize s[j]'hj = y at hd hy
  have hu := Try.underlying30
  have hb0 := (blk_cell hl 0).trans rfl
  have hb1 := (blk_cell hx 0).trans rfl
  obtain ⟨ad, e1, hx0, hx1, hx2, hx3, hx4, hx5, hx6, hx7⟩ := at_Stmt hr hy
  cases e1
  have HD := Aside0.mk hd
  have HBB := Aside0.mk hb
  clear hd hb hr hy h hl hx hrd h0 hj
  have hbd : Below w.heap.size w w.drew := below_drew (Below.refl _ _)
  have KS : Aside0 (∀ w', Below w.heap.size w w' → SeesS w gl gx ad s.length c x y j w') := ⟨fun w' hb => ⟨hb, Below.old hb hb0, Below.old hb hb1, Below.old hb hx0, Below.old hb hx1, Below.old hb hx2, Below.old hb hx3, Below.old hb hx4, Below.old hb hx5, Below.old hb hx6, Below.old hb hx7⟩⟩
  go_enter Try.func44, Try.ntmps44
  go_wp2
  go_region_held3 (fun w' => SeesS w gl gx ad s.length c x y j w') (first | exact KS.out _ (below_drew (Below.refl _ _)) | exact KS.out _ (Below.then (by assumption) (by assumption))) ((go_at_call 45; go_must (refine (cfg_defines.calls _ _ _ _ _ _ _ _ _ _ _ HD.out).mono ?_); rintro e w2 ⟨rfl, hb⟩))
  have HB := Aside0.mk (Below.then hbd hb)
  clear hb hbd KS
  go_wp2
  go_ret
  exact ⟨by rw [HBB.out]; rfl, HB.out⟩
end Go.Proofs.Ytnepgcbgkhikkaa.H
namespace Go.Proofs.Ytnepgcbgkhikkaa.H
open Go.RowKit Go.Proofs.YtnepgcbgkhikkaaW.PrintWords Go.Proofs.YtnepgcbgkhikkaaW.PrintLast Go.Proofs.YtnepgcbgkhikkaaW.PrintMore
set_option linter.unusedVariables false
section
variable {P : Program} {ops : Array Oper} {rest : List Oper} {o : Oper} {a : Act} {Q : Exit → Act → World → Prop} {α : Type}
/-- a whole row appended to a queue -/
theorem Kd.Q_append_rows (d : Kd α) {Rr : α → List Value → Prop} {w0 W : World} (base : Nat) (hgd : o.guard = none) (s x : Operand) (t e : TypeId) (z : Value) (bytes : Nat)
    (ho : o.op = .call { callee := .builtin .append, args := #[s, x], argTypes := #[t, t] })
    (ht : P.underlying t = some (.slice e)) (hinfo : (P.info? e).map (fun i => (i.zero, i.size, i.bytes)) = some (some z, d.sz, bytes)) (hz : z.cells.size = d.sz) (hs0 : 0 < d.sz) (hb0 : 0 < bytes)
    (v : Value) (xs ys : List α) (A : Option Addr) (m c : Nat) (ok okp : Nat → Prop) (hs : a.eval s = v) (hx : a.eval x = .slice A m c)
    (HO : d.Q e W base ok v xs) (HR : ReadsRow Rr d.sz W A m ys) (hKM : ∀ x cs, Rr x cs → d.M W base okp x cs) (hokp : ∀ k, okp k → ok k ∧ some k ≠ v.ownBlock) (hfresh : ∀ k, W.heap.size ≤ k → ok k)
    (HB : Below base w0 W) (hbase : base ≤ W.heap.size) (hl : (xs.length + m) * bytes ≤ 140737488355328)
    (h : ∀ v1 w1, d.Q e w1 base ok v1 (xs ++ ys) → Below base w0 w1 → W.grownBy w1 v.ownBlock → (v1.ownBlock = v.ownBlock ∨ ∃ b, v1.ownBlock = some b ∧ W.heap.size ≤ b) → wpList P ops Q rest (a.put o.dst v1) w1) :
    wpList P ops Q (o :: rest) a W := by
  obtain ⟨i0, hi, hzz⟩ := Option.map_eq_some_iff.1 hinfo
  simp only [Prod.mk.injEq] at hzz
  obtain ⟨hz0, hz1, hz2⟩ := hzz
  have hm : ys.length = m := HR.1
  have hlen : xs.length + m ≤ 140737488355328 := Nat.le_trans (Nat.le_mul_of_pos_right _ hb0) hl
  have HO' := HO
  obtain ⟨hok, inner, hown, hr⟩ := HO
  have hrun : ∃ v1 w1, (Builtin.append_ #[t, t] o.type #[v, .slice A m c]).run P W = .ok v1 w1 ∧ d.Q e w1 base ok v1 (xs ++ ys) ∧ W.grownBy w1 v.ownBlock ∧ (v1.ownBlock = v.ownBlock ∨ ∃ b, v1.ownBlock = some b ∧ W.heap.size ≤ b) := by
    rcases Nat.eq_zero_or_pos m with h0 | h0
    · subst h0
      obtain rfl : ys = [] := List.eq_nil_of_length_eq_zero hm
      obtain ⟨A', c', rfl, hle, -⟩ := Kd.Q_reads HO'
      refine ⟨_, W, ?_, by rw [List.append_nil]; exact HO', World.grownBy.refl W _, .inl rfl⟩
      rcases A with _ | ad <;> rcases A' with _ | ad' <;> simp [Builtin.append_, run_underlying ht, sizeOf, typeInfo, hi, Builtin.lenOf, Builtin.firstCells, hle, storeCells, loadCells, loadCellsFrom]
    · obtain ⟨ad, rfl, -⟩ := HR.2.2 h0
      obtain ⟨news, hnr, hnc⟩ := ReadsRow.inner_ HR
      have hnM : Reps (d.M W base okp) d.sz ys news := hnr.imp_ (fun p c hp => hKM p c hp)
      have hone : ∀ u ∈ news, u.oneCell' = true := by
        intro u hu
        obtain ⟨q, hq, rfl⟩ := List.mem_iff_getElem.1 hu
        have hql : q / d.sz < ys.length := by
          rw [Nat.div_lt_iff_lt_mul hs0]
          rw [← hnM.1]
          exact hq
        have hc := hnM.2 (q / d.sz) _ (List.getElem?_eq_getElem hql)
        refine d.K_one (d.K_of_M hc) _ ?_
        rw [List.mem_iff_getElem?]
        refine ⟨q % d.sz, ?_⟩
        rw [List.getElem?_take, if_pos (Nat.mod_lt _ hs0), List.getElem?_drop, Nat.mul_comm, Nat.div_add_mod, List.getElem?_eq_getElem hq]
      obtain ⟨v1, w1, hrun, h2, hg, hat'⟩ := q_append (P := P) W base t o.type e i0 z d.sz bytes ht hi hz0 hz1 hz2 hz hs0 v xs.length inner hown ad m c news (by rw [hnM.1, hm]) hnc hone h0 (by simp only [maxLen]; omega) hl hbase
      have hne : ∀ k, some k ≠ v.ownBlock → k < W.heap.size → some k ≠ v1.ownBlock := by
        intro k hk hlt
        rcases hat' with hat | ⟨b, hb, hle⟩
        · rw [hat]; exact hk
        · rw [hb]
          intro he
          injection he with he
          omega
      have step : ∀ {q : α} {c : List Value} {o : Nat → Prop}, d.M W base o q c → (∀ k, o k → ok k ∧ some k ≠ v.ownBlock) → d.M w1 base (fun k => ok k ∧ some k ≠ v1.ownBlock) q c := by
        intro q c o hq ho
        have h1 := d.M_move (w1 := w1) (fun k hk => hg.block k hk.2.2.1 (ho k hk.1).2) (d.M_bound hq)
        exact d.M_mono (fun k hk => ⟨(ho k hk.1).1, hne k (ho k hk.1).2 hk.2.2.1⟩) h1
      refine ⟨v1, w1, hrun, ⟨fun k hk => ?_, inner ++ news, by rw [List.length_append, hm]; exact h2, Kd.reps_append (hr.imp_ (fun _ _ hq => step hq (fun _ hk => hk))) (hnM.imp_ (fun _ _ hq => step hq hokp))⟩, hg, hat'⟩
      rcases hat' with hat | ⟨b, hb, hle⟩
      · exact hok k (hat ▸ hk)
      · rw [hb] at hk
        injection hk with hk
        exact hfresh k (by omega)
  obtain ⟨v1, w1, hr1, h1, h3, h4⟩ := hrun
  refine wpList_plain hgd fun K hK => ?_
  unfold Oper.wp execOp
  simp only [ho, resolve, invoke, builtin, Sem.run_bind, Sem.run_pure, Result.andThen_ok, List.map_toArray, List.map_cons, List.map_nil, hs, hx, hr1]
  exact hK _ _ (h v1 w1 h1 (HB.grown h3 hbase (fun k hk => Kd.Q_base HO' k hk)) h3 h4)
end
end Go.Proofs.Ytnepgcbgkhikkaa.H
