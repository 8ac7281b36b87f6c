/- Texts of this seat that its laws share, joined. -/
import Derived.Test.YtdanihbbnepjpaaProg
import Derived.Below
import Derived.Deep.Draws
import Derived.Deep.AppendLies
import Derived.Maps.AppendAt
import Derived.OwnWalk
import Derived.Laws.BytesArg
import Derived.Laws.MakeOwn
import Derived.Laws.OwnMore
import Derived.Deep.OwnRows
import Derived.Tactics
import Derived.Lib.ConvBytes
import Derived.Laws.Slices
import Derived.WalkKit
import Derived.KernelRfl
import Derived.RowKit3
import Derived.Deep.LoopGhost
import Derived.Deep.QuietTactic
import Derived.BigQuiet
import Derived.WideLaws
import Derived.Deep.DeepCutAuto
import Derived.Deep.CutBlock
import Derived.Deep.RegionHeld3
import Derived.Laws.Rows
import Derived.Lib.AppendStr
import Derived.ArgAppend
import Derived.Laws.IdiomCopy
import Derived.OrdersHeld
import Derived.Laws.BitsLemmas
import Derived.RowKit
import Derived.Test.YtdanihbbnepjpaaNW
import Derived.Shelf.Abstract
import Derived.Deep.DeepMust
import Derived.Outline
import Derived.Lib.SliceRun
import Derived.OpenShut
import Derived.SizedLaws
import Derived.DataReads
import Derived.Sort.Walk0
import Derived.Lib.AppendZerosOnto
import Derived.Lib.AppendZeros
import Derived.Lib.Overlaps
import Derived.Laws.Externs
import Derived.Laws.NewBlocks
import Derived.Deep.RegionLaw
-- made by a program of this session (wip/tools) out of the translation; Lean checks it.
namespace Go.Proofs.Ytdanihbbnepjpaa.H
open Go.RowKit Go.Proofs.YtdanihbbnepjpaaW.PrintWords Go.Proofs.YtdanihbbnepjpaaW.PrintLast Go.Proofs.YtdanihbbnepjpaaW.PrintMore
attribute [local go_sem] max2_int min2_int max_two min_two max_three min_three max_four min_four   -- for this text's walks alone
set_option linter.unusedVariables false
set_option linter.unusedSimpArgs false



def errW : Option Int → Value
 | none => .nilIface
 | some c => .iface 0 (.int .i64 c)
theorem errW_none : errW none = .nilIface := rfl
theorem errW_some (c : Int) : errW (some c) = .iface 0 (.int .i64 c) := rfl

theorem info24 : (Try.prog.info? 24).map (fun i => (i.zero, i.size, i.bytes)) = some (some (.agg #[(.bool false), (.string ⟨#[]⟩), (.int .i64 0)]), 3, 32) := by kernel_rfl
theorem info41 : (Try.prog.info? 41).map (fun i => (i.zero, i.size, i.bytes)) = some (some (.agg #[(.string ⟨#[]⟩), (.bool false), (.string ⟨#[]⟩), (.int .i64 0)]), 4, 48) := by kernel_rfl
theorem info49 : (Try.prog.info? 49).map (fun i => (i.zero, i.size, i.bytes)) = some (some (.agg #[(.bool false), (.string ⟨#[]⟩), (.bool false), (.string ⟨#[]⟩), (.int .i64 0)]), 5, 56) := by kernel_rfl
theorem info69 : (Try.prog.info? 69).map (fun i => (i.zero, i.size, i.bytes)) = some (some (.agg #[(.string ⟨#[]⟩), (.bool false), (.string ⟨#[]⟩), (.int .i64 0)]), 4, 48) := by kernel_rfl
-- the values' own types
/-! #### struct type 24 -/
structure Val where
 isSym : Bool
 sym : ByteArray
 n : Int
deriving DecidableEq
def z24 : Val := ⟨false, (⟨#[]⟩ : ByteArray), (0 : Int)⟩
def k24 : Kd Val := Kd.iso (Kd.pair Kd.bool (Kd.pair Kd.string (Kd.int .i64))) (fun x : Val => (x.isSym, x.sym, x.n))
theorem k24_heap : Kd.Heap k24 := Kd.heap_iso _ (Kd.heap_pair Kd.heap_bool (Kd.heap_pair Kd.heap_string (Kd.heap_int .i64)))
theorem k24_open {w : World} {x : Val} {cs : List Value} (h : k24.K w x cs) : cs = [.bool x.isSym, .string x.sym, .int .i64 x.n] := by
 obtain ⟨_, _, rfl, rfl, ⟨_, _, rfl, rfl, rfl⟩⟩ := h
 exact rfl
theorem k24_openM {w : World} {base : Nat} {ok : Nat → Prop} {x : Val} {cs : List Value} (h : k24.M w base ok x cs) : cs = [.bool x.isSym, .string x.sym, .int .i64 x.n] := by
 obtain ⟨_, _, rfl, rfl, ⟨_, _, rfl, rfl, rfl⟩⟩ := h
 exact rfl
theorem k24_mk (w : World) (x : Val)  : k24.K w x [.bool x.isSym, .string x.sym, .int .i64 x.n] := ⟨[.bool x.isSym], [.string x.sym, .int .i64 x.n], rfl, rfl, ⟨[.string x.sym], [.int .i64 x.n], rfl, rfl, rfl⟩⟩
theorem k24_mkM (w : World) (base : Nat) (ok : Nat → Prop) (x : Val)  : k24.M w base ok x [.bool x.isSym, .string x.sym, .int .i64 x.n] := ⟨[.bool x.isSym], [.string x.sym, .int .i64 x.n], rfl, rfl, ⟨[.string x.sym], [.int .i64 x.n], rfl, rfl, rfl⟩⟩
theorem k24_mkF (W : World) (ok : Nat → Prop) (x : Val) : Kd.FK k24 W ok x [.bool x.isSym, .string x.sym, .int .i64 x.n] := fun W2 _ => k24_mk W2 x
def rd_T24 (xs : List Val) (i : Int) : Val := xs.getD i.toNat z24
theorem at_T24 {w : World} {A : Option Addr} {n : Nat} {xs : List Val} (h : Kd.C k24 w A n xs) (i : Int) (h0 : 0 ≤ i) (h1 : i < n) : ∃ ad , A = some ad ∧ w.cell? (ad.add (i.toNat * 3)) = some (.bool (rd_T24 xs i).isSym) ∧ w.cell? ⟨(ad.add (i.toNat * 3)).block, (ad.add (i.toNat * 3)).off + 1, none⟩ = some (.string (rd_T24 xs i).sym) ∧ w.cell? ⟨(ad.add (i.toNat * 3)).block, (ad.add (i.toNat * 3)).off + 2, none⟩ = some (.int .i64 (rd_T24 xs i).n) := by
 obtain ⟨ad, c, e, _, hK, hc0⟩ := Kd.C_get h z24 i h0 h1
 have hc : ∀ j u, c[j]? = some u → w.cell? (ad.add (i.toNat * 3 + j)) = some u := hc0
 obtain rfl := k24_open hK
 exact ⟨ad, e, hc 0 _ rfl, by rw [← add_field _ _ 1 (by omega)]; exact hc 1 _ rfl, by rw [← add_field _ _ 2 (by omega)]; exact hc 2 _ rfl⟩

/-! #### struct type 41 -/
structure Pair where
 name : ByteArray
 val : Val
deriving DecidableEq
def z41 : Pair := ⟨(⟨#[]⟩ : ByteArray), z24⟩
def k41 : Kd Pair := Kd.iso (Kd.pair Kd.string k24) (fun x : Pair => (x.name, x.val))
theorem k41_heap : Kd.Heap k41 := Kd.heap_iso _ (Kd.heap_pair Kd.heap_string k24_heap)
theorem k41_open {w : World} {x : Pair} {cs : List Value} (h : k41.K w x cs) : cs = [.string x.name, .bool x.val.isSym, .string x.val.sym, .int .i64 x.val.n] := by
 obtain ⟨_, _, rfl, rfl, s1⟩ := h
 obtain rfl := k24_open s1
 exact rfl
theorem k41_openM {w : World} {base : Nat} {ok : Nat → Prop} {x : Pair} {cs : List Value} (h : k41.M w base ok x cs) : cs = [.string x.name, .bool x.val.isSym, .string x.val.sym, .int .i64 x.val.n] := by
 obtain ⟨_, _, rfl, rfl, s1⟩ := h
 obtain rfl := k24_openM s1
 exact rfl
theorem k41_mk (w : World) (x : Pair)  : k41.K w x [.string x.name, .bool x.val.isSym, .string x.val.sym, .int .i64 x.val.n] := ⟨[.string x.name], [.bool x.val.isSym, .string x.val.sym, .int .i64 x.val.n], rfl, rfl, (k24_mk w x.val )⟩
theorem k41_mkM (w : World) (base : Nat) (ok : Nat → Prop) (x : Pair)  : k41.M w base ok x [.string x.name, .bool x.val.isSym, .string x.val.sym, .int .i64 x.val.n] := ⟨[.string x.name], [.bool x.val.isSym, .string x.val.sym, .int .i64 x.val.n], rfl, rfl, (k24_mkM w base ok x.val )⟩
theorem k41_mkF (W : World) (ok : Nat → Prop) (x : Pair) : Kd.FK k41 W ok x [.string x.name, .bool x.val.isSym, .string x.val.sym, .int .i64 x.val.n] := fun W2 _ => k41_mk W2 x
def rd_T41 (xs : List Pair) (i : Int) : Pair := xs.getD i.toNat z41
theorem at_T41 {w : World} {A : Option Addr} {n : Nat} {xs : List Pair} (h : Kd.C k41 w A n xs) (i : Int) (h0 : 0 ≤ i) (h1 : i < n) : ∃ ad , A = some ad ∧ w.cell? (ad.add (i.toNat * 4)) = some (.string (rd_T41 xs i).name) ∧ w.cell? ⟨(ad.add (i.toNat * 4)).block, (ad.add (i.toNat * 4)).off + 1, none⟩ = some (.bool (rd_T41 xs i).val.isSym) ∧ w.cell? ⟨(ad.add (i.toNat * 4)).block, (ad.add (i.toNat * 4)).off + 2, none⟩ = some (.string (rd_T41 xs i).val.sym) ∧ w.cell? ⟨(ad.add (i.toNat * 4)).block, (ad.add (i.toNat * 4)).off + 3, none⟩ = some (.int .i64 (rd_T41 xs i).val.n) := by
 obtain ⟨ad, c, e, _, hK, hc0⟩ := Kd.C_get h z41 i h0 h1
 have hc : ∀ j u, c[j]? = some u → w.cell? (ad.add (i.toNat * 4 + j)) = some u := hc0
 obtain rfl := k41_open hK
 exact ⟨ad, e, hc 0 _ rfl, by rw [← add_field _ _ 1 (by omega)]; exact hc 1 _ rfl, by rw [← add_field _ _ 2 (by omega)]; exact hc 2 _ rfl, by rw [← add_field _ _ 3 (by omega)]; exact hc 3 _ rfl⟩

/-! #### struct type 49 -/
structure Term where
 isVar : Bool
 name : ByteArray
 val : Val
deriving DecidableEq
def z49 : Term := ⟨false, (⟨#[]⟩ : ByteArray), z24⟩
def k49 : Kd Term := Kd.iso (Kd.pair Kd.bool (Kd.pair Kd.string k24)) (fun x : Term => (x.isVar, x.name, x.val))
theorem k49_heap : Kd.Heap k49 := Kd.heap_iso _ (Kd.heap_pair Kd.heap_bool (Kd.heap_pair Kd.heap_string k24_heap))
theorem k49_open {w : World} {x : Term} {cs : List Value} (h : k49.K w x cs) : cs = [.bool x.isVar, .string x.name, .bool x.val.isSym, .string x.val.sym, .int .i64 x.val.n] := by
 obtain ⟨_, _, rfl, rfl, ⟨_, _, rfl, rfl, s2⟩⟩ := h
 obtain rfl := k24_open s2
 exact rfl
theorem k49_openM {w : World} {base : Nat} {ok : Nat → Prop} {x : Term} {cs : List Value} (h : k49.M w base ok x cs) : cs = [.bool x.isVar, .string x.name, .bool x.val.isSym, .string x.val.sym, .int .i64 x.val.n] := by
 obtain ⟨_, _, rfl, rfl, ⟨_, _, rfl, rfl, s2⟩⟩ := h
 obtain rfl := k24_openM s2
 exact rfl
theorem k49_mk (w : World) (x : Term)  : k49.K w x [.bool x.isVar, .string x.name, .bool x.val.isSym, .string x.val.sym, .int .i64 x.val.n] := ⟨[.bool x.isVar], [.string x.name, .bool x.val.isSym, .string x.val.sym, .int .i64 x.val.n], rfl, rfl, ⟨[.string x.name], [.bool x.val.isSym, .string x.val.sym, .int .i64 x.val.n], rfl, rfl, (k24_mk w x.val )⟩⟩
theorem k49_mkM (w : World) (base : Nat) (ok : Nat → Prop) (x : Term)  : k49.M w base ok x [.bool x.isVar, .string x.name, .bool x.val.isSym, .string x.val.sym, .int .i64 x.val.n] := ⟨[.bool x.isVar], [.string x.name, .bool x.val.isSym, .string x.val.sym, .int .i64 x.val.n], rfl, rfl, ⟨[.string x.name], [.bool x.val.isSym, .string x.val.sym, .int .i64 x.val.n], rfl, rfl, (k24_mkM w base ok x.val )⟩⟩
theorem k49_mkF (W : World) (ok : Nat → Prop) (x : Term) : Kd.FK k49 W ok x [.bool x.isVar, .string x.name, .bool x.val.isSym, .string x.val.sym, .int .i64 x.val.n] := fun W2 _ => k49_mk W2 x
def rd_T49 (xs : List Term) (i : Int) : Term := xs.getD i.toNat z49
theorem at_T49 {w : World} {A : Option Addr} {n : Nat} {xs : List Term} (h : Kd.C k49 w A n xs) (i : Int) (h0 : 0 ≤ i) (h1 : i < n) : ∃ ad , A = some ad ∧ w.cell? (ad.add (i.toNat * 5)) = some (.bool (rd_T49 xs i).isVar) ∧ w.cell? ⟨(ad.add (i.toNat * 5)).block, (ad.add (i.toNat * 5)).off + 1, none⟩ = some (.string (rd_T49 xs i).name) ∧ w.cell? ⟨(ad.add (i.toNat * 5)).block, (ad.add (i.toNat * 5)).off + 2, none⟩ = some (.bool (rd_T49 xs i).val.isSym) ∧ w.cell? ⟨(ad.add (i.toNat * 5)).block, (ad.add (i.toNat * 5)).off + 3, none⟩ = some (.string (rd_T49 xs i).val.sym) ∧ w.cell? ⟨(ad.add (i.toNat * 5)).block, (ad.add (i.toNat * 5)).off + 4, none⟩ = some (.int .i64 (rd_T49 xs i).val.n) := by
 obtain ⟨ad, c, e, _, hK, hc0⟩ := Kd.C_get h z49 i h0 h1
 have hc : ∀ j u, c[j]? = some u → w.cell? (ad.add (i.toNat * 5 + j)) = some u := hc0
 obtain rfl := k49_open hK
 exact ⟨ad, e, hc 0 _ rfl, by rw [← add_field _ _ 1 (by omega)]; exact hc 1 _ rfl, by rw [← add_field _ _ 2 (by omega)]; exact hc 2 _ rfl, by rw [← add_field _ _ 3 (by omega)]; exact hc 3 _ rfl, by rw [← add_field _ _ 4 (by omega)]; exact hc 4 _ rfl⟩

def rd_L6 (xs : List (List Term)) (i : Int) : (List Term) := xs.getD i.toNat ([] : List Term)
theorem at_L6 {w : World} {A : Option Addr} {n : Nat} {xs : List (List Term)} (h : Kd.C (Kd.slice 49 k49) w A n xs) (i : Int) (h0 : 0 ≤ i) (h1 : i < n) : ∃ ad A0 c0, A = some ad ∧ w.cell? (ad.add i.toNat) = some (.slice A0 (rd_L6 xs i).length c0) ∧ (rd_L6 xs i).length ≤ c0 ∧ k49.C w A0 (rd_L6 xs i).length (rd_L6 xs i) := by
 obtain ⟨ad, c, e, _, hK, hc0⟩ := Kd.C_get h ([] : List Term) i h0 h1
 have hc : ∀ j u, c[j]? = some u → w.cell? (ad.add (i.toNat * 1 + j)) = some u := hc0
 obtain ⟨A0, c0, rfl, l0, g0⟩ := hK
 exact ⟨ad, A0, c0, e, by have hq := hc 0 _ rfl; rwa [Nat.mul_one, Nat.add_zero] at hq, l0, g0⟩

/-! #### struct type 46 -/
structure Atom where
 pred : ByteArray
 args : (List Term)
deriving DecidableEq
def z46 : Atom := ⟨(⟨#[]⟩ : ByteArray), ([] : List Term)⟩
def k46 : Kd Atom := Kd.iso (Kd.pair Kd.string (Kd.slice 49 k49)) (fun x : Atom => (x.pred, x.args))
theorem k46_heap : Kd.Heap k46 := Kd.heap_iso _ (Kd.heap_pair Kd.heap_string (Kd.heap_slice 49 k49_heap))
theorem k46_open {w : World} {x : Atom} {cs : List Value} (h : k46.K w x cs) : ∃ A1 c1, cs = [.string x.pred, .slice A1 x.args.length c1] ∧ x.args.length ≤ c1 ∧ k49.C w A1 x.args.length x.args := by
 obtain ⟨_, _, rfl, rfl, ⟨A1, c1, rfl, l1, g1⟩⟩ := h
 exact ⟨A1, c1, rfl, l1, g1⟩
theorem k46_openM {w : World} {base : Nat} {ok : Nat → Prop} {x : Atom} {cs : List Value} (h : k46.M w base ok x cs) : ∃ v1, cs = [.string x.pred, v1] ∧ k49.R 49 w base ok v1 x.args := by
 obtain ⟨_, _, rfl, rfl, ⟨v1, rfl, g1⟩⟩ := h
 exact ⟨v1, rfl, g1⟩
theorem k46_mk (w : World) (x : Atom) {A1 : Option Addr} {c1 : Nat} (l1 : x.args.length ≤ c1) (g1 : k49.C w A1 x.args.length x.args) : k46.K w x [.string x.pred, .slice A1 x.args.length c1] := ⟨[.string x.pred], [.slice A1 x.args.length c1], rfl, rfl, ⟨A1, c1, rfl, l1, g1⟩⟩
theorem k46_mkM (w : World) (base : Nat) (ok : Nat → Prop) (x : Atom) {v1 : Value} (g1 : k49.R 49 w base ok v1 x.args) : k46.M w base ok x [.string x.pred, v1] := ⟨[.string x.pred], [v1], rfl, rfl, ⟨v1, rfl, g1⟩⟩
theorem k46_openF {W : World} {ok : Nat → Prop} {x : Atom} {cs : List Value} (h : Kd.FK k46 W ok x cs) : ∃ A1 c1, cs = [.string x.pred, .slice A1 x.args.length c1] ∧ x.args.length ≤ c1 ∧ Kd.F k49 W ok A1 x.args.length x.args := by
 obtain ⟨A1, c1, rfl, l1, _⟩ := k46_open (Kd.FK_now h)
 exact ⟨A1, c1, rfl, l1, (fun W' hW => by obtain ⟨A1_, c1_, he, l1_, g1_⟩ := k46_open (h W' hW); injection (Option.some.inj (show some (Value.slice A1 x.args.length c1) = some (Value.slice A1_ x.args.length c1_) from congrArg (fun l => l[1]?) he)) with ha_ _ _; rw [ha_]; exact g1_)⟩
theorem k46_mkF (W : World) (ok : Nat → Prop) (x : Atom) {A1 : Option Addr} {c1 : Nat} (l1 : x.args.length ≤ c1) (g1 : Kd.F k49 W ok A1 x.args.length x.args) : Kd.FK k46 W ok x [.string x.pred, .slice A1 x.args.length c1] := fun W2 hW => k46_mk W2 x l1 (g1 W2 hW)
def rd_T46 (xs : List Atom) (i : Int) : Atom := xs.getD i.toNat z46
theorem at_T46 {w : World} {A : Option Addr} {n : Nat} {xs : List Atom} (h : Kd.C k46 w A n xs) (i : Int) (h0 : 0 ≤ i) (h1 : i < n) : ∃ ad A1 c1, A = some ad ∧ w.cell? (ad.add (i.toNat * 2)) = some (.string (rd_T46 xs i).pred) ∧ w.cell? ⟨(ad.add (i.toNat * 2)).block, (ad.add (i.toNat * 2)).off + 1, none⟩ = some (.slice A1 (rd_T46 xs i).args.length c1) ∧ (rd_T46 xs i).args.length ≤ c1 ∧ k49.C w A1 (rd_T46 xs i).args.length (rd_T46 xs i).args := by
 obtain ⟨ad, c, e, _, hK, hc0⟩ := Kd.C_get h z46 i h0 h1
 have hc : ∀ j u, c[j]? = some u → w.cell? (ad.add (i.toNat * 2 + j)) = some u := hc0
 obtain ⟨A1, c1, rfl, l1, g1⟩ := k46_open hK
 exact ⟨ad, A1, c1, e, hc 0 _ rfl, by rw [← add_field _ _ 1 (by omega)]; exact hc 1 _ rfl, l1, g1⟩

/-! #### struct type 58 -/
structure Liter where
 kind : Int
 atom : Atom
 op : ByteArray
 l : Term
 r : Term
deriving DecidableEq
def z58 : Liter := ⟨(0 : Int), z46, (⟨#[]⟩ : ByteArray), z49, z49⟩
def k58 : Kd Liter := Kd.iso (Kd.pair (Kd.int .i64) (Kd.pair k46 (Kd.pair Kd.string (Kd.pair k49 k49)))) (fun x : Liter => (x.kind, x.atom, x.op, x.l, x.r))
theorem k58_heap : Kd.Heap k58 := Kd.heap_iso _ (Kd.heap_pair (Kd.heap_int .i64) (Kd.heap_pair k46_heap (Kd.heap_pair Kd.heap_string (Kd.heap_pair k49_heap k49_heap))))
theorem k58_open {w : World} {x : Liter} {cs : List Value} (h : k58.K w x cs) : ∃ A2 c2, cs = [.int .i64 x.kind, .string x.atom.pred, .slice A2 x.atom.args.length c2, .string x.op, .bool x.l.isVar, .string x.l.name, .bool x.l.val.isSym, .string x.l.val.sym, .int .i64 x.l.val.n, .bool x.r.isVar, .string x.r.name, .bool x.r.val.isSym, .string x.r.val.sym, .int .i64 x.r.val.n] ∧ x.atom.args.length ≤ c2 ∧ k49.C w A2 x.atom.args.length x.atom.args := by
 obtain ⟨_, _, rfl, rfl, ⟨_, _, rfl, s1, ⟨_, _, rfl, rfl, ⟨_, _, rfl, s4, s9⟩⟩⟩⟩ := h
 obtain ⟨A2, c2, rfl, l2, g2⟩ := k46_open s1
 obtain rfl := k49_open s4
 obtain rfl := k49_open s9
 exact ⟨A2, c2, rfl, l2, g2⟩
theorem k58_openM {w : World} {base : Nat} {ok : Nat → Prop} {x : Liter} {cs : List Value} (h : k58.M w base ok x cs) : ∃ v2, cs = [.int .i64 x.kind, .string x.atom.pred, v2, .string x.op, .bool x.l.isVar, .string x.l.name, .bool x.l.val.isSym, .string x.l.val.sym, .int .i64 x.l.val.n, .bool x.r.isVar, .string x.r.name, .bool x.r.val.isSym, .string x.r.val.sym, .int .i64 x.r.val.n] ∧ k49.R 49 w base ok v2 x.atom.args := by
 obtain ⟨_, _, rfl, rfl, ⟨_, _, rfl, s1, ⟨_, _, rfl, rfl, ⟨_, _, rfl, s4, s9⟩⟩⟩⟩ := h
 obtain ⟨v2, rfl, g2⟩ := k46_openM s1
 obtain rfl := k49_openM s4
 obtain rfl := k49_openM s9
 exact ⟨v2, rfl, g2⟩
theorem k58_mk (w : World) (x : Liter) {A2 : Option Addr} {c2 : Nat} (l2 : x.atom.args.length ≤ c2) (g2 : k49.C w A2 x.atom.args.length x.atom.args) : k58.K w x [.int .i64 x.kind, .string x.atom.pred, .slice A2 x.atom.args.length c2, .string x.op, .bool x.l.isVar, .string x.l.name, .bool x.l.val.isSym, .string x.l.val.sym, .int .i64 x.l.val.n, .bool x.r.isVar, .string x.r.name, .bool x.r.val.isSym, .string x.r.val.sym, .int .i64 x.r.val.n] := ⟨[.int .i64 x.kind], [.string x.atom.pred, .slice A2 x.atom.args.length c2, .string x.op, .bool x.l.isVar, .string x.l.name, .bool x.l.val.isSym, .string x.l.val.sym, .int .i64 x.l.val.n, .bool x.r.isVar, .string x.r.name, .bool x.r.val.isSym, .string x.r.val.sym, .int .i64 x.r.val.n], rfl, rfl, ⟨[.string x.atom.pred, .slice A2 x.atom.args.length c2], [.string x.op, .bool x.l.isVar, .string x.l.name, .bool x.l.val.isSym, .string x.l.val.sym, .int .i64 x.l.val.n, .bool x.r.isVar, .string x.r.name, .bool x.r.val.isSym, .string x.r.val.sym, .int .i64 x.r.val.n], rfl, (k46_mk w x.atom l2 g2), ⟨[.string x.op], [.bool x.l.isVar, .string x.l.name, .bool x.l.val.isSym, .string x.l.val.sym, .int .i64 x.l.val.n, .bool x.r.isVar, .string x.r.name, .bool x.r.val.isSym, .string x.r.val.sym, .int .i64 x.r.val.n], rfl, rfl, ⟨[.bool x.l.isVar, .string x.l.name, .bool x.l.val.isSym, .string x.l.val.sym, .int .i64 x.l.val.n], [.bool x.r.isVar, .string x.r.name, .bool x.r.val.isSym, .string x.r.val.sym, .int .i64 x.r.val.n], rfl, (k49_mk w x.l ), (k49_mk w x.r )⟩⟩⟩⟩
theorem k58_mkM (w : World) (base : Nat) (ok : Nat → Prop) (x : Liter) {v2 : Value} (g2 : k49.R 49 w base ok v2 x.atom.args) : k58.M w base ok x [.int .i64 x.kind, .string x.atom.pred, v2, .string x.op, .bool x.l.isVar, .string x.l.name, .bool x.l.val.isSym, .string x.l.val.sym, .int .i64 x.l.val.n, .bool x.r.isVar, .string x.r.name, .bool x.r.val.isSym, .string x.r.val.sym, .int .i64 x.r.val.n] := ⟨[.int .i64 x.kind], [.string x.atom.pred, v2, .string x.op, .bool x.l.isVar, .string x.l.name, .bool x.l.val.isSym, .string x.l.val.sym, .int .i64 x.l.val.n, .bool x.r.isVar, .string x.r.name, .bool x.r.val.isSym, .string x.r.val.sym, .int .i64 x.r.val.n], rfl, rfl, ⟨[.string x.atom.pred, v2], [.string x.op, .bool x.l.isVar, .string x.l.name, .bool x.l.val.isSym, .string x.l.val.sym, .int .i64 x.l.val.n, .bool x.r.isVar, .string x.r.name, .bool x.r.val.isSym, .string x.r.val.sym, .int .i64 x.r.val.n], rfl, (k46_mkM w base ok x.atom g2), ⟨[.string x.op], [.bool x.l.isVar, .string x.l.name, .bool x.l.val.isSym, .string x.l.val.sym, .int .i64 x.l.val.n, .bool x.r.isVar, .string x.r.name, .bool x.r.val.isSym, .string x.r.val.sym, .int .i64 x.r.val.n], rfl, rfl, ⟨[.bool x.l.isVar, .string x.l.name, .bool x.l.val.isSym, .string x.l.val.sym, .int .i64 x.l.val.n], [.bool x.r.isVar, .string x.r.name, .bool x.r.val.isSym, .string x.r.val.sym, .int .i64 x.r.val.n], rfl, (k49_mkM w base ok x.l ), (k49_mkM w base ok x.r )⟩⟩⟩⟩
theorem k58_openF {W : World} {ok : Nat → Prop} {x : Liter} {cs : List Value} (h : Kd.FK k58 W ok x cs) : ∃ A2 c2, cs = [.int .i64 x.kind, .string x.atom.pred, .slice A2 x.atom.args.length c2, .string x.op, .bool x.l.isVar, .string x.l.name, .bool x.l.val.isSym, .string x.l.val.sym, .int .i64 x.l.val.n, .bool x.r.isVar, .string x.r.name, .bool x.r.val.isSym, .string x.r.val.sym, .int .i64 x.r.val.n] ∧ x.atom.args.length ≤ c2 ∧ Kd.F k49 W ok A2 x.atom.args.length x.atom.args := by
 obtain ⟨A2, c2, rfl, l2, _⟩ := k58_open (Kd.FK_now h)
 exact ⟨A2, c2, rfl, l2, (fun W' hW => by obtain ⟨A2_, c2_, he, l2_, g2_⟩ := k58_open (h W' hW); injection (Option.some.inj (show some (Value.slice A2 x.atom.args.length c2) = some (Value.slice A2_ x.atom.args.length c2_) from congrArg (fun l => l[2]?) he)) with ha_ _ _; rw [ha_]; exact g2_)⟩
theorem k58_mkF (W : World) (ok : Nat → Prop) (x : Liter) {A2 : Option Addr} {c2 : Nat} (l2 : x.atom.args.length ≤ c2) (g2 : Kd.F k49 W ok A2 x.atom.args.length x.atom.args) : Kd.FK k58 W ok x [.int .i64 x.kind, .string x.atom.pred, .slice A2 x.atom.args.length c2, .string x.op, .bool x.l.isVar, .string x.l.name, .bool x.l.val.isSym, .string x.l.val.sym, .int .i64 x.l.val.n, .bool x.r.isVar, .string x.r.name, .bool x.r.val.isSym, .string x.r.val.sym, .int .i64 x.r.val.n] := fun W2 hW => k58_mk W2 x l2 (g2 W2 hW)
def rd_T58 (xs : List Liter) (i : Int) : Liter := xs.getD i.toNat z58
theorem at_T58 {w : World} {A : Option Addr} {n : Nat} {xs : List Liter} (h : Kd.C k58 w A n xs) (i : Int) (h0 : 0 ≤ i) (h1 : i < n) : ∃ ad A2 c2, A = some ad ∧ w.cell? (ad.add (i.toNat * 14)) = some (.int .i64 (rd_T58 xs i).kind) ∧ w.cell? ⟨(ad.add (i.toNat * 14)).block, (ad.add (i.toNat * 14)).off + 1, none⟩ = some (.string (rd_T58 xs i).atom.pred) ∧ w.cell? ⟨(ad.add (i.toNat * 14)).block, (ad.add (i.toNat * 14)).off + 2, none⟩ = some (.slice A2 (rd_T58 xs i).atom.args.length c2) ∧ w.cell? ⟨(ad.add (i.toNat * 14)).block, (ad.add (i.toNat * 14)).off + 3, none⟩ = some (.string (rd_T58 xs i).op) ∧ w.cell? ⟨(ad.add (i.toNat * 14)).block, (ad.add (i.toNat * 14)).off + 4, none⟩ = some (.bool (rd_T58 xs i).l.isVar) ∧ w.cell? ⟨(ad.add (i.toNat * 14)).block, (ad.add (i.toNat * 14)).off + 5, none⟩ = some (.string (rd_T58 xs i).l.name) ∧ w.cell? ⟨(ad.add (i.toNat * 14)).block, (ad.add (i.toNat * 14)).off + 6, none⟩ = some (.bool (rd_T58 xs i).l.val.isSym) ∧ w.cell? ⟨(ad.add (i.toNat * 14)).block, (ad.add (i.toNat * 14)).off + 7, none⟩ = some (.string (rd_T58 xs i).l.val.sym) ∧ w.cell? ⟨(ad.add (i.toNat * 14)).block, (ad.add (i.toNat * 14)).off + 8, none⟩ = some (.int .i64 (rd_T58 xs i).l.val.n) ∧ w.cell? ⟨(ad.add (i.toNat * 14)).block, (ad.add (i.toNat * 14)).off + 9, none⟩ = some (.bool (rd_T58 xs i).r.isVar) ∧ w.cell? ⟨(ad.add (i.toNat * 14)).block, (ad.add (i.toNat * 14)).off + 10, none⟩ = some (.string (rd_T58 xs i).r.name) ∧ w.cell? ⟨(ad.add (i.toNat * 14)).block, (ad.add (i.toNat * 14)).off + 11, none⟩ = some (.bool (rd_T58 xs i).r.val.isSym) ∧ w.cell? ⟨(ad.add (i.toNat * 14)).block, (ad.add (i.toNat * 14)).off + 12, none⟩ = some (.string (rd_T58 xs i).r.val.sym) ∧ w.cell? ⟨(ad.add (i.toNat * 14)).block, (ad.add (i.toNat * 14)).off + 13, none⟩ = some (.int .i64 (rd_T58 xs i).r.val.n) ∧ (rd_T58 xs i).atom.args.length ≤ c2 ∧ k49.C w A2 (rd_T58 xs i).atom.args.length (rd_T58 xs i).atom.args := by
 obtain ⟨ad, c, e, _, hK, hc0⟩ := Kd.C_get h z58 i h0 h1
 have hc : ∀ j u, c[j]? = some u → w.cell? (ad.add (i.toNat * 14 + j)) = some u := hc0
 obtain ⟨A2, c2, rfl, l2, g2⟩ := k58_open hK
 exact ⟨ad, A2, c2, e, hc 0 _ rfl, by rw [← add_field _ _ 1 (by omega)]; exact hc 1 _ rfl, by rw [← add_field _ _ 2 (by omega)]; exact hc 2 _ rfl, by rw [← add_field _ _ 3 (by omega)]; exact hc 3 _ rfl, by rw [← add_field _ _ 4 (by omega)]; exact hc 4 _ rfl, by rw [← add_field _ _ 5 (by omega)]; exact hc 5 _ rfl, by rw [← add_field _ _ 6 (by omega)]; exact hc 6 _ rfl, by rw [← add_field _ _ 7 (by omega)]; exact hc 7 _ rfl, by rw [← add_field _ _ 8 (by omega)]; exact hc 8 _ rfl, by rw [← add_field _ _ 9 (by omega)]; exact hc 9 _ rfl, by rw [← add_field _ _ 10 (by omega)]; exact hc 10 _ rfl, by rw [← add_field _ _ 11 (by omega)]; exact hc 11 _ rfl, by rw [← add_field _ _ 12 (by omega)]; exact hc 12 _ rfl, by rw [← add_field _ _ 13 (by omega)]; exact hc 13 _ rfl, l2, g2⟩

/-! #### struct type 69 -/
structure RPair where
 name : ByteArray
 val : Val
deriving DecidableEq
def z69 : RPair := ⟨(⟨#[]⟩ : ByteArray), z24⟩
def k69 : Kd RPair := Kd.iso (Kd.pair Kd.string k24) (fun x : RPair => (x.name, x.val))
theorem k69_heap : Kd.Heap k69 := Kd.heap_iso _ (Kd.heap_pair Kd.heap_string k24_heap)
theorem k69_open {w : World} {x : RPair} {cs : List Value} (h : k69.K w x cs) : cs = [.string x.name, .bool x.val.isSym, .string x.val.sym, .int .i64 x.val.n] := by
 obtain ⟨_, _, rfl, rfl, s1⟩ := h
 obtain rfl := k24_open s1
 exact rfl
theorem k69_openM {w : World} {base : Nat} {ok : Nat → Prop} {x : RPair} {cs : List Value} (h : k69.M w base ok x cs) : cs = [.string x.name, .bool x.val.isSym, .string x.val.sym, .int .i64 x.val.n] := by
 obtain ⟨_, _, rfl, rfl, s1⟩ := h
 obtain rfl := k24_openM s1
 exact rfl
theorem k69_mk (w : World) (x : RPair)  : k69.K w x [.string x.name, .bool x.val.isSym, .string x.val.sym, .int .i64 x.val.n] := ⟨[.string x.name], [.bool x.val.isSym, .string x.val.sym, .int .i64 x.val.n], rfl, rfl, (k24_mk w x.val )⟩
theorem k69_mkM (w : World) (base : Nat) (ok : Nat → Prop) (x : RPair)  : k69.M w base ok x [.string x.name, .bool x.val.isSym, .string x.val.sym, .int .i64 x.val.n] := ⟨[.string x.name], [.bool x.val.isSym, .string x.val.sym, .int .i64 x.val.n], rfl, rfl, (k24_mkM w base ok x.val )⟩
theorem k69_mkF (W : World) (ok : Nat → Prop) (x : RPair) : Kd.FK k69 W ok x [.string x.name, .bool x.val.isSym, .string x.val.sym, .int .i64 x.val.n] := fun W2 _ => k69_mk W2 x
def rd_T69 (xs : List RPair) (i : Int) : RPair := xs.getD i.toNat z69
theorem at_T69 {w : World} {A : Option Addr} {n : Nat} {xs : List RPair} (h : Kd.C k69 w A n xs) (i : Int) (h0 : 0 ≤ i) (h1 : i < n) : ∃ ad , A = some ad ∧ w.cell? (ad.add (i.toNat * 4)) = some (.string (rd_T69 xs i).name) ∧ w.cell? ⟨(ad.add (i.toNat * 4)).block, (ad.add (i.toNat * 4)).off + 1, none⟩ = some (.bool (rd_T69 xs i).val.isSym) ∧ w.cell? ⟨(ad.add (i.toNat * 4)).block, (ad.add (i.toNat * 4)).off + 2, none⟩ = some (.string (rd_T69 xs i).val.sym) ∧ w.cell? ⟨(ad.add (i.toNat * 4)).block, (ad.add (i.toNat * 4)).off + 3, none⟩ = some (.int .i64 (rd_T69 xs i).val.n) := by
 obtain ⟨ad, c, e, _, hK, hc0⟩ := Kd.C_get h z69 i h0 h1
 have hc : ∀ j u, c[j]? = some u → w.cell? (ad.add (i.toNat * 4 + j)) = some u := hc0
 obtain rfl := k69_open hK
 exact ⟨ad, e, hc 0 _ rfl, by rw [← add_field _ _ 1 (by omega)]; exact hc 1 _ rfl, by rw [← add_field _ _ 2 (by omega)]; exact hc 2 _ rfl, by rw [← add_field _ _ 3 (by omega)]; exact hc 3 _ rfl⟩

def rd_L10 (xs : List (List RPair)) (i : Int) : (List RPair) := xs.getD i.toNat ([] : List RPair)
theorem at_L10 {w : World} {A : Option Addr} {n : Nat} {xs : List (List RPair)} (h : Kd.C (Kd.slice 69 k69) w A n xs) (i : Int) (h0 : 0 ≤ i) (h1 : i < n) : ∃ ad A0 c0, A = some ad ∧ w.cell? (ad.add i.toNat) = some (.slice A0 (rd_L10 xs i).length c0) ∧ (rd_L10 xs i).length ≤ c0 ∧ k69.C w A0 (rd_L10 xs i).length (rd_L10 xs i) := by
 obtain ⟨ad, c, e, _, hK, hc0⟩ := Kd.C_get h ([] : List RPair) i h0 h1
 have hc : ∀ j u, c[j]? = some u → w.cell? (ad.add (i.toNat * 1 + j)) = some u := hc0
 obtain ⟨A0, c0, rfl, l0, g0⟩ := hK
 exact ⟨ad, A0, c0, e, by have hq := hc 0 _ rfl; rwa [Nat.mul_one, Nat.add_zero] at hq, l0, g0⟩

def rd_L11 (xs : List (List Pair)) (i : Int) : (List Pair) := xs.getD i.toNat ([] : List Pair)
theorem at_L11 {w : World} {A : Option Addr} {n : Nat} {xs : List (List Pair)} (h : Kd.C (Kd.slice 41 k41) w A n xs) (i : Int) (h0 : 0 ≤ i) (h1 : i < n) : ∃ ad A0 c0, A = some ad ∧ w.cell? (ad.add i.toNat) = some (.slice A0 (rd_L11 xs i).length c0) ∧ (rd_L11 xs i).length ≤ c0 ∧ k41.C w A0 (rd_L11 xs i).length (rd_L11 xs i) := by
 obtain ⟨ad, c, e, _, hK, hc0⟩ := Kd.C_get h ([] : List Pair) i h0 h1
 have hc : ∀ j u, c[j]? = some u → w.cell? (ad.add (i.toNat * 1 + j)) = some u := hc0
 obtain ⟨A0, c0, rfl, l0, g0⟩ := hK
 exact ⟨ad, A0, c0, e, by have hq := hc 0 _ rfl; rwa [Nat.mul_one, Nat.add_zero] at hq, l0, g0⟩

def rd_L12 (xs : List (List Val)) (i : Int) : (List Val) := xs.getD i.toNat ([] : List Val)
theorem at_L12 {w : World} {A : Option Addr} {n : Nat} {xs : List (List Val)} (h : Kd.C (Kd.slice 24 k24) w A n xs) (i : Int) (h0 : 0 ≤ i) (h1 : i < n) : ∃ ad A0 c0, A = some ad ∧ w.cell? (ad.add i.toNat) = some (.slice A0 (rd_L12 xs i).length c0) ∧ (rd_L12 xs i).length ≤ c0 ∧ k24.C w A0 (rd_L12 xs i).length (rd_L12 xs i) := by
 obtain ⟨ad, c, e, _, hK, hc0⟩ := Kd.C_get h ([] : List Val) i h0 h1
 have hc : ∀ j u, c[j]? = some u → w.cell? (ad.add (i.toNat * 1 + j)) = some u := hc0
 obtain ⟨A0, c0, rfl, l0, g0⟩ := hK
 exact ⟨ad, A0, c0, e, by have hq := hc 0 _ rfl; rwa [Nat.mul_one, Nat.add_zero] at hq, l0, g0⟩

theorem blt_ {w : World} {a : Addr} {v : Value} (h : w.cell? a = some v) : a.block < w.heap.size := World.block_lt_of_cell? w a h
end Go.Proofs.Ytdanihbbnepjpaa.H
namespace Go.Proofs.Ytdanihbbnepjpaa.H
/-- The structs are printed in YtdanihbbnepjpaaQ0. -/
theorem types_lie : True := trivial
end Go.Proofs.Ytdanihbbnepjpaa.H
namespace Go.Proofs.Ytdanihbbnepjpaa.H
/-! ### texts as lists of bytes -/
def toL (b : ByteArray) : List UInt8 := b.data.toList
def ofL (l : List UInt8) : ByteArray := ⟨l.toArray⟩
theorem ofL_toL (b : ByteArray) : ofL (toL b) = b := by simp [ofL, toL]
theorem toL_ofL (l : List UInt8) : toL (ofL l) = l := by simp [ofL, toL]
end Go.Proofs.Ytdanihbbnepjpaa.H
namespace Go.Proofs.Ytdanihbbnepjpaa.H
/-- is a name one of some -/
def mem (s : ByteArray) (l : List ByteArray) : Bool := l.any fun x => decide (s = x)
theorem mem_iff {s : ByteArray} {l : List ByteArray} : mem s l = true ↔ s ∈ l := by simp [mem]
end Go.Proofs.Ytdanihbbnepjpaa.H
namespace Go.Proofs.Ytdanihbbnepjpaa.H
open Go.RowKit Go.Proofs.YtdanihbbnepjpaaW.PrintWords
set_option linter.unusedVariables false

theorem Kd.C_nth {α : Type} {d : Kd α} {w : World} {A : Option Addr} {n : Nat} {xs : List α} (h : Kd.C d w A n xs) {i : Nat} {y : α} (hy : xs[i]? = some y) :
    ∃ ad c, A = some ad ∧ c.length = d.sz ∧ d.K w y c ∧ ∀ j u, c[j]? = some u → w.cell? (ad.add (i * d.sz + j)) = some u := by
  obtain ⟨h1, h2, h3⟩ := h
  have hi : i < xs.length := (List.getElem?_eq_some_iff.1 hy).1
  obtain ⟨ad, e, hc⟩ := h3 (by omega)
  obtain ⟨c, hs, hr, hcell⟩ := hc i y hy
  exact ⟨ad, c, e, hs, hr, hcell⟩
theorem at_Val {w : World} {A : Option Addr} {n : Nat} {xs : List Val} (h : Kd.C k24 w A n xs) {i : Nat} {y : Val} (hy : xs[i]? = some y) : ∃ ad , A = some ad ∧ w.cell? (ad.add (i * 3)) = some (.bool y.isSym) ∧ w.cell? ⟨(ad.add (i * 3)).block, (ad.add (i * 3)).off + 1, none⟩ = some (.string y.sym) ∧ w.cell? ⟨(ad.add (i * 3)).block, (ad.add (i * 3)).off + 2, none⟩ = some (.int .i64 y.n) := by
  obtain ⟨ad, c, e, _, hK, hc⟩ := Kd.C_nth h hy
  rw [show k24.sz = 3 from rfl] at hc
  obtain rfl := k24_open hK
  exact ⟨ad, e, by have hq := hc 0 _ rfl; rwa [Nat.add_zero] at hq, by rw [← add_field _ _ 1 (by omega)]; exact hc 1 _ rfl, by rw [← add_field _ _ 2 (by omega)]; exact hc 2 _ rfl⟩
theorem at_Term {w : World} {A : Option Addr} {n : Nat} {xs : List Term} (h : Kd.C k49 w A n xs) {i : Nat} {y : Term} (hy : xs[i]? = some y) : ∃ ad , A = some ad ∧ w.cell? (ad.add (i * 5)) = some (.bool y.isVar) ∧ w.cell? ⟨(ad.add (i * 5)).block, (ad.add (i * 5)).off + 1, none⟩ = some (.string y.name) ∧ w.cell? ⟨(ad.add (i * 5)).block, (ad.add (i * 5)).off + 2, none⟩ = some (.bool y.val.isSym) ∧ w.cell? ⟨(ad.add (i * 5)).block, (ad.add (i * 5)).off + 3, none⟩ = some (.string y.val.sym) ∧ w.cell? ⟨(ad.add (i * 5)).block, (ad.add (i * 5)).off + 4, none⟩ = some (.int .i64 y.val.n) := by
  obtain ⟨ad, c, e, _, hK, hc⟩ := Kd.C_nth h hy
  rw [show k49.sz = 5 from rfl] at hc
  obtain rfl := k49_open hK
  exact ⟨ad, e, by have hq := hc 0 _ rfl; rwa [Nat.add_zero] at hq, by rw [← add_field _ _ 1 (by omega)]; exact hc 1 _ rfl, by rw [← add_field _ _ 2 (by omega)]; exact hc 2 _ rfl, by rw [← add_field _ _ 3 (by omega)]; exact hc 3 _ rfl, by rw [← add_field _ _ 4 (by omega)]; exact hc 4 _ rfl⟩
theorem at_Atom {w : World} {A : Option Addr} {n : Nat} {xs : List Atom} (h : Kd.C k46 w A n xs) {i : Nat} {y : Atom} (hy : xs[i]? = some y) : ∃ ad A1 c1, A = some ad ∧ w.cell? (ad.add (i * 2)) = some (.string y.pred) ∧ w.cell? ⟨(ad.add (i * 2)).block, (ad.add (i * 2)).off + 1, none⟩ = some (.slice A1 y.args.length c1) ∧ y.args.length ≤ c1 ∧ k49.C w A1 y.args.length y.args := by
  obtain ⟨ad, c, e, _, hK, hc⟩ := Kd.C_nth h hy
  rw [show k46.sz = 2 from rfl] at hc
  obtain ⟨A1, c1, rfl, l1, g1⟩ := k46_open hK
  exact ⟨ad, A1, c1, e, by have hq := hc 0 _ rfl; rwa [Nat.add_zero] at hq, by rw [← add_field _ _ 1 (by omega)]; exact hc 1 _ rfl, l1, g1⟩
theorem at_Liter {w : World} {A : Option Addr} {n : Nat} {xs : List Liter} (h : Kd.C k58 w A n xs) {i : Nat} {y : Liter} (hy : xs[i]? = some y) : ∃ ad A2 c2, A = some ad ∧ w.cell? (ad.add (i * 14)) = some (.int .i64 y.kind) ∧ w.cell? ⟨(ad.add (i * 14)).block, (ad.add (i * 14)).off + 1, none⟩ = some (.string y.atom.pred) ∧ w.cell? ⟨(ad.add (i * 14)).block, (ad.add (i * 14)).off + 2, none⟩ = some (.slice A2 y.atom.args.length c2) ∧ w.cell? ⟨(ad.add (i * 14)).block, (ad.add (i * 14)).off + 3, none⟩ = some (.string y.op) ∧ w.cell? ⟨(ad.add (i * 14)).block, (ad.add (i * 14)).off + 4, none⟩ = some (.bool y.l.isVar) ∧ w.cell? ⟨(ad.add (i * 14)).block, (ad.add (i * 14)).off + 5, none⟩ = some (.string y.l.name) ∧ w.cell? ⟨(ad.add (i * 14)).block, (ad.add (i * 14)).off + 6, none⟩ = some (.bool y.l.val.isSym) ∧ w.cell? ⟨(ad.add (i * 14)).block, (ad.add (i * 14)).off + 7, none⟩ = some (.string y.l.val.sym) ∧ w.cell? ⟨(ad.add (i * 14)).block, (ad.add (i * 14)).off + 8, none⟩ = some (.int .i64 y.l.val.n) ∧ w.cell? ⟨(ad.add (i * 14)).block, (ad.add (i * 14)).off + 9, none⟩ = some (.bool y.r.isVar) ∧ w.cell? ⟨(ad.add (i * 14)).block, (ad.add (i * 14)).off + 10, none⟩ = some (.string y.r.name) ∧ w.cell? ⟨(ad.add (i * 14)).block, (ad.add (i * 14)).off + 11, none⟩ = some (.bool y.r.val.isSym) ∧ w.cell? ⟨(ad.add (i * 14)).block, (ad.add (i * 14)).off + 12, none⟩ = some (.string y.r.val.sym) ∧ w.cell? ⟨(ad.add (i * 14)).block, (ad.add (i * 14)).off + 13, none⟩ = some (.int .i64 y.r.val.n) ∧ y.atom.args.length ≤ c2 ∧ k49.C w A2 y.atom.args.length y.atom.args := by
  obtain ⟨ad, c, e, _, hK, hc⟩ := Kd.C_nth h hy
  rw [show k58.sz = 14 from rfl] at hc
  obtain ⟨A2, c2, rfl, l2, g2⟩ := k58_open hK
  exact ⟨ad, A2, c2, e, by have hq := hc 0 _ rfl; rwa [Nat.add_zero] at hq, by rw [← add_field _ _ 1 (by omega)]; exact hc 1 _ rfl, by rw [← add_field _ _ 2 (by omega)]; exact hc 2 _ rfl, by rw [← add_field _ _ 3 (by omega)]; exact hc 3 _ rfl, by rw [← add_field _ _ 4 (by omega)]; exact hc 4 _ rfl, by rw [← add_field _ _ 5 (by omega)]; exact hc 5 _ rfl, by rw [← add_field _ _ 6 (by omega)]; exact hc 6 _ rfl, by rw [← add_field _ _ 7 (by omega)]; exact hc 7 _ rfl, by rw [← add_field _ _ 8 (by omega)]; exact hc 8 _ rfl, by rw [← add_field _ _ 9 (by omega)]; exact hc 9 _ rfl, by rw [← add_field _ _ 10 (by omega)]; exact hc 10 _ rfl, by rw [← add_field _ _ 11 (by omega)]; exact hc 11 _ rfl, by rw [← add_field _ _ 12 (by omega)]; exact hc 12 _ rfl, by rw [← add_field _ _ 13 (by omega)]; exact hc 13 _ rfl, l2, g2⟩
theorem at_Pair {w : World} {A : Option Addr} {n : Nat} {xs : List Pair} (h : Kd.C k41 w A n xs) {i : Nat} {y : Pair} (hy : xs[i]? = some y) : ∃ ad , A = some ad ∧ w.cell? (ad.add (i * 4)) = some (.string y.name) ∧ w.cell? ⟨(ad.add (i * 4)).block, (ad.add (i * 4)).off + 1, none⟩ = some (.bool y.val.isSym) ∧ w.cell? ⟨(ad.add (i * 4)).block, (ad.add (i * 4)).off + 2, none⟩ = some (.string y.val.sym) ∧ w.cell? ⟨(ad.add (i * 4)).block, (ad.add (i * 4)).off + 3, none⟩ = some (.int .i64 y.val.n) := by
  obtain ⟨ad, c, e, _, hK, hc⟩ := Kd.C_nth h hy
  rw [show k41.sz = 4 from rfl] at hc
  obtain rfl := k41_open hK
  exact ⟨ad, e, by have hq := hc 0 _ rfl; rwa [Nat.add_zero] at hq, by rw [← add_field _ _ 1 (by omega)]; exact hc 1 _ rfl, by rw [← add_field _ _ 2 (by omega)]; exact hc 2 _ rfl, by rw [← add_field _ _ 3 (by omega)]; exact hc 3 _ rfl⟩
theorem at_RPair {w : World} {A : Option Addr} {n : Nat} {xs : List RPair} (h : Kd.C k69 w A n xs) {i : Nat} {y : RPair} (hy : xs[i]? = some y) : ∃ ad , A = some ad ∧ w.cell? (ad.add (i * 4)) = some (.string y.name) ∧ w.cell? ⟨(ad.add (i * 4)).block, (ad.add (i * 4)).off + 1, none⟩ = some (.bool y.val.isSym) ∧ w.cell? ⟨(ad.add (i * 4)).block, (ad.add (i * 4)).off + 2, none⟩ = some (.string y.val.sym) ∧ w.cell? ⟨(ad.add (i * 4)).block, (ad.add (i * 4)).off + 3, none⟩ = some (.int .i64 y.val.n) := by
  obtain ⟨ad, c, e, _, hK, hc⟩ := Kd.C_nth h hy
  rw [show k69.sz = 4 from rfl] at hc
  obtain rfl := k69_open hK
  exact ⟨ad, e, by have hq := hc 0 _ rfl; rwa [Nat.add_zero] at hq, by rw [← add_field _ _ 1 (by omega)]; exact hc 1 _ rfl, by rw [← add_field _ _ 2 (by omega)]; exact hc 2 _ rfl, by rw [← add_field _ _ 3 (by omega)]; exact hc 3 _ rfl⟩
end Go.Proofs.Ytdanihbbnepjpaa.H
namespace Go.Proofs.Ytdanihbbnepjpaa.H
open Go.RowKit Go.Proofs.YtdanihbbnepjpaaW.PrintWords
set_option linter.unusedVariables false
theorem lib_ba_eq {a b : ByteArray} : (a.toList = b.toList) ↔ a = b := by
  constructor
  · intro h
    have h1 : a.data.toList = b.data.toList := by
      have := congrArg id h
      rwa [ByteArray.toList_eq, ByteArray.toList_eq] at this
    cases a; cases b; simp_all
  · rintro rfl; rfl
theorem drop_end {α : Type} {l : List α} {n : Nat} (h : l.drop n = []) : ¬ (n : Int) < (l.length : Int) := by
  have := congrArg List.length h
  simp at this
  omega
theorem drop_more {α : Type} {l : List α} {n : Nat} {y : α} {r : List α} (h : l.drop n = y :: r) (hl : l.length ≤ 9223372036854775807) :
    (n : Int) < (l.length : Int) ∧ (0 : Int) ≤ (n : Int) ∧ (∀ d, l.getD (n : Int).toNat d = y) ∧ l.drop (n + 1) = r ∧ wrap64 ((n : Int) + 1) = ((n + 1 : Nat) : Int) := by
  have h1 := congrArg List.length h
  simp at h1
  have h2 : l.drop (n + 1) = r := by
    have := congrArg (List.drop 1) h
    simpa [List.drop_drop, Nat.add_comm] using this
  have h3 : l[n]? = some y := by
    have := congrArg (fun z => z[0]?) h
    simpa using this
  refine ⟨by omega, by omega, fun d => ?_, h2, ?_⟩
  · rw [Int.toNat_natCast, List.getD_eq_getElem?_getD, h3]; rfl
  · unfold wrap64; omega
theorem at_more {α : Type} {l : List α} {n : Nat} (h : n < l.length) : ∃ y r, l.drop n = y :: r ∧ l[n]? = some y :=
  ⟨l[n], l.drop (n + 1), List.drop_eq_getElem_cons h, List.getElem?_eq_getElem h⟩
theorem getD_at {α : Type} {l : List α} {n : Nat} {y : α} (h : l[n]? = some y) (d : α) : l.getD (n : Int).toNat d = y := by
  rw [Int.toNat_natCast, List.getD_eq_getElem?_getD, h]; rfl
theorem wrap_up {n : Nat} (h : n < 9223372036854775807) : wrap64 ((n : Int) + 1) = ((n + 1 : Nat) : Int) := by unfold wrap64; omega
theorem ite_t {α : Type} {c : Prop} [Decidable c] (h : c) (a b : α) : (if c then a else b) = a := if_pos h
theorem Ev.iff {α : Type} {g : Nat → Option α} {r r' : α} (h : Ev g r) (e : r = r') : Ev g r' := e ▸ h
theorem Ev.some {α : Type} {r r' : α} (e : r = r') : Ev (fun _ => some r) r' := e ▸ Ev.now r
theorem Ev.pure {α β : Type} {o : Option α} {f : Nat → α → Option β} {a : α} {r : β} (h : o = .some a) (k : Ev (fun n => f n a) r) : Ev (fun n => o.bind (f n)) r := by
  subst h; exact k
theorem Ev.pos {α : Type} {c : Prop} [Decidable c] {g f : Nat → Option α} {r : α} (h : c) (k : Ev g r) : Ev (fun n => if c then g n else f n) r := by
  simp only [if_pos h]; exact k
theorem Ev.neg {α : Type} {c : Prop} [Decidable c] {g f : Nat → Option α} {r : α} (h : ¬ c) (k : Ev f r) : Ev (fun n => if c then g n else f n) r := by
  simp only [if_neg h]; exact k
theorem Ev.cases {α : Type} {c : Prop} [Decidable c] {g f : Nat → Option α} {r r' : α} (h1 : c → Ev g r) (h2 : ¬ c → Ev f r') : Ev (fun n => if c then g n else f n) (if c then r else r') := by
  by_cases h : c
  · simp only [if_pos h]; exact h1 h
  · simp only [if_neg h]; exact h2 h
end Go.Proofs.Ytdanihbbnepjpaa.H
namespace Go.Proofs.Ytdanihbbnepjpaa.H
open Go.RowKit Go.Proofs.YtdanihbbnepjpaaW.PrintWords Go.Proofs.YtdanihbbnepjpaaW.PrintLast Go.Proofs.YtdanihbbnepjpaaW.PrintMore
set_option linter.unusedVariables false

/-- a predicate that is handed to the library, at one cell -/
def PredK (P : Program) (g : Nat) (lb : Array Value) {α : Type} (enc : α → Value) (p : α → Bool) (w : World) (l : List α) : Prop :=
  ∀ (W : World) (x : α), x ∈ l → Below w.heap.size w W → Calls P g (#[enc x] ++ lb) W fun e w' => e = .returned (.bool (p x)) ∧ Below W.heap.size W w'
/-- the same at a struct -/
def PredA (P : Program) (g : Nat) (lb : Array Value) {α : Type} (d : Kd α) (p : α → Bool) (w : World) (l : List α) : Prop :=
  ∀ (W : World) (x : α) (cs : List Value), x ∈ l → Below w.heap.size w W → d.K W x cs → Calls P g (#[.agg cs.toArray] ++ lb) W fun e w' => e = .returned (.bool (p x)) ∧ Below W.heap.size W w'

/-- the first place from i on at which p holds; -1 -/
def idxP {α : Type} (p : α → Bool) : List α → Nat → Int
  | [], _ => -1
  | x :: l, i => if p x = true then (i : Int) else idxP p l (i + 1)

theorem drop_cons {α : Type} {l : List α} {k : Nat} {y : α} (hy : l[k]? = some y) : l.drop k = y :: l.drop (k + 1) := by
  obtain ⟨h, rfl⟩ := List.getElem?_eq_some_iff.1 hy
  exact List.drop_eq_getElem_cons h
theorem drop_all {α : Type} (l : List α) : l.drop l.length = [] := List.drop_length
theorem at_some {α : Type} {l : List α} {k : Nat} (h : k < l.length) : ∃ y, l[k]? = some y := ⟨l[k], List.getElem?_eq_getElem h⟩

theorem idxP_any {α : Type} (p : α → Bool) : ∀ (l : List α) (i : Nat), decide (0 ≤ idxP p l i) = l.any p
  | [], i => by simp [idxP]
  | x :: l, i => by
    unfold idxP
    by_cases h : p x = true
    · rw [if_pos h]; simp [h]
    · rw [if_neg h, idxP_any p l (i + 1)]; simp [h]


theorem ba_eq {a b : ByteArray} : (a.toList = b.toList) ↔ a = b := by
  constructor
  · intro h
    have h1 : a.data.toList = b.data.toList := by
      have := h
      rwa [ByteArray.toList_eq, ByteArray.toList_eq] at this
    cases a; cases b; simp at h1; subst h1; rfl
  · rintro rfl; rfl
theorem ba_beq {a b : ByteArray} (h : a = b) : (a.toList == b.toList) = true ∧ (a.toList != b.toList) = false := by subst h; simp
theorem ba_bne {a b : ByteArray} (h : ¬ a = b) : (a.toList == b.toList) = false ∧ (a.toList != b.toList) = true :=
  ⟨beq_eq_false_iff_ne.2 (fun e => h (ba_eq.1 e)), bne_iff_ne.2 (fun e => h (ba_eq.1 e))⟩

section
variable {w : World} {A : Option Addr} {n i : Nat}
theorem at_int {k : IntKind} {xs : List Int} {y : Int} (h : (Kd.int k).C w A n xs) (hy : xs[i]? = some y) : ∃ ad, A = some ad ∧ w.cell? (ad.add i) = some (.int k y) := by
  obtain ⟨ad, c, e, _, hK, hc⟩ := Kd.C_nth h hy
  obtain rfl : c = [.int k y] := hK
  have hq := hc 0 _ rfl
  exact ⟨ad, e, by rwa [show i * (Kd.int k).sz + 0 = i from Nat.mul_one i] at hq⟩
theorem at_bool {xs : List Bool} {y : Bool} (h : Kd.bool.C w A n xs) (hy : xs[i]? = some y) : ∃ ad, A = some ad ∧ w.cell? (ad.add i) = some (.bool y) := by
  obtain ⟨ad, c, e, _, hK, hc⟩ := Kd.C_nth h hy
  obtain rfl : c = [.bool y] := hK
  have hq := hc 0 _ rfl
  exact ⟨ad, e, by rwa [show i * Kd.bool.sz + 0 = i from Nat.mul_one i] at hq⟩
theorem at_str {xs : List ByteArray} {y : ByteArray} (h : Kd.string.C w A n xs) (hy : xs[i]? = some y) : ∃ ad, A = some ad ∧ w.cell? (ad.add i) = some (.string y) := by
  obtain ⟨ad, c, e, _, hK, hc⟩ := Kd.C_nth h hy
  obtain rfl : c = [.string y] := hK
  have hq := hc 0 _ rfl
  exact ⟨ad, e, by rwa [show i * Kd.string.sz + 0 = i from Nat.mul_one i] at hq⟩
theorem at_row {α : Type} {d : Kd α} {t : Nat} {xs : List (List α)} {y : List α} (h : (Kd.slice t d).C w A n xs) (hy : xs[i]? = some y) : ∃ ad A1 c1, A = some ad ∧ w.cell? (ad.add i) = some (.slice A1 y.length c1) ∧ y.length ≤ c1 ∧ d.C w A1 y.length y := by
  obtain ⟨ad, c, e, _, hK, hc⟩ := Kd.C_nth h hy
  obtain ⟨A1, c1, rfl, hl, hr⟩ := hK
  have hq := hc 0 _ rfl
  exact ⟨ad, A1, c1, e, by rwa [show i * (Kd.slice t d).sz + 0 = i from Nat.mul_one i] at hq, hl, hr⟩
end
/-- an old cell, in a world that comes behind -/
theorem Below.old {w W : World} {a : Addr} {v : Value} (hb : Below w.heap.size w W) (h : w.cell? a = some v) : W.cell? a = some v := (hb.cell (World.block_lt_of_cell? w _ h)).trans h
theorem Below.then {w W X : World} (h : Below w.heap.size w W) (k : Below W.heap.size W X) : Below w.heap.size w X := below_then h h.size k
theorem ret_int {k : IntKind} {a b : Int} (h : a = b) : Ending.returned (.int k a) = .returned (.int k b) := by rw [h]
theorem ret_bool {a b : Bool} (h : a = b) : Ending.returned (.bool a) = .returned (.bool b) := by rw [h]
end Go.Proofs.Ytdanihbbnepjpaa.H
namespace Go.Proofs.Ytdanihbbnepjpaa.H
open Go.RowKit Go.Proofs.YtdanihbbnepjpaaW.PrintWords Go.Proofs.YtdanihbbnepjpaaW.PrintLast Go.Proofs.YtdanihbbnepjpaaW.PrintMore
set_option linter.unusedVariables false

theorem grown_set (w : World) (g j : Nat) (v : Value) : w.grownBy (w.setCell ⟨g, j, none⟩ v) (some g) :=
  ⟨rfl, rfl, rfl, by simp [World.setCell], fun k hk hne => Below.heap_setCell w ⟨g, j, none⟩ v k (fun e => hne (by rw [e]))⟩
theorem grown_trans {w w1 w2 : World} {r : Option Nat} (h : w.grownBy w1 r) (k : w1.grownBy w2 r) : w.grownBy w2 r :=
  ⟨k.os.trans h.os, k.tape.trans h.tape, k.output.trans h.output, Nat.le_trans h.size k.size, fun j hj hne => (k.block j (Nat.lt_of_lt_of_le hj h.size) hne).trans (h.block j hj hne)⟩
/-! ### what 'clear' and stores leave of a row -/
theorem setCells_rowH {g : Nat} {e : TypeId} : ∀ (vs : List Value) (o : Nat) (w : World) (cur : Array Value), w.heap[g]? = some (.cells cur e (0, 0)) →
    ∃ cur', (w.setCells g o vs).heap[g]? = some (.cells cur' e (0, 0)) ∧ cur'.size = cur.size ∧ (∀ j, j < o → cur'[j]? = cur[j]?) ∧ w.grownBy (w.setCells g o vs) (some g)
  | [], o, w, cur, h => ⟨cur, h, rfl, fun _ _ => rfl, World.grownBy.refl w _⟩
  | v :: r, o, w, cur, h => by
    have h1 := blk_set h o v
    obtain ⟨cur', h2, h3, h4, h5⟩ := setCells_rowH r (o + 1) _ _ h1
    refine ⟨cur', h2, by rw [h3]; simp, fun j hj => ?_, ?_⟩
    · rw [h4 j (by omega)]; simp [show ¬ o = j by omega]
    · exact grown_trans (grown_set w g o v) h5
theorem run_clear_row {P : Program} (w : World) (t e ty : TypeId) (z : Value) (ht : P.underlying t = some (.slice e)) (hv : ∀ w, (zeroValue e).run P w = .ok z w) (h1 : ∀ v ∈ z.cells, v.oneCell' = true) (g o n c : Nat) (cur : Array Value)
    (hh : w.heap[g]? = some (.cells cur e (0, 0))) (hn : o + n * z.cells.size ≤ cur.size) :
    ∃ vs, (Builtin.clear_ #[t] ty #[.slice (some ⟨g, o, none⟩) n c]).run P w = .ok (.tuple #[]) (w.setCells g o vs) := by
  cases n with
  | zero => exact ⟨[], by simp [Builtin.clear_, run_underlying ht]; rfl⟩
  | succ m =>
    have hst := run_storeCells_cells (P := P) g o (Builtin.zeroCells z.cells (m + 1)).toList 0 w
      (by intro j hj
          have hj' : j < (m + 1) * z.cells.size := by simpa [Builtin.zeroCells] using hj
          rw [Nat.add_zero, blk_cell hh, Array.getElem?_eq_getElem (by omega)]; rfl)
      (fun j _ => blk_frozen hh _)
      (by intro v hv'
          simp only [Builtin.zeroCells, Array.toList_map, List.mem_map] at hv'
          obtain ⟨i, hi, rfl⟩ := hv'
          have hi' : i < (m + 1) * z.cells.size := by simpa using hi
          have hz : 0 < z.cells.size := by
            rcases Nat.eq_zero_or_pos z.cells.size with h0 | h0
            · rw [h0] at hi'; omega
            · exact h0
          rw [getElem!_pos z.cells _ (Nat.mod_lt _ hz)]
          exact h1 _ (Array.getElem_mem _))
    simp only [Nat.add_zero] at hst
    exact ⟨(Builtin.zeroCells z.cells (m + 1)).toList, by simp [Builtin.clear_, run_underlying ht, hv, hst]⟩
/-- a row whose tail was written, cut before that tail -/
theorem R_cut {α : Type} {d : Kd α} {e : Nat} {w w1 : World} {base : Nat} {ok : Nat → Prop} {g n cap i : Nat} {xs : List α} (h : d.R e w base ok (.slice (some ⟨g, 0, none⟩) n cap) xs) (hi : i ≤ xs.length) (hg : w.grownBy w1 (some g)) {cur cur' : Array Value}
    (h0 : w.heap[g]? = some (.cells cur e (0, 0))) (h1 : w1.heap[g]? = some (.cells cur' e (0, 0))) (hs : cur'.size = cur.size) (hp : ∀ j, j < i * d.sz → cur'[j]? = cur[j]?) :
    d.R e w1 base ok (.slice (some ⟨g, 0, none⟩) i cap) (xs.take i) := by
  obtain ⟨hok, inner, ⟨hlen, ho⟩, hr⟩ := h
  rcases ho with ⟨he, _⟩ | ⟨g', cap', cur0, he, hb, hh, hnc, hcm, hcs, htk⟩
  · cases he
  · cases he
    have hcc : cur0 = cur := by rw [h0] at hh; injection hh with hh; injection hh with hh; exact hh.symm
    subst hcc
    have hle : i * d.sz ≤ xs.length * d.sz := Nat.mul_le_mul_right _ hi
    have hlt : (xs.take i).length = i := by rw [List.length_take]; omega
    have hll : inner.length = xs.length * d.sz := hlen
    refine ⟨hok, inner.take (i * d.sz), ⟨?_, .inr ⟨g, cap, cur', by rw [hlt], hb, h1, by omega, hcm, by rw [hs, hcs], ?_⟩⟩, ?_, ?_⟩
    · rw [List.length_take, hlt]; omega
    · rw [hlt, ← htk, List.take_take, Nat.min_eq_left hle]
      apply List.ext_getElem?
      intro j
      rw [List.getElem?_take, List.getElem?_take]
      split
      · have := hp j (by assumption)
        simpa using this
      · rfl
    · rw [List.length_take, hlt]; omega
    · intro j p hj
      rw [List.getElem?_take] at hj
      split at hj
      · rename_i hji
        have h3 := hr.2 j p hj
        have hjs : j * d.sz + d.sz ≤ i * d.sz := by rw [← Nat.succ_mul]; exact Nat.mul_le_mul_right _ hji
        have e1 : ((inner.take (i * d.sz)).drop (j * d.sz)).take d.sz = (inner.drop (j * d.sz)).take d.sz := by
          rw [List.drop_take, List.take_take, Nat.min_eq_left (by omega)]
        rw [e1]
        refine Kd.M_grown h3 hg (fun k hk => ?_)
        simpa [Value.ownBlock] using hk.2
      · cases hj

theorem R_blk {α : Type} {d : Kd α} {e : Nat} {w : World} {base : Nat} {ok : Nat → Prop} {g n cap : Nat} {xs : List α} (h : d.R e w base ok (.slice (some ⟨g, 0, none⟩) n cap) xs) : ∃ cells, w.heap[g]? = some (.cells cells e (0, 0)) := by
  obtain ⟨_, inner, ⟨_, ho⟩, _⟩ := h
  rcases ho with ⟨he, _⟩ | ⟨g', cap', cur0, he, hb, hh, _⟩
  · cases he
  · cases he; exact ⟨_, hh⟩
theorem R_size {α : Type} {d : Kd α} {e : Nat} {w : World} {base : Nat} {ok : Nat → Prop} {g n cap : Nat} {xs : List α} (h : d.R e w base ok (.slice (some ⟨g, 0, none⟩) n cap) xs) {cells : Array Value} (hc : w.heap[g]? = some (.cells cells e (0, 0))) : cells.size = cap * d.sz ∧ n ≤ cap := by
  obtain ⟨_, inner, ⟨_, ho⟩, _⟩ := h
  rcases ho with ⟨he, _⟩ | ⟨g', cap', cur0, he, hb, hh, h1, h2, h3, _⟩
  · cases he
  · cases he
    rw [hh] at hc; injection hc with hc; injection hc with hc; subst hc
    exact ⟨h3, h1⟩
theorem R_put1 {α : Type} {enc : α → Value} {h1 : ∀ x, (enc x).oneCell' = true} {e : Nat} {w : World} {base : Nat} {ok : Nat → Prop} {g n cap : Nat} {xs : List α} (h : (Kd.scalar enc h1).R e w base ok (.slice (some ⟨g, 0, none⟩) n cap) xs) (i : Nat) (x : α) :
    (Kd.scalar enc h1).R e (w.setCell ⟨g, i, none⟩ (enc x)) base ok (.slice (some ⟨g, 0, none⟩) n cap) (xs.set i x) ∧ w.grownBy (w.setCell ⟨g, i, none⟩ (enc x)) (some g) := by
  obtain ⟨rfl, _, _⟩ := Kd.R_reads' h
  have := Kd.R_put h (i : Int) x
  simpa using this

/-- a row that was made by a literal, read -/
theorem C_cells {α : Type} {d : Kd α} {w : World} {g e : Nat} {cs : Array Value} {xs : List α} (h : w.heap[g]? = some (.cells cs e (0, 0))) (hr : Reps (d.K w) d.sz xs cs.toList) (hl : xs.length ≤ 9223372036854775807) :
    d.C w (some ⟨g, 0, none⟩) xs.length xs := by
  refine ⟨rfl, hl, fun _ => ⟨⟨g, 0, none⟩, rfl, fun j p hj => ?_⟩⟩
  refine ⟨(cs.toList.drop (j * d.sz)).take d.sz, ?_, hr.2 j p hj, fun i u hu => ?_⟩
  · have hjl := (List.getElem?_eq_some_iff.1 hj).1
    have : j * d.sz + d.sz ≤ xs.length * d.sz := by rw [← Nat.succ_mul]; exact Nat.mul_le_mul_right _ hjl
    rw [List.length_take, List.length_drop, hr.1]; omega
  · rw [List.getElem?_take] at hu
    split at hu
    · rw [add_plain, blk_cell h]
      rw [List.getElem?_drop] at hu
      simpa using hu
    · cases hu

/-- a predicate that is handed to what rewrites the row as it goes -/
def PredG (P : Program) (g : Nat) (lb : Array Value) {α : Type} (enc : α → Value) (p : α → Bool) (w : World) (row : Option Nat) (l : List α) : Prop :=
  ∀ (W : World) (x : α), x ∈ l → w.grownBy W row → Calls P g (#[enc x] ++ lb) W fun e w' => e = .returned (.bool (p x)) ∧ Below W.heap.size W w'
theorem grown_below {w w1 : World} (h : Below w.heap.size w w1) (row : Option Nat) : w.grownBy w1 row := grown_of_below h row
theorem PredG.k {P : Program} {g : Nat} {lb : Array Value} {α : Type} {enc : α → Value} {p : α → Bool} {w : World} {row : Option Nat} {l : List α} (h : PredG P g lb enc p w row l) : PredK P g lb enc p w l :=
  fun W x hm hb => h W x hm (grown_of_below hb row)

/-! ### what is kept of a row as slices.DeleteFunc goes through it -/
structure KeptIv {α : Type} (q : α → Bool) (l : List α) (j i : Nat) (dk : List α) : Prop where
  len : dk.length = l.length
  lt : i < j
  le : j ≤ l.length
  low : dk.take i = (l.take j).filter q
  high : dk.drop j = l.drop j
theorem KeptIv.skip {α : Type} {q : α → Bool} {l dk : List α} {j i : Nat} {y : α} (h : KeptIv q l j i dk) (hy : l[j]? = some y) (hq : q y = false) : KeptIv q l (j + 1) i dk := by
  have hj : j < l.length := (List.getElem?_eq_some_iff.1 hy).1
  refine ⟨h.len, by have := h.lt; omega, by omega, ?_, ?_⟩
  · rw [List.take_add_one, hy, List.filter_append, h.low]; simp [hq]
  · have := congrArg (List.drop 1) h.high; simpa [List.drop_drop, Nat.add_comm] using this
theorem KeptIv.keep {α : Type} {q : α → Bool} {l dk : List α} {j i : Nat} {y : α} (h : KeptIv q l j i dk) (hy : l[j]? = some y) (hq : q y = true) : KeptIv q l (j + 1) (i + 1) (dk.set i y) := by
  have hj : j < l.length := (List.getElem?_eq_some_iff.1 hy).1
  have hlt := h.lt
  have hlen := h.len
  refine ⟨by simpa using h.len, by omega, by omega, ?_, ?_⟩
  · have e1 : (dk.set i y).take (i + 1) = dk.take i ++ [y] := by
      rw [List.take_add_one, List.getElem?_set_self (by omega)]
      simp [List.take_set_of_le (Nat.le_refl i)]
    rw [e1, h.low, List.take_add_one, hy, List.filter_append]; simp [hq]
  · rw [List.drop_set_of_lt (by omega)]
    have := congrArg (List.drop 1) h.high; simpa [List.drop_drop, Nat.add_comm] using this
theorem KeptIv.start {α : Type} {q : α → Bool} {l : List α} {k : Nat} {y : α} (h : ∀ x ∈ l.take k, q x = true) (hy : l[k]? = some y) (hq : q y = false) : KeptIv q l (k + 1) k l := by
  have hk : k < l.length := (List.getElem?_eq_some_iff.1 hy).1
  refine ⟨rfl, by omega, by omega, ?_, rfl⟩
  rw [List.take_add_one, hy, List.filter_append, List.filter_eq_self.2 h]; simp [hq]
theorem idxP_cases {α : Type} (p : α → Bool) : ∀ (l : List α) (i : Nat), (idxP p l i = -1 ∧ ∀ x ∈ l, p x = false) ∨ ∃ k y, idxP p l i = ((i + k : Nat) : Int) ∧ l[k]? = some y ∧ p y = true ∧ ∀ x ∈ l.take k, p x = false
  | [], i => .inl ⟨rfl, by simp⟩
  | x :: l, i => by
    cases h : p x with
    | true => exact .inr ⟨0, x, by simp [idxP, h], by simp, h, by simp⟩
    | false =>
      rcases idxP_cases p l (i + 1) with ⟨e, ha⟩ | ⟨k, y, e, hy, hp, ha⟩
      · exact .inl ⟨by simp [idxP, h, e], by simpa [h] using ha⟩
      · exact .inr ⟨k + 1, y, by rw [idxP, if_neg (by rw [h]; decide), e]; congr 1; omega, by simpa using hy, hp, by simpa [h] using ha⟩
end Go.Proofs.Ytdanihbbnepjpaa.H
namespace Go.Proofs.Ytdanihbbnepjpaa.H
open Go.RowKit Go.Proofs.YtdanihbbnepjpaaW.PrintWords
set_option linter.unusedVariables false

/-- no longer than the model's longest text -/
def bStr (s : ByteArray) : Prop := s.size ≤ 9223372036854775807
/-- What an argument of a type holds, read as the kind kd; B: how long its texts are. -/
structure Opens {α : Type} (P : Program) (t : TypeId) (kd : Kd α) (B : α → Prop) : Prop where
  size : P.cellsOf t = kd.sz
  opened : ∀ {H : Type} {enc : TypeId × Value → H} {w : World} {base : Nat} {sp : Nat → Bool} {held : Bool} {fuel : Nat} {cs : List Value} {x : DataW H × List MemPlace},
    DataW.trod enc P w base sp held fuel t cs = some x → ∃ a, kd.K w a cs ∧ B a
theorem Opens.as {α : Type} {P : Program} {t : TypeId} {kd : Kd α} {B B' : α → Prop} (h : Opens P t kd B) (hB : ∀ a, B a → B' a) : Opens P t kd B' :=
  ⟨h.size, fun hx => by obtain ⟨a, ha, hb⟩ := h.opened hx; exact ⟨a, ha, hB a hb⟩⟩

theorem opens_bool {P : Program} {t : TypeId} (ht : P.underlying t = some .bool) (hs : P.cellsOf t = 1) : Opens P t Kd.bool (fun _ => True) :=
  ⟨hs, fun h => by obtain ⟨b, rfl, _⟩ := DataW.trod_bool ht h; exact ⟨b, rfl, trivial⟩⟩
theorem opens_int {P : Program} {t : TypeId} {k : IntKind} (ht : P.underlying t = some (.int k)) (hs : P.cellsOf t = 1) : Opens P t (Kd.int k) (fun _ => True) :=
  ⟨hs, fun h => by obtain ⟨b, rfl, _⟩ := DataW.trod_int ht h; exact ⟨b, rfl, trivial⟩⟩
theorem opens_string {P : Program} {t : TypeId} (ht : P.underlying t = some .string) (hs : P.cellsOf t = 1) : Opens P t Kd.string bStr :=
  ⟨hs, fun h => by obtain ⟨b, rfl, _, hb⟩ := DataW.trod_string ht h; exact ⟨b, rfl, hb⟩⟩
theorem list_of {α : Type} (p : Nat → α → Prop) : ∀ n : Nat, (∀ i, i < n → ∃ y, p i y) → ∃ l : List α, l.length = n ∧ ∀ i y, l[i]? = some y → p i y
  | 0, _ => ⟨[], rfl, fun i y h => by simp at h⟩
  | n + 1, h => by
    obtain ⟨l, hl, hp⟩ := list_of p n (fun i hi => h i (by omega))
    obtain ⟨y, hy⟩ := h n (by omega)
    refine ⟨l ++ [y], by simp [hl], fun i z hz => ?_⟩
    rcases Nat.lt_trichotomy i n with hi | rfl | hi
    · rw [List.getElem?_append_left (by omega)] at hz
      exact hp i z hz
    · rw [List.getElem?_append_right (by omega), hl, Nat.sub_self] at hz
      simp at hz
      subst hz
      exact hy
    · rw [List.getElem?_eq_none (by simp [hl]; omega)] at hz
      simp at hz
theorem addr_add_add (a : Addr) (i j : Nat) : (a.add i).add j = a.add (i + j) := by
  unfold Addr.add
  by_cases hi : i = 0 <;> by_cases hj : j = 0 <;> simp [hi, hj, Nat.add_assoc]
theorem opens_slice {α : Type} {P : Program} {t e : TypeId} {kd : Kd α} {B : α → Prop} (ht : P.underlying t = some (.slice e)) (hs : P.cellsOf t = 1) (he : Opens P e kd B) (q : Nat) : Opens P t (Kd.slice q kd) (fun l => l.length ≤ 9223372036854775807 ∧ ∀ y ∈ l, B y) := by
  refine ⟨hs, fun {H enc w base sp held fuel cs x} h => ?_⟩
  rcases DataW.trod_slice ht h with ⟨rfl, _⟩ | ⟨a, len, cap, elems, rest, n, _, rfl, _, _, hl, hm, hlen, hel, _⟩
  · exact ⟨[], ⟨none, 0, rfl, Nat.le_refl _, rfl, by simp, fun h => absurd h (by simp)⟩, by simp, by simp⟩
  · obtain ⟨l, hll, hp⟩ := list_of (fun i y => B y ∧ ∃ c, c.length = kd.sz ∧ kd.K w y c ∧ ∀ j u, c[j]? = some u → w.cell? (a.add (i * kd.sz + j)) = some u) len (fun i hi => by
      have h1 := hel i hi
      rw [List.getElem?_eq_getElem (by omega)] at h1
      obtain ⟨cs', h2, h3⟩ := Option.bind_eq_some_iff.1 h1
      obtain ⟨y, hy, hby⟩ := he.opened h3
      obtain ⟨_, h4, h5⟩ := World.cells?_some h2
      refine ⟨y, hby, cs', by rw [h4, he.size], hy, fun j u hu => ?_⟩
      have hj : j < P.cellsOf e := by rw [← h4]; exact (List.getElem?_eq_some_iff.1 hu).1
      rw [← addr_add_add, ← he.size, h5 j hj, hu])
    subst hll
    refine ⟨l, ⟨some a, cap, rfl, hl, rfl, Nat.le_trans hl (Nat.le_trans hm (by decide)), fun _ => ⟨a, rfl, fun j p hj => (hp j p hj).2⟩⟩, Nat.le_trans hl (Nat.le_trans hm (by decide)), fun y hy => ?_⟩
    obtain ⟨i, hi, rfl⟩ := List.mem_iff_getElem.1 hy
    exact (hp i _ (List.getElem?_eq_getElem hi)).1
theorem opens_iso {α β : Type} {P : Program} {t : TypeId} {kd : Kd α} {B : α → Prop} (h : Opens P t kd B) (f : β → α) (hf : ∀ b, ∃ a, f a = b) : Opens P t (Kd.iso kd f) (fun b => B (f b)) :=
  ⟨h.size, fun hx => by obtain ⟨a, ha⟩ := h.opened hx; obtain ⟨b, rfl⟩ := hf a; exact ⟨b, ha⟩⟩

/-- The fields of a struct from the offset o on. -/
structure OpensL {α : Type} (P : Program) (fs : List Field) (o : Nat) (kd : Kd α) (B : α → Prop) : Prop where
  opened : ∀ {H : Type} {enc : TypeId × Value → H} {w : World} {base : Nat} {sp : Nat → Bool} {held : Bool} {fuel : Nat} (cs : List Value), cs.length = o + kd.sz →
    (∀ f ∈ fs, ∃ x, DataW.trod enc P w base sp held fuel f.type ((cs.drop f.offset).take (P.cellsOf f.type)) = some x) → ∃ a, kd.K w a (cs.drop o) ∧ B a
theorem opensL_one {α : Type} {P : Program} {f : Field} {o : Nat} {kd : Kd α} {B : α → Prop} (ho : f.offset = o) (h : Opens P f.type kd B) : OpensL P [f] o kd B := by
  refine ⟨fun {H enc w base sp held fuel} cs hcs hf => ?_⟩
  obtain ⟨x, hx⟩ := hf f (by simp)
  obtain ⟨a, ha, hb⟩ := h.opened hx
  rw [ho, h.size, List.take_of_length_le (by simp [hcs])] at ha
  exact ⟨a, ha, hb⟩
theorem opensL_cons {α β : Type} {P : Program} {f : Field} {fs : List Field} {o : Nat} {kd : Kd α} {kd' : Kd β} {B : α → Prop} {B' : β → Prop} (ho : f.offset = o) (h : Opens P f.type kd B) (hr : OpensL P fs (o + kd.sz) kd' B') : OpensL P (f :: fs) o (Kd.pair kd kd') (fun p => B p.1 ∧ B' p.2) := by
  refine ⟨fun {H enc w base sp held fuel} cs hcs hf => ?_⟩
  obtain ⟨x, hx⟩ := hf f (by simp)
  obtain ⟨a, ha, hba⟩ := h.opened hx
  have hcs' : cs.length = o + kd.sz + kd'.sz := by rw [hcs]; show o + (kd.sz + kd'.sz) = _; omega
  obtain ⟨b, hb, hbb⟩ := hr.opened cs hcs' (fun g hg => hf g (by simp [hg]))
  rw [ho, h.size] at ha
  refine ⟨(a, b), ⟨(cs.drop o).take kd.sz, (cs.drop (o + kd.sz)), ?_, ha, hb⟩, hba, hbb⟩
  rw [← List.drop_drop, List.take_append_drop]
theorem opens_struct {α : Type} {P : Program} {t : TypeId} {fs : List Field} {kd : Kd α} {B : α → Prop} (ht : P.underlying t = some (.struct ⟨fs⟩)) (hs : P.cellsOf t = kd.sz) (h : OpensL P fs 0 kd B) : Opens P t kd B := by
  refine ⟨hs, fun {H enc w base sp held fuel cs x} hx => ?_⟩
  obtain ⟨xs, n, _, _, hl, hlen, hf⟩ := DataW.trod_struct ht hx
  obtain ⟨a, ha, hb⟩ := h.opened (enc := enc) (w := w) (base := base) (sp := sp) (held := held) (fuel := n) cs (by rw [hl, hs]; omega) (fun f hfm => by
    obtain ⟨i, hi, rfl⟩ := List.mem_iff_getElem.1 hfm
    have h1 := hf i fs[i] (by simp [hi])
    exact ⟨xs[i]'(by rw [hlen]; simpa using hi), by rw [h1, List.getElem?_eq_getElem]⟩)
  exact ⟨a, by simpa using ha, hb⟩
theorem opens_isoL {α β : Type} {P : Program} {fs : List Field} {o : Nat} {kd : Kd α} {B : α → Prop} (h : OpensL P fs o kd B) (f : β → α) (hf : ∀ b, ∃ a, f a = b) : OpensL P fs o (Kd.iso kd f) (fun b => B (f b)) := by
  refine ⟨fun {H enc w base sp held fuel} cs hcs hx => ?_⟩
  obtain ⟨a, ha⟩ := h.opened cs hcs hx
  obtain ⟨b, rfl⟩ := hf a
  exact ⟨b, ha⟩
/-- an argument's value, opened -/
theorem Opens.argB {α : Type} {P : Program} {t : TypeId} {kd : Kd α} {B : α → Prop} (h : Opens P t kd B) {H : Type} {enc : TypeId × Value → H} {w : World} {base : Nat} {sp : Nat → Bool} {held : Bool} {v : Value} {d : DataW H} {ps : List MemPlace}
    (hv : DataW.Trod enc P w base sp held t v d ps) : ∃ a, kd.K w a v.cells.toList ∧ B a := by
  obtain ⟨fuel, hf⟩ := hv
  exact h.opened hf
theorem Opens.arg {α : Type} {P : Program} {t : TypeId} {kd : Kd α} {B : α → Prop} (h : Opens P t kd B) {H : Type} {enc : TypeId × Value → H} {w : World} {base : Nat} {sp : Nat → Bool} {held : Bool} {v : Value} {d : DataW H} {ps : List MemPlace}
    (hv : DataW.Trod enc P w base sp held t v d ps) : ∃ a, kd.K w a v.cells.toList := by
  obtain ⟨a, ha, _⟩ := h.argB hv
  exact ⟨a, ha⟩
/-- An argument's row is no longer than its weight allows. -/
theorem sized_row {H : Type} {enc : TypeId × Value → H} {P : Program} {W : World} {base : Nat} {spare : Nat → Bool} {held : Bool} {t e : TypeId} {a : Option Addr} {len cap : Nat} {d : DataW H} {ps : List MemPlace} {ts : List TypeId} {ds : List (DataW H)} {j : Nat}
    (hsz : (DataW.weightsEach P ts ds).all (· ≤ reachBytes) = true) (ht : ts[j]? = some t) (hd : ds[j]? = some d) (hu : P.underlying t = some (.slice e)) {B : Nat} (hB : P.bytesOf e = B)
    (h : DataW.Trod enc P W base spare held t (.slice a len cap) d ps) : len * B ≤ 140737488351232 := by
  obtain ⟨fuel, hf⟩ := h
  rcases DataW.trod_slice hu hf with ⟨hcs, _⟩ | ⟨x, l, c, elems, rest, n, _, hcs, hx, _, hl, _, hlen, _⟩
  · simp [Value.cells] at hcs
    obtain ⟨rfl, rfl, rfl⟩ := hcs
    simp
  · simp [Value.cells] at hcs
    obtain ⟨rfl, rfl, rfl⟩ := hcs
    obtain ⟨rfl, _⟩ := Prod.mk.inj hx
    have z := sized_slice hsz ht hd hu
    rw [hB, List.length_map, List.length_map, hlen] at z
    exact Nat.le_trans (Nat.mul_le_mul_right _ (Nat.le_add_right _ _)) z
def bVal (x : Val) : Prop := True ∧ bStr (x.sym) ∧ True
theorem opens_Val : Opens Try.prog 24 k24 bVal :=
  Opens.as (opens_struct Try.underlying24 (by kernel_rfl) (opens_isoL (opensL_cons rfl (opens_bool (by kernel_rfl) (by kernel_rfl)) (opensL_cons rfl (opens_string (by kernel_rfl) (by kernel_rfl)) (opensL_one rfl (opens_int (by kernel_rfl) (by kernel_rfl))))) _ (fun b => ⟨⟨b.1, b.2.1, b.2.2⟩, rfl⟩))) (fun _ h => h)
def bTerm (x : Term) : Prop := True ∧ bStr (x.name) ∧ bVal (x.val)
theorem opens_Term : Opens Try.prog 49 k49 bTerm :=
  Opens.as (opens_struct Try.underlying49 (by kernel_rfl) (opens_isoL (opensL_cons rfl (opens_bool (by kernel_rfl) (by kernel_rfl)) (opensL_cons rfl (opens_string (by kernel_rfl) (by kernel_rfl)) (opensL_one rfl opens_Val))) _ (fun b => ⟨⟨b.1, b.2.1, b.2.2⟩, rfl⟩))) (fun _ h => h)
def bAtom (x : Atom) : Prop := bStr (x.pred) ∧ (x.args.length ≤ 9223372036854775807 ∧ ∀ y ∈ x.args, bTerm (y))
theorem opens_Atom : Opens Try.prog 46 k46 bAtom :=
  Opens.as (opens_struct Try.underlying46 (by kernel_rfl) (opens_isoL (opensL_cons rfl (opens_string (by kernel_rfl) (by kernel_rfl)) (opensL_one rfl (opens_slice (by kernel_rfl) (by kernel_rfl) opens_Term 49))) _ (fun b => ⟨⟨b.1, b.2⟩, rfl⟩))) (fun _ h => h)
def bLiter (x : Liter) : Prop := True ∧ bAtom (x.atom) ∧ bStr (x.op) ∧ bTerm (x.l) ∧ bTerm (x.r)
theorem opens_Liter : Opens Try.prog 58 k58 bLiter :=
  Opens.as (opens_struct Try.underlying58 (by kernel_rfl) (opens_isoL (opensL_cons rfl (opens_int (by kernel_rfl) (by kernel_rfl)) (opensL_cons rfl opens_Atom (opensL_cons rfl (opens_string (by kernel_rfl) (by kernel_rfl)) (opensL_cons rfl opens_Term (opensL_one rfl opens_Term))))) _ (fun b => ⟨⟨b.1, b.2.1, b.2.2.1, b.2.2.2.1, b.2.2.2.2⟩, rfl⟩))) (fun _ h => h)
def bPair (x : Pair) : Prop := bStr (x.name) ∧ bVal (x.val)
theorem opens_Pair : Opens Try.prog 41 k41 bPair :=
  Opens.as (opens_struct Try.underlying41 (by kernel_rfl) (opens_isoL (opensL_cons rfl (opens_string (by kernel_rfl) (by kernel_rfl)) (opensL_one rfl opens_Val)) _ (fun b => ⟨⟨b.1, b.2⟩, rfl⟩))) (fun _ h => h)
def bRPair (x : RPair) : Prop := bStr (x.name) ∧ bVal (x.val)
theorem opens_RPair : Opens Try.prog 69 k69 bRPair :=
  Opens.as (opens_struct Try.underlying69 (by kernel_rfl) (opens_isoL (opensL_cons rfl (opens_string (by kernel_rfl) (by kernel_rfl)) (opensL_one rfl opens_Val)) _ (fun b => ⟨⟨b.1, b.2⟩, rfl⟩))) (fun _ h => h)
end Go.Proofs.Ytdanihbbnepjpaa.H
namespace Go.Proofs.Ytdanihbbnepjpaa.H
open Go.RowKit
set_option linter.unusedVariables false
theorem ord_inj {a b : ByteArray} (h : toL a = toL b) : a = b := by rw [← ofL_toL a, ← ofL_toL b, h]
theorem ord_less (a b : ByteArray) : Op.bytesLess a.toList b.toList = true ↔ toL a < toL b := by
  rw [Proofs.bytesLess_eq, ByteArray.toList_eq, ByteArray.toList_eq, decide_eq_true_iff]
  rfl
theorem ord_three (a b : ByteArray) : toL a < toL b ∨ a = b ∨ toL b < toL a := by
  by_cases h : toL a < toL b
  · exact .inl h
  · rcases List.le_iff_lt_or_eq.1 (List.not_lt.1 h) with h | h
    · exact .inr (.inr h)
    · exact .inr (.inl (ord_inj h.symm))
end Go.Proofs.Ytdanihbbnepjpaa.H
namespace Go.Proofs.Ytdanihbbnepjpaa.H
/-- what a name stands for -/
def getOf (e : List Pair) (s : ByteArray) : Option Val := (e.find? fun p => decide (p.name = s)).map (·.val)
def bareOf (v : Val) : Val := if v.isSym then ⟨true, v.sym, 0⟩ else ⟨false, ⟨#[]⟩, v.n⟩
/-- is a text behind another one -/
def after (a b : ByteArray) : Bool := Go.Op.bytesLess b.toList a.toList
def dropOf (e : List Pair) (s : ByteArray) : List Pair := e.filter fun p => !decide (p.name = s)
/-- a name that stands for a value, as the program has it -/
def withOf (e : List Pair) (s : ByteArray) (v : Val) : List Pair :=
  ((dropOf e s).takeWhile fun p => !after p.name s) ++ ⟨s, bareOf v⟩ :: ((dropOf e s).dropWhile fun p => !after p.name s)
end Go.Proofs.Ytdanihbbnepjpaa.H
namespace Go.Proofs.Ytdanihbbnepjpaa.H
open Go.RowKit Go.Proofs.YtdanihbbnepjpaaW.PrintWords Go.Proofs.YtdanihbbnepjpaaW.PrintLast Go.Proofs.YtdanihbbnepjpaaW.PrintMore
set_option linter.unusedVariables false
set_option maxHeartbeats 4000000 in
/-- slices.IndexFunc, a struct -/
theorem IndexFuncPair (g : Nat) (lb : Array Value) (eg : ∀ args w, (callFunc g args).run Try.prog w = .ok (.enter g args) w) (p : Pair → Bool)
    (A0 : Option Addr) (c0 : Nat) (l0 : List Pair) (w : World) (hr0 : Kd.C k41 w A0 l0.length l0) (hp : PredA Try.prog g lb k41 p w l0) :
    Calls Try.prog 31 #[.slice A0 l0.length c0, .func (.func g) #[] lb] w fun e w' => e = .returned (.int .i64 (idxP p l0 0)) ∧ Below w.heap.size w w' := by
  have HR := Aside0.mk hr0
  have HP := Aside0.mk hp
  have hl : l0.length ≤ 9223372036854775807 := hr0.2.1
  clear hr0 hp
  go_enter Try.func31, Try.ntmps31
  go_wp2
  go_loopg [5, 8] l0.length (fun gg _ s8 wr => ∃ kk : Nat, kk ≤ l0.length ∧ l0.length - kk ≤ gg ∧ s8 = .int .i64 kk ∧ Aside0 (Below w.heap.size w wr) ∧ Aside0 (idxP p l0 0 = idxP p (l0.drop kk) kk))
  case atStart => exact ⟨0, Nat.zero_le _, by omega, rfl, ⟨Below.refl _ w⟩, ⟨rfl⟩⟩
  case round =>
    obtain ⟨kk, hkk, hg, rfl, BW, A⟩ := hrel
    by_cases hlt : kk < l0.length
    · have hltz : (kk : Int) < (l0.length : Int) := by omega
      obtain ⟨y, hy⟩ := at_some hlt
      have hat := at_Pair HR.out hy
      have HA := Aside0.mk (A.out.trans (by rw [drop_cons hy]))
      have hym := List.mem_of_getElem? hy
      clear A hy
      obtain ⟨ad, e1, hx0, hx1, hx2, hx3⟩ := hat
      cases e1
      replace hx0 := Below.old BW.out hx0; replace hx1 := Below.old BW.out hx1; replace hx2 := Below.old BW.out hx2; replace hx3 := Below.old BW.out hx3
      have hcall := HP.out wr y [.string y.name, .bool y.val.isSym, .string y.val.sym, .int .i64 y.val.n] hym BW.out (k41_mk wr y )
      cases hq : p y with
      | true =>
        rw [hq] at hcall
        go_wp2_with (go_at_fn g; refine hcall.mono ?_; rintro e w' ⟨rfl, hb'⟩)
        go_ret
        exact ⟨by rw [HA.out, idxP, if_pos hq]; rfl, Below.then BW.out hb'⟩
      | false =>
        rw [hq] at hcall
        go_wp2_with (go_at_fn g; refine hcall.mono ?_; rintro e w' ⟨rfl, hb'⟩)
        go_roundg (l0.length - (kk + 1))
        case measure => omega
        case rel => exact ⟨kk + 1, by omega, by omega, by go_num, ⟨Below.then BW.out hb'⟩, ⟨by rw [HA.out, idxP, if_neg (by rw [hq]; decide)]⟩⟩
    · have hltz : ¬ (kk : Int) < (l0.length : Int) := by omega
      obtain rfl : kk = l0.length := by omega
      go_wp2
      go_ret
      exact ⟨by rw [A.out]; simp [idxP], BW.out⟩
theorem bcell {W w1 : World} (hb : Below W.heap.size W w1) : (∀ b o, b < W.heap.size → w1.cell? ⟨b, o, none⟩ = W.cell? ⟨b, o, none⟩) ∧ (∀ b o, b < W.heap.size → w1.frozen? ⟨b, o, none⟩ = W.frozen? ⟨b, o, none⟩) :=
  ⟨fun b o h => hb.cell (p := ⟨b, o, none⟩) h, fun b o h => hb.frozen (p := ⟨b, o, none⟩) h⟩
theorem get1 (w : World) (B : Nat) (s : ByteArray) (l : List Pair) (h1 : w.cell? ⟨B, 0, none⟩ = some (.string s)) :
    PredA Try.prog 32 #[.pointer (some ⟨B, 0, none⟩)] k41 (fun p => decide (p.name = s)) w l := by
  intro W x cs _ hb hK
  have hu := Try.underlying41
  obtain rfl := k41_open hK
  have e1 := Below.old hb h1
  have hB : B < W.heap.size := World.block_lt_of_cell? _ _ e1
  clear h1 hb hK
  by_cases hq : x.name = s
  · obtain ⟨q1, q2⟩ := ba_beq hq
    have HQ := Aside0.mk hq
    clear hq
    go_enter Try.func32, Try.ntmps32
    go_wp2
    go_ret
    exact ⟨by simp [HQ.out], below_alloc (Below.refl _ _) _⟩
  · obtain ⟨q1, q2⟩ := ba_bne hq
    have HQ := Aside0.mk hq
    clear hq
    go_enter Try.func32, Try.ntmps32
    go_wp2
    go_ret
    exact ⟨by simp [HQ.out], below_alloc (Below.refl _ _) _⟩
theorem idxP_find {α : Type} (p : α → Bool) : ∀ (l : List α) (i : Nat), (idxP p l i = -1 ∧ l.find? p = none) ∨ ∃ (k : Nat) (y : α), idxP p l i = ((i + k : Nat) : Int) ∧ l[k]? = some y ∧ l.find? p = some y
  | [], i => .inl ⟨rfl, rfl⟩
  | x :: l, i => by
    unfold idxP
    by_cases h : p x = true
    · exact .inr ⟨0, x, by simp [h], rfl, by simp [h]⟩
    · rcases idxP_find p l (i + 1) with ⟨h1, h2⟩ | ⟨k, y, h1, h2, h3⟩
      · exact .inl ⟨by simp [h, h1], by simp [h, h2]⟩
      · exact .inr ⟨k + 1, y, by rw [if_neg h, h1]; omega, by simpa using h2, by simp [h, h3]⟩
set_option maxHeartbeats 1000000 in
theorem subst_Get (w : World) (A0 : Option Addr) (c0 : Nat) (l0 : List Pair) (s : ByteArray) (hr : Kd.C k41 w A0 l0.length l0) :
    Calls Try.prog 12 #[.slice A0 l0.length c0, .string s] w fun e w' => (match getOf l0 s with
      | some v => e = .returned (.tuple #[.agg #[.bool v.isSym, .string v.sym, .int .i64 v.n], .bool true])
      | none => e = .returned (.tuple #[.agg #[.bool false, .string ⟨#[]⟩, .int .i64 0], .bool false])) ∧ Below w.heap.size w w' := by
  have hu := Try.underlying41
  have hu2 := Try.underlying24
  have HR := Aside0.mk hr
  clear hr
  have eg := enters_of Try.func32 (by kernel_rfl) rfl
  rcases idxP_find (fun p : Pair => decide (p.name = s)) l0 0 with ⟨h1, h2⟩ | ⟨k, y, h1, h2, h3⟩
  · have E : getOf l0 s = none := by simp [getOf, h2]
    rw [E]
    have H1 := Aside0.mk h1
    clear h1 h2 E
    go_enter Try.func12, Try.ntmps12
    go_wp2_with (go_at_call 31; go_must (refine (IndexFuncPair 32 #[.pointer (some ⟨w.heap.size, 0, none⟩)] eg (fun p => decide (p.name = s)) _ _ _ _ (Kd.C_alloc (Kd.C_alloc HR.out _) _) (get1 _ _ _ _ (by go_simp))).mono ?_); rintro e w1 ⟨rfl, hb⟩; rw [H1.out]; obtain ⟨hc, hf⟩ := bcell hb; have HB := Aside0.mk (Below.then (below_alloc (below_alloc (Below.refl w.heap.size w) _) _) hb); have hz : w.heap.size + 1 < w1.heap.size := (by have := hb.size; simp at this; omega))
    exact bodyPost_ret (v := .tuple #[.agg #[.bool false, .string ⟨#[]⟩, .int .i64 0], .bool false]) (by simp [results, Try.results12, go_sem, hc]) rfl ⟨rfl, below_set (below_set (below_set HB.out (Nat.le_succ _)) (Nat.le_succ _)) (Nat.le_succ _)⟩
  · have E : getOf l0 s = some y.val := by simp [getOf, h3]
    have H1 := Aside0.mk h1
    rw [E]
    obtain ⟨ad, e1, hx0, hx1, hx2, hx3⟩ := at_Pair HR.out h2
    cases e1
    have hk : (0 : Int) ≤ (k : Int) := by omega
    have hkl := (List.getElem?_eq_some_iff.1 h2).1
    clear h1 h2 h3 E
    go_enter Try.func12, Try.ntmps12
    go_wp2_with (go_at_call 31; go_must (refine (IndexFuncPair 32 #[.pointer (some ⟨w.heap.size, 0, none⟩)] eg (fun p => decide (p.name = s)) _ _ _ _ (Kd.C_alloc (Kd.C_alloc HR.out _) _) (get1 _ _ _ _ (by go_simp))).mono ?_); rintro e w1 ⟨rfl, hb⟩; rw [H1.out, Nat.zero_add]; obtain ⟨hc, hf⟩ := bcell hb; have HB := Aside0.mk (Below.then (below_alloc (below_alloc (Below.refl w.heap.size w) _) _) hb); have hz : w.heap.size + 1 < w1.heap.size := (by have := hb.size; simp at this; omega); replace hx0 := Below.old HB.out hx0; replace hx1 := Below.old HB.out hx1; replace hx2 := Below.old HB.out hx2; replace hx3 := Below.old HB.out hx3)
    exact bodyPost_ret (v := .tuple #[.agg #[.bool y.val.isSym, .string y.val.sym, .int .i64 y.val.n], .bool true]) (by simp [results, Try.results12, go_sem, hc]) rfl ⟨rfl, below_set (below_set (below_set HB.out (Nat.le_succ _)) (Nat.le_succ _)) (Nat.le_succ _)⟩
end Go.Proofs.Ytdanihbbnepjpaa.H
namespace Go.Proofs.Ytdanihbbnepjpaa.H
open Go.RowKit Go.Proofs.YtdanihbbnepjpaaW.PrintWords Go.Proofs.YtdanihbbnepjpaaW.PrintLast Go.Proofs.YtdanihbbnepjpaaW.PrintMore
def subst_Env_Get.f (l : List Pair) (s : ByteArray) : Option (Bool × ByteArray × Int × Bool) := some (match getOf l s with
  | some v => (v.isSym, v.sym, v.n, true)
  | none => (false, ⟨#[]⟩, 0, false))
theorem subst_Env_Get.calls (A0 : Option Addr) (c0 : Nat) (l0 : List Pair) (a1 : ByteArray) (r1 : Bool) (r2 : ByteArray) (r3 : Int) (r4 : Bool) (w : World) (hr0 : Kd.C k41 w A0 l0.length l0) (_ : l0.length ≤ c0)
    (h : subst_Env_Get.f l0 a1 = some (r1, r2, r3, r4)) :
    Calls Try.prog 12 #[.slice A0 l0.length c0, .string a1] w fun e w' => e = .returned (.tuple #[.agg #[.bool r1, .string r2, .int .i64 r3], .bool r4]) ∧ Below w.heap.size w w' := by
  refine (subst_Get w A0 c0 l0 a1 hr0).mono ?_
  rintro e w' ⟨h1, h2⟩
  unfold subst_Env_Get.f at h
  cases hg : getOf l0 a1 with
  | none => rw [hg] at h h1; cases h; exact ⟨h1, h2⟩
  | some v => rw [hg] at h h1; cases h; exact ⟨h1, h2⟩
end Go.Proofs.Ytdanihbbnepjpaa.H
namespace Go.Proofs.Ytdanihbbnepjpaa.H
open Go.RowKit Go.Proofs.YtdanihbbnepjpaaW.PrintWords Go.Proofs.YtdanihbbnepjpaaW.PrintLast Go.Proofs.YtdanihbbnepjpaaW.PrintMore
set_option linter.unusedVariables false
/-- A kind of elements whose cells are told by the element alone (no rows inside). -/
structure Flat {α : Type} (d : Kd α) (c : α → List Value) : Prop where
  M : ∀ {w base ok x cs}, d.M w base ok x cs ↔ cs = c x
  K : ∀ {w x cs}, d.K w x cs ↔ cs = c x
  len : ∀ x, (c x).length = d.sz
  one : ∀ x, ∀ u ∈ c x, u.oneCell' = true
  pos : 0 < d.sz
section
variable {α : Type} {d : Kd α} {c : α → List Value}
theorem Flat.flen (F : Flat d c) : ∀ xs : List α, (xs.flatMap c).length = xs.length * d.sz
  | [] => by simp
  | x :: xs => by rw [List.flatMap_cons, List.length_append, F.len, F.flen xs, List.length_cons, Nat.succ_mul, Nat.add_comm]
theorem Flat.fone (F : Flat d c) (xs : List α) : ∀ u ∈ xs.flatMap c, u.oneCell' = true := fun u hu => by
  obtain ⟨x, _, hx⟩ := List.mem_flatMap.1 hu
  exact F.one x u hx
theorem Flat.fdrop (F : Flat d c) : ∀ (xs : List α) (i : Nat), (xs.flatMap c).drop (i * d.sz) = (xs.drop i).flatMap c
  | xs, 0 => by simp
  | [], i + 1 => by simp
  | x :: xs, i + 1 => by
    rw [List.flatMap_cons, List.drop_append, F.len, List.drop_eq_nil_of_le (by rw [F.len, Nat.succ_mul]; omega), List.nil_append, List.drop_succ_cons, ← F.fdrop xs i]
    congr 1
    rw [Nat.succ_mul]; omega
theorem Flat.ftake (F : Flat d c) : ∀ (xs : List α) (i : Nat), (xs.flatMap c).take (i * d.sz) = (xs.take i).flatMap c
  | xs, 0 => by simp
  | [], i + 1 => by simp
  | x :: xs, i + 1 => by
    rw [List.flatMap_cons, List.take_append, F.len, List.take_of_length_le (by rw [F.len, Nat.succ_mul]; omega), List.take_succ_cons, List.flatMap_cons, ← F.ftake xs i]
    congr 2
    rw [Nat.succ_mul]; omega
theorem Flat.fget (F : Flat d c) {xs : List α} {i : Nat} {x : α} (h : xs[i]? = some x) : ((xs.flatMap c).drop (i * d.sz)).take d.sz = c x := by
  rw [F.fdrop, drop_cons h, List.flatMap_cons, List.take_append_of_le_length (by rw [F.len]; exact Nat.le_refl _), List.take_of_length_le (by rw [F.len]; exact Nat.le_refl _)]
theorem Flat.reps (F : Flat d c) {R : α → List Value → Prop} (hR : ∀ x cs, R x cs ↔ cs = c x) : ∀ {xs : List α} {inner : List Value}, Reps R d.sz xs inner ↔ inner = xs.flatMap c := by
  intro xs inner
  constructor
  · intro h
    apply List.ext_getElem?
    intro q
    by_cases hq : q < xs.length * d.sz
    · have hi : q / d.sz < xs.length := (Nat.div_lt_iff_lt_mul F.pos).2 hq
      have h1 := (hR _ _).1 (h.2 (q / d.sz) _ (List.getElem?_eq_getElem hi))
      have h2 := F.fget (List.getElem?_eq_getElem hi)
      have e : ∀ l : List Value, ((l.drop (q / d.sz * d.sz)).take d.sz)[q % d.sz]? = l[q]? := fun l => by
        rw [List.getElem?_take, if_pos (Nat.mod_lt _ F.pos), List.getElem?_drop, Nat.mul_comm, Nat.div_add_mod]
      rw [← e inner, ← e (xs.flatMap c), h1, h2]
    · rw [List.getElem?_eq_none (by rw [h.1]; omega), List.getElem?_eq_none (by rw [F.flen]; omega)]
  · rintro rfl
    exact ⟨F.flen xs, fun j p hj => (hR _ _).2 (F.fget hj)⟩
/-- what a row of one's own is, told by its block -/
structure Blk (d : Kd α) (c : α → List Value) (e : Nat) (w : World) (base : Nat) (ok : Nat → Prop) (g n cap : Nat) (xs : List α) (cur : Array Value) : Prop where
  len : n = xs.length
  okg : ok g
  bas : base ≤ g
  heap : w.heap[g]? = some (.cells cur e (0, 0))
  le : n ≤ cap
  max : cap ≤ maxLen
  size : cur.size = cap * d.sz
  take : cur.toList.take (n * d.sz) = xs.flatMap c
theorem Flat.blk (F : Flat d c) {e : Nat} {w : World} {base : Nat} {ok : Nat → Prop} {g n cap : Nat} {xs : List α} (h : d.R e w base ok (.slice (some ⟨g, 0, none⟩) n cap) xs) : ∃ cur, Blk d c e w base ok g n cap xs cur := by
  obtain ⟨hn, _, _⟩ := Kd.R_reads' h
  obtain ⟨hok, inner, ⟨hlen, ho⟩, hr⟩ := h
  rcases ho with ⟨he, _⟩ | ⟨g', cap', cur, he, hb, hh, hnc, hcm, hcs, htk⟩
  · cases he
  · cases he
    exact ⟨cur, hn, hok g rfl, hb, hh, by omega, hcm, hcs, by rw [hn, htk]; exact (F.reps (fun _ _ => F.M)).1 hr⟩
theorem Flat.row (F : Flat d c) {e : Nat} {w : World} {base : Nat} {ok : Nat → Prop} {g n cap : Nat} {xs : List α} {cur : Array Value} (h : Blk d c e w base ok g n cap xs cur) : d.R e w base ok (.slice (some ⟨g, 0, none⟩) n cap) xs := by
  have hn := h.len
  subst hn
  refine ⟨fun k hk => ?_, xs.flatMap c, ⟨F.flen xs, .inr ⟨g, cap, cur, rfl, h.bas, h.heap, h.le, h.max, h.size, h.take⟩⟩, (F.reps (fun _ _ => F.M)).2 rfl⟩
  have : g = k := by simpa [Value.ownBlock] using hk
  exact this ▸ h.okg
/-- a row that is read: its cells -/
theorem Flat.cell (F : Flat d c) {w : World} {A : Addr} {n : Nat} {xs : List α} (h : d.C w (some A) n xs) : ∀ j u, (xs.flatMap c)[j]? = some u → w.cell? (A.add j) = some u := by
  intro j u hj
  have hjl : j < xs.length * d.sz := by rw [← F.flen]; exact (List.getElem?_eq_some_iff.1 hj).1
  have hi : j / d.sz < xs.length := (Nat.div_lt_iff_lt_mul F.pos).2 hjl
  obtain ⟨ad, cs, e, hs, hK, hc⟩ := Kd.C_nth h (List.getElem?_eq_getElem hi)
  cases e
  have hk := F.K.1 hK
  have h2 := F.fget (List.getElem?_eq_getElem hi)
  have e : ((xs.flatMap c).drop (j / d.sz * d.sz)).take d.sz = cs := by rw [h2, hk]
  have h3 : cs[j % d.sz]? = some u := by
    rw [← e, List.getElem?_take, if_pos (Nat.mod_lt _ F.pos), List.getElem?_drop, Nat.mul_comm, Nat.div_add_mod]; exact hj
  have := hc _ _ h3
  rwa [Nat.mul_comm, Nat.div_add_mod] at this
end
/-! ### copies of elements of any size -/
section
variable {P : Program}
theorem run_copy_sz (w : World) (dT sT ty elem : TypeId) (b o dLen dCap : Nat) (a : Addr) (sLen sCap sz k : Nat) (cs : List Value)
    (hu : P.underlying dT = some (.slice elem)) (hs : (P.info? elem).map (·.size) = some sz) (hk : k = Nat.min sLen dLen) (hn : cs.length = k * sz)
    (hsrc : ∀ j v, cs[j]? = some v → w.cell? (a.add j) = some v) (hc : ∀ j, j < cs.length → (w.cell? ⟨b, o + j, none⟩).isSome = true) (hf : ∀ j, j < cs.length → w.frozen? ⟨b, o + j, none⟩ = false) (h1 : ∀ v ∈ cs, v.oneCell' = true) :
    (Builtin.copy_ #[dT, sT] ty #[.slice (some ⟨b, o, none⟩) dLen dCap, .slice (some a) sLen sCap]).run P w = .ok (goInt k) (w.setCells b o cs) := by
  have hl := run_loadCells_list (P := P) w a cs hsrc
  have hst := run_storeCells_cells (P := P) b o cs 0 w (by simpa using hc) (by simpa using hf) h1
  cases hq : P.info? elem with
  | none => simp [hq] at hs
  | some i =>
    have hi : i.size = sz := by simpa [hq] using hs
    simp [Builtin.copy_, run_underlying hu, Builtin.lenOf, Builtin.firstCells, sizeOf, typeInfo, hq, hi, ← hk, ← hn, hl, hst]
end
/-- the cells of a block behind 'setCells' -/
theorem setCells_heap {g : Nat} {e : TypeId} : ∀ (vs : List Value) (o : Nat) (w : World) (cur : Array Value), w.heap[g]? = some (.cells cur e (0, 0)) → o + vs.length ≤ cur.size →
    ∃ cur' : Array Value, (w.setCells g o vs).heap[g]? = some (.cells cur' e (0, 0)) ∧ cur'.size = cur.size ∧ cur'.toList = cur.toList.take o ++ vs ++ cur.toList.drop (o + vs.length)
  | [], o, w, cur, h, _ => ⟨cur, h, rfl, by simp⟩
  | v :: r, o, w, cur, h, hl => by
    have h1 := blk_set h o v
    obtain ⟨cur', h2, h3, h4⟩ := setCells_heap r (o + 1) _ _ h1 (by simp at hl ⊢; omega)
    refine ⟨cur', h2, by rw [h3]; simp, ?_⟩
    rw [h4]
    have e := list_seg_step cur.toList o v r (by simp at hl ⊢; omega)
    simpa [Array.toList_setIfInBounds, Nat.add_assoc] using e
theorem setCells_grown (g : Nat) : ∀ (vs : List Value) (o : Nat) (w : World), w.grownBy (w.setCells g o vs) (some g)
  | [], o, w => World.grownBy.refl w _
  | v :: r, o, w => grown_trans (grown_set w g o v) (setCells_grown g r (o + 1) _)
theorem seg_take {α : Type} (L C : List α) (a N : Nat) (h : a + C.length ≤ N) (hN : N ≤ L.length) : (L.take a ++ C ++ L.drop (a + C.length)).take N = (L.take N).take a ++ C ++ (L.take N).drop (a + C.length) := by
  have e1 : (L.take a).length = a := by rw [List.length_take]; omega
  have t1 : (L.take a).take N = L.take a := by rw [List.take_take, Nat.min_eq_right (by omega)]
  have t2 : C.take (N - a) = C := List.take_of_length_le (by omega)
  have t3 : (L.take N).take a = L.take a := by rw [List.take_take, Nat.min_eq_left (by omega)]
  rw [t3, List.append_assoc, List.take_append, t1, e1, List.take_append, t2, List.drop_take, List.append_assoc, Nat.sub_sub]
theorem Flat.put {α : Type} {d : Kd α} {c : α → List Value} (F : Flat d c) {e : Nat} {w : World} {base : Nat} {ok : Nat → Prop} {g n cap : Nat} {xs : List α} (h : d.R e w base ok (.slice (some ⟨g, 0, none⟩) n cap) xs) {i : Nat} (hi : i < xs.length) (x : α) :
    d.R e (w.setCells g (i * d.sz) (c x)) base ok (.slice (some ⟨g, 0, none⟩) n cap) (xs.set i x) ∧ w.grownBy (w.setCells g (i * d.sz) (c x)) (some g) := by
  obtain ⟨cur, B⟩ := F.blk h
  have hn := B.len
  subst hn
  have hle : i * d.sz + d.sz ≤ xs.length * d.sz := by rw [← Nat.succ_mul]; exact Nat.mul_le_mul_right _ hi
  have hcs : xs.length * d.sz ≤ cur.size := by rw [B.size]; exact Nat.mul_le_mul_right _ B.le
  obtain ⟨cur', h1, h2, h3⟩ := setCells_heap (c x) (i * d.sz) w cur B.heap (by rw [F.len]; omega)
  refine ⟨F.row ⟨by simp, B.okg, B.bas, h1, B.le, B.max, by rw [h2, B.size], ?_⟩, setCells_grown g _ _ _⟩
  rw [h3, seg_take _ _ _ _ (by rw [F.len]; exact hle) (by simpa using hcs), B.take, F.ftake, F.len, ← Nat.succ_mul, F.fdrop, List.set_eq_take_append_cons_drop, if_pos hi]
  simp
end Go.Proofs.Ytdanihbbnepjpaa.H
namespace Go.Proofs.Ytdanihbbnepjpaa.H
open Go.RowKit Go.Proofs.YtdanihbbnepjpaaW.PrintWords
def cPair (x : Pair) : List Value := [.string x.name, .bool x.val.isSym, .string x.val.sym, .int .i64 x.val.n]
theorem flatPair : Flat k41 cPair :=
  ⟨⟨fun h => k41_openM h, fun h => h ▸ k41_mkM _ _ _ _⟩, ⟨fun h => k41_open h, fun h => h ▸ k41_mk _ _⟩, fun _ => rfl, fun x u hu => by
    simp only [cPair, List.mem_cons, List.not_mem_nil, or_false] at hu
    rcases hu with rfl | rfl | rfl | rfl <;> rfl, by decide⟩
end Go.Proofs.Ytdanihbbnepjpaa.H
namespace Go.Proofs.Ytdanihbbnepjpaa.H
open Go.RowKit Go.Proofs.YtdanihbbnepjpaaW.PrintWords Go.Proofs.YtdanihbbnepjpaaW.PrintLast Go.Proofs.YtdanihbbnepjpaaW.PrintMore
set_option linter.unusedVariables false
theorem R_emptyP (e : Nat) (w : World) (base : Nat) (hb : base ≤ w.heap.size) : k41.R e (w.alloc (.cells #[] e)) base (fun _ => True) (.slice (some ⟨w.heap.size, 0, none⟩) 0 0) [] :=
  flatPair.row (cur := #[]) ⟨rfl, trivial, hb, blk_new _ _, Nat.le_refl _, by decide, by simp, by simp⟩
def subst_Pair_34.f (l : List Pair) : Option (List Pair) := if l.length * 48 ≤ 140737488355328 then some l else none
theorem subst_Pair_34.calls (A0 : Option Addr) (c0 : Nat) (l0 r : List Pair) (w : World) (hr0 : Kd.C k41 w A0 l0.length l0) (_ : l0.length ≤ c0) (h : subst_Pair_34.f l0 = some r) :
    Calls Try.prog 34 #[.slice A0 l0.length c0] w fun e w' => ∃ v0_ : Value, e = .returned v0_ ∧ Kd.R k41 41 w' w.heap.size (fun _ => True) v0_ r ∧ Below w.heap.size w w' := by
  unfold subst_Pair_34.f at h
  split at h
  case isFalse => cases h
  rename_i hz
  cases h
  have HR := Aside0.mk hr0
  clear hr0
  have q1 : ∀ (W : World) (n c : Nat), (binOp .eql 29 (.slice none n c) (.slice none 0 0)).run Try.prog W = .ok (.bool true) W := fun _ _ _ => rfl
  have q2 : ∀ (W : World) (a : Addr) (n c : Nat), (binOp .eql 29 (.slice (some a) n c) (.slice none 0 0)).run Try.prog W = .ok (.bool false) W := fun _ _ _ _ => rfl
  cases A0 with
  | none =>
    have h0 : l0 = [] := by
      rcases Nat.eq_zero_or_pos l0.length with h0 | h0
      · exact List.length_eq_zero_iff.1 h0
      · obtain ⟨ad, e, _⟩ := HR.out.2.2 h0
        cases e
    subst h0
    go_enter Try.func34, Try.ntmps34
    go_wp2
    go_ret
    exact ⟨_, rfl, Kd.R_nil _ _ _ _ _, Below.refl _ _⟩
  | some a =>
    go_enter Try.func34, Try.ntmps34
    have HE := Aside0.mk (R_emptyP 41 w w.heap.size (Nat.le_refl _))
    have HB := Aside0.mk (below_alloc (Below.refl w.heap.size w) (.cells #[] 41))
    go_wp2_with (at_builtin; go_must (refine Kd.R_append_rows k41 (Rr := k41.K (w.alloc (.cells #[] 41))) (w0 := w) w.heap.size rfl (.tmp 5) (.tmp 6) 29 41 _ 48 rfl Try.underlying29 info41 rfl (by decide) (by omega) (.slice (some ⟨w.heap.size, 0, none⟩) 0 0) [] l0 (some a) l0.length c0 (fun _ => True) (fun _ => False) (by go_simp) (by go_simp) HE.out (Kd.C_alloc HR.out _) (fun x cs hk => flatPair.M.2 (flatPair.K.1 hk)) (fun _ h => h.elim) (fun _ _ => trivial) HB.out (by simp) (by simp; omega) ?_); intro v1 w1 hr1 hb1 hg1 hat1; have HR1 := Aside0.mk hr1; have HB1 := Aside0.mk hb1; clear hr1 hb1 hg1 hat1)
    go_ret
    exact ⟨_, rfl, HR1.out, HB1.out⟩
end Go.Proofs.Ytdanihbbnepjpaa.H
namespace Go.Proofs.Ytdanihbbnepjpaa.H
open Go.RowKit Go.Proofs.YtdanihbbnepjpaaW.PrintWords
theorem bytesLess_swap (a b : List UInt8) : (!(Op.bytesLess a b || a == b)) = Op.bytesLess b a := by
  induction a generalizing b with
  | nil => cases b <;> simp [Op.bytesLess]
  | cons x a ih =>
    cases b with
    | nil => simp [Op.bytesLess]
    | cons y b =>
      by_cases h : x = y
      · subst h
        have := ih b
        simp [Op.bytesLess] at this ⊢
        exact this
      · have h2 : ¬ y = x := fun e => h e.symm
        rw [Bool.eq_iff_iff]
        simp [Op.bytesLess, h, h2]
        have hn : x.toNat ≠ y.toNat := fun e => h (UInt8.toNat_inj.1 e)
        rw [UInt8.le_iff_toNat_le, UInt8.lt_iff_toNat_lt]
        omega
theorem bytesLeq_swap (a b : List UInt8) : (Op.bytesLess a b || a == b) = !Op.bytesLess b a := by rw [← bytesLess_swap a b, Bool.not_not]
@[go_sem high] theorem binOp_string_gtr_sw (t : TypeId) (a b : ByteArray) : binOp .gtr t (.string a) (.string b) = pure (.bool (Op.bytesLess b.toList a.toList)) := by
  rw [← bytesLess_swap]; simp [binOp, Op.stringOp]
@[go_sem high] theorem binOp_string_leq_sw (t : TypeId) (a b : ByteArray) : binOp .leq t (.string a) (.string b) = pure (.bool !(Op.bytesLess b.toList a.toList)) := by
  rw [← bytesLeq_swap]; simp [binOp, Op.stringOp]
@[go_sem] theorem binOp_string_geq_sw (t : TypeId) (a b : ByteArray) : binOp .geq t (.string a) (.string b) = pure (.bool !(Op.bytesLess a.toList b.toList)) := by simp [binOp, Op.stringOp]
end Go.Proofs.Ytdanihbbnepjpaa.H
namespace Go.Proofs.Ytdanihbbnepjpaa.H
open Go.RowKit Go.Proofs.YtdanihbbnepjpaaW.PrintWords Go.Proofs.YtdanihbbnepjpaaW.PrintLast Go.Proofs.YtdanihbbnepjpaaW.PrintMore
set_option linter.unusedVariables false
/-- a row of one's own, told as one that may be shared -/
theorem Kd.R_Vr {α : Type} {d : Kd α} {e base base' : Nat} {P M C : Nat → Prop} {W : World} {v : Value} {xs : List α} (h : Kd.R d e W base (fun k => M k ∧ C k) v xs) : Kd.V d e W base' (fun k => (P k ∨ M k) ∧ C k) v xs :=
  Kd.V_mono (Kd.R_V h) (fun _ hk => ⟨.inr hk.1, hk.2⟩)
theorem Kd.R_Vr1 {α : Type} {d : Kd α} {e base base' : Nat} {P M : Nat → Prop} {W : World} {v : Value} {xs : List α} (h : Kd.R d e W base (fun k => M k) v xs) : Kd.V d e W base' (fun k => P k ∨ M k) v xs :=
  Kd.V_mono (Kd.R_V h) (fun _ hk => .inr hk)
end Go.Proofs.Ytdanihbbnepjpaa.H
namespace Go.Proofs.Ytdanihbbnepjpaa.H
open Go.RowKit Go.Proofs.YtdanihbbnepjpaaW.PrintWords Go.Proofs.YtdanihbbnepjpaaW.PrintLast Go.Proofs.YtdanihbbnepjpaaW.PrintMore
set_option linter.unusedVariables false
theorem withIdx1 {w : World} {gx : Nat} {s : ByteArray} (l : List Pair) (hb : w.heap[gx]? = some (.cells #[.string s] 9 (0, 0))) :
    PredA Try.prog 36 #[.pointer (some ⟨gx, 0, none⟩)] k41 (fun p => after p.name s) w l := by
  intro W x cs _ hg hK
  have hu := Try.underlying41
  obtain rfl := k41_open hK
  have e1 : W.cell? ⟨gx, 0, none⟩ = some (.string s) := (blk_cell (blk_below hb hg) 0).trans rfl
  have hB : gx < W.heap.size := World.block_lt_of_cell? _ _ e1
  clear hb hK hg
  go_enter Try.func36, Try.ntmps36
  go_wp2
  go_ret
  exact ⟨rfl, below_alloc (Below.refl _ _) _⟩
def GWithIdx.f (l : List Pair) (s : ByteArray) : Option Int := some (idxP (fun p => after p.name s) l 0)
theorem GWithIdx.calls (A0 : Option Addr) (c0 : Nat) (l0 : List Pair) (a1 : ByteArray) (r : Int) (w : World) {gb : Nat} (hr0 : Kd.C k41 w A0 l0.length l0) (hc0 : l0.length ≤ c0)
    (hb : w.heap[gb]? = some (.cells #[.string a1] 9 (0, 0))) (h : GWithIdx.f l0 a1 = some r) :
    Calls Try.prog 31 #[.slice A0 l0.length c0, .func (.func 36) #[] #[.pointer (some ⟨gb, 0, none⟩)]] w fun e w' => e = .returned (.int .i64 r) ∧ Below w.heap.size w w' := by
  cases h
  exact IndexFuncPair 36 #[.pointer (some ⟨gb, 0, none⟩)] (enters_of Try.func36 (by kernel_rfl) rfl) (fun p => after p.name a1) A0 c0 l0 w hr0 (withIdx1 l0 hb)
end Go.Proofs.Ytdanihbbnepjpaa.H
namespace Go.Proofs.Ytdanihbbnepjpaa.H
open Go.RowKit Go.Proofs.YtdanihbbnepjpaaW.PrintWords Go.Proofs.YtdanihbbnepjpaaW.PrintLast Go.Proofs.YtdanihbbnepjpaaW.PrintMore
set_option linter.unusedVariables false
/-- a predicate at a struct, handed to what rewrites the row as it goes -/
def PredGA (P : Program) (g : Nat) (lb : Array Value) {α : Type} (d : Kd α) (p : α → Bool) (w : World) (row : Option Nat) (l : List α) : Prop :=
  ∀ (W : World) (x : α) (cs : List Value), x ∈ l → w.grownBy W row → d.K W x cs → Calls P g (#[.agg cs.toArray] ++ lb) W fun e w' => e = .returned (.bool (p x)) ∧ Below W.heap.size W w'
theorem PredGA.k {P : Program} {g : Nat} {lb : Array Value} {α : Type} {d : Kd α} {p : α → Bool} {w : World} {row : Option Nat} {l : List α} (h : PredGA P g lb d p w row l) : PredA P g lb d p w l :=
  fun W x cs hm hb hk => h W x cs hm (grown_of_below hb row) hk
set_option maxHeartbeats 4000000 in
set_option maxRecDepth 100000 in
/-- slices.DeleteFunc at structs without rows -/
theorem DeleteFuncPair (g : Nat) (lb : Array Value) (eg : ∀ args w, (callFunc g args).run Try.prog w = .ok (.enter g args) w) (p : Pair → Bool) (base : Nat) (ok : Nat → Prop)
    (v : Value) (l : List Pair) (w : World) (ho : Kd.R k41 41 w base ok v l) (hp : PredGA Try.prog g lb k41 p w v.ownBlock l) :
    Calls Try.prog 33 #[v, .func (.func g) #[] lb] w fun e w' => ∃ v', e = .returned v' ∧ Kd.R k41 41 w' base ok v' (l.filter fun x => !p x) ∧ w.grownBy w' v.ownBlock ∧ v'.ownBlock = v.ownBlock := by
  have hu := Try.underlying41
  obtain ⟨A, c, rfl, hlc, hC⟩ := Kd.R_reads ho
  have hl : l.length ≤ 9223372036854775807 := hC.2.1
  have hIF := IndexFuncPair g lb eg p A c l w hC hp.k
  rcases idxP_cases p l 0 with ⟨e1, hall⟩ | ⟨k0, y0, e1, hy0, ht, hall⟩
  · rw [e1] at hIF
    have hf : (l.filter fun x => !p x) = l := List.filter_eq_self.2 (fun x hx => by simp [hall x hx])
    have HO := Aside0.mk ho
    have HF := Aside0.mk hf
    clear ho hp hC hf hall e1
    go_enter Try.func33, Try.ntmps33
    go_wp2_with (go_at_call 31; refine hIF.mono ?_; rintro e w' ⟨rfl, hb⟩)
    go_ret
    exact ⟨_, rfl, by rw [HF.out]; exact Kd.R_below HO.out hb, grown_of_below hb _, rfl⟩
  · rw [e1, Nat.zero_add] at hIF
    have hk0 : k0 < l.length := (List.getElem?_eq_some_iff.1 hy0).1
    obtain ⟨b, cap, e2, hbb, hbl, cells0, hcells0⟩ := Kd.R_form ho (by omega)
    cases e2
    have hne1 : ((k0 : Int) == -1) = false := beq_eq_false_iff_ne.2 (by omega)
    have HI0 := Aside0.mk (KeptIv.start (q := fun x => !p x) (fun x hx => by simp [hall x hx]) hy0 (by simp [ht]))
    have HO := Aside0.mk ho
    have HP := Aside0.mk hp
    clear ho hp hC hall e1 hy0 ht hcells0
    go_enter Try.func33, Try.ntmps33
    go_wp2_with (go_at_call 31; refine hIF.mono ?_; rintro e w0 ⟨rfl, hb0⟩; have HB0 := Aside0.mk hb0; clear hb0)
    go_loopg [5, 6, 7] l.length (fun gg s5 s6 _ wr => ∃ (i j : Nat) (dk : List Pair), s5 = .int .i64 i ∧ s6 = .int .i64 j ∧ j ≤ l.length ∧ i < j ∧ l.length - j ≤ gg ∧ Aside0 (KeptIv (fun x => !p x) l j i dk) ∧ Aside0 (Kd.R k41 41 wr base ok (.slice (some ⟨b, 0, none⟩) l.length c) dk) ∧ Aside0 (w.grownBy wr (some b)))
    case atStart => exact ⟨k0, k0 + 1, l, rfl, by go_num, by omega, by omega, by omega, HI0, ⟨Kd.R_below HO.out HB0.out⟩, ⟨grown_of_below HB0.out _⟩⟩
    case round =>
      clear HI0 HO
      obtain ⟨i, j, dk, rfl, rfl, hjl, hij, hgg, HI, HO, HG⟩ := hrel
      have hdl := HI.out.len
      by_cases hlt : j < l.length
      · have hltz : (j : Int) < (l.length : Int) := by omega
        obtain ⟨y, hy⟩ := at_some hlt
        have hyd : dk[j]? = some y := by
          have := congrArg (fun z => z[0]?) HI.out.high
          simpa [hy] using this
        obtain ⟨-, -, hC⟩ := Kd.R_reads' HO.out
        obtain ⟨ad, e1, hx0, hx1, hx2, hx3⟩ := at_Pair hC hyd
        cases e1
        simp only [add_plain] at hx0 hx1 hx2 hx3
        have HN := Aside0.mk (below_alloc (Below.refl wr.heap.size wr) (.cells #[.string y.name, .bool y.val.isSym, .string y.val.sym, .int .i64 y.val.n] 41))
        have hcall := HP.out (wr.alloc (.cells #[.string y.name, .bool y.val.isSym, .string y.val.sym, .int .i64 y.val.n] 41)) y [.string y.name, .bool y.val.isSym, .string y.val.sym, .int .i64 y.val.n] (List.mem_of_getElem? hy) (grown_trans HG.out (grown_of_below HN.out _)) (k41_mk _ y)
        have HY := Aside0.mk hy
        clear hy hyd hC
        cases hq : p y with
        | true =>
          rw [hq] at hcall
          go_wp2_with (go_at_fn g; refine hcall.mono ?_; rintro e w' ⟨rfl, hb'⟩; replace hb' := Below.then HN.out hb'; have HB' := Aside0.mk hb'; clear hb')
          go_roundg (l.length - (j + 1))
          case measure => omega
          case rel => exact ⟨i, j + 1, dk, rfl, by go_num, by omega, by omega, by omega, ⟨HI.out.skip HY.out (by simp [hq])⟩, ⟨Kd.R_below HO.out HB'.out⟩, ⟨grown_trans HG.out (grown_of_below HB'.out _)⟩⟩
        | false =>
          rw [hq] at hcall
          obtain ⟨yi, hyi⟩ : ∃ yi, dk[i]? = some yi := at_some (by omega)
          obtain ⟨-, -, hC⟩ := Kd.R_reads' HO.out
          obtain ⟨iad, ie1, ihx0, ihx1, ihx2, ihx3⟩ := at_Pair hC hyi
          cases ie1
          simp only [add_plain] at ihx0 ihx1 ihx2 ihx3
          clear hyi hC
          go_wp2_with (go_at_fn g; refine hcall.mono ?_; rintro e w' ⟨rfl, hb'⟩; have hv := blk_below (blk_new wr (.cells #[.string y.name, .bool y.val.isSym, .string y.val.sym, .int .i64 y.val.n] 41)) hb'; have hv0 := (blk_cell hv 0).trans rfl; have hv1 := (blk_cell hv 1).trans rfl; have hv2 := (blk_cell hv 2).trans rfl; have hv3 := (blk_cell hv 3).trans rfl; clear hv; replace hb' := Below.then HN.out hb'; have HO1 := Aside0.mk (Kd.R_below HO.out hb'); have jx0 := Below.old hb' ihx0; have jx1 := Below.old hb' ihx1; have jx2 := Below.old hb' ihx2; have jx3 := Below.old hb' ihx3; obtain ⟨cells, hcells⟩ := R_blk HO1.out; have fz0 := blk_frozen hcells (i * 4); have fz1 := blk_frozen hcells (i * 4 + 1); have fz2 := blk_frozen hcells (i * 4 + 2); have fz3 := blk_frozen hcells (i * 4 + 3); have HB' := Aside0.mk hb'; clear hb' hcells)
          obtain ⟨hp1, hp2⟩ := flatPair.put HO1.out (by omega : i < dk.length) y
          go_roundg (l.length - (j + 1))
          case measure => omega
          case rel => exact ⟨i + 1, j + 1, dk.set i y, by go_num, by go_num, by omega, by omega, by omega, ⟨HI.out.keep HY.out (by simp [hq])⟩, ⟨hp1⟩, ⟨grown_trans HG.out (grown_trans (grown_of_below HB'.out _) hp2)⟩⟩
      · have hltz : ¬ (j : Int) < (l.length : Int) := by omega
        obtain rfl : j = l.length := by omega
        obtain ⟨cells, hcells⟩ := R_blk HO.out
        have hsz := R_size HO.out hcells
        obtain ⟨vs, hclr⟩ := run_clear_row (P := Try.prog) wr 29 41 0 (.agg #[.string ⟨#[]⟩, .bool false, .string ⟨#[]⟩, .int .i64 0]) Try.underlying29 Try.zeroValue41 (by decide) b (i * 4) (l.length - i) (c - i) cells hcells (by have h1 := hsz.1; have h2 := hsz.2; rw [show k41.sz = 4 from rfl] at h1; rw [h1, show ((.agg #[.string ⟨#[]⟩, .bool false, .string ⟨#[]⟩, .int .i64 0]) : Value).cells.size = 4 from rfl, ← Nat.add_mul]; exact Nat.mul_le_mul_right _ (by omega))
        obtain ⟨cur', h1, h2, h3, h4⟩ := setCells_rowH vs (i * 4) wr cells hcells
        have HR := Aside0.mk (R_cut HO.out (by omega : i ≤ dk.length) h4 hcells h1 h2 h3)
        have HG4 := Aside0.mk h4
        clear h1 h2 h3 h4 hsz hcells
        have HL := Aside0.mk hdl
        clear hdl
        go_wp2
        go_ret
        exact ⟨_, rfl, by
          have := HI.out.low
          rw [List.take_length] at this
          rw [← this]; exact HR.out, grown_trans HG.out HG4.out, rfl⟩
theorem withDel1 {w : World} {gx : Nat} {row : Option Nat} {s : ByteArray} (l : List Pair) (hb : w.heap[gx]? = some (.cells #[.string s] 9 (0, 0))) (hne : some gx ≠ row) :
    PredGA Try.prog 35 #[.pointer (some ⟨gx, 0, none⟩)] k41 (fun p => decide (p.name = s)) w row l := by
  intro W x cs _ hg hK
  have hu := Try.underlying41
  obtain rfl := k41_open hK
  have h1 : W.heap[gx]? = some (.cells #[.string s] 9 (0, 0)) := (hg.block gx (blk_lt hb) hne).trans hb
  have e1 : W.cell? ⟨gx, 0, none⟩ = some (.string s) := (blk_cell h1 0).trans rfl
  have hB : gx < W.heap.size := World.block_lt_of_cell? _ _ e1
  clear h1 hb hK hg
  by_cases hq : x.name = s
  · obtain ⟨q1, q2⟩ := ba_beq hq
    have HQ := Aside0.mk hq
    clear hq
    go_enter Try.func35, Try.ntmps35
    go_wp2
    go_ret
    exact ⟨by simp [HQ.out], below_alloc (Below.refl _ _) _⟩
  · obtain ⟨q1, q2⟩ := ba_bne hq
    have HQ := Aside0.mk hq
    clear hq
    go_enter Try.func35, Try.ntmps35
    go_wp2
    go_ret
    exact ⟨by simp [HQ.out], below_alloc (Below.refl _ _) _⟩
def GWithDel.f (l : List Pair) (s : ByteArray) : Option (List Pair) := some (dropOf l s)
theorem GWithDel.calls (P0_ : Nat → Prop) (u9000_ : Value) (l0 : List Pair) (a1 : ByteArray) (r : List Pair) (w0 w : World) {gb : Nat} (hB : Below w0.heap.size w0 w) (ho0 : Kd.R k41 41 w w0.heap.size P0_ u9000_ l0)
    (hb : w.heap[gb]? = some (.cells #[.string a1] 9 (0, 0))) (h : GWithDel.f l0 a1 = some r) :
    Calls Try.prog 33 #[u9000_, .func (.func 35) #[] #[.pointer (some ⟨gb, 0, none⟩)]] w fun e w' => ∃ v0_ : Value, e = .returned v0_ ∧ Kd.R k41 41 w' w0.heap.size (fun k_ => (P0_ k_ ∨ w.heap.size ≤ k_)) v0_ r ∧ Below w0.heap.size w0 w' ∧ Kept w w' (fun k_ => P0_ k_) := by
  cases h
  have eg := enters_of Try.func35 (by kernel_rfl) rfl
  have kept : ∀ W, w.grownBy W u9000_.ownBlock → Kept w W (fun k_ => P0_ k_) := fun W hg => ⟨hg.size, fun i hi hn => hg.block i hi (fun e => hn (ho0.1 i e.symm))⟩
  refine (DeleteFuncPair 35 #[.pointer (some ⟨gb, 0, none⟩)] eg (fun p => decide (p.name = a1)) w0.heap.size P0_ u9000_ l0 w ho0 (withDel1 l0 hb (Kd.R_ne ho0 hb (by decide)))).mono ?_
  rintro e w' ⟨v, rfl, hR, hg, hv⟩
  exact ⟨v, rfl, Kd.R_mono hR (fun k hk => .inl hk), pw_below_grown hB _ hB.size hg (fun k hk => Kd.R_base ho0 k hk), kept w' hg⟩
end Go.Proofs.Ytdanihbbnepjpaa.H
namespace Go.Proofs.Ytdanihbbnepjpaa.H
open Go.RowKit Go.Proofs.YtdanihbbnepjpaaW.PrintWords Go.Proofs.YtdanihbbnepjpaaW.PrintLast Go.Proofs.YtdanihbbnepjpaaW.PrintMore
set_option linter.unusedVariables false
set_option linter.unusedSimpArgs false
section
variable {P : Program}
theorem append_types {t t' e e' ty : TypeId} (ht : P.underlying t = some (.slice e)) (ht' : P.underlying t' = some (.slice e')) (B : Option Addr) (n b : Nat) (A : Option Addr) (m c : Nat) (W : World) :
    (Builtin.append_ #[t, t'] ty #[.slice B n b, .slice A m c]).run P W = (Builtin.append_ #[t, t] ty #[.slice B n b, .slice A m c]).run P W := by
  simp [Builtin.append_, run_underlying ht, run_underlying ht']
theorem Flat.append {α : Type} {d : Kd α} {c : α → List Value} (F : Flat d c) {t t' e e' ty : TypeId} {z : Value} {bytes : Nat} (ht : P.underlying t = some (.slice e)) (ht' : P.underlying t' = some (.slice e'))
    (hinfo : (P.info? e).map (fun i => (i.zero, i.size, i.bytes)) = some (some z, d.sz, bytes)) (hz : z.cells.size = d.sz) (hb0 : 0 < bytes)
    {W : World} {base : Nat} {ok : Nat → Prop} {v : Value} {xs ys : List α} {ad : Addr} {m cc : Nat} (HO : d.R e W base ok v xs) (hC : d.C W (some ad) m ys) (hbase : base ≤ W.heap.size) (hl : (xs.length + m) * bytes ≤ 140737488355328) :
    ∃ v1 w1, (Builtin.append_ #[t, t'] ty #[v, .slice (some ad) m cc]).run P W = .ok v1 w1 ∧ d.R e w1 base (fun k => ok k ∨ W.heap.size ≤ k) v1 (xs ++ ys) ∧ W.grownBy w1 v.ownBlock := by
  obtain ⟨i0, hi, hzz⟩ := Option.map_eq_some_iff.1 hinfo
  simp only [Prod.mk.injEq] at hzz
  obtain ⟨hz0, hz1, hz2⟩ := hzz
  have hm : ys.length = m := hC.1
  have hlen : xs.length + m ≤ 140737488355328 := Nat.le_trans (Nat.le_mul_of_pos_right _ hb0) hl
  obtain ⟨A0, c0, rfl⟩ := Kd.R_slice HO
  obtain ⟨hok, inner, hown, hr⟩ := HO
  have hin := (F.reps (fun _ _ => F.M)).1 hr
  obtain ⟨v1, w1, hrun, h2, hg, _, hat⟩ := run_append_own_at (P := P) W base t ty e i0 z d.sz bytes ht hi hz0 hz1 hz2 hz F.pos _ xs.length inner hown ad m cc (ys.flatMap c) (by rw [F.flen, hm]) (F.cell hC) (F.fone ys) (by simp only [maxLen]; omega) hl hbase
  refine ⟨v1, w1, by rw [append_types ht ht']; exact hrun, ⟨fun k hk => ?_, inner ++ ys.flatMap c, by rw [List.length_append, hm]; exact h2, (F.reps (fun _ _ => F.M)).2 (by rw [hin, List.flatMap_append])⟩, hg⟩
  rcases hat with hat | hat
  · exact .inl (hok k (hat ▸ hk))
  · rw [hat] at hk
    injection hk with hk
    exact .inr (by omega)
end
theorem Flat.some {α : Type} {d : Kd α} {c : α → List Value} (F : Flat d c) {e : Nat} {w : World} {base : Nat} {ok : Nat → Prop} {v : Value} {xs : List α} (h : d.R e w base ok v xs) (hp : 0 < xs.length) : ∃ g cap cur, v = .slice (Option.some ⟨g, 0, none⟩) xs.length cap ∧ Blk d c e w base ok g xs.length cap xs cur := by
  obtain ⟨g, cap, rfl, _⟩ := Kd.R_form h hp
  obtain ⟨cur, B⟩ := F.blk h
  exact ⟨g, cap, cur, rfl, B⟩
/-- cells of a block of one's own -/
theorem Blk.cell {α : Type} {d : Kd α} {c : α → List Value} {e : Nat} {w : World} {base : Nat} {ok : Nat → Prop} {g n cap : Nat} {xs : List α} {cur : Array Value} (B : Blk d c e w base ok g n cap xs cur) : ∀ j u, (xs.flatMap c)[j]? = Option.some u → w.cell? ⟨g, j, none⟩ = Option.some u := by
  intro j u hj
  rw [← B.take, List.getElem?_take] at hj
  split at hj
  · rw [blk_cell B.heap]; simpa using hj
  · cases hj
theorem Blk.has {α : Type} {d : Kd α} {c : α → List Value} {e : Nat} {w : World} {base : Nat} {ok : Nat → Prop} {g n cap : Nat} {xs : List α} {cur : Array Value} (B : Blk d c e w base ok g n cap xs cur) {j : Nat} (hj : j < cap * d.sz) : (w.cell? ⟨g, j, none⟩).isSome = true := by
  rw [blk_cell B.heap, Array.getElem?_eq_getElem (by rw [B.size]; exact hj)]; rfl
section
variable {P : Program}
theorem wpList_copy_run (w : World) {ops : Array Oper} {rest : List Oper} {o : Oper} {a : Act} {Q : Exit → Act → World → Prop} (hgd : o.guard = none) (d s : Operand) (t t' : TypeId)
    (ho : o.op = .call { callee := .builtin .copy, args := #[d, s], argTypes := #[t, t'] }) (v u : Value) (hd : a.eval d = v) (hs : a.eval s = u) {v' : Value} {w' : World}
    (hr : (Builtin.copy_ #[t, t'] o.type #[v, u]).run P w = .ok v' w') (h : wpList P ops Q rest (a.put o.dst v') w') : wpList P ops Q (o :: rest) a w := by
  refine wpList_plain hgd fun K hK => ?_
  unfold Oper.wp execOp
  simp only [ho, resolve, invoke, builtin, Sem.run_bind, Sem.run_pure, Result.andThen_ok, List.map_toArray, List.map_cons, List.map_nil, hd, hs, hr]
  exact hK _ _ h
theorem step_copy_run {ops : Array Oper} {o : Oper} {a : Act} {w : World} {K : Act → World → Prop} {Q : Exit → Act → World → Prop} {E : Prop}
    (hg : o.guard = none) (d x : Operand) (dT sT : TypeId) (hop : o.op = Op.call { callee := Callee.builtin Builtin.copy, args := #[d, x], argTypes := #[dT, sT] })
    (v u : Value) (hd : a.eval d = v) (hx : a.eval x = u) {v' : Value} {w' : World} (hr : (Builtin.copy_ #[dT, sT] o.type #[v, u]).run P w = .ok v' w') (hK : K (a.put o.dst v') w') :
    if Region.wanted o (yielded ops a.tmps) = true then Oper.wp P o a w K Q else E := by
  have hw : Region.wanted o (yielded ops a.tmps) = true := by simp [Region.wanted, hg]
  rw [if_pos hw]
  unfold Oper.wp
  simp [execOp, hop, resolve, invoke, builtin, hd, hx, hr, Result.andThen]
  exact hK
end
theorem heap_setCells (b : Nat) : ∀ (vs : List Value) (o : Nat) (W W' : World), W.heap = W'.heap → (W.setCells b o vs).heap = (W'.setCells b o vs).heap
  | [], _, _, _, h => h
  | v :: r, o, W, W', h => heap_setCells b r (o + 1) _ _ (by simp [World.setCell, h])
def insOf (l : List Pair) (i : Nat) (x : Pair) : List Pair := l.take i ++ x :: l.drop i
theorem ins_cells (l : List Pair) (i : Nat) (x : Pair) : (insOf l i x).flatMap cPair = (l.flatMap cPair).take (i * 4) ++ cPair x ++ (l.flatMap cPair).drop (i * 4) := by
  have e1 := flatPair.ftake l i
  have e2 := flatPair.fdrop l i
  rw [show k41.sz = 4 from rfl] at e1 e2
  rw [e1, e2]
  simp [insOf]
set_option maxHeartbeats 4000000 in
set_option maxRecDepth 100000 in
/-- slices.Insert of one: within, no room -/
theorem insert_grow (w : World) (base : Nat) (ok okv : Nat → Prop) (g gv i cap cv : Nat) (l : List Pair) (x : Pair) (cur curv : Array Value) (B : Blk k41 cPair 41 w base ok g l.length cap l cur) (V : Blk k41 cPair 41 w base okv gv 1 cv [x] curv)
    (hi : i < l.length) (hroom : cap < l.length + 1) (hbig : (l.length + 1) * 48 ≤ 140737488355328) (hbase : base ≤ w.heap.size) :
    Calls Try.prog 37 #[.slice (some ⟨g, 0, none⟩) l.length cap, .int .i64 i, .slice (some ⟨gv, 0, none⟩) 1 cv] w fun e w' => ∃ v', e = .returned v' ∧ Kd.R k41 41 w' base (fun k => ok k ∨ w.heap.size ≤ k) v' (insOf l i x) ∧ w.grownBy w' (some g) := by
  obtain ⟨i0, hi0, hzz⟩ := Option.map_eq_some_iff.1 info41
  simp only [Prod.mk.injEq] at hzz
  obtain ⟨hz0, hzs, hzb⟩ := hzz
  have hsz : (Try.prog.info? 41).map (·.size) = some 4 := by rw [hi0]; simp [hzs]
  have hu := Try.underlying41
  have L29 := Try.underlying29
  have hcap := B.le
  have hmax : cap ≤ 9223372036854775807 := B.max
  have fl : (l.flatMap cPair).length = l.length * 4 := flatPair.flen l
  have fx : (cPair x).length = 4 := rfl
  have hbw : g < w.heap.size := blk_lt B.heap
  have hvw : gv < w.heap.size := blk_lt V.heap
  have hkk : (l.length : Int) + 1 - (i : Int) = ((l.length + 1 - i : Nat) : Int) := by omega
  have hik : i + (l.length + 1 - i) = l.length + 1 := by omega
  have hcs : ∀ j v, (l.flatMap cPair)[j]? = some v → w.cell? ⟨g, j, none⟩ = some v := B.cell
  have hvs : ∀ j v, (cPair x)[j]? = some v → w.cell? ⟨gv, j, none⟩ = some v := fun j v h => V.cell j v (by simpa using h)
  have htk : ((l.flatMap cPair).take (i * 4)).length = i * 4 := by rw [List.length_take, fl]; omega
  have hold : (Builtin.firstCells i0.size i (.slice (some ⟨g, 0, none⟩) i cap)).run Try.prog w.drew = .ok ((l.flatMap cPair).take (i * 4)).toArray w.drew := by
    rw [hzs]
    exact run_firstCells_some w.drew 4 i ⟨g, 0, none⟩ i cap _ htk (fun j v hj => by
      rw [add_plain]
      rw [List.getElem?_take] at hj
      split at hj
      · exact hcs j v hj
      · cases hj)
  have hrz : (Builtin.append_ #[29, 3] 29 #[.slice (some ⟨g, 0, none⟩) i cap, .int .i64 ((l.length : Int) + 1 - (i : Int))]).run Try.prog w =
      .ok (.slice (some ⟨w.heap.size, 0, none⟩) (l.length + 1) (grownCap w (l.length + 1) cap 41)) (w.drew.alloc (.cells (((l.flatMap cPair).take (i * 4)).toArray ++ Builtin.zeroCells (Value.agg #[(.string ⟨#[]⟩), (.bool false), (.string ⟨#[]⟩), (.int .i64 0)]).cells (l.length + 1 - i) ++ Builtin.zeroCells (Value.agg #[(.string ⟨#[]⟩), (.bool false), (.string ⟨#[]⟩), (.int .i64 0)]).cells (grownCap w (l.length + 1) cap 41 - (l.length + 1))) 41)) := by
    have h := Lib.run_append_grow_zeros w 29 3 29 41 i0 _ .i64 .i64 L29 Try.underlying3 hi0 hz0 (some ⟨g, 0, none⟩) i cap _ hold (l.length + 1 - i) (by omega) (by omega) (by omega) (by omega) (by rw [hzb]; omega) (by rw [hzb, hik]; exact growslice_fits hroom hbig)
    rw [hik] at h
    rw [hkk]
    exact h
  obtain ⟨G, hG⟩ : ∃ G, G = grownCap w (l.length + 1) cap 41 := ⟨_, rfl⟩
  have hGn : l.length + 1 ≤ G := by rw [hG]; exact grownCap_ge w _ _ _
  have hGm : G ≤ maxLen := by rw [hG]; exact grownCap_le_maxLen w (l.length + 1) cap 41 (by unfold maxLen; omega)
  have hG63 : G ≤ 9223372036854775807 := hGm
  rw [← hG] at hrz
  obtain ⟨ROW, hROW⟩ : ∃ ROW : Array Value, ROW = ((l.flatMap cPair).take (i * 4)).toArray ++ Builtin.zeroCells (Value.agg #[(.string ⟨#[]⟩), (.bool false), (.string ⟨#[]⟩), (.int .i64 0)]).cells (l.length + 1 - i) ++ Builtin.zeroCells (Value.agg #[(.string ⟨#[]⟩), (.bool false), (.string ⟨#[]⟩), (.int .i64 0)]).cells (G - (l.length + 1)) := ⟨_, rfl⟩
  rw [← hROW] at hrz
  have hRs : ROW.size = G * 4 := by
    rw [hROW]
    simp [Builtin.zeroCells, Value.cells, fl]
    omega
  have hRt : ROW.toList.take (i * 4) = (l.flatMap cPair).take (i * 4) := by
    rw [hROW, Array.toList_append, Array.toList_append, List.append_assoc, List.take_append_of_le_length (by simp [fl]; omega), List.take_of_length_le (by simp [fl]; omega)]
  clear hROW hold hzs hzb hz0 hi0
  obtain ⟨W1, hW1⟩ : ∃ W1, W1 = w.drew.alloc (.cells ROW 41) := ⟨_, rfl⟩
  have HN : W1.heap[w.heap.size]? = some (.cells ROW 41 (0, 0)) := by rw [hW1]; exact blk_new w.drew _
  rw [← hW1] at hrz
  obtain ⟨cur1, h1a, h1b, h1c⟩ := setCells_heap (cPair x) (i * 4) W1 ROW HN (by rw [fx, hRs]; omega)
  have hdl : ((l.flatMap cPair).drop (i * 4)).length = (l.length - i) * 4 := by rw [List.length_drop, fl]; omega
  obtain ⟨cur2, h2a, h2b, h2c⟩ := setCells_heap ((l.flatMap cPair).drop (i * 4)) ((i + 1) * 4) _ cur1 h1a (by rw [hdl, h1b, hRs]; omega)
  have hg1 := setCells_grown w.heap.size (cPair x) (i * 4) W1
  have hg2 := setCells_grown w.heap.size ((l.flatMap cPair).drop (i * 4)) ((i + 1) * 4) (W1.setCells w.heap.size (i * 4) (cPair x))
  have hB1 : Below w.heap.size w W1 := by rw [hW1]; exact below_alloc (below_drew (Below.refl _ _)) _
  have hfin : w.grownBy ((W1.setCells w.heap.size (i * 4) (cPair x)).setCells w.heap.size ((i + 1) * 4) ((l.flatMap cPair).drop (i * 4))) (some g) := by
    have h12 := grown_trans hg1 hg2
    have h0 := grown_of_below hB1 (some g)
    exact ⟨h12.os.trans h0.os, h12.tape.trans h0.tape, h12.output.trans h0.output, Nat.le_trans h0.size h12.size, fun j hj hne => (h12.block j (Nat.lt_of_lt_of_le hj h0.size) (by intro e; injection e with e; omega)).trans (h0.block j hj hne)⟩
  have hRfin : Kd.R k41 41 ((W1.setCells w.heap.size (i * 4) (cPair x)).setCells w.heap.size ((i + 1) * 4) ((l.flatMap cPair).drop (i * 4))) base (fun k => ok k ∨ w.heap.size ≤ k) (.slice (some ⟨w.heap.size, 0, none⟩) (l.length + 1) G) (insOf l i x) := by
    refine flatPair.row ⟨by simp [insOf]; omega, .inr (Nat.le_refl _), hbase, h2a, hGn, hGm, by rw [h2b, h1b, hRs]; rfl, ?_⟩
    rw [ins_cells, h2c, h1c, show k41.sz = 4 from rfl]
    have e1 : (ROW.toList.take (i * 4) ++ cPair x ++ ROW.toList.drop (i * 4 + (cPair x).length)).take ((i + 1) * 4) = (l.flatMap cPair).take (i * 4) ++ cPair x := by
      rw [hRt, List.take_append_of_le_length (by rw [List.length_append, htk, fx]; omega), List.take_of_length_le (by rw [List.length_append, htk, fx]; omega)]
    rw [e1, List.take_append_of_le_length (by rw [List.length_append, List.length_append, htk, fx, hdl]; omega), List.take_of_length_le (by rw [List.length_append, List.length_append, htk, fx, hdl]; omega)]
  have hOv : ∀ j v, (cPair x)[j]? = some v → W1.cell? ⟨gv, j, none⟩ = some v := fun j v h => by rw [hB1.cell (p := ⟨gv, j, none⟩) hvw]; exact hvs j v h
  have hOb : ∀ j v, (l.flatMap cPair)[j]? = some v → (W1.setCells w.heap.size (i * 4) (cPair x)).cell? ⟨g, j, none⟩ = some v := fun j v h => by
    rw [World.cell?_setCells_out _ _ _ _ _ (fun h _ => absurd h (by intro e; simp at e; omega)), hB1.cell (p := ⟨g, j, none⟩) hbw]; exact hcs j v h
  have hcpA : ∀ (W : World), (∀ x, W.cell? x = W1.cell? x) → (∀ x, W.frozen? x = W1.frozen? x) → ∀ ty dc, (Builtin.copy_ #[29, 28] ty #[.slice (some ⟨w.heap.size, i * 4, none⟩) (l.length + 1 - i) dc, .slice (some ⟨gv, 0, none⟩) 1 cv]).run Try.prog W = .ok (goInt (1 : Nat)) (W.setCells w.heap.size (i * 4) (cPair x)) := fun W hWc hWf ty dc =>
    run_copy_sz W _ _ ty 41 w.heap.size (i * 4) (l.length + 1 - i) dc ⟨gv, 0, none⟩ 1 cv 4 1 (cPair x) L29 hsz (by simp only [Nat.min_def]; split <;> omega) rfl
      (fun j v hj => by rw [add_plain, hWc]; exact hOv j v hj)
      (fun j hj => by rw [hWc, blk_cell HN, Array.getElem?_eq_getElem (by rw [hRs]; rw [fx] at hj; omega)]; rfl) (fun j hj => by rw [hWf]; exact blk_frozen HN _) (flatPair.one x)
  have hcpB : ∀ (W : World), (∀ y, W.cell? y = (W1.setCells w.heap.size (i * 4) (cPair x)).cell? y) → (∀ y, W.frozen? y = (W1.setCells w.heap.size (i * 4) (cPair x)).frozen? y) → ∀ ty dc sc, (Builtin.copy_ #[29, 29] ty #[.slice (some ⟨w.heap.size, (i + 1) * 4, none⟩) (l.length + 1 - (i + 1)) dc, .slice (some ⟨g, i * 4, none⟩) (l.length - i) sc]).run Try.prog W = .ok (goInt (l.length - i : Nat)) (W.setCells w.heap.size ((i + 1) * 4) ((l.flatMap cPair).drop (i * 4))) := fun W hWc hWf ty dc sc =>
    run_copy_sz W _ _ ty 41 w.heap.size ((i + 1) * 4) (l.length + 1 - (i + 1)) dc ⟨g, i * 4, none⟩ (l.length - i) sc 4 (l.length - i) _ L29 hsz (by simp only [Nat.min_def]; split <;> omega) hdl
      (fun j v hj => by rw [Addr.add_lit, hWc]; exact hOb _ v (by rwa [List.getElem?_drop] at hj))
      (fun j hj => by rw [hWc, blk_cell h1a, Array.getElem?_eq_getElem (by rw [h1b, hRs]; rw [hdl] at hj; omega)]; rfl) (fun j hj => by rw [hWf]; exact blk_frozen h1a _) (fun v hv => flatPair.fone l v (List.mem_of_mem_drop hv))
  have HR := Aside0.mk hRfin
  have HG := Aside0.mk hfin
  have hz2 : ¬ ((i : Int) = (l.length : Int)) := by omega
  have hz3 : (cap : Int) < (l.length : Int) + 1 := by omega
  have hGi : ¬ (G = i) := by omega
  have hGim : ¬ (G = i + 1) := by omega
  have hci : ¬ (cap = i) := by omega
  have hw1 : IntKind.i64.wrap ((i : Int) + 1) = (i : Int) + 1 := by rw [IntKind.wrap_i64]; omega
  have hb1 : (0 : Int) ≤ (i : Int) + 1 := by omega
  have hin : i ≤ l.length := by omega
  have htn : ((i : Int) + 1).toNat = i + 1 := by omega
  have hb3 : (i : Int) ≤ (l.length : Int) := by omega
  subst hW1
  have hE1 : ∀ y, ((w.alloc (.cells ROW 41)).drew).cell? y = (w.drew.alloc (.cells ROW 41)).cell? y := fun y => rfl
  have hE2 : ∀ y, ((w.alloc (.cells ROW 41)).drew).frozen? y = (w.drew.alloc (.cells ROW 41)).frozen? y := fun y => rfl
  have hF1 : ∀ y, (((w.alloc (.cells ROW 41)).drew.setCells w.heap.size (i * 4) (cPair x)).drew).cell? y = ((w.drew.alloc (.cells ROW 41)).setCells w.heap.size (i * 4) (cPair x)).cell? y := fun y => rfl
  have hF2 : ∀ y, (((w.alloc (.cells ROW 41)).drew.setCells w.heap.size (i * 4) (cPair x)).drew).frozen? y = ((w.drew.alloc (.cells ROW 41)).setCells w.heap.size (i * 4) (cPair x)).frozen? y := fun y => rfl
  have hcA := hcpA _ hE1 hE2
  have hcB := hcpB _ (fun _ => rfl) (fun _ => rfl)
  have hcB2 := hcpB _ hF1 hF2
  clear hkk hik hRs hRt HN h1a h1b h1c h2a h2b h2c hg1 hg2 hB1 hfin hRfin hOv hOb hcpA hcpB hcs hvs htk hdl fl fx B V hG
  go_enter Try.func37, Try.ntmps37
  go_wp2_with (first
    | (at_builtin; refine Lib.wpList_append_run _ rfl _ _ _ _ rfl _ _ rfl rfl _ _ hrz ?_)
    | (at_builtin; refine wpList_copy_run _ rfl _ _ 29 28 rfl _ _ rfl rfl (hcA _ _) ?_)
    | (at_builtin; refine wpList_copy_run _ rfl _ _ 29 29 rfl _ _ rfl rfl (hcB _ _ _) ?_))
  go_region_law (refine step_copy_run rfl _ _ 29 29 rfl (.slice (some ⟨w.heap.size, (i + 1) * 4, none⟩) (l.length + 1 - (i + 1)) (G - (i + 1))) (.slice (some ⟨g, i * 4, none⟩) (l.length - i) (cap - i)) (by simp [Act.eval, Act.put]) (by simp [Act.eval, Act.put]) (hcB2 3 (G - (i + 1)) (cap - i)) ?_)
  go_wp2
  go_ret
  have hh : (((w.alloc (.cells ROW 41)).drew.setCells w.heap.size (i * 4) (cPair x)).drew.setCells w.heap.size ((i + 1) * 4) ((l.flatMap cPair).drop (i * 4))).heap = (((w.drew.alloc (.cells ROW 41)).setCells w.heap.size (i * 4) (cPair x)).setCells w.heap.size ((i + 1) * 4) ((l.flatMap cPair).drop (i * 4))).heap := heap_setCells _ _ _ _ _ rfl
  have hg2 := setCells_grown w.heap.size ((l.flatMap cPair).drop (i * 4)) ((i + 1) * 4) ((w.alloc (.cells ROW 41)).drew.setCells w.heap.size (i * 4) (cPair x)).drew
  exact ⟨_, rfl, Kd.R_move HR.out (fun k _ => by rw [hh]), ⟨hg2.os, hg2.tape, hg2.output, by rw [hh]; exact HG.out.size, fun j hj hne => by rw [hh]; exact HG.out.block j hj hne⟩⟩
set_option maxHeartbeats 4000000 in
set_option maxRecDepth 100000 in
/-- slices.Insert of one: within, there is room -/
theorem insert_shift (w : World) (base : Nat) (ok okv : Nat → Prop) (g gv i cap cv : Nat) (l : List Pair) (x : Pair) (cur curv : Array Value) (B : Blk k41 cPair 41 w base ok g l.length cap l cur) (V : Blk k41 cPair 41 w base okv gv 1 cv [x] curv) (hne : gv ≠ g)
    (hi : i < l.length) (hroom : l.length + 1 ≤ cap) :
    Calls Try.prog 37 #[.slice (some ⟨g, 0, none⟩) l.length cap, .int .i64 i, .slice (some ⟨gv, 0, none⟩) 1 cv] w fun e w' => ∃ v', e = .returned v' ∧ Kd.R k41 41 w' base (fun k => ok k ∨ w.heap.size ≤ k) v' (insOf l i x) ∧ w.grownBy w' (some g) := by
  have hsz : (Try.prog.info? 41).map (·.size) = some 4 := by
    obtain ⟨i0, hi0, hzz⟩ := Option.map_eq_some_iff.1 info41
    simp only [Prod.mk.injEq] at hzz
    rw [hi0]; simp [hzz.2.1]
  have hu := Try.underlying41
  have L29 := Try.underlying29
  have L28 := Try.underlying28
  have hmax : cap ≤ 9223372036854775807 := B.max
  have fl : (l.flatMap cPair).length = l.length * 4 := flatPair.flen l
  have fx : (cPair x).length = 4 := rfl
  have hcur : cur.size = cap * 4 := B.size
  have hcs : ∀ j v, (l.flatMap cPair)[j]? = some v → w.cell? ⟨g, j, none⟩ = some v := B.cell
  have hvs : ∀ j v, (cPair x)[j]? = some v → w.cell? ⟨gv, j, none⟩ = some v := fun j v h => V.cell j v (by simpa using h)
  have htk : ((l.flatMap cPair).take (i * 4)).length = i * 4 := by rw [List.length_take, fl]; omega
  have hdl : ((l.flatMap cPair).drop (i * 4)).length = (l.length - i) * 4 := by rw [List.length_drop, fl]; omega
  obtain ⟨cur1, h1a, h1b, h1c⟩ := setCells_heap ((l.flatMap cPair).drop (i * 4)) ((i + 1) * 4) w.drew cur (show w.drew.heap[g]? = _ from B.heap) (by rw [hdl, hcur]; omega)
  obtain ⟨cur2, h2a, h2b, h2c⟩ := setCells_heap (cPair x) (i * 4) _ cur1 h1a (by rw [fx, h1b, hcur]; omega)
  have hg0 : w.grownBy w.drew (some g) := grown_of_below (below_drew (Below.refl _ _)) _
  have hfin := grown_trans hg0 (grown_trans (setCells_grown g ((l.flatMap cPair).drop (i * 4)) ((i + 1) * 4) w.drew) (setCells_grown g (cPair x) (i * 4) _))
  have hct : cur.toList.take (i * 4) = (l.flatMap cPair).take (i * 4) := by
    have h := congrArg (List.take (i * 4)) B.take
    rw [show k41.sz = 4 from rfl, List.take_take, Nat.min_eq_left (by omega)] at h
    exact h
  have hRfin : Kd.R k41 41 ((w.drew.setCells g ((i + 1) * 4) ((l.flatMap cPair).drop (i * 4))).setCells g (i * 4) (cPair x)) base (fun k => ok k ∨ w.heap.size ≤ k) (.slice (some ⟨g, 0, none⟩) (l.length + 1) cap) (insOf l i x) := by
    refine flatPair.row ⟨by simp [insOf]; omega, .inl B.okg, B.bas, h2a, hroom, B.max, by rw [h2b, h1b, hcur]; rfl, ?_⟩
    rw [ins_cells, h2c, h1c, show k41.sz = 4 from rfl, fx]
    have ht : (cur.toList.take ((i + 1) * 4)).length = (i + 1) * 4 := by rw [List.length_take, Array.length_toList, hcur]; omega
    have e0 : (cur.toList.take ((i + 1) * 4) ++ (l.flatMap cPair).drop (i * 4) ++ cur.toList.drop ((i + 1) * 4 + ((l.flatMap cPair).drop (i * 4)).length)).take (i * 4) = (l.flatMap cPair).take (i * 4) := by
      rw [List.append_assoc, List.take_append_of_le_length (by rw [ht]; omega), List.take_take, Nat.min_eq_left (by omega), hct]
    have e1 : (cur.toList.take ((i + 1) * 4) ++ (l.flatMap cPair).drop (i * 4) ++ cur.toList.drop ((i + 1) * 4 + ((l.flatMap cPair).drop (i * 4)).length)).drop (i * 4 + 4) = (l.flatMap cPair).drop (i * 4) ++ cur.toList.drop ((i + 1) * 4 + ((l.flatMap cPair).drop (i * 4)).length) := by
      rw [List.append_assoc, List.drop_append, List.drop_eq_nil_of_le (by rw [ht]; omega), ht, show i * 4 + 4 - (i + 1) * 4 = 0 by omega]; rfl
    rw [e0, e1, ← List.append_assoc, List.take_append_of_le_length (by rw [List.length_append, List.length_append, htk, fx, hdl]; omega), List.take_of_length_le (by rw [List.length_append, List.length_append, htk, fx, hdl]; omega)]
  have hov : ∀ lb cb, (callFunc 44 #[.slice (some ⟨gv, 0, none⟩) 1 cv, .slice (some ⟨g, (i + 1) * 4, none⟩) lb cb]).run Try.prog w = .ok (.value (.bool false)) w := fun lb cb => by
    rw [run_callFunc_extern Try.func44 (by kernel_rfl) (by kernel_rfl) (by kernel_rfl) (e := Extern.SlicesOverlaps.overlaps #[28, 28] #[4]) (by kernel_rfl),
      Lib.run_overlaps_apart w 28 4 41 L28 4 (by intro w; kernel_rfl) ⟨gv, 0, none⟩ ⟨g, (i + 1) * 4, none⟩ 1 cv lb cb hne 41 41 curv.size cur.size (by simp [World.shape?, V.heap]) (by simp [World.shape?, B.heap]) (by rw [hcur]; omega) (blk_frozen V.heap _) (blk_frozen V.heap _)]
    rfl
  have hcp1 : ∀ ty dc sc, (Builtin.copy_ #[29, 29] ty #[.slice (some ⟨g, (i + 1) * 4, none⟩) (l.length + 1 - (i + 1)) dc, .slice (some ⟨g, i * 4, none⟩) (l.length + 1 - i) sc]).run Try.prog w.drew = .ok (goInt (l.length - i : Nat)) (w.drew.setCells g ((i + 1) * 4) ((l.flatMap cPair).drop (i * 4))) := fun ty dc sc =>
    run_copy_sz w.drew _ _ ty 41 g ((i + 1) * 4) (l.length + 1 - (i + 1)) dc ⟨g, i * 4, none⟩ (l.length + 1 - i) sc 4 (l.length - i) _ L29 hsz (by simp only [Nat.min_def]; split <;> omega) hdl
      (fun j v hj => by rw [Addr.add_lit]; exact hcs _ v (by rwa [List.getElem?_drop] at hj))
      (fun j hj => by rw [show w.drew.cell? ⟨g, (i + 1) * 4 + j, none⟩ = w.cell? ⟨g, (i + 1) * 4 + j, none⟩ from rfl, blk_cell B.heap, Array.getElem?_eq_getElem (by rw [hcur]; rw [hdl] at hj; omega)]; rfl) (fun j hj => by exact blk_frozen (w := w.drew) B.heap _) (fun v hv => flatPair.fone l v (List.mem_of_mem_drop hv))
  have hvb : gv < w.heap.size := blk_lt V.heap
  have hcp2 : ∀ (W : World), (∀ y, W.cell? y = (w.drew.setCells g ((i + 1) * 4) ((l.flatMap cPair).drop (i * 4))).cell? y) → (∀ y, W.frozen? y = (w.drew.setCells g ((i + 1) * 4) ((l.flatMap cPair).drop (i * 4))).frozen? y) → ∀ ty dc, (Builtin.copy_ #[29, 28] ty #[.slice (some ⟨g, i * 4, none⟩) (l.length + 1 - i) dc, .slice (some ⟨gv, 0, none⟩) 1 cv]).run Try.prog W = .ok (goInt (1 : Nat)) (W.setCells g (i * 4) (cPair x)) := fun W hWc hWf ty dc =>
    run_copy_sz W _ _ ty 41 g (i * 4) (l.length + 1 - i) dc ⟨gv, 0, none⟩ 1 cv 4 1 (cPair x) L29 hsz (by simp only [Nat.min_def]; split <;> omega) rfl
      (fun j v hj => by rw [add_plain, hWc, World.cell?_setCells_out _ _ _ _ _ (fun h _ => absurd h hne)]; exact hvs j v hj)
      (fun j hj => by rw [hWc, blk_cell h1a, Array.getElem?_eq_getElem (by rw [h1b, hcur]; rw [fx] at hj; omega)]; rfl) (fun j hj => by rw [hWf]; exact blk_frozen h1a _) (flatPair.one x)
  have hc2 := hcp2 _ (fun _ => rfl) (fun _ => rfl)
  have HR := Aside0.mk hRfin
  have HG := Aside0.mk hfin
  have hz2 : ¬ ((i : Int) = (l.length : Int)) := by omega
  have hz3 : ¬ (cap : Int) < (l.length : Int) + 1 := by omega
  have hci : ¬ (cap = i) := by omega
  have hci1 : ¬ (cap = i + 1) := by omega
  have hw1 : IntKind.i64.wrap ((i : Int) + 1) = (i : Int) + 1 := by rw [IntKind.wrap_i64]; omega
  have hb1 : (0 : Int) ≤ (i : Int) + 1 := by omega
  have hin : i ≤ l.length := by omega
  have htn : ((i : Int) + 1).toNat = i + 1 := by omega
  have hb3 : (i : Int) ≤ (l.length : Int) + 1 := by omega
  have hb4 : (i : Int) ≤ (l.length : Int) := by omega
  clear h1a h1b h1c h2a h2b h2c hg0 hfin hRfin hct hcs hvs htk hdl fl fx B V hcur hcp2
  go_enter Try.func37, Try.ntmps37
  go_wp2_with (simp only [hov])
  go_region_law (refine step_copy_run rfl _ _ 29 29 rfl (.slice (some ⟨g, (i + 1) * 4, none⟩) (l.length + 1 - (i + 1)) (cap - (i + 1))) (.slice (some ⟨g, i * 4, none⟩) (l.length + 1 - i) (cap - i)) (by simp [Act.eval, Act.put]) (by simp [Act.eval, Act.put]) (hcp1 3 (cap - (i + 1)) (cap - i)) ?_)
  go_wp2_with (at_builtin; refine wpList_copy_run _ rfl _ _ 29 28 rfl _ _ rfl rfl (hc2 _ _) ?_)
  go_ret
  exact ⟨_, rfl, HR.out, HG.out⟩
set_option maxHeartbeats 4000000 in
set_option maxRecDepth 100000 in
/-- slices.Insert of one: at the end -/
theorem insert_end (w : World) (base : Nat) (ok okv : Nat → Prop) (u : Value) (gv cv : Nat) (l : List Pair) (x : Pair) (curv : Array Value) (HO : Kd.R k41 41 w base ok u l) (V : Blk k41 cPair 41 w base okv gv 1 cv [x] curv)
    (hbig : (l.length + 1) * 48 ≤ 140737488355328) (hbase : base ≤ w.heap.size) :
    Calls Try.prog 37 #[u, .int .i64 l.length, .slice (some ⟨gv, 0, none⟩) 1 cv] w fun e w' => ∃ v', e = .returned v' ∧ Kd.R k41 41 w' base (fun k => ok k ∨ w.heap.size ≤ k) v' (insOf l l.length x) ∧ w.grownBy w' u.ownBlock := by
  have hC := (Kd.R_reads' (flatPair.row V)).2.2
  obtain ⟨v1, w1, hrun, hR, hg⟩ := flatPair.append (P := Try.prog) (ty := 29) (cc := cv) Try.underlying29 Try.underlying28 info41 rfl (by decide) HO hC hbase hbig
  have e1 : insOf l l.length x = l ++ [x] := by simp [insOf]
  rw [← e1] at hR
  have HR := Aside0.mk hR
  have HG := Aside0.mk hg
  obtain ⟨A, c, rfl, hlc, hCC⟩ := Kd.R_reads HO
  have hl : l.length ≤ 9223372036854775807 := hCC.2.1
  clear hR hg HO V hC hCC e1
  go_enter Try.func37, Try.ntmps37
  cases A with
  | none =>
    go_wp2_with (at_builtin; go_must (refine Lib.wpList_append_run _ rfl _ _ _ _ rfl _ _ rfl rfl _ _ hrun ?_))
    go_ret
    exact ⟨_, rfl, HR.out, HG.out⟩
  | some a =>
    go_wp2_with (at_builtin; go_must (refine Lib.wpList_append_run _ rfl _ _ _ _ rfl _ _ rfl rfl _ _ hrun ?_))
    all_goals
      go_ret
      exact ⟨_, rfl, HR.out, HG.out⟩
def subst_Pair_37.f (l : List Pair) (i : Int) (v : List Pair) : Option (List Pair) := match v with
  | [x] => if 0 ≤ i ∧ i ≤ (l.length : Int) ∧ (l.length + 1) * 48 ≤ 140737488355328 then some (insOf l i.toNat x) else none
  | _ => none
theorem subst_Pair_37.calls (P0_ : Nat → Prop) (u9000_ : Value) (l0 : List Pair) (a1 : Int) (P2_ : Nat → Prop) (u9001_ : Value) (l2 r : List Pair) (w0 w : World) (hB : Below w0.heap.size w0 w)
    (ho0 : Kd.R k41 41 w w0.heap.size P0_ u9000_ l0) (hp0_2 : ∀ k_, P0_ k_ → ¬ P2_ k_) (ho2 : Kd.R k41 41 w w0.heap.size P2_ u9001_ l2) (hp2_0 : ∀ k_, P2_ k_ → ¬ P0_ k_) (h : subst_Pair_37.f l0 a1 l2 = some r) :
    Calls Try.prog 37 #[u9000_, .int .i64 a1, u9001_] w fun e w' => ∃ v0_ : Value, e = .returned v0_ ∧ Kd.R k41 41 w' w0.heap.size (fun k_ => ((P0_ k_ ∨ P2_ k_) ∨ w.heap.size ≤ k_)) v0_ r ∧ Below w0.heap.size w0 w' ∧ Kept w w' (fun k_ => (P0_ k_ ∨ P2_ k_)) := by
  unfold subst_Pair_37.f at h
  split at h
  case h_2 => cases h
  rename_i x
  split at h
  case isFalse => cases h
  rename_i hc
  obtain ⟨h1, h2, h3⟩ := hc
  cases h
  obtain ⟨i, rfl⟩ := Int.eq_ofNat_of_zero_le h1
  rw [Int.toNat_natCast]
  obtain ⟨gv, cv, curv, rfl, V⟩ := flatPair.some ho2 (by simp)
  have fin : ∀ {e : Ending} {w' : World}, (∃ v', e = .returned v' ∧ Kd.R k41 41 w' w0.heap.size (fun k => P0_ k ∨ w.heap.size ≤ k) v' (insOf l0 i x) ∧ w.grownBy w' u9000_.ownBlock) →
      ∃ v0_ : Value, e = .returned v0_ ∧ Kd.R k41 41 w' w0.heap.size (fun k_ => ((P0_ k_ ∨ P2_ k_) ∨ w.heap.size ≤ k_)) v0_ (insOf l0 i x) ∧ Below w0.heap.size w0 w' ∧ Kept w w' (fun k_ => (P0_ k_ ∨ P2_ k_)) := by
    rintro e w' ⟨v, rfl, hR, hg⟩
    exact ⟨v, rfl, Kd.R_mono hR (fun k hk => hk.imp_left .inl), pw_below_grown hB _ hB.size hg (fun k hk => Kd.R_base ho0 k hk), ⟨hg.size, fun i hi hn => hg.block i hi (fun e => hn (.inl (ho0.1 i e.symm)))⟩⟩
  rcases Nat.lt_or_ge i l0.length with hi | hi
  · obtain ⟨g, cap, cur, rfl, B⟩ := flatPair.some ho0 (by omega)
    rcases Nat.lt_or_ge cap (l0.length + 1) with hr | hr
    · exact (insert_grow w w0.heap.size P0_ P2_ g gv i cap cv l0 x cur curv B V hi hr h3 hB.size).mono fun e w' h => fin h
    · exact (insert_shift w w0.heap.size P0_ P2_ g gv i cap cv l0 x cur curv B V (fun e => hp0_2 g B.okg (e ▸ V.okg)) hi hr).mono fun e w' h => fin h
  · obtain rfl : i = l0.length := by omega
    exact (insert_end w w0.heap.size P0_ P2_ u9000_ gv cv l0 x curv ho0 V h3 hB.size).mono fun e w' h => fin h
end Go.Proofs.Ytdanihbbnepjpaa.H
namespace Go.Proofs.Ytdanihbbnepjpaa.H
open Go.RowKit Go.Proofs.YtdanihbbnepjpaaW.PrintWords
set_option linter.unusedVariables false
set_option linter.unusedSimpArgs false
/-! ### what names stand for: plain facts -/
theorem after_iff {a b : ByteArray} : after a b = true ↔ toL b < toL a := ord_less b a
theorem getOf_nil (s : ByteArray) : getOf [] s = none := rfl
theorem getOf_cons (p : Pair) (e : List Pair) (s : ByteArray) : getOf (p :: e) s = if p.name = s then some p.val else getOf e s := by
  unfold getOf
  by_cases h : p.name = s <;> simp [h]
theorem getOf_append (f : List Pair) (s : ByteArray) : ∀ e : List Pair, getOf (e ++ f) s = (getOf e s).or (getOf f s)
  | [] => by simp [getOf_nil]
  | p :: e => by
    rw [List.cons_append, getOf_cons, getOf_cons, getOf_append f s e]
    split <;> simp
theorem getOf_drop_ne {n s : ByteArray} (h : s ≠ n) : ∀ e : List Pair, getOf (dropOf e n) s = getOf e s
  | [] => rfl
  | p :: e => by
    have ih := getOf_drop_ne h e
    unfold dropOf at ih ⊢
    by_cases c : p.name = n
    · rw [List.filter_cons_of_neg (by simp [c]), ih, getOf_cons, if_neg (by rw [c]; exact fun e => h e.symm)]
    · rw [List.filter_cons_of_pos (by simp [c]), getOf_cons, getOf_cons, ih]
theorem getOf_none {s : ByteArray} : ∀ {e : List Pair}, getOf e s = none ↔ ∀ p ∈ e, p.name ≠ s
  | [] => by simp [getOf_nil]
  | p :: e => by
    rw [getOf_cons]
    by_cases c : p.name = s
    · simp [c]
    · rw [if_neg c, getOf_none]; simp [c]
theorem mem_dropOf {e : List Pair} {n : ByteArray} {p : Pair} : p ∈ dropOf e n ↔ p ∈ e ∧ p.name ≠ n := by
  unfold dropOf; simp
theorem getOf_drop_eq (e : List Pair) (n : ByteArray) : getOf (dropOf e n) n = none := getOf_none.2 fun p hp => (mem_dropOf.1 hp).2
theorem with_parts (e : List Pair) (n : ByteArray) : ((dropOf e n).takeWhile fun p => !after p.name n) ++ ((dropOf e n).dropWhile fun p => !after p.name n) = dropOf e n := List.takeWhile_append_dropWhile
theorem getOf_with (e : List Pair) (n : ByteArray) (v : Val) (s : ByteArray) : getOf (withOf e n v) s = if s = n then some (bareOf v) else getOf e s := by
  unfold withOf
  rw [getOf_append, getOf_cons]
  by_cases h : s = n
  · subst h
    have h1 := getOf_drop_eq e s
    rw [← with_parts e s, getOf_append] at h1
    have h2 : getOf ((dropOf e s).takeWhile fun p => !after p.name s) s = none := by
      cases hq : getOf ((dropOf e s).takeWhile fun p => !after p.name s) s with
      | none => rfl
      | some v => rw [hq] at h1; simp at h1
    rw [h2]; simp
  · rw [if_neg h, if_neg (fun e => h e.symm), ← getOf_append, with_parts, getOf_drop_ne h]
/-! ### rising -/
def Ris (e : List Pair) : Prop := e.Pairwise fun p q => toL p.name < toL q.name
theorem Ris.drop {e : List Pair} (h : Ris e) (n : ByteArray) : Ris (dropOf e n) := List.Pairwise.filter _ h
theorem ris_behind (n : ByteArray) : ∀ {l : List Pair}, Ris l → ∀ z ∈ l.dropWhile (fun p => !after p.name n), toL n < toL z.name
  | [], _, z, hz => by simp at hz
  | p :: l, h, z, hz => by
    have h' := List.pairwise_cons.1 h
    by_cases c : after p.name n = true
    · rw [List.dropWhile_cons_of_neg (by simp [c])] at hz
      have c' := after_iff.1 c
      rcases List.mem_cons.1 hz with rfl | hz
      · exact c'
      · exact List.lt_trans c' (h'.1 z hz)
    · rw [List.dropWhile_cons_of_pos (by simp [c])] at hz
      exact ris_behind n h'.2 z hz
theorem ris_ahead (n : ByteArray) : ∀ {l : List Pair}, (∀ z ∈ l, z.name ≠ n) → ∀ z ∈ l.takeWhile (fun p => !after p.name n), toL z.name < toL n
  | [], _, z, hz => by simp at hz
  | p :: l, h, z, hz => by
    by_cases c : after p.name n = true
    · rw [List.takeWhile_cons_of_neg (by simp [c])] at hz; simp at hz
    · rw [List.takeWhile_cons_of_pos (by simp [c])] at hz
      rcases List.mem_cons.1 hz with rfl | hz
      · rcases ord_three z.name n with h1 | h1 | h1
        · exact h1
        · exact absurd h1 (h z (by simp))
        · exact absurd (after_iff.2 h1) c
      · exact ris_ahead n (fun z hz => h z (by simp [hz])) z hz
theorem Ris.put {e : List Pair} (h : Ris e) (n : ByteArray) (v : Val) : Ris (withOf e n v) := by
  have hd := h.drop n
  have h1 := ris_behind n hd
  have h2 := ris_ahead n (l := dropOf e n) (fun z hz => (mem_dropOf.1 hz).2)
  have h3 := hd
  rw [← with_parts e n] at h3
  unfold Ris at h3 ⊢
  unfold withOf
  rw [List.pairwise_append] at h3 ⊢
  refine ⟨h3.1, List.pairwise_cons.2 ⟨h1, h3.2.1⟩, fun a ha b hb => ?_⟩
  rcases List.mem_cons.1 hb with rfl | hb
  · exact h2 a ha
  · exact h3.2.2 a ha b hb
theorem Ris.ext : ∀ {e f : List Pair}, Ris e → Ris f → (∀ s, getOf e s = getOf f s) → e = f
  | [], [], _, _, _ => rfl
  | [], q :: f, _, _, h => by have := h q.name; rw [getOf_nil, getOf_cons, if_pos rfl] at this; cases this
  | p :: e, [], _, _, h => by have := h p.name; rw [getOf_nil, getOf_cons, if_pos rfl] at this; cases this
  | p :: e, q :: f, he, hf, h => by
    have he' := List.pairwise_cons.1 he
    have hf' := List.pairwise_cons.1 hf
    have pn : getOf e p.name = none := getOf_none.2 fun z hz c => by have := he'.1 z hz; rw [c] at this; exact List.lt_irrefl _ this
    have qn : getOf f q.name = none := getOf_none.2 fun z hz c => by have := hf'.1 z hz; rw [c] at this; exact List.lt_irrefl _ this
    have hn : p.name = q.name := by
      rcases ord_three p.name q.name with c | c | c
      · have h1 := h p.name
        rw [getOf_cons, if_pos rfl, getOf_cons, if_neg (fun e => by rw [e] at c; exact List.lt_irrefl _ c)] at h1
        have : getOf f p.name = none := getOf_none.2 fun z hz c' => by have := List.lt_trans c (hf'.1 z hz); rw [c'] at this; exact List.lt_irrefl _ this
        rw [this] at h1; cases h1
      · exact c
      · have h1 := h q.name
        rw [getOf_cons, if_neg (fun e => by rw [e] at c; exact List.lt_irrefl _ c), getOf_cons, if_pos rfl] at h1
        have : getOf e q.name = none := getOf_none.2 fun z hz c' => by have := List.lt_trans c (he'.1 z hz); rw [c'] at this; exact List.lt_irrefl _ this
        rw [this] at h1; cases h1
    have hv : p.val = q.val := by
      have h1 := h p.name
      rw [getOf_cons, if_pos rfl, getOf_cons, if_pos hn.symm] at h1
      exact Option.some.inj h1
    have hpq : p = q := by cases p; cases q; simp at hn hv; simp [hn, hv]
    subst hpq
    congr 1
    refine Ris.ext he'.2 hf'.2 fun s => ?_
    by_cases c : p.name = s
    · rw [← c, pn, qn]
    · have h1 := h s
      rwa [getOf_cons, if_neg c, getOf_cons, if_neg c] at h1
theorem with_len (e : List Pair) (n : ByteArray) (v : Val) : (withOf e n v).length = (dropOf e n).length + 1 := by
  have := congrArg List.length (with_parts e n)
  rw [List.length_append] at this
  unfold withOf
  rw [List.length_append, List.length_cons]
  omega
theorem dropOf_len_le (e : List Pair) (n : ByteArray) : (dropOf e n).length ≤ e.length := List.length_filter_le _ _
theorem dropOf_self {e : List Pair} {n : ByteArray} (h : ∀ z ∈ e, z.name ≠ n) : dropOf e n = e := List.filter_eq_self.2 fun z hz => by simp [h z hz]
theorem Ris.drop_len : ∀ {e : List Pair}, Ris e → ∀ n, (dropOf e n).length + (if (getOf e n).isSome then 1 else 0) = e.length
  | [], _, n => rfl
  | p :: e, h, n => by
    have h' := List.pairwise_cons.1 h
    by_cases c : p.name = n
    · have pn : ∀ z ∈ e, z.name ≠ n := fun z hz c' => by have := h'.1 z hz; rw [c, c'] at this; exact List.lt_irrefl _ this
      have e1 : dropOf (p :: e) n = e := by
        have := dropOf_self pn
        unfold dropOf at this ⊢
        rw [List.filter_cons_of_neg (by simp [c]), this]
      rw [e1, getOf_cons, if_pos c]; simp
    · have ih := Ris.drop_len h'.2 n
      have e1 : dropOf (p :: e) n = p :: dropOf e n := by unfold dropOf; rw [List.filter_cons_of_pos (by simp [c])]
      rw [e1, getOf_cons, if_neg c, List.length_cons, List.length_cons]; omega
theorem drop_with (e : List Pair) (n : ByteArray) (v : Val) : dropOf (withOf e n v) n = dropOf e n := by
  have e1 := with_parts e n
  have e2 : dropOf (withOf e n v) n = dropOf (((dropOf e n).takeWhile fun p => !after p.name n) ++ ((dropOf e n).dropWhile fun p => !after p.name n)) n := by
    unfold withOf
    generalize ((dropOf e n).takeWhile fun p => !after p.name n) = a
    generalize ((dropOf e n).dropWhile fun p => !after p.name n) = b
    unfold dropOf
    rw [List.filter_append, List.filter_append, List.filter_cons_of_neg (by simp)]
  rw [e2, e1]
  exact dropOf_self fun z hz => (mem_dropOf.1 hz).2
theorem with_twice (e : List Pair) (n : ByteArray) (v u : Val) : withOf (withOf e n v) n u = withOf e n u := by
  unfold withOf
  rw [show dropOf (((dropOf e n).takeWhile fun p => !after p.name n) ++ ⟨n, bareOf v⟩ :: ((dropOf e n).dropWhile fun p => !after p.name n)) n = dropOf e n from drop_with e n v]
theorem with_swap {e : List Pair} (h : Ris e) {a b : ByteArray} (hab : a ≠ b) (x y : Val) : withOf (withOf e a x) b y = withOf (withOf e b y) a x := by
  refine Ris.ext ((h.put a x).put b y) ((h.put b y).put a x) fun s => ?_
  rw [getOf_with, getOf_with, getOf_with, getOf_with]
  by_cases c : s = a
  · subst c; rw [if_neg hab, if_pos rfl, if_pos rfl]
  · rw [if_neg c, if_neg c]
/-! ### what pairs make -/
def ofGo (e : List Pair) : List Pair → List Pair
  | [] => e
  | p :: l => if (getOf e p.name).isSome then ofGo e l else ofGo (withOf e p.name p.val) l
def ofP (l : List Pair) : List Pair := ofGo [] l
theorem ofGo_ris : ∀ (l : List Pair) {e : List Pair}, Ris e → Ris (ofGo e l)
  | [], e, h => h
  | p :: l, e, h => by
    unfold ofGo
    split
    · exact ofGo_ris l h
    · exact ofGo_ris l (h.put _ _)
theorem ofP_ris (l : List Pair) : Ris (ofP l) := ofGo_ris l List.Pairwise.nil
theorem ofGo_get (s : ByteArray) : ∀ (l e : List Pair), getOf (ofGo e l) s = (getOf e s).or ((getOf l s).map bareOf)
  | [], e => by unfold ofGo; rw [getOf_nil]; simp
  | p :: l, e => by
    unfold ofGo
    cases hq : getOf e p.name with
    | some v =>
      rw [if_pos (show (some v).isSome = true from rfl), ofGo_get s l e, getOf_cons]
      by_cases c : p.name = s
      · rw [← c, hq]; simp
      · rw [if_neg c]
    | none =>
      rw [if_neg (by simp), ofGo_get s l _, getOf_with, getOf_cons]
      by_cases c : p.name = s
      · subst c; rw [hq]; simp
      · rw [if_neg c, if_neg (fun e => c e.symm)]
theorem ofP_get (l : List Pair) (s : ByteArray) : getOf (ofP l) s = (getOf l s).map bareOf := by
  unfold ofP; rw [ofGo_get, getOf_nil]; simp
theorem with_len_le (e : List Pair) (n : ByteArray) (v : Val) : (withOf e n v).length ≤ e.length + 1 := by
  rw [with_len]; have := dropOf_len_le e n; omega
theorem ofGo_len : ∀ (l e : List Pair), (ofGo e l).length ≤ e.length + l.length
  | [], e => by unfold ofGo; simp
  | p :: l, e => by
    unfold ofGo
    split
    · have := ofGo_len l e; simp; omega
    · have := ofGo_len l (withOf e p.name p.val); have := with_len_le e p.name p.val; simp; omega
/-! ### the document's way -/
def rWithGo (one : Pair) : Bool → List Pair → List Pair → List Pair
  | done, acc, [] => if done then acc else acc ++ [one]
  | done, acc, p :: e => if p.name = one.name then rWithGo one done acc e else
      if after p.name one.name && !done then rWithGo one true (acc ++ [one] ++ [p]) e else rWithGo one done (acc ++ [p]) e
theorem rWithGo_done (one : Pair) : ∀ (e acc : List Pair), rWithGo one true acc e = acc ++ dropOf e one.name
  | [], acc => by simp [rWithGo, dropOf]
  | p :: e, acc => by
    unfold rWithGo
    by_cases c : p.name = one.name
    · rw [if_pos c, rWithGo_done one e acc]; unfold dropOf; rw [List.filter_cons_of_neg (by simp [c])]
    · rw [if_neg c, if_neg (by simp), rWithGo_done one e _]; unfold dropOf; rw [List.filter_cons_of_pos (by simp [c])]; simp
theorem rWithGo_eq (one : Pair) : ∀ (e acc : List Pair), rWithGo one false acc e = acc ++ (((dropOf e one.name).takeWhile fun p => !after p.name one.name) ++ one :: ((dropOf e one.name).dropWhile fun p => !after p.name one.name))
  | [], acc => by simp [rWithGo, dropOf]
  | p :: e, acc => by
    unfold rWithGo
    by_cases c : p.name = one.name
    · have e1 : dropOf (p :: e) one.name = dropOf e one.name := by unfold dropOf; rw [List.filter_cons_of_neg (by simp [c])]
      rw [if_pos c, rWithGo_eq one e acc, e1]
    · have e1 : dropOf (p :: e) one.name = p :: dropOf e one.name := by unfold dropOf; rw [List.filter_cons_of_pos (by simp [c])]
      rw [if_neg c, e1]
      by_cases a : after p.name one.name = true
      · rw [if_pos (by simp [a]), rWithGo_done, List.takeWhile_cons_of_neg (by simp [a]), List.dropWhile_cons_of_neg (by simp [a])]; simp
      · rw [if_neg (by simp [a]), rWithGo_eq one e _, List.takeWhile_cons_of_pos (by simp [a]), List.dropWhile_cons_of_pos (by simp [a])]; simp
/-! ### matching -/
def sameV (a b : Val) : Bool := decide (bareOf a = bareOf b)
def valueOf (t : Term) (e : List Pair) : Option Val := if t.isVar then getOf e t.name else some (bareOf t.val)
def matchGo : List Term → List Val → List Pair → Option (List Pair)
  | t :: ts, r :: rs, e => match valueOf t e with
    | none => matchGo ts rs (withOf e t.name r)
    | some v => if sameV v r then matchGo ts rs e else none
  | _, _, e => some e
def matchOf (ts : List Term) (rs : List Val) (e : List Pair) : Option (List Pair) := if ts.length = rs.length then matchGo ts rs e else none
def groundOf : List Term → List Pair → Option (List Val)
  | [], _ => some []
  | t :: ts, e => match valueOf t e with
    | none => none
    | some v => (groundOf ts e).map (v :: ·)
theorem bareOf_bare (v : Val) : bareOf (bareOf v) = bareOf v := by
  unfold bareOf
  cases v with
  | mk a b c => cases a <;> simp
theorem sameV_iff {a b : Val} : sameV a b = true ↔ bareOf a = bareOf b := by unfold sameV; exact decide_eq_true_iff
theorem valueOf_mono {e x : List Pair} (h : ∀ s v, getOf e s = some v → getOf x s = some v) {t : Term} {v : Val} (ht : valueOf t e = some v) : valueOf t x = some v := by
  unfold valueOf at ht ⊢
  split at ht
  · rename_i c; rw [if_pos c]; exact h _ _ ht
  · rename_i c; rw [if_neg c]; exact ht
theorem valueOf_none {t : Term} {e : List Pair} (h : valueOf t e = none) : t.isVar = true ∧ getOf e t.name = none := by
  unfold valueOf at h
  split at h
  · exact ⟨by assumption, h⟩
  · cases h
theorem with_mono {e : List Pair} {n : ByteArray} {r : Val} (hn : getOf e n = none) : ∀ s v, getOf e s = some v → getOf (withOf e n r) s = some v := fun s v h => by
  rw [getOf_with]
  by_cases c : s = n
  · rw [c, hn] at h; cases h
  · rw [if_neg c]; exact h
theorem match_mono : ∀ (ts : List Term) (rs : List Val) {e x : List Pair}, matchGo ts rs e = some x → ∀ s v, getOf e s = some v → getOf x s = some v
  | [], rs, e, x, h, s, v, hv => by unfold matchGo at h; cases h; exact hv
  | t :: ts, [], e, x, h, s, v, hv => by unfold matchGo at h; cases h; exact hv
  | t :: ts, r :: rs, e, x, h, s, v, hv => by
    unfold matchGo at h
    cases hq : valueOf t e with
    | none =>
      rw [hq] at h
      exact match_mono ts rs h s v (with_mono (valueOf_none hq).2 s v hv)
    | some u =>
      rw [hq] at h
      dsimp only at h
      split at h
      · exact match_mono ts rs h s v hv
      · cases h
/-- each term stands for its value -/
def Fits (x : List Pair) : List Term → List Val → Prop
  | t :: ts, r :: rs => (∃ v, valueOf t x = some v ∧ sameV v r = true) ∧ Fits x ts rs
  | [], [] => True
  | _, _ => False
theorem match_fits : ∀ (ts : List Term) (rs : List Val) {e x : List Pair}, ts.length = rs.length → matchGo ts rs e = some x → Fits x ts rs
  | [], [], e, x, _, h => trivial
  | [], _ :: _, e, x, hl, h => by simp at hl
  | _ :: _, [], e, x, hl, h => by simp at hl
  | t :: ts, r :: rs, e, x, hl, h => by
    have hl' : ts.length = rs.length := by simpa using hl
    have h0 := h
    unfold matchGo at h
    cases hq : valueOf t e with
    | none =>
      rw [hq] at h
      refine ⟨⟨bareOf r, ?_, sameV_iff.2 (bareOf_bare r)⟩, match_fits ts rs hl' h⟩
      have h1 := (valueOf_none hq).1
      unfold valueOf
      rw [if_pos h1]
      exact match_mono ts rs h _ _ (by rw [getOf_with, if_pos rfl])
    | some u =>
      rw [hq] at h
      dsimp only at h
      split at h
      · rename_i c
        exact ⟨⟨u, valueOf_mono (match_mono ts rs h) hq, c⟩, match_fits ts rs hl' h⟩
      · cases h
theorem fits_match {x : List Pair} : ∀ (ts : List Term) (rs : List Val), Fits x ts rs → matchGo ts rs x = some x
  | [], [], _ => rfl
  | [], _ :: _, h => by cases h
  | _ :: _, [], h => by cases h
  | t :: ts, r :: rs, h => by
    obtain ⟨⟨v, h1, h2⟩, h3⟩ := h
    unfold matchGo
    rw [h1]
    dsimp only
    rw [if_pos h2]
    exact fits_match ts rs h3
theorem fits_ground {x : List Pair} : ∀ (ts : List Term) (rs : List Val), Fits x ts rs → ∃ g, groundOf ts x = some g ∧ g.map bareOf = rs.map bareOf
  | [], [], _ => ⟨[], rfl, rfl⟩
  | [], _ :: _, h => by cases h
  | _ :: _, [], h => by cases h
  | t :: ts, r :: rs, h => by
    obtain ⟨⟨v, h1, h2⟩, h3⟩ := h
    obtain ⟨g, hg, hm⟩ := fits_ground ts rs h3
    refine ⟨v :: g, ?_, by simp [sameV_iff.1 h2, hm]⟩
    unfold groundOf
    rw [h1]
    dsimp only
    rw [hg]; rfl
theorem ground_len {x : List Pair} : ∀ (ts : List Term) {g : List Val}, groundOf ts x = some g → g.length = ts.length
  | [], g, h => by cases h; rfl
  | t :: ts, g, h => by
    unfold groundOf at h
    cases hq : valueOf t x with
    | none => rw [hq] at h; cases h
    | some v =>
      rw [hq] at h
      dsimp only at h
      obtain ⟨g', hg, rfl⟩ := Option.map_eq_some_iff.1 h
      have := ground_len ts hg
      simp [this]
/-! ### without variables -/
theorem ground_const {e : List Pair} : ∀ (ts : List Term), (∀ t ∈ ts, t.isVar = false) → groundOf ts e = some (ts.map fun t => bareOf t.val)
  | [], _ => rfl
  | t :: ts, h => by
    have h1 := h t (by simp)
    unfold groundOf valueOf
    rw [if_neg (by rw [h1]; simp)]
    dsimp only
    rw [ground_const ts (fun z hz => h z (by simp [hz]))]; rfl
theorem ground_free : ∀ (ts : List Term), (∃ t ∈ ts, t.isVar = true) → groundOf ts [] = none
  | [], h => by simp at h
  | t :: ts, h => by
    unfold groundOf valueOf
    by_cases c : t.isVar = true
    · rw [if_pos c, getOf_nil]
    · rw [if_neg c]
      dsimp only
      rw [ground_free ts (by
        obtain ⟨z, hz, hv⟩ := h
        rcases List.mem_cons.1 hz with rfl | hz
        · exact absurd hv c
        · exact ⟨z, hz, hv⟩)]; rfl
theorem match_const {e : List Pair} : ∀ (ts : List Term) (rs : List Val), ts.length = rs.length → (∀ t ∈ ts, t.isVar = false) → matchGo ts rs e = if (ts.map fun t => bareOf t.val) = rs.map bareOf then some e else none
  | [], [], _, _ => rfl
  | [], _ :: _, h, _ => by simp at h
  | _ :: _, [], h, _ => by simp at h
  | t :: ts, r :: rs, hl, h => by
    have h1 := h t (by simp)
    unfold matchGo valueOf
    rw [if_neg (by rw [h1]; simp)]
    dsimp only
    rw [match_const ts rs (by simpa using hl) (fun z hz => h z (by simp [hz]))]
    by_cases c : sameV (bareOf t.val) r = true
    · rw [if_pos c]
      have c' := sameV_iff.1 c
      rw [bareOf_bare] at c'
      simp [c']
    · rw [if_neg c, if_neg]
      intro e
      simp at e
      exact c (sameV_iff.2 (by rw [bareOf_bare]; exact e.1))
end Go.Proofs.Ytdanihbbnepjpaa.H
