/- RowStrataLeastUpto of the seat's law StrataLeastUpto: the law holds, under the statement's own conditions. -/
import Derived.Test.YtmlhnjonmjmhdaaProg
import Derived.Below
import Derived.Deep.Draws
import Derived.Deep.AppendLies
import Derived.Maps.AppendAt
import Derived.OwnWalk
import Derived.Laws.BytesArg
import Derived.Laws.MakeOwn
import Derived.Laws.OwnMore
import Derived.Deep.OwnRows
import Derived.Tactics
import Derived.Lib.ConvBytes
import Derived.Laws.Slices
import Derived.WalkKit
import Derived.KernelRfl
import Derived.RowKit3
import Derived.Deep.LoopGhost
import Derived.Deep.QuietTactic
import Derived.BigQuiet
import Derived.WideLaws
import Derived.Deep.DeepCutAuto
import Derived.Deep.CutBlock
import Derived.Deep.RegionHeld3
import Derived.Laws.Rows
import Derived.Lib.AppendStr
import Derived.ArgAppend
import Derived.Laws.IdiomCopy
import Derived.OrdersHeld
import Derived.Laws.BitsLemmas
import Derived.RowKit
import Derived.Test.YtmlhnjonmjmhdaaNW
import Derived.Sort.Grow
import Derived.Sort.EncStr
import Derived.Lib.SlicesCompact
import Derived.Shelf.Abstract
import Derived.Deep.DeepMust
import Derived.Outline
import Derived.Lib.SliceRun
import Derived.ChangeKeysEq
import Derived.Deep.DrawnRows
import Derived.Shelf.GgSortFunc.InsertionK
import Derived.Shelf.SlSortCmp.NoneTotal
set_option linter.unusedVariables false
set_option linter.unusedSimpArgs false
set_option linter.unusedSectionVars false
namespace Go.Proofs.Ytmlhnjonmjmhdaa.H
open Go.RowKit Go.Proofs.YtmlhnjonmjmhdaaW.PrintWords Go.Proofs.YtmlhnjonmjmhdaaW.PrintLast Go.Proofs.YtmlhnjonmjmhdaaW.PrintMore
attribute [local go_sem] max2_int min2_int max_two min_two max_three min_three max_four min_four
def errW : Option Int → Value
 | none => .nilIface
 | some c => .iface 0 (.int .i64 c)
theorem errW_none : errW none = .nilIface := rfl
theorem errW_some (c : Int) : errW (some c) = .iface 0 (.int .i64 c) := rfl
theorem info3 : (Try.prog.info? 3).map (fun i => (i.zero, i.size, i.bytes)) = some (some (.int .i64 0), 1, 8) := by kernel_rfl
theorem info4 : (Try.prog.info? 4).map (fun i => (i.zero, i.size, i.bytes)) = some (some (.bool false), 1, 1) := by kernel_rfl
theorem info5 : (Try.prog.info? 5).map (fun i => (i.zero, i.size, i.bytes)) = some (some (.int .u8 0), 1, 1) := by kernel_rfl
theorem info9 : (Try.prog.info? 9).map (fun i => (i.zero, i.size, i.bytes)) = some (some (.string ⟨#[]⟩), 1, 16) := by kernel_rfl
theorem info27 : (Try.prog.info? 27).map (fun i => (i.zero, i.size, i.bytes)) = some (some (.agg #[(.int .i64 0), (.int .i64 0)]), 2, 16) := by kernel_rfl
theorem info35 : (Try.prog.info? 35).map (fun i => (i.zero, i.size, i.bytes)) = some (some (.slice none 0 0), 1, 24) := by kernel_rfl
theorem info40 : (Try.prog.info? 40).map (fun i => (i.zero, i.size, i.bytes)) = some (some (.slice none 0 0), 1, 24) := by kernel_rfl
theorem info45 : (Try.prog.info? 45).map (fun i => (i.zero, i.size, i.bytes)) = some (some (.agg #[(.int .u8 0), (.int .u8 0)]), 2, 2) := by kernel_rfl
theorem info64 : (Try.prog.info? 64).map (fun i => (i.zero, i.size, i.bytes)) = some (some (.agg #[(.string ⟨#[]⟩), (.slice none 0 0), (.slice none 0 0)]), 3, 64) := by kernel_rfl
theorem info69 : (Try.prog.info? 69).map (fun i => (i.zero, i.size, i.bytes)) = some (some (.agg #[(.bool false), (.string ⟨#[]⟩), (.bool false), (.string ⟨#[]⟩), (.int .i64 0)]), 5, 56) := by kernel_rfl
theorem info71 : (Try.prog.info? 71).map (fun i => (i.zero, i.size, i.bytes)) = some (some (.agg #[(.int .i64 0), (.string ⟨#[]⟩), (.slice none 0 0), (.string ⟨#[]⟩), (.bool false), (.string ⟨#[]⟩), (.bool false), (.string ⟨#[]⟩), (.int .i64 0), (.bool false), (.string ⟨#[]⟩), (.bool false), (.string ⟨#[]⟩), (.int .i64 0)]), 14, 176) := by kernel_rfl
theorem info96 : (Try.prog.info? 96).map (fun i => (i.zero, i.size, i.bytes)) = some (some (.agg #[(.string ⟨#[]⟩), (.int .i64 0)]), 2, 24) := by kernel_rfl
-- the values' own types
/-! #### struct type 27 -/
structure IPair where
 fst : Int
 snd : Int
deriving DecidableEq
def z27 : IPair := ⟨(0 : Int), (0 : Int)⟩
def k27 : Kd IPair := Kd.iso (Kd.pair (Kd.int .i64) (Kd.int .i64)) (fun x : IPair => (x.fst, x.snd))
theorem k27_heap : Kd.Heap k27 := Kd.heap_iso _ (Kd.heap_pair (Kd.heap_int .i64) (Kd.heap_int .i64))
theorem k27_open {w : World} {x : IPair} {cs : List Value} (h : k27.K w x cs) : cs = [.int .i64 x.fst, .int .i64 x.snd] := by
 obtain ⟨_, _, rfl, rfl, rfl⟩ := h
 exact rfl
theorem k27_openM {w : World} {base : Nat} {ok : Nat → Prop} {x : IPair} {cs : List Value} (h : k27.M w base ok x cs) : cs = [.int .i64 x.fst, .int .i64 x.snd] := by
 obtain ⟨_, _, rfl, rfl, rfl⟩ := h
 exact rfl
theorem k27_mk (w : World) (x : IPair)  : k27.K w x [.int .i64 x.fst, .int .i64 x.snd] := ⟨[.int .i64 x.fst], [.int .i64 x.snd], rfl, rfl, rfl⟩
theorem k27_mkM (w : World) (base : Nat) (ok : Nat → Prop) (x : IPair)  : k27.M w base ok x [.int .i64 x.fst, .int .i64 x.snd] := ⟨[.int .i64 x.fst], [.int .i64 x.snd], rfl, rfl, rfl⟩
theorem k27_mkF (W : World) (ok : Nat → Prop) (x : IPair) : Kd.FK k27 W ok x [.int .i64 x.fst, .int .i64 x.snd] := fun W2 _ => k27_mk W2 x
def rd_T27 (xs : List IPair) (i : Int) : IPair := xs.getD i.toNat z27
theorem at_T27 {w : World} {A : Option Addr} {n : Nat} {xs : List IPair} (h : Kd.C k27 w A n xs) (i : Int) (h0 : 0 ≤ i) (h1 : i < n) : ∃ ad , A = some ad ∧ w.cell? (ad.add (i.toNat * 2)) = some (.int .i64 (rd_T27 xs i).fst) ∧ w.cell? ⟨(ad.add (i.toNat * 2)).block, (ad.add (i.toNat * 2)).off + 1, none⟩ = some (.int .i64 (rd_T27 xs i).snd) := by
 obtain ⟨ad, c, e, _, hK, hc0⟩ := Kd.C_get h z27 i h0 h1
 have hc : ∀ j u, c[j]? = some u → w.cell? (ad.add (i.toNat * 2 + j)) = some u := hc0
 obtain rfl := k27_open hK
 exact ⟨ad, e, hc 0 _ rfl, by rw [← add_field _ _ 1 (by omega)]; exact hc 1 _ rfl⟩
/-! #### struct type 45 -/
structure BPair where
 fst : Int
 snd : Int
deriving DecidableEq
def z45 : BPair := ⟨(0 : Int), (0 : Int)⟩
def k45 : Kd BPair := Kd.iso (Kd.pair (Kd.int .u8) (Kd.int .u8)) (fun x : BPair => (x.fst, x.snd))
theorem k45_heap : Kd.Heap k45 := Kd.heap_iso _ (Kd.heap_pair (Kd.heap_int .u8) (Kd.heap_int .u8))
theorem k45_open {w : World} {x : BPair} {cs : List Value} (h : k45.K w x cs) : cs = [.int .u8 x.fst, .int .u8 x.snd] := by
 obtain ⟨_, _, rfl, rfl, rfl⟩ := h
 exact rfl
theorem k45_openM {w : World} {base : Nat} {ok : Nat → Prop} {x : BPair} {cs : List Value} (h : k45.M w base ok x cs) : cs = [.int .u8 x.fst, .int .u8 x.snd] := by
 obtain ⟨_, _, rfl, rfl, rfl⟩ := h
 exact rfl
theorem k45_mk (w : World) (x : BPair)  : k45.K w x [.int .u8 x.fst, .int .u8 x.snd] := ⟨[.int .u8 x.fst], [.int .u8 x.snd], rfl, rfl, rfl⟩
theorem k45_mkM (w : World) (base : Nat) (ok : Nat → Prop) (x : BPair)  : k45.M w base ok x [.int .u8 x.fst, .int .u8 x.snd] := ⟨[.int .u8 x.fst], [.int .u8 x.snd], rfl, rfl, rfl⟩
theorem k45_mkF (W : World) (ok : Nat → Prop) (x : BPair) : Kd.FK k45 W ok x [.int .u8 x.fst, .int .u8 x.snd] := fun W2 _ => k45_mk W2 x
def rd_T45 (xs : List BPair) (i : Int) : BPair := xs.getD i.toNat z45
theorem at_T45 {w : World} {A : Option Addr} {n : Nat} {xs : List BPair} (h : Kd.C k45 w A n xs) (i : Int) (h0 : 0 ≤ i) (h1 : i < n) : ∃ ad , A = some ad ∧ w.cell? (ad.add (i.toNat * 2)) = some (.int .u8 (rd_T45 xs i).fst) ∧ w.cell? ⟨(ad.add (i.toNat * 2)).block, (ad.add (i.toNat * 2)).off + 1, none⟩ = some (.int .u8 (rd_T45 xs i).snd) := by
 obtain ⟨ad, c, e, _, hK, hc0⟩ := Kd.C_get h z45 i h0 h1
 have hc : ∀ j u, c[j]? = some u → w.cell? (ad.add (i.toNat * 2 + j)) = some u := hc0
 obtain rfl := k45_open hK
 exact ⟨ad, e, hc 0 _ rfl, by rw [← add_field _ _ 1 (by omega)]; exact hc 1 _ rfl⟩
/-! #### struct type 96 -/
structure Decl where
 pred : ByteArray
 arity : Int
deriving DecidableEq
def z96 : Decl := ⟨(⟨#[]⟩ : ByteArray), (0 : Int)⟩
def k96 : Kd Decl := Kd.iso (Kd.pair Kd.string (Kd.int .i64)) (fun x : Decl => (x.pred, x.arity))
theorem k96_heap : Kd.Heap k96 := Kd.heap_iso _ (Kd.heap_pair Kd.heap_string (Kd.heap_int .i64))
theorem k96_open {w : World} {x : Decl} {cs : List Value} (h : k96.K w x cs) : cs = [.string x.pred, .int .i64 x.arity] := by
 obtain ⟨_, _, rfl, rfl, rfl⟩ := h
 exact rfl
theorem k96_openM {w : World} {base : Nat} {ok : Nat → Prop} {x : Decl} {cs : List Value} (h : k96.M w base ok x cs) : cs = [.string x.pred, .int .i64 x.arity] := by
 obtain ⟨_, _, rfl, rfl, rfl⟩ := h
 exact rfl
theorem k96_mk (w : World) (x : Decl)  : k96.K w x [.string x.pred, .int .i64 x.arity] := ⟨[.string x.pred], [.int .i64 x.arity], rfl, rfl, rfl⟩
theorem k96_mkM (w : World) (base : Nat) (ok : Nat → Prop) (x : Decl)  : k96.M w base ok x [.string x.pred, .int .i64 x.arity] := ⟨[.string x.pred], [.int .i64 x.arity], rfl, rfl, rfl⟩
theorem k96_mkF (W : World) (ok : Nat → Prop) (x : Decl) : Kd.FK k96 W ok x [.string x.pred, .int .i64 x.arity] := fun W2 _ => k96_mk W2 x
def rd_T96 (xs : List Decl) (i : Int) : Decl := xs.getD i.toNat z96
theorem at_T96 {w : World} {A : Option Addr} {n : Nat} {xs : List Decl} (h : Kd.C k96 w A n xs) (i : Int) (h0 : 0 ≤ i) (h1 : i < n) : ∃ ad , A = some ad ∧ w.cell? (ad.add (i.toNat * 2)) = some (.string (rd_T96 xs i).pred) ∧ w.cell? ⟨(ad.add (i.toNat * 2)).block, (ad.add (i.toNat * 2)).off + 1, none⟩ = some (.int .i64 (rd_T96 xs i).arity) := by
 obtain ⟨ad, c, e, _, hK, hc0⟩ := Kd.C_get h z96 i h0 h1
 have hc : ∀ j u, c[j]? = some u → w.cell? (ad.add (i.toNat * 2 + j)) = some u := hc0
 obtain rfl := k96_open hK
 exact ⟨ad, e, hc 0 _ rfl, by rw [← add_field _ _ 1 (by omega)]; exact hc 1 _ rfl⟩
def rd_L6 (xs : List (List Decl)) (i : Int) : (List Decl) := xs.getD i.toNat ([] : List Decl)
theorem at_L6 {w : World} {A : Option Addr} {n : Nat} {xs : List (List Decl)} (h : Kd.C (Kd.slice 96 k96) w A n xs) (i : Int) (h0 : 0 ≤ i) (h1 : i < n) : ∃ ad A0 c0, A = some ad ∧ w.cell? (ad.add i.toNat) = some (.slice A0 (rd_L6 xs i).length c0) ∧ (rd_L6 xs i).length ≤ c0 ∧ k96.C w A0 (rd_L6 xs i).length (rd_L6 xs i) := by
 obtain ⟨ad, c, e, _, hK, hc0⟩ := Kd.C_get h ([] : List Decl) i h0 h1
 have hc : ∀ j u, c[j]? = some u → w.cell? (ad.add (i.toNat * 1 + j)) = some u := hc0
 obtain ⟨A0, c0, rfl, l0, g0⟩ := hK
 exact ⟨ad, A0, c0, e, by have hq := hc 0 _ rfl; rwa [Nat.mul_one, Nat.add_zero] at hq, l0, g0⟩
/-! #### struct type 67 -/
structure Val where
 isSym : Bool
 sym : ByteArray
 n : Int
deriving DecidableEq
def z67 : Val := ⟨false, (⟨#[]⟩ : ByteArray), (0 : Int)⟩
def k67 : Kd Val := Kd.iso (Kd.pair Kd.bool (Kd.pair Kd.string (Kd.int .i64))) (fun x : Val => (x.isSym, x.sym, x.n))
theorem k67_heap : Kd.Heap k67 := Kd.heap_iso _ (Kd.heap_pair Kd.heap_bool (Kd.heap_pair Kd.heap_string (Kd.heap_int .i64)))
theorem k67_open {w : World} {x : Val} {cs : List Value} (h : k67.K w x cs) : cs = [.bool x.isSym, .string x.sym, .int .i64 x.n] := by
 obtain ⟨_, _, rfl, rfl, ⟨_, _, rfl, rfl, rfl⟩⟩ := h
 exact rfl
theorem k67_openM {w : World} {base : Nat} {ok : Nat → Prop} {x : Val} {cs : List Value} (h : k67.M w base ok x cs) : cs = [.bool x.isSym, .string x.sym, .int .i64 x.n] := by
 obtain ⟨_, _, rfl, rfl, ⟨_, _, rfl, rfl, rfl⟩⟩ := h
 exact rfl
theorem k67_mk (w : World) (x : Val)  : k67.K w x [.bool x.isSym, .string x.sym, .int .i64 x.n] := ⟨[.bool x.isSym], [.string x.sym, .int .i64 x.n], rfl, rfl, ⟨[.string x.sym], [.int .i64 x.n], rfl, rfl, rfl⟩⟩
theorem k67_mkM (w : World) (base : Nat) (ok : Nat → Prop) (x : Val)  : k67.M w base ok x [.bool x.isSym, .string x.sym, .int .i64 x.n] := ⟨[.bool x.isSym], [.string x.sym, .int .i64 x.n], rfl, rfl, ⟨[.string x.sym], [.int .i64 x.n], rfl, rfl, rfl⟩⟩
theorem k67_mkF (W : World) (ok : Nat → Prop) (x : Val) : Kd.FK k67 W ok x [.bool x.isSym, .string x.sym, .int .i64 x.n] := fun W2 _ => k67_mk W2 x
def rd_T67 (xs : List Val) (i : Int) : Val := xs.getD i.toNat z67
theorem at_T67 {w : World} {A : Option Addr} {n : Nat} {xs : List Val} (h : Kd.C k67 w A n xs) (i : Int) (h0 : 0 ≤ i) (h1 : i < n) : ∃ ad , A = some ad ∧ w.cell? (ad.add (i.toNat * 3)) = some (.bool (rd_T67 xs i).isSym) ∧ w.cell? ⟨(ad.add (i.toNat * 3)).block, (ad.add (i.toNat * 3)).off + 1, none⟩ = some (.string (rd_T67 xs i).sym) ∧ w.cell? ⟨(ad.add (i.toNat * 3)).block, (ad.add (i.toNat * 3)).off + 2, none⟩ = some (.int .i64 (rd_T67 xs i).n) := by
 obtain ⟨ad, c, e, _, hK, hc0⟩ := Kd.C_get h z67 i h0 h1
 have hc : ∀ j u, c[j]? = some u → w.cell? (ad.add (i.toNat * 3 + j)) = some u := hc0
 obtain rfl := k67_open hK
 exact ⟨ad, e, hc 0 _ rfl, by rw [← add_field _ _ 1 (by omega)]; exact hc 1 _ rfl, by rw [← add_field _ _ 2 (by omega)]; exact hc 2 _ rfl⟩
/-! #### struct type 69 -/
structure Term where
 isVar : Bool
 name : ByteArray
 val : Val
deriving DecidableEq
def z69 : Term := ⟨false, (⟨#[]⟩ : ByteArray), z67⟩
def k69 : Kd Term := Kd.iso (Kd.pair Kd.bool (Kd.pair Kd.string k67)) (fun x : Term => (x.isVar, x.name, x.val))
theorem k69_heap : Kd.Heap k69 := Kd.heap_iso _ (Kd.heap_pair Kd.heap_bool (Kd.heap_pair Kd.heap_string k67_heap))
theorem k69_open {w : World} {x : Term} {cs : List Value} (h : k69.K w x cs) : cs = [.bool x.isVar, .string x.name, .bool x.val.isSym, .string x.val.sym, .int .i64 x.val.n] := by
 obtain ⟨_, _, rfl, rfl, ⟨_, _, rfl, rfl, s2⟩⟩ := h
 obtain rfl := k67_open s2
 exact rfl
theorem k69_openM {w : World} {base : Nat} {ok : Nat → Prop} {x : Term} {cs : List Value} (h : k69.M w base ok x cs) : cs = [.bool x.isVar, .string x.name, .bool x.val.isSym, .string x.val.sym, .int .i64 x.val.n] := by
 obtain ⟨_, _, rfl, rfl, ⟨_, _, rfl, rfl, s2⟩⟩ := h
 obtain rfl := k67_openM s2
 exact rfl
theorem k69_mk (w : World) (x : Term)  : k69.K w x [.bool x.isVar, .string x.name, .bool x.val.isSym, .string x.val.sym, .int .i64 x.val.n] := ⟨[.bool x.isVar], [.string x.name, .bool x.val.isSym, .string x.val.sym, .int .i64 x.val.n], rfl, rfl, ⟨[.string x.name], [.bool x.val.isSym, .string x.val.sym, .int .i64 x.val.n], rfl, rfl, (k67_mk w x.val )⟩⟩
theorem k69_mkM (w : World) (base : Nat) (ok : Nat → Prop) (x : Term)  : k69.M w base ok x [.bool x.isVar, .string x.name, .bool x.val.isSym, .string x.val.sym, .int .i64 x.val.n] := ⟨[.bool x.isVar], [.string x.name, .bool x.val.isSym, .string x.val.sym, .int .i64 x.val.n], rfl, rfl, ⟨[.string x.name], [.bool x.val.isSym, .string x.val.sym, .int .i64 x.val.n], rfl, rfl, (k67_mkM w base ok x.val )⟩⟩
theorem k69_mkF (W : World) (ok : Nat → Prop) (x : Term) : Kd.FK k69 W ok x [.bool x.isVar, .string x.name, .bool x.val.isSym, .string x.val.sym, .int .i64 x.val.n] := fun W2 _ => k69_mk W2 x
def rd_T69 (xs : List Term) (i : Int) : Term := xs.getD i.toNat z69
theorem at_T69 {w : World} {A : Option Addr} {n : Nat} {xs : List Term} (h : Kd.C k69 w A n xs) (i : Int) (h0 : 0 ≤ i) (h1 : i < n) : ∃ ad , A = some ad ∧ w.cell? (ad.add (i.toNat * 5)) = some (.bool (rd_T69 xs i).isVar) ∧ w.cell? ⟨(ad.add (i.toNat * 5)).block, (ad.add (i.toNat * 5)).off + 1, none⟩ = some (.string (rd_T69 xs i).name) ∧ w.cell? ⟨(ad.add (i.toNat * 5)).block, (ad.add (i.toNat * 5)).off + 2, none⟩ = some (.bool (rd_T69 xs i).val.isSym) ∧ w.cell? ⟨(ad.add (i.toNat * 5)).block, (ad.add (i.toNat * 5)).off + 3, none⟩ = some (.string (rd_T69 xs i).val.sym) ∧ w.cell? ⟨(ad.add (i.toNat * 5)).block, (ad.add (i.toNat * 5)).off + 4, none⟩ = some (.int .i64 (rd_T69 xs i).val.n) := by
 obtain ⟨ad, c, e, _, hK, hc0⟩ := Kd.C_get h z69 i h0 h1
 have hc : ∀ j u, c[j]? = some u → w.cell? (ad.add (i.toNat * 5 + j)) = some u := hc0
 obtain rfl := k69_open hK
 exact ⟨ad, e, hc 0 _ rfl, by rw [← add_field _ _ 1 (by omega)]; exact hc 1 _ rfl, by rw [← add_field _ _ 2 (by omega)]; exact hc 2 _ rfl, by rw [← add_field _ _ 3 (by omega)]; exact hc 3 _ rfl, by rw [← add_field _ _ 4 (by omega)]; exact hc 4 _ rfl⟩
def rd_L10 (xs : List (List Term)) (i : Int) : (List Term) := xs.getD i.toNat ([] : List Term)
theorem at_L10 {w : World} {A : Option Addr} {n : Nat} {xs : List (List Term)} (h : Kd.C (Kd.slice 69 k69) w A n xs) (i : Int) (h0 : 0 ≤ i) (h1 : i < n) : ∃ ad A0 c0, A = some ad ∧ w.cell? (ad.add i.toNat) = some (.slice A0 (rd_L10 xs i).length c0) ∧ (rd_L10 xs i).length ≤ c0 ∧ k69.C w A0 (rd_L10 xs i).length (rd_L10 xs i) := by
 obtain ⟨ad, c, e, _, hK, hc0⟩ := Kd.C_get h ([] : List Term) i h0 h1
 have hc : ∀ j u, c[j]? = some u → w.cell? (ad.add (i.toNat * 1 + j)) = some u := hc0
 obtain ⟨A0, c0, rfl, l0, g0⟩ := hK
 exact ⟨ad, A0, c0, e, by have hq := hc 0 _ rfl; rwa [Nat.mul_one, Nat.add_zero] at hq, l0, g0⟩
/-! #### struct type 61 -/
structure Atom where
 pred : ByteArray
 args : (List Term)
deriving DecidableEq
def z61 : Atom := ⟨(⟨#[]⟩ : ByteArray), ([] : List Term)⟩
def k61 : Kd Atom := Kd.iso (Kd.pair Kd.string (Kd.slice 69 k69)) (fun x : Atom => (x.pred, x.args))
theorem k61_heap : Kd.Heap k61 := Kd.heap_iso _ (Kd.heap_pair Kd.heap_string (Kd.heap_slice 69 k69_heap))
theorem k61_open {w : World} {x : Atom} {cs : List Value} (h : k61.K w x cs) : ∃ A1 c1, cs = [.string x.pred, .slice A1 x.args.length c1] ∧ x.args.length ≤ c1 ∧ k69.C w A1 x.args.length x.args := by
 obtain ⟨_, _, rfl, rfl, ⟨A1, c1, rfl, l1, g1⟩⟩ := h
 exact ⟨A1, c1, rfl, l1, g1⟩
theorem k61_openM {w : World} {base : Nat} {ok : Nat → Prop} {x : Atom} {cs : List Value} (h : k61.M w base ok x cs) : ∃ v1, cs = [.string x.pred, v1] ∧ k69.R 69 w base ok v1 x.args := by
 obtain ⟨_, _, rfl, rfl, ⟨v1, rfl, g1⟩⟩ := h
 exact ⟨v1, rfl, g1⟩
theorem k61_mk (w : World) (x : Atom) {A1 : Option Addr} {c1 : Nat} (l1 : x.args.length ≤ c1) (g1 : k69.C w A1 x.args.length x.args) : k61.K w x [.string x.pred, .slice A1 x.args.length c1] := ⟨[.string x.pred], [.slice A1 x.args.length c1], rfl, rfl, ⟨A1, c1, rfl, l1, g1⟩⟩
theorem k61_mkM (w : World) (base : Nat) (ok : Nat → Prop) (x : Atom) {v1 : Value} (g1 : k69.R 69 w base ok v1 x.args) : k61.M w base ok x [.string x.pred, v1] := ⟨[.string x.pred], [v1], rfl, rfl, ⟨v1, rfl, g1⟩⟩
theorem k61_openF {W : World} {ok : Nat → Prop} {x : Atom} {cs : List Value} (h : Kd.FK k61 W ok x cs) : ∃ A1 c1, cs = [.string x.pred, .slice A1 x.args.length c1] ∧ x.args.length ≤ c1 ∧ Kd.F k69 W ok A1 x.args.length x.args := by
 obtain ⟨A1, c1, rfl, l1, _⟩ := k61_open (Kd.FK_now h)
 exact ⟨A1, c1, rfl, l1, (fun W' hW => by obtain ⟨A1_, c1_, he, l1_, g1_⟩ := k61_open (h W' hW); injection (Option.some.inj (show some (Value.slice A1 x.args.length c1) = some (Value.slice A1_ x.args.length c1_) from congrArg (fun l => l[1]?) he)) with ha_ _ _; rw [ha_]; exact g1_)⟩
theorem k61_mkF (W : World) (ok : Nat → Prop) (x : Atom) {A1 : Option Addr} {c1 : Nat} (l1 : x.args.length ≤ c1) (g1 : Kd.F k69 W ok A1 x.args.length x.args) : Kd.FK k61 W ok x [.string x.pred, .slice A1 x.args.length c1] := fun W2 hW => k61_mk W2 x l1 (g1 W2 hW)
def rd_T61 (xs : List Atom) (i : Int) : Atom := xs.getD i.toNat z61
theorem at_T61 {w : World} {A : Option Addr} {n : Nat} {xs : List Atom} (h : Kd.C k61 w A n xs) (i : Int) (h0 : 0 ≤ i) (h1 : i < n) : ∃ ad A1 c1, A = some ad ∧ w.cell? (ad.add (i.toNat * 2)) = some (.string (rd_T61 xs i).pred) ∧ w.cell? ⟨(ad.add (i.toNat * 2)).block, (ad.add (i.toNat * 2)).off + 1, none⟩ = some (.slice A1 (rd_T61 xs i).args.length c1) ∧ (rd_T61 xs i).args.length ≤ c1 ∧ k69.C w A1 (rd_T61 xs i).args.length (rd_T61 xs i).args := by
 obtain ⟨ad, c, e, _, hK, hc0⟩ := Kd.C_get h z61 i h0 h1
 have hc : ∀ j u, c[j]? = some u → w.cell? (ad.add (i.toNat * 2 + j)) = some u := hc0
 obtain ⟨A1, c1, rfl, l1, g1⟩ := k61_open hK
 exact ⟨ad, A1, c1, e, hc 0 _ rfl, by rw [← add_field _ _ 1 (by omega)]; exact hc 1 _ rfl, l1, g1⟩
/-! #### struct type 71 -/
structure Liter where
 kind : Int
 atom : Atom
 op : ByteArray
 l : Term
 r : Term
deriving DecidableEq
def z71 : Liter := ⟨(0 : Int), z61, (⟨#[]⟩ : ByteArray), z69, z69⟩
def k71 : Kd Liter := Kd.iso (Kd.pair (Kd.int .i64) (Kd.pair k61 (Kd.pair Kd.string (Kd.pair k69 k69)))) (fun x : Liter => (x.kind, x.atom, x.op, x.l, x.r))
theorem k71_heap : Kd.Heap k71 := Kd.heap_iso _ (Kd.heap_pair (Kd.heap_int .i64) (Kd.heap_pair k61_heap (Kd.heap_pair Kd.heap_string (Kd.heap_pair k69_heap k69_heap))))
theorem k71_open {w : World} {x : Liter} {cs : List Value} (h : k71.K w x cs) : ∃ A2 c2, cs = [.int .i64 x.kind, .string x.atom.pred, .slice A2 x.atom.args.length c2, .string x.op, .bool x.l.isVar, .string x.l.name, .bool x.l.val.isSym, .string x.l.val.sym, .int .i64 x.l.val.n, .bool x.r.isVar, .string x.r.name, .bool x.r.val.isSym, .string x.r.val.sym, .int .i64 x.r.val.n] ∧ x.atom.args.length ≤ c2 ∧ k69.C w A2 x.atom.args.length x.atom.args := by
 obtain ⟨_, _, rfl, rfl, ⟨_, _, rfl, s1, ⟨_, _, rfl, rfl, ⟨_, _, rfl, s4, s9⟩⟩⟩⟩ := h
 obtain ⟨A2, c2, rfl, l2, g2⟩ := k61_open s1
 obtain rfl := k69_open s4
 obtain rfl := k69_open s9
 exact ⟨A2, c2, rfl, l2, g2⟩
theorem k71_openM {w : World} {base : Nat} {ok : Nat → Prop} {x : Liter} {cs : List Value} (h : k71.M w base ok x cs) : ∃ v2, cs = [.int .i64 x.kind, .string x.atom.pred, v2, .string x.op, .bool x.l.isVar, .string x.l.name, .bool x.l.val.isSym, .string x.l.val.sym, .int .i64 x.l.val.n, .bool x.r.isVar, .string x.r.name, .bool x.r.val.isSym, .string x.r.val.sym, .int .i64 x.r.val.n] ∧ k69.R 69 w base ok v2 x.atom.args := by
 obtain ⟨_, _, rfl, rfl, ⟨_, _, rfl, s1, ⟨_, _, rfl, rfl, ⟨_, _, rfl, s4, s9⟩⟩⟩⟩ := h
 obtain ⟨v2, rfl, g2⟩ := k61_openM s1
 obtain rfl := k69_openM s4
 obtain rfl := k69_openM s9
 exact ⟨v2, rfl, g2⟩
theorem k71_mk (w : World) (x : Liter) {A2 : Option Addr} {c2 : Nat} (l2 : x.atom.args.length ≤ c2) (g2 : k69.C w A2 x.atom.args.length x.atom.args) : k71.K w x [.int .i64 x.kind, .string x.atom.pred, .slice A2 x.atom.args.length c2, .string x.op, .bool x.l.isVar, .string x.l.name, .bool x.l.val.isSym, .string x.l.val.sym, .int .i64 x.l.val.n, .bool x.r.isVar, .string x.r.name, .bool x.r.val.isSym, .string x.r.val.sym, .int .i64 x.r.val.n] := ⟨[.int .i64 x.kind], [.string x.atom.pred, .slice A2 x.atom.args.length c2, .string x.op, .bool x.l.isVar, .string x.l.name, .bool x.l.val.isSym, .string x.l.val.sym, .int .i64 x.l.val.n, .bool x.r.isVar, .string x.r.name, .bool x.r.val.isSym, .string x.r.val.sym, .int .i64 x.r.val.n], rfl, rfl, ⟨[.string x.atom.pred, .slice A2 x.atom.args.length c2], [.string x.op, .bool x.l.isVar, .string x.l.name, .bool x.l.val.isSym, .string x.l.val.sym, .int .i64 x.l.val.n, .bool x.r.isVar, .string x.r.name, .bool x.r.val.isSym, .string x.r.val.sym, .int .i64 x.r.val.n], rfl, (k61_mk w x.atom l2 g2), ⟨[.string x.op], [.bool x.l.isVar, .string x.l.name, .bool x.l.val.isSym, .string x.l.val.sym, .int .i64 x.l.val.n, .bool x.r.isVar, .string x.r.name, .bool x.r.val.isSym, .string x.r.val.sym, .int .i64 x.r.val.n], rfl, rfl, ⟨[.bool x.l.isVar, .string x.l.name, .bool x.l.val.isSym, .string x.l.val.sym, .int .i64 x.l.val.n], [.bool x.r.isVar, .string x.r.name, .bool x.r.val.isSym, .string x.r.val.sym, .int .i64 x.r.val.n], rfl, (k69_mk w x.l ), (k69_mk w x.r )⟩⟩⟩⟩
theorem k71_mkM (w : World) (base : Nat) (ok : Nat → Prop) (x : Liter) {v2 : Value} (g2 : k69.R 69 w base ok v2 x.atom.args) : k71.M w base ok x [.int .i64 x.kind, .string x.atom.pred, v2, .string x.op, .bool x.l.isVar, .string x.l.name, .bool x.l.val.isSym, .string x.l.val.sym, .int .i64 x.l.val.n, .bool x.r.isVar, .string x.r.name, .bool x.r.val.isSym, .string x.r.val.sym, .int .i64 x.r.val.n] := ⟨[.int .i64 x.kind], [.string x.atom.pred, v2, .string x.op, .bool x.l.isVar, .string x.l.name, .bool x.l.val.isSym, .string x.l.val.sym, .int .i64 x.l.val.n, .bool x.r.isVar, .string x.r.name, .bool x.r.val.isSym, .string x.r.val.sym, .int .i64 x.r.val.n], rfl, rfl, ⟨[.string x.atom.pred, v2], [.string x.op, .bool x.l.isVar, .string x.l.name, .bool x.l.val.isSym, .string x.l.val.sym, .int .i64 x.l.val.n, .bool x.r.isVar, .string x.r.name, .bool x.r.val.isSym, .string x.r.val.sym, .int .i64 x.r.val.n], rfl, (k61_mkM w base ok x.atom g2), ⟨[.string x.op], [.bool x.l.isVar, .string x.l.name, .bool x.l.val.isSym, .string x.l.val.sym, .int .i64 x.l.val.n, .bool x.r.isVar, .string x.r.name, .bool x.r.val.isSym, .string x.r.val.sym, .int .i64 x.r.val.n], rfl, rfl, ⟨[.bool x.l.isVar, .string x.l.name, .bool x.l.val.isSym, .string x.l.val.sym, .int .i64 x.l.val.n], [.bool x.r.isVar, .string x.r.name, .bool x.r.val.isSym, .string x.r.val.sym, .int .i64 x.r.val.n], rfl, (k69_mkM w base ok x.l ), (k69_mkM w base ok x.r )⟩⟩⟩⟩
theorem k71_openF {W : World} {ok : Nat → Prop} {x : Liter} {cs : List Value} (h : Kd.FK k71 W ok x cs) : ∃ A2 c2, cs = [.int .i64 x.kind, .string x.atom.pred, .slice A2 x.atom.args.length c2, .string x.op, .bool x.l.isVar, .string x.l.name, .bool x.l.val.isSym, .string x.l.val.sym, .int .i64 x.l.val.n, .bool x.r.isVar, .string x.r.name, .bool x.r.val.isSym, .string x.r.val.sym, .int .i64 x.r.val.n] ∧ x.atom.args.length ≤ c2 ∧ Kd.F k69 W ok A2 x.atom.args.length x.atom.args := by
 obtain ⟨A2, c2, rfl, l2, _⟩ := k71_open (Kd.FK_now h)
 exact ⟨A2, c2, rfl, l2, (fun W' hW => by obtain ⟨A2_, c2_, he, l2_, g2_⟩ := k71_open (h W' hW); injection (Option.some.inj (show some (Value.slice A2 x.atom.args.length c2) = some (Value.slice A2_ x.atom.args.length c2_) from congrArg (fun l => l[2]?) he)) with ha_ _ _; rw [ha_]; exact g2_)⟩
theorem k71_mkF (W : World) (ok : Nat → Prop) (x : Liter) {A2 : Option Addr} {c2 : Nat} (l2 : x.atom.args.length ≤ c2) (g2 : Kd.F k69 W ok A2 x.atom.args.length x.atom.args) : Kd.FK k71 W ok x [.int .i64 x.kind, .string x.atom.pred, .slice A2 x.atom.args.length c2, .string x.op, .bool x.l.isVar, .string x.l.name, .bool x.l.val.isSym, .string x.l.val.sym, .int .i64 x.l.val.n, .bool x.r.isVar, .string x.r.name, .bool x.r.val.isSym, .string x.r.val.sym, .int .i64 x.r.val.n] := fun W2 hW => k71_mk W2 x l2 (g2 W2 hW)
def rd_T71 (xs : List Liter) (i : Int) : Liter := xs.getD i.toNat z71
theorem at_T71 {w : World} {A : Option Addr} {n : Nat} {xs : List Liter} (h : Kd.C k71 w A n xs) (i : Int) (h0 : 0 ≤ i) (h1 : i < n) : ∃ ad A2 c2, A = some ad ∧ w.cell? (ad.add (i.toNat * 14)) = some (.int .i64 (rd_T71 xs i).kind) ∧ w.cell? ⟨(ad.add (i.toNat * 14)).block, (ad.add (i.toNat * 14)).off + 1, none⟩ = some (.string (rd_T71 xs i).atom.pred) ∧ w.cell? ⟨(ad.add (i.toNat * 14)).block, (ad.add (i.toNat * 14)).off + 2, none⟩ = some (.slice A2 (rd_T71 xs i).atom.args.length c2) ∧ w.cell? ⟨(ad.add (i.toNat * 14)).block, (ad.add (i.toNat * 14)).off + 3, none⟩ = some (.string (rd_T71 xs i).op) ∧ w.cell? ⟨(ad.add (i.toNat * 14)).block, (ad.add (i.toNat * 14)).off + 4, none⟩ = some (.bool (rd_T71 xs i).l.isVar) ∧ w.cell? ⟨(ad.add (i.toNat * 14)).block, (ad.add (i.toNat * 14)).off + 5, none⟩ = some (.string (rd_T71 xs i).l.name) ∧ w.cell? ⟨(ad.add (i.toNat * 14)).block, (ad.add (i.toNat * 14)).off + 6, none⟩ = some (.bool (rd_T71 xs i).l.val.isSym) ∧ w.cell? ⟨(ad.add (i.toNat * 14)).block, (ad.add (i.toNat * 14)).off + 7, none⟩ = some (.string (rd_T71 xs i).l.val.sym) ∧ w.cell? ⟨(ad.add (i.toNat * 14)).block, (ad.add (i.toNat * 14)).off + 8, none⟩ = some (.int .i64 (rd_T71 xs i).l.val.n) ∧ w.cell? ⟨(ad.add (i.toNat * 14)).block, (ad.add (i.toNat * 14)).off + 9, none⟩ = some (.bool (rd_T71 xs i).r.isVar) ∧ w.cell? ⟨(ad.add (i.toNat * 14)).block, (ad.add (i.toNat * 14)).off + 10, none⟩ = some (.string (rd_T71 xs i).r.name) ∧ w.cell? ⟨(ad.add (i.toNat * 14)).block, (ad.add (i.toNat * 14)).off + 11, none⟩ = some (.bool (rd_T71 xs i).r.val.isSym) ∧ w.cell? ⟨(ad.add (i.toNat * 14)).block, (ad.add (i.toNat * 14)).off + 12, none⟩ = some (.string (rd_T71 xs i).r.val.sym) ∧ w.cell? ⟨(ad.add (i.toNat * 14)).block, (ad.add (i.toNat * 14)).off + 13, none⟩ = some (.int .i64 (rd_T71 xs i).r.val.n) ∧ (rd_T71 xs i).atom.args.length ≤ c2 ∧ k69.C w A2 (rd_T71 xs i).atom.args.length (rd_T71 xs i).atom.args := by
 obtain ⟨ad, c, e, _, hK, hc0⟩ := Kd.C_get h z71 i h0 h1
 have hc : ∀ j u, c[j]? = some u → w.cell? (ad.add (i.toNat * 14 + j)) = some u := hc0
 obtain ⟨A2, c2, rfl, l2, g2⟩ := k71_open hK
 exact ⟨ad, A2, c2, e, hc 0 _ rfl, by rw [← add_field _ _ 1 (by omega)]; exact hc 1 _ rfl, by rw [← add_field _ _ 2 (by omega)]; exact hc 2 _ rfl, by rw [← add_field _ _ 3 (by omega)]; exact hc 3 _ rfl, by rw [← add_field _ _ 4 (by omega)]; exact hc 4 _ rfl, by rw [← add_field _ _ 5 (by omega)]; exact hc 5 _ rfl, by rw [← add_field _ _ 6 (by omega)]; exact hc 6 _ rfl, by rw [← add_field _ _ 7 (by omega)]; exact hc 7 _ rfl, by rw [← add_field _ _ 8 (by omega)]; exact hc 8 _ rfl, by rw [← add_field _ _ 9 (by omega)]; exact hc 9 _ rfl, by rw [← add_field _ _ 10 (by omega)]; exact hc 10 _ rfl, by rw [← add_field _ _ 11 (by omega)]; exact hc 11 _ rfl, by rw [← add_field _ _ 12 (by omega)]; exact hc 12 _ rfl, by rw [← add_field _ _ 13 (by omega)]; exact hc 13 _ rfl, l2, g2⟩
def rd_L13 (xs : List (List Liter)) (i : Int) : (List Liter) := xs.getD i.toNat ([] : List Liter)
theorem at_L13 {w : World} {A : Option Addr} {n : Nat} {xs : List (List Liter)} (h : Kd.C (Kd.slice 71 k71) w A n xs) (i : Int) (h0 : 0 ≤ i) (h1 : i < n) : ∃ ad A0 c0, A = some ad ∧ w.cell? (ad.add i.toNat) = some (.slice A0 (rd_L13 xs i).length c0) ∧ (rd_L13 xs i).length ≤ c0 ∧ k71.C w A0 (rd_L13 xs i).length (rd_L13 xs i) := by
 obtain ⟨ad, c, e, _, hK, hc0⟩ := Kd.C_get h ([] : List Liter) i h0 h1
 have hc : ∀ j u, c[j]? = some u → w.cell? (ad.add (i.toNat * 1 + j)) = some u := hc0
 obtain ⟨A0, c0, rfl, l0, g0⟩ := hK
 exact ⟨ad, A0, c0, e, by have hq := hc 0 _ rfl; rwa [Nat.mul_one, Nat.add_zero] at hq, l0, g0⟩
/-! #### struct type 64 -/
structure Rule where
 head : Atom
 body : (List Liter)
deriving DecidableEq
def z64 : Rule := ⟨z61, ([] : List Liter)⟩
def k64 : Kd Rule := Kd.iso (Kd.pair k61 (Kd.slice 71 k71)) (fun x : Rule => (x.head, x.body))
theorem k64_heap : Kd.Heap k64 := Kd.heap_iso _ (Kd.heap_pair k61_heap (Kd.heap_slice 71 k71_heap))
theorem k64_open {w : World} {x : Rule} {cs : List Value} (h : k64.K w x cs) : ∃ A1 c1 A2 c2, cs = [.string x.head.pred, .slice A1 x.head.args.length c1, .slice A2 x.body.length c2] ∧ x.head.args.length ≤ c1 ∧ k69.C w A1 x.head.args.length x.head.args ∧ x.body.length ≤ c2 ∧ k71.C w A2 x.body.length x.body := by
 obtain ⟨_, _, rfl, s0, ⟨A2, c2, rfl, l2, g2⟩⟩ := h
 obtain ⟨A1, c1, rfl, l1, g1⟩ := k61_open s0
 exact ⟨A1, c1, A2, c2, rfl, l1, g1, l2, g2⟩
theorem k64_openM {w : World} {base : Nat} {ok : Nat → Prop} {x : Rule} {cs : List Value} (h : k64.M w base ok x cs) : ∃ v1 v2, cs = [.string x.head.pred, v1, v2] ∧ k69.R 69 w base ok v1 x.head.args ∧ k71.R 71 w base ok v2 x.body := by
 obtain ⟨_, _, rfl, s0, ⟨v2, rfl, g2⟩⟩ := h
 obtain ⟨v1, rfl, g1⟩ := k61_openM s0
 exact ⟨v1, v2, rfl, g1, g2⟩
theorem k64_mk (w : World) (x : Rule) {A1 : Option Addr} {c1 : Nat} (l1 : x.head.args.length ≤ c1) (g1 : k69.C w A1 x.head.args.length x.head.args) {A2 : Option Addr} {c2 : Nat} (l2 : x.body.length ≤ c2) (g2 : k71.C w A2 x.body.length x.body) : k64.K w x [.string x.head.pred, .slice A1 x.head.args.length c1, .slice A2 x.body.length c2] := ⟨[.string x.head.pred, .slice A1 x.head.args.length c1], [.slice A2 x.body.length c2], rfl, (k61_mk w x.head l1 g1), ⟨A2, c2, rfl, l2, g2⟩⟩
theorem k64_mkM (w : World) (base : Nat) (ok : Nat → Prop) (x : Rule) {v1 : Value} (g1 : k69.R 69 w base ok v1 x.head.args) {v2 : Value} (g2 : k71.R 71 w base ok v2 x.body) : k64.M w base ok x [.string x.head.pred, v1, v2] := ⟨[.string x.head.pred, v1], [v2], rfl, (k61_mkM w base ok x.head g1), ⟨v2, rfl, g2⟩⟩
theorem k64_openF {W : World} {ok : Nat → Prop} {x : Rule} {cs : List Value} (h : Kd.FK k64 W ok x cs) : ∃ A1 c1 A2 c2, cs = [.string x.head.pred, .slice A1 x.head.args.length c1, .slice A2 x.body.length c2] ∧ x.head.args.length ≤ c1 ∧ Kd.F k69 W ok A1 x.head.args.length x.head.args ∧ x.body.length ≤ c2 ∧ Kd.F k71 W ok A2 x.body.length x.body := by
 obtain ⟨A1, c1, A2, c2, rfl, l1, _, l2, _⟩ := k64_open (Kd.FK_now h)
 exact ⟨A1, c1, A2, c2, rfl, l1, (fun W' hW => by obtain ⟨A1_, c1_, A2_, c2_, he, l1_, g1_, l2_, g2_⟩ := k64_open (h W' hW); injection (Option.some.inj (show some (Value.slice A1 x.head.args.length c1) = some (Value.slice A1_ x.head.args.length c1_) from congrArg (fun l => l[1]?) he)) with ha_ _ _; rw [ha_]; exact g1_), l2, (fun W' hW => by obtain ⟨A1_, c1_, A2_, c2_, he, l1_, g1_, l2_, g2_⟩ := k64_open (h W' hW); injection (Option.some.inj (show some (Value.slice A2 x.body.length c2) = some (Value.slice A2_ x.body.length c2_) from congrArg (fun l => l[2]?) he)) with ha_ _ _; rw [ha_]; exact g2_)⟩
theorem k64_mkF (W : World) (ok : Nat → Prop) (x : Rule) {A1 : Option Addr} {c1 : Nat} (l1 : x.head.args.length ≤ c1) (g1 : Kd.F k69 W ok A1 x.head.args.length x.head.args) {A2 : Option Addr} {c2 : Nat} (l2 : x.body.length ≤ c2) (g2 : Kd.F k71 W ok A2 x.body.length x.body) : Kd.FK k64 W ok x [.string x.head.pred, .slice A1 x.head.args.length c1, .slice A2 x.body.length c2] := fun W2 hW => k64_mk W2 x l1 (g1 W2 hW) l2 (g2 W2 hW)
def rd_T64 (xs : List Rule) (i : Int) : Rule := xs.getD i.toNat z64
theorem at_T64 {w : World} {A : Option Addr} {n : Nat} {xs : List Rule} (h : Kd.C k64 w A n xs) (i : Int) (h0 : 0 ≤ i) (h1 : i < n) : ∃ ad A1 c1 A2 c2, A = some ad ∧ w.cell? (ad.add (i.toNat * 3)) = some (.string (rd_T64 xs i).head.pred) ∧ w.cell? ⟨(ad.add (i.toNat * 3)).block, (ad.add (i.toNat * 3)).off + 1, none⟩ = some (.slice A1 (rd_T64 xs i).head.args.length c1) ∧ w.cell? ⟨(ad.add (i.toNat * 3)).block, (ad.add (i.toNat * 3)).off + 2, none⟩ = some (.slice A2 (rd_T64 xs i).body.length c2) ∧ (rd_T64 xs i).head.args.length ≤ c1 ∧ k69.C w A1 (rd_T64 xs i).head.args.length (rd_T64 xs i).head.args ∧ (rd_T64 xs i).body.length ≤ c2 ∧ k71.C w A2 (rd_T64 xs i).body.length (rd_T64 xs i).body := by
 obtain ⟨ad, c, e, _, hK, hc0⟩ := Kd.C_get h z64 i h0 h1
 have hc : ∀ j u, c[j]? = some u → w.cell? (ad.add (i.toNat * 3 + j)) = some u := hc0
 obtain ⟨A1, c1, A2, c2, rfl, l1, g1, l2, g2⟩ := k64_open hK
 exact ⟨ad, A1, c1, A2, c2, e, hc 0 _ rfl, by rw [← add_field _ _ 1 (by omega)]; exact hc 1 _ rfl, by rw [← add_field _ _ 2 (by omega)]; exact hc 2 _ rfl, l1, g1, l2, g2⟩
def rd_L15 (xs : List (List Rule)) (i : Int) : (List Rule) := xs.getD i.toNat ([] : List Rule)
theorem at_L15 {w : World} {A : Option Addr} {n : Nat} {xs : List (List Rule)} (h : Kd.C (Kd.slice 64 k64) w A n xs) (i : Int) (h0 : 0 ≤ i) (h1 : i < n) : ∃ ad A0 c0, A = some ad ∧ w.cell? (ad.add i.toNat) = some (.slice A0 (rd_L15 xs i).length c0) ∧ (rd_L15 xs i).length ≤ c0 ∧ k64.C w A0 (rd_L15 xs i).length (rd_L15 xs i) := by
 obtain ⟨ad, c, e, _, hK, hc0⟩ := Kd.C_get h ([] : List Rule) i h0 h1
 have hc : ∀ j u, c[j]? = some u → w.cell? (ad.add (i.toNat * 1 + j)) = some u := hc0
 obtain ⟨A0, c0, rfl, l0, g0⟩ := hK
 exact ⟨ad, A0, c0, e, by have hq := hc 0 _ rfl; rwa [Nat.mul_one, Nat.add_zero] at hq, l0, g0⟩
/-! #### struct type 50 -/
structure Prog where
 decls : (List Decl)
 rules : (List Rule)
deriving DecidableEq
def z50 : Prog := ⟨([] : List Decl), ([] : List Rule)⟩
def k50 : Kd Prog := Kd.iso (Kd.pair (Kd.slice 96 k96) (Kd.slice 64 k64)) (fun x : Prog => (x.decls, x.rules))
theorem k50_heap : Kd.Heap k50 := Kd.heap_iso _ (Kd.heap_pair (Kd.heap_slice 96 k96_heap) (Kd.heap_slice 64 k64_heap))
theorem k50_open {w : World} {x : Prog} {cs : List Value} (h : k50.K w x cs) : ∃ A0 c0 A1 c1, cs = [.slice A0 x.decls.length c0, .slice A1 x.rules.length c1] ∧ x.decls.length ≤ c0 ∧ k96.C w A0 x.decls.length x.decls ∧ x.rules.length ≤ c1 ∧ k64.C w A1 x.rules.length x.rules := by
 obtain ⟨_, _, rfl, ⟨A0, c0, rfl, l0, g0⟩, ⟨A1, c1, rfl, l1, g1⟩⟩ := h
 exact ⟨A0, c0, A1, c1, rfl, l0, g0, l1, g1⟩
theorem k50_openM {w : World} {base : Nat} {ok : Nat → Prop} {x : Prog} {cs : List Value} (h : k50.M w base ok x cs) : ∃ v0 v1, cs = [v0, v1] ∧ k96.R 96 w base ok v0 x.decls ∧ k64.R 64 w base ok v1 x.rules := by
 obtain ⟨_, _, rfl, ⟨v0, rfl, g0⟩, ⟨v1, rfl, g1⟩⟩ := h
 exact ⟨v0, v1, rfl, g0, g1⟩
theorem k50_mk (w : World) (x : Prog) {A0 : Option Addr} {c0 : Nat} (l0 : x.decls.length ≤ c0) (g0 : k96.C w A0 x.decls.length x.decls) {A1 : Option Addr} {c1 : Nat} (l1 : x.rules.length ≤ c1) (g1 : k64.C w A1 x.rules.length x.rules) : k50.K w x [.slice A0 x.decls.length c0, .slice A1 x.rules.length c1] := ⟨[.slice A0 x.decls.length c0], [.slice A1 x.rules.length c1], rfl, ⟨A0, c0, rfl, l0, g0⟩, ⟨A1, c1, rfl, l1, g1⟩⟩
theorem k50_mkM (w : World) (base : Nat) (ok : Nat → Prop) (x : Prog) {v0 : Value} (g0 : k96.R 96 w base ok v0 x.decls) {v1 : Value} (g1 : k64.R 64 w base ok v1 x.rules) : k50.M w base ok x [v0, v1] := ⟨[v0], [v1], rfl, ⟨v0, rfl, g0⟩, ⟨v1, rfl, g1⟩⟩
theorem k50_openF {W : World} {ok : Nat → Prop} {x : Prog} {cs : List Value} (h : Kd.FK k50 W ok x cs) : ∃ A0 c0 A1 c1, cs = [.slice A0 x.decls.length c0, .slice A1 x.rules.length c1] ∧ x.decls.length ≤ c0 ∧ Kd.F k96 W ok A0 x.decls.length x.decls ∧ x.rules.length ≤ c1 ∧ Kd.F k64 W ok A1 x.rules.length x.rules := by
 obtain ⟨A0, c0, A1, c1, rfl, l0, _, l1, _⟩ := k50_open (Kd.FK_now h)
 exact ⟨A0, c0, A1, c1, rfl, l0, (fun W' hW => by obtain ⟨A0_, c0_, A1_, c1_, he, l0_, g0_, l1_, g1_⟩ := k50_open (h W' hW); injection (Option.some.inj (show some (Value.slice A0 x.decls.length c0) = some (Value.slice A0_ x.decls.length c0_) from congrArg (fun l => l[0]?) he)) with ha_ _ _; rw [ha_]; exact g0_), l1, (fun W' hW => by obtain ⟨A0_, c0_, A1_, c1_, he, l0_, g0_, l1_, g1_⟩ := k50_open (h W' hW); injection (Option.some.inj (show some (Value.slice A1 x.rules.length c1) = some (Value.slice A1_ x.rules.length c1_) from congrArg (fun l => l[1]?) he)) with ha_ _ _; rw [ha_]; exact g1_)⟩
theorem k50_mkF (W : World) (ok : Nat → Prop) (x : Prog) {A0 : Option Addr} {c0 : Nat} (l0 : x.decls.length ≤ c0) (g0 : Kd.F k96 W ok A0 x.decls.length x.decls) {A1 : Option Addr} {c1 : Nat} (l1 : x.rules.length ≤ c1) (g1 : Kd.F k64 W ok A1 x.rules.length x.rules) : Kd.FK k50 W ok x [.slice A0 x.decls.length c0, .slice A1 x.rules.length c1] := fun W2 hW => k50_mk W2 x l0 (g0 W2 hW) l1 (g1 W2 hW)
def rd_T50 (xs : List Prog) (i : Int) : Prog := xs.getD i.toNat z50
theorem at_T50 {w : World} {A : Option Addr} {n : Nat} {xs : List Prog} (h : Kd.C k50 w A n xs) (i : Int) (h0 : 0 ≤ i) (h1 : i < n) : ∃ ad A0 c0 A1 c1, A = some ad ∧ w.cell? (ad.add (i.toNat * 2)) = some (.slice A0 (rd_T50 xs i).decls.length c0) ∧ w.cell? ⟨(ad.add (i.toNat * 2)).block, (ad.add (i.toNat * 2)).off + 1, none⟩ = some (.slice A1 (rd_T50 xs i).rules.length c1) ∧ (rd_T50 xs i).decls.length ≤ c0 ∧ k96.C w A0 (rd_T50 xs i).decls.length (rd_T50 xs i).decls ∧ (rd_T50 xs i).rules.length ≤ c1 ∧ k64.C w A1 (rd_T50 xs i).rules.length (rd_T50 xs i).rules := by
 obtain ⟨ad, c, e, _, hK, hc0⟩ := Kd.C_get h z50 i h0 h1
 have hc : ∀ j u, c[j]? = some u → w.cell? (ad.add (i.toNat * 2 + j)) = some u := hc0
 obtain ⟨A0, c0, A1, c1, rfl, l0, g0, l1, g1⟩ := k50_open hK
 exact ⟨ad, A0, c0, A1, c1, e, hc 0 _ rfl, by rw [← add_field _ _ 1 (by omega)]; exact hc 1 _ rfl, l0, g0, l1, g1⟩
def rd_L17 (xs : List (List BPair)) (i : Int) : (List BPair) := xs.getD i.toNat ([] : List BPair)
theorem at_L17 {w : World} {A : Option Addr} {n : Nat} {xs : List (List BPair)} (h : Kd.C (Kd.slice 45 k45) w A n xs) (i : Int) (h0 : 0 ≤ i) (h1 : i < n) : ∃ ad A0 c0, A = some ad ∧ w.cell? (ad.add i.toNat) = some (.slice A0 (rd_L17 xs i).length c0) ∧ (rd_L17 xs i).length ≤ c0 ∧ k45.C w A0 (rd_L17 xs i).length (rd_L17 xs i) := by
 obtain ⟨ad, c, e, _, hK, hc0⟩ := Kd.C_get h ([] : List BPair) i h0 h1
 have hc : ∀ j u, c[j]? = some u → w.cell? (ad.add (i.toNat * 1 + j)) = some u := hc0
 obtain ⟨A0, c0, rfl, l0, g0⟩ := hK
 exact ⟨ad, A0, c0, e, by have hq := hc 0 _ rfl; rwa [Nat.mul_one, Nat.add_zero] at hq, l0, g0⟩
def rd_L18 (xs : List (List IPair)) (i : Int) : (List IPair) := xs.getD i.toNat ([] : List IPair)
theorem at_L18 {w : World} {A : Option Addr} {n : Nat} {xs : List (List IPair)} (h : Kd.C (Kd.slice 27 k27) w A n xs) (i : Int) (h0 : 0 ≤ i) (h1 : i < n) : ∃ ad A0 c0, A = some ad ∧ w.cell? (ad.add i.toNat) = some (.slice A0 (rd_L18 xs i).length c0) ∧ (rd_L18 xs i).length ≤ c0 ∧ k27.C w A0 (rd_L18 xs i).length (rd_L18 xs i) := by
 obtain ⟨ad, c, e, _, hK, hc0⟩ := Kd.C_get h ([] : List IPair) i h0 h1
 have hc : ∀ j u, c[j]? = some u → w.cell? (ad.add (i.toNat * 1 + j)) = some u := hc0
 obtain ⟨A0, c0, rfl, l0, g0⟩ := hK
 exact ⟨ad, A0, c0, e, by have hq := hc 0 _ rfl; rwa [Nat.mul_one, Nat.add_zero] at hq, l0, g0⟩
def rd_L19 (xs : List (List Int)) (i : Int) : (List Int) := xs.getD i.toNat ([] : List Int)
theorem at_L19 {w : World} {A : Option Addr} {n : Nat} {xs : List (List Int)} (h : Kd.C (Kd.slice 3 (Kd.int .i64)) w A n xs) (i : Int) (h0 : 0 ≤ i) (h1 : i < n) : ∃ ad A0 c0, A = some ad ∧ w.cell? (ad.add i.toNat) = some (.slice A0 (rd_L19 xs i).length c0) ∧ (rd_L19 xs i).length ≤ c0 ∧ (Kd.int .i64).C w A0 (rd_L19 xs i).length (rd_L19 xs i) := by
 obtain ⟨ad, c, e, _, hK, hc0⟩ := Kd.C_get h ([] : List Int) i h0 h1
 have hc : ∀ j u, c[j]? = some u → w.cell? (ad.add (i.toNat * 1 + j)) = some u := hc0
 obtain ⟨A0, c0, rfl, l0, g0⟩ := hK
 exact ⟨ad, A0, c0, e, by have hq := hc 0 _ rfl; rwa [Nat.mul_one, Nat.add_zero] at hq, l0, g0⟩
def rd_L20 (xs : List (List (List Int))) (i : Int) : (List (List Int)) := xs.getD i.toNat ([] : List (List Int))
theorem at_L20 {w : World} {A : Option Addr} {n : Nat} {xs : List (List (List Int))} (h : Kd.C (Kd.slice 35 (Kd.slice 3 (Kd.int .i64))) w A n xs) (i : Int) (h0 : 0 ≤ i) (h1 : i < n) : ∃ ad A0 c0, A = some ad ∧ w.cell? (ad.add i.toNat) = some (.slice A0 (rd_L20 xs i).length c0) ∧ (rd_L20 xs i).length ≤ c0 ∧ (Kd.slice 3 (Kd.int .i64)).C w A0 (rd_L20 xs i).length (rd_L20 xs i) := by
 obtain ⟨ad, c, e, _, hK, hc0⟩ := Kd.C_get h ([] : List (List Int)) i h0 h1
 have hc : ∀ j u, c[j]? = some u → w.cell? (ad.add (i.toNat * 1 + j)) = some u := hc0
 obtain ⟨A0, c0, rfl, l0, g0⟩ := hK
 exact ⟨ad, A0, c0, e, by have hq := hc 0 _ rfl; rwa [Nat.mul_one, Nat.add_zero] at hq, l0, g0⟩
def rd_L21 (xs : List (List Bool)) (i : Int) : (List Bool) := xs.getD i.toNat ([] : List Bool)
theorem at_L21 {w : World} {A : Option Addr} {n : Nat} {xs : List (List Bool)} (h : Kd.C (Kd.slice 4 Kd.bool) w A n xs) (i : Int) (h0 : 0 ≤ i) (h1 : i < n) : ∃ ad A0 c0, A = some ad ∧ w.cell? (ad.add i.toNat) = some (.slice A0 (rd_L21 xs i).length c0) ∧ (rd_L21 xs i).length ≤ c0 ∧ Kd.bool.C w A0 (rd_L21 xs i).length (rd_L21 xs i) := by
 obtain ⟨ad, c, e, _, hK, hc0⟩ := Kd.C_get h ([] : List Bool) i h0 h1
 have hc : ∀ j u, c[j]? = some u → w.cell? (ad.add (i.toNat * 1 + j)) = some u := hc0
 obtain ⟨A0, c0, rfl, l0, g0⟩ := hK
 exact ⟨ad, A0, c0, e, by have hq := hc 0 _ rfl; rwa [Nat.mul_one, Nat.add_zero] at hq, l0, g0⟩
def rd_L22 (xs : List (List ByteArray)) (i : Int) : (List ByteArray) := xs.getD i.toNat ([] : List ByteArray)
theorem at_L22 {w : World} {A : Option Addr} {n : Nat} {xs : List (List ByteArray)} (h : Kd.C (Kd.slice 9 Kd.string) w A n xs) (i : Int) (h0 : 0 ≤ i) (h1 : i < n) : ∃ ad A0 c0, A = some ad ∧ w.cell? (ad.add i.toNat) = some (.slice A0 (rd_L22 xs i).length c0) ∧ (rd_L22 xs i).length ≤ c0 ∧ Kd.string.C w A0 (rd_L22 xs i).length (rd_L22 xs i) := by
 obtain ⟨ad, c, e, _, hK, hc0⟩ := Kd.C_get h ([] : List ByteArray) i h0 h1
 have hc : ∀ j u, c[j]? = some u → w.cell? (ad.add (i.toNat * 1 + j)) = some u := hc0
 obtain ⟨A0, c0, rfl, l0, g0⟩ := hK
 exact ⟨ad, A0, c0, e, by have hq := hc 0 _ rfl; rwa [Nat.mul_one, Nat.add_zero] at hq, l0, g0⟩
def rd_L23 (xs : List (List Int)) (i : Int) : (List Int) := xs.getD i.toNat ([] : List Int)
theorem at_L23 {w : World} {A : Option Addr} {n : Nat} {xs : List (List Int)} (h : Kd.C (Kd.slice 5 (Kd.int .u8)) w A n xs) (i : Int) (h0 : 0 ≤ i) (h1 : i < n) : ∃ ad A0 c0, A = some ad ∧ w.cell? (ad.add i.toNat) = some (.slice A0 (rd_L23 xs i).length c0) ∧ (rd_L23 xs i).length ≤ c0 ∧ (Kd.int .u8).C w A0 (rd_L23 xs i).length (rd_L23 xs i) := by
 obtain ⟨ad, c, e, _, hK, hc0⟩ := Kd.C_get h ([] : List Int) i h0 h1
 have hc : ∀ j u, c[j]? = some u → w.cell? (ad.add (i.toNat * 1 + j)) = some u := hc0
 obtain ⟨A0, c0, rfl, l0, g0⟩ := hK
 exact ⟨ad, A0, c0, e, by have hq := hc 0 _ rfl; rwa [Nat.mul_one, Nat.add_zero] at hq, l0, g0⟩
def rd_L24 (xs : List (List (List Bool))) (i : Int) : (List (List Bool)) := xs.getD i.toNat ([] : List (List Bool))
theorem at_L24 {w : World} {A : Option Addr} {n : Nat} {xs : List (List (List Bool))} (h : Kd.C (Kd.slice 40 (Kd.slice 4 Kd.bool)) w A n xs) (i : Int) (h0 : 0 ≤ i) (h1 : i < n) : ∃ ad A0 c0, A = some ad ∧ w.cell? (ad.add i.toNat) = some (.slice A0 (rd_L24 xs i).length c0) ∧ (rd_L24 xs i).length ≤ c0 ∧ (Kd.slice 4 Kd.bool).C w A0 (rd_L24 xs i).length (rd_L24 xs i) := by
 obtain ⟨ad, c, e, _, hK, hc0⟩ := Kd.C_get h ([] : List (List Bool)) i h0 h1
 have hc : ∀ j u, c[j]? = some u → w.cell? (ad.add (i.toNat * 1 + j)) = some u := hc0
 obtain ⟨A0, c0, rfl, l0, g0⟩ := hK
 exact ⟨ad, A0, c0, e, by have hq := hc 0 _ rfl; rwa [Nat.mul_one, Nat.add_zero] at hq, l0, g0⟩
theorem blt_ {w : World} {a : Addr} {v : Value} (h : w.cell? a = some v) : a.block < w.heap.size := World.block_lt_of_cell? w a h
end Go.Proofs.Ytmlhnjonmjmhdaa.H
namespace Go.Proofs.Ytmlhnjonmjmhdaa.H
/-- The structs are printed in YtmlhnjonmjmhdaaQ0. -/
theorem types_lie : True := trivial
def toL (b : ByteArray) : List UInt8 := b.data.toList
def ofL (l : List UInt8) : ByteArray := ⟨l.toArray⟩
theorem ofL_toL (b : ByteArray) : ofL (toL b) = b := by simp [ofL, toL]
theorem toL_ofL (l : List UInt8) : toL (ofL l) = l := by simp [ofL, toL]
end Go.Proofs.Ytmlhnjonmjmhdaa.H
namespace Go.Proofs.Ytmlhnjonmjmhdaa.H
open Go.RowKit Go.Sort Go.Proofs.YtmlhnjonmjmhdaaW.PrintWords Go.Proofs.YtmlhnjonmjmhdaaW.PrintLast Go.Proofs.YtmlhnjonmjmhdaaW.PrintMore
section
variable {α : Type} [Inhabited α] {enc : α → Value}
theorem so_heap {w : World} {g n : Nat} {os : Array Obj} {cur : Array Value} {e : TypeId} {fr : Nat × Nat} (d : Array α) (hb : w.heap[g]? = some (.cells cur e fr)) :
    (grow (putRow enc (Sort.ahead w n) g 0 d) os).heap[g]? = some (.cells (putCells enc 0 d cur) e fr) := by
  have hg : g < w.heap.size := (Array.getElem?_eq_some_iff.1 hb).1
  rw [heap_grow_old _ _ (by simpa using hg)]
  simp [putRow, mapBlock, Sort.ahead, Array.getElem?_modify, hb, onCells]
theorem so_grown {w : World} {g n : Nat} {os : Array Obj} (d : Array α) : w.grownBy (grow (putRow enc (Sort.ahead w n) g 0 d) os) (some g) := by
  refine ⟨rfl, rfl, rfl, by simp, fun k hk hne => ?_⟩
  rw [heap_grow_old _ _ (by simpa using hk)]
  have : g ≠ k := fun e => hne (by rw [e])
  simp [putRow, mapBlock, Sort.ahead, Array.getElem?_modify, this]
theorem so_take (cur : Array Value) (ts : List α) (m : Nat) (hm : m ≤ ts.length) (h : ts.length ≤ cur.size) : (putCells enc 0 ts.toArray cur).toList.take m = (ts.take m).map enc := by
  apply List.ext_getElem?
  intro j
  by_cases hj : j < m
  · rw [List.getElem?_take_of_lt hj, Array.getElem?_toList]
    simp [putCells, show j < ts.length by omega, show j < cur.size by omega, hj]
  · rw [List.getElem?_take_eq_none (by omega), List.getElem?_eq_none (by simp; omega)]
theorem so_holds {w : World} {g : Nat} {cur : Array Value} {e : TypeId} {ss : List α} (hb : w.heap[g]? = some (.cells cur e (0, 0))) (ht : cur.toList.take ss.length = ss.map enc) : Holds enc w g 0 ss.toArray := by
  intro j hj
  have hj' : j < ss.length := by simpa using hj
  refine ⟨?_, by simp [World.frozen?, hb]⟩
  have h1 : (cur.toList.take ss.length)[j]? = (ss.map enc)[j]? := by rw [ht]
  rw [List.getElem?_take_of_lt hj'] at h1
  simp only [World.cell?, hb, Nat.zero_add]
  simp only [Option.isSome_none, Bool.false_eq_true, if_false]
  rw [← Array.getElem?_toList, h1]
  simp [hj']
/-- behind a sort (or a compacting): the row owns the first elements of what was laid -/
theorem so_owns {w : World} {base g cap n m : Nat} {e : TypeId} {os : Array Obj} {cur : Array Value} {ss ts : List α} (hl : ts.length = ss.length) (hm : m ≤ ts.length) (hbase : base ≤ g) (hb : w.heap[g]? = some (.cells cur e (0, 0)))
    (h1 : ss.length ≤ cap) (h2 : cap ≤ maxLen) (h3 : cur.size = cap * 1) :
    (grow (putRow enc (Sort.ahead w n) g 0 ts.toArray) os).ownsRow base e 1 (.slice (some ⟨g, 0, none⟩) m cap) m ((ts.take m).map enc) :=
  ⟨by simp; omega, .inr ⟨g, cap, _, rfl, hbase, so_heap _ hb, by omega, h2, by simp [putCells, h3], by rw [Nat.mul_one]; exact so_take cur ts m hm (by omega)⟩⟩
end
/-- what a function that writes a row of the caller's leaves -/
theorem so_kept {w w' : World} {g : Nat} {P : Nat → Prop} (hg : w.grownBy w' (some g)) (hP : P g) : Kept w w' P :=
  ⟨hg.size, fun i hi hn => hg.block i hi (fun e => hn (by cases e; exact hP))⟩
theorem so_below {w0 w w' : World} {g : Nat} (hB : Below w0.heap.size w0 w) (hg : w.grownBy w' (some g)) (hb : w0.heap.size ≤ g) : Below w0.heap.size w0 w' :=
  pw_below_grown hB (some g) hB.size hg (fun k e => by cases e; exact hb)
theorem encs_toL (xs : List ByteArray) : xs.map Value.string = (xs.map toL).map encStr := by
  rw [List.map_map]
  exact List.map_congr_left fun x _ => by simp [encStr, toL]
theorem encs_ofL (ls : List (List UInt8)) : ls.map encStr = (ls.map ofL).map Value.string := by
  rw [List.map_map]
  exact List.map_congr_left fun x _ => by simp [encStr, ofL]
def sortS (l : List ByteArray) : List ByteArray := ((l.map toL).mergeSort fun x y => decide (x ≤ y)).map ofL
def compactS (l : List ByteArray) : List ByteArray := (Go.Lib.compact (l.map toL)).map ofL
theorem sortS_len (l : List ByteArray) : (sortS l).length = l.length := by simp [sortS]
theorem compactS_len (l : List ByteArray) : (compactS l).length ≤ l.length := by
  unfold compactS Go.Lib.compact Go.Lib.compactUpTo
  simp only [List.length_map]
  exact Nat.le_trans (List.length_filter_le _ _) (by simp)
def sortI (l : List Int) : List Int := l.mergeSort fun x y => decide (x ≤ y)
def compactI (l : List Int) : List Int := Go.Lib.compact l
theorem sortI_len (l : List Int) : (sortI l).length = l.length := by simp [sortI]
theorem compactI_len (l : List Int) : (compactI l).length ≤ l.length := by
  unfold compactI Go.Lib.compact Go.Lib.compactUpTo
  simp only [List.length_map]
  exact Nat.le_trans (List.length_filter_le _ _) (by simp)
end Go.Proofs.Ytmlhnjonmjmhdaa.H
namespace Go.Proofs.Ytmlhnjonmjmhdaa.H
open Go.RowKit Go.Proofs.YtmlhnjonmjmhdaaW.PrintWords
section
variable {α : Type} [Inhabited α] [DecidableEq α]
theorem cut_mem (d : Array α) : ∀ (m : Nat), ∀ x, x ∈ Go.Lib.compactUpTo d m ↔ ∃ j, j < m ∧ d[j]! = x
  | 0, x => by simp [Go.Lib.compactUpTo]
  | m + 1, x => by
    rw [Go.Lib.compactUpTo_succ, List.mem_append, cut_mem d m x]
    constructor
    · rintro (⟨j, h1, h2⟩ | h)
      · exact ⟨j, by omega, h2⟩
      · split at h
        · exact ⟨m, by omega, by simpa using (List.mem_singleton.1 h).symm⟩
        · simp at h
    · rintro ⟨j, h1, h2⟩
      rcases Nat.lt_or_ge j m with h | h
      · exact .inl ⟨j, h, h2⟩
      · obtain rfl : j = m := by omega
        by_cases hk : Go.Lib.keeps d j = true
        · exact .inr (by rw [if_pos hk]; simp [h2])
        · left
          have : 0 < j ∧ d[j]! = d[j - 1]! := by
            unfold Go.Lib.keeps at hk
            simp at hk
            refine ⟨by omega, ?_⟩
            simpa using hk.2
          exact ⟨j - 1, by omega, by rw [← this.2]; exact h2⟩
theorem cut_sorted (lt : α → α → Prop) (le : α → α → Prop) (hle : ∀ a b c, le a b → le b c → le a c) (hlt : ∀ a b, le a b → a ≠ b → lt a b) (hll : ∀ a b c, le a b → lt b c → lt a c) (d : Array α) (hd : ∀ i j, i ≤ j → j < d.size → le d[i]! d[j]!) : ∀ (m : Nat), m ≤ d.size → (Go.Lib.compactUpTo d m).Pairwise lt
  | 0, _ => by simp [Go.Lib.compactUpTo]
  | m + 1, hm => by
    rw [Go.Lib.compactUpTo_succ, List.pairwise_append]
    refine ⟨cut_sorted lt le hle hlt hll d hd m (by omega), by split <;> simp, fun x hx y hy => ?_⟩
    split at hy
    case isFalse => simp at hy
    rename_i hk
    obtain ⟨j, hj, rfl⟩ := (cut_mem d m x).1 hx
    rw [List.mem_singleton.1 hy]
    unfold Go.Lib.keeps at hk
    simp at hk
    have hne : d[m - 1]! ≠ d[m]! := by
      intro e
      rcases hk with h | h
      · omega
      · exact h (by simpa using e.symm)
    exact hll _ _ _ (hd j (m - 1) (by omega) (by omega)) (hlt _ _ (hd (m - 1) m (by omega) (by omega)) hne)
end
def setS (l : List ByteArray) : List ByteArray := compactS (sortS l)
theorem toL_inj {a b : ByteArray} (h : toL a = toL b) : a = b := by rw [← ofL_toL a, ← ofL_toL b, h]
theorem map_toL_setS (l : List ByteArray) : (setS l).map toL = Go.Lib.compact ((l.map toL).mergeSort fun x y => decide (x ≤ y)) := by
  unfold setS compactS sortS
  rw [List.map_map, List.map_map]
  have e1 : ((toL ∘ ofL) : List UInt8 → List UInt8) = id := by funext x; simp [toL_ofL]
  rw [e1, List.map_id, List.map_id]
theorem mem_setS {l : List ByteArray} {x : ByteArray} : x ∈ setS l ↔ x ∈ l := by
  have h1 : x ∈ setS l ↔ toL x ∈ (setS l).map toL := by
    rw [List.mem_map]
    exact ⟨fun h => ⟨x, h, rfl⟩, fun ⟨y, h, e⟩ => toL_inj e ▸ h⟩
  have h2 : x ∈ l ↔ toL x ∈ (l.map toL).mergeSort fun x y => decide (x ≤ y) := by
    rw [List.mem_mergeSort, List.mem_map]
    exact ⟨fun h => ⟨x, h, rfl⟩, fun ⟨y, h, e⟩ => toL_inj e ▸ h⟩
  rw [h1, h2, map_toL_setS]
  unfold Go.Lib.compact
  generalize ((l.map toL).mergeSort fun x y => decide (x ≤ y)) = s
  rw [cut_mem, List.mem_iff_getElem]
  constructor
  · rintro ⟨j, hj, e⟩
    exact ⟨j, hj, by simpa [hj] using e⟩
  · rintro ⟨j, hj, e⟩
    exact ⟨j, hj, by simpa [hj] using e⟩
theorem setS_sorted (l : List ByteArray) : ((setS l).map toL).Pairwise (· < ·) := by
  rw [map_toL_setS]
  have hs := List.pairwise_mergeSort (le := fun x y : List UInt8 => decide (x ≤ y)) (by intro a b c; simp; exact fun h1 h2 => List.le_trans h1 h2) (by intro a b; simp; exact List.le_total a b) (l.map toL)
  unfold Go.Lib.compact
  revert hs
  generalize ((l.map toL).mergeSort fun x y => decide (x ≤ y)) = s
  intro hs
  refine cut_sorted (· < ·) (· ≤ ·) (fun a b c => List.le_trans) (fun a b h hne => ?_) (fun a b c => List.lt_of_le_of_lt) s.toArray (fun i j hij hj => ?_) s.length (by simp)
  · rcases List.le_iff_lt_or_eq.1 h with h | h
    · exact h
    · exact absurd h hne
  · simp at hj
    rcases Nat.lt_or_ge i j with h | h
    · have := List.pairwise_iff_getElem.1 hs i j (by omega) hj h
      simpa [hj, show i < s.length by omega] using this
    · obtain rfl : i = j := by omega
      exact List.le_refl _
theorem setS_ext {l l' : List ByteArray} (h : ∀ x, x ∈ l ↔ x ∈ l') : setS l = setS l' := by
  have e : (setS l).map toL = (setS l').map toL := by
    have n1 : ((setS l).map toL).Nodup := List.Pairwise.imp (R := (· < ·)) (fun {a b} h => by rintro rfl; exact List.lt_irrefl a h) (setS_sorted l)
    have n2 : ((setS l').map toL).Nodup := List.Pairwise.imp (R := (· < ·)) (fun {a b} h => by rintro rfl; exact List.lt_irrefl a h) (setS_sorted l')
    refine List.Perm.eq_of_pairwise (le := (· < ·)) ?_ (setS_sorted l) (setS_sorted l') ((List.perm_ext_iff_of_nodup n1 n2).2 fun x => ?_)
    · intro a b _ _ h1 h2
      exact absurd (List.lt_trans h1 h2) (List.lt_irrefl a)
    · rw [List.mem_map, List.mem_map]
      constructor
      · rintro ⟨y, hy, rfl⟩; exact ⟨y, mem_setS.2 ((h y).1 (mem_setS.1 hy)), rfl⟩
      · rintro ⟨y, hy, rfl⟩; exact ⟨y, mem_setS.2 ((h y).2 (mem_setS.1 hy)), rfl⟩
  have := congrArg (List.map ofL) e
  rw [List.map_map, List.map_map] at this
  have e2 : (ofL ∘ toL) = (id : ByteArray → ByteArray) := by funext x; simp [ofL_toL]
  simpa [e2] using this
theorem setS_len (l : List ByteArray) : (setS l).length ≤ l.length := by
  have := compactS_len (sortS l)
  rw [sortS_len] at this
  exact this
end Go.Proofs.Ytmlhnjonmjmhdaa.H
namespace Go.Proofs.Ytmlhnjonmjmhdaa.H
open Go.RowKit Go.Proofs.YtmlhnjonmjmhdaaW.PrintWords
theorem Kd.C_nth {α : Type} {d : Kd α} {w : World} {A : Option Addr} {n : Nat} {xs : List α} (h : Kd.C d w A n xs) {i : Nat} {y : α} (hy : xs[i]? = some y) :
    ∃ ad c, A = some ad ∧ c.length = d.sz ∧ d.K w y c ∧ ∀ j u, c[j]? = some u → w.cell? (ad.add (i * d.sz + j)) = some u := by
  obtain ⟨h1, h2, h3⟩ := h
  have hi : i < xs.length := (List.getElem?_eq_some_iff.1 hy).1
  obtain ⟨ad, e, hc⟩ := h3 (by omega)
  obtain ⟨c, hs, hr, hcell⟩ := hc i y hy
  exact ⟨ad, c, e, hs, hr, hcell⟩
theorem at_Val {w : World} {A : Option Addr} {n : Nat} {xs : List Val} (h : Kd.C k67 w A n xs) {i : Nat} {y : Val} (hy : xs[i]? = some y) : ∃ ad , A = some ad ∧ w.cell? (ad.add (i * 3)) = some (.bool y.isSym) ∧ w.cell? ⟨(ad.add (i * 3)).block, (ad.add (i * 3)).off + 1, none⟩ = some (.string y.sym) ∧ w.cell? ⟨(ad.add (i * 3)).block, (ad.add (i * 3)).off + 2, none⟩ = some (.int .i64 y.n) := by
  obtain ⟨ad, c, e, _, hK, hc⟩ := Kd.C_nth h hy
  rw [show k67.sz = 3 from rfl] at hc
  obtain rfl := k67_open hK
  exact ⟨ad, e, by have hq := hc 0 _ rfl; rwa [Nat.add_zero] at hq, by rw [← add_field _ _ 1 (by omega)]; exact hc 1 _ rfl, by rw [← add_field _ _ 2 (by omega)]; exact hc 2 _ rfl⟩
theorem at_Term {w : World} {A : Option Addr} {n : Nat} {xs : List Term} (h : Kd.C k69 w A n xs) {i : Nat} {y : Term} (hy : xs[i]? = some y) : ∃ ad , A = some ad ∧ w.cell? (ad.add (i * 5)) = some (.bool y.isVar) ∧ w.cell? ⟨(ad.add (i * 5)).block, (ad.add (i * 5)).off + 1, none⟩ = some (.string y.name) ∧ w.cell? ⟨(ad.add (i * 5)).block, (ad.add (i * 5)).off + 2, none⟩ = some (.bool y.val.isSym) ∧ w.cell? ⟨(ad.add (i * 5)).block, (ad.add (i * 5)).off + 3, none⟩ = some (.string y.val.sym) ∧ w.cell? ⟨(ad.add (i * 5)).block, (ad.add (i * 5)).off + 4, none⟩ = some (.int .i64 y.val.n) := by
  obtain ⟨ad, c, e, _, hK, hc⟩ := Kd.C_nth h hy
  rw [show k69.sz = 5 from rfl] at hc
  obtain rfl := k69_open hK
  exact ⟨ad, e, by have hq := hc 0 _ rfl; rwa [Nat.add_zero] at hq, by rw [← add_field _ _ 1 (by omega)]; exact hc 1 _ rfl, by rw [← add_field _ _ 2 (by omega)]; exact hc 2 _ rfl, by rw [← add_field _ _ 3 (by omega)]; exact hc 3 _ rfl, by rw [← add_field _ _ 4 (by omega)]; exact hc 4 _ rfl⟩
theorem at_Atom {w : World} {A : Option Addr} {n : Nat} {xs : List Atom} (h : Kd.C k61 w A n xs) {i : Nat} {y : Atom} (hy : xs[i]? = some y) : ∃ ad A1 c1, A = some ad ∧ w.cell? (ad.add (i * 2)) = some (.string y.pred) ∧ w.cell? ⟨(ad.add (i * 2)).block, (ad.add (i * 2)).off + 1, none⟩ = some (.slice A1 y.args.length c1) ∧ y.args.length ≤ c1 ∧ k69.C w A1 y.args.length y.args := by
  obtain ⟨ad, c, e, _, hK, hc⟩ := Kd.C_nth h hy
  rw [show k61.sz = 2 from rfl] at hc
  obtain ⟨A1, c1, rfl, l1, g1⟩ := k61_open hK
  exact ⟨ad, A1, c1, e, by have hq := hc 0 _ rfl; rwa [Nat.add_zero] at hq, by rw [← add_field _ _ 1 (by omega)]; exact hc 1 _ rfl, l1, g1⟩
theorem at_Liter {w : World} {A : Option Addr} {n : Nat} {xs : List Liter} (h : Kd.C k71 w A n xs) {i : Nat} {y : Liter} (hy : xs[i]? = some y) : ∃ ad A2 c2, A = some ad ∧ w.cell? (ad.add (i * 14)) = some (.int .i64 y.kind) ∧ w.cell? ⟨(ad.add (i * 14)).block, (ad.add (i * 14)).off + 1, none⟩ = some (.string y.atom.pred) ∧ w.cell? ⟨(ad.add (i * 14)).block, (ad.add (i * 14)).off + 2, none⟩ = some (.slice A2 y.atom.args.length c2) ∧ w.cell? ⟨(ad.add (i * 14)).block, (ad.add (i * 14)).off + 3, none⟩ = some (.string y.op) ∧ w.cell? ⟨(ad.add (i * 14)).block, (ad.add (i * 14)).off + 4, none⟩ = some (.bool y.l.isVar) ∧ w.cell? ⟨(ad.add (i * 14)).block, (ad.add (i * 14)).off + 5, none⟩ = some (.string y.l.name) ∧ w.cell? ⟨(ad.add (i * 14)).block, (ad.add (i * 14)).off + 6, none⟩ = some (.bool y.l.val.isSym) ∧ w.cell? ⟨(ad.add (i * 14)).block, (ad.add (i * 14)).off + 7, none⟩ = some (.string y.l.val.sym) ∧ w.cell? ⟨(ad.add (i * 14)).block, (ad.add (i * 14)).off + 8, none⟩ = some (.int .i64 y.l.val.n) ∧ w.cell? ⟨(ad.add (i * 14)).block, (ad.add (i * 14)).off + 9, none⟩ = some (.bool y.r.isVar) ∧ w.cell? ⟨(ad.add (i * 14)).block, (ad.add (i * 14)).off + 10, none⟩ = some (.string y.r.name) ∧ w.cell? ⟨(ad.add (i * 14)).block, (ad.add (i * 14)).off + 11, none⟩ = some (.bool y.r.val.isSym) ∧ w.cell? ⟨(ad.add (i * 14)).block, (ad.add (i * 14)).off + 12, none⟩ = some (.string y.r.val.sym) ∧ w.cell? ⟨(ad.add (i * 14)).block, (ad.add (i * 14)).off + 13, none⟩ = some (.int .i64 y.r.val.n) ∧ y.atom.args.length ≤ c2 ∧ k69.C w A2 y.atom.args.length y.atom.args := by
  obtain ⟨ad, c, e, _, hK, hc⟩ := Kd.C_nth h hy
  rw [show k71.sz = 14 from rfl] at hc
  obtain ⟨A2, c2, rfl, l2, g2⟩ := k71_open hK
  exact ⟨ad, A2, c2, e, by have hq := hc 0 _ rfl; rwa [Nat.add_zero] at hq, by rw [← add_field _ _ 1 (by omega)]; exact hc 1 _ rfl, by rw [← add_field _ _ 2 (by omega)]; exact hc 2 _ rfl, by rw [← add_field _ _ 3 (by omega)]; exact hc 3 _ rfl, by rw [← add_field _ _ 4 (by omega)]; exact hc 4 _ rfl, by rw [← add_field _ _ 5 (by omega)]; exact hc 5 _ rfl, by rw [← add_field _ _ 6 (by omega)]; exact hc 6 _ rfl, by rw [← add_field _ _ 7 (by omega)]; exact hc 7 _ rfl, by rw [← add_field _ _ 8 (by omega)]; exact hc 8 _ rfl, by rw [← add_field _ _ 9 (by omega)]; exact hc 9 _ rfl, by rw [← add_field _ _ 10 (by omega)]; exact hc 10 _ rfl, by rw [← add_field _ _ 11 (by omega)]; exact hc 11 _ rfl, by rw [← add_field _ _ 12 (by omega)]; exact hc 12 _ rfl, by rw [← add_field _ _ 13 (by omega)]; exact hc 13 _ rfl, l2, g2⟩
theorem at_Rule {w : World} {A : Option Addr} {n : Nat} {xs : List Rule} (h : Kd.C k64 w A n xs) {i : Nat} {y : Rule} (hy : xs[i]? = some y) : ∃ ad A1 c1 A2 c2, A = some ad ∧ w.cell? (ad.add (i * 3)) = some (.string y.head.pred) ∧ w.cell? ⟨(ad.add (i * 3)).block, (ad.add (i * 3)).off + 1, none⟩ = some (.slice A1 y.head.args.length c1) ∧ w.cell? ⟨(ad.add (i * 3)).block, (ad.add (i * 3)).off + 2, none⟩ = some (.slice A2 y.body.length c2) ∧ y.head.args.length ≤ c1 ∧ k69.C w A1 y.head.args.length y.head.args ∧ y.body.length ≤ c2 ∧ k71.C w A2 y.body.length y.body := by
  obtain ⟨ad, c, e, _, hK, hc⟩ := Kd.C_nth h hy
  rw [show k64.sz = 3 from rfl] at hc
  obtain ⟨A1, c1, A2, c2, rfl, l1, g1, l2, g2⟩ := k64_open hK
  exact ⟨ad, A1, c1, A2, c2, e, by have hq := hc 0 _ rfl; rwa [Nat.add_zero] at hq, by rw [← add_field _ _ 1 (by omega)]; exact hc 1 _ rfl, by rw [← add_field _ _ 2 (by omega)]; exact hc 2 _ rfl, l1, g1, l2, g2⟩
theorem at_Decl {w : World} {A : Option Addr} {n : Nat} {xs : List Decl} (h : Kd.C k96 w A n xs) {i : Nat} {y : Decl} (hy : xs[i]? = some y) : ∃ ad , A = some ad ∧ w.cell? (ad.add (i * 2)) = some (.string y.pred) ∧ w.cell? ⟨(ad.add (i * 2)).block, (ad.add (i * 2)).off + 1, none⟩ = some (.int .i64 y.arity) := by
  obtain ⟨ad, c, e, _, hK, hc⟩ := Kd.C_nth h hy
  rw [show k96.sz = 2 from rfl] at hc
  obtain rfl := k96_open hK
  exact ⟨ad, e, by have hq := hc 0 _ rfl; rwa [Nat.add_zero] at hq, by rw [← add_field _ _ 1 (by omega)]; exact hc 1 _ rfl⟩
theorem at_Prog {w : World} {A : Option Addr} {n : Nat} {xs : List Prog} (h : Kd.C k50 w A n xs) {i : Nat} {y : Prog} (hy : xs[i]? = some y) : ∃ ad A0 c0 A1 c1, A = some ad ∧ w.cell? (ad.add (i * 2)) = some (.slice A0 y.decls.length c0) ∧ w.cell? ⟨(ad.add (i * 2)).block, (ad.add (i * 2)).off + 1, none⟩ = some (.slice A1 y.rules.length c1) ∧ y.decls.length ≤ c0 ∧ k96.C w A0 y.decls.length y.decls ∧ y.rules.length ≤ c1 ∧ k64.C w A1 y.rules.length y.rules := by
  obtain ⟨ad, c, e, _, hK, hc⟩ := Kd.C_nth h hy
  rw [show k50.sz = 2 from rfl] at hc
  obtain ⟨A0, c0, A1, c1, rfl, l0, g0, l1, g1⟩ := k50_open hK
  exact ⟨ad, A0, c0, A1, c1, e, by have hq := hc 0 _ rfl; rwa [Nat.add_zero] at hq, by rw [← add_field _ _ 1 (by omega)]; exact hc 1 _ rfl, l0, g0, l1, g1⟩
theorem at_IPair {w : World} {A : Option Addr} {n : Nat} {xs : List IPair} (h : Kd.C k27 w A n xs) {i : Nat} {y : IPair} (hy : xs[i]? = some y) : ∃ ad , A = some ad ∧ w.cell? (ad.add (i * 2)) = some (.int .i64 y.fst) ∧ w.cell? ⟨(ad.add (i * 2)).block, (ad.add (i * 2)).off + 1, none⟩ = some (.int .i64 y.snd) := by
  obtain ⟨ad, c, e, _, hK, hc⟩ := Kd.C_nth h hy
  rw [show k27.sz = 2 from rfl] at hc
  obtain rfl := k27_open hK
  exact ⟨ad, e, by have hq := hc 0 _ rfl; rwa [Nat.add_zero] at hq, by rw [← add_field _ _ 1 (by omega)]; exact hc 1 _ rfl⟩
theorem at_BPair {w : World} {A : Option Addr} {n : Nat} {xs : List BPair} (h : Kd.C k45 w A n xs) {i : Nat} {y : BPair} (hy : xs[i]? = some y) : ∃ ad , A = some ad ∧ w.cell? (ad.add (i * 2)) = some (.int .u8 y.fst) ∧ w.cell? ⟨(ad.add (i * 2)).block, (ad.add (i * 2)).off + 1, none⟩ = some (.int .u8 y.snd) := by
  obtain ⟨ad, c, e, _, hK, hc⟩ := Kd.C_nth h hy
  rw [show k45.sz = 2 from rfl] at hc
  obtain rfl := k45_open hK
  exact ⟨ad, e, by have hq := hc 0 _ rfl; rwa [Nat.add_zero] at hq, by rw [← add_field _ _ 1 (by omega)]; exact hc 1 _ rfl⟩
end Go.Proofs.Ytmlhnjonmjmhdaa.H
namespace Go.Proofs.Ytmlhnjonmjmhdaa.H
/-- is a name one of some -/
def mem (s : ByteArray) (l : List ByteArray) : Bool := l.any fun x => decide (s = x)
theorem mem_iff {s : ByteArray} {l : List ByteArray} : mem s l = true ↔ s ∈ l := by simp [mem]
end Go.Proofs.Ytmlhnjonmjmhdaa.H
namespace Go.Proofs.Ytmlhnjonmjmhdaa.H
open Go.RowKit Go.Proofs.YtmlhnjonmjmhdaaW.PrintWords Go.Proofs.YtmlhnjonmjmhdaaW.PrintLast Go.Proofs.YtmlhnjonmjmhdaaW.PrintMore
/-- a predicate that is handed to the library, at one cell -/
def PredK (P : Program) (g : Nat) (lb : Array Value) {α : Type} (enc : α → Value) (p : α → Bool) (w : World) (l : List α) : Prop :=
  ∀ (W : World) (x : α), x ∈ l → Below w.heap.size w W → Calls P g (#[enc x] ++ lb) W fun e w' => e = .returned (.bool (p x)) ∧ Below W.heap.size W w'
/-- the same at a struct -/
def PredA (P : Program) (g : Nat) (lb : Array Value) {α : Type} (d : Kd α) (p : α → Bool) (w : World) (l : List α) : Prop :=
  ∀ (W : World) (x : α) (cs : List Value), x ∈ l → Below w.heap.size w W → d.K W x cs → Calls P g (#[.agg cs.toArray] ++ lb) W fun e w' => e = .returned (.bool (p x)) ∧ Below W.heap.size W w'
/-- the first place from i on at which p holds; -1 -/
def idxP {α : Type} (p : α → Bool) : List α → Nat → Int
  | [], _ => -1
  | x :: l, i => if p x = true then (i : Int) else idxP p l (i + 1)
theorem drop_cons {α : Type} {l : List α} {k : Nat} {y : α} (hy : l[k]? = some y) : l.drop k = y :: l.drop (k + 1) := by
  obtain ⟨h, rfl⟩ := List.getElem?_eq_some_iff.1 hy
  exact List.drop_eq_getElem_cons h
theorem drop_all {α : Type} (l : List α) : l.drop l.length = [] := List.drop_length
theorem at_some {α : Type} {l : List α} {k : Nat} (h : k < l.length) : ∃ y, l[k]? = some y := ⟨l[k], List.getElem?_eq_getElem h⟩
theorem idxP_any {α : Type} (p : α → Bool) : ∀ (l : List α) (i : Nat), decide (0 ≤ idxP p l i) = l.any p
  | [], i => by simp [idxP]
  | x :: l, i => by
    unfold idxP
    by_cases h : p x = true
    · rw [if_pos h]; simp [h]
    · rw [if_neg h, idxP_any p l (i + 1)]; simp [h]
theorem ba_eq {a b : ByteArray} : (a.toList = b.toList) ↔ a = b := by
  constructor
  · intro h
    have h1 : a.data.toList = b.data.toList := by
      have := h
      rwa [ByteArray.toList_eq, ByteArray.toList_eq] at this
    cases a; cases b; simp at h1; subst h1; rfl
  · rintro rfl; rfl
theorem ba_beq {a b : ByteArray} (h : a = b) : (a.toList == b.toList) = true ∧ (a.toList != b.toList) = false := by subst h; simp
theorem ba_bne {a b : ByteArray} (h : ¬ a = b) : (a.toList == b.toList) = false ∧ (a.toList != b.toList) = true :=
  ⟨beq_eq_false_iff_ne.2 (fun e => h (ba_eq.1 e)), bne_iff_ne.2 (fun e => h (ba_eq.1 e))⟩
section
variable {w : World} {A : Option Addr} {n i : Nat}
theorem at_int {k : IntKind} {xs : List Int} {y : Int} (h : (Kd.int k).C w A n xs) (hy : xs[i]? = some y) : ∃ ad, A = some ad ∧ w.cell? (ad.add i) = some (.int k y) := by
  obtain ⟨ad, c, e, _, hK, hc⟩ := Kd.C_nth h hy
  obtain rfl : c = [.int k y] := hK
  have hq := hc 0 _ rfl
  exact ⟨ad, e, by rwa [show i * (Kd.int k).sz + 0 = i from Nat.mul_one i] at hq⟩
theorem at_bool {xs : List Bool} {y : Bool} (h : Kd.bool.C w A n xs) (hy : xs[i]? = some y) : ∃ ad, A = some ad ∧ w.cell? (ad.add i) = some (.bool y) := by
  obtain ⟨ad, c, e, _, hK, hc⟩ := Kd.C_nth h hy
  obtain rfl : c = [.bool y] := hK
  have hq := hc 0 _ rfl
  exact ⟨ad, e, by rwa [show i * Kd.bool.sz + 0 = i from Nat.mul_one i] at hq⟩
theorem at_str {xs : List ByteArray} {y : ByteArray} (h : Kd.string.C w A n xs) (hy : xs[i]? = some y) : ∃ ad, A = some ad ∧ w.cell? (ad.add i) = some (.string y) := by
  obtain ⟨ad, c, e, _, hK, hc⟩ := Kd.C_nth h hy
  obtain rfl : c = [.string y] := hK
  have hq := hc 0 _ rfl
  exact ⟨ad, e, by rwa [show i * Kd.string.sz + 0 = i from Nat.mul_one i] at hq⟩
theorem at_row {α : Type} {d : Kd α} {t : Nat} {xs : List (List α)} {y : List α} (h : (Kd.slice t d).C w A n xs) (hy : xs[i]? = some y) : ∃ ad A1 c1, A = some ad ∧ w.cell? (ad.add i) = some (.slice A1 y.length c1) ∧ y.length ≤ c1 ∧ d.C w A1 y.length y := by
  obtain ⟨ad, c, e, _, hK, hc⟩ := Kd.C_nth h hy
  obtain ⟨A1, c1, rfl, hl, hr⟩ := hK
  have hq := hc 0 _ rfl
  exact ⟨ad, A1, c1, e, by rwa [show i * (Kd.slice t d).sz + 0 = i from Nat.mul_one i] at hq, hl, hr⟩
end
/-- an old cell, in a world that comes behind -/
theorem Below.old {w W : World} {a : Addr} {v : Value} (hb : Below w.heap.size w W) (h : w.cell? a = some v) : W.cell? a = some v := (hb.cell (World.block_lt_of_cell? w _ h)).trans h
theorem Below.then {w W X : World} (h : Below w.heap.size w W) (k : Below W.heap.size W X) : Below w.heap.size w X := below_then h h.size k
theorem ret_int {k : IntKind} {a b : Int} (h : a = b) : Ending.returned (.int k a) = .returned (.int k b) := by rw [h]
theorem ret_bool {a b : Bool} (h : a = b) : Ending.returned (.bool a) = .returned (.bool b) := by rw [h]
end Go.Proofs.Ytmlhnjonmjmhdaa.H
namespace Go.Proofs.Ytmlhnjonmjmhdaa.H
open Go.RowKit Go.Proofs.YtmlhnjonmjmhdaaW.PrintWords Go.Proofs.YtmlhnjonmjmhdaaW.PrintLast Go.Proofs.YtmlhnjonmjmhdaaW.PrintMore
theorem grown_set (w : World) (g j : Nat) (v : Value) : w.grownBy (w.setCell ⟨g, j, none⟩ v) (some g) :=
  ⟨rfl, rfl, rfl, by simp [World.setCell], fun k hk hne => Below.heap_setCell w ⟨g, j, none⟩ v k (fun e => hne (by rw [e]))⟩
theorem grown_trans {w w1 w2 : World} {r : Option Nat} (h : w.grownBy w1 r) (k : w1.grownBy w2 r) : w.grownBy w2 r :=
  ⟨k.os.trans h.os, k.tape.trans h.tape, k.output.trans h.output, Nat.le_trans h.size k.size, fun j hj hne => (k.block j (Nat.lt_of_lt_of_le hj h.size) hne).trans (h.block j hj hne)⟩
theorem setCells_rowH {g : Nat} {e : TypeId} : ∀ (vs : List Value) (o : Nat) (w : World) (cur : Array Value), w.heap[g]? = some (.cells cur e (0, 0)) →
    ∃ cur', (w.setCells g o vs).heap[g]? = some (.cells cur' e (0, 0)) ∧ cur'.size = cur.size ∧ (∀ j, j < o → cur'[j]? = cur[j]?) ∧ w.grownBy (w.setCells g o vs) (some g)
  | [], o, w, cur, h => ⟨cur, h, rfl, fun _ _ => rfl, World.grownBy.refl w _⟩
  | v :: r, o, w, cur, h => by
    have h1 := blk_set h o v
    obtain ⟨cur', h2, h3, h4, h5⟩ := setCells_rowH r (o + 1) _ _ h1
    refine ⟨cur', h2, by rw [h3]; simp, fun j hj => ?_, ?_⟩
    · rw [h4 j (by omega)]; simp [show ¬ o = j by omega]
    · exact grown_trans (grown_set w g o v) h5
theorem run_clear_row {P : Program} (w : World) (t e ty : TypeId) (z : Value) (ht : P.underlying t = some (.slice e)) (hv : ∀ w, (zeroValue e).run P w = .ok z w) (h1 : ∀ v ∈ z.cells, v.oneCell' = true) (g o n c : Nat) (cur : Array Value)
    (hh : w.heap[g]? = some (.cells cur e (0, 0))) (hn : o + n * z.cells.size ≤ cur.size) :
    ∃ vs, (Builtin.clear_ #[t] ty #[.slice (some ⟨g, o, none⟩) n c]).run P w = .ok (.tuple #[]) (w.setCells g o vs) := by
  cases n with
  | zero => exact ⟨[], by simp [Builtin.clear_, run_underlying ht]; rfl⟩
  | succ m =>
    have hst := run_storeCells_cells (P := P) g o (Builtin.zeroCells z.cells (m + 1)).toList 0 w
      (by intro j hj
          have hj' : j < (m + 1) * z.cells.size := by simpa [Builtin.zeroCells] using hj
          rw [Nat.add_zero, blk_cell hh, Array.getElem?_eq_getElem (by omega)]; rfl)
      (fun j _ => blk_frozen hh _)
      (by intro v hv'
          simp only [Builtin.zeroCells, Array.toList_map, List.mem_map] at hv'
          obtain ⟨i, hi, rfl⟩ := hv'
          have hi' : i < (m + 1) * z.cells.size := by simpa using hi
          have hz : 0 < z.cells.size := by
            rcases Nat.eq_zero_or_pos z.cells.size with h0 | h0
            · rw [h0] at hi'; omega
            · exact h0
          rw [getElem!_pos z.cells _ (Nat.mod_lt _ hz)]
          exact h1 _ (Array.getElem_mem _))
    simp only [Nat.add_zero] at hst
    exact ⟨(Builtin.zeroCells z.cells (m + 1)).toList, by simp [Builtin.clear_, run_underlying ht, hv, hst]⟩
/-- a row whose tail was written, cut before that tail -/
theorem R_cut {α : Type} {d : Kd α} {e : Nat} {w w1 : World} {base : Nat} {ok : Nat → Prop} {g n cap i : Nat} {xs : List α} (h : d.R e w base ok (.slice (some ⟨g, 0, none⟩) n cap) xs) (hi : i ≤ xs.length) (hg : w.grownBy w1 (some g)) {cur cur' : Array Value}
    (h0 : w.heap[g]? = some (.cells cur e (0, 0))) (h1 : w1.heap[g]? = some (.cells cur' e (0, 0))) (hs : cur'.size = cur.size) (hp : ∀ j, j < i * d.sz → cur'[j]? = cur[j]?) :
    d.R e w1 base ok (.slice (some ⟨g, 0, none⟩) i cap) (xs.take i) := by
  obtain ⟨hok, inner, ⟨hlen, ho⟩, hr⟩ := h
  rcases ho with ⟨he, _⟩ | ⟨g', cap', cur0, he, hb, hh, hnc, hcm, hcs, htk⟩
  · cases he
  · cases he
    have hcc : cur0 = cur := by rw [h0] at hh; injection hh with hh; injection hh with hh; exact hh.symm
    subst hcc
    have hle : i * d.sz ≤ xs.length * d.sz := Nat.mul_le_mul_right _ hi
    have hlt : (xs.take i).length = i := by rw [List.length_take]; omega
    have hll : inner.length = xs.length * d.sz := hlen
    refine ⟨hok, inner.take (i * d.sz), ⟨?_, .inr ⟨g, cap, cur', by rw [hlt], hb, h1, by omega, hcm, by rw [hs, hcs], ?_⟩⟩, ?_, ?_⟩
    · rw [List.length_take, hlt]; omega
    · rw [hlt, ← htk, List.take_take, Nat.min_eq_left hle]
      apply List.ext_getElem?
      intro j
      rw [List.getElem?_take, List.getElem?_take]
      split
      · have := hp j (by assumption)
        simpa using this
      · rfl
    · rw [List.length_take, hlt]; omega
    · intro j p hj
      rw [List.getElem?_take] at hj
      split at hj
      · rename_i hji
        have h3 := hr.2 j p hj
        have hjs : j * d.sz + d.sz ≤ i * d.sz := by rw [← Nat.succ_mul]; exact Nat.mul_le_mul_right _ hji
        have e1 : ((inner.take (i * d.sz)).drop (j * d.sz)).take d.sz = (inner.drop (j * d.sz)).take d.sz := by
          rw [List.drop_take, List.take_take, Nat.min_eq_left (by omega)]
        rw [e1]
        refine Kd.M_grown h3 hg (fun k hk => ?_)
        simpa [Value.ownBlock] using hk.2
      · cases hj
theorem R_blk {α : Type} {d : Kd α} {e : Nat} {w : World} {base : Nat} {ok : Nat → Prop} {g n cap : Nat} {xs : List α} (h : d.R e w base ok (.slice (some ⟨g, 0, none⟩) n cap) xs) : ∃ cells, w.heap[g]? = some (.cells cells e (0, 0)) := by
  obtain ⟨_, inner, ⟨_, ho⟩, _⟩ := h
  rcases ho with ⟨he, _⟩ | ⟨g', cap', cur0, he, hb, hh, _⟩
  · cases he
  · cases he; exact ⟨_, hh⟩
theorem R_size {α : Type} {d : Kd α} {e : Nat} {w : World} {base : Nat} {ok : Nat → Prop} {g n cap : Nat} {xs : List α} (h : d.R e w base ok (.slice (some ⟨g, 0, none⟩) n cap) xs) {cells : Array Value} (hc : w.heap[g]? = some (.cells cells e (0, 0))) : cells.size = cap * d.sz ∧ n ≤ cap := by
  obtain ⟨_, inner, ⟨_, ho⟩, _⟩ := h
  rcases ho with ⟨he, _⟩ | ⟨g', cap', cur0, he, hb, hh, h1, h2, h3, _⟩
  · cases he
  · cases he
    rw [hh] at hc; injection hc with hc; injection hc with hc; subst hc
    exact ⟨h3, h1⟩
theorem R_put1 {α : Type} {enc : α → Value} {h1 : ∀ x, (enc x).oneCell' = true} {e : Nat} {w : World} {base : Nat} {ok : Nat → Prop} {g n cap : Nat} {xs : List α} (h : (Kd.scalar enc h1).R e w base ok (.slice (some ⟨g, 0, none⟩) n cap) xs) (i : Nat) (x : α) :
    (Kd.scalar enc h1).R e (w.setCell ⟨g, i, none⟩ (enc x)) base ok (.slice (some ⟨g, 0, none⟩) n cap) (xs.set i x) ∧ w.grownBy (w.setCell ⟨g, i, none⟩ (enc x)) (some g) := by
  obtain ⟨rfl, _, _⟩ := Kd.R_reads' h
  have := Kd.R_put h (i : Int) x
  simpa using this
/-- a row that was made by a literal, read -/
theorem C_cells {α : Type} {d : Kd α} {w : World} {g e : Nat} {cs : Array Value} {xs : List α} (h : w.heap[g]? = some (.cells cs e (0, 0))) (hr : Reps (d.K w) d.sz xs cs.toList) (hl : xs.length ≤ 9223372036854775807) :
    d.C w (some ⟨g, 0, none⟩) xs.length xs := by
  refine ⟨rfl, hl, fun _ => ⟨⟨g, 0, none⟩, rfl, fun j p hj => ?_⟩⟩
  refine ⟨(cs.toList.drop (j * d.sz)).take d.sz, ?_, hr.2 j p hj, fun i u hu => ?_⟩
  · have hjl := (List.getElem?_eq_some_iff.1 hj).1
    have : j * d.sz + d.sz ≤ xs.length * d.sz := by rw [← Nat.succ_mul]; exact Nat.mul_le_mul_right _ hjl
    rw [List.length_take, List.length_drop, hr.1]; omega
  · rw [List.getElem?_take] at hu
    split at hu
    · rw [add_plain, blk_cell h]
      rw [List.getElem?_drop] at hu
      simpa using hu
    · cases hu
/-- a predicate that is handed to what rewrites the row as it goes -/
def PredG (P : Program) (g : Nat) (lb : Array Value) {α : Type} (enc : α → Value) (p : α → Bool) (w : World) (row : Option Nat) (l : List α) : Prop :=
  ∀ (W : World) (x : α), x ∈ l → w.grownBy W row → Calls P g (#[enc x] ++ lb) W fun e w' => e = .returned (.bool (p x)) ∧ Below W.heap.size W w'
theorem grown_below {w w1 : World} (h : Below w.heap.size w w1) (row : Option Nat) : w.grownBy w1 row := grown_of_below h row
theorem PredG.k {P : Program} {g : Nat} {lb : Array Value} {α : Type} {enc : α → Value} {p : α → Bool} {w : World} {row : Option Nat} {l : List α} (h : PredG P g lb enc p w row l) : PredK P g lb enc p w l :=
  fun W x hm hb => h W x hm (grown_of_below hb row)
structure KeptIv {α : Type} (q : α → Bool) (l : List α) (j i : Nat) (dk : List α) : Prop where
  len : dk.length = l.length
  lt : i < j
  le : j ≤ l.length
  low : dk.take i = (l.take j).filter q
  high : dk.drop j = l.drop j
theorem KeptIv.skip {α : Type} {q : α → Bool} {l dk : List α} {j i : Nat} {y : α} (h : KeptIv q l j i dk) (hy : l[j]? = some y) (hq : q y = false) : KeptIv q l (j + 1) i dk := by
  have hj : j < l.length := (List.getElem?_eq_some_iff.1 hy).1
  refine ⟨h.len, by have := h.lt; omega, by omega, ?_, ?_⟩
  · rw [List.take_add_one, hy, List.filter_append, h.low]; simp [hq]
  · have := congrArg (List.drop 1) h.high; simpa [List.drop_drop, Nat.add_comm] using this
theorem KeptIv.keep {α : Type} {q : α → Bool} {l dk : List α} {j i : Nat} {y : α} (h : KeptIv q l j i dk) (hy : l[j]? = some y) (hq : q y = true) : KeptIv q l (j + 1) (i + 1) (dk.set i y) := by
  have hj : j < l.length := (List.getElem?_eq_some_iff.1 hy).1
  have hlt := h.lt
  have hlen := h.len
  refine ⟨by simpa using h.len, by omega, by omega, ?_, ?_⟩
  · have e1 : (dk.set i y).take (i + 1) = dk.take i ++ [y] := by
      rw [List.take_add_one, List.getElem?_set_self (by omega)]
      simp [List.take_set_of_le (Nat.le_refl i)]
    rw [e1, h.low, List.take_add_one, hy, List.filter_append]; simp [hq]
  · rw [List.drop_set_of_lt (by omega)]
    have := congrArg (List.drop 1) h.high; simpa [List.drop_drop, Nat.add_comm] using this
theorem KeptIv.start {α : Type} {q : α → Bool} {l : List α} {k : Nat} {y : α} (h : ∀ x ∈ l.take k, q x = true) (hy : l[k]? = some y) (hq : q y = false) : KeptIv q l (k + 1) k l := by
  have hk : k < l.length := (List.getElem?_eq_some_iff.1 hy).1
  refine ⟨rfl, by omega, by omega, ?_, rfl⟩
  rw [List.take_add_one, hy, List.filter_append, List.filter_eq_self.2 h]; simp [hq]
theorem idxP_cases {α : Type} (p : α → Bool) : ∀ (l : List α) (i : Nat), (idxP p l i = -1 ∧ ∀ x ∈ l, p x = false) ∨ ∃ k y, idxP p l i = ((i + k : Nat) : Int) ∧ l[k]? = some y ∧ p y = true ∧ ∀ x ∈ l.take k, p x = false
  | [], i => .inl ⟨rfl, by simp⟩
  | x :: l, i => by
    cases h : p x with
    | true => exact .inr ⟨0, x, by simp [idxP, h], by simp, h, by simp⟩
    | false =>
      rcases idxP_cases p l (i + 1) with ⟨e, ha⟩ | ⟨k, y, e, hy, hp, ha⟩
      · exact .inl ⟨by simp [idxP, h, e], by simpa [h] using ha⟩
      · exact .inr ⟨k + 1, y, by rw [idxP, if_neg (by rw [h]; decide), e]; congr 1; omega, by simpa using hy, hp, by simpa [h] using ha⟩
end Go.Proofs.Ytmlhnjonmjmhdaa.H
/- what is reached, in plain words -/
namespace Go.Proofs.Ytmlhnjonmjmhdaa.H
open Go.RowKit Go.Proofs.YtmlhnjonmjmhdaaW.PrintWords
def mkS (S : List Bool) (T : List Int) (x : Int) : List Bool × List Int := if S.getD x.toNat false = true then (S, T) else (S.set x.toNat true, T ++ [x])
/-- a way along the rows -/
inductive Rch (l : List (List Int)) (a : Nat) : Nat → Prop
  | refl : Rch l a a
  | step {i : Nat} {y : Int} (h : Rch l a i) (hy : y ∈ l.getD i []) : Rch l a y.toNat
open Classical in
noncomputable def reachC (l : List (List Int)) (a : Nat) : List Bool := (List.range l.length).map fun i => decide (Rch l a i)
def okR (l : List (List Int)) : Prop := l.length ≤ 1000000 ∧ ∀ r ∈ l, ∀ y ∈ r, 0 ≤ y ∧ y < (l.length : Int)
structure RI (l : List (List Int)) (a : Nat) (S : List Bool) (T : List Int) (p : Nat → Prop) : Prop where
  len : S.length = l.length
  start : S.getD a false = true
  tin : ∀ x ∈ T, 0 ≤ x ∧ x < (l.length : Int) ∧ S.getD x.toNat false = true
  sound : ∀ i, S.getD i false = true → Rch l a i
  closed : ∀ i, S.getD i false = true → (i : Int) ∈ T ∨ p i ∨ ∀ y ∈ l.getD i [], S.getD y.toNat false = true
  few : T.length + S.count false ≤ l.length
theorem getD_set_b (S : List Bool) (i j : Nat) : (S.set i true).getD j false = if i = j ∧ i < S.length then true else S.getD j false := by
  rw [List.getD_eq_getElem?_getD, List.getElem?_set, List.getD_eq_getElem?_getD]
  by_cases h : i = j
  · subst h
    by_cases h2 : i < S.length
    · simp [h2]
    · simp [h2]
  · simp [h]
theorem count_set_b (S : List Bool) (i : Nat) (h : i < S.length) (hf : S.getD i false ≠ true) : (S.set i true).count false + 1 = S.count false := by
  induction S generalizing i with
  | nil => cases h
  | cons b S ih =>
    cases i with
    | zero =>
      have : b = false := by simpa using hf
      subst this
      simp
    | succ i =>
      have := ih i (by simpa using h) (by simpa using hf)
      simp only [List.set_cons_succ, List.count_cons]
      omega
theorem mkS_mono {S : List Bool} {T : List Int} {x : Int} {i : Nat} (h : S.getD i false = true) : (mkS S T x).1.getD i false = true := by
  unfold mkS
  split
  · exact h
  · show (S.set x.toNat true).getD i false = true
    rw [getD_set_b]
    split
    · rfl
    · exact h
theorem mkS_self {S : List Bool} {T : List Int} {x : Int} (h : x.toNat < S.length) : (mkS S T x).1.getD x.toNat false = true := by
  unfold mkS
  split
  · assumption
  · show (S.set x.toNat true).getD x.toNat false = true
    rw [getD_set_b, if_pos ⟨rfl, h⟩]
theorem mkS_len (S : List Bool) (T : List Int) (x : Int) : (mkS S T x).1.length = S.length := by
  unfold mkS
  split
  · rfl
  · exact List.length_set
theorem mkS_count {S : List Bool} {T : List Int} {x : Int} (h : x.toNat < S.length) : (mkS S T x).2.length + (mkS S T x).1.count false = T.length + S.count false := by
  unfold mkS
  split
  · rfl
  · rename_i hf
    have := count_set_b S x.toNat h hf
    show (T ++ [x]).length + (S.set x.toNat true).count false = _
    rw [List.length_append, List.length_singleton]
    omega
theorem RI.mark {l : List (List Int)} {a : Nat} {S : List Bool} {T : List Int} {p : Nat → Prop} (h : RI l a S T p) {x : Int} (h0 : 0 ≤ x) (h1 : x < (l.length : Int)) (hx : Rch l a x.toNat) : RI l a (mkS S T x).1 (mkS S T x).2 p := by
  have hxl : x.toNat < S.length := by rw [h.len]; omega
  refine ⟨(mkS_len S T x).trans h.len, mkS_mono h.start, ?_, ?_, ?_, by rw [mkS_count hxl]; exact h.few⟩
  · intro y hy
    have : y ∈ T ∨ y = x := by
      unfold mkS at hy
      split at hy
      · exact .inl hy
      · simpa using hy
    rcases this with hy | rfl
    · have := h.tin y hy
      exact ⟨this.1, this.2.1, mkS_mono this.2.2⟩
    · exact ⟨h0, h1, mkS_self hxl⟩
  · intro i hi
    unfold mkS at hi
    split at hi
    · exact h.sound i hi
    · rw [show (S.set x.toNat true, T ++ [x]).1 = S.set x.toNat true from rfl, getD_set_b] at hi
      split at hi
      · rename_i e
        rw [← e.1]
        exact hx
      · exact h.sound i hi
  · intro i hi
    by_cases ho : S.getD i false = true
    · rcases h.closed i ho with hc | hc | hc
      · refine .inl ?_
        unfold mkS
        split
        · exact hc
        · exact List.mem_append_left _ hc
      · exact .inr (.inl hc)
      · exact .inr (.inr fun y hy => mkS_mono (hc y hy))
    · refine .inl ?_
      unfold mkS at hi ⊢
      split at hi
      · exact absurd hi ho
      · rename_i hn
        rw [if_neg hn]
        rw [show (S.set x.toNat true, T ++ [x]).1 = S.set x.toNat true from rfl, getD_set_b] at hi
        split at hi
        · rename_i e
          have : (i : Int) = x := by omega
          rw [this]
          exact List.mem_append_right _ (List.mem_singleton.2 rfl)
        · exact absurd hi ho
theorem RI.first {l : List (List Int)} {a : Int} (h0 : 0 ≤ a) (h1 : a < (l.length : Int)) : RI l a.toNat (mkS (List.replicate l.length false) [] a).1 (mkS (List.replicate l.length false) [] a).2 (fun _ => False) := by
  have hl : a.toNat < (List.replicate l.length false).length := by rw [List.length_replicate]; omega
  have hz : ∀ i, (List.replicate l.length false).getD i false = false := by
    intro i
    rw [List.getD_eq_getElem?_getD, List.getElem?_replicate]
    split <;> rfl
  have hm : mkS (List.replicate l.length false) [] a = ((List.replicate l.length false).set a.toNat true, [a]) := by
    unfold mkS
    rw [hz, if_neg (by decide)]
    rfl
  have hc := mkS_count (S := List.replicate l.length false) (T := []) (x := a) hl
  have hs := mkS_self (S := List.replicate l.length false) (T := []) (x := a) hl
  have hall : ∀ i, (mkS (List.replicate l.length false) [] a).1.getD i false = true → a.toNat = i := by
    intro i hi
    rw [hm, show ((List.replicate l.length false).set a.toNat true, [a]).1 = (List.replicate l.length false).set a.toNat true from rfl, getD_set_b] at hi
    split at hi
    · rename_i e; exact e.1
    · rw [hz] at hi; cases hi
  refine ⟨by rw [mkS_len, List.length_replicate], hs, ?_, ?_, ?_, ?_⟩
  · rw [hm]
    intro x hx
    have : x = a := by simpa using hx
    subst this
    rw [← hm]
    exact ⟨h0, h1, hs⟩
  · intro i hi
    rw [← hall i hi]
    exact .refl
  · intro i hi
    have e := hall i hi
    refine .inl ?_
    rw [hm]
    have : (i : Int) = a := by omega
    rw [this]
    exact List.mem_singleton.2 rfl
  · rw [hc]
    simp
theorem RI.pop {l : List (List Int)} {a : Nat} {S : List Bool} {T : List Int} {x : Int} (h : RI l a S (T ++ [x]) (fun _ => False)) : RI l a S T (fun i => i = x.toNat) := by
  refine ⟨h.len, h.start, fun y hy => h.tin y (List.mem_append_left _ hy), h.sound, ?_, ?_⟩
  · intro i hi
    rcases h.closed i hi with hc | hc | hc
    · rcases List.mem_append.1 hc with hc | hc
      · exact .inl hc
      · refine .inr (.inl ?_)
        have : (i : Int) = x := by simpa using hc
        omega
    · exact hc.elim
    · exact .inr (.inr hc)
  · have := h.few
    rw [List.length_append, List.length_singleton] at this
    omega
theorem RI.done {l : List (List Int)} {a : Nat} {S : List Bool} {T : List Int} {x : Int} (h : RI l a S T (fun i => i = x.toNat)) (hy : ∀ y ∈ l.getD x.toNat [], S.getD y.toNat false = true) : RI l a S T (fun _ => False) := by
  refine ⟨h.len, h.start, h.tin, h.sound, ?_, h.few⟩
  intro i hi
  rcases h.closed i hi with hc | hc | hc
  · exact .inl hc
  · rw [hc]; exact .inr (.inr hy)
  · exact .inr (.inr hc)
theorem RI.fin {l : List (List Int)} {a : Nat} {S : List Bool} (h : RI l a S [] (fun _ => False)) : S = reachC l a := by
  have hall : ∀ i, Rch l a i → S.getD i false = true := by
    intro i hi
    induction hi with
    | refl => exact h.start
    | step hr hy ih =>
      rcases h.closed _ ih with hc | hc | hc
      · cases hc
      · exact hc.elim
      · exact hc _ hy
  apply List.ext_getElem
  · rw [h.len]; simp [reachC]
  · intro i h1 h2
    have e : S.getD i false = S[i] := by rw [List.getD_eq_getElem?_getD, List.getElem?_eq_getElem h1]; rfl
    have e2 : (reachC l a)[i] = true ↔ Rch l a i := by simp [reachC]
    rw [Bool.eq_iff_iff, e2, ← e]
    exact ⟨h.sound i, hall i⟩
instance (l : List (List Int)) : Decidable (okR l) := by unfold okR; infer_instance
/-- the same, as it is reckoned -/
def reachX (l : List (List Int)) : Nat → List Bool → List Int → List Bool
  | 0, S, _ => S
  | g + 1, S, T => match T.getLast? with
    | none => S
    | some x => reachX l g ((l.getD x.toNat []).foldl (fun st y => mkS st.1 st.2 y) (S, T.dropLast)).1 ((l.getD x.toNat []).foldl (fun st y => mkS st.1 st.2 y) (S, T.dropLast)).2
def reachL (l : List (List Int)) (a : Nat) : List Bool := reachX l (l.length + 1) (mkS (List.replicate l.length false) [] (a : Int)).1 (mkS (List.replicate l.length false) [] (a : Int)).2
theorem RI.fold {l : List (List Int)} (hok : okR l) {a : Nat} {p : Nat → Prop} : ∀ (row : List Int) (S : List Bool) (T : List Int), RI l a S T p → (∀ y ∈ row, (0 ≤ y ∧ y < (l.length : Int)) ∧ Rch l a y.toNat) →
    RI l a (row.foldl (fun st y => mkS st.1 st.2 y) (S, T)).1 (row.foldl (fun st y => mkS st.1 st.2 y) (S, T)).2 p ∧ (∀ y ∈ row, (row.foldl (fun st y => mkS st.1 st.2 y) (S, T)).1.getD y.toNat false = true) ∧ (∀ i, S.getD i false = true → (row.foldl (fun st y => mkS st.1 st.2 y) (S, T)).1.getD i false = true) ∧ (row.foldl (fun st y => mkS st.1 st.2 y) (S, T)).2.length + (row.foldl (fun st y => mkS st.1 st.2 y) (S, T)).1.count false = T.length + S.count false
  | [], S, T, h, _ => ⟨h, fun y hy => by simp at hy, fun i hi => hi, rfl⟩
  | y :: row, S, T, h, hr => by
    have hy := hr y (List.mem_cons_self)
    have hyl : y.toNat < S.length := by rw [h.len]; omega
    obtain ⟨h1, h2, h3, h4⟩ := RI.fold hok row _ _ (h.mark hy.1.1 hy.1.2 hy.2) (fun z hz => hr z (List.mem_cons_of_mem _ hz))
    refine ⟨h1, fun z hz => ?_, fun i hi => h3 i (mkS_mono hi), h4.trans (mkS_count hyl)⟩
    rcases List.mem_cons.1 hz with rfl | hz
    · exact h3 _ (mkS_self hyl)
    · exact h2 z hz
theorem okR.row {l : List (List Int)} (h : okR l) {i : Nat} {y : Int} (hy : y ∈ l.getD i []) : 0 ≤ y ∧ y < (l.length : Int) := by
  rw [List.getD_eq_getElem?_getD] at hy
  cases he : l[i]? with
  | none => rw [he] at hy; simp at hy
  | some r =>
    rw [he] at hy
    exact h.2 r (List.mem_of_getElem? he) y hy
theorem reachX_eq {l : List (List Int)} (hok : okR l) {a : Nat} : ∀ (g : Nat) (S : List Bool) (T : List Int), RI l a S T (fun _ => False) → T.length + S.count false < g → reachX l g S T = reachC l a
  | 0, S, T, h, hg => by omega
  | g + 1, S, T, h, hg => by
    rcases List.eq_nil_or_concat T with rfl | ⟨T, x, rfl⟩
    · exact h.fin
    · rw [List.concat_eq_append] at h hg ⊢
      rw [reachX, List.getLast?_append, List.getLast?_singleton, Option.some_or, List.dropLast_concat]
      have ht := h.tin x (List.mem_append_right _ (List.mem_singleton.2 rfl))
      have hs := h.sound _ ht.2.2
      obtain ⟨h1, h2, _, h4⟩ := RI.fold hok (l.getD x.toNat []) S T h.pop (fun y hy => ⟨hok.row hy, .step hs hy⟩)
      rw [List.length_append, List.length_singleton] at hg
      exact reachX_eq hok g _ _ (h1.done h2) (by rw [h4]; omega)
theorem reachL_eq {l : List (List Int)} (hok : okR l) {a : Nat} (ha : a < l.length) : reachL l a = reachC l a := by
  have h := RI.first (l := l) (a := (a : Int)) (by omega) (by omega)
  rw [Int.toNat_natCast] at h
  exact reachX_eq hok _ _ _ h (Nat.lt_succ_of_le h.few)
theorem reachL_len {l : List (List Int)} (hok : okR l) {a : Nat} (ha : a < l.length) : (reachL l a).length = l.length := by
  rw [reachL_eq hok ha]
  simp [reachC]
theorem reachL_iff {l : List (List Int)} (hok : okR l) {a : Nat} (ha : a < l.length) {i : Nat} (hi : i < l.length) : (reachL l a).getD i false = true ↔ Rch l a i := by
  rw [reachL_eq hok ha]
  have e2 : (reachC l a)[i]? = some (open Classical in decide (Rch l a i)) := by simp [reachC, List.getElem?_range hi]
  rw [List.getD_eq_getElem?_getD, e2]
  simp
end Go.Proofs.Ytmlhnjonmjmhdaa.H
/- the parts of a graph, as they are found -/
namespace Go.Proofs.Ytmlhnjonmjmhdaa.H
open Go.RowKit Go.Proofs.YtmlhnjonmjmhdaaW.PrintWords
def tb (tt : List (List Bool)) (x y : Nat) : Bool := (tt.getD x []).getD y false
/-- y holds x back -/
def holdsB (tt : List (List Bool)) (done : List Bool) (x y : Nat) : Bool := tb tt x y && !tb tt y x && !done.getD y false
def readyB (tt : List (List Bool)) (done : List Bool) (n x : Nat) : Bool := ((List.range n).all fun y => !holdsB tt done x y) && !done.getD x false
/-- the first that is ready, from x on -/
def findR (tt : List (List Bool)) (done : List Bool) (n : Nat) : Nat → Nat → Option Nat
  | 0, _ => none
  | g + 1, x => if x < n then (if readyB tt done n x then some x else findR tt done n g (x + 1)) else none
def partB (tt : List (List Bool)) (x y : Nat) : Bool := tb tt x y && tb tt y x
def partL (tt : List (List Bool)) (n x : Nat) : List Int := ((List.range n).filter (partB tt x)).map Int.ofNat
def doneL (tt : List (List Bool)) (x : Nat) (k : Nat) (done : List Bool) : List Bool := (List.range k).foldl (fun d y => if partB tt x y then d.set y true else d) done
def partsG (tt : List (List Bool)) (n : Nat) : Nat → Int → List Bool → List (List Int) → Option (List (List Int))
  | 0, _, _, _ => none
  | g + 1, left, done, out => if 0 < left then (if out.length ≤ 100000 then (findR tt done n (n + 1) 0).bind fun x => partsG tt n g (left - (partL tt n x).length) (doneL tt x n done) (out ++ [partL tt n x]) else none) else some out
def tabL (rows : List (List Int)) : List (List Bool) := (List.range rows.length).map (reachL rows)
theorem readyB_no {tt : List (List Bool)} {done : List Bool} {n x y : Nat} (hy : y < n) (h : holdsB tt done x y = true) : readyB tt done n x = false := by
  unfold readyB
  rw [Bool.and_eq_false_iff]
  refine .inl ?_
  rw [List.all_eq_false]
  exact ⟨y, List.mem_range.2 hy, by simp [h]⟩
theorem readyB_all {tt : List (List Bool)} {done : List Bool} {n x : Nat} (h : ∀ y, y < n → holdsB tt done x y = false) : readyB tt done n x = !done.getD x false := by
  unfold readyB
  have : ((List.range n).all fun y => !holdsB tt done x y) = true := by
    rw [List.all_eq_true]
    intro y hy
    rw [h y (List.mem_range.1 hy)]
    rfl
  rw [this, Bool.true_and]
theorem partL_step (tt : List (List Bool)) (x k : Nat) : partL tt (k + 1) x = partL tt k x ++ (if partB tt x k then [(k : Int)] else []) := by
  unfold partL
  rw [List.range_succ, List.filter_append, List.map_append]
  cases h : partB tt x k <;> simp [List.filter, h]
theorem doneL_step (tt : List (List Bool)) (x k : Nat) (done : List Bool) : doneL tt x (k + 1) done = if partB tt x k then (doneL tt x k done).set k true else doneL tt x k done := by
  unfold doneL
  rw [List.range_succ, List.foldl_append]
  rfl
theorem doneL_len (tt : List (List Bool)) (x k : Nat) (done : List Bool) : (doneL tt x k done).length = done.length := by
  induction k with
  | zero => rfl
  | succ k ih =>
    rw [doneL_step]
    split
    · rw [List.length_set, ih]
    · exact ih
theorem partL_len (tt : List (List Bool)) (x k : Nat) : (partL tt k x).length ≤ k := by
  unfold partL
  rw [List.length_map]
  exact Nat.le_trans (List.length_filter_le _ _) (by rw [List.length_range]; exact Nat.le_refl _)
end Go.Proofs.Ytmlhnjonmjmhdaa.H
/- a shortest path, as it is found -/
namespace Go.Proofs.Ytmlhnjonmjmhdaa.H
open Go.RowKit Go.Proofs.YtmlhnjonmjmhdaaW.PrintWords
structure BF where
  B : List Int
  S : List Bool
  M : List Int
def stepP (x : Int) (st : BF) (y : Int) : BF := ⟨if st.S.getD y.toNat false = true then st.B else st.B.set y.toNat x, (mkS st.S st.M y).1, (mkS st.S st.M y).2⟩
def rowP (rows : List (List Int)) (st : BF) (x : Int) : BF := (rows.getD x.toNat []).foldl (stepP x) st
def levP (rows : List (List Int)) (B : List Int) (S : List Bool) (row : List Int) : BF := row.foldl (rowP rows) ⟨B, S, []⟩
def bfsG (rows : List (List Int)) (b : Int) : Nat → List Int → List Bool → List Int → Option BF
  | 0, _, _, _ => none
  | g + 1, B, S, row => if 0 < row.length ∧ S.getD b.toNat false = false then bfsG rows b g (levP rows B S row).B (levP rows B S row).S (levP rows B S row).M else some ⟨B, S, row⟩
def backG (B : List Int) (a : Int) : Nat → Int → List Int → Option (List Int)
  | 0, _, _ => none
  | g + 1, x, acc => if x = a then some acc else (if acc.length ≤ 1000000 then backG B a g (B.getD x.toNat 0) (acc ++ [B.getD x.toNat 0]) else none)
/-- all within the bounds -/
structure BI (n : Nat) (st : BF) : Prop where
  lB : st.B.length = n
  lS : st.S.length = n
  rB : ∀ v ∈ st.B, 0 ≤ v ∧ v < (n : Int)
  rM : ∀ v ∈ st.M, 0 ≤ v ∧ v < (n : Int)
  few : st.M.length + st.S.count false ≤ n
theorem BI.step {n : Nat} {st : BF} (h : BI n st) {x y : Int} (hx : 0 ≤ x ∧ x < (n : Int)) (hy : 0 ≤ y ∧ y < (n : Int)) : BI n (stepP x st y) := by
  have hyl : y.toNat < st.S.length := by rw [h.lS]; omega
  refine ⟨?_, (mkS_len _ _ _).trans h.lS, ?_, ?_, by rw [show (stepP x st y).M = (mkS st.S st.M y).2 from rfl, show (stepP x st y).S = (mkS st.S st.M y).1 from rfl, mkS_count hyl]; exact h.few⟩
  · show (if st.S.getD y.toNat false = true then st.B else st.B.set y.toNat x).length = n
    split
    · exact h.lB
    · rw [List.length_set]; exact h.lB
  · intro v hv
    replace hv : v ∈ (if st.S.getD y.toNat false = true then st.B else st.B.set y.toNat x) := hv
    split at hv
    · exact h.rB v hv
    · rcases List.mem_or_eq_of_mem_set hv with hv | rfl
      · exact h.rB v hv
      · exact hx
  · intro v hv
    replace hv : v ∈ (mkS st.S st.M y).2 := hv
    unfold mkS at hv
    split at hv
    · exact h.rM v hv
    · rcases List.mem_append.1 hv with hv | hv
      · exact h.rM v hv
      · rw [List.mem_singleton.1 hv]; exact hy
theorem BI.fold {n : Nat} {x : Int} (hx : 0 ≤ x ∧ x < (n : Int)) : ∀ (l : List Int) (st : BF), BI n st → (∀ y ∈ l, 0 ≤ y ∧ y < (n : Int)) → BI n (l.foldl (stepP x) st)
  | [], _, h, _ => h
  | y :: l, st, h, hl => BI.fold hx l _ (h.step hx (hl y List.mem_cons_self)) (fun z hz => hl z (List.mem_cons_of_mem _ hz))
theorem BI.lev {n : Nat} {rows : List (List Int)} (hok : okR rows) (hn : rows.length = n) : ∀ (l : List Int) (st : BF), BI n st → (∀ y ∈ l, 0 ≤ y ∧ y < (n : Int)) → BI n (l.foldl (rowP rows) st)
  | [], _, h, _ => h
  | y :: l, st, h, hl => BI.lev hok hn l _ (BI.fold (hl y List.mem_cons_self) _ _ h (fun z hz => by have := hok.row hz; rw [hn] at this; exact this)) (fun z hz => hl z (List.mem_cons_of_mem _ hz))
theorem bfsG_more (rows : List (List Int)) (b : Int) : ∀ k B S row, LeO (bfsG rows b k B S row) (bfsG rows b (k + 1) B S row) := by
  intro k
  induction k with
  | zero => intro B S row; exact LeO.none _
  | succ k ih =>
    intro B S row
    unfold bfsG
    exact LeO.ite (ih _ _ _) (LeO.refl _)
theorem backG_more (B : List Int) (a : Int) : ∀ k x acc, LeO (backG B a k x acc) (backG B a (k + 1) x acc) := by
  intro k
  induction k with
  | zero => intro x acc; exact LeO.none _
  | succ k ih =>
    intro x acc
    unfold backG
    exact LeO.ite (LeO.refl _) (LeO.ite (ih _ _) (LeO.refl _))
theorem take_snoc {α : Type} {l : List α} {k : Nat} {y : α} (h : l[k]? = some y) : l.take (k + 1) = l.take k ++ [y] := by rw [List.take_add_one, h]; rfl
theorem lib_ba_eq {a b : ByteArray} : (a.toList = b.toList) ↔ a = b := by
  constructor
  · intro h
    have h1 : a.data.toList = b.data.toList := by
      have := congrArg id h
      rwa [ByteArray.toList_eq, ByteArray.toList_eq] at this
    cases a; cases b; simp_all
  · rintro rfl; rfl
theorem drop_end {α : Type} {l : List α} {n : Nat} (h : l.drop n = []) : ¬ (n : Int) < (l.length : Int) := by
  have := congrArg List.length h
  simp at this
  omega
theorem drop_more {α : Type} {l : List α} {n : Nat} {y : α} {r : List α} (h : l.drop n = y :: r) (hl : l.length ≤ 9223372036854775807) :
    (n : Int) < (l.length : Int) ∧ (0 : Int) ≤ (n : Int) ∧ (∀ d, l.getD (n : Int).toNat d = y) ∧ l.drop (n + 1) = r ∧ wrap64 ((n : Int) + 1) = ((n + 1 : Nat) : Int) := by
  have h1 := congrArg List.length h
  simp at h1
  have h2 : l.drop (n + 1) = r := by
    have := congrArg (List.drop 1) h
    simpa [List.drop_drop, Nat.add_comm] using this
  have h3 : l[n]? = some y := by
    have := congrArg (fun z => z[0]?) h
    simpa using this
  refine ⟨by omega, by omega, fun d => ?_, h2, ?_⟩
  · rw [Int.toNat_natCast, List.getD_eq_getElem?_getD, h3]; rfl
  · unfold wrap64; omega
theorem at_more {α : Type} {l : List α} {n : Nat} (h : n < l.length) : ∃ y r, l.drop n = y :: r ∧ l[n]? = some y :=
  ⟨l[n], l.drop (n + 1), List.drop_eq_getElem_cons h, List.getElem?_eq_getElem h⟩
theorem getD_at {α : Type} {l : List α} {n : Nat} {y : α} (h : l[n]? = some y) (d : α) : l.getD (n : Int).toNat d = y := by
  rw [Int.toNat_natCast, List.getD_eq_getElem?_getD, h]; rfl
theorem wrap_up {n : Nat} (h : n < 9223372036854775807) : wrap64 ((n : Int) + 1) = ((n + 1 : Nat) : Int) := by unfold wrap64; omega
theorem ite_t {α : Type} {c : Prop} [Decidable c] (h : c) (a b : α) : (if c then a else b) = a := if_pos h
theorem Ev.iff {α : Type} {g : Nat → Option α} {r r' : α} (h : Ev g r) (e : r = r') : Ev g r' := e ▸ h
theorem Ev.some {α : Type} {r r' : α} (e : r = r') : Ev (fun _ => some r) r' := e ▸ Ev.now r
theorem Ev.pure {α β : Type} {o : Option α} {f : Nat → α → Option β} {a : α} {r : β} (h : o = .some a) (k : Ev (fun n => f n a) r) : Ev (fun n => o.bind (f n)) r := by
  subst h; exact k
theorem Ev.pos {α : Type} {c : Prop} [Decidable c] {g f : Nat → Option α} {r : α} (h : c) (k : Ev g r) : Ev (fun n => if c then g n else f n) r := by
  simp only [if_pos h]; exact k
theorem Ev.neg {α : Type} {c : Prop} [Decidable c] {g f : Nat → Option α} {r : α} (h : ¬ c) (k : Ev f r) : Ev (fun n => if c then g n else f n) r := by
  simp only [if_neg h]; exact k
theorem Ev.cases {α : Type} {c : Prop} [Decidable c] {g f : Nat → Option α} {r r' : α} (h1 : c → Ev g r) (h2 : ¬ c → Ev f r') : Ev (fun n => if c then g n else f n) (if c then r else r') := by
  by_cases h : c
  · simp only [if_pos h]; exact h1 h
  · simp only [if_neg h]; exact h2 h
end Go.Proofs.Ytmlhnjonmjmhdaa.H
/- the search for a path answers -/
namespace Go.Proofs.Ytmlhnjonmjmhdaa.H
open Go.RowKit Go.Proofs.YtmlhnjonmjmhdaaW.PrintWords
/-- from x back to a by B, along what is seen -/
inductive Ch (S : List Bool) (B : List Int) (a : Nat) : Nat → Nat → Prop
  | here (h : S.getD a false = true) : Ch S B a a 0
  | back {x m : Nat} (hs : S.getD x false = true) (h : Ch S B a (B.getD x 0).toNat m) : Ch S B a x (m + 1)
theorem Ch.seen {S : List Bool} {B : List Int} {a x m : Nat} (h : Ch S B a x m) : S.getD x false = true := by
  cases h with
  | here h => exact h
  | back hs _ => exact hs
theorem getD_set_ne (B : List Int) (y x : Nat) (v : Int) (h : y ≠ x) : (B.set y v).getD x 0 = B.getD x 0 := by
  rw [List.getD_eq_getElem?_getD, List.getElem?_set_ne h, List.getD_eq_getElem?_getD]
theorem Ch.put {S : List Bool} {B : List Int} {a x m y : Nat} {v : Int} (hy : S.getD y false = false) (h : Ch S B a x m) : Ch (S.set y true) (B.set y v) a x m := by
  have hm : ∀ i, S.getD i false = true → (S.set y true).getD i false = true := by
    intro i hi
    rw [getD_set_b]
    split
    · rfl
    · exact hi
  induction h with
  | here h => exact .here (hm _ h)
  | back hs h ih =>
    rename_i x m
    refine .back (hm _ hs) ?_
    rw [getD_set_ne _ _ _ _ (fun e => by rw [e, hs] at hy; cases hy)]
    exact ih
/-- between two steps -/
structure BC (n a : Nat) (st : BF) : Prop where
  bi : BI n st
  seenM : ∀ v ∈ st.M, st.S.getD v.toNat false = true
  ch : ∀ i, st.S.getD i false = true → ∃ m, m + 1 + st.S.count false ≤ n ∧ Ch st.S st.B a i m
theorem BC.step {n a : Nat} {st : BF} (h : BC n a st) {x y : Int} (hx : 0 ≤ x ∧ x < (n : Int)) (hxs : st.S.getD x.toNat false = true) (hy : 0 ≤ y ∧ y < (n : Int)) : BC n a (stepP x st y) := by
  have hyl : y.toNat < st.S.length := by rw [h.bi.lS]; omega
  have hb := h.bi.step hx hy
  by_cases hs : st.S.getD y.toNat false = true
  · have e : stepP x st y = st := by unfold stepP mkS; rw [if_pos hs, if_pos hs]
    rw [e]
    exact h
  · have hs' : st.S.getD y.toNat false = false := by simpa using hs
    have e : stepP x st y = ⟨st.B.set y.toNat x, st.S.set y.toNat true, st.M ++ [y]⟩ := by unfold stepP mkS; rw [if_neg hs, if_neg hs]
    rw [e] at hb ⊢
    have hc := count_set_b st.S y.toNat hyl hs
    have hself : (st.S.set y.toNat true).getD y.toNat false = true := by rw [getD_set_b, if_pos ⟨rfl, hyl⟩]
    refine ⟨hb, ?_, ?_⟩
    · intro v hv
      rcases List.mem_append.1 hv with hv | hv
      · have := h.seenM v hv
        show (st.S.set y.toNat true).getD v.toNat false = true
        rw [getD_set_b]
        split
        · rfl
        · exact this
      · rw [List.mem_singleton.1 hv]; exact hself
    · intro i hi
      replace hi : (st.S.set y.toNat true).getD i false = true := hi
      rw [getD_set_b] at hi
      split at hi
      · rename_i e2
        obtain ⟨m, hm, hch⟩ := h.ch x.toNat hxs
        rw [← e2.1]
        refine ⟨m + 1, by show m + 1 + 1 + (st.S.set y.toNat true).count false ≤ n; omega, .back hself ?_⟩
        have : (st.B.set y.toNat x).getD y.toNat 0 = x := by
          rw [List.getD_eq_getElem?_getD, List.getElem?_set_self (by have := h.bi.lB; omega)]
          rfl
        show Ch (st.S.set y.toNat true) (st.B.set y.toNat x) a ((st.B.set y.toNat x).getD y.toNat 0).toNat m
        rw [this]
        exact hch.put hs'
      · obtain ⟨m, hm, hch⟩ := h.ch i hi
        exact ⟨m, by show m + 1 + (st.S.set y.toNat true).count false ≤ n; omega, hch.put hs'⟩
theorem stepP_seen {x y : Int} {st : BF} {i : Nat} (h : st.S.getD i false = true) : (stepP x st y).S.getD i false = true := mkS_mono h
theorem stepP_count {x y : Int} {st : BF} (h : y.toNat < st.S.length) : (stepP x st y).M.length + (stepP x st y).S.count false = st.M.length + st.S.count false := mkS_count h
theorem BC.fold {n a : Nat} {x : Int} (hx : 0 ≤ x ∧ x < (n : Int)) : ∀ (l : List Int) (st : BF), BC n a st → st.S.getD x.toNat false = true → (∀ y ∈ l, 0 ≤ y ∧ y < (n : Int)) →
    BC n a (l.foldl (stepP x) st) ∧ (∀ i, st.S.getD i false = true → (l.foldl (stepP x) st).S.getD i false = true) ∧ (l.foldl (stepP x) st).M.length + (l.foldl (stepP x) st).S.count false = st.M.length + st.S.count false
  | [], st, h, _, _ => ⟨h, fun _ h => h, rfl⟩
  | y :: l, st, h, hs, hl => by
    have hy := hl y List.mem_cons_self
    obtain ⟨h1, h2, h3⟩ := BC.fold hx l _ (h.step hx hs hy) (stepP_seen hs) (fun z hz => hl z (List.mem_cons_of_mem _ hz))
    exact ⟨h1, fun i hi => h2 i (stepP_seen hi), h3.trans (stepP_count (by rw [h.bi.lS]; omega))⟩
theorem BC.lev {n a : Nat} {rows : List (List Int)} (hok : okR rows) (hn : rows.length = n) : ∀ (l : List Int) (st : BF), BC n a st → (∀ y ∈ l, (0 ≤ y ∧ y < (n : Int)) ∧ st.S.getD y.toNat false = true) →
    BC n a (l.foldl (rowP rows) st) ∧ (∀ i, st.S.getD i false = true → (l.foldl (rowP rows) st).S.getD i false = true) ∧ (l.foldl (rowP rows) st).M.length + (l.foldl (rowP rows) st).S.count false = st.M.length + st.S.count false
  | [], st, h, _ => ⟨h, fun _ h => h, rfl⟩
  | y :: l, st, h, hl => by
    have hy := hl y List.mem_cons_self
    obtain ⟨h1, h2, h3⟩ := BC.fold hy.1 (rows.getD y.toNat []) st h hy.2 (fun z hz => by have := hok.row hz; rw [hn] at this; exact this)
    obtain ⟨h4, h5, h6⟩ := BC.lev hok hn l (rowP rows st y) h1 (fun z hz => ⟨(hl z (List.mem_cons_of_mem _ hz)).1, h2 _ (hl z (List.mem_cons_of_mem _ hz)).2⟩)
    exact ⟨h4, fun i hi => h5 i (h2 i hi), h6.trans h3⟩
theorem bfsG_ex {n a : Nat} {rows : List (List Int)} (hok : okR rows) (hn : rows.length = n) (b : Int) : ∀ (m : Nat) (B : List Int) (S : List Bool) (row : List Int), BC n a ⟨B, S, []⟩ → (∀ y ∈ row, (0 ≤ y ∧ y < (n : Int)) ∧ S.getD y.toNat false = true) → S.count false < m →
    ∃ s, bfsG rows b (m + 1) B S row = some s ∧ BC n a ⟨s.B, s.S, []⟩
  | 0, _, _, _, _, _, hm => by omega
  | m + 1, B, S, row, h, hr, hm => by
    unfold bfsG
    by_cases hc : 0 < row.length ∧ S.getD b.toNat false = false
    · rw [if_pos hc]
      obtain ⟨h1, h2, h3⟩ := BC.lev hok hn row ⟨B, S, []⟩ h hr
      have hL : BC n a ⟨(levP rows B S row).B, (levP rows B S row).S, []⟩ := ⟨⟨h1.bi.lB, h1.bi.lS, h1.bi.rB, fun v hv => by simp at hv, by
        have := h1.bi.few
        show ([] : List Int).length + (levP rows B S row).S.count false ≤ n
        have e : (levP rows B S row) = row.foldl (rowP rows) ⟨B, S, []⟩ := rfl
        rw [e]
        simp only [List.length_nil]
        omega⟩, fun v hv => by simp at hv, h1.ch⟩
      have h3' : (levP rows B S row).M.length + (levP rows B S row).S.count false = S.count false := by
        have : (levP rows B S row).M.length + (levP rows B S row).S.count false = ([] : List Int).length + S.count false := h3
        simpa using this
      rcases Nat.eq_zero_or_pos (levP rows B S row).M.length with h0 | h0
      · refine ⟨⟨(levP rows B S row).B, (levP rows B S row).S, (levP rows B S row).M⟩, ?_, hL⟩
        unfold bfsG
        rw [if_neg (by omega)]
      · exact bfsG_ex hok hn b m _ _ _ hL (fun y hy => ⟨h1.bi.rM y hy, h1.seenM y hy⟩) (by omega)
    · rw [if_neg hc]
      exact ⟨⟨B, S, row⟩, rfl, h⟩
theorem backG_ex {S : List Bool} {B : List Int} {a : Nat} : ∀ (m : Nat) (x : Int) (acc : List Int), 0 ≤ x → (∀ v ∈ B, 0 ≤ v) → Ch S B a x.toNat m → acc.length + m ≤ 1000000 → ∃ p, backG B (a : Int) (m + 1) x acc = some p
  | 0, x, acc, hx, hB, h, hl => by
    generalize e : x.toNat = z at h
    cases h
    unfold backG
    rw [if_pos (by omega)]
    exact ⟨acc, rfl⟩
  | m + 1, x, acc, hx, hB, h, hl => by
    unfold backG
    by_cases hxa : x = (a : Int)
    · rw [if_pos hxa]; exact ⟨acc, rfl⟩
    · rw [if_neg hxa, if_pos (by omega)]
      generalize e : x.toNat = z at h
      cases h with
      | back hs h =>
        subst e
        refine backG_ex m _ _ ?_ hB h (by rw [List.length_append, List.length_singleton]; omega)
        rw [List.getD_eq_getElem?_getD]
        cases he : B[x.toNat]? with
        | none => simp
        | some v => exact hB v (List.mem_of_getElem? he)
end Go.Proofs.Ytmlhnjonmjmhdaa.H
/- walks of so many steps; what the search finds is as short as can be -/
namespace Go.Proofs.Ytmlhnjonmjmhdaa.H
open Go.RowKit Go.Proofs.YtmlhnjonmjmhdaaW.PrintWords
inductive Wk (l : List (List Int)) (a : Nat) : Nat → Nat → Prop
  | refl : Wk l a 0 a
  | step {m i : Nat} {y : Int} (h : Wk l a m i) (hy : y ∈ l.getD i []) : Wk l a (m + 1) y.toNat
theorem Wk.rch {l : List (List Int)} {a m i : Nat} (h : Wk l a m i) : Rch l a i := by
  induction h with
  | refl => exact .refl
  | step _ hy ih => exact .step ih hy
theorem Rch.wk {l : List (List Int)} {a i : Nat} (h : Rch l a i) : ∃ m, Wk l a m i := by
  induction h with
  | refl => exact ⟨0, .refl⟩
  | step _ hy ih => obtain ⟨m, hm⟩ := ih; exact ⟨m + 1, .step hm hy⟩
theorem Wk.trans {l : List (List Int)} {a b c m k : Nat} (h : Wk l a m b) (g : Wk l b k c) : Wk l a (m + k) c := by
  induction g with
  | refl => exact h
  | step _ hy ih => exact .step ih hy
/-- from x back to a by B, each step an edge -/
inductive Cw (l : List (List Int)) (S : List Bool) (B : List Int) (a : Nat) : Nat → Nat → Prop
  | here (h : S.getD a false = true) : Cw l S B a a 0
  | back {x m : Nat} (hs : S.getD x false = true) (he : (x : Int) ∈ l.getD (B.getD x 0).toNat []) (h : Cw l S B a (B.getD x 0).toNat m) : Cw l S B a x (m + 1)
theorem Cw.wk {l : List (List Int)} {S : List Bool} {B : List Int} {a x m : Nat} (h : Cw l S B a x m) : Wk l a m x := by
  induction h with
  | here _ => exact .refl
  | back hs he _ ih => exact Wk.step (y := ((_ : Nat) : Int)) ih he
/-- what is seen stays, and so does whence -/
def Ext (S S' : List Bool) (B B' : List Int) : Prop := ∀ i, S.getD i false = true → S'.getD i false = true ∧ B'.getD i 0 = B.getD i 0
theorem Ext.refl (S : List Bool) (B : List Int) : Ext S S B B := fun i h => ⟨h, rfl⟩
theorem Ext.trans {S S' S'' : List Bool} {B B' B'' : List Int} (h : Ext S S' B B') (g : Ext S' S'' B' B'') : Ext S S'' B B'' := fun i hi => by
  obtain ⟨h1, h2⟩ := h i hi
  obtain ⟨h3, h4⟩ := g i h1
  exact ⟨h3, h4.trans h2⟩
theorem Cw.ext {l : List (List Int)} {S S' : List Bool} {B B' : List Int} {a x m : Nat} (e : Ext S S' B B') (h : Cw l S B a x m) : Cw l S' B' a x m := by
  induction h with
  | here h => exact .here (e _ h).1
  | back hs he h ih =>
    refine .back (e _ hs).1 ?_ ?_
    · rw [(e _ hs).2]; exact he
    · rw [(e _ hs).2]; exact ih
theorem step_ext (x y : Int) (st : BF) : Ext st.S (stepP x st y).S st.B (stepP x st y).B := by
  intro i hi
  refine ⟨mkS_mono hi, ?_⟩
  show (if st.S.getD y.toNat false = true then st.B else st.B.set y.toNat x).getD i 0 = _
  split
  · rfl
  · rename_i h
    exact getD_set_ne _ _ _ _ (fun e => h (by rw [e]; exact hi))
theorem fold_ext (x : Int) : ∀ (l : List Int) (st : BF), Ext st.S (l.foldl (stepP x) st).S st.B (l.foldl (stepP x) st).B
  | [], st => Ext.refl _ _
  | y :: l, st => (step_ext x y st).trans (fold_ext x l (stepP x st y))
theorem lev_ext (rows : List (List Int)) : ∀ (l : List Int) (st : BF), Ext st.S (l.foldl (rowP rows) st).S st.B (l.foldl (rowP rows) st).B
  | [], st => Ext.refl _ _
  | y :: l, st => (fold_ext y _ st).trans (lev_ext rows l (rowP rows st y))
theorem bfsG_ext {rows : List (List Int)} {b : Int} : ∀ (g : Nat) (B : List Int) (S : List Bool) (row : List Int) (s : BF), bfsG rows b g B S row = some s → Ext S s.S B s.B
  | 0, _, _, _, _, h => by cases h
  | g + 1, B, S, row, s, h => by
    unfold bfsG at h
    split at h
    · exact (lev_ext rows row ⟨B, S, []⟩).trans (bfsG_ext g _ _ _ _ h)
    · cases h; exact Ext.refl _ _
/-- a search for another one ends sooner, or at the same place -/
theorem bfsG_sooner {rows : List (List Int)} {b b' : Int} : ∀ (g : Nat) (B : List Int) (S : List Bool) (row : List Int) (s : BF), bfsG rows b g B S row = some s → s.S.getD b'.toNat false = true →
    ∃ s', bfsG rows b' g B S row = some s' ∧ s'.S.getD b'.toNat false = true ∧ Ext s'.S s.S s'.B s.B
  | 0, _, _, _, _, h, _ => by cases h
  | g + 1, B, S, row, s, h, hb => by
    by_cases hs : S.getD b'.toNat false = true
    · refine ⟨⟨B, S, row⟩, ?_, hs, bfsG_ext _ _ _ _ _ h⟩
      unfold bfsG
      rw [if_neg (by rw [hs]; simp)]
    · have hs' : S.getD b'.toNat false = false := by simpa using hs
      unfold bfsG at h
      split at h
      · rename_i hc
        obtain ⟨s', h1, h2, h3⟩ := bfsG_sooner g _ _ _ _ h hb
        refine ⟨s', ?_, h2, h3⟩
        unfold bfsG
        rw [if_pos ⟨hc.1, hs'⟩]
        exact h1
      · cases h
        exact absurd hb hs
structure LI (rows : List (List Int)) (n a L : Nat) (st : BF) : Prop where
  bi : BI n st
  near : ∀ i, st.S.getD i false = true → ∃ m, m ≤ L + 1 ∧ Cw rows st.S st.B a i m ∧ ∀ m', Wk rows a m' i → m ≤ m'
  all : ∀ m i, m ≤ L → Wk rows a m i → st.S.getD i false = true
  next : ∀ v ∈ st.M, st.S.getD v.toNat false = true
  old : ∀ i, st.S.getD i false = true → (i : Int) ∈ st.M ∨ ∃ m, m ≤ L ∧ Wk rows a m i
theorem LI.step {rows : List (List Int)} {n a L : Nat} {st : BF} (h : LI rows n a L st) {x y : Int} (hx : 0 ≤ x ∧ x < (n : Int)) (hxs : st.S.getD x.toNat false = true) (hxw : ∃ m, m ≤ L ∧ Wk rows a m x.toNat) (hye : y ∈ rows.getD x.toNat []) (hy : 0 ≤ y ∧ y < (n : Int)) :
    LI rows n a L (stepP x st y) := by
  have hyl : y.toNat < st.S.length := by rw [h.bi.lS]; omega
  have hb := h.bi.step hx hy
  by_cases hs : st.S.getD y.toNat false = true
  · have e : stepP x st y = st := by unfold stepP mkS; rw [if_pos hs, if_pos hs]
    rw [e]
    exact h
  · have e : stepP x st y = ⟨st.B.set y.toNat x, st.S.set y.toNat true, st.M ++ [y]⟩ := by unfold stepP mkS; rw [if_neg hs, if_neg hs]
    have he := step_ext x y st
    rw [e] at hb he ⊢
    have hself : (st.S.set y.toNat true).getD y.toNat false = true := by rw [getD_set_b, if_pos ⟨rfl, hyl⟩]
    have hbx : (st.B.set y.toNat x).getD y.toNat 0 = x := by
      rw [List.getD_eq_getElem?_getD, List.getElem?_set_self (by have := h.bi.lB; omega)]
      rfl
    refine ⟨hb, ?_, fun m i hm hw => (he i (h.all m i hm hw)).1, ?_, ?_⟩
    · intro i hi
      replace hi : (st.S.set y.toNat true).getD i false = true := hi
      rw [getD_set_b] at hi
      split at hi
      · rename_i e2
        obtain ⟨rfl, _⟩ := e2
        obtain ⟨m, hm, hc, hmin⟩ := h.near x.toNat hxs
        obtain ⟨q, hq, hqw⟩ := hxw
        have hmL : m ≤ L := Nat.le_trans (hmin q hqw) hq
        refine ⟨m + 1, by omega, .back hself ?_ ?_, ?_⟩
        · show ((y.toNat : Nat) : Int) ∈ rows.getD ((st.B.set y.toNat x).getD y.toNat 0).toNat []
          rw [hbx, Int.toNat_of_nonneg hy.1]
          exact hye
        · show Cw rows (st.S.set y.toNat true) (st.B.set y.toNat x) a ((st.B.set y.toNat x).getD y.toNat 0).toNat m
          rw [hbx]
          exact hc.ext he
        · intro m' hw
          by_cases hm' : m' ≤ L
          · exact absurd (h.all m' _ hm' hw) hs
          · omega
      · obtain ⟨m, hm, hc, hmin⟩ := h.near i hi
        exact ⟨m, hm, hc.ext he, hmin⟩
    · intro v hv
      rcases List.mem_append.1 hv with hv | hv
      · exact (he _ (h.next v hv)).1
      · rw [List.mem_singleton.1 hv]; exact hself
    · intro i hi
      replace hi : (st.S.set y.toNat true).getD i false = true := hi
      rw [getD_set_b] at hi
      split at hi
      · rename_i e2
        obtain ⟨rfl, _⟩ := e2
        refine .inl (List.mem_append_right _ ?_)
        rw [Int.toNat_of_nonneg hy.1]
        exact List.mem_singleton.2 rfl
      · rcases h.old i hi with h1 | h1
        · exact .inl (List.mem_append_left _ h1)
        · exact .inr h1
theorem LI.fold {rows : List (List Int)} {n a L : Nat} {x : Int} (hx : 0 ≤ x ∧ x < (n : Int)) (hxw : ∃ m, m ≤ L ∧ Wk rows a m x.toNat) : ∀ (l : List Int) (st : BF), LI rows n a L st → st.S.getD x.toNat false = true → (∀ y ∈ l, y ∈ rows.getD x.toNat [] ∧ 0 ≤ y ∧ y < (n : Int)) →
    LI rows n a L (l.foldl (stepP x) st) ∧ ∀ y ∈ l, (l.foldl (stepP x) st).S.getD y.toNat false = true
  | [], st, h, _, _ => ⟨h, fun y hy => by cases hy⟩
  | y :: l, st, h, hs, hl => by
    have hy := hl y List.mem_cons_self
    obtain ⟨h1, h2⟩ := LI.fold hx hxw l _ (h.step hx hs hxw hy.1 hy.2) (step_ext x y st _ hs).1 (fun z hz => hl z (List.mem_cons_of_mem _ hz))
    refine ⟨h1, fun z hz => ?_⟩
    rcases List.mem_cons.1 hz with rfl | hz
    · exact (fold_ext x l _ _ (mkS_self (by rw [h.bi.lS]; omega))).1
    · exact h2 z hz
theorem LI.lev {rows : List (List Int)} {n a L : Nat} (hok : okR rows) (hn : rows.length = n) : ∀ (l : List Int) (st : BF), LI rows n a L st → (∀ y ∈ l, (0 ≤ y ∧ y < (n : Int)) ∧ st.S.getD y.toNat false = true ∧ ∃ m, m ≤ L ∧ Wk rows a m y.toNat) →
    LI rows n a L (l.foldl (rowP rows) st) ∧ ∀ x ∈ l, ∀ y ∈ rows.getD x.toNat [], (l.foldl (rowP rows) st).S.getD y.toNat false = true
  | [], st, h, _ => ⟨h, fun y hy => by cases hy⟩
  | x :: l, st, h, hl => by
    have hx := hl x List.mem_cons_self
    obtain ⟨h1, h2⟩ := LI.fold hx.1 hx.2.2 (rows.getD x.toNat []) st h hx.2.1 (fun z hz => by have := hok.row hz; rw [hn] at this; exact ⟨hz, this⟩)
    obtain ⟨h4, h5⟩ := LI.lev hok hn l (rowP rows st x) h1 (fun z hz => ⟨(hl z (List.mem_cons_of_mem _ hz)).1, (fold_ext x _ st _ (hl z (List.mem_cons_of_mem _ hz)).2.1).1, (hl z (List.mem_cons_of_mem _ hz)).2.2⟩)
    refine ⟨h4, fun z hz y hy => ?_⟩
    rcases List.mem_cons.1 hz with rfl | hz
    · exact (lev_ext rows l _ _ (h2 y hy)).1
    · exact h5 z hz y hy
/-- where a level begins -/
structure LS (rows : List (List Int)) (n a L : Nat) (B : List Int) (S : List Bool) (row : List Int) : Prop where
  li : LI rows n a L ⟨B, S, []⟩
  rowB : ∀ x ∈ row, (0 ≤ x ∧ x < (n : Int)) ∧ S.getD x.toNat false = true
  rest : ∀ i, S.getD i false = true → (i : Int) ∈ row ∨ ∃ m, m < L ∧ Wk rows a m i
theorem LS.next {rows : List (List Int)} {n a L : Nat} (hok : okR rows) (hn : rows.length = n) {B : List Int} {S : List Bool} {row : List Int} (h : LS rows n a L B S row) : LS rows n a (L + 1) (levP rows B S row).B (levP rows B S row).S (levP rows B S row).M := by
  have hold : ∀ i, S.getD i false = true → ∃ m, m ≤ L ∧ Wk rows a m i := fun i hi => by
    rcases h.li.old i hi with h1 | h1
    · cases h1
    · exact h1
  obtain ⟨h1, h2⟩ := LI.lev hok hn row ⟨B, S, []⟩ h.li (fun y hy => ⟨(h.rowB y hy).1, (h.rowB y hy).2, hold _ (h.rowB y hy).2⟩)
  have hext := lev_ext rows row ⟨B, S, []⟩
  have e : levP rows B S row = row.foldl (rowP rows) ⟨B, S, []⟩ := rfl
  rw [e]
  generalize row.foldl (rowP rows) ⟨B, S, []⟩ = st at h1 h2 hext
  have few := h1.bi.few
  refine ⟨⟨⟨h1.bi.lB, h1.bi.lS, h1.bi.rB, fun v hv => absurd hv List.not_mem_nil, by simp only [List.length_nil]; omega⟩, ?_, ?_, fun v hv => absurd hv List.not_mem_nil, ?_⟩, fun x hx => ⟨h1.bi.rM x hx, h1.next x hx⟩, ?_⟩
  · intro i hi
    obtain ⟨m, hm, hc⟩ := h1.near i hi
    exact ⟨m, by omega, hc⟩
  · intro m i hm hw
    by_cases hmL : m ≤ L
    · exact h1.all m i hmL hw
    · have hm2 : m = L + 1 := by omega
      subst hm2
      cases hw with
      | step hw hy =>
        rename_i j y
        have hj := h.li.all L j (Nat.le_refl _) hw
        rcases h.rest j hj with h3 | ⟨q, hq, hqw⟩
        · exact h2 _ h3 y hy
        · exact h1.all (q + 1) _ (by omega) (.step hqw hy)
  · intro i hi
    obtain ⟨m, hm, hc, _⟩ := h1.near i hi
    exact .inr ⟨m, hm, hc.wk⟩
  · intro i hi
    rcases h1.old i hi with h3 | ⟨m, hm, hw⟩
    · exact .inl h3
    · exact .inr ⟨m, by omega, hw⟩
theorem bfsG_levels {rows : List (List Int)} {n a : Nat} (hok : okR rows) (hn : rows.length = n) {b : Int} : ∀ (g L : Nat) (B : List Int) (S : List Bool) (row : List Int) (s : BF), LS rows n a L B S row → bfsG rows b g B S row = some s →
    (∃ L', LS rows n a L' s.B s.S s.M) ∧ (s.M = [] ∨ s.S.getD b.toNat false = true)
  | 0, _, _, _, _, _, _, h => by cases h
  | g + 1, L, B, S, row, s, hls, h => by
    unfold bfsG at h
    split at h
    · exact bfsG_levels hok hn g (L + 1) _ _ _ s (hls.next hok hn) h
    · rename_i hc
      cases h
      refine ⟨⟨L, hls⟩, ?_⟩
      cases row with
      | nil => exact .inl rfl
      | cons x row =>
        refine .inr ?_
        cases hs : S.getD b.toNat false with
        | true => rfl
        | false => exact absurd ⟨by simp, hs⟩ hc
theorem LS.closed {rows : List (List Int)} {n a L : Nat} {B : List Int} {S : List Bool} (h : LS rows n a L B S []) : ∀ (m i : Nat), Wk rows a m i → S.getD i false = true := by
  intro m i hw
  induction hw with
  | refl => exact h.li.all 0 a (Nat.zero_le _) .refl
  | step hw hy ih =>
    rcases h.rest _ ih with h3 | ⟨q, hq, hqw⟩
    · cases h3
    · exact h.li.all (q + 1) _ (by omega) (.step hqw hy)
theorem LS.first {rows : List (List Int)} {n : Nat} {a : Int} (h0 : 0 ≤ a) (h1 : a < (n : Int)) : LS rows n a.toNat 0 (List.replicate n 0) ((List.replicate n false).set a.toNat true) [a] := by
  have hz : ∀ i, (List.replicate n false).getD i false = false := by
    intro i
    rw [List.getD_eq_getElem?_getD, List.getElem?_replicate]
    split <;> rfl
  have hl : a.toNat < (List.replicate n false).length := by rw [List.length_replicate]; omega
  have hc := count_set_b (List.replicate n false) a.toNat hl (by rw [hz]; decide)
  rw [List.count_replicate_self] at hc
  have hs : ((List.replicate n false).set a.toNat true).getD a.toNat false = true := by rw [getD_set_b, if_pos ⟨rfl, hl⟩]
  have hall : ∀ i, ((List.replicate n false).set a.toNat true).getD i false = true → i = a.toNat := by
    intro i hi
    rw [getD_set_b] at hi
    split at hi
    · rename_i e; exact e.1.symm
    · rw [hz] at hi; cases hi
  refine ⟨⟨⟨by simp, by simp, fun v hv => by rw [(List.mem_replicate.1 hv).2]; omega, fun v hv => by simp at hv, by show ([] : List Int).length + _ ≤ n; simp only [List.length_nil]; omega⟩, ?_, ?_, fun v hv => by simp at hv, ?_⟩, ?_, ?_⟩
  · intro i hi
    rw [hall i hi]
    exact ⟨0, by omega, .here hs, fun _ _ => Nat.zero_le _⟩
  · intro m i hm hw
    have : m = 0 := by omega
    subst this
    cases hw
    exact hs
  · intro i hi
    rw [hall i hi]
    exact .inr ⟨0, Nat.le_refl _, .refl⟩
  · intro x hx
    rw [List.mem_singleton.1 hx]
    exact ⟨⟨h0, h1⟩, hs⟩
  · intro i hi
    rw [hall i hi]
    refine .inl ?_
    rw [Int.toNat_of_nonneg h0]
    exact List.mem_singleton.2 rfl
def chL (B : List Int) : Nat → Int → List Int
  | 0, _ => []
  | m + 1, x => B.getD x.toNat 0 :: chL B m (B.getD x.toNat 0)
theorem chL_len (B : List Int) : ∀ (m : Nat) (x : Int), (chL B m x).length = m
  | 0, _ => rfl
  | m + 1, x => by rw [chL, List.length_cons, chL_len]
theorem Cw.at0 {l : List (List Int)} {S : List Bool} {B : List Int} {a x : Nat} (h : Cw l S B a x 0) : x = a := by cases h; rfl
theorem getB {B : List Int} (hB : ∀ v ∈ B, 0 ≤ v) (x : Nat) : 0 ≤ B.getD x 0 := by
  rw [List.getD_eq_getElem?_getD]
  cases he : B[x]? with
  | none => simp
  | some v => exact hB v (List.mem_of_getElem? he)
theorem backG_eq {rows : List (List Int)} {S : List Bool} {B : List Int} {a : Nat} (hB : ∀ v ∈ B, 0 ≤ v) : ∀ (m : Nat) (x : Int) (acc : List Int), 0 ≤ x → Cw rows S B a x.toNat m → (∀ m', Wk rows a m' x.toNat → m ≤ m') → acc.length + m ≤ 1000000 →
    backG B (a : Int) (m + 1) x acc = some (acc ++ chL B m x)
  | 0, x, acc, hx, h, hmin, hl => by
    have e := h.at0
    unfold backG
    rw [if_pos (by omega), chL, List.append_nil]
  | m + 1, x, acc, hx, h, hmin, hl => by
    unfold backG
    have hxa : x ≠ (a : Int) := by
      intro e
      have := hmin 0 (by rw [show x.toNat = a by omega]; exact .refl)
      omega
    rw [if_neg hxa, if_pos (by omega)]
    generalize e : x.toNat = z at h hmin
    cases h with
    | back hs he h =>
      rw [backG_eq hB m _ _ (getB hB z) h ?_ (by rw [List.length_append, List.length_singleton]; omega), chL, e, List.append_assoc]
      · rfl
      · intro m' hw
        have := hmin (m' + 1) (Wk.step (y := ((z : Nat) : Int)) hw he)
        omega
theorem chL_ext {rows : List (List Int)} {S S' : List Bool} {B B' : List Int} {a : Nat} (e : Ext S S' B B') (hB : ∀ v ∈ B, 0 ≤ v) : ∀ (m : Nat) (x : Int), 0 ≤ x → Cw rows S B a x.toNat m → chL B' m x = chL B m x
  | 0, _, _, _ => rfl
  | m + 1, x, hx, h => by
    generalize ez : x.toNat = z at h
    cases h with
    | back hs he h =>
      have h2 := (e z hs).2
      rw [chL, chL, ez, h2, chL_ext e hB m _ (getB hB z) h]
end Go.Proofs.Ytmlhnjonmjmhdaa.H
namespace Go.Proofs.Ytmlhnjonmjmhdaa.H
open Go.RowKit Go.Proofs.YtmlhnjonmjmhdaaW.PrintWords Go.Proofs.YtmlhnjonmjmhdaaW.PrintLast Go.Proofs.YtmlhnjonmjmhdaaW.PrintMore
attribute [local go_sem] max2_int min2_int max_two min_two max_three min_three max_four min_four
def slices_Reverse_int_int.l0 : Nat → List Int → Int → Int → Option (List Int)
 | 0, _, _, _ => none
 | k + 1, x0, x2, x3 => if x2 < x3 then (if 0 ≤ x3 then (if x3 < (x0.length : Int) then (if 0 ≤ x2 then (if x2 < (x0.length : Int) then (slices_Reverse_int_int.l0 k ((x0.set (x2 : Int).toNat (rd x0 x3)).set (x3 : Int).toNat (rd x0 x2)) (wrap64 (x2 + 1)) (wrap64 (x3 - 1))) else (none)) else (none)) else (none)) else (none)) else (some x0)
def slices_Reverse_int_int.f (k : Nat) (l0 : List Int) : Option (List Int) := slices_Reverse_int_int.l0 k l0 0 (wrap64 ((l0.length : Int) - 1))
theorem slices_Reverse_int_int.mono_l : ∀ k, (∀ y0 y1 y2, LeO (slices_Reverse_int_int.l0 k y0 y1 y2) (slices_Reverse_int_int.l0 (k + 1) y0 y1 y2))
 | 0 => fun _ _ _ r h => by simp [slices_Reverse_int_int.l0] at h
 | k + 1 => by
  have ih0 := slices_Reverse_int_int.mono_l k
  ·intro y0 y1 y2
   unfold slices_Reverse_int_int.l0
   repeat' first
   | (with_reducible exact ih0 _ _ _)
   | (with_reducible exact LeO.refl _)
   | (with_reducible exact LeO.none _)
   | (with_reducible refine LeO.ite ?_ ?_)
   | (with_reducible refine LeO.bind ?_ (fun _ => ?_))
   | exact ih0 _ _ _
   | exact LeO.none _
   | refine LeO.ite ?_ ?_
   | refine LeO.bind ?_ (fun _ => ?_)
theorem slices_Reverse_int_int.mono : ∀ a0 k, LeO (slices_Reverse_int_int.f k a0) (slices_Reverse_int_int.f (k + 1) a0) := by
 intro a0 k
 have ih0 := slices_Reverse_int_int.mono_l k
 unfold slices_Reverse_int_int.f
 repeat' first
   | (with_reducible exact ih0 _ _ _)
   | (with_reducible exact LeO.refl _)
   | (with_reducible exact LeO.none _)
   | (with_reducible refine LeO.ite ?_ ?_)
   | (with_reducible refine LeO.bind ?_ (fun _ => ?_))
   | exact ih0 _ _ _
   | exact LeO.none _
   | refine LeO.ite ?_ ?_
   | refine LeO.bind ?_ (fun _ => ?_)
def slices_Reverse_int_int.T3 : Bool × List (List Nat × List Nat) := (true, [([], []), ([], []), ([], []), ([], []), ([], []), ([], []), ([4, 5], [4, 5]), ([6], [6]), ([], []), ([], []), ([8, 9], [8, 9]), ([10], [10]), ([0, 1, 0, 1, 4, 5, 6, 7, 11], [0, 1]), ([12, 7, 0, 1, 4, 5, 6, 7, 11], [7, 12]), ([2, 3, 0, 1, 2, 3, 4, 5, 6, 7, 8, 9, 10, 11, 12, 13], [2, 3]), ([14, 11, 13, 0, 1, 2, 3, 4, 5, 6, 7, 8, 9, 10, 11, 12, 13], [11, 14])])
def slices_Reverse_int_int.B3 : List Nat := [0, 0, 0, 0, 0, 0, 48, 112, 0, 0, 768, 1792, 4083, 8179, 16383, 32767]
theorem slices_Reverse_int_int.tab3 : rtab .any (opsOf Try.f48 3) = slices_Reverse_int_int.T3 := by kernel_rfl
theorem slices_Reverse_int_int.bits3 : waitsOk slices_Reverse_int_int.T3.2 slices_Reverse_int_int.B3 = true := by kernel_rfl
set_option maxHeartbeats 8000000 in
set_option maxRecDepth 100000 in
theorem slices_Reverse_int_int.calls (k : Nat) (P0_ : Nat → Prop) (u9000_ : Value) (l0 : List Int) (r : List Int) (w0 w : World) (hB : Below w0.heap.size w0 w) (ho0 : Kd.R (Kd.int .i64) 3 w w0.heap.size P0_ u9000_ l0) (h : slices_Reverse_int_int.f k l0 = some r) :
  Calls Try.prog 48 #[u9000_] w fun e w' => e = .returned (.tuple #[]) ∧ Kd.R (Kd.int .i64) 3 w' w0.heap.size (fun k_ => (P0_ k_ ∨ w.heap.size ≤ k_)) u9000_ r ∧ Below w0.heap.size w0 w' ∧ Kept w w' (fun k_ => P0_ k_) := by
 have HO0 := Aside0.mk (show Kd.R (Kd.int .i64) 3 w w0.heap.size (fun k_ => (P0_ k_ ∨ w.heap.size ≤ k_)) u9000_ l0 from Kd.R_mono ho0 (fun k_ hk => (.inl hk)))
 have HK := Aside0.mk (Kept.refl w (fun k_ => P0_ k_))
 have HW0 := Aside0.mk hB.size
 have HB := Aside0.mk hB
 clear hB
 have H : (slices_Reverse_int_int.l0 k l0 0 (wrap64 ((l0.length : Int) - 1))) = some r := h
 clear h
 have H' := Aside0.mk H
 clear H
 obtain ⟨Ao2, co2, eo2⟩ := Kd.R_slice HO0.out
 subst eo2
 go_enter Try.func48, Try.ntmps48
 go_wp2
 go_loopg [2, 3] k (fun kq v2 v3 w' => ∃ (x0_1 : List Int) (x2_1 : Int) (x3_1 : Int), v2 = .int .i64 x2_1 ∧ v3 = .int .i64 x3_1 ∧ Aside0 (slices_Reverse_int_int.l0 kq x0_1 x2_1 x3_1 = some r) ∧ Aside0 (kq ≤ k) ∧ Aside0 (Kd.R (Kd.int .i64) 3 w' w0.heap.size (fun k_ => (P0_ k_ ∨ w.heap.size ≤ k_)) (.slice Ao2 l0.length co2) x0_1) ∧ Aside0 (Kept w w' (fun k_ => P0_ k_)) ∧ Aside0 (Below w0.heap.size w0 w'))
 case atStart => exact ⟨(l0), (0), (wrap64 ((l0.length : Int) - 1)), (by first | rfl | (simp; done) | (simp [*]; done)), (by first | rfl | (simp; done) | (simp [*]; done)), H', ⟨Nat.le_refl _⟩, ⟨by (with_reducible repeat (first | apply Kd.R_alloc | apply Kd.R_drewN | apply Kd.R_drew)); exact HO0.out⟩, ⟨by repeat (first | (with_reducible first | exact HK.out | apply Kept.alloc | apply Kept.drewN | apply Kept.drew) | exact HK.out)⟩, ⟨by repeat (first | (with_reducible first | exact HB.out | apply below_alloc | apply pw_below_drewN | apply below_drew1) | exact HB.out)⟩⟩
 case round =>
  clear H'
  try clear p2
  obtain ⟨x0_1, x2_1, x3_1, rfl, rfl, HA, HK1, HO_0, HK, HB⟩ := hrel
  have hl0_1 := (Kd.R_reads' HO_0.out).1
  rw [hl0_1] at HO_0
  (try simp only [hl0_1])
  cases gk with
  | zero => exact absurd HA.out (by simp [slices_Reverse_int_int.l0])
  | succ k1 =>
   have H := HA.out
   clear HA
   simp only [slices_Reverse_int_int.l0] at H
   by_cases c3 : x2_1 < x3_1
   ·rw [if_pos c3] at H
    have c3b0 : decide (x2_1 < x3_1) = true := decide_eq_true c3
    clear c3
    by_cases c4 : 0 ≤ x3_1
    ·rw [if_pos c4] at H
     have c4b0 : decide (0 ≤ x3_1) = true := decide_eq_true c4
     clear c4
     by_cases c5 : x3_1 < (x0_1.length : Int)
     ·rw [if_pos c5] at H
      have c5b0 : decide (x3_1 < (x0_1.length : Int)) = true := decide_eq_true c5
      clear c5
      by_cases c6 : 0 ≤ x2_1
      ·rw [if_pos c6] at H
       have c6b0 : decide (0 ≤ x2_1) = true := decide_eq_true c6
       clear c6
       by_cases c7 : x2_1 < (x0_1.length : Int)
       ·rw [if_pos c7] at H
        have c7b0 : decide (x2_1 < (x0_1.length : Int)) = true := decide_eq_true c7
        clear c7
        obtain ⟨y103, hy103⟩ : ∃ y_ : List Int, y_ = (x0_1.set (x2_1 : Int).toNat (rd x0_1 x3_1)) := ⟨_, rfl⟩
        replace H : (slices_Reverse_int_int.l0 k1 (y103.set (x3_1 : Int).toNat (rd x0_1 x2_1)) (wrap64 (x2_1 + 1)) (wrap64 (x3_1 - 1))) = some r := by first | (rw [hy103]; with_reducible exact H) | (have H2_ := (Option.bind_some _ _).symm.trans H; rw [hy103]; with_reducible exact H2_) | (have H2_ := (Option.bind_some _ _).symm.trans H; with_reducible exact H2_) | with_reducible exact H | (rw [hy103]; exact H) | exact H
        have Ny103 := Aside0.mk hy103
        clear hy103
        obtain ⟨y104, hy104⟩ : ∃ y_ : List Int, y_ = (y103.set (x3_1 : Int).toNat (rd x0_1 x2_1)) := ⟨_, rfl⟩
        replace H : (slices_Reverse_int_int.l0 k1 y104 (wrap64 (x2_1 + 1)) (wrap64 (x3_1 - 1))) = some r := by first | (rw [hy104]; with_reducible exact H) | (have H2_ := (Option.bind_some _ _).symm.trans H; rw [hy104]; with_reducible exact H2_) | (have H2_ := (Option.bind_some _ _).symm.trans H; with_reducible exact H2_) | with_reducible exact H | (rw [hy104]; exact H) | exact H
        have Ny104 := Aside0.mk hy104
        clear hy104
        have H' := Aside0.mk H
        clear H
        try go_wp2
        have n0_ := Aside0.mk (Kd.R_drew HO_0.out)
        have n1_ := Aside0.mk (Kept.drew HK.out)
        have n2_ := Aside0.mk (below_drew1 HB.out)
        clear HO_0
        clear HK
        clear HB
        have HO_0 := n0_
        have HK := n1_
        have HB := n2_
        clear n0_ n1_ n2_
        have p101 : 0 ≤ (x3_1 : Int) := of_decide_eq_true (by first | (with_reducible assumption) | assumption)
        have q101 : x3_1 < (x0_1.length : Int) := of_decide_eq_true (by first | (with_reducible assumption) | assumption)
        obtain ⟨ad101, e101, hx101_0⟩ := Kd.at_int (Kd.R_reads' HO_0.out).2.2 x3_1 p101 q101
        cases e101
        replace p101 := eq_true p101
        replace q101 := eq_true q101
        have p102 : 0 ≤ (x2_1 : Int) := of_decide_eq_true (by first | (with_reducible assumption) | assumption)
        have q102 : x2_1 < (x0_1.length : Int) := of_decide_eq_true (by first | (with_reducible assumption) | assumption)
        obtain ⟨ad102, e102, hx102_0⟩ := Kd.at_int (Kd.R_reads' HO_0.out).2.2 x2_1 p102 q102
        obtain rfl : ad101 = ad102 := (by injection e102)
        replace p102 := eq_true p102
        replace q102 := eq_true q102
        have p8 : 0 ≤ (x2_1 : Int) := of_decide_eq_true (by first | (with_reducible assumption) | assumption)
        have q8 : (x2_1 : Int) < ((x0_1.length : Int) : Int) := of_decide_eq_true (by first | (with_reducible assumption) | assumption)
        obtain ⟨go8, co8, eo8, gb8, gl8, cl8, HG8⟩ := Kd.R_form HO_0.out (by omega)
        (first | cases eo8 | (injection eo8 with ea_ en_ ec_; (first | subst ea_ | (injection ea_ with ea_; subst ea_)); subst ec_; clear en_))
        have GB8 := Aside0.mk gb8
        have GG8 := Aside0.mk HG8
        clear gb8 gl8 HG8
        have HMgo8 := Aside0.mk (show (P0_ go8 ∨ w.heap.size ≤ go8) from (HO_0.out.1 _ rfl))
        (first | simp only [add_plain] at hx101_0 | skip)
        (first | simp only [add_plain] at hx102_0 | skip)
        obtain ⟨hx8_0, hf8_0⟩ := Kd.R_celln 0 HO_0.out (x2_1 : Int) p8 q8
        replace p8 := eq_true p8
        replace q8 := eq_true q8
        have HP11 := Kd.R_putn HO_0.out (x2_1 : Int) (rd x0_1 x3_1)
        rw [← Ny103.out] at HP11
        have HQ11 := Aside0.mk HP11
        clear HP11
        have p9 : 0 ≤ (x3_1 : Int) := of_decide_eq_true (by first | (with_reducible assumption) | assumption)
        have q9 : (x3_1 : Int) < ((x0_1.length : Int) : Int) := of_decide_eq_true (by first | (with_reducible assumption) | assumption)
        obtain ⟨hx9_0, hf9_0⟩ := Kd.R_celln 0 HQ11.out (x3_1 : Int) p9 q9
        replace p9 := eq_true p9
        replace q9 := eq_true q9
        have HP12 := Kd.R_putn HQ11.out (x3_1 : Int) (rd x0_1 x2_1)
        rw [← Ny104.out] at HP12
        have HQ12 := Aside0.mk HP12
        clear HP12
        refine start_ (n := 16) (S := fun w' => w'.cell? ⟨go8, (x3_1).toNat, none⟩ = some (.int .i64 (rd x0_1 x3_1)) ∧ w'.cell? ⟨go8, (x2_1).toNat, none⟩ = some (.int .i64 (rd x0_1 x2_1))) (ds := [13, 15]) #[false, false, false, false, false, false, false, false, false, false, false, false, false, false, false, false] (by kernel_rfl) rfl rfl ⟨hx101_0, hx102_0⟩ (fun hHeld => ?_); refine with_tabW slices_Reverse_int_int.tab3 slices_Reverse_int_int.bits3 (fun HT_ HW_ => ?_)
        generalize wr.drew = w10 at HO_0 HK HB GG8 HQ11 HQ12 hf8_0 hf9_0 hx101_0 hx102_0 hx8_0 hx9_0 hHeld ⊢
        refine pure_ (i := 0) (N := some 14) (v := ?_) (a' := ?_) #[true, false, false, false, false, false, false, false, false, false, false, false, false, false, false, false] rfl rfl (any_of HT_.out (by kernel_rfl)) (fun _ _ _ h => h) (Or.inl ⟨by rfl, ?_⟩) ?_ ?_
        rotate_left
        ·intro w'
         go_simp
         with_reducible rfl
        rotate_left
        ·simp only [Act.put, List.setIfInBounds_toArray, List.set_cons_zero, List.set_cons_succ, i64_w, i32_w]
         rfl
        refine pure_ (i := 1) (N := some 15) (v := ?_) (a' := ?_) #[true, true, false, false, false, false, false, false, false, false, false, false, false, false, false, false] rfl rfl (any_of HT_.out (by kernel_rfl)) (fun _ _ _ h => h) (Or.inl ⟨by rfl, ?_⟩) ?_ ?_
        rotate_left
        ·intro w'
         go_simp
         with_reducible rfl
        rotate_left
        ·simp only [Act.put, List.setIfInBounds_toArray, List.set_cons_zero, List.set_cons_succ, i64_w, i32_w]
         rfl
        refine pure_ (i := 2) (N := some 16) (v := ?_) (a' := ?_) #[true, true, true, false, false, false, false, false, false, false, false, false, false, false, false, false] rfl rfl (any_of HT_.out (by kernel_rfl)) (fun _ _ _ h => h) (Or.inl ⟨by rfl, ?_⟩) ?_ ?_
        rotate_left
        ·intro w'
         go_simp
         with_reducible rfl
        rotate_left
        ·simp only [Act.put, List.setIfInBounds_toArray, List.set_cons_zero, List.set_cons_succ, i64_w, i32_w]
         rfl
        refine pure_ (i := 3) (N := some 17) (v := ?_) (a' := ?_) #[true, true, true, true, false, false, false, false, false, false, false, false, false, false, false, false] rfl rfl (any_of HT_.out (by kernel_rfl)) (fun _ _ _ h => h) (Or.inl ⟨by rfl, ?_⟩) ?_ ?_
        rotate_left
        ·intro w'
         go_simp
         with_reducible rfl
        rotate_left
        ·simp only [Act.put, List.setIfInBounds_toArray, List.set_cons_zero, List.set_cons_succ, i64_w, i32_w]
         rfl
        refine pure_ (i := 4) (N := some 18) (v := ?_) (a' := ?_) #[true, true, true, true, true, false, false, false, false, false, false, false, false, false, false, false] rfl rfl (any_of HT_.out (by kernel_rfl)) (fun _ _ _ h => h) (Or.inl ⟨by rfl, ?_⟩) ?_ ?_
        rotate_left
        ·intro w'
         go_simp
         with_reducible rfl
        rotate_left
        ·simp only [Act.put, List.setIfInBounds_toArray, List.set_cons_zero, List.set_cons_succ, i64_w, i32_w]
         rfl
        refine pure_ (i := 5) (N := some 19) (v := ?_) (a' := ?_) #[true, true, true, true, true, true, false, false, false, false, false, false, false, false, false, false] rfl rfl (any_of HT_.out (by kernel_rfl)) (fun _ _ _ h => h) (Or.inl ⟨by rfl, ?_⟩) ?_ ?_
        rotate_left
        ·intro w'
         go_simp
         with_reducible rfl
        rotate_left
        ·simp only [Act.put, List.setIfInBounds_toArray, List.set_cons_zero, List.set_cons_succ, i64_w, i32_w]
         rfl
        refine pure_ (i := 6) (N := some 20) (v := ?_) (a' := ?_) #[true, true, true, true, true, true, true, false, false, false, false, false, false, false, false, false] rfl rfl (any_of HT_.out (by kernel_rfl)) (fun _ _ _ h => h) (Or.inl ⟨by rfl, ?_⟩) ?_ ?_
        rotate_left
        ·intro w'
         go_simp
         with_reducible rfl
        rotate_left
        ·simp only [Act.put, List.setIfInBounds_toArray, List.set_cons_zero, List.set_cons_succ, i64_w, i32_w]
         rfl
        refine pure_ (i := 8) (N := some 22) (v := ?_) (a' := ?_) #[true, true, true, true, true, true, true, false, true, false, false, false, false, false, false, false] rfl rfl (any_of HT_.out (by kernel_rfl)) (fun _ _ _ h => h) (Or.inl ⟨by rfl, ?_⟩) ?_ ?_
        rotate_left
        ·intro w'
         go_simp
         with_reducible rfl
        rotate_left
        ·simp only [Act.put, List.setIfInBounds_toArray, List.set_cons_zero, List.set_cons_succ, i64_w, i32_w]
         rfl
        refine pure_ (i := 9) (N := some 23) (v := ?_) (a' := ?_) #[true, true, true, true, true, true, true, false, true, true, false, false, false, false, false, false] rfl rfl (any_of HT_.out (by kernel_rfl)) (fun _ _ _ h => h) (Or.inl ⟨by rfl, ?_⟩) ?_ ?_
        rotate_left
        ·intro w'
         go_simp
         with_reducible rfl
        rotate_left
        ·simp only [Act.put, List.setIfInBounds_toArray, List.set_cons_zero, List.set_cons_succ, i64_w, i32_w]
         rfl
        refine pure_ (i := 10) (N := some 24) (v := ?_) (a' := ?_) #[true, true, true, true, true, true, true, false, true, true, true, false, false, false, false, false] rfl rfl (any_of HT_.out (by kernel_rfl)) (fun _ _ _ h => h) (Or.inl ⟨by rfl, ?_⟩) ?_ ?_
        rotate_left
        ·intro w'
         go_simp
         with_reducible rfl
        rotate_left
        ·simp only [Act.put, List.setIfInBounds_toArray, List.set_cons_zero, List.set_cons_succ, i64_w, i32_w]
         rfl
        refine take_ (i := 7) (N := some 21) (v := ?_) (a' := ?_) #[true, true, true, true, true, true, true, true, true, true, true, false, false, false, false, false] rfl rfl (take_ofW HT_.out HW_.out (by kernel_rfl)) (fun _ _ _ h => h) (Or.inl ⟨by rfl, ?_⟩) hHeld ?_ ?_
        rotate_left
        ·rintro w' ⟨s0, s1⟩
         go_simp
         with_reducible rfl
        rotate_left
        ·simp only [Act.put, List.setIfInBounds_toArray, List.set_cons_zero, List.set_cons_succ, i64_w, i32_w]
         rfl
        refine take_ (i := 11) (N := some 25) (v := ?_) (a' := ?_) #[true, true, true, true, true, true, true, true, true, true, true, true, false, false, false, false] rfl rfl (take_ofW HT_.out HW_.out (by kernel_rfl)) (fun _ _ _ h => h) (Or.inl ⟨by rfl, ?_⟩) hHeld ?_ ?_
        rotate_left
        ·rintro w' ⟨s0, s1⟩
         go_simp
         with_reducible rfl
        rotate_left
        ·simp only [Act.put, List.setIfInBounds_toArray, List.set_cons_zero, List.set_cons_succ, i64_w, i32_w]
         rfl
        refine pure_ (i := 12) (N := some 26) (v := ?_) (a' := ?_) #[true, true, true, true, true, true, true, true, true, true, true, true, true, false, false, false] rfl rfl (any_of HT_.out (by kernel_rfl)) (fun _ _ _ h => h) (Or.inl ⟨by rfl, ?_⟩) ?_ ?_
        rotate_left
        ·intro w'
         go_simp
         with_reducible rfl
        rotate_left
        ·simp only [Act.put, List.setIfInBounds_toArray, List.set_cons_zero, List.set_cons_succ, i64_w, i32_w]
         rfl
        refine last_ (i := 13) (N := none) #[true, true, true, true, true, true, true, true, true, true, true, true, true, true, false, false] rfl rfl (one_of HT_.out (by kernel_rfl)) (by decide) (fun K hK => ?_)
        refine skip_ (w1 := ?_) (by rfl) rfl ?_ ?_
        rotate_left
        ·go_simp
         rfl
        refine hK.out _ _ ?_
        clear hK K
        refine pure_ (i := 14) (N := some 27) (v := ?_) (a' := ?_) #[true, true, true, true, true, true, true, true, true, true, true, true, true, true, true, false] rfl rfl (any_of HT_.out (by kernel_rfl)) (fun _ _ _ h => h) (Or.inl ⟨by rfl, ?_⟩) ?_ ?_
        rotate_left
        ·intro w'
         go_simp
         with_reducible rfl
        rotate_left
        ·simp only [Act.put, List.setIfInBounds_toArray, List.set_cons_zero, List.set_cons_succ, i64_w, i32_w]
         rfl
        refine last_ (i := 15) (N := none) #[true, true, true, true, true, true, true, true, true, true, true, true, true, true, true, true] rfl rfl (one_of HT_.out (by kernel_rfl)) (by decide) (fun K hK => ?_)
        refine skip_ (w1 := ?_) (by rfl) rfl ?_ ?_
        rotate_left
        ·go_simp
         rfl
        refine hK.out _ _ ?_
        clear hK K
        refine done_ (done_of HT_.out (by kernel_rfl)) ?_
        try go_wp2
        (try simp only [← hl0_1])
        go_roundg k1
        case measure => have := HK1.out; omega
        case rel => exact ⟨(y104), (wrap64 (x2_1 + 1)), (wrap64 (x3_1 - 1)), (by first | rfl | (simp; done) | (simp [*]; done)), (by first | rfl | (simp; done) | (simp [*]; done)), H', ⟨by have := HK1.out; omega⟩, ⟨by (try simp only [hl0_1]); (with_reducible repeat (first | apply Kd.R_alloc | apply Kd.R_drewN | apply Kd.R_drew)); exact HQ12.out⟩, ⟨by repeat (first | (with_reducible first | exact HK.out | apply Kept.alloc | apply Kept.drewN | apply Kept.drew | refine Kept.setCell ?_ HMgo8.out _ | refine Kept.setCell ?_ HMgo8.out _) | exact HK.out)⟩, ⟨by repeat (first | (with_reducible first | exact HB.out | apply below_alloc | apply pw_below_drewN | apply below_drew1 | refine below_set ?_ GB8.out | refine below_set ?_ GB8.out) | exact HB.out)⟩⟩
       ·rw [if_neg c7] at H
        exact absurd H (by simp)
      ·rw [if_neg c6] at H
       exact absurd H (by simp)
     ·rw [if_neg c5] at H
      exact absurd H (by simp)
    ·rw [if_neg c4] at H
     exact absurd H (by simp)
   ·rw [if_neg c3] at H
    have c3b0 : decide (x2_1 < x3_1) = false := decide_eq_false c3
    clear c3
    obtain rfl := Option.some.inj H
    go_wp2
    first | go_end0 | ((try simp only [Exit.inBlock, Exit.then]); refine bodyPost_ret (results_none rfl _ _ _) rfl ?_)
    exact ⟨by first | rfl | (simp [errW_none, errW_some] <;> rfl) | (simp [*, errW_none, errW_some] <;> rfl), (by first | exact (by (with_reducible repeat (first | apply Kd.R_alloc | apply Kd.R_drewN | apply Kd.R_drew)); exact HO_0.out) | (simp only [hl0_1]; exact (by (with_reducible repeat (first | apply Kd.R_alloc | apply Kd.R_drewN | apply Kd.R_drew)); exact HO_0.out))), by repeat (first | (with_reducible first | exact HB.out | apply below_alloc | apply pw_below_drewN | apply below_drew1) | exact HB.out), by repeat (first | (with_reducible first | exact HK.out | apply Kept.alloc | apply Kept.drewN | apply Kept.drew) | exact HK.out)⟩
end Go.Proofs.Ytmlhnjonmjmhdaa.H
/- slices.Reverse answers -/
namespace Go.Proofs.Ytmlhnjonmjmhdaa.H
open Go.RowKit Go.Proofs.YtmlhnjonmjmhdaaW.PrintWords
theorem rev_fin {n : Nat} {l x : List Int} (hl : l.length = n) (hx : x.length = n) (i : Nat) (hj : ∀ j, j < n → x[j]? = if j < i ∨ n ≤ j + i then l[n - 1 - j]? else l[j]?) (hi : n ≤ i + i + 1) : x = l.reverse := by
  apply List.ext_getElem?
  intro j
  by_cases c : j < n
  · rw [hj j c, List.getElem?_reverse (by omega), hl]
    split
    · rfl
    · rw [show n - 1 - j = j by omega]
  · rw [List.getElem?_eq_none (by omega), List.getElem?_eq_none (by rw [List.length_reverse]; omega)]
theorem Rev_l0 {n : Nat} (hn : n ≤ 10000000) (l : List Int) (hl : l.length = n) : ∀ (m i : Nat) (x : List Int), x.length = n → n ≤ i + i + m → i ≤ n → (∀ j, j < n → x[j]? = if j < i ∨ n ≤ j + i then l[n - 1 - j]? else l[j]?) → Ev (fun k => slices_Reverse_int_int.l0 k x (i : Int) ((n : Int) - 1 - i)) l.reverse
  | 0, i, x, hx, h, hi, hj => by
    refine Ev.step (fun k => by rw [slices_Reverse_int_int.l0]) ?_
    refine Ev.neg (by omega) (Ev.some ?_)
    exact rev_fin hl hx i hj (by omega)
  | m + 1, i, x, hx, h, hi, hj => by
    by_cases hc : (i : Int) < (n : Int) - 1 - i
    · have e1 : wrap64 ((i : Int) + 1) = ((i + 1 : Nat) : Int) := wrap_up (by omega)
      have e2 : wrap64 ((n : Int) - 1 - i - 1) = (n : Int) - 1 - ((i + 1 : Nat) : Int) := by unfold wrap64; omega
      have e3 : ((n : Int) - 1 - i).toNat = n - 1 - i := by clear e1 e2; omega
      have hin : i < n := by clear e1 e2; omega
      have hin2 : n - 1 - i < n := by clear e1 e2; omega
      have r1 : rd x (i : Int) = l[i]'(by rw [hl]; exact hin) := by
        refine getD_at (n := i) ?_ _
        rw [hj i hin, if_neg (by clear e1 e2; omega)]
        exact List.getElem?_eq_getElem _
      have r2 : rd x ((n : Int) - 1 - i) = l[n - 1 - i]'(by rw [hl]; exact hin2) := by
        have : (n : Int) - 1 - i = ((n - 1 - i : Nat) : Int) := by clear e1 e2; omega
        rw [this]
        refine getD_at (n := n - 1 - i) ?_ _
        rw [hj _ hin2, if_neg (by clear e1 e2; omega)]
        exact List.getElem?_eq_getElem _
      have next := Rev_l0 hn l hl m (i + 1) ((x.set ((i : Int)).toNat (rd x ((n : Int) - 1 - i))).set ((n : Int) - 1 - i).toNat (rd x (i : Int))) (by simp [hx]) (by clear e1 e2; omega) (by clear e1 e2; omega) (by
        intro j hjn
        rw [r1, r2, e3, Int.toNat_natCast, List.getElem?_set, List.getElem?_set, List.length_set, hx]
        by_cases c1 : n - 1 - i = j
        · rw [if_pos c1, if_pos (by clear e1 e2; omega), if_pos (by clear e1 e2; omega), show n - 1 - j = i by clear e1 e2; omega]
          exact (List.getElem?_eq_getElem _).symm
        · rw [if_neg c1]
          by_cases c2 : i = j
          · rw [if_pos c2, if_pos (by clear e1 e2; omega), if_pos (by clear e1 e2; omega), ← c2]
            exact (List.getElem?_eq_getElem _).symm
          · rw [if_neg c2, hj j hjn]
            by_cases c3 : j < i ∨ n ≤ j + i
            · rw [if_pos c3, if_pos (by clear e1 e2; omega)]
            · rw [if_neg c3, if_neg (by clear e1 e2; omega)])
      refine Ev.step (fun k => by rw [slices_Reverse_int_int.l0]) ?_
      refine Ev.pos hc (Ev.pos ?_ (Ev.pos ?_ (Ev.pos ?_ (Ev.pos ?_ ?_))))
      · clear e1 e2; omega
      · clear e1 e2; rw [hx]; omega
      · clear e1 e2; omega
      · clear e1 e2; rw [hx]; omega
      · rw [e1, e2]; exact next
    · refine Ev.step (fun k => by rw [slices_Reverse_int_int.l0]) ?_
      exact Ev.neg hc (Ev.some (rev_fin hl hx i hj (by omega)))
theorem Rev_eq (l : List Int) (hl : l.length ≤ 10000000) : Ev (fun k => slices_Reverse_int_int.f k l) l.reverse := by
  unfold slices_Reverse_int_int.f
  have e : wrap64 ((l.length : Int) - 1) = (l.length : Int) - 1 - ((0 : Nat) : Int) := by unfold wrap64; omega
  rw [e]
  exact Rev_l0 hl l rfl l.length 0 l rfl (by omega) (by omega) (fun j hj => by rw [if_neg (by clear e; omega)])
theorem Rev_ex (l : List Int) (hl : l.length ≤ 10000000) : ∃ r, Ev (fun k => slices_Reverse_int_int.f k l) r ∧ r.length = l.length :=
  ⟨_, Rev_eq l hl, List.length_reverse⟩
end Go.Proofs.Ytmlhnjonmjmhdaa.H
/- graph.reached -/
namespace Go.Proofs.Ytmlhnjonmjmhdaa.H
open Go.RowKit Go.Shelf Go.Proofs.YtmlhnjonmjmhdaaW.PrintWords Go.Proofs.YtmlhnjonmjmhdaaW.PrintLast Go.Proofs.YtmlhnjonmjmhdaaW.PrintMore
theorem infoI : (Try.prog.info? 3).map (fun i => (i.zero, i.size, i.bytes)) = some (some (.int .i64 0), 1, 8) := by kernel_rfl
theorem infoB : (Try.prog.info? 4).map (fun i => (i.zero, i.size, i.bytes)) = some (some (.bool false), 1, 1) := by kernel_rfl
/-- the two boxes and their rows: seen, todo -/
structure RS (w : World) (N : Nat) (W : World) (S : List Bool) (T : List Int) (v5 v6 : Value) : Prop where
  bel : Below w.heap.size w W
  hN : w.heap.size ≤ N
  b5 : W.heap[N]? = some (.cells #[v5] 40 (0, 0))
  b6 : W.heap[N + 1]? = some (.cells #[v6] 35 (0, 0))
  r5 : Kd.R Kd.bool 4 W w.heap.size (fun _ => True) v5 S
  r6 : Kd.R (Kd.int .i64) 3 W w.heap.size (fun _ => True) v6 T
theorem RS.below {w W W' : World} {N : Nat} {S : List Bool} {T : List Int} {v5 v6 : Value} (h : RS w N W S T v5 v6) (hb : Below W.heap.size W W') : RS w N W' S T v5 v6 :=
  ⟨Below.trans h.bel (Below.mono hb h.bel.size), h.hN, blk_below h.b5 hb, blk_below h.b6 hb, Kd.R_below h.r5 hb, Kd.R_below h.r6 hb⟩
set_option maxRecDepth 100000 in
set_option maxHeartbeats 4000000 in
theorem markC (w W : World) (N : Nat) (S : List Bool) (T : List Int) (v5 v6 : Value) (x : Int) (h : RS w N W S T v5 v6) (h0 : 0 ≤ x) (h1 : x < (S.length : Int)) (hT : T.length ≤ 1000000) :
    Calls Try.prog 62 #[.int .i64 x, .pointer (some ⟨N, 0, none⟩), .pointer (some ⟨N + 1, 0, none⟩)] W fun e w' => e = .returned (.tuple #[]) ∧ ∃ u5 u6, RS w N w' (mkS S T x).1 (mkS S T x).2 u5 u6 := by
  have HS := Aside0.mk h
  obtain ⟨b, cap, rfl, hbb, hbl, cells0, hcells0⟩ := Kd.R_form h.r5 (by omega)
  obtain ⟨hc1, hc2⟩ := Kd.R_cell false h.r5 x h0 h1
  have ha : rdOf false S x = S.getD x.toNat false := rfl
  have q5 := (blk_cell h.b5 0).trans rfl
  have hNw := h.hN
  have q6 := (blk_cell h.b6 0).trans rfl
  have hx0 : 0 ≤ x := h0
  cases hs : S.getD x.toNat false with
  | true =>
    have e : mkS S T x = (S, T) := by unfold mkS; rw [if_pos hs]
    have HE := Aside0.mk e
    rw [ha, hs] at hc1
    replace hc1 : W.cell? ⟨b, x.toNat, none⟩ = some (.bool true) := hc1
    clear h e ha hs hcells0
    go_enter Try.func62, Try.ntmps62
    go_wp2
    go_end0
    exact ⟨rfl, by rw [HE.out]; exact ⟨_, _, HS.out⟩⟩
  | false =>
    have e : mkS S T x = (S.set x.toNat true, T ++ [x]) := by unfold mkS; rw [if_neg (by rw [hs]; decide)]
    have HE := Aside0.mk e
    rw [ha, hs] at hc1
    replace hc1 : W.cell? ⟨b, x.toNat, none⟩ = some (.bool false) := hc1
    have n5 : ¬ b = N := fun e => blk_ne hcells0 h.b5 (by decide) e
    have n6 : ¬ b = N + 1 := fun e => blk_ne hcells0 h.b6 (by decide) e
    have hp := Kd.R_putg h.r5 x true
    have H1 : Aside0 (RS w N (W.setCell ⟨b, x.toNat, none⟩ (.bool true)) (S.set x.toNat true) T (.slice (some ⟨b, 0, none⟩) S.length cap) v6) := ⟨⟨below_set h.bel hbb, h.hN, blk_far h.b5 (Ne.symm n5) _, blk_far h.b6 (Ne.symm n6) _, hp.1, Kd.R_over h.r6 h.r5 (by decide) hp.2⟩⟩
    have q6' := (blk_cell H1.out.b6 0).trans rfl
    clear h e ha hs hcells0 hp
    go_enter Try.func62, Try.ntmps62
    go_wp2_with (at_builtin; go_must (refine Kd.R_append (Kd.int .i64) (w0 := w) w.heap.size rfl (.tmp 12) (.tmp 14) 35 3 _ 8 rfl Try.underlying35 infoI rfl (by decide) (by omega) v6 T x [.int .i64 x] (fun _ => True) (fun _ => False) (by go_simp) (by go_simp) rfl (fun _ h => h.elim) (fun _ _ => trivial) H1.out.r6 H1.out.bel H1.out.bel.size (by omega) ?_); intro v1 w1 hr1 hb1 hg1 hat1; have Q6 := Aside0.mk (blk_grown H1.out.b6 hg1 (Kd.R_ne H1.out.r6 H1.out.b6 (by decide))); have Q5 := Aside0.mk (blk_grown H1.out.b5 hg1 (Kd.R_ne H1.out.r6 H1.out.b5 (by decide))); have R5 := Aside0.mk (Kd.R_over H1.out.r5 H1.out.r6 (by decide) hg1); have HR1 := Aside0.mk hr1; have HB1 := Aside0.mk hb1; obtain ⟨Ax, cx, rfl⟩ := Kd.R_slice hr1; have q6'' := (blk_cell Q6.out 0).trans rfl; have f6'' := blk_frozen Q6.out 0; clear hr1 hb1 hg1 hat1)
    have hr6 := Kd.R_set HR1.out Q6.out (by decide) 0 (.slice Ax (T.length + 1) cx)
    rw [List.length_append, List.length_singleton] at hr6
    go_end0
    exact ⟨rfl, by rw [HE.out]; exact ⟨_, _, ⟨below_set HB1.out (by omega), hNw, blk_far Q5.out (by simp) _, blk_put Q6.out 0 _ rfl, Kd.R_set R5.out Q6.out (by decide) 0 _, hr6⟩⟩⟩
def graph_reached.f (l : List (List Int)) (a : Int) : Option (List Bool) := if okR l ∧ 0 ≤ a ∧ a < (l.length : Int) then some (reachL l a.toNat) else none
set_option maxRecDepth 100000 in
set_option maxHeartbeats 4000000 in
theorem graph_reached.calls (A0 : Option Addr) (c0 : Nat) (l0 : List (List Int)) (a1 : Int) (r : List Bool) (w : World) (hr0 : Kd.C (Kd.slice 3 (Kd.int .i64)) w A0 l0.length l0) (hc0 : l0.length ≤ c0) (h : graph_reached.f l0 a1 = some r) :
    Calls Try.prog 46 #[.slice A0 l0.length c0, .int .i64 a1] w fun e w' => ∃ v0_ : Value, e = .returned v0_ ∧ Kd.R Kd.bool 4 w' w.heap.size (fun _ => True) v0_ r ∧ Below w.heap.size w w' := by
  unfold graph_reached.f at h
  split at h
  case isFalse => cases h
  rename_i hc
  obtain ⟨⟨hlen, hrow⟩, ha0, ha1⟩ := hc
  cases h
  have HR := Aside0.mk hr0
  have HROW := Aside0.mk hrow
  have hnp : 0 < l0.length := by omega
  clear hr0 hrow
  go_enter Try.func46, Try.ntmps46
  go_wp2_with (first
    | ((with_reducible refine gate_dst (N := 13) rfl ?_); refine Kd.R_make Kd.bool (w0 := w) w.heap.size 4 rfl (N := 13) rfl 40 _ _ rfl (l0.length : Int) rfl rfl Try.underlying40 (.bool false) 1 infoB rfl (by decide) (by omega) false (ok := fun _ => True) (okp := fun _ => True) rfl (fun _ hk => hk) trivial (by omega) (by omega) (Below.refl _ _) (Nat.le_refl _) ?_; intro v1 w1 hr1 hb1 hg1 hn1; rw [Int.toNat_natCast] at hr1; have R1 := Aside0.mk hr1; have B1 := Aside0.mk hb1; obtain ⟨Av, cv, rfl⟩ := Kd.R_slice hr1; rw [List.length_replicate] at R1; clear hr1 hb1 hg1 hn1)
    | (go_at_call 62; have hs1 : ∀ o, (w1.alloc o).heap.size = w1.heap.size + 1 := (by intro o; simp); have RS0 : RS w w1.heap.size ((w1.alloc (.cells #[.slice Av l0.length cv] 40)).alloc (.cells #[.slice none 0 0] 35)) (List.replicate l0.length false) [] (.slice Av l0.length cv) (.slice none 0 0) := ⟨below_alloc (below_alloc B1.out _) _, B1.out.size, blk_alloc (blk_new w1 _) _, (hs1 (.cells #[.slice Av l0.length cv] 40)) ▸ blk_new (w1.alloc (.cells #[.slice Av l0.length cv] 40)) _, Kd.R_alloc (Kd.R_alloc R1.out _) _, Kd.R_nil _ _ _ _ _⟩; go_must (refine (markC w _ w1.heap.size (List.replicate l0.length false) [] _ _ a1 RS0 ha0 (by rw [List.length_replicate]; exact ha1) (by simp)).mono ?_); rintro e w2 ⟨rfl, u5, u6, hS⟩; have HS := Aside0.mk hS; have HI := Aside0.mk (RI.first ha0 ha1); clear RS0 hS hs1)
    )
  obtain ⟨N, hN⟩ : ∃ N, N = w1.heap.size := ⟨_, rfl⟩
  rw [← hN] at HS
  rw [← hN]
  clear hN R1 B1
  go_loopg [] (l0.length + 1) (fun gg wr => ∃ (S : List Bool) (T : List Int) (v5 v6 : Value), Aside0 (RS w N wr S T v5 v6) ∧ Aside0 (RI l0 a1.toNat S T (fun _ => False)) ∧ T.length + S.count false ≤ gg)
  case atStart => exact ⟨_, _, _, _, HS, HI, Nat.le_succ_of_le HI.out.few⟩
  case round =>
    clear HS HI
    obtain ⟨S, T, v5, v6, HS, HI, hgg⟩ := hrel
    rcases List.eq_nil_or_concat T with rfl | ⟨T, x, rfl⟩
    · obtain ⟨A, cc, rfl⟩ := Kd.R_slice HS.out.r6
      have q6 := (blk_cell HS.out.b6 0).trans rfl
      have q5 := (blk_cell HS.out.b5 0).trans rfl
      have HE := Aside0.mk ((RI.fin HI.out).trans (reachL_eq ⟨hlen, HROW.out⟩ (by omega)).symm)
      go_wp2
      go_ret
      exact ⟨_, rfl, HE.out ▸ HS.out.r5, HS.out.bel⟩
    · rw [List.concat_eq_append] at HS HI hgg
      have ht := HI.out.tin x (List.mem_append_right _ (List.mem_singleton.2 rfl))
      have hT := HI.out.few
      rw [List.length_append, List.length_singleton] at hT hgg
      obtain ⟨b, cap, rfl, hbb, hbl, cells0, hcells0⟩ := Kd.R_form HS.out.r6 (by simp)
      have e6 : (T ++ [x]).length = T.length + 1 := by simp
      have q6 := (blk_cell HS.out.b6 0).trans rfl
      have f6 := blk_frozen HS.out.b6 0
      have hx := (Kd.at_int (Kd.R_reads' HS.out.r6).2.2 (T.length : Int) (by omega) (by rw [e6]; omega))
      obtain ⟨ad, had, hx⟩ := hx
      cases had
      have erd : rd (T ++ [x]) (T.length : Int) = x := by simp [rd]
      rw [erd, Int.toNat_natCast] at hx
      simp only [add_plain, Nat.zero_add] at hx
      have hcap := (Kd.R_reads' HS.out.r6).2.1
      rw [e6] at q6 hcap
      have htk := Kd.R_take HS.out.r6 (m := T.length) (by simp)
      rw [List.take_left] at htk
      have HS3 : Aside0 (RS w N (wr.setCell ⟨N + 1, 0, none⟩ (.slice (some ⟨b, 0, none⟩) T.length cap)) S T v5 (.slice (some ⟨b, 0, none⟩) T.length cap)) := ⟨⟨below_set HS.out.bel (by have := HS.out.hN; omega), HS.out.hN, blk_far HS.out.b5 (by simp) _, blk_put HS.out.b6 0 _ rfl, Kd.R_set HS.out.r5 HS.out.b6 (by decide) 0 _, Kd.R_set htk HS.out.b6 (by decide) 0 _⟩⟩
      have HI3 := Aside0.mk (RI.pop HI.out)
      have hx0 := ht.1
      have hx1 := ht.2.1
      obtain ⟨ad, cs, rfl, -, ⟨A', c', rfl, hc', hrow⟩, hcell⟩ := Kd.C_get HR.out [] x hx0 hx1
      obtain ⟨row, hrowe⟩ : ∃ row, row = l0.getD x.toNat [] := ⟨_, rfl⟩
      rw [← hrowe] at hrow hc' hcell
      have HROWX := Aside0.mk hrowe
      have hcell0 := hcell 0 _ rfl
      have HRX := Aside0.mk hrow
      have hrl := hrow.2.1
      have hcx := Below.old HS3.out.bel hcell0
      simp only [Kd.slice, Nat.mul_one, Nat.add_zero] at hcx
      replace ht := ht.2.2
      clear hrow hcell hcell0 htk HS erd hrowe hcells0 HI e6
      have hfew := HI3.out.few
      obtain ⟨C, hC⟩ : ∃ C, C = T.length + S.count false := ⟨_, rfl⟩
      have hCg : C + 1 ≤ gk := by omega
      have hCl : C ≤ 1000000 := by omega
      have hxs := HI3.out.sound
      have hRx : Aside0 (Rch l0 a1.toNat x.toNat) := ⟨hxs _ ht⟩
      clear hfew hxs ht hgg
      go_wp2
      go_loopg [10, 37] row.length (fun gg _ s37 wr2 => ∃ (k : Nat) (S' : List Bool) (T' : List Int) (v5 v6 : Value), k ≤ row.length ∧ row.length - k ≤ gg ∧ s37 = .int .i64 k ∧ Aside0 (RS w N wr2 S' T' v5 v6) ∧ Aside0 (RI l0 a1.toNat S' T' (fun i => i = x.toNat)) ∧ Aside0 (T'.length + S'.count false = C) ∧ Aside0 (∀ y ∈ row.take k, S'.getD y.toNat false = true))
      case atStart => exact ⟨0, S, T, _, _, Nat.zero_le _, by omega, rfl, HS3, HI3, ⟨hC.symm⟩, ⟨fun y hy => by simp at hy⟩⟩
      case round =>
        clear HS3 HI3 hC
        obtain ⟨k, S', T', v5', v6', hk, hgg, rfl, HS, HI, HC, HY⟩ := hrel
        by_cases hlt : k < row.length
        · have hltz : (k : Int) < (row.length : Int) := by omega
          have hk0 : (0 : Int) ≤ (k : Int) := by omega
          obtain ⟨y, hy⟩ := at_some hlt
          have hym : y ∈ row := List.mem_of_getElem? hy
          have hrl0 : row ∈ l0 := by
            rw [HROWX.out, List.getD_eq_getElem?_getD] at hym ⊢
            cases he : l0[x.toNat]? with
            | none => rw [he] at hym; simp at hym
            | some r => exact List.mem_of_getElem? he
          have hyb := HROW.out row hrl0 y hym
          obtain ⟨ay, hay, hyc⟩ := Kd.at_int (Kd.C_below HRX.out HS.out.bel) (k : Int) hk0 hltz
          cases hay
          have erd : rd row (k : Int) = y := by simp [rd, hy]
          rw [erd, Int.toNat_natCast] at hyc
          have hy0 := hyb.1
          have hy1 : y < (S'.length : Int) := by rw [HI.out.len]; exact hyb.2
          have hT' : T'.length ≤ 1000000 := by have := HC.out; omega
          have hRy : Aside0 (Rch l0 a1.toNat y.toNat) := ⟨.step hRx.out (HROWX.out ▸ hym)⟩
          have HYB := Aside0.mk hyb
          have HY0 := Aside0.mk hy
          clear erd hyb hym hrl0 hy
          go_wp2_with (go_at_call 62; go_must (refine (markC w _ N S' T' v5' v6' y HS.out hy0 hy1 hT').mono ?_); rintro e w3 ⟨rfl, u5_, u6_, hS⟩; have HS2 := Aside0.mk hS; clear hS)
          go_roundg (row.length - (k + 1))
          case measure => omega
          case rel =>
            refine ⟨k + 1, _, _, _, _, by omega, by omega, by go_num, HS2, ⟨HI.out.mark HYB.out.1 HYB.out.2 hRy.out⟩, ⟨(mkS_count (by omega)).trans HC.out⟩, ⟨fun z hz => ?_⟩⟩
            rw [List.take_add_one, HY0.out] at hz
            rcases List.mem_append.1 hz with hz | hz
            · exact mkS_mono (HY.out z hz)
            · have : z = y := by simpa using hz
              rw [this]
              exact mkS_self (by omega)
        · have hltz : ¬ (k : Int) < (row.length : Int) := by omega
          obtain rfl : k = row.length := by omega
          have HD : Aside0 (RI l0 a1.toNat S' T' (fun _ => False)) := ⟨HI.out.done (fun y hy => HY.out y (by rw [List.take_length]; exact HROWX.out ▸ hy))⟩
          go_wp2
          go_roundg C
          case measure => omega
          case rel => exact ⟨S', T', _, _, HS, HD, Nat.le_of_eq HC.out⟩
end Go.Proofs.Ytmlhnjonmjmhdaa.H
/- graph.Parts' closure: is a node ready -/
namespace Go.Proofs.Ytmlhnjonmjmhdaa.H
open Go.RowKit Go.Shelf Go.Proofs.YtmlhnjonmjmhdaaW.PrintWords Go.Proofs.YtmlhnjonmjmhdaaW.PrintLast Go.Proofs.YtmlhnjonmjmhdaaW.PrintMore
theorem bool_at {W : World} {A : Option Addr} {l : List Bool} {m : Nat} (h : Kd.C Kd.bool W A m l) (y : Nat) (hy : y < l.length) : ∃ ad, A = some ad ∧ W.cell? (ad.add y) = some (.bool (l.getD y false)) := by
  have hm : l.length = m := h.1
  obtain ⟨ad, e, hc⟩ := Kd.at_bool h (y : Int) (by omega) (by omega)
  exact ⟨ad, e, hc⟩
theorem R_celln' {W : World} {base g n cap : Nat} {ok : Nat → Prop} {e : Nat} {xs : List Bool} (h : Kd.R Kd.bool e W base ok (.slice (some ⟨g, 0, none⟩) n cap) xs) (i : Nat) (hi : i < xs.length) : W.cell? ⟨g, i, none⟩ = some (.bool (xs.getD i false)) ∧ W.frozen? ⟨g, i, none⟩ = false := by
  have := (Kd.R_reads' h).1
  exact Kd.R_celln false h (i : Int) (by omega) (by omega)
theorem tab_row {W : World} {A : Option Addr} {tt : List (List Bool)} {m n : Nat} (h : Kd.C (Kd.slice 4 Kd.bool) W A m tt) (x : Nat) (hx : x < tt.length) (hl : (tt.getD x []).length = n) :
    ∃ ad Ax cx, A = some ad ∧ W.cell? (ad.add x) = some (.slice Ax n cx) ∧ ∀ y, y < n → ∃ ax, Ax = some ax ∧ W.cell? (ax.add y) = some (.bool (tb tt x y)) := by
  have hm : tt.length = m := h.1
  obtain ⟨ad, c, e, _, ⟨Ax, cx, hk, hcx, hrow⟩, hc⟩ := Kd.C_get h [] (x : Int) (by omega) (by omega)
  subst hk
  rw [Int.toNat_natCast] at hrow hc
  have h0 := hc 0 _ rfl
  rw [hl] at h0
  refine ⟨ad, Ax, cx, e, by simpa [Kd.slice] using h0, fun y hy => bool_at hrow y (by omega)⟩
set_option maxRecDepth 100000 in
set_option maxHeartbeats 4000000 in
theorem readyC (W : World) (gN gT gD : Nat) (n x : Nat) (A Ad : Option Addr) (c cd : Nat) (tt : List (List Bool)) (done : List Bool) (hn : W.cell? ⟨gN, 0, none⟩ = some (.int .i64 n)) (hT : W.cell? ⟨gT, 0, none⟩ = some (.slice A n c)) (hD : W.cell? ⟨gD, 0, none⟩ = some (.slice Ad n cd))
    (hto : Kd.C (Kd.slice 4 Kd.bool) W A n tt) (hdo : Kd.C Kd.bool W Ad n done) (hrow : ∀ y, y < n → (tt.getD y []).length = n) (hx : x < n) :
    Calls Try.prog 47 #[.int .i64 x, .pointer (some ⟨gN, 0, none⟩), .pointer (some ⟨gT, 0, none⟩), .pointer (some ⟨gD, 0, none⟩)] W fun e w' => e = .returned (.bool (readyB tt done n x)) ∧ W = w' := by
  have HTO := Aside0.mk hto
  have HDO := Aside0.mk hdo
  have HROW := Aside0.mk hrow
  have htl : tt.length = n := hto.1
  have hdl : done.length = n := hdo.1
  have hnl : n ≤ 9223372036854775807 := hto.2.1
  have hxz : (x : Int) < (n : Int) := by omega
  have hx0 : (0 : Int) ≤ (x : Int) := by omega
  clear hto hdo hrow
  obtain ⟨ad, Ax, cx, rfl, hcx, hbx⟩ := tab_row HTO.out x (by omega) (HROW.out x hx)
  obtain ⟨aD, eD, hdx⟩ := bool_at HDO.out x (by omega)
  cases eD
  have HBX := Aside0.mk hbx
  clear hbx
  go_enter Try.func47, Try.ntmps47
  go_wp2
  go_loopg [6, 8] n (fun gg _ s8 wr => ∃ k : Nat, k ≤ n ∧ n - k ≤ gg ∧ s8 = .int .i64 k ∧ W = wr ∧ Aside0 (∀ y, y < k → holdsB tt done x y = false))
  case atStart => exact ⟨0, Nat.zero_le _, by omega, rfl, rfl, ⟨fun y hy => by omega⟩⟩
  case round =>
    obtain ⟨k, hk, hgg, rfl, rfl, HK⟩ := hrel
    by_cases hlt : k < n
    · have hltz : (k : Int) < (n : Int) := by omega
      have hk0 : (0 : Int) ≤ (k : Int) := by omega
      obtain ⟨ax, eX, hxy⟩ := HBX.out k hlt
      cases eX
      obtain ⟨ad', Ay, cy, eA, hcy, hby⟩ := tab_row HTO.out k (by omega) (HROW.out k hlt)
      cases eA
      obtain ⟨ay, eY, hyx⟩ := hby x hx
      cases eY
      obtain ⟨aD', eD', hdk⟩ := bool_at HDO.out k (by omega)
      cases eD'
      clear hby
      have next : holdsB tt done x k = false → ∀ y, y < k + 1 → holdsB tt done x y = false := fun h y hy => by
        by_cases e : y = k
        · rw [e]; exact h
        · exact HK.out y (by omega)
      have HN := Aside0.mk next
      have HNO := Aside0.mk (readyB_no (tt := tt) (done := done) (x := x) hlt)
      have hv : holdsB tt done x k = (tb tt x k && !tb tt k x && !done.getD k false) := rfl
      clear next
      cases h1 : tb tt x k with
      | false =>
        rw [h1] at hxy hv
        have HV := Aside0.mk hv
        clear hv
        go_wp2
        go_roundg (n - (k + 1))
        case measure => omega
        case rel => exact ⟨k + 1, by omega, by omega, by go_num, rfl, ⟨HN.out (by rw [HV.out]; rfl)⟩⟩
      | true =>
        rw [h1] at hxy hv
        cases h2 : tb tt k x with
        | true =>
          rw [h2] at hyx hv
          have HV := Aside0.mk hv
          clear hv
          go_wp2
          go_roundg (n - (k + 1))
          case measure => omega
          case rel => exact ⟨k + 1, by omega, by omega, by go_num, rfl, ⟨HN.out (by rw [HV.out]; rfl)⟩⟩
        | false =>
          rw [h2] at hyx hv
          cases h3 : done.getD k false with
          | true =>
            rw [h3] at hdk hv
            have HV := Aside0.mk hv
            clear hv
            go_wp2
            go_roundg (n - (k + 1))
            case measure => omega
            case rel => exact ⟨k + 1, by omega, by omega, by go_num, rfl, ⟨HN.out (by rw [HV.out]; rfl)⟩⟩
          | false =>
            rw [h3] at hdk hv
            have HV := Aside0.mk hv
            clear hv
            go_wp2
            go_ret
            exact ⟨by rw [HNO.out (by rw [HV.out]; rfl)]; rfl, rfl⟩
    · have hltz : ¬ (k : Int) < (n : Int) := by omega
      obtain rfl : k = n := by omega
      have HE := Aside0.mk (readyB_all HK.out)
      go_wp2
      go_ret
      exact ⟨by rw [HE.out, List.getD_eq_getElem?_getD, List.getElem?_eq_getElem (by omega)]; rfl, rfl⟩
end Go.Proofs.Ytmlhnjonmjmhdaa.H
namespace Go.Proofs.Ytmlhnjonmjmhdaa.H
open Go.RowKit Go.Proofs.YtmlhnjonmjmhdaaW.PrintWords Go.Proofs.YtmlhnjonmjmhdaaW.PrintLast Go.Proofs.YtmlhnjonmjmhdaaW.PrintMore
abbrev tt : Bool := true
abbrev ff : Bool := false
/-- a table of bools, told as a number -/
def bls : Nat → Nat → List Bool
  | 0, _ => []
  | n + 1, b => (b % 2 == 1) :: bls n (b / 2)
def bl (n b : Nat) : Array Bool := ⟨bls n b⟩
theorem sA {α : Type _} (l : List α) (i : Nat) (a : α) : l.toArray.setIfInBounds i a = (l.set i a).toArray := List.setIfInBounds_toArray ..
theorem sZ {α : Type _} {xs : List α} {a b : α} : (a :: xs).set 0 b = b :: xs := List.set_cons_zero
theorem sS {α : Type _} {xs : List α} {n : Nat} {a b : α} : (a :: xs).set (n + 1) b = a :: xs.set n b := List.set_cons_succ
theorem am {p : Prop} (h : p) : Aside0 p := Aside0.mk h
abbrev Va := @Kd.V_alloc
abbrev Vn := @Kd.V_drewN
abbrev Vd := @Kd.V_drew
abbrev Ra := @Kd.R_alloc
abbrev Rn := @Kd.R_drewN
abbrev Rd := @Kd.R_drew
abbrev bN := @blk_drewN
abbrev bD := @blk_drew
abbrev bA := @blk_alloc
abbrev lA := @below_alloc
abbrev lN := @pw_below_drewN
abbrev lD := @below_drew1
abbrev lS := @below_set
theorem pL {w W0 W : World} (h : Below w.heap.size w W0) (hq : Below w.heap.size w W0 → Below w.heap.size w W := by
  intro h_; repeat (first | (with_reducible first | exact h_ | apply lA | apply lN | apply lD | refine lS ?_ (Aside0.out (by with_reducible assumption))) | exact h_)) : Below w.heap.size w W := hq h
theorem pF {p q : Prop} (h : p) (hq : p → q := by
  intro h_; repeat (first | (with_reducible first | exact h_ | refine bN ?_ _ | refine bD ?_ | refine bA ?_ _) | refine blk_far ?_ (Aside0.out (by first | (with_reducible assumption) | assumption)) _ | exact h_)) : q := hq h
theorem pB {p q : Prop} (h : p) (hq : p → q := by intro h_; (with_reducible repeat (first | refine bN ?_ _ | refine bD ?_ | refine bA ?_ _)); exact h_) : q := hq h
theorem pR {p q : Prop} (h : p) (hq : p → q := by intro h_; (with_reducible repeat (first | apply Ra | apply Rn | apply Rd)); exact h_) : q := hq h
theorem pV {p q : Prop} (h : p) (hq : p → q := by intro h_; (with_reducible repeat (first | apply Va | apply Vn | apply Vd)); exact h_) : q := hq h
theorem nb_ {W : World} {g g2 : Nat} {o : Obj} {p : Prop} (hg : g2 = W.heap.size) (h : p) (hq : p → W.heap[g]? = some o := by intro h_; (with_reducible repeat (first | refine bN ?_ _ | refine bD ?_ | refine bA ?_ _)); exact h_) : g ≠ g2 := by
  rw [hg]; exact Nat.ne_of_lt (blk_lt (hq h))
theorem gw_ {w W0 W : World} {g : Nat} (hg : g = W.heap.size) (h : Below w.heap.size w W0) (hq : Below w.heap.size w W0 → Below w.heap.size w W := by
  intro h_; repeat (first | (with_reducible first | exact h_ | apply lA | apply lN | apply lD | refine lS ?_ (Aside0.out (by with_reducible assumption))) | exact h_)) : w.heap.size ≤ g := by rw [hg]; exact (hq h).size
theorem bs_ {w W0 W w2 : World} (h : Below w.heap.size w W0) (hb : Below W.heap.size W w2) (hq : Below w.heap.size w W0 → Below w.heap.size w W := by
  intro h_; repeat (first | (with_reducible first | exact h_ | apply lA | apply lN | apply lD | refine lS ?_ (Aside0.out (by with_reducible assumption))) | exact h_)) : Below w.heap.size w w2 := below_step (hq h) hb
theorem bb_ {W w1 : World} {g : Nat} {o : Obj} {p : Prop} (h : p) (hb : Below W.heap.size W w1) (hq : p → W.heap[g]? = some o := by intro h_; (with_reducible repeat (first | refine bN ?_ _ | refine bD ?_ | refine bA ?_ _)); exact h_) : w1.heap[g]? = some o := blk_below (hq h) hb
theorem Rb_ {α : Type} {d : Kd α} {e base : Nat} {W w1 : World} {ok : Nat → Prop} {v : Value} {xs : List α} {p : Prop} (h : p) (hb : Below W.heap.size W w1) (hq : p → d.R e W base ok v xs := by intro h_; (with_reducible repeat (first | apply Ra | apply Rn | apply Rd)); exact h_) : d.R e w1 base ok v xs := Kd.R_below (hq h) hb
theorem Rf {α : Type} {d : Kd α} {e base : Nat} {w : World} {ok : Nat → Prop} {v : Value} {xs : List α} {g i : Nat} {u : Value} (h : d.R e w base (fun k => ok k ∧ k ≠ g) v xs) : d.R e (w.setCell ⟨g, i, none⟩ u) base (fun k => ok k ∧ k ≠ g) v xs := Kd.R_far (p := ⟨g, i, none⟩) h (fun _ hk => hk.2) _
theorem bp {w : World} {g : Nat} {t : TypeId} {cs cs' : Array Value} (i : Nat) {u : Value} (h : w.heap[g]? = some (.cells cs t (0, 0))) (e : cs.setIfInBounds i u = cs' := by rfl) : (w.setCell ⟨g, i, none⟩ u).heap[g]? = some (.cells cs' t (0, 0)) := blk_put h i u e
theorem up_ {w w' : World} {a : Addr} {v : Value} (h : Below w.heap.size w w') (hx : w.cell? a = some v) : w'.cell? a = some v := (h.cell (World.block_lt_of_cell? w a hx)).trans hx
theorem dt_ {p : Prop} [Decidable p] (h : decide p = true := by first | (with_reducible assumption) | assumption) : p := of_decide_eq_true h
theorem rs_ {p : Prop} (h : p := by first | rfl | (simp; done) | (simp [*]; done)) : p := h
theorem bc1 {w : World} {g : Nat} {t : TypeId} {a0 : Value} (h : w.heap[g]? = some (.cells #[a0] t (0, 0))) : w.cell? ⟨g, 0, none⟩ = some a0 ∧ w.frozen? ⟨g, 0, none⟩ = false := ⟨blk_cell h 0, blk_frozen h 0⟩
theorem bc2 {w : World} {g : Nat} {t : TypeId} {a0 a1 : Value} (h : w.heap[g]? = some (.cells #[a0, a1] t (0, 0))) : w.cell? ⟨g, 0, none⟩ = some a0 ∧ w.cell? ⟨g, 1, none⟩ = some a1 ∧ w.frozen? ⟨g, 0, none⟩ = false ∧ w.frozen? ⟨g, 1, none⟩ = false := ⟨blk_cell h 0, blk_cell h 1, blk_frozen h 0, blk_frozen h 1⟩
theorem bc3 {w : World} {g : Nat} {t : TypeId} {a0 a1 a2 : Value} (h : w.heap[g]? = some (.cells #[a0, a1, a2] t (0, 0))) : w.cell? ⟨g, 0, none⟩ = some a0 ∧ w.cell? ⟨g, 1, none⟩ = some a1 ∧ w.cell? ⟨g, 2, none⟩ = some a2 ∧ w.frozen? ⟨g, 0, none⟩ = false ∧ w.frozen? ⟨g, 1, none⟩ = false ∧ w.frozen? ⟨g, 2, none⟩ = false := ⟨blk_cell h 0, blk_cell h 1, blk_cell h 2, blk_frozen h 0, blk_frozen h 1, blk_frozen h 2⟩
theorem bc4 {w : World} {g : Nat} {t : TypeId} {a0 a1 a2 a3 : Value} (h : w.heap[g]? = some (.cells #[a0, a1, a2, a3] t (0, 0))) : w.cell? ⟨g, 0, none⟩ = some a0 ∧ w.cell? ⟨g, 1, none⟩ = some a1 ∧ w.cell? ⟨g, 2, none⟩ = some a2 ∧ w.cell? ⟨g, 3, none⟩ = some a3 ∧ w.frozen? ⟨g, 0, none⟩ = false ∧ w.frozen? ⟨g, 1, none⟩ = false ∧ w.frozen? ⟨g, 2, none⟩ = false ∧ w.frozen? ⟨g, 3, none⟩ = false := ⟨blk_cell h 0, blk_cell h 1, blk_cell h 2, blk_cell h 3, blk_frozen h 0, blk_frozen h 1, blk_frozen h 2, blk_frozen h 3⟩
theorem bc5 {w : World} {g : Nat} {t : TypeId} {a0 a1 a2 a3 a4 : Value} (h : w.heap[g]? = some (.cells #[a0, a1, a2, a3, a4] t (0, 0))) : w.cell? ⟨g, 0, none⟩ = some a0 ∧ w.cell? ⟨g, 1, none⟩ = some a1 ∧ w.cell? ⟨g, 2, none⟩ = some a2 ∧ w.cell? ⟨g, 3, none⟩ = some a3 ∧ w.cell? ⟨g, 4, none⟩ = some a4 ∧ w.frozen? ⟨g, 0, none⟩ = false ∧ w.frozen? ⟨g, 1, none⟩ = false ∧ w.frozen? ⟨g, 2, none⟩ = false ∧ w.frozen? ⟨g, 3, none⟩ = false ∧ w.frozen? ⟨g, 4, none⟩ = false := ⟨blk_cell h 0, blk_cell h 1, blk_cell h 2, blk_cell h 3, blk_cell h 4, blk_frozen h 0, blk_frozen h 1, blk_frozen h 2, blk_frozen h 3, blk_frozen h 4⟩
theorem bc6 {w : World} {g : Nat} {t : TypeId} {a0 a1 a2 a3 a4 a5 : Value} (h : w.heap[g]? = some (.cells #[a0, a1, a2, a3, a4, a5] t (0, 0))) : w.cell? ⟨g, 0, none⟩ = some a0 ∧ w.cell? ⟨g, 1, none⟩ = some a1 ∧ w.cell? ⟨g, 2, none⟩ = some a2 ∧ w.cell? ⟨g, 3, none⟩ = some a3 ∧ w.cell? ⟨g, 4, none⟩ = some a4 ∧ w.cell? ⟨g, 5, none⟩ = some a5 ∧ w.frozen? ⟨g, 0, none⟩ = false ∧ w.frozen? ⟨g, 1, none⟩ = false ∧ w.frozen? ⟨g, 2, none⟩ = false ∧ w.frozen? ⟨g, 3, none⟩ = false ∧ w.frozen? ⟨g, 4, none⟩ = false ∧ w.frozen? ⟨g, 5, none⟩ = false := ⟨blk_cell h 0, blk_cell h 1, blk_cell h 2, blk_cell h 3, blk_cell h 4, blk_cell h 5, blk_frozen h 0, blk_frozen h 1, blk_frozen h 2, blk_frozen h 3, blk_frozen h 4, blk_frozen h 5⟩
theorem bc7 {w : World} {g : Nat} {t : TypeId} {a0 a1 a2 a3 a4 a5 a6 : Value} (h : w.heap[g]? = some (.cells #[a0, a1, a2, a3, a4, a5, a6] t (0, 0))) : w.cell? ⟨g, 0, none⟩ = some a0 ∧ w.cell? ⟨g, 1, none⟩ = some a1 ∧ w.cell? ⟨g, 2, none⟩ = some a2 ∧ w.cell? ⟨g, 3, none⟩ = some a3 ∧ w.cell? ⟨g, 4, none⟩ = some a4 ∧ w.cell? ⟨g, 5, none⟩ = some a5 ∧ w.cell? ⟨g, 6, none⟩ = some a6 ∧ w.frozen? ⟨g, 0, none⟩ = false ∧ w.frozen? ⟨g, 1, none⟩ = false ∧ w.frozen? ⟨g, 2, none⟩ = false ∧ w.frozen? ⟨g, 3, none⟩ = false ∧ w.frozen? ⟨g, 4, none⟩ = false ∧ w.frozen? ⟨g, 5, none⟩ = false ∧ w.frozen? ⟨g, 6, none⟩ = false := ⟨blk_cell h 0, blk_cell h 1, blk_cell h 2, blk_cell h 3, blk_cell h 4, blk_cell h 5, blk_cell h 6, blk_frozen h 0, blk_frozen h 1, blk_frozen h 2, blk_frozen h 3, blk_frozen h 4, blk_frozen h 5, blk_frozen h 6⟩
theorem bc8 {w : World} {g : Nat} {t : TypeId} {a0 a1 a2 a3 a4 a5 a6 a7 : Value} (h : w.heap[g]? = some (.cells #[a0, a1, a2, a3, a4, a5, a6, a7] t (0, 0))) : w.cell? ⟨g, 0, none⟩ = some a0 ∧ w.cell? ⟨g, 1, none⟩ = some a1 ∧ w.cell? ⟨g, 2, none⟩ = some a2 ∧ w.cell? ⟨g, 3, none⟩ = some a3 ∧ w.cell? ⟨g, 4, none⟩ = some a4 ∧ w.cell? ⟨g, 5, none⟩ = some a5 ∧ w.cell? ⟨g, 6, none⟩ = some a6 ∧ w.cell? ⟨g, 7, none⟩ = some a7 ∧ w.frozen? ⟨g, 0, none⟩ = false ∧ w.frozen? ⟨g, 1, none⟩ = false ∧ w.frozen? ⟨g, 2, none⟩ = false ∧ w.frozen? ⟨g, 3, none⟩ = false ∧ w.frozen? ⟨g, 4, none⟩ = false ∧ w.frozen? ⟨g, 5, none⟩ = false ∧ w.frozen? ⟨g, 6, none⟩ = false ∧ w.frozen? ⟨g, 7, none⟩ = false := ⟨blk_cell h 0, blk_cell h 1, blk_cell h 2, blk_cell h 3, blk_cell h 4, blk_cell h 5, blk_cell h 6, blk_cell h 7, blk_frozen h 0, blk_frozen h 1, blk_frozen h 2, blk_frozen h 3, blk_frozen h 4, blk_frozen h 5, blk_frozen h 6, blk_frozen h 7⟩
theorem bc9 {w : World} {g : Nat} {t : TypeId} {a0 a1 a2 a3 a4 a5 a6 a7 a8 : Value} (h : w.heap[g]? = some (.cells #[a0, a1, a2, a3, a4, a5, a6, a7, a8] t (0, 0))) : w.cell? ⟨g, 0, none⟩ = some a0 ∧ w.cell? ⟨g, 1, none⟩ = some a1 ∧ w.cell? ⟨g, 2, none⟩ = some a2 ∧ w.cell? ⟨g, 3, none⟩ = some a3 ∧ w.cell? ⟨g, 4, none⟩ = some a4 ∧ w.cell? ⟨g, 5, none⟩ = some a5 ∧ w.cell? ⟨g, 6, none⟩ = some a6 ∧ w.cell? ⟨g, 7, none⟩ = some a7 ∧ w.cell? ⟨g, 8, none⟩ = some a8 ∧ w.frozen? ⟨g, 0, none⟩ = false ∧ w.frozen? ⟨g, 1, none⟩ = false ∧ w.frozen? ⟨g, 2, none⟩ = false ∧ w.frozen? ⟨g, 3, none⟩ = false ∧ w.frozen? ⟨g, 4, none⟩ = false ∧ w.frozen? ⟨g, 5, none⟩ = false ∧ w.frozen? ⟨g, 6, none⟩ = false ∧ w.frozen? ⟨g, 7, none⟩ = false ∧ w.frozen? ⟨g, 8, none⟩ = false := ⟨blk_cell h 0, blk_cell h 1, blk_cell h 2, blk_cell h 3, blk_cell h 4, blk_cell h 5, blk_cell h 6, blk_cell h 7, blk_cell h 8, blk_frozen h 0, blk_frozen h 1, blk_frozen h 2, blk_frozen h 3, blk_frozen h 4, blk_frozen h 5, blk_frozen h 6, blk_frozen h 7, blk_frozen h 8⟩
theorem bc10 {w : World} {g : Nat} {t : TypeId} {a0 a1 a2 a3 a4 a5 a6 a7 a8 a9 : Value} (h : w.heap[g]? = some (.cells #[a0, a1, a2, a3, a4, a5, a6, a7, a8, a9] t (0, 0))) : w.cell? ⟨g, 0, none⟩ = some a0 ∧ w.cell? ⟨g, 1, none⟩ = some a1 ∧ w.cell? ⟨g, 2, none⟩ = some a2 ∧ w.cell? ⟨g, 3, none⟩ = some a3 ∧ w.cell? ⟨g, 4, none⟩ = some a4 ∧ w.cell? ⟨g, 5, none⟩ = some a5 ∧ w.cell? ⟨g, 6, none⟩ = some a6 ∧ w.cell? ⟨g, 7, none⟩ = some a7 ∧ w.cell? ⟨g, 8, none⟩ = some a8 ∧ w.cell? ⟨g, 9, none⟩ = some a9 ∧ w.frozen? ⟨g, 0, none⟩ = false ∧ w.frozen? ⟨g, 1, none⟩ = false ∧ w.frozen? ⟨g, 2, none⟩ = false ∧ w.frozen? ⟨g, 3, none⟩ = false ∧ w.frozen? ⟨g, 4, none⟩ = false ∧ w.frozen? ⟨g, 5, none⟩ = false ∧ w.frozen? ⟨g, 6, none⟩ = false ∧ w.frozen? ⟨g, 7, none⟩ = false ∧ w.frozen? ⟨g, 8, none⟩ = false ∧ w.frozen? ⟨g, 9, none⟩ = false := ⟨blk_cell h 0, blk_cell h 1, blk_cell h 2, blk_cell h 3, blk_cell h 4, blk_cell h 5, blk_cell h 6, blk_cell h 7, blk_cell h 8, blk_cell h 9, blk_frozen h 0, blk_frozen h 1, blk_frozen h 2, blk_frozen h 3, blk_frozen h 4, blk_frozen h 5, blk_frozen h 6, blk_frozen h 7, blk_frozen h 8, blk_frozen h 9⟩
theorem bc11 {w : World} {g : Nat} {t : TypeId} {a0 a1 a2 a3 a4 a5 a6 a7 a8 a9 a10 : Value} (h : w.heap[g]? = some (.cells #[a0, a1, a2, a3, a4, a5, a6, a7, a8, a9, a10] t (0, 0))) : w.cell? ⟨g, 0, none⟩ = some a0 ∧ w.cell? ⟨g, 1, none⟩ = some a1 ∧ w.cell? ⟨g, 2, none⟩ = some a2 ∧ w.cell? ⟨g, 3, none⟩ = some a3 ∧ w.cell? ⟨g, 4, none⟩ = some a4 ∧ w.cell? ⟨g, 5, none⟩ = some a5 ∧ w.cell? ⟨g, 6, none⟩ = some a6 ∧ w.cell? ⟨g, 7, none⟩ = some a7 ∧ w.cell? ⟨g, 8, none⟩ = some a8 ∧ w.cell? ⟨g, 9, none⟩ = some a9 ∧ w.cell? ⟨g, 10, none⟩ = some a10 ∧ w.frozen? ⟨g, 0, none⟩ = false ∧ w.frozen? ⟨g, 1, none⟩ = false ∧ w.frozen? ⟨g, 2, none⟩ = false ∧ w.frozen? ⟨g, 3, none⟩ = false ∧ w.frozen? ⟨g, 4, none⟩ = false ∧ w.frozen? ⟨g, 5, none⟩ = false ∧ w.frozen? ⟨g, 6, none⟩ = false ∧ w.frozen? ⟨g, 7, none⟩ = false ∧ w.frozen? ⟨g, 8, none⟩ = false ∧ w.frozen? ⟨g, 9, none⟩ = false ∧ w.frozen? ⟨g, 10, none⟩ = false := ⟨blk_cell h 0, blk_cell h 1, blk_cell h 2, blk_cell h 3, blk_cell h 4, blk_cell h 5, blk_cell h 6, blk_cell h 7, blk_cell h 8, blk_cell h 9, blk_cell h 10, blk_frozen h 0, blk_frozen h 1, blk_frozen h 2, blk_frozen h 3, blk_frozen h 4, blk_frozen h 5, blk_frozen h 6, blk_frozen h 7, blk_frozen h 8, blk_frozen h 9, blk_frozen h 10⟩
theorem bc12 {w : World} {g : Nat} {t : TypeId} {a0 a1 a2 a3 a4 a5 a6 a7 a8 a9 a10 a11 : Value} (h : w.heap[g]? = some (.cells #[a0, a1, a2, a3, a4, a5, a6, a7, a8, a9, a10, a11] t (0, 0))) : w.cell? ⟨g, 0, none⟩ = some a0 ∧ w.cell? ⟨g, 1, none⟩ = some a1 ∧ w.cell? ⟨g, 2, none⟩ = some a2 ∧ w.cell? ⟨g, 3, none⟩ = some a3 ∧ w.cell? ⟨g, 4, none⟩ = some a4 ∧ w.cell? ⟨g, 5, none⟩ = some a5 ∧ w.cell? ⟨g, 6, none⟩ = some a6 ∧ w.cell? ⟨g, 7, none⟩ = some a7 ∧ w.cell? ⟨g, 8, none⟩ = some a8 ∧ w.cell? ⟨g, 9, none⟩ = some a9 ∧ w.cell? ⟨g, 10, none⟩ = some a10 ∧ w.cell? ⟨g, 11, none⟩ = some a11 ∧ w.frozen? ⟨g, 0, none⟩ = false ∧ w.frozen? ⟨g, 1, none⟩ = false ∧ w.frozen? ⟨g, 2, none⟩ = false ∧ w.frozen? ⟨g, 3, none⟩ = false ∧ w.frozen? ⟨g, 4, none⟩ = false ∧ w.frozen? ⟨g, 5, none⟩ = false ∧ w.frozen? ⟨g, 6, none⟩ = false ∧ w.frozen? ⟨g, 7, none⟩ = false ∧ w.frozen? ⟨g, 8, none⟩ = false ∧ w.frozen? ⟨g, 9, none⟩ = false ∧ w.frozen? ⟨g, 10, none⟩ = false ∧ w.frozen? ⟨g, 11, none⟩ = false := ⟨blk_cell h 0, blk_cell h 1, blk_cell h 2, blk_cell h 3, blk_cell h 4, blk_cell h 5, blk_cell h 6, blk_cell h 7, blk_cell h 8, blk_cell h 9, blk_cell h 10, blk_cell h 11, blk_frozen h 0, blk_frozen h 1, blk_frozen h 2, blk_frozen h 3, blk_frozen h 4, blk_frozen h 5, blk_frozen h 6, blk_frozen h 7, blk_frozen h 8, blk_frozen h 9, blk_frozen h 10, blk_frozen h 11⟩
theorem bc13 {w : World} {g : Nat} {t : TypeId} {a0 a1 a2 a3 a4 a5 a6 a7 a8 a9 a10 a11 a12 : Value} (h : w.heap[g]? = some (.cells #[a0, a1, a2, a3, a4, a5, a6, a7, a8, a9, a10, a11, a12] t (0, 0))) : w.cell? ⟨g, 0, none⟩ = some a0 ∧ w.cell? ⟨g, 1, none⟩ = some a1 ∧ w.cell? ⟨g, 2, none⟩ = some a2 ∧ w.cell? ⟨g, 3, none⟩ = some a3 ∧ w.cell? ⟨g, 4, none⟩ = some a4 ∧ w.cell? ⟨g, 5, none⟩ = some a5 ∧ w.cell? ⟨g, 6, none⟩ = some a6 ∧ w.cell? ⟨g, 7, none⟩ = some a7 ∧ w.cell? ⟨g, 8, none⟩ = some a8 ∧ w.cell? ⟨g, 9, none⟩ = some a9 ∧ w.cell? ⟨g, 10, none⟩ = some a10 ∧ w.cell? ⟨g, 11, none⟩ = some a11 ∧ w.cell? ⟨g, 12, none⟩ = some a12 ∧ w.frozen? ⟨g, 0, none⟩ = false ∧ w.frozen? ⟨g, 1, none⟩ = false ∧ w.frozen? ⟨g, 2, none⟩ = false ∧ w.frozen? ⟨g, 3, none⟩ = false ∧ w.frozen? ⟨g, 4, none⟩ = false ∧ w.frozen? ⟨g, 5, none⟩ = false ∧ w.frozen? ⟨g, 6, none⟩ = false ∧ w.frozen? ⟨g, 7, none⟩ = false ∧ w.frozen? ⟨g, 8, none⟩ = false ∧ w.frozen? ⟨g, 9, none⟩ = false ∧ w.frozen? ⟨g, 10, none⟩ = false ∧ w.frozen? ⟨g, 11, none⟩ = false ∧ w.frozen? ⟨g, 12, none⟩ = false := ⟨blk_cell h 0, blk_cell h 1, blk_cell h 2, blk_cell h 3, blk_cell h 4, blk_cell h 5, blk_cell h 6, blk_cell h 7, blk_cell h 8, blk_cell h 9, blk_cell h 10, blk_cell h 11, blk_cell h 12, blk_frozen h 0, blk_frozen h 1, blk_frozen h 2, blk_frozen h 3, blk_frozen h 4, blk_frozen h 5, blk_frozen h 6, blk_frozen h 7, blk_frozen h 8, blk_frozen h 9, blk_frozen h 10, blk_frozen h 11, blk_frozen h 12⟩
theorem bc14 {w : World} {g : Nat} {t : TypeId} {a0 a1 a2 a3 a4 a5 a6 a7 a8 a9 a10 a11 a12 a13 : Value} (h : w.heap[g]? = some (.cells #[a0, a1, a2, a3, a4, a5, a6, a7, a8, a9, a10, a11, a12, a13] t (0, 0))) : w.cell? ⟨g, 0, none⟩ = some a0 ∧ w.cell? ⟨g, 1, none⟩ = some a1 ∧ w.cell? ⟨g, 2, none⟩ = some a2 ∧ w.cell? ⟨g, 3, none⟩ = some a3 ∧ w.cell? ⟨g, 4, none⟩ = some a4 ∧ w.cell? ⟨g, 5, none⟩ = some a5 ∧ w.cell? ⟨g, 6, none⟩ = some a6 ∧ w.cell? ⟨g, 7, none⟩ = some a7 ∧ w.cell? ⟨g, 8, none⟩ = some a8 ∧ w.cell? ⟨g, 9, none⟩ = some a9 ∧ w.cell? ⟨g, 10, none⟩ = some a10 ∧ w.cell? ⟨g, 11, none⟩ = some a11 ∧ w.cell? ⟨g, 12, none⟩ = some a12 ∧ w.cell? ⟨g, 13, none⟩ = some a13 ∧ w.frozen? ⟨g, 0, none⟩ = false ∧ w.frozen? ⟨g, 1, none⟩ = false ∧ w.frozen? ⟨g, 2, none⟩ = false ∧ w.frozen? ⟨g, 3, none⟩ = false ∧ w.frozen? ⟨g, 4, none⟩ = false ∧ w.frozen? ⟨g, 5, none⟩ = false ∧ w.frozen? ⟨g, 6, none⟩ = false ∧ w.frozen? ⟨g, 7, none⟩ = false ∧ w.frozen? ⟨g, 8, none⟩ = false ∧ w.frozen? ⟨g, 9, none⟩ = false ∧ w.frozen? ⟨g, 10, none⟩ = false ∧ w.frozen? ⟨g, 11, none⟩ = false ∧ w.frozen? ⟨g, 12, none⟩ = false ∧ w.frozen? ⟨g, 13, none⟩ = false := ⟨blk_cell h 0, blk_cell h 1, blk_cell h 2, blk_cell h 3, blk_cell h 4, blk_cell h 5, blk_cell h 6, blk_cell h 7, blk_cell h 8, blk_cell h 9, blk_cell h 10, blk_cell h 11, blk_cell h 12, blk_cell h 13, blk_frozen h 0, blk_frozen h 1, blk_frozen h 2, blk_frozen h 3, blk_frozen h 4, blk_frozen h 5, blk_frozen h 6, blk_frozen h 7, blk_frozen h 8, blk_frozen h 9, blk_frozen h 10, blk_frozen h 11, blk_frozen h 12, blk_frozen h 13⟩
theorem bc15 {w : World} {g : Nat} {t : TypeId} {a0 a1 a2 a3 a4 a5 a6 a7 a8 a9 a10 a11 a12 a13 a14 : Value} (h : w.heap[g]? = some (.cells #[a0, a1, a2, a3, a4, a5, a6, a7, a8, a9, a10, a11, a12, a13, a14] t (0, 0))) : w.cell? ⟨g, 0, none⟩ = some a0 ∧ w.cell? ⟨g, 1, none⟩ = some a1 ∧ w.cell? ⟨g, 2, none⟩ = some a2 ∧ w.cell? ⟨g, 3, none⟩ = some a3 ∧ w.cell? ⟨g, 4, none⟩ = some a4 ∧ w.cell? ⟨g, 5, none⟩ = some a5 ∧ w.cell? ⟨g, 6, none⟩ = some a6 ∧ w.cell? ⟨g, 7, none⟩ = some a7 ∧ w.cell? ⟨g, 8, none⟩ = some a8 ∧ w.cell? ⟨g, 9, none⟩ = some a9 ∧ w.cell? ⟨g, 10, none⟩ = some a10 ∧ w.cell? ⟨g, 11, none⟩ = some a11 ∧ w.cell? ⟨g, 12, none⟩ = some a12 ∧ w.cell? ⟨g, 13, none⟩ = some a13 ∧ w.cell? ⟨g, 14, none⟩ = some a14 ∧ w.frozen? ⟨g, 0, none⟩ = false ∧ w.frozen? ⟨g, 1, none⟩ = false ∧ w.frozen? ⟨g, 2, none⟩ = false ∧ w.frozen? ⟨g, 3, none⟩ = false ∧ w.frozen? ⟨g, 4, none⟩ = false ∧ w.frozen? ⟨g, 5, none⟩ = false ∧ w.frozen? ⟨g, 6, none⟩ = false ∧ w.frozen? ⟨g, 7, none⟩ = false ∧ w.frozen? ⟨g, 8, none⟩ = false ∧ w.frozen? ⟨g, 9, none⟩ = false ∧ w.frozen? ⟨g, 10, none⟩ = false ∧ w.frozen? ⟨g, 11, none⟩ = false ∧ w.frozen? ⟨g, 12, none⟩ = false ∧ w.frozen? ⟨g, 13, none⟩ = false ∧ w.frozen? ⟨g, 14, none⟩ = false := ⟨blk_cell h 0, blk_cell h 1, blk_cell h 2, blk_cell h 3, blk_cell h 4, blk_cell h 5, blk_cell h 6, blk_cell h 7, blk_cell h 8, blk_cell h 9, blk_cell h 10, blk_cell h 11, blk_cell h 12, blk_cell h 13, blk_cell h 14, blk_frozen h 0, blk_frozen h 1, blk_frozen h 2, blk_frozen h 3, blk_frozen h 4, blk_frozen h 5, blk_frozen h 6, blk_frozen h 7, blk_frozen h 8, blk_frozen h 9, blk_frozen h 10, blk_frozen h 11, blk_frozen h 12, blk_frozen h 13, blk_frozen h 14⟩
theorem bc16 {w : World} {g : Nat} {t : TypeId} {a0 a1 a2 a3 a4 a5 a6 a7 a8 a9 a10 a11 a12 a13 a14 a15 : Value} (h : w.heap[g]? = some (.cells #[a0, a1, a2, a3, a4, a5, a6, a7, a8, a9, a10, a11, a12, a13, a14, a15] t (0, 0))) : w.cell? ⟨g, 0, none⟩ = some a0 ∧ w.cell? ⟨g, 1, none⟩ = some a1 ∧ w.cell? ⟨g, 2, none⟩ = some a2 ∧ w.cell? ⟨g, 3, none⟩ = some a3 ∧ w.cell? ⟨g, 4, none⟩ = some a4 ∧ w.cell? ⟨g, 5, none⟩ = some a5 ∧ w.cell? ⟨g, 6, none⟩ = some a6 ∧ w.cell? ⟨g, 7, none⟩ = some a7 ∧ w.cell? ⟨g, 8, none⟩ = some a8 ∧ w.cell? ⟨g, 9, none⟩ = some a9 ∧ w.cell? ⟨g, 10, none⟩ = some a10 ∧ w.cell? ⟨g, 11, none⟩ = some a11 ∧ w.cell? ⟨g, 12, none⟩ = some a12 ∧ w.cell? ⟨g, 13, none⟩ = some a13 ∧ w.cell? ⟨g, 14, none⟩ = some a14 ∧ w.cell? ⟨g, 15, none⟩ = some a15 ∧ w.frozen? ⟨g, 0, none⟩ = false ∧ w.frozen? ⟨g, 1, none⟩ = false ∧ w.frozen? ⟨g, 2, none⟩ = false ∧ w.frozen? ⟨g, 3, none⟩ = false ∧ w.frozen? ⟨g, 4, none⟩ = false ∧ w.frozen? ⟨g, 5, none⟩ = false ∧ w.frozen? ⟨g, 6, none⟩ = false ∧ w.frozen? ⟨g, 7, none⟩ = false ∧ w.frozen? ⟨g, 8, none⟩ = false ∧ w.frozen? ⟨g, 9, none⟩ = false ∧ w.frozen? ⟨g, 10, none⟩ = false ∧ w.frozen? ⟨g, 11, none⟩ = false ∧ w.frozen? ⟨g, 12, none⟩ = false ∧ w.frozen? ⟨g, 13, none⟩ = false ∧ w.frozen? ⟨g, 14, none⟩ = false ∧ w.frozen? ⟨g, 15, none⟩ = false := ⟨blk_cell h 0, blk_cell h 1, blk_cell h 2, blk_cell h 3, blk_cell h 4, blk_cell h 5, blk_cell h 6, blk_cell h 7, blk_cell h 8, blk_cell h 9, blk_cell h 10, blk_cell h 11, blk_cell h 12, blk_cell h 13, blk_cell h 14, blk_cell h 15, blk_frozen h 0, blk_frozen h 1, blk_frozen h 2, blk_frozen h 3, blk_frozen h 4, blk_frozen h 5, blk_frozen h 6, blk_frozen h 7, blk_frozen h 8, blk_frozen h 9, blk_frozen h 10, blk_frozen h 11, blk_frozen h 12, blk_frozen h 13, blk_frozen h 14, blk_frozen h 15⟩
theorem bq2 {w : World} {g : Nat} {t : TypeId} {a0 a1 b0 b1 : Value} (h : w.heap[g]? = some (.cells #[a0, a1] t (0, 0))) : ((w.setCell ⟨g, 0, none⟩ b0).setCell ⟨g, 1, none⟩ b1).heap[g]? = some (.cells #[b0, b1] t (0, 0)) := by refine blk_put (cs := #[b0, a1]) ?_ 1 _ rfl; refine blk_put (cs := #[a0, a1]) ?_ 0 _ rfl; exact h
theorem bq3 {w : World} {g : Nat} {t : TypeId} {a0 a1 a2 b0 b1 b2 : Value} (h : w.heap[g]? = some (.cells #[a0, a1, a2] t (0, 0))) : (((w.setCell ⟨g, 0, none⟩ b0).setCell ⟨g, 1, none⟩ b1).setCell ⟨g, 2, none⟩ b2).heap[g]? = some (.cells #[b0, b1, b2] t (0, 0)) := by refine blk_put (cs := #[b0, b1, a2]) ?_ 2 _ rfl; refine blk_put (cs := #[b0, a1, a2]) ?_ 1 _ rfl; refine blk_put (cs := #[a0, a1, a2]) ?_ 0 _ rfl; exact h
theorem bq4 {w : World} {g : Nat} {t : TypeId} {a0 a1 a2 a3 b0 b1 b2 b3 : Value} (h : w.heap[g]? = some (.cells #[a0, a1, a2, a3] t (0, 0))) : ((((w.setCell ⟨g, 0, none⟩ b0).setCell ⟨g, 1, none⟩ b1).setCell ⟨g, 2, none⟩ b2).setCell ⟨g, 3, none⟩ b3).heap[g]? = some (.cells #[b0, b1, b2, b3] t (0, 0)) := by refine blk_put (cs := #[b0, b1, b2, a3]) ?_ 3 _ rfl; refine blk_put (cs := #[b0, b1, a2, a3]) ?_ 2 _ rfl; refine blk_put (cs := #[b0, a1, a2, a3]) ?_ 1 _ rfl; refine blk_put (cs := #[a0, a1, a2, a3]) ?_ 0 _ rfl; exact h
theorem bq5 {w : World} {g : Nat} {t : TypeId} {a0 a1 a2 a3 a4 b0 b1 b2 b3 b4 : Value} (h : w.heap[g]? = some (.cells #[a0, a1, a2, a3, a4] t (0, 0))) : (((((w.setCell ⟨g, 0, none⟩ b0).setCell ⟨g, 1, none⟩ b1).setCell ⟨g, 2, none⟩ b2).setCell ⟨g, 3, none⟩ b3).setCell ⟨g, 4, none⟩ b4).heap[g]? = some (.cells #[b0, b1, b2, b3, b4] t (0, 0)) := by refine blk_put (cs := #[b0, b1, b2, b3, a4]) ?_ 4 _ rfl; refine blk_put (cs := #[b0, b1, b2, a3, a4]) ?_ 3 _ rfl; refine blk_put (cs := #[b0, b1, a2, a3, a4]) ?_ 2 _ rfl; refine blk_put (cs := #[b0, a1, a2, a3, a4]) ?_ 1 _ rfl; refine blk_put (cs := #[a0, a1, a2, a3, a4]) ?_ 0 _ rfl; exact h
theorem bq6 {w : World} {g : Nat} {t : TypeId} {a0 a1 a2 a3 a4 a5 b0 b1 b2 b3 b4 b5 : Value} (h : w.heap[g]? = some (.cells #[a0, a1, a2, a3, a4, a5] t (0, 0))) : ((((((w.setCell ⟨g, 0, none⟩ b0).setCell ⟨g, 1, none⟩ b1).setCell ⟨g, 2, none⟩ b2).setCell ⟨g, 3, none⟩ b3).setCell ⟨g, 4, none⟩ b4).setCell ⟨g, 5, none⟩ b5).heap[g]? = some (.cells #[b0, b1, b2, b3, b4, b5] t (0, 0)) := by refine blk_put (cs := #[b0, b1, b2, b3, b4, a5]) ?_ 5 _ rfl; refine blk_put (cs := #[b0, b1, b2, b3, a4, a5]) ?_ 4 _ rfl; refine blk_put (cs := #[b0, b1, b2, a3, a4, a5]) ?_ 3 _ rfl; refine blk_put (cs := #[b0, b1, a2, a3, a4, a5]) ?_ 2 _ rfl; refine blk_put (cs := #[b0, a1, a2, a3, a4, a5]) ?_ 1 _ rfl; refine blk_put (cs := #[a0, a1, a2, a3, a4, a5]) ?_ 0 _ rfl; exact h
theorem bq14 {w : World} {g : Nat} {t : TypeId} {a0 a1 a2 a3 a4 a5 a6 a7 a8 a9 a10 a11 a12 a13 b0 b1 b2 b3 b4 b5 b6 b7 b8 b9 b10 b11 b12 b13 : Value} (h : w.heap[g]? = some (.cells #[a0, a1, a2, a3, a4, a5, a6, a7, a8, a9, a10, a11, a12, a13] t (0, 0))) : ((((((((((((((w.setCell ⟨g, 0, none⟩ b0).setCell ⟨g, 1, none⟩ b1).setCell ⟨g, 2, none⟩ b2).setCell ⟨g, 3, none⟩ b3).setCell ⟨g, 4, none⟩ b4).setCell ⟨g, 5, none⟩ b5).setCell ⟨g, 6, none⟩ b6).setCell ⟨g, 7, none⟩ b7).setCell ⟨g, 8, none⟩ b8).setCell ⟨g, 9, none⟩ b9).setCell ⟨g, 10, none⟩ b10).setCell ⟨g, 11, none⟩ b11).setCell ⟨g, 12, none⟩ b12).setCell ⟨g, 13, none⟩ b13).heap[g]? = some (.cells #[b0, b1, b2, b3, b4, b5, b6, b7, b8, b9, b10, b11, b12, b13] t (0, 0)) := by refine blk_put (cs := #[b0, b1, b2, b3, b4, b5, b6, b7, b8, b9, b10, b11, b12, a13]) ?_ 13 _ rfl; refine blk_put (cs := #[b0, b1, b2, b3, b4, b5, b6, b7, b8, b9, b10, b11, a12, a13]) ?_ 12 _ rfl; refine blk_put (cs := #[b0, b1, b2, b3, b4, b5, b6, b7, b8, b9, b10, a11, a12, a13]) ?_ 11 _ rfl; refine blk_put (cs := #[b0, b1, b2, b3, b4, b5, b6, b7, b8, b9, a10, a11, a12, a13]) ?_ 10 _ rfl; refine blk_put (cs := #[b0, b1, b2, b3, b4, b5, b6, b7, b8, a9, a10, a11, a12, a13]) ?_ 9 _ rfl; refine blk_put (cs := #[b0, b1, b2, b3, b4, b5, b6, b7, a8, a9, a10, a11, a12, a13]) ?_ 8 _ rfl; refine blk_put (cs := #[b0, b1, b2, b3, b4, b5, b6, a7, a8, a9, a10, a11, a12, a13]) ?_ 7 _ rfl; refine blk_put (cs := #[b0, b1, b2, b3, b4, b5, a6, a7, a8, a9, a10, a11, a12, a13]) ?_ 6 _ rfl; refine blk_put (cs := #[b0, b1, b2, b3, b4, a5, a6, a7, a8, a9, a10, a11, a12, a13]) ?_ 5 _ rfl; refine blk_put (cs := #[b0, b1, b2, b3, a4, a5, a6, a7, a8, a9, a10, a11, a12, a13]) ?_ 4 _ rfl; refine blk_put (cs := #[b0, b1, b2, a3, a4, a5, a6, a7, a8, a9, a10, a11, a12, a13]) ?_ 3 _ rfl; refine blk_put (cs := #[b0, b1, a2, a3, a4, a5, a6, a7, a8, a9, a10, a11, a12, a13]) ?_ 2 _ rfl; refine blk_put (cs := #[b0, a1, a2, a3, a4, a5, a6, a7, a8, a9, a10, a11, a12, a13]) ?_ 1 _ rfl; refine blk_put (cs := #[a0, a1, a2, a3, a4, a5, a6, a7, a8, a9, a10, a11, a12, a13]) ?_ 0 _ rfl; exact h
/-- A kind of elements whose cells are told by the element alone (no rows inside). -/
structure Flat {α : Type} (d : Kd α) (c : α → List Value) : Prop where
  M : ∀ {w base ok x cs}, d.M w base ok x cs ↔ cs = c x
  K : ∀ {w x cs}, d.K w x cs ↔ cs = c x
  len : ∀ x, (c x).length = d.sz
  one : ∀ x, ∀ u ∈ c x, u.oneCell' = true
  pos : 0 < d.sz
section
variable {α : Type} {d : Kd α} {c : α → List Value}
theorem Flat.flen (F : Flat d c) : ∀ xs : List α, (xs.flatMap c).length = xs.length * d.sz
  | [] => by simp
  | x :: xs => by rw [List.flatMap_cons, List.length_append, F.len, F.flen xs, List.length_cons, Nat.succ_mul, Nat.add_comm]
theorem Flat.fone (F : Flat d c) (xs : List α) : ∀ u ∈ xs.flatMap c, u.oneCell' = true := fun u hu => by
  obtain ⟨x, _, hx⟩ := List.mem_flatMap.1 hu
  exact F.one x u hx
theorem Flat.fdrop (F : Flat d c) : ∀ (xs : List α) (i : Nat), (xs.flatMap c).drop (i * d.sz) = (xs.drop i).flatMap c
  | xs, 0 => by simp
  | [], i + 1 => by simp
  | x :: xs, i + 1 => by
    rw [List.flatMap_cons, List.drop_append, F.len, List.drop_eq_nil_of_le (by rw [F.len, Nat.succ_mul]; omega), List.nil_append, List.drop_succ_cons, ← F.fdrop xs i]
    congr 1
    rw [Nat.succ_mul]; omega
theorem Flat.ftake (F : Flat d c) : ∀ (xs : List α) (i : Nat), (xs.flatMap c).take (i * d.sz) = (xs.take i).flatMap c
  | xs, 0 => by simp
  | [], i + 1 => by simp
  | x :: xs, i + 1 => by
    rw [List.flatMap_cons, List.take_append, F.len, List.take_of_length_le (by rw [F.len, Nat.succ_mul]; omega), List.take_succ_cons, List.flatMap_cons, ← F.ftake xs i]
    congr 2
    rw [Nat.succ_mul]; omega
theorem Flat.fget (F : Flat d c) {xs : List α} {i : Nat} {x : α} (h : xs[i]? = some x) : ((xs.flatMap c).drop (i * d.sz)).take d.sz = c x := by
  rw [F.fdrop, drop_cons h, List.flatMap_cons, List.take_append_of_le_length (by rw [F.len]; exact Nat.le_refl _), List.take_of_length_le (by rw [F.len]; exact Nat.le_refl _)]
theorem Flat.reps (F : Flat d c) {R : α → List Value → Prop} (hR : ∀ x cs, R x cs ↔ cs = c x) : ∀ {xs : List α} {inner : List Value}, Reps R d.sz xs inner ↔ inner = xs.flatMap c := by
  intro xs inner
  constructor
  · intro h
    apply List.ext_getElem?
    intro q
    by_cases hq : q < xs.length * d.sz
    · have hi : q / d.sz < xs.length := (Nat.div_lt_iff_lt_mul F.pos).2 hq
      have h1 := (hR _ _).1 (h.2 (q / d.sz) _ (List.getElem?_eq_getElem hi))
      have h2 := F.fget (List.getElem?_eq_getElem hi)
      have e : ∀ l : List Value, ((l.drop (q / d.sz * d.sz)).take d.sz)[q % d.sz]? = l[q]? := fun l => by
        rw [List.getElem?_take, if_pos (Nat.mod_lt _ F.pos), List.getElem?_drop, Nat.mul_comm, Nat.div_add_mod]
      rw [← e inner, ← e (xs.flatMap c), h1, h2]
    · rw [List.getElem?_eq_none (by rw [h.1]; omega), List.getElem?_eq_none (by rw [F.flen]; omega)]
  · rintro rfl
    exact ⟨F.flen xs, fun j p hj => (hR _ _).2 (F.fget hj)⟩
/-- what a row of one's own is, told by its block -/
structure Blk (d : Kd α) (c : α → List Value) (e : Nat) (w : World) (base : Nat) (ok : Nat → Prop) (g n cap : Nat) (xs : List α) (cur : Array Value) : Prop where
  len : n = xs.length
  okg : ok g
  bas : base ≤ g
  heap : w.heap[g]? = some (.cells cur e (0, 0))
  le : n ≤ cap
  max : cap ≤ maxLen
  size : cur.size = cap * d.sz
  take : cur.toList.take (n * d.sz) = xs.flatMap c
theorem Flat.blk (F : Flat d c) {e : Nat} {w : World} {base : Nat} {ok : Nat → Prop} {g n cap : Nat} {xs : List α} (h : d.R e w base ok (.slice (some ⟨g, 0, none⟩) n cap) xs) : ∃ cur, Blk d c e w base ok g n cap xs cur := by
  obtain ⟨hn, _, _⟩ := Kd.R_reads' h
  obtain ⟨hok, inner, ⟨hlen, ho⟩, hr⟩ := h
  rcases ho with ⟨he, _⟩ | ⟨g', cap', cur, he, hb, hh, hnc, hcm, hcs, htk⟩
  · cases he
  · cases he
    exact ⟨cur, hn, hok g rfl, hb, hh, by omega, hcm, hcs, by rw [hn, htk]; exact (F.reps (fun _ _ => F.M)).1 hr⟩
theorem Flat.row (F : Flat d c) {e : Nat} {w : World} {base : Nat} {ok : Nat → Prop} {g n cap : Nat} {xs : List α} {cur : Array Value} (h : Blk d c e w base ok g n cap xs cur) : d.R e w base ok (.slice (some ⟨g, 0, none⟩) n cap) xs := by
  have hn := h.len
  subst hn
  refine ⟨fun k hk => ?_, xs.flatMap c, ⟨F.flen xs, .inr ⟨g, cap, cur, rfl, h.bas, h.heap, h.le, h.max, h.size, h.take⟩⟩, (F.reps (fun _ _ => F.M)).2 rfl⟩
  have : g = k := by simpa [Value.ownBlock] using hk
  exact this ▸ h.okg
/-- a row that is read: its cells -/
theorem Flat.cell (F : Flat d c) {w : World} {A : Addr} {n : Nat} {xs : List α} (h : d.C w (some A) n xs) : ∀ j u, (xs.flatMap c)[j]? = some u → w.cell? (A.add j) = some u := by
  intro j u hj
  have hjl : j < xs.length * d.sz := by rw [← F.flen]; exact (List.getElem?_eq_some_iff.1 hj).1
  have hi : j / d.sz < xs.length := (Nat.div_lt_iff_lt_mul F.pos).2 hjl
  obtain ⟨ad, cs, e, hs, hK, hc⟩ := Kd.C_nth h (List.getElem?_eq_getElem hi)
  cases e
  have hk := F.K.1 hK
  have h2 := F.fget (List.getElem?_eq_getElem hi)
  have e : ((xs.flatMap c).drop (j / d.sz * d.sz)).take d.sz = cs := by rw [h2, hk]
  have h3 : cs[j % d.sz]? = some u := by
    rw [← e, List.getElem?_take, if_pos (Nat.mod_lt _ F.pos), List.getElem?_drop, Nat.mul_comm, Nat.div_add_mod]; exact hj
  have := hc _ _ h3
  rwa [Nat.mul_comm, Nat.div_add_mod] at this
end
section
variable {P : Program}
theorem run_copy_sz (w : World) (dT sT ty elem : TypeId) (b o dLen dCap : Nat) (a : Addr) (sLen sCap sz k : Nat) (cs : List Value)
    (hu : P.underlying dT = some (.slice elem)) (hs : (P.info? elem).map (·.size) = some sz) (hk : k = Nat.min sLen dLen) (hn : cs.length = k * sz)
    (hsrc : ∀ j v, cs[j]? = some v → w.cell? (a.add j) = some v) (hc : ∀ j, j < cs.length → (w.cell? ⟨b, o + j, none⟩).isSome = true) (hf : ∀ j, j < cs.length → w.frozen? ⟨b, o + j, none⟩ = false) (h1 : ∀ v ∈ cs, v.oneCell' = true) :
    (Builtin.copy_ #[dT, sT] ty #[.slice (some ⟨b, o, none⟩) dLen dCap, .slice (some a) sLen sCap]).run P w = .ok (goInt k) (w.setCells b o cs) := by
  have hl := run_loadCells_list (P := P) w a cs hsrc
  have hst := run_storeCells_cells (P := P) b o cs 0 w (by simpa using hc) (by simpa using hf) h1
  cases hq : P.info? elem with
  | none => simp [hq] at hs
  | some i =>
    have hi : i.size = sz := by simpa [hq] using hs
    simp [Builtin.copy_, run_underlying hu, Builtin.lenOf, Builtin.firstCells, sizeOf, typeInfo, hq, hi, ← hk, ← hn, hl, hst]
end
/-- the cells of a block behind 'setCells' -/
theorem setCells_heap {g : Nat} {e : TypeId} : ∀ (vs : List Value) (o : Nat) (w : World) (cur : Array Value), w.heap[g]? = some (.cells cur e (0, 0)) → o + vs.length ≤ cur.size →
    ∃ cur' : Array Value, (w.setCells g o vs).heap[g]? = some (.cells cur' e (0, 0)) ∧ cur'.size = cur.size ∧ cur'.toList = cur.toList.take o ++ vs ++ cur.toList.drop (o + vs.length)
  | [], o, w, cur, h, _ => ⟨cur, h, rfl, by simp⟩
  | v :: r, o, w, cur, h, hl => by
    have h1 := blk_set h o v
    obtain ⟨cur', h2, h3, h4⟩ := setCells_heap r (o + 1) _ _ h1 (by simp at hl ⊢; omega)
    refine ⟨cur', h2, by rw [h3]; simp, ?_⟩
    rw [h4]
    have e := list_seg_step cur.toList o v r (by simp at hl ⊢; omega)
    simpa [Array.toList_setIfInBounds, Nat.add_assoc] using e
theorem setCells_grown (g : Nat) : ∀ (vs : List Value) (o : Nat) (w : World), w.grownBy (w.setCells g o vs) (some g)
  | [], o, w => World.grownBy.refl w _
  | v :: r, o, w => grown_trans (grown_set w g o v) (setCells_grown g r (o + 1) _)
theorem seg_take {α : Type} (L C : List α) (a N : Nat) (h : a + C.length ≤ N) (hN : N ≤ L.length) : (L.take a ++ C ++ L.drop (a + C.length)).take N = (L.take N).take a ++ C ++ (L.take N).drop (a + C.length) := by
  have e1 : (L.take a).length = a := by rw [List.length_take]; omega
  have t1 : (L.take a).take N = L.take a := by rw [List.take_take, Nat.min_eq_right (by omega)]
  have t2 : C.take (N - a) = C := List.take_of_length_le (by omega)
  have t3 : (L.take N).take a = L.take a := by rw [List.take_take, Nat.min_eq_left (by omega)]
  rw [t3, List.append_assoc, List.take_append, t1, e1, List.take_append, t2, List.drop_take, List.append_assoc, Nat.sub_sub]
theorem Flat.put {α : Type} {d : Kd α} {c : α → List Value} (F : Flat d c) {e : Nat} {w : World} {base : Nat} {ok : Nat → Prop} {g n cap : Nat} {xs : List α} (h : d.R e w base ok (.slice (some ⟨g, 0, none⟩) n cap) xs) {i : Nat} (hi : i < xs.length) (x : α) :
    d.R e (w.setCells g (i * d.sz) (c x)) base ok (.slice (some ⟨g, 0, none⟩) n cap) (xs.set i x) ∧ w.grownBy (w.setCells g (i * d.sz) (c x)) (some g) := by
  obtain ⟨cur, B⟩ := F.blk h
  have hn := B.len
  subst hn
  have hle : i * d.sz + d.sz ≤ xs.length * d.sz := by rw [← Nat.succ_mul]; exact Nat.mul_le_mul_right _ hi
  have hcs : xs.length * d.sz ≤ cur.size := by rw [B.size]; exact Nat.mul_le_mul_right _ B.le
  obtain ⟨cur', h1, h2, h3⟩ := setCells_heap (c x) (i * d.sz) w cur B.heap (by rw [F.len]; omega)
  refine ⟨F.row ⟨by simp, B.okg, B.bas, h1, B.le, B.max, by rw [h2, B.size], ?_⟩, setCells_grown g _ _ _⟩
  rw [h3, seg_take _ _ _ _ (by rw [F.len]; exact hle) (by simpa using hcs), B.take, F.ftake, F.len, ← Nat.succ_mul, F.fdrop, List.set_eq_take_append_cons_drop, if_pos hi]
  simp
end Go.Proofs.Ytmlhnjonmjmhdaa.H
namespace Go.Proofs.Ytmlhnjonmjmhdaa.H
open Go.RowKit Go.Proofs.YtmlhnjonmjmhdaaW.PrintWords
def cIPair (x : IPair) : List Value := [.int .i64 x.fst, .int .i64 x.snd]
theorem flatIPair : Flat k27 cIPair :=
  ⟨⟨fun h => k27_openM h, fun h => h ▸ k27_mkM _ _ _ _⟩, ⟨fun h => k27_open h, fun h => h ▸ k27_mk _ _⟩, fun _ => rfl, fun x u hu => by
    simp only [cIPair, List.mem_cons, List.not_mem_nil, or_false] at hu
    rcases hu with rfl | rfl <;> rfl, by decide⟩
end Go.Proofs.Ytmlhnjonmjmhdaa.H
/- what is left of a list when each one equal to the one ahead of it falls away -/
namespace Go.Proofs.Ytmlhnjonmjmhdaa.H
section
variable {α : Type} [DecidableEq α]
def dd : List α → List α
  | [] => []
  | [a] => [a]
  | a :: b :: l => if a = b then dd (b :: l) else a :: dd (b :: l)
theorem mem_dd {x : α} : ∀ {l : List α}, x ∈ dd l ↔ x ∈ l
  | [] => Iff.rfl
  | [a] => Iff.rfl
  | a :: b :: l => by
    unfold dd
    split
    · rename_i h
      rw [mem_dd (l := b :: l)]
      subst h
      simp
    · rw [List.mem_cons, mem_dd (l := b :: l), List.mem_cons (a := x) (b := a)]
theorem dd_head (a : α) (l : List α) : ∃ t, dd (a :: l) = a :: t := by
  induction l generalizing a with
  | nil => exact ⟨[], rfl⟩
  | cons b l ih =>
    unfold dd
    split
    · rename_i h
      subst h
      exact ih a
    · exact ⟨_, rfl⟩
theorem dd_len (l : List α) : (dd l).length ≤ l.length := by
  induction l with
  | nil => simp [dd]
  | cons a l ih =>
    cases l with
    | nil => simp [dd]
    | cons b l =>
      unfold dd
      split
      · rw [List.length_cons]; omega
      · rw [List.length_cons, List.length_cons]; omega
theorem dd_pw {R : α → α → Prop} {l : List α} (h : l.Pairwise R) : (dd l).Pairwise R := by
  induction l with
  | nil => exact List.Pairwise.nil
  | cons a l ih =>
    cases l with
    | nil => exact h
    | cons b l =>
      have h2 := List.pairwise_cons.1 h
      unfold dd
      split
      · exact ih h2.2
      · exact List.pairwise_cons.2 ⟨fun x hx => h2.1 x (mem_dd.1 hx), ih h2.2⟩
/-- what comes behind -/
theorem dd_snoc_eq (l : List α) (a : α) : dd (l ++ [a, a]) = dd (l ++ [a]) := by
  induction l with
  | nil => simp [dd]
  | cons b l ih =>
    cases l with
    | nil =>
      simp only [List.cons_append, List.nil_append, dd]
      simp
    | cons c l =>
      simp only [List.cons_append, dd] at ih ⊢
      split <;> rw [ih]
theorem dd_snoc_ne (l : List α) {a b : α} (h : a ≠ b) : dd (l ++ [a, b]) = dd (l ++ [a]) ++ [b] := by
  induction l with
  | nil => simp [dd, h]
  | cons c l ih =>
    cases l with
    | nil =>
      simp only [List.cons_append, List.nil_append, dd]
      rw [if_neg h]
      split <;> simp
    | cons e l =>
      simp only [List.cons_append, dd] at ih ⊢
      split <;> rw [ih] <;> simp
/-- no two neighbours alike, as far as k -/
def Apt (l : List α) (k : Nat) : Prop := ∀ i x y, i + 1 < k → l[i]? = some x → l[i + 1]? = some y → x ≠ y
theorem take_two {l : List α} {k : Nat} {x y : α} (hx : l[k]? = some x) (hy : l[k + 1]? = some y) : l.take (k + 2) = l.take k ++ [x, y] := by
  rw [List.take_add_one, hy, List.take_add_one, hx]; simp
theorem take_one {l : List α} {k : Nat} {x : α} (hx : l[k]? = some x) : l.take (k + 1) = l.take k ++ [x] := by
  rw [List.take_add_one, hx]; simp
theorem Apt.dd {l : List α} : ∀ {k : Nat}, k ≤ l.length → Apt l k → dd (l.take k) = l.take k
  | 0, _, _ => by simp [H.dd]
  | 1, _, _ => by
    cases l with
    | nil => rfl
    | cons a l => simp [H.dd]
  | k + 2, hk, h => by
    have hx : l[k]? = some (l[k]'(by omega)) := List.getElem?_eq_getElem (by omega)
    have hy : l[k + 1]? = some (l[k + 1]'(by omega)) := List.getElem?_eq_getElem (by omega)
    have ih := Apt.dd (l := l) (k := k + 1) (by omega) (fun i x y hi => h i x y (by omega))
    have e := take_two hx hy
    have e1 : H.dd (l.take k ++ [l[k]'(by omega)]) = l.take k ++ [l[k]'(by omega)] := by rw [← take_one hx]; exact ih
    show H.dd (l.take (k + 2)) = l.take (k + 2)
    rw [e, dd_snoc_ne _ (h k _ _ (by omega) hx hy), e1, List.append_assoc]
    rfl
theorem Apt.more {l : List α} {k : Nat} {x y : α} (h : Apt l k) (hk : 0 < k) (hx : l[k - 1]? = some x) (hy : l[k]? = some y) (hne : x ≠ y) : Apt l (k + 1) := by
  intro i a b hi ha hb
  rcases Nat.lt_or_ge (i + 1) k with q | q
  · exact h i a b q ha hb
  · obtain rfl : i = k - 1 := by omega
    rw [show k - 1 + 1 = k by omega] at hb
    rw [hx] at ha
    rw [hy] at hb
    cases ha
    cases hb
    exact hne
/-- the row as slices.Compact goes through it: p read, k kept -/
structure CmpIv (l : List α) (p k : Nat) (ys : List α) : Prop where
  len : ys.length = l.length
  lt : k < p
  pos : 0 < k
  le : p ≤ l.length
  low : ys.take k = dd (l.take p)
  high : ∀ i, k ≤ i → ys[i]? = l[i]?
theorem CmpIv.start {l : List α} {k : Nat} {x : α} (h : Apt l k) (hk : 0 < k) (hx : l[k - 1]? = some x) (hy : l[k]? = some x) : CmpIv l (k + 1) k l := by
  obtain ⟨q, rfl⟩ : ∃ q, k = q + 1 := ⟨k - 1, by omega⟩
  have hl := (List.getElem?_eq_some_iff.1 hy).1
  rw [Nat.add_sub_cancel] at hx
  refine ⟨rfl, by omega, by omega, by omega, ?_, fun _ _ => rfl⟩
  rw [take_two hx hy, dd_snoc_eq, ← take_one hx, Apt.dd (by omega) h]
theorem CmpIv.skip {l ys : List α} {p k : Nat} {x : α} (h : CmpIv l p k ys) (hx : l[p - 1]? = some x) (hy : l[p]? = some x) : CmpIv l (p + 1) k ys := by
  have := h.lt
  have hl := (List.getElem?_eq_some_iff.1 hy).1
  obtain ⟨q, rfl⟩ : ∃ q, p = q + 1 := ⟨p - 1, by omega⟩
  rw [Nat.add_sub_cancel] at hx
  refine ⟨h.len, by omega, h.pos, by omega, ?_, h.high⟩
  rw [take_two hx hy, dd_snoc_eq, ← take_one hx, h.low]
theorem CmpIv.keep {l ys : List α} {p k : Nat} {x y : α} (h : CmpIv l p k ys) (hx : l[p - 1]? = some x) (hy : l[p]? = some y) (hne : x ≠ y) : CmpIv l (p + 1) (k + 1) (ys.set k y) := by
  have hlt := h.lt
  have hlen := h.len
  have hl := (List.getElem?_eq_some_iff.1 hy).1
  obtain ⟨q, rfl⟩ : ∃ q, p = q + 1 := ⟨p - 1, by omega⟩
  rw [Nat.add_sub_cancel] at hx
  refine ⟨by simpa using h.len, by omega, by omega, by omega, ?_, fun i hi => ?_⟩
  · have e1 : (ys.set k y).take (k + 1) = ys.take k ++ [y] := by
      rw [List.take_add_one, List.getElem?_set_self (by omega)]
      simp [List.take_set_of_le (Nat.le_refl k)]
    rw [e1, h.low, take_two hx hy, dd_snoc_ne _ hne, ← take_one hx]
  · rw [List.getElem?_set_ne (by omega)]
    exact h.high i (by omega)
end
end Go.Proofs.Ytmlhnjonmjmhdaa.H
/- arrays compared, element by element -/
namespace Go.Proofs.Ytmlhnjonmjmhdaa.H
open Go.RowKit Go.Proofs.YtmlhnjonmjmhdaaW.PrintWords
section
variable {P : Program} {w : World} {d c i : Nat} {e t : TypeId} {xs ys : Array Value} {a b : Value} {r s : Bool} {is : List Nat}
theorem eqi_last (ha : (part e xs (i * c)).run P w = .ok a w) (hb : (part e ys (i * c)).run P w = .ok b w) (he : (Op.equalIn d e a b).run P w = .ok r w) : (Op.eqItems d e c xs ys [i]).run P w = .ok r w := by
  simp only [Op.eqItems, Sem.run_bind, ha, hb, he, Result.andThen_ok]
  cases r <;> simp
theorem eqi_cons (ha : (part e xs (i * c)).run P w = .ok a w) (hb : (part e ys (i * c)).run P w = .ok b w) (he : (Op.equalIn d e a b).run P w = .ok r w) (hr : (Op.eqItems d e c xs ys is).run P w = .ok s w) : (Op.eqItems d e c xs ys (i :: is)).run P w = .ok (r && s) w := by
  rw [Op.eqItems]
  simp only [Sem.run_bind, ha, hb, he, Result.andThen_ok]
  cases r
  · simp
  · simpa using hr
theorem eqArr_of {n : Nat} {I : TypeInfo} (hu : P.underlying t = some (.array n e)) (hi : P.info? e = some I) (hc : P.cellsOf e = c) (hr : List.range n = is) (h : (Op.eqItems d e c xs ys is).run P w = .ok r w) : (Op.equalIn (d + 1) t (.agg xs) (.agg ys)).run P w = .ok r w := by
  rw [run_equalIn_array (P := P) w d xs ys hu hi, hr, hc]
  exact h
end
end Go.Proofs.Ytmlhnjonmjmhdaa.H
namespace Go.Proofs.Ytmlhnjonmjmhdaa.H
open Go.RowKit Go.Proofs.YtmlhnjonmjmhdaaW.PrintWords Go.Proofs.YtmlhnjonmjmhdaaW.PrintLast Go.Proofs.YtmlhnjonmjmhdaaW.PrintMore
attribute [local go_sem] max2_int min2_int max_two min_two max_three min_three max_four min_four
theorem eqA27 (d : Nat) (w : World) (x0 y0 : Int) (x1 y1 : Int) :
    (Op.equalIn (d + 2) 27 (.agg #[.int .i64 x0, .int .i64 x1]) (.agg #[.int .i64 y0, .int .i64 y1])).run Try.prog w = .ok (x0 == y0 && (x1 == y1)) w := by
 obtain ⟨i_, hi_, -⟩ := info_parts info3
 refine eqArr_of Try.underlying27 hi_ (c := 1) (by kernel_rfl) (show List.range 2 = [0, 1] from rfl) ?_
 refine eqi_cons (by go_simp; rfl) (by go_simp; rfl) (by go_simp) ?_
 exact eqi_last (by go_simp; rfl) (by go_simp; rfl) (by go_simp)
end Go.Proofs.Ytmlhnjonmjmhdaa.H
/- slices.Compact at pairs of whole numbers -/
namespace Go.Proofs.Ytmlhnjonmjmhdaa.H
open Go.RowKit Go.Proofs.YtmlhnjonmjmhdaaW.PrintWords Go.Proofs.YtmlhnjonmjmhdaaW.PrintLast Go.Proofs.YtmlhnjonmjmhdaaW.PrintMore
attribute [local go_sem high] eqA27
theorem ip_beq (x y : IPair) : (x.fst == y.fst && (x.snd == y.snd)) = decide (x = y) := by
  obtain ⟨a, b⟩ := x
  obtain ⟨c, d⟩ := y
  rw [Bool.eq_iff_iff]
  simp
set_option maxHeartbeats 4000000 in
set_option maxRecDepth 100000 in
theorem CompactP (base : Nat) (ok : Nat → Prop) (v : Value) (l : List IPair) (w : World) (ho : Kd.R k27 27 w base ok v l) :
    Calls Try.prog 44 #[v] w fun e w' => ∃ v', e = .returned v' ∧ Kd.R k27 27 w' base ok v' (dd l) ∧ w.grownBy w' v.ownBlock ∧ v'.ownBlock = v.ownBlock := by
  have hu := Try.underlying27
  obtain ⟨A, c, rfl, hlc, hC⟩ := Kd.R_reads ho
  have hl : l.length ≤ 9223372036854775807 := hC.2.1
  by_cases h2 : l.length < 2
  · have hd : dd l = l := by
      rcases l with _ | ⟨a, _ | ⟨b, l⟩⟩
      · rfl
      · rfl
      · rw [List.length_cons, List.length_cons] at h2; omega
    have h2z : (l.length : Int) < 2 := by omega
    have HO := Aside0.mk ho
    have HD := Aside0.mk hd
    clear ho hC hd
    go_enter Try.func44, Try.ntmps44
    go_wp2
    go_ret
    exact ⟨_, rfl, by rw [HD.out]; exact HO.out, World.grownBy.refl _ _, rfl⟩
  · have h2z : ¬ (l.length : Int) < 2 := by omega
    obtain ⟨b, cap, e2, hbb, hbl, cells0, hcells0⟩ := Kd.R_form ho (by omega)
    cases e2
    have HO := Aside0.mk ho
    clear ho hC hcells0
    go_enter Try.func44, Try.ntmps44
    go_wp2
    go_loopg [3] l.length (fun gg s3 wr => ∃ (k : Nat), s3 = .int .i64 k ∧ 1 ≤ k ∧ k ≤ l.length ∧ l.length - k ≤ gg ∧ Aside0 (Apt l k) ∧ Aside0 (Kd.R k27 27 wr base ok (.slice (some ⟨b, 0, none⟩) l.length c) l) ∧ Aside0 (w.grownBy wr (some b)))
    case atStart => exact ⟨1, rfl, by omega, by omega, by omega, ⟨fun i x y hi => by omega⟩, HO, ⟨World.grownBy.refl _ _⟩⟩
    case round =>
      clear HO
      obtain ⟨k, rfl, hk1, hkl, hgg, HI, HO, HG⟩ := hrel
      by_cases hlt : k < l.length
      · have hltz : (k : Int) < (l.length : Int) := by omega
        obtain ⟨y, hy⟩ := at_some hlt
        obtain ⟨x, hx⟩ := at_some (l := l) (k := k - 1) (by omega)
        obtain ⟨-, -, hC⟩ := Kd.R_reads' HO.out
        obtain ⟨ad, e1, hx0, hx1⟩ := at_IPair hC hy
        cases e1
        obtain ⟨iad, ie1, ihx0, ihx1⟩ := at_IPair hC hx
        cases ie1
        simp only [add_plain] at hx0 hx1 ihx0 ihx1
        have hw : IntKind.i64.wrap ((k : Int) - 1) = ((k - 1 : Nat) : Int) := by rw [i64_w]; unfold wrap64; omega
        have HY := Aside0.mk hy
        have HX := Aside0.mk hx
        clear hy hx hC
        have hbq := ip_beq y x
        by_cases hq : y = x
        · rw [decide_eq_true hq] at hbq
          have HQ := Aside0.mk hq
          clear hq
          go_wp2
          go_quiet (fail)
          have hne : ¬ c = k := by omega
          obtain ⟨i0, hi0, -, hsz0, -⟩ := info_parts info27
          have hcut := cut_from (P := Try.prog) 24 27 .i64 Try.underlying24 hi0 2 hsz0 (some ⟨b, 0, none⟩) l.length c k (by omega) (by omega)
          simp only [Int.toNat_natCast, if_neg hne, Option.map_some, add_plain] at hcut
          have HI2 : Aside0 (CmpIv l (k + 1) k l) := ⟨CmpIv.start HI.out (by omega) HX.out (by rw [HY.out, HQ.out])⟩
          have HO2 := Aside0.mk (Kd.R_drewN HO.out nq)
          have HG2 := Aside0.mk (grown_trans HG.out (grown_of_below (pw_below_drewN (Below.refl _ _) nq) (some b)))
          clear HO HG HI HX HY HQ hx0 hx1 ihx0 ihx1 hbq hw hi0 hsz0
          go_wp2
          obtain ⟨wo, hwo⟩ : ∃ wo : World, wo = wr.drewN nq := ⟨_, rfl⟩
          rw [← hwo] at HO2 HG2 ⊢
          clear hwo
          go_loopg [3, 5] l.length (fun gg s3 s5 wx => ∃ (kk j : Nat) (ys : List IPair), s3 = .int .i64 kk ∧ s5 = .int .i64 j ∧ 1 ≤ j ∧ k + j ≤ l.length ∧ l.length - (k + j) ≤ gg ∧ kk < k + j ∧ ys.length = l.length ∧ Aside0 (CmpIv l (k + j) kk ys) ∧ Aside0 (Kd.R k27 27 wx base ok (.slice (some ⟨b, 0, none⟩) l.length c) ys) ∧ Aside0 (w.grownBy wx (some b)))
          case atStart => exact ⟨k, 1, l, rfl, rfl, by omega, by omega, by omega, by omega, rfl, HI2, HO2, HG2⟩
          case round =>
            clear HI2 HO2 HG2
            obtain ⟨kk, j, ys, rfl, rfl, hj1, hjl, hgg2, hkk, hyl, HI, HO, HG⟩ := hrel
            by_cases hlt2 : k + j < l.length
            · have hltz2 : (j : Int) < ((l.length - k : Nat) : Int) := by omega
              have hj0 : (0 : Int) ≤ (j : Int) := by omega
              have hj3 : (0 : Int) ≤ ((j - 1 : Nat) : Int) := by omega
              have hj4 : ((j - 1 : Nat) : Int) < ((l.length - k : Nat) : Int) := by omega
              obtain ⟨y, hy⟩ := at_some hlt2
              obtain ⟨x, hx⟩ := at_some (l := l) (k := k + (j - 1)) (by omega)
              obtain ⟨z, hz⟩ := at_some (l := ys) (k := kk) (by omega)
              have hyy := (HI.out.high (k + j) (by omega)).trans hy
              have hxx := (HI.out.high (k + (j - 1)) (by omega)).trans hx
              obtain ⟨-, -, hC⟩ := Kd.R_reads' HO.out
              obtain ⟨ad, e1, hx0, hx1⟩ := at_IPair hC hyy
              cases e1
              obtain ⟨iad, ie1, ihx0, ihx1⟩ := at_IPair hC hxx
              cases ie1
              obtain ⟨qad, qe1, qhx0, qhx1⟩ := at_IPair hC hz
              cases qe1
              simp only [add_plain, Nat.add_mul] at hx0 hx1 ihx0 ihx1 qhx0 qhx1
              have hw : IntKind.i64.wrap ((j : Int) - 1) = ((j - 1 : Nat) : Int) := by rw [i64_w]; unfold wrap64; omega
              have HY := Aside0.mk hy
              have HX : Aside0 (l[k + j - 1]? = some x) := ⟨by rw [show k + j - 1 = k + (j - 1) by omega]; exact hx⟩
              obtain ⟨cells, hcells⟩ := R_blk HO.out
              have f0 := blk_frozen hcells (kk * 2)
              have f1 := blk_frozen hcells (kk * 2 + 1)
              have hbq := ip_beq y x
              clear hy hx hC hz hyy hxx hcells
              by_cases hq : y = x
              · rw [decide_eq_true hq] at hbq
                have HQ := Aside0.mk hq
                clear hq
                go_wp2
                go_quiet (fail)
                go_wp2
                go_roundg (l.length - (k + j + 1))
                case measure => omega
                case rel => exact ⟨kk, j + 1, ys, rfl, by go_num, by omega, by omega, by omega, by omega, hyl, ⟨HI.out.skip HX.out (by rw [HY.out, HQ.out])⟩, ⟨Kd.R_drewN HO.out nq⟩, ⟨grown_trans HG.out (grown_of_below (pw_below_drewN (Below.refl _ _) nq) (some b))⟩⟩
              · rw [decide_eq_false hq] at hbq
                have HQ := Aside0.mk hq
                clear hq
                go_wp2
                go_quiet (fail)
                have hkl2 : (kk : Int) < (l.length : Int) := by omega
                have HP := Aside0.mk (flatIPair.put (Kd.R_drewN HO.out nq) (by omega : kk < ys.length) y)
                go_wp2
                go_roundg (l.length - (k + j + 1))
                case measure => omega
                case rel => exact ⟨kk + 1, j + 1, ys.set kk y, by go_num, by go_num, by omega, by omega, by omega, by omega, by simpa using hyl, ⟨HI.out.keep HX.out HY.out (fun e => HQ.out e.symm)⟩, ⟨HP.out.1⟩, ⟨grown_trans (grown_trans HG.out (grown_of_below (pw_below_drewN (Below.refl _ _) nq) (some b))) HP.out.2⟩⟩
            · have hltz2 : ¬ (j : Int) < ((l.length - k : Nat) : Int) := by omega
              have hkl2 : kk ≤ l.length := by omega
              obtain ⟨cells, hcells⟩ := R_blk HO.out
              have hsz := R_size HO.out hcells
              have hsz3 : cells.size = c * 2 := hsz.1
              obtain ⟨vs, hclr⟩ := run_clear_row (P := Try.prog) wr 24 27 0 (.agg #[.int .i64 0, .int .i64 0]) Try.underlying24 (fun w => by kernel_rfl) (by decide) b (kk * 2) (l.length - kk) (c - kk) cells hcells (by rw [hsz3, show (Value.agg #[.int .i64 0, .int .i64 0]).cells.size = 2 from rfl]; omega)
              obtain ⟨cur', h1, h2', h3, h4⟩ := setCells_rowH vs (kk * 2) wr cells hcells
              have HR := Aside0.mk (R_cut HO.out (by omega : kk ≤ ys.length) h4 hcells h1 h2' h3)
              have HG4 := Aside0.mk h4
              have hlow := HI.out.low
              rw [show k + j = l.length by omega, List.take_length] at hlow
              have HL := Aside0.mk hlow
              clear h1 h2' h3 h4 hsz hsz3 hcells hlow
              go_wp2
              go_ret
              exact ⟨_, rfl, by rw [← HL.out]; exact HR.out, grown_trans HG.out HG4.out, rfl⟩
        · rw [decide_eq_false hq] at hbq
          have HQ := Aside0.mk hq
          clear hq
          go_wp2
          go_quiet (fail)
          go_wp2
          go_roundg (l.length - (k + 1))
          case measure => omega
          case rel => exact ⟨k + 1, by go_num, by omega, by omega, by omega, ⟨HI.out.more (by omega) HX.out HY.out (fun e => HQ.out e.symm)⟩, ⟨Kd.R_drewN HO.out nq⟩, ⟨grown_trans HG.out (grown_of_below (pw_below_drewN (Below.refl _ _) nq) (some b))⟩⟩
      · have hltz : ¬ (k : Int) < (l.length : Int) := by omega
        obtain rfl : k = l.length := by omega
        go_wp2
        go_ret
        exact ⟨_, rfl, by have := Apt.dd (Nat.le_refl _) HI.out; rw [List.take_length] at this; rw [this]; exact HO.out, HG.out, rfl⟩
end Go.Proofs.Ytmlhnjonmjmhdaa.H
/- the order of graph's edges: the closure that slices.SortFunc is handed -/
namespace Go.Proofs.Ytmlhnjonmjmhdaa.H
open Go.RowKit Go.Sort Go.Proofs.YtmlhnjonmjmhdaaW.PrintWords Go.Proofs.YtmlhnjonmjmhdaaW.PrintLast Go.Proofs.YtmlhnjonmjmhdaaW.PrintMore
def orV : List Int → Int
  | [] => 0
  | x :: l => if x = 0 then orV l else x
set_option maxHeartbeats 1000000 in
theorem orI (A0 : Option Addr) (c0 : Nat) (l : List Int) (w : World) (hr0 : Kd.C (Kd.int .i64) w A0 l.length l) :
    Calls Try.prog 42 #[.slice A0 l.length c0] w fun e w' => e = .returned (.int .i64 (orV l)) ∧ w = w' := by
  have HR := Aside0.mk hr0
  have hl : l.length ≤ 9223372036854775807 := hr0.2.1
  clear hr0
  go_enter Try.func42, Try.ntmps42
  go_wp2
  go_loopg [5, 8] l.length (fun gg _ s8 wr => ∃ kk : Nat, kk ≤ l.length ∧ l.length - kk ≤ gg ∧ s8 = .int .i64 kk ∧ w = wr ∧ Aside0 (orV l = orV (l.drop kk)))
  case atStart => exact ⟨0, Nat.zero_le _, by omega, rfl, rfl, ⟨rfl⟩⟩
  case round =>
    obtain ⟨kk, hkk, hg, rfl, rfl, A⟩ := hrel
    by_cases hlt : kk < l.length
    · have hltz : (kk : Int) < (l.length : Int) := by omega
      obtain ⟨y, hy⟩ := at_some hlt
      obtain ⟨ad, e1, hx⟩ := at_int HR.out hy
      cases e1
      have HA := Aside0.mk (A.out.trans (by rw [drop_cons hy]))
      clear A hy
      by_cases hq : y = 0
      · subst hq
        go_wp2
        go_roundg (l.length - (kk + 1))
        case measure => omega
        case rel => exact ⟨kk + 1, by omega, by omega, by go_num, rfl, ⟨by rw [HA.out, orV, if_pos rfl]⟩⟩
      · have HQ := Aside0.mk hq
        go_wp2
        go_ret
        exact ⟨by rw [HA.out, orV, if_neg hq]; rfl, rfl⟩
    · have hltz : ¬ (kk : Int) < (l.length : Int) := by omega
      obtain rfl : kk = l.length := by omega
      go_wp2
      go_ret
      exact ⟨by rw [A.out]; simp [orV], rfl⟩
def cfP (x y : IPair) : Int := orV [Lib.compareInt x.fst y.fst, Lib.compareInt x.snd y.snd]
set_option maxHeartbeats 4000000 in
set_option maxRecDepth 100000 in
theorem cleanCmp (x y : IPair) (W : World) :
    Calls Try.prog 41 #[.agg #[.int .i64 x.fst, .int .i64 x.snd], .agg #[.int .i64 y.fst, .int .i64 y.snd]] W fun e w' => e = .returned (.int .i64 (cfP x y)) ∧ ∃ q os', w' = grow (W.drewN q) os' := by
  have hc1 := Try.cmp_Compare_int x.fst y.fst
  have hc2 := Try.cmp_Compare_int x.snd y.snd
  unfold cfP
  generalize Lib.compareInt x.fst y.fst = r1 at hc1 ⊢
  generalize Lib.compareInt x.snd y.snd = r2 at hc2 ⊢
  go_enter Try.func41, Try.ntmps41
  go_wp2
  obtain ⟨ww, hww⟩ : ∃ ww, ww = ((W.alloc (.cells #[.int .i64 x.fst, .int .i64 x.snd] 27)).alloc (.cells #[.int .i64 y.fst, .int .i64 y.snd] 27)).drew := ⟨_, rfl⟩
  have g0 : ww.heap[W.heap.size]? = some (.cells #[.int .i64 x.fst, .int .i64 x.snd] 27 (0, 0)) := hww ▸ blk_alloc (blk_new W _) _
  have g1 : ww.heap[W.heap.size + 1]? = some (.cells #[.int .i64 y.fst, .int .i64 y.snd] 27 (0, 0)) := by
    have := blk_new (W.alloc (.cells #[.int .i64 x.fst, .int .i64 x.snd] 27)) (.cells #[.int .i64 y.fst, .int .i64 y.snd] 27)
    rw [show (W.alloc (.cells #[.int .i64 x.fst, .int .i64 x.snd] 27)).heap.size = W.heap.size + 1 by simp] at this
    exact hww ▸ this
  have hS0 : (ww.cell? ⟨W.heap.size, 0, none⟩ = some (.int .i64 x.fst) ∧ ww.cell? ⟨W.heap.size, 1, none⟩ = some (.int .i64 x.snd)) ∧ (ww.cell? ⟨W.heap.size + 1, 0, none⟩ = some (.int .i64 y.fst) ∧ ww.cell? ⟨W.heap.size + 1, 1, none⟩ = some (.int .i64 y.snd)) := ⟨⟨(blk_cell g0 0).trans rfl, (blk_cell g0 1).trans rfl⟩, ⟨(blk_cell g1 0).trans rfl, (blk_cell g1 1).trans rfl⟩⟩
  have HSa : Aside0 (∀ o : Obj, ((ww.alloc o).cell? ⟨W.heap.size, 0, none⟩ = some (.int .i64 x.fst) ∧ (ww.alloc o).cell? ⟨W.heap.size, 1, none⟩ = some (.int .i64 x.snd)) ∧ ((ww.alloc o).cell? ⟨W.heap.size + 1, 0, none⟩ = some (.int .i64 y.fst) ∧ (ww.alloc o).cell? ⟨W.heap.size + 1, 1, none⟩ = some (.int .i64 y.snd))) := ⟨fun o => ⟨⟨(blk_cell (blk_alloc g0 o) 0).trans rfl, (blk_cell (blk_alloc g0 o) 1).trans rfl⟩, ⟨(blk_cell (blk_alloc g1 o) 0).trans rfl, (blk_cell (blk_alloc g1 o) 1).trans rfl⟩⟩⟩
  have HWW := Aside0.mk hww
  have hS := hS0
  rw [hww] at hS
  clear hww g0 g1
  refine start_ (n := 13) (S := fun w' => (w'.cell? ⟨W.heap.size, 0, none⟩ = some (.int .i64 x.fst) ∧ w'.cell? ⟨W.heap.size, 1, none⟩ = some (.int .i64 x.snd)) ∧ (w'.cell? ⟨W.heap.size + 1, 0, none⟩ = some (.int .i64 y.fst) ∧ w'.cell? ⟨W.heap.size + 1, 1, none⟩ = some (.int .i64 y.snd))) (ds := []) (bl 13 0) (by kernel_rfl) rfl rfl hS (fun hHeld => ?_)
  clear hS
  rw [← HWW.out] at hHeld ⊢
  refine pure_ (i := 0) (N := some 5) (v := ?_) (a' := ?_) (bl 13 1) rfl rfl (by kernel_rfl) (fun _ _ _ h => h) (Or.inl ⟨by rfl, ?_⟩) ?_ ?_
  rotate_left
  · intro w'
    go_simp
    with_reducible rfl
  rotate_left
  · simp only [Act.put, sA, sZ, sS]
    rfl
  refine pure_ (i := 2) (N := some 7) (v := ?_) (a' := ?_) (bl 13 5) rfl rfl (by kernel_rfl) (fun _ _ _ h => h) (Or.inl ⟨by rfl, ?_⟩) ?_ ?_
  rotate_left
  · intro w'
    go_simp
    with_reducible rfl
  rotate_left
  · simp only [Act.put, sA, sZ, sS]
    rfl
  refine pure_ (i := 5) (N := some 10) (v := ?_) (a' := ?_) (bl 13 37) rfl rfl (by kernel_rfl) (fun _ _ _ h => h) (Or.inl ⟨by rfl, ?_⟩) ?_ ?_
  rotate_left
  · intro w'
    go_simp
    with_reducible rfl
  rotate_left
  · simp only [Act.put, sA, sZ, sS]
    rfl
  refine pure_ (i := 7) (N := some 12) (v := ?_) (a' := ?_) (bl 13 165) rfl rfl (by kernel_rfl) (fun _ _ _ h => h) (Or.inl ⟨by rfl, ?_⟩) ?_ ?_
  rotate_left
  · intro w'
    go_simp
    with_reducible rfl
  rotate_left
  · simp only [Act.put, sA, sZ, sS]
    rfl
  refine take_ (i := 1) (N := some 6) (v := ?_) (a' := ?_) (bl 13 167) rfl rfl (by kernel_rfl) (fun _ _ _ h => h) (Or.inl ⟨by rfl, ?_⟩) hHeld ?_ ?_
  rotate_left
  · intro w' hSw
    (try dsimp only at hSw)
    go_split_ands
    go_simp
    with_reducible rfl
  rotate_left
  · simp only [Act.put, sA, sZ, sS]
    rfl
  refine take_ (i := 3) (N := some 8) (v := ?_) (a' := ?_) (bl 13 175) rfl rfl (by kernel_rfl) (fun _ _ _ h => h) (Or.inl ⟨by rfl, ?_⟩) hHeld ?_ ?_
  rotate_left
  · intro w' hSw
    (try dsimp only at hSw)
    go_split_ands
    go_simp
    with_reducible rfl
  rotate_left
  · simp only [Act.put, sA, sZ, sS]
    rfl
  refine take_ (i := 6) (N := some 11) (v := ?_) (a' := ?_) (bl 13 239) rfl rfl (by kernel_rfl) (fun _ _ _ h => h) (Or.inl ⟨by rfl, ?_⟩) hHeld ?_ ?_
  rotate_left
  · intro w' hSw
    (try dsimp only at hSw)
    go_split_ands
    go_simp
    with_reducible rfl
  rotate_left
  · simp only [Act.put, sA, sZ, sS]
    rfl
  refine take_ (i := 8) (N := some 13) (v := ?_) (a' := ?_) (bl 13 495) rfl rfl (by kernel_rfl) (fun _ _ _ h => h) (Or.inl ⟨by rfl, ?_⟩) hHeld ?_ ?_
  rotate_left
  · intro w' hSw
    (try dsimp only at hSw)
    go_split_ands
    go_simp
    with_reducible rfl
  rotate_left
  · simp only [Act.put, sA, sZ, sS]
    rfl
  refine one_ (i := 4) (N := some 9) (bl 13 511) rfl rfl (by kernel_rfl) (by decide) (fun K hK => ?_)
  refine goes_ Try.func43 (by kernel_rfl) rfl #[.int .i64 x.fst, .int .i64 y.fst] (by rfl) rfl rfl (by (try simp only [List.map_toArray, List.map_cons, List.map_nil]); first | done | rfl) ?_
  refine (hc1 _).mono ?_
  rintro e w1 ⟨rfl, hw1⟩
  (first | rw [hw1] | rw [← hw1])
  clear hw1
  refine ⟨_, rfl, ?_⟩
  refine hK.out _ _ hS0 (fun hHeld => ?_)
  clear hK K
  refine norm_ (a' := ?_) ?_ ?_
  rotate_left
  · show Act.put _ (some 9) _ = _
    simp only [Act.put, sA, sZ, sS]
    rfl
  refine one_ (i := 9) (N := some 14) (bl 13 1023) rfl rfl (by kernel_rfl) (by decide) (fun K hK => ?_)
  refine goes_ Try.func43 (by kernel_rfl) rfl #[.int .i64 x.snd, .int .i64 y.snd] (by rfl) rfl rfl (by (try simp only [List.map_toArray, List.map_cons, List.map_nil]); first | done | rfl) ?_
  refine (hc2 _).mono ?_
  rintro e w1 ⟨rfl, hw1⟩
  (first | rw [hw1] | rw [← hw1])
  clear hw1
  refine ⟨_, rfl, ?_⟩
  refine hK.out _ _ hS0 (fun hHeld => ?_)
  clear hK K
  refine norm_ (a' := ?_) ?_ ?_
  rotate_left
  · show Act.put _ (some 14) _ = _
    simp only [Act.put, sA, sZ, sS]
    rfl
  refine one_ (i := 10) (N := some 15) (bl 13 2047) rfl rfl (by kernel_rfl) (by decide) (fun K hK => ?_)
  refine value_ (v := .slice (some ⟨ww.heap.size, 0, none⟩) 2 2) (w1 := ww.alloc (.cells #[.int .i64 r1, .int .i64 r2] 3)) (by rfl) rfl ?_ ?_
  · go_simp
  have hS1 := HSa.out (.cells #[.int .i64 r1, .int .i64 r2] 3)
  refine hK.out _ _ hS1 (fun hHeld => ?_)
  clear hK K
  refine norm_ (a' := ?_) ?_ ?_
  rotate_left
  · show Act.put _ (some 15) _ = _
    simp only [Act.put, sA, sZ, sS]
    rfl
  refine one_ (i := 11) (N := some 16) (bl 13 4095) rfl rfl (by kernel_rfl) (by decide) (fun K hK => ?_)
  refine goes_ Try.func42 (by kernel_rfl) rfl #[.slice (some ⟨ww.heap.size, 0, none⟩) 2 2] (by rfl) rfl rfl (by (try simp only [List.map_toArray, List.map_cons, List.map_nil]); first | done | rfl) ?_
  refine (orI _ 2 [r1, r2] _ (C_cells (blk_new _ _) (Kd.reps_scalar [r1, r2]) (by simp))).mono ?_
  rintro e w1 ⟨rfl, hw1⟩
  (first | rw [hw1] | rw [← hw1])
  clear hw1
  refine ⟨_, rfl, ?_⟩
  refine hK.out _ _ hS1 (fun hHeld => ?_)
  clear hK K
  refine norm_ (a' := ?_) ?_ ?_
  rotate_left
  · show Act.put _ (some 16) _ = _
    simp only [Act.put, sA, sZ, sS]
    rfl
  refine pure_ (i := 12) (N := some 4) (v := ?_) (a' := ?_) (bl 13 8191) rfl rfl (by kernel_rfl) (fun _ _ _ h => h) (Or.inl ⟨by rfl, ?_⟩) ?_ ?_
  rotate_left
  · intro w'
    go_simp
    with_reducible rfl
  rotate_left
  · simp only [Act.put, sA, sZ, sS]
    rfl
  refine done_ (by kernel_rfl) ?_
  go_wp2
  go_ret
  exact ⟨rfl, 1, #[.cells #[.int .i64 x.fst, .int .i64 x.snd] 27, .cells #[.int .i64 y.fst, .int .i64 y.snd] 27, .cells #[.int .i64 r1, .int .i64 r2] 3], by
    have e0 : ((W.alloc (.cells #[.int .i64 x.fst, .int .i64 x.snd] 27)).alloc (.cells #[.int .i64 y.fst, .int .i64 y.snd] 27)).drew = grow (W.drewN 1) (#[.cells #[.int .i64 x.fst, .int .i64 x.snd] 27] ++ #[.cells #[.int .i64 y.fst, .int .i64 y.snd] 27]) := by
      rw [alloc_eq_grow, alloc_eq_grow, grow_grow]; rfl
    rw [HWW.out, e0, alloc_eq_grow, grow_grow]
    rfl⟩
end Go.Proofs.Ytmlhnjonmjmhdaa.H
/- what slices.SortFunc leaves of a row of elements without rows -/
namespace Go.Proofs.Ytmlhnjonmjmhdaa.H
open Go.RowKit Go.Sort Go.Proofs.YtmlhnjonmjmhdaaW.PrintWords Go.Proofs.YtmlhnjonmjmhdaaW.PrintLast Go.Proofs.YtmlhnjonmjmhdaaW.PrintMore
section
variable {α : Type} [Inhabited α] {d : Kd α} {c : α → List Value}
theorem Flat.flatK (F : Flat d c) (l : List α) : flatK c d.sz l.toArray = (l.flatMap c).toArray := by
  apply Array.ext'
  apply List.ext_getElem?
  intro t
  have hp := F.pos
  by_cases ht : t < l.length * d.sz
  · have hi : t / d.sz < l.length := (Nat.div_lt_iff_lt_mul hp).2 ht
    have hm : t % d.sz < d.sz := Nat.mod_lt _ hp
    have h2 := F.fget (List.getElem?_eq_getElem hi)
    have h3 : (l.flatMap c)[t]? = (c (l[t / d.sz]'hi))[t % d.sz]? := by
      rw [← h2, List.getElem?_take, if_pos hm, List.getElem?_drop, Nat.mul_comm, Nat.div_add_mod]
    have e1 : l.toArray[t / d.sz]! = l[t / d.sz]'hi := by
      rw [getElem!_pos l.toArray _ (by simpa using hi)]
      simp
    have e2 : (c (l[t / d.sz]'hi))[t % d.sz]? = some (c (l[t / d.sz]'hi))[t % d.sz]! := by
      have hlt : t % d.sz < (c (l[t / d.sz]'hi)).length := by rw [F.len]; exact hm
      rw [getElem!_pos (c (l[t / d.sz]'hi)) (t % d.sz) hlt, List.getElem?_eq_getElem hlt]
    rw [h3]
    simp only [Go.Sort.flatK, Array.toList_map, Array.toList_range, List.getElem?_map, List.size_toArray]
    rw [List.getElem?_range ht, Option.map_some, e1]
    exact e2.symm
  · rw [List.getElem?_eq_none (by simp [Go.Sort.flatK]; omega), List.getElem?_eq_none (by simp [F.flen]; omega)]
theorem Flat.holdsK (F : Flat d c) {e : Nat} {w : World} {base : Nat} {ok : Nat → Prop} {g n cap : Nat} {l : List α} (h : d.R e w base ok (.slice (some ⟨g, 0, none⟩) n cap) l) : HoldsK c d.sz w g 0 l.toArray := by
  obtain ⟨cur, B⟩ := F.blk h
  unfold HoldsK
  rw [F.flatK]
  refine so_holds B.heap ?_
  rw [List.map_id, F.flen, ← B.len]
  exact B.take
theorem Flat.sortRow (F : Flat d c) {e : Nat} {w : World} {base : Nat} {ok : Nat → Prop} {g n cap : Nat} {l : List α} (h : d.R e w base ok (.slice (some ⟨g, 0, none⟩) n cap) l) (l' : List α) (hl : l'.length = l.length) (m : Nat) (os : Array Obj) :
    d.R e (sortWorldK c d.sz w g 0 m l'.toArray os) base ok (.slice (some ⟨g, 0, none⟩) n cap) l' ∧ w.grownBy (sortWorldK c d.sz w g 0 m l'.toArray os) (some g) := by
  obtain ⟨cur, B⟩ := F.blk h
  have hn := B.len
  have hcs : l'.length * d.sz ≤ cur.size := by rw [B.size, hl, ← hn]; exact Nat.mul_le_mul_right _ B.le
  refine ⟨?_, so_grown (enc := id) (Go.Sort.flatK c d.sz l'.toArray)⟩
  refine F.row (cur := putCells id 0 (Go.Sort.flatK c d.sz l'.toArray) cur) ⟨by omega, B.okg, B.bas, so_heap (enc := id) _ B.heap, B.le, B.max, by rw [← B.size]; simp [putCells], ?_⟩
  rw [F.flatK]
  have := so_take (enc := id) cur (l'.flatMap c) (l'.flatMap c).length (Nat.le_refl _) (by rw [F.flen]; exact hcs)
  rw [List.map_id, List.take_length, F.flen] at this
  rw [hn, ← hl]
  exact this
end
end Go.Proofs.Ytmlhnjonmjmhdaa.H
/- graph.Clean -/
namespace Go.Proofs.Ytmlhnjonmjmhdaa.H
open Go.RowKit Go.Sort Go.Shelf Go.Proofs.YtmlhnjonmjmhdaaW.PrintWords Go.Proofs.YtmlhnjonmjmhdaaW.PrintLast Go.Proofs.YtmlhnjonmjmhdaaW.PrintMore
set_option maxHeartbeats 4000000 in
/-- slices.IndexFunc at [2]int, a struct -/
theorem IndexFuncIPair (g : Nat) (lb : Array Value) (eg : ∀ args w, (callFunc g args).run Try.prog w = .ok (.enter g args) w) (p : IPair → Bool)
    (A0 : Option Addr) (c0 : Nat) (l0 : List IPair) (w : World) (hr0 : Kd.C k27 w A0 l0.length l0) (hp : PredA Try.prog g lb k27 p w l0) :
    Calls Try.prog 58 #[.slice A0 l0.length c0, .func (.func g) #[] lb] w fun e w' => e = .returned (.int .i64 (idxP p l0 0)) ∧ Below w.heap.size w w' := by
  have HR := Aside0.mk hr0
  have HP := Aside0.mk hp
  have hl : l0.length ≤ 9223372036854775807 := hr0.2.1
  clear hr0 hp
  go_enter Try.func58, Try.ntmps58
  go_wp2
  go_loopg [5, 8] l0.length (fun gg _ s8 wr => ∃ kk : Nat, kk ≤ l0.length ∧ l0.length - kk ≤ gg ∧ s8 = .int .i64 kk ∧ Aside0 (Below w.heap.size w wr) ∧ Aside0 (idxP p l0 0 = idxP p (l0.drop kk) kk))
  case atStart => exact ⟨0, Nat.zero_le _, by omega, rfl, ⟨Below.refl _ w⟩, ⟨rfl⟩⟩
  case round =>
    obtain ⟨kk, hkk, hg, rfl, BW, A⟩ := hrel
    by_cases hlt : kk < l0.length
    · have hltz : (kk : Int) < (l0.length : Int) := by omega
      obtain ⟨y, hy⟩ := at_some hlt
      have hat := at_IPair HR.out hy
      have HA := Aside0.mk (A.out.trans (by rw [drop_cons hy]))
      have hym := List.mem_of_getElem? hy
      clear A hy
      obtain ⟨ad, e1, hx0, hx1⟩ := hat
      cases e1
      replace hx0 := Below.old BW.out hx0; replace hx1 := Below.old BW.out hx1
      have hcall := HP.out wr y [.int .i64 y.fst, .int .i64 y.snd] hym BW.out (k27_mk wr y )
      cases hq : p y with
      | true =>
        rw [hq] at hcall
        go_wp2_with (go_at_fn g; refine hcall.mono ?_; rintro e w' ⟨rfl, hb'⟩)
        go_ret
        exact ⟨by rw [HA.out, idxP, if_pos hq]; rfl, Below.then BW.out hb'⟩
      | false =>
        rw [hq] at hcall
        go_wp2_with (go_at_fn g; refine hcall.mono ?_; rintro e w' ⟨rfl, hb'⟩)
        go_roundg (l0.length - (kk + 1))
        case measure => omega
        case rel => exact ⟨kk + 1, by omega, by omega, by go_num, ⟨Below.then BW.out hb'⟩, ⟨by rw [HA.out, idxP, if_neg (by rw [hq]; decide)]⟩⟩
    · have hltz : ¬ (kk : Int) < (l0.length : Int) := by omega
      obtain rfl : kk = l0.length := by omega
      go_wp2
      go_ret
      exact ⟨by rw [A.out]; simp [idxP], BW.out⟩
/-- slices.ContainsFunc at [2]int -/
theorem ContainsFuncIPair (g : Nat) (lb : Array Value) (eg : ∀ args w, (callFunc g args).run Try.prog w = .ok (.enter g args) w) (p : IPair → Bool)
    (A0 : Option Addr) (c0 : Nat) (l0 : List IPair) (w : World) (hr0 : Kd.C k27 w A0 l0.length l0) (hp : PredA Try.prog g lb k27 p w l0) :
    Calls Try.prog 37 #[.slice A0 l0.length c0, .func (.func g) #[] lb] w fun e w' => e = .returned (.bool (l0.any p)) ∧ Below w.heap.size w w' := by
  have HR := Aside0.mk hr0
  have HP := Aside0.mk hp
  clear hr0 hp
  go_enter Try.func37, Try.ntmps37
  go_wp2_with (go_at_call 58; go_must (refine (IndexFuncIPair g lb eg p _ _ _ _ HR.out HP.out).mono ?_); rintro e w' ⟨rfl, hb⟩)
  go_ret
  exact ⟨by rw [← idxP_any]; rfl, hb⟩
instance : Inhabited IPair := ⟨⟨0, 0⟩⟩
def inW (n x : Int) : Bool := decide (0 ≤ x) && decide (x < n)
def outP (n : Int) (e : IPair) : Bool := !inW n e.fst || !inW n e.snd
theorem cleanW (n x : Int) (gn : Nat) (W : World) (hc : W.cell? ⟨gn, 0, none⟩ = some (.int .i64 n)) :
    Calls Try.prog 36 #[.int .i64 x, .pointer (some ⟨gn, 0, none⟩)] W fun e w' => e = .returned (.bool (inW n x)) ∧ W = w' := by
  by_cases h0 : 0 ≤ x
  · by_cases h1 : x < n
    · have e : inW n x = true := by simp [inW, h0, h1]
      have HE := Aside0.mk e
      clear e
      go_enter Try.func36, Try.ntmps36
      go_wp2
      go_ret
      exact ⟨by rw [HE.out]; rfl, rfl⟩
    · have e : inW n x = false := by simp [inW, h1]
      have HE := Aside0.mk e
      clear e
      go_enter Try.func36, Try.ntmps36
      go_wp2
      go_ret
      exact ⟨by rw [HE.out]; rfl, rfl⟩
  · have e : inW n x = false := by simp [inW, h0]
    have HE := Aside0.mk e
    clear e
    go_enter Try.func36, Try.ntmps36
    go_wp2
    go_ret
    exact ⟨by rw [HE.out]; rfl, rfl⟩
set_option maxHeartbeats 1000000 in
set_option maxRecDepth 100000 in
theorem cleanO (n : Int) (gn gw : Nat) (w : World) (l : List IPair) (hc : w.cell? ⟨gn, 0, none⟩ = some (.int .i64 n)) (hw : w.cell? ⟨gw, 0, none⟩ = some (.func (.func 36) #[] #[.pointer (some ⟨gn, 0, none⟩)])) :
    PredA Try.prog 38 #[.pointer (some ⟨gw, 0, none⟩)] k27 (outP n) w l := by
  intro W x cs _ hb hK
  have hu := Try.underlying27
  obtain rfl := k27_open hK
  have e1 := Below.old hb hc
  have e2 := Below.old hb hw
  have hB1 : gn < W.heap.size := World.block_lt_of_cell? _ _ e1
  have hB2 : gw < W.heap.size := World.block_lt_of_cell? _ _ e2
  clear hb hK hc hw
  have HB := Aside0.mk (below_alloc (Below.refl W.heap.size W) (.cells #[.int .i64 x.fst, .int .i64 x.snd] 27))
  have hcell := e1
  have q0 := (blk_cell (blk_new W (.cells #[.int .i64 x.fst, .int .i64 x.snd] 27)) 0).trans rfl
  have hA : (W.alloc (.cells #[.int .i64 x.fst, .int .i64 x.snd] 27)).cell? ⟨gn, 0, none⟩ = some (.int .i64 n) := Below.old HB.out e1
  clear q0 hcell
  unfold outP
  cases h1 : inW n x.fst
  case' true => cases h2 : inW n x.snd
  all_goals go_enter Try.func38, Try.ntmps38
  all_goals go_wp2_with (go_at_call 36; go_must (refine (cleanW n _ gn _ hA).mono ?_); rintro e w' ⟨rfl, rfl⟩)
  all_goals (go_ret; exact ⟨rfl, HB.out⟩)
theorem R_emptyP (e : Nat) (w : World) (base : Nat) (hb : base ≤ w.heap.size) : k27.R e (w.alloc (.cells #[] e)) base (fun _ => True) (.slice (some ⟨w.heap.size, 0, none⟩) 0 0) [] :=
  flatIPair.row (cur := #[]) ⟨rfl, trivial, hb, blk_new _ _, Nat.le_refl _, by decide, by simp, by simp⟩
set_option maxRecDepth 100000 in
theorem cloneP (A0 : Option Addr) (c0 : Nat) (l0 : List IPair) (w : World) (hr0 : Kd.C k27 w A0 l0.length l0) (hz : l0.length * 16 ≤ 140737488355328) :
    Calls Try.prog 39 #[.slice A0 l0.length c0] w fun e w' => ∃ v0_ : Value, e = .returned v0_ ∧ Kd.R k27 27 w' w.heap.size (fun _ => True) v0_ l0 ∧ Below w.heap.size w w' := by
  have HR := Aside0.mk hr0
  clear hr0
  have q1 : ∀ (W : World) (n c : Nat), (binOp .eql 24 (.slice none n c) (.slice none 0 0)).run Try.prog W = .ok (.bool true) W := fun _ _ _ => rfl
  have q2 : ∀ (W : World) (a : Addr) (n c : Nat), (binOp .eql 24 (.slice (some a) n c) (.slice none 0 0)).run Try.prog W = .ok (.bool false) W := fun _ _ _ _ => rfl
  cases A0 with
  | none =>
    have h0 : l0 = [] := by
      rcases Nat.eq_zero_or_pos l0.length with h0 | h0
      · exact List.length_eq_zero_iff.1 h0
      · obtain ⟨ad, e, _⟩ := HR.out.2.2 h0
        cases e
    subst h0
    go_enter Try.func39, Try.ntmps39
    go_wp2
    go_ret
    exact ⟨_, rfl, Kd.R_nil _ _ _ _ _, Below.refl _ _⟩
  | some a =>
    go_enter Try.func39, Try.ntmps39
    have HE := Aside0.mk (R_emptyP 27 w w.heap.size (Nat.le_refl _))
    have HB := Aside0.mk (below_alloc (Below.refl w.heap.size w) (.cells #[] 27))
    go_wp2_with (at_builtin; go_must (refine Kd.R_append_rows k27 (Rr := k27.K (w.alloc (.cells #[] 27))) (w0 := w) w.heap.size rfl (.tmp 5) (.tmp 6) 24 27 _ 16 rfl Try.underlying24 info27 rfl (by decide) (by omega) (.slice (some ⟨w.heap.size, 0, none⟩) 0 0) [] l0 (some a) l0.length c0 (fun _ => True) (fun _ => False) (by go_simp) (by go_simp) HE.out (Kd.C_alloc HR.out _) (fun x cs hk => flatIPair.M.2 (flatIPair.K.1 hk)) (fun _ h => h.elim) (fun _ _ => trivial) HB.out (by simp) (by simp; omega) ?_); intro v1 w1 hr1 hb1 hg1 hat1; have HR1 := Aside0.mk hr1; have HB1 := Aside0.mk hb1; clear hr1 hb1 hg1 hat1)
    go_ret
    exact ⟨_, rfl, HR1.out, HB1.out⟩
def lexLt (x y : IPair) : Prop := x.fst < y.fst ∨ x.fst = y.fst ∧ x.snd < y.snd
def lexLe (x y : IPair) : Prop := x.fst < y.fst ∨ x.fst = y.fst ∧ x.snd ≤ y.snd
instance (x y : IPair) : Decidable (lexLt x y) := by unfold lexLt; infer_instance
instance (x y : IPair) : Decidable (lexLe x y) := by unfold lexLe; infer_instance
theorem ltP (x y : IPair) : ltOf cfP x y = decide (lexLt x y) := by
  have hc : ∀ a b : Int, Lib.compareInt a b = if a < b then -1 else if b < a then 1 else 0 := by
    intro a b
    unfold Lib.compareInt
    repeat' split
    all_goals first | rfl | omega
  have hv : cfP x y = if x.fst < y.fst then -1 else if y.fst < x.fst then 1 else if x.snd < y.snd then -1 else if y.snd < x.snd then 1 else 0 := by
    unfold cfP
    rw [hc, hc]
    unfold orV orV orV
    repeat' split
    all_goals omega
  unfold ltOf
  rw [hv, Bool.eq_iff_iff, decide_eq_true_iff, decide_eq_true_iff]
  unfold lexLt
  repeat' split
  all_goals omega
theorem ltP_t {x y : IPair} : ltOf cfP x y = true ↔ lexLt x y := by rw [ltP, decide_eq_true_iff]
theorem ltP_f {x y : IPair} : ltOf cfP x y = false ↔ ¬ lexLt x y := by rw [ltP, decide_eq_false_iff_not]
theorem swoP : SWO (ltOf cfP) where
  irrefl x := by rw [ltP_f]; unfold lexLt; omega
  trans x y z h1 h2 := by rw [ltP_t] at *; unfold lexLt at *; omega
  ntrans x y z h1 h2 := by rw [ltP_f] at *; unfold lexLt at *; omega
theorem lexLe_anti {x y : IPair} (h : lexLe x y) (k : lexLe y x) : x = y := by
  obtain ⟨a, b⟩ := x
  obtain ⟨c, d⟩ := y
  unfold lexLe at h k
  simp only at h k
  have h1 : a = c := by omega
  have h2 : b = d := by omega
  rw [h1, h2]
def sortL (l : List IPair) : List IPair := l.mergeSort fun x y => decide (lexLe x y)
theorem sortL_pw (l : List IPair) : (sortL l).Pairwise lexLe := by
  have := List.pairwise_mergeSort (le := fun x y : IPair => decide (lexLe x y)) (by intro a b c; simp only [decide_eq_true_eq]; unfold lexLe; omega) (by intro a b; simp only [Bool.or_eq_true, decide_eq_true_eq]; unfold lexLe; omega) l
  exact this.imp (fun h => by simpa using h)
theorem sortL_perm (l : List IPair) : (sortL l).Perm l := List.mergeSort_perm _ _
theorem sortL_eq {l l' : List IPair} (hp : l'.Perm l) (hs : l'.Pairwise lexLe) : l' = sortL l :=
  List.Perm.eq_of_pairwise (le := lexLe) (fun x y _ _ h k => lexLe_anti h k) hs (sortL_pw l) (hp.trans (sortL_perm l).symm)
theorem sortP (base : Nat) (ok : Nat → Prop) (v : Value) (l : List IPair) (w : World) (ho : Kd.R k27 27 w base ok v l) (hl : l.length < 4611686018427387904) :
    Calls Try.prog 40 #[v, .func (.func 41) #[] #[]] w fun e w' => e = .returned (.tuple #[]) ∧ Kd.R k27 27 w' base ok v (sortL l) ∧ w.grownBy w' v.ownBlock := by
  obtain ⟨A, c, rfl, hlc, hC⟩ := Kd.R_reads ho
  rcases Nat.eq_zero_or_pos l.length with h0 | h0
  · obtain rfl := List.length_eq_zero_iff.1 h0
    refine (AnyF.slices_SortFunc_none Try.laysSlF06_f40 A c _ w).mono ?_
    rintro e w' ⟨rfl, rfl⟩
    exact ⟨rfl, by simpa [sortL] using ho, World.grownBy.refl _ _⟩
  · obtain ⟨b, cap, e2, hbb, hbl, cells0, hcells0⟩ := Kd.R_form ho h0
    cases e2
    have hcon := Try.slices_SortFunc (α := IPair) 2 (fun w => by kernel_rfl) (fun w => by kernel_rfl) cIPair (fun _ => rfl) flatIPair.one cfP swoP 41 #[] b 0 c l.toArray w (fun args w => enters_ Try.func41 (by kernel_rfl) rfl args w) (fun m os dk _ x y => cleanCmp x y _) (flatIPair.holdsK ho) hbl (by simpa using hl)
    rw [List.size_toArray] at hcon
    refine hcon.mono ?_
    rintro e w' ⟨rfl, d', n, os, hp, hs, rfl⟩
    obtain ⟨hp1, -, hp3⟩ := hp
    have hd : d' = d'.toList.toArray := by simp
    have hperm : d'.toList.Perm l := by
      have hp2 : d'.size = l.length := by simpa using hp1
      have e1 : d'.extract 0 l.length = d' := by rw [← hp2]; simp
      have e2 : l.toArray.extract 0 l.length = l.toArray := by simp
      rw [e1, e2] at hp3
      simpa using hp3
    have hsort : d'.toList.Pairwise lexLe := by
      rw [List.pairwise_iff_getElem]
      intro i j hi hj hij
      have h := hs i j (Nat.zero_le _) hij (by have hp2 : d'.size = l.length := by simpa using hp1
                                               have : j < d'.size := by simpa using hj
                                               omega)
      rw [ltP, getElem!_pos d' j (by simpa using hj), getElem!_pos d' i (by simpa using hi)] at h
      have h2 : ¬ lexLt d'[j] d'[i] := of_decide_eq_false h
      show lexLe d'[i] d'[j]
      unfold lexLt at h2
      unfold lexLe
      omega
    have heq := sortL_eq hperm hsort
    have hrow := flatIPair.sortRow ho d'.toList (by simpa using hp1) n os
    rw [← hd] at hrow
    rw [← heq]
    exact ⟨rfl, hrow.1, hrow.2⟩
theorem run_store_func (a : Addr) (f : Fn) (ts bs : Array Value) (m : Mode) (w : World) : (store a (.func f ts bs) m).run Try.prog w = stored Try.prog w a (.func f ts bs) m := run_store Try.prog w a _ m rfl
attribute [local go_sem] run_store_func
def cleanBad (n : Int) (l : List IPair) : Bool := decide (n < 0) || (decide (1000 < n) || l.any (outP n))
def graph_Clean.f (n : Int) (l : List IPair) : Option (List IPair × Int) := if l.length ≤ 1000000 then some (if cleanBad n l then ([], 1) else (dd (sortL l), 0)) else none
set_option maxRecDepth 100000 in
set_option maxHeartbeats 4000000 in
theorem graph_Clean.calls (a0 : Int) (A1 : Option Addr) (c1 : Nat) (l1 : List IPair) (r1 : List IPair) (r2 : Int) (w : World) (hr1 : Kd.C k27 w A1 l1.length l1) (hc1 : l1.length ≤ c1) (h : graph_Clean.f a0 l1 = some (r1, r2)) :
    Calls Try.prog 16 #[.int .i64 a0, .slice A1 l1.length c1] w fun e w' => ∃ v0_ : Value, e = .returned (.tuple #[v0_, .int .i64 r2]) ∧ Kd.R k27 27 w' w.heap.size (fun _ => True) v0_ r1 ∧ Below w.heap.size w w' := by
  unfold graph_Clean.f at h
  split at h
  case isFalse => cases h
  rename_i hlen
  have HR := Aside0.mk hr1
  clear hr1
  have fin : ∀ (W : World), Below w.heap.size w W → cleanBad a0 l1 = true → (∃ v0_ : Value, (Ending.returned (.tuple #[.slice none 0 0, .int .i64 1])) = .returned (.tuple #[v0_, .int .i64 r2]) ∧ Kd.R k27 27 W w.heap.size (fun _ => True) v0_ r1 ∧ Below w.heap.size w W) := by
    intro W hB hb
    rw [if_pos hb] at h
    cases h
    exact ⟨_, rfl, Kd.R_nil _ _ _ _ _, hB⟩
  have BA := Aside0.mk (below_alloc (below_alloc (Below.refl w.heap.size w) (.cells #[.int .i64 a0] 3)) (.cells #[.func (.func 36) #[] #[.pointer (some ⟨w.heap.size, 0, none⟩)]] 76))
  by_cases h0 : a0 < 0
  · have HF := Aside0.mk (fin _ BA.out (by simp [cleanBad, h0]))
    clear h fin BA
    go_enter Try.func16, Try.ntmps16
    go_wp2
    go_ret2
    exact HF.out
  · by_cases h1 : 1000 < a0
    · have HF := Aside0.mk (fin _ BA.out (by simp [cleanBad, h1]))
      clear h fin BA
      go_enter Try.func16, Try.ntmps16
      go_wp2
      go_ret2
      exact HF.out
    · have hs : (w.alloc (.cells #[.int .i64 a0] 3)).heap.size = w.heap.size + 1 := by simp
      have hsz2 : ((w.alloc (.cells #[.int .i64 a0] 3)).alloc (.cells #[.func (.func 36) #[] #[.pointer (some ⟨w.heap.size, 0, none⟩)]] 76)).heap.size = w.heap.size + 2 := by simp
      have HP := Aside0.mk (cleanO a0 w.heap.size (w.heap.size + 1) _ l1 ((blk_cell (blk_alloc (blk_new w (.cells #[.int .i64 a0] 3)) (.cells #[.func (.func 36) #[] #[.pointer (some ⟨w.heap.size, 0, none⟩)]] 76)) 0).trans rfl) ((blk_cell (hs ▸ blk_new (w.alloc (.cells #[.int .i64 a0] 3)) (.cells #[.func (.func 36) #[] #[.pointer (some ⟨w.heap.size, 0, none⟩)]] 76)) 0).trans rfl))
      have HC := Aside0.mk (Kd.C_below HR.out BA.out)
      have cnv : cleanBad a0 l1 = l1.any (outP a0) := by simp [cleanBad, h0, h1]
      have hlc := HR.out.2.1
      cases hq : l1.any (outP a0) with
      | true =>
        have HF := Aside0.mk fin
        have HQ := Aside0.mk (cnv.trans hq)
        clear h fin cnv
        go_enter Try.func16, Try.ntmps16
        go_wp2_with (go_at_call 37; go_must (refine (ContainsFuncIPair 38 _ (fun args w => enters_ Try.func38 (by kernel_rfl) rfl args w) (outP a0) A1 c1 l1 _ HC.out HP.out).mono ?_); rw [hq]; rintro e w2 ⟨rfl, hb2⟩; have B2 := Aside0.mk (Below.trans BA.out (Below.mono hb2 (by rw [hsz2]; omega))); clear hb2)
        go_ret2
        exact HF.out _ B2.out HQ.out
      | false =>
        rw [cnv, hq, if_neg (by decide)] at h
        cases h
        clear fin cnv
        go_enter Try.func16, Try.ntmps16
        go_wp2_with (go_at_call 37; go_must (refine (ContainsFuncIPair 38 _ (fun args w => enters_ Try.func38 (by kernel_rfl) rfl args w) (outP a0) A1 c1 l1 _ HC.out HP.out).mono ?_); rw [hq]; rintro e w2 ⟨rfl, hb2⟩; have B2 := Aside0.mk (Below.trans BA.out (Below.mono hb2 (by rw [hsz2]; omega))); clear hb2)
        go_wp2_with (go_at_call 39; go_must (refine (cloneP A1 c1 l1 _ (Kd.C_below HR.out B2.out) (by omega)).mono ?_); rintro e w3 ⟨v3, rfl, hr3, hb3⟩; have B3 := Aside0.mk (Below.trans B2.out (Below.mono hb3 B2.out.size)); have R3 := Aside0.mk (Kd.R_lower hr3 B2.out.size); clear hr3 hb3)
        go_wp2_with (go_at_call 40; go_must (refine (sortP w.heap.size _ v3 l1 _ R3.out (by omega)).mono ?_); rintro e w4 ⟨rfl, hr4, hg4⟩; have B4 := Aside0.mk (pw_below_grown B3.out _ B3.out.size hg4 (Kd.R_base R3.out)); have R4 := Aside0.mk hr4; clear hr4 hg4)
        go_wp2_with (go_at_call 44; go_must (refine (CompactP w.heap.size _ v3 (sortL l1) _ R4.out).mono ?_); rintro e w5 ⟨v5, rfl, hr5, hg5, hv5⟩; have B5 := Aside0.mk (pw_below_grown B4.out _ B4.out.size hg5 (Kd.R_base R4.out)); have R5 := Aside0.mk hr5; clear hr5 hg5)
        go_ret2
        exact ⟨_, rfl, R5.out, B5.out⟩
end Go.Proofs.Ytmlhnjonmjmhdaa.H
