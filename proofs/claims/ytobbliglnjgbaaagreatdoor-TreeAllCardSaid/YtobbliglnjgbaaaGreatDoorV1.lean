/-
  ! ### 46. Values that share: what is only read, with the blocks it lies in (its footprint 'ok'): Foot, F (a row that is read), FK (an element's cells)
  ! ### 47. N: a row of the call's own whose elements share (what they lead to is only read)
  ! ### 48. N's events: append, a whole row appended, zeros appended, literals, make, stores, cuts, an element taken out
  (WMore) printed by the kit's print for this seat; what is not reached is left out.
  ! ### 50. A region's order in a table, made once a region: each step asks the table (numbers alone), not the operations
  ! ### 56. Four, five, six operations that may come up next, in any order
  ! ### 52. A row that stays read whatever happens to a block (a set of blocks) doesn't lie there
  ! ### 54. Behind orders that were drawn quietly: the same facts at the world's new name; a flat row's foot
  ! ### 53. '==' of structs as_ one Bool
  ! ### 55. Reps told from the front, no append: for rows of one-cell elements and of wider ones
  ! ### 57. A region of open order by ONE relation over what is listed so far: each operation is shown once, whatever came up before it
  (WInvWords) printed by the kit's print for this seat; what is not reached is left out.
  ! ### 58. A guarded operation whose guard is known to want it: the same goal without the guard
  (WSized) printed by the kit's print for this seat; what is not reached is left out.
  (K0) printed by the kit's print for this seat; what is not reached is left out.
  A row of strings that is read; a predicate over strings that is handed over as a function value; slices.IndexFunc and slices.ContainsFunc at []string for such a predicate, whatever memory it makes.
  (Pa) printed by the kit's print for this seat; what is not reached is left out.
  The library contracts of the shelf, laid at this seat: tables of numbers and the kernel's comparisons, in plain words (printed by the shelf's tools).
  path.bad and path.May answer 'bad' and 'may' of the name's bytes, at every string; what was there stays.
  Functions of Go's library in the form in which the print asks for a callee: a Lean function on bytes and the contract; strings.Split at a separator of one byte, strings.Cut, strings.Join, strconv.Itoa.
  slices.DeleteFunc at []string over a row of the call's own: the row keeps what the predicate doesn't hold of; nothing but that row is written.
-/
import Derived.Laws.StructEq
import Derived.SizedLaws
import Derived.ChangeSlices
import Derived.Test.YtobbliglnjgbaaaGreatDoorProg
import Derived.Below
import Derived.Deep.Draws
import Derived.Deep.AppendLies
import Derived.Maps.AppendAt
import Derived.OwnWalk
import Derived.Laws.BytesArg
import Derived.Laws.MakeOwn
import Derived.Laws.OwnMore
import Derived.Deep.OwnRows
import Derived.Tactics
import Derived.Lib.ConvBytes
import Derived.Laws.Slices
import Derived.WalkKit
import Derived.KernelRfl
import Derived.RowKit3
import Derived.Deep.LoopGhost
import Derived.Deep.QuietTactic
import Derived.BigQuiet
import Derived.WideLaws
import Derived.Deep.DeepCutAuto
import Derived.Deep.CutBlock
import Derived.Deep.RegionHeld3
import Derived.Laws.Rows
import Derived.Lib.AppendStr
import Derived.ArgAppend
import Derived.Laws.IdiomCopy
import Derived.OrdersHeld
import Derived.Laws.BitsLemmas
import Derived.RowKit
import Derived.WalkLawsBesides
import Derived.Lib.Hide
import Derived.Shelf.Abstract
import Derived.Shelf.SlGeneric
import Derived.Shelf.Strings.Split
import Derived.Shelf.Strings.Cut
import Derived.Shelf.Strings.OnBuilder
import Derived.Shelf.LaysM
import Derived.Shelf.LaysC
import Derived.Shelf.GgClosure.StringsRunes
import Derived.Shelf.SlicesE.DeleteFunc
import Derived.Shelf.SlicesE.IndexFunc
import Derived.Shelf.Slices.Clone
import Derived.Shelf.Strconv.Itoa3
import Derived.Shelf.Strconv.AtoiAll
import Derived.Ground.NamesProg
import Derived.Ground.SlgfProg
import Derived.Ground.GgwProg
import Derived.Ground.Names2Prog
import Derived.Ground.SlmcProg
import Derived.Shelf.SlMaps.Clone
import Derived.Shelf.SlIter.Nil
import Derived.Shelf.SortM.Plain
import Derived.Shelf.SortM.SortNone
import Derived.Ground.GgzProg
import Derived.Ground.SlgmProg
import Derived.Laws.RangeAny
import Derived.Shelf.GgClosure.Gives
import Derived.Sort.Grow
import Derived.Test.YtobbliglnjgbaaaGreatDoorV0
namespace Go.Proofs.YtobbliglnjgbaaaGreatDoorW.PrintWords
open Go.RowKit
def Foot (P : World → Prop) (W : World) (ok : Nat → Prop) : Prop := ∀ W' : World, (∀ k, ok k → k < W.heap.size → W'.heap[k]? = W.heap[k]?) → P W'
theorem heap_lt {W W1 : World} {k : Nat} (h : W1.heap[k]? = W.heap[k]?) (hlt : k < W.heap.size) : k < W1.heap.size := by
 rw [Array.getElem?_eq_getElem hlt] at h
 exact (Array.getElem?_eq_some_iff.1 h).1
namespace Foot
variable {P Q : World → Prop} {W W1 : World} {ok ok' : Nat → Prop}
theorem mono (h : Foot P W ok) (hok : ∀ k, ok k → ok' k) : Foot P W ok' := fun W' hW => h W' (fun k hk hlt => hW k (hok k hk) hlt)
theorem step (h : Foot P W ok) (hm : ∀ k, ok k → k < W.heap.size → W1.heap[k]? = W.heap[k]?) : Foot P W1 ok := fun W' hW => h W' (fun k hk hlt => (hW k hk (heap_lt (hm k hk hlt) hlt)).trans (hm k hk hlt))
end Foot
namespace Kd
def F {α : Type} (d : Kd α) (W : World) (ok : Nat → Prop) (A : Option Addr) (n : Nat) (xs : List α) : Prop := Foot (fun W => d.C W A n xs) W ok
def FK {α : Type} (d : Kd α) (W : World) (ok : Nat → Prop) (x : α) (c : List Value) : Prop := Foot (fun W => d.K W x c) W ok
section
variable {α β : Type} {d : Kd α} {e base n n' cc g N : Nat} {ok ok' okp S : Nat → Prop} {w w0 w1 W W1 : World} {A A' : Option Addr} {u v v1 : Value} {xs : List α} {xs' : List β} {d' : Kd β} {x : α} {c : List Value}
theorem F_nil (d : Kd α) (W : World) (ok : Nat → Prop) : F d W ok none ([] : List α).length [] := fun W' _ => C_nil d W'
theorem FK_of_M (h : d.M W base ok x c) : FK d W ok x c := fun _ hW => d.K_of_M (M_step h hW)
end
end Kd
end Go.Proofs.YtobbliglnjgbaaaGreatDoorW.PrintWords

namespace Go.Proofs.YtobbliglnjgbaaaGreatDoorW.PrintWords
open Go.RowKit
namespace Kd
def chunks (sz : Nat) (n : Nat) (inner : List Value) : List (List Value) := (List.range n).map fun j => (inner.drop (j * sz)).take sz
theorem chunks_length (sz n : Nat) (inner : List Value) : (chunks sz n inner).length = n := by simp [chunks]
theorem chunks_at {sz n : Nat} {inner : List Value} {j : Nat} (hj : j < n) : (chunks sz n inner)[j]? = some ((inner.drop (j * sz)).take sz) := by simp [chunks, hj]
theorem chunks_get {sz n : Nat} {inner : List Value} {j : Nat} {c : List Value} (h : (chunks sz n inner)[j]? = some c) : c = (inner.drop (j * sz)).take sz := by
 have hj : j < n := by have := (List.getElem?_eq_some_iff.1 h).1; rwa [chunks_length] at this
 rw [chunks_at hj] at h
 injection h with h
 exact h.symm
theorem reps_raw {α : Type} {Rr : α → List Value → Prop} {sz : Nat} {xs : List α} {inner : List Value} (h : Reps Rr sz xs inner) (hR : ∀ x c, Rr x c → c.length = sz ∧ ∀ u ∈ c, u.oneCell' = true) : Reps (fun x cs => cs = x ∧ cs.length = sz ∧ ∀ u ∈ cs, u.oneCell' = true) sz (chunks sz xs.length inner) inner := by
 refine ⟨by rw [chunks_length]; exact h.1, fun j p hj => ?_⟩
 have hjl : j < xs.length := by have := (List.getElem?_eq_some_iff.1 hj).1; rwa [chunks_length] at this
 have hp := chunks_get hj
 exact ⟨hp.symm, hR _ _ (h.2 j _ (List.getElem?_eq_getElem hjl))⟩
section
variable {α : Type} {d : Kd α} {e base n cc g : Nat} {ok ok' okp S : Nat → Prop} {w w1 W W1 : World} {A : Option Addr} {u v v1 : Value} {xs : List α} {x : α} {c : List Value}
def N {α : Type} (d : Kd α) (e : Nat) (w : World) (base : Nat) (ok : Nat → Prop) (v : Value) (xs : List α) : Prop :=
 (∀ k, v.ownBlock = some k → ok k) ∧ ∃ rows : List (List Value), rows.length = xs.length ∧ (raw d.sz).R e w base (fun k => some k = v.ownBlock) v rows ∧ ∀ (j : Nat) (x : α) (c : List Value), xs[j]? = some x → rows[j]? = some c → FK d w (fun k => ok k ∧ some k ≠ v.ownBlock) x c
theorem R_N (h : d.R e w base ok v xs) : N d e w base ok v xs := by
 obtain ⟨h0, inner, ho, hr⟩ := h
 refine ⟨h0, chunks d.sz xs.length inner, chunks_length _ _ _, ⟨fun k hk => hk.symm, inner, by rw [chunks_length]; exact ho, reps_raw hr (fun x c hp => ⟨d.K_len (d.K_of_M hp), d.K_one (d.K_of_M hp)⟩)⟩, fun j x c hx hc => ?_⟩
 rw [chunks_get hc]
 exact FK_of_M (hr.2 j x hx)
theorem N_nil (d : Kd α) (e : Nat) (w : World) (base : Nat) (ok : Nat → Prop) : N d e w base ok (.slice none 0 0) [] := R_N (R_nil _ _ _ _ _)
end
end Kd
end Go.Proofs.YtobbliglnjgbaaaGreatDoorW.PrintWords

namespace Go.Proofs.YtobbliglnjgbaaaGreatDoorW.PrintWords
open Go.RowKit
namespace Kd
section
variable {α : Type} {d : Kd α} {e base n cap g : Nat} {ok ok' okp : Nat → Prop} {w w1 W : World} {v v1 : Value} {xs ys : List α}
end
section
variable {P : Program} {ops : Array Oper} {rest : List Oper} {o : Oper} {a : Act} {Q : Exit → Act → World → Prop} {Kc : Act → World → Prop} {α : Type}
end
end Kd
end Go.Proofs.YtobbliglnjgbaaaGreatDoorW.PrintWords

namespace Go.Proofs.YtobbliglnjgbaaaGreatDoorW.PrintMore
open Go.RowKit Go.Proofs.YtobbliglnjgbaaaGreatDoorW.PrintWords
namespace Kd
open Go.Proofs.YtobbliglnjgbaaaGreatDoorW.PrintWords.Kd
end Kd

namespace Kd
open Go.Proofs.YtobbliglnjgbaaaGreatDoorW.PrintWords.Kd
section
variable {α : Type} {d : Kd α} {e base g N : Nat} {ok : Nat → Prop} {W w1 : World} {u v : Value} {xs : List α}
end
end Kd
theorem max2_int (k k' : IntKind) (x y : Int) : Builtin.max2 (.int k x) (.int k' y) = pure (.int k (if x < y then y else x)) := by simp only [Builtin.max2, gt_iff_lt]
theorem min2_int (k k' : IntKind) (x y : Int) : Builtin.min2 (.int k x) (.int k' y) = pure (.int k (if y < x then y else x)) := by simp only [Builtin.min2]
theorem max_two (ats : Array TypeId) (ty : TypeId) (a b : Value) : Builtin.max_ ats ty #[a, b] = (Builtin.max2 a b >>= fun s => pure s) := by simp only [Builtin.max_, List.foldlM_cons, List.foldlM_nil]
theorem min_two (ats : Array TypeId) (ty : TypeId) (a b : Value) : Builtin.min_ ats ty #[a, b] = (Builtin.min2 a b >>= fun s => pure s) := by simp only [Builtin.min_, List.foldlM_cons, List.foldlM_nil]
theorem max_three (ats : Array TypeId) (ty : TypeId) (a b c : Value) : Builtin.max_ ats ty #[a, b, c] = (Builtin.max2 a b >>= fun s => Builtin.max2 s c >>= fun s => pure s) := by simp only [Builtin.max_, List.foldlM_cons, List.foldlM_nil]
theorem min_three (ats : Array TypeId) (ty : TypeId) (a b c : Value) : Builtin.min_ ats ty #[a, b, c] = (Builtin.min2 a b >>= fun s => Builtin.min2 s c >>= fun s => pure s) := by simp only [Builtin.min_, List.foldlM_cons, List.foldlM_nil]
theorem max_four (ats : Array TypeId) (ty : TypeId) (a b c d : Value) : Builtin.max_ ats ty #[a, b, c, d] = (Builtin.max2 a b >>= fun s => Builtin.max2 s c >>= fun s => Builtin.max2 s d >>= fun s => pure s) := by simp only [Builtin.max_, List.foldlM_cons, List.foldlM_nil]
theorem min_four (ats : Array TypeId) (ty : TypeId) (a b c d : Value) : Builtin.min_ ats ty #[a, b, c, d] = (Builtin.min2 a b >>= fun s => Builtin.min2 s c >>= fun s => Builtin.min2 s d >>= fun s => pure s) := by simp only [Builtin.min_, List.foldlM_cons, List.foldlM_nil]
end Go.Proofs.YtobbliglnjgbaaaGreatDoorW.PrintMore
namespace Go.Proofs.YtobbliglnjgbaaaGreatDoorW.PrintWords
open Go.RowKit
section
variable {P : Program} {ops : Array Oper} {rest : List Oper} {o : Oper} {a : Act} {Q : Exit → Act → World → Prop} {W : World}
theorem gate_callee {f : FuncId} {as_ : Array Operand} {ts : Array TypeId} (_ho : o.op = .call { callee := .value (.func f), args := as_, argTypes := ts }) (h : wpList P ops Q (o :: rest) a W) : wpList P ops Q (o :: rest) a W := h
theorem gate_builtin {b : Builtin} {xs : Array Operand} {ts : Array TypeId} (_ho : o.op = .call { callee := .builtin b, args := xs, argTypes := ts }) (h : wpList P ops Q (o :: rest) a W) : wpList P ops Q (o :: rest) a W := h
end
def mx (a b : Int) : Int := if a < b then b else a
def mn (a b : Int) : Int := if b < a then b else a
namespace Kd
section
variable {α : Type} {d : Kd α} {e base : Nat} {ok : Nat → Prop} {W w1 : World} {v : Value} {xs : List α}
end
section
variable {α : Type} {d : Kd α} {e base g n cap : Nat} {ok oki okp : Nat → Prop} {W : World} {xs : List α} {i : Int} {c : List Value}
end
section
variable {α : Type} {d : Kd α} {e base b b' g N : Nat} {ok ok1 : Nat → Prop} {W W2 w1 : World} {u v : Value} {xs ys : List α} {S : Nat → Prop}
end
end Kd
end Go.Proofs.YtobbliglnjgbaaaGreatDoorW.PrintWords
namespace Go.Proofs.YtobbliglnjgbaaaGreatDoorW.PrintWords
open Go.RowKit
namespace Kd
def V {α : Type} (d : Kd α) (_e : Nat) (W : World) (_base : Nat) (ok : Nat → Prop) (v : Value) (xs : List α) : Prop := ∃ A c, v = .slice A xs.length c ∧ xs.length ≤ c ∧ F d W ok A xs.length xs
section
variable {α β : Type} {d : Kd α} {e base base' n m c g N' lo hi : Nat} {ok ok' S : Nat → Prop} {w W w1 : World} {A : Option Addr} {ad : Addr} {u v v1 : Value} {xs : List α}
theorem V_nil (d : Kd α) (e : Nat) (W : World) (base : Nat) (ok : Nat → Prop) : V d e W base ok (.slice none 0 0) [] := ⟨none, 0, rfl, Nat.le_refl _, F_nil d W ok⟩
end
end Kd
end Go.Proofs.YtobbliglnjgbaaaGreatDoorW.PrintWords

namespace Go.Proofs.YtobbliglnjgbaaaGreatDoorW.PrintLast
open Go.Proofs.YtobbliglnjgbaaaGreatDoorW.PrintWords (Aside0)
def needsOf (md : Region.Mode) (o : Oper) : List Nat := (o.after.toList.filter (fun e => Region.binds md e)).map (fun e => e.on)
def clashOf (md : Region.Mode) (ops : Array Oper) (i : Nat) (oi : Oper) : List Nat := (List.range ops.size).filter fun j => !(j == i) && match ops[j]? with
 | some oj => !(oj.after.any (fun e => Region.binds md e && e.on == i) || oi.apart ops oj)
 | none => false
def rtab (md : Region.Mode) (ops : Array Oper) : Bool × List (List Nat × List Nat) := (Region.noSelect ops, (List.range ops.size).map fun i => match ops[i]? with
 | some o => (needsOf md o, clashOf md ops i o)
 | none => ([], []))
def readyAt (T : List (List Nat × List Nat)) (l : List Bool) (i : Nat) : Bool := !l.getD i true && match T[i]? with
 | some r => r.1.all (fun j => l.getD j false)
 | none => false
def readyT (T : List (List Nat × List Nat)) (l : List Bool) : List Nat := (List.range T.length).filter (readyAt T l)
def freeT (T : List (List Nat × List Nat)) (l : List Bool) (i : Nat) : Bool := match T[i]? with
 | some r => r.2.all (fun j => l.getD j true)
 | none => false
def closedT (T : List (List Nat × List Nat)) (l : List Bool) : Bool := (List.range T.length).all fun j => !l.getD j false || match T[j]? with
 | some r => r.1.all (fun k => l.getD k false)
 | none => true
def reachT (T : List (List Nat × List Nat)) (i : Nat) : Nat → Nat → Bool
 | 0, _ => false
 | fuel + 1, d => match T[d]? with
  | some r => r.1.any fun j => j == i || reachT T i fuel j
  | none => false
def lastT (T : List (List Nat × List Nat)) (l : List Bool) (ds : List Nat) (i : Nat) : Bool := ds.all fun d => l.getD d true || reachT T i T.length d
section
variable {md : Region.Mode} {ops : Array Oper} {T : Bool × List (List Nat × List Nat)} {l l' li lj lk : Array Bool} {ds : List Nat} {i j k : Nat}
theorem gd (l : Array Bool) (j : Nat) (b : Bool) : l.getD j b = l.toList.getD j b := by simp [Array.getD_eq_getD_getElem?, List.getD_eq_getElem?_getD]
theorem needs_all (o : Oper) (p : Nat → Bool) : o.after.all (fun e => !Region.binds md e || p e.on) = (needsOf md o).all p := by
 unfold needsOf
 rw [← Array.all_toList]
 induction o.after.toList with
 | nil => rfl
 | cons e r ih =>
  rw [List.all_cons, ih, List.filter_cons]
  cases h : Region.binds md e <;> simp
theorem needs_any (o : Oper) (p : Nat → Bool) : o.after.any (fun e => Region.binds md e && p e.on) = (needsOf md o).any p := by
 unfold needsOf
 rw [← Array.any_toList]
 induction o.after.toList with
 | nil => rfl
 | cons e r ih =>
  rw [List.any_cons, ih, List.filter_cons]
  cases h : Region.binds md e <;> simp
theorem rtab_length : (rtab md ops).2.length = ops.size := by simp [rtab]
theorem rtab_some {o : Oper} (h : ops[i]? = some o) : (rtab md ops).2[i]? = some (needsOf md o, clashOf md ops i o) := by
 have hi := (Array.getElem?_eq_some_iff.1 h).1
 unfold rtab
 rw [List.getElem?_map, List.getElem?_range hi, Option.map_some, h]
theorem rtab_none (h : ops[i]? = none) : (rtab md ops).2[i]? = none := by
 have hi : ops.size ≤ i := Array.getElem?_eq_none_iff.1 h
 exact List.getElem?_eq_none (by rw [rtab_length]; exact hi)
theorem readyAt_eq : readyAt (rtab md ops).2 l.toList i = (!l.getD i true && ((ops[i]?).map (·.after.all fun e => !Region.binds md e || l.getD e.on false)).getD false) := by
 unfold readyAt
 rw [gd]
 cases h : ops[i]? with
 | none => rw [rtab_none h]; rfl
 | some o =>
  rw [rtab_some h]
  simp only [Option.map_some, Option.getD_some]
  rw [← needs_all]
  simp only [gd]
theorem ready_eq : Region.ready md ops l = readyT (rtab md ops).2 l.toList := by
 unfold Region.ready readyT
 rw [rtab_length]
 refine List.filter_congr (fun i _ => ?_)
 rw [readyAt_eq]
theorem free_eq : Region.free md ops l i = freeT (rtab md ops).2 l.toList i := by
 unfold Region.free freeT
 cases h : ops[i]? with
 | none => rw [rtab_none h]
 | some oi =>
  rw [rtab_some h]
  simp only [clashOf]
  rw [List.all_filter]
  congr 1
  funext j
  rw [gd]
  cases hj : ops[j]? with
  | none => cases (j == i) <;> cases (l.toList.getD j true) <;> simp
  | some oj =>
   cases (j == i) <;> cases (l.toList.getD j true) <;> cases (oj.after.any (fun e => Region.binds md e && e.on == i) || oi.apart ops oj) <;> simp_all
theorem closed_eq : Region.closedB md ops l = closedT (rtab md ops).2 l.toList := by
 unfold Region.closedB closedT
 rw [rtab_length]
 congr 1
 funext j
 rw [gd]
 cases h : ops[j]? with
 | none => rw [rtab_none h]
 | some o =>
  rw [rtab_some h]
  simp only
  rw [← needs_all]
  simp only [gd]
theorem reach_eq : ∀ (fuel d : Nat), Region.reachB md ops i fuel d = reachT (rtab md ops).2 i fuel d
 | 0, _ => rfl
 | fuel + 1, d => by
  unfold Region.reachB reachT
  cases h : ops[d]? with
  | none => rw [rtab_none h]
  | some o =>
   rw [rtab_some h]
   simp only
   rw [← needs_any]
   congr 1
   funext e
   rw [reach_eq fuel]
theorem last_eq : Region.lastB md ops l ds i = lastT (rtab md ops).2 l.toList ds i := by
 unfold Region.lastB lastT
 rw [rtab_length]
 congr 1
 funext d
 rw [gd, reach_eq]
theorem readyAt_mem (h : readyAt T.2 l.toList i = true) (hT : rtab md ops = T) : (Region.ready md ops l).contains i = true := by
 subst hT
 rw [ready_eq]
 unfold readyT
 rw [List.contains_iff_mem, List.mem_filter, List.mem_range]
 refine ⟨?_, h⟩
 unfold readyAt at h
 rw [Bool.and_eq_true] at h
 cases hq : (rtab md ops).2[i]? with
 | none => rw [hq] at h; simp at h
 | some r => exact (List.getElem?_eq_some_iff.1 hq).1
theorem set_of (h : (l.toList.set i true == l'.toList) = true) : (l.setIfInBounds i true == l') = true := by
 rw [beq_iff_eq] at h ⊢
 apply Array.ext'
 rw [Array.toList_setIfInBounds]
 exact h
def anyT (T : Bool × List (List Nat × List Nat)) (l l' : List Bool) (i : Nat) : Bool := T.1 && freeT T.2 l i && readyAt T.2 l i && (l.set i true == l')
theorem any_of (hT : rtab md ops = T) (h : anyT T l.toList l'.toList i = true) : anyB md ops l l' i = true := by
 simp only [anyT, Bool.and_eq_true] at h
 obtain ⟨⟨⟨h1, h2⟩, h3⟩, h4⟩ := h
 have h5 := readyAt_mem h3 hT
 have h6 := set_of h4
 subst hT
 simp only [anyB, Bool.and_eq_true]
 exact ⟨⟨⟨h1, by rw [free_eq]; exact h2⟩, h5⟩, h6⟩
def takeT (T : Bool × List (List Nat × List Nat)) (ds : List Nat) (l l' : List Bool) (i : Nat) : Bool := T.1 && freeT T.2 l i && readyAt T.2 l i && closedT T.2 l && lastT T.2 l ds i && (l.set i true == l')
theorem take_of (hT : rtab md ops = T) (h : takeT T ds l.toList l'.toList i = true) : takeB md ops ds l l' i = true := by
 simp only [takeT, Bool.and_eq_true] at h
 obtain ⟨⟨⟨⟨⟨h1, h2⟩, h3⟩, h4⟩, h5⟩, h6⟩ := h
 have h7 := readyAt_mem h3 hT
 have h8 := set_of h6
 subst hT
 simp only [takeB, Bool.and_eq_true]
 exact ⟨⟨⟨⟨⟨h1, by rw [free_eq]; exact h2⟩, h7⟩, by rw [closed_eq]; exact h4⟩, by rw [last_eq]; exact h5⟩, h8⟩
theorem one_of (hT : rtab md ops = T) (h : (readyT T.2 l.toList == [i] && l.toList.set i true == l'.toList) = true) : readyB md ops l l' i = true := by
 simp only [Bool.and_eq_true] at h
 obtain ⟨h1, h2⟩ := h
 subst hT
 simp only [readyB, Bool.and_eq_true]
 exact ⟨by rw [ready_eq]; exact h1, set_of h2⟩
theorem done_of (hT : rtab md ops = T) (h : (readyT T.2 l.toList == []) = true) : (Region.ready md ops l == []) = true := by
 subst hT
 rw [ready_eq]
 exact h
def upM (B : List Nat) (d : Nat) : List Nat → Nat
 | [] => 0
 | n :: r => (2 ^ n ||| (if n < d then B.getD n 0 else 0)) ||| upM B d r
def waitsOk (T : List (List Nat × List Nat)) (B : List Nat) : Bool := (List.range T.length).all fun d => match T[d]? with
 | some r => (B.getD d 0 ||| upM B d r.1) == upM B d r.1
 | none => false
theorem upM_bit {B : List Nat} {d i : Nat} : ∀ {ns : List Nat}, (upM B d ns).testBit i = true → ∃ n ∈ ns, n = i ∨ (n < d ∧ (B.getD n 0).testBit i = true)
 | [], h => by simp [upM] at h
 | n :: r, h => by
  unfold upM at h
  rw [Nat.testBit_or, Nat.testBit_or, Bool.or_eq_true, Bool.or_eq_true] at h
  rcases h with (h | h) | h
  · rw [Nat.testBit_two_pow] at h
    exact ⟨n, List.mem_cons_self, .inl (by simpa using h)⟩
  · by_cases hn : n < d
    · rw [if_pos hn] at h
      exact ⟨n, List.mem_cons_self, .inr ⟨hn, h⟩⟩
    · rw [if_neg hn] at h
      simp at h
  · obtain ⟨m, hm, h2⟩ := upM_bit h
    exact ⟨m, List.mem_cons_of_mem _ hm, h2⟩
theorem reach_bit {T : List (List Nat × List Nat)} {B : List Nat} (hB : waitsOk T B = true) : ∀ (fuel d : Nat), d < fuel → d < T.length → (B.getD d 0).testBit i = true → reachT T i fuel d = true
 | 0, d, h, _, _ => by omega
 | fuel + 1, d, h, hd, hb => by
  have h1 := List.all_eq_true.1 hB d (List.mem_range.2 hd)
  cases hr : T[d]? with
  | none => rw [hr] at h1; simp at h1
  | some r =>
   rw [hr] at h1
   simp only [beq_iff_eq] at h1
   have h2 : (upM B d r.1).testBit i = true := by rw [← h1, Nat.testBit_or, hb, Bool.true_or]
   obtain ⟨n, hn, h3⟩ := upM_bit h2
   unfold reachT
   rw [hr]
   simp only
   rw [List.any_eq_true]
   refine ⟨n, hn, ?_⟩
   rcases h3 with rfl | ⟨h4, h5⟩
   · simp
   · rw [reach_bit hB fuel n (by omega) (by omega) h5, Bool.or_true]
def lastW (T : List (List Nat × List Nat)) (B : List Nat) (l : List Bool) (ds : List Nat) (i : Nat) : Bool := ds.all fun d => l.getD d true || (decide (d < T.length) && (B.getD d 0).testBit i)
def takeW (T : Bool × List (List Nat × List Nat)) (B : List Nat) (ds : List Nat) (l l' : List Bool) (i : Nat) : Bool := T.1 && freeT T.2 l i && readyAt T.2 l i && closedT T.2 l && lastW T.2 B l ds i && (l.set i true == l')
theorem take_ofW {B : List Nat} (hT : rtab md ops = T) (hB : waitsOk T.2 B = true) (h : takeW T B ds l.toList l'.toList i = true) : takeB md ops ds l l' i = true := by
 refine take_of hT ?_
 simp only [takeW, takeT, Bool.and_eq_true] at h ⊢
 obtain ⟨⟨⟨⟨⟨h1, h2⟩, h3⟩, h4⟩, h5⟩, h6⟩ := h
 refine ⟨⟨⟨⟨⟨h1, h2⟩, h3⟩, h4⟩, ?_⟩, h6⟩
 unfold lastW at h5
 unfold lastT
 rw [List.all_eq_true] at h5 ⊢
 intro d hd
 have h7 := h5 d hd
 rw [Bool.or_eq_true, Bool.and_eq_true, decide_eq_true_eq] at h7
 rcases h7 with h7 | ⟨h8, h9⟩
 · rw [h7, Bool.true_or]
 · rw [reach_bit hB _ d h8 h8 h9, Bool.or_true]
theorem with_tabW {P : Program} {Q : Exit → Act → World → Prop} {S : World → Prop} {n : Nat} {a : Act} {w : World} {B : List Nat} (hT : rtab md ops = T) (hB : waitsOk T.2 B = true) (h : Aside0 (rtab md ops = T) → Aside0 (waitsOk T.2 B = true) → wpAnyLast P md ops Q S ds n l a w) : wpAnyLast P md ops Q S ds n l a w := h ⟨hT⟩ ⟨hB⟩
end
def opsIn : Code → Nat → Option (Array Oper)
 | .region id ops _, k => if id == k then some ops else none
 | .seq a b, k => match opsIn a k with
  | some o => some o
  | none => opsIn b k
 | .cond _ a b, k => match opsIn a k with
  | some o => some o
  | none => opsIn b k
 | .block _ c, k => opsIn c k
 | .loop c, k => opsIn c k
 | .scope c, k => opsIn c k
 | .rangeFunc _ _ a b, k => match opsIn a k with
  | some o => some o
  | none => opsIn b k
 | _, _ => none
def opsOf (f : Func) (k : Nat) : Array Oper := ((f.body.bind fun c => opsIn c k)).getD #[]
end Go.Proofs.YtobbliglnjgbaaaGreatDoorW.PrintLast

namespace Go.Proofs.YtobbliglnjgbaaaGreatDoorW.PrintLast
section
variable {P : Program} {ops : Array Oper} {Q : Exit → Act → World → Prop} {md : Region.Mode} {S : World → Prop} {ds : List Nat} {T : Bool × List (List Nat × List Nat)}
end
end Go.Proofs.YtobbliglnjgbaaaGreatDoorW.PrintLast

namespace Go.Proofs.YtobbliglnjgbaaaGreatDoorW.PrintWords
open Go.RowKit
namespace Kd
section
variable {α : Type} {d : Kd α} {W : World} {g n : Nat} {S ok : Nat → Prop} {A : Option Addr} {ad : Addr} {xs : List α}
end
end Kd
end Go.Proofs.YtobbliglnjgbaaaGreatDoorW.PrintWords

namespace Go.Proofs.YtobbliglnjgbaaaGreatDoorW.PrintWords
open Go.RowKit
section
variable {w w' u : World} {m B g : Nat} {o : Obj} {row : Option Nat} {S : Nat → Prop} {a : Addr} {v : Value}
end
namespace Kd
section
variable {α : Type} {d : Kd α} {e base n m : Nat} {ok : Nat → Prop} {w w' : World} {v : Value} {A : Option Addr} {xs : List α}
end
end Kd
end Go.Proofs.YtobbliglnjgbaaaGreatDoorW.PrintWords

namespace Go.Proofs.YtobbliglnjgbaaaGreatDoorW.PrintWords
open Go.RowKit
section
variable {P : Program} {d : Nat} {xs ys : Array Value} {f : Field} {fs : List Field} {a b : Value} {r s : Bool} {w : World}
end
end Go.Proofs.YtobbliglnjgbaaaGreatDoorW.PrintWords

namespace Go.Proofs.YtobbliglnjgbaaaGreatDoorW.PrintWords
theorem Reps.one {α : Type} {R : α → List Value → Prop} {ps : List α} {cs : List Value} {p : α} {v : Value} (hp : R p [v]) (h : Reps R 1 ps cs) : Reps R 1 (p :: ps) (v :: cs) := by
 refine ⟨by simp [h.1], fun j q hq => ?_⟩
 cases j with
 | zero =>
  simp only [List.getElem?_cons_zero, Option.some.injEq] at hq
  subst hq
  simpa using hp
 | succ j =>
  simp only [List.getElem?_cons_succ] at hq
  have h1 := h.2 j q hq
  simpa [Nat.mul_one] using h1
theorem Reps.front {α : Type} {R : α → List Value → Prop} {size : Nat} {ps : List α} {cs c all : List Value} {p : α} (hp : R p c) (hc : c.length = size) (h : Reps R size ps cs) (ha : c ++ cs = all) : Reps R size (p :: ps) all := by
 subst ha
 refine ⟨by rw [List.length_append, hc, h.1, List.length_cons, Nat.succ_mul, Nat.add_comm], fun j q hq => ?_⟩
 cases j with
 | zero =>
  simp only [List.getElem?_cons_zero, Option.some.injEq] at hq
  subst hq
  rw [Nat.zero_mul, List.drop_zero, List.take_append_of_le_length (by omega), List.take_of_length_le (by omega)]
  exact hp
 | succ j =>
  simp only [List.getElem?_cons_succ] at hq
  have h1 := h.2 j q hq
  rw [Nat.succ_mul, List.drop_append, List.drop_of_length_le (by rw [hc]; exact Nat.le_add_left _ _), List.nil_append, hc, Nat.add_sub_cancel]
  exact h1
theorem Reps.c2 {α : Type} {R : α → List Value → Prop} {ps : List α} {cs : List Value} {p : α} {va vb : Value} (hp : R p [va, vb]) (h : Reps R 2 ps cs) : Reps R 2 (p :: ps) (va :: vb :: cs) := Reps.front hp rfl h rfl
theorem Reps.c3 {α : Type} {R : α → List Value → Prop} {ps : List α} {cs : List Value} {p : α} {va vb vc : Value} (hp : R p [va, vb, vc]) (h : Reps R 3 ps cs) : Reps R 3 (p :: ps) (va :: vb :: vc :: cs) := Reps.front hp rfl h rfl
theorem Reps.c4 {α : Type} {R : α → List Value → Prop} {ps : List α} {cs : List Value} {p : α} {va vb vc vd : Value} (hp : R p [va, vb, vc, vd]) (h : Reps R 4 ps cs) : Reps R 4 (p :: ps) (va :: vb :: vc :: vd :: cs) := Reps.front hp rfl h rfl
theorem Reps.c5 {α : Type} {R : α → List Value → Prop} {ps : List α} {cs : List Value} {p : α} {va vb vc vd ve : Value} (hp : R p [va, vb, vc, vd, ve]) (h : Reps R 5 ps cs) : Reps R 5 (p :: ps) (va :: vb :: vc :: vd :: ve :: cs) := Reps.front hp rfl h rfl
theorem Reps.c6 {α : Type} {R : α → List Value → Prop} {ps : List α} {cs : List Value} {p : α} {va vb vc vd ve vf : Value} (hp : R p [va, vb, vc, vd, ve, vf]) (h : Reps R 6 ps cs) : Reps R 6 (p :: ps) (va :: vb :: vc :: vd :: ve :: vf :: cs) := Reps.front hp rfl h rfl
theorem Reps.c7 {α : Type} {R : α → List Value → Prop} {ps : List α} {cs : List Value} {p : α} {va vb vc vd ve vf vg : Value} (hp : R p [va, vb, vc, vd, ve, vf, vg]) (h : Reps R 7 ps cs) : Reps R 7 (p :: ps) (va :: vb :: vc :: vd :: ve :: vf :: vg :: cs) := Reps.front hp rfl h rfl
theorem Reps.c8 {α : Type} {R : α → List Value → Prop} {ps : List α} {cs : List Value} {p : α} {va vb vc vd ve vf vg vh : Value} (hp : R p [va, vb, vc, vd, ve, vf, vg, vh]) (h : Reps R 8 ps cs) : Reps R 8 (p :: ps) (va :: vb :: vc :: vd :: ve :: vf :: vg :: vh :: cs) := Reps.front hp rfl h rfl
theorem Reps.c9 {α : Type} {R : α → List Value → Prop} {ps : List α} {cs : List Value} {p : α} {va vb vc vd ve vf vg vh vi : Value} (hp : R p [va, vb, vc, vd, ve, vf, vg, vh, vi]) (h : Reps R 9 ps cs) : Reps R 9 (p :: ps) (va :: vb :: vc :: vd :: ve :: vf :: vg :: vh :: vi :: cs) := Reps.front hp rfl h rfl
theorem Reps.c10 {α : Type} {R : α → List Value → Prop} {ps : List α} {cs : List Value} {p : α} {va vb vc vd ve vf vg vh vi vj : Value} (hp : R p [va, vb, vc, vd, ve, vf, vg, vh, vi, vj]) (h : Reps R 10 ps cs) : Reps R 10 (p :: ps) (va :: vb :: vc :: vd :: ve :: vf :: vg :: vh :: vi :: vj :: cs) := Reps.front hp rfl h rfl
end Go.Proofs.YtobbliglnjgbaaaGreatDoorW.PrintWords

namespace Go.Proofs.YtobbliglnjgbaaaGreatDoorW.PrintLast
section
variable {P : Program} {ops : Array Oper} {Q : Exit → Act → World → Prop} {md : Region.Mode} {T : Bool × List (List Nat × List Nat)} {B : List Nat} {O : List Nat} {b : Nat → Bool} {i j n : Nat}
end
end Go.Proofs.YtobbliglnjgbaaaGreatDoorW.PrintLast

namespace Go.Proofs.YtobbliglnjgbaaaGreatDoorW.PrintWords
open Go.RowKit
end Go.Proofs.YtobbliglnjgbaaaGreatDoorW.PrintWords
namespace Go.Proofs.YtobbliglnjgbaaaGreatDoorW.PrintLast
section
variable {ops : Array Oper} {a : Act} {o og : Oper} {g : Nat} {t : Tmp} {u : Bool}
end
end Go.Proofs.YtobbliglnjgbaaaGreatDoorW.PrintLast

namespace Go.Proofs.YtobbliglnjgbaaaGreatDoorW.PrintWords
open Go.RowKit
section
variable {P : Program} {ops : Array Oper} {rest : List Oper} {o : Oper} {a : Act} {Q : Exit → Act → World → Prop} {W : World}
end
end Go.Proofs.YtobbliglnjgbaaaGreatDoorW.PrintWords

namespace Go.Proofs.YtobbliglnjgbaaaGreatDoorW.PrintWords
open Go.ChangeShapes Go.WideShapes
end Go.Proofs.YtobbliglnjgbaaaGreatDoorW.PrintWords

namespace Go.Proofs.YtobbliglnjgbaaaGreatDoor.X
open Go.RowKit Go.Proofs.YtobbliglnjgbaaaGreatDoorW.PrintWords Go.Proofs.YtobbliglnjgbaaaGreatDoorW.PrintLast Go.Proofs.YtobbliglnjgbaaaGreatDoorW.PrintMore
set_option linter.unusedVariables false
set_option linter.unusedSimpArgs false

/- The values' own types of this seat, and what is told of them (by the kit's kinds.py). -/
theorem info9 : (Tryz.prog.info? 9).map (fun i => (i.zero, i.size, i.bytes)) = some (some (.string ⟨#[]⟩), 1, 16) := by kernel_rfl
theorem info50 : (Tryz.prog.info? 50).map (fun i => (i.zero, i.size, i.bytes)) = some (some (.agg #[(.string ⟨#[]⟩), (.string ⟨#[]⟩)]), 2, 32) := by kernel_rfl
structure S34 where
 f0 : Bool
 f1 : ByteArray
def z34 : S34 := ⟨false, (⟨#[]⟩ : ByteArray)⟩
def k34 : Kd S34 := Kd.iso (Kd.pair Kd.bool Kd.string) (fun x : S34 => (x.f0, x.f1))
theorem k34_open {w : World} {x : S34} {cs : List Value} (h : k34.K w x cs) : cs = [.bool x.f0, .string x.f1] := by
 obtain ⟨_, _, rfl, rfl, rfl⟩ := h
 exact rfl
theorem k34_mk (w : World) (x : S34)  : k34.K w x [.bool x.f0, .string x.f1] := ⟨[.bool x.f0], [.string x.f1], rfl, rfl, rfl⟩
def rd_T34 (xs : List S34) (i : Int) : S34 := xs.getD i.toNat z34
theorem at_T34 {w : World} {A : Option Addr} {n : Nat} {xs : List S34} (h : Kd.C k34 w A n xs) (i : Int) (h0 : 0 ≤ i) (h1 : i < n) : ∃ ad , A = some ad ∧ w.cell? (ad.add (i.toNat * 2)) = some (.bool (rd_T34 xs i).f0) ∧ w.cell? ⟨(ad.add (i.toNat * 2)).block, (ad.add (i.toNat * 2)).off + 1, none⟩ = some (.string (rd_T34 xs i).f1) := by
 obtain ⟨ad, c, e, _, hK, hc0⟩ := Kd.C_get h z34 i h0 h1
 have hc : ∀ j u, c[j]? = some u → w.cell? (ad.add (i.toNat * 2 + j)) = some u := hc0
 obtain rfl := k34_open hK
 exact ⟨ad, e, hc 0 _ rfl, by rw [← add_field _ _ 1 (by omega)]; exact hc 1 _ rfl⟩

structure S50 where
 f0 : ByteArray
 f1 : ByteArray
def z50 : S50 := ⟨(⟨#[]⟩ : ByteArray), (⟨#[]⟩ : ByteArray)⟩
def k50 : Kd S50 := Kd.iso (Kd.pair Kd.string Kd.string) (fun x : S50 => (x.f0, x.f1))
theorem k50_open {w : World} {x : S50} {cs : List Value} (h : k50.K w x cs) : cs = [.string x.f0, .string x.f1] := by
 obtain ⟨_, _, rfl, rfl, rfl⟩ := h
 exact rfl
theorem k50_mk (w : World) (x : S50)  : k50.K w x [.string x.f0, .string x.f1] := ⟨[.string x.f0], [.string x.f1], rfl, rfl, rfl⟩
theorem k50_mkM (w : World) (base : Nat) (ok : Nat → Prop) (x : S50)  : k50.M w base ok x [.string x.f0, .string x.f1] := ⟨[.string x.f0], [.string x.f1], rfl, rfl, rfl⟩
def rd_T50 (xs : List S50) (i : Int) : S50 := xs.getD i.toNat z50
theorem at_T50 {w : World} {A : Option Addr} {n : Nat} {xs : List S50} (h : Kd.C k50 w A n xs) (i : Int) (h0 : 0 ≤ i) (h1 : i < n) : ∃ ad , A = some ad ∧ w.cell? (ad.add (i.toNat * 2)) = some (.string (rd_T50 xs i).f0) ∧ w.cell? ⟨(ad.add (i.toNat * 2)).block, (ad.add (i.toNat * 2)).off + 1, none⟩ = some (.string (rd_T50 xs i).f1) := by
 obtain ⟨ad, c, e, _, hK, hc0⟩ := Kd.C_get h z50 i h0 h1
 have hc : ∀ j u, c[j]? = some u → w.cell? (ad.add (i.toNat * 2 + j)) = some u := hc0
 obtain rfl := k50_open hK
 exact ⟨ad, e, hc 0 _ rfl, by rw [← add_field _ _ 1 (by omega)]; exact hc 1 _ rfl⟩

structure S48 where
 f0 : Int
 f1 : ByteArray
 f2 : ByteArray
def z48 : S48 := ⟨(0 : Int), (⟨#[]⟩ : ByteArray), (⟨#[]⟩ : ByteArray)⟩
def k48 : Kd S48 := Kd.iso (Kd.pair (Kd.int .i64) (Kd.pair Kd.string Kd.string)) (fun x : S48 => (x.f0, x.f1, x.f2))
theorem k48_open {w : World} {x : S48} {cs : List Value} (h : k48.K w x cs) : cs = [.int .i64 x.f0, .string x.f1, .string x.f2] := by
 obtain ⟨_, _, rfl, rfl, ⟨_, _, rfl, rfl, rfl⟩⟩ := h
 exact rfl
theorem k48_mk (w : World) (x : S48)  : k48.K w x [.int .i64 x.f0, .string x.f1, .string x.f2] := ⟨[.int .i64 x.f0], [.string x.f1, .string x.f2], rfl, rfl, ⟨[.string x.f1], [.string x.f2], rfl, rfl, rfl⟩⟩
def rd_T48 (xs : List S48) (i : Int) : S48 := xs.getD i.toNat z48
theorem at_T48 {w : World} {A : Option Addr} {n : Nat} {xs : List S48} (h : Kd.C k48 w A n xs) (i : Int) (h0 : 0 ≤ i) (h1 : i < n) : ∃ ad , A = some ad ∧ w.cell? (ad.add (i.toNat * 3)) = some (.int .i64 (rd_T48 xs i).f0) ∧ w.cell? ⟨(ad.add (i.toNat * 3)).block, (ad.add (i.toNat * 3)).off + 1, none⟩ = some (.string (rd_T48 xs i).f1) ∧ w.cell? ⟨(ad.add (i.toNat * 3)).block, (ad.add (i.toNat * 3)).off + 2, none⟩ = some (.string (rd_T48 xs i).f2) := by
 obtain ⟨ad, c, e, _, hK, hc0⟩ := Kd.C_get h z48 i h0 h1
 have hc : ∀ j u, c[j]? = some u → w.cell? (ad.add (i.toNat * 3 + j)) = some u := hc0
 obtain rfl := k48_open hK
 exact ⟨ad, e, hc 0 _ rfl, by rw [← add_field _ _ 1 (by omega)]; exact hc 1 _ rfl, by rw [← add_field _ _ 2 (by omega)]; exact hc 2 _ rfl⟩

end Go.Proofs.YtobbliglnjgbaaaGreatDoor.X

namespace Go.Proofs.YtobbliglnjgbaaaGreatDoor.X
open Go.RowKit Go.Proofs.YtobbliglnjgbaaaGreatDoorW.PrintWords

theorem row_open {w : World} {A : Option Addr} {l : List ByteArray} (h : Kd.C Kd.string w A l.length l) :
 l = [] ∨ ∃ b o, A = some ⟨b, o, none⟩ ∧ b < w.heap.size ∧ ∀ j, j < l.length → w.cell? ⟨b, o + j, none⟩ = some (.string (l.getD j ByteArray.empty)) := by
 rcases Nat.eq_zero_or_pos l.length with h0 | h0
 · exact .inl (List.eq_nil_of_length_eq_zero h0)
 · obtain ⟨ad, rfl, hc⟩ := h.2.2 h0
   have hx : ∀ j, j < l.length → w.cell? (ad.add j) = some (.string (l.getD j ByteArray.empty)) := by
    intro j hj
    obtain ⟨c, _, hk, hcell⟩ := hc j _ (List.getElem?_eq_getElem hj)
    have hk' : c = [.string l[j]] := hk
    subst hk'
    have := hcell 0 _ rfl
    have e : l.getD j ByteArray.empty = l[j] := by simp [List.getD_eq_getElem?_getD, List.getElem?_eq_getElem hj]
    rw [e]
    simpa [show Kd.string.sz = 1 from rfl] using this
   obtain ⟨b, o, sp⟩ := ad
   have h00 := hx 0 h0
   have hs : sp = none := by
    cases sp with
    | none => rfl
    | some s =>
     exfalso
     unfold Addr.add at h00
     simp [World.cell?] at h00
     split at h00 <;> simp at h00
   subst hs
   refine .inr ⟨b, o, rfl, ?_, fun j hj => ?_⟩
   · have := World.block_lt_of_cell? w _ h00
     unfold Addr.add at this
     simpa using this
   · have := hx j hj
     unfold Addr.add at this
     by_cases e : j = 0
     · subst e; simpa using this
     · rwa [if_neg e] at this

def PredB (g : Nat) (lb : Array Value) (p : ByteArray → Bool) (w : World) : Prop :=
 ∀ (W : World) (x : ByteArray), Below w.heap.size w W → Calls Tryz.prog g (#[.string x] ++ lb) W fun e w' => e = .returned (.bool (p x)) ∧ Below W.heap.size W w'

set_option maxHeartbeats 2000000 in
theorem indexFunc_calls (g : Nat) (lb : Array Value) (eg : ∀ args w, (callFunc g args).run Tryz.prog w = .ok (.enter g args) w) (p : ByteArray → Bool) (A : Option Addr) (c : Nat) (l : List ByteArray) (w : World)
 (hr : Kd.C Kd.string w A l.length l) (hp : PredB g lb p w) :
 Calls Tryz.prog 62 #[.slice A l.length c, .func (.func g) #[] lb] w fun e w' => ∃ i : Int, e = .returned (.int .i64 i) ∧ decide (0 ≤ i) = l.any p ∧ (i = -1 ∨ 0 ≤ i) ∧ Below w.heap.size w w' := by
 have hlen : l.length ≤ 9223372036854775807 := hr.2.1
 rcases row_open hr with rfl | ⟨b, o, rfl, hb, hcell⟩
 · clear hr hp
   go_enter Tryz.func62, Tryz.ntmps62
   go_wp2
   go_loopg [5, 8] 0 (fun _ _ s8 wr => s8 = .int .i64 0 ∧ wr = w)
   case atStart => exact ⟨rfl, rfl⟩
   case round =>
    obtain ⟨rfl, rfl⟩ := hrel
    go_wp2
    go_ret
    exact ⟨-1, rfl, by simp, .inl rfl, Below.refl _ _⟩
 · clear hr
   have HP := Lib.hid hp
   clear hp
   have HC := Lib.hid hcell
   clear hcell
   go_enter Tryz.func62, Tryz.ntmps62
   go_wp2
   go_loopg [5, 8] l.length (fun gg _ s8 wr => ∃ kk : Nat, kk ≤ l.length ∧ l.length - kk ≤ gg ∧ s8 = .int .i64 kk ∧ Aside0 (Below w.heap.size w wr) ∧ Aside0 (∀ j, j < kk → p (l.getD j ByteArray.empty) = false))
   case atStart => exact ⟨0, Nat.zero_le _, by omega, rfl, ⟨Below.refl _ _⟩, ⟨fun j hj => absurd hj (Nat.not_lt_zero _)⟩⟩
   case round =>
    obtain ⟨kk, hkk, hgk, rfl, HB, HA⟩ := hrel
    by_cases hlt : kk < l.length
    · have hltz : (kk : Int) < (l.length : Int) := by omega
      have hx : wr.cell? ⟨b, o + kk, none⟩ = some (.string (l.getD kk ByteArray.empty)) := cell_keeps HB.out (HC.out kk hlt)
      obtain ⟨y, hy⟩ : ∃ y, y = l.getD kk ByteArray.empty := ⟨_, rfl⟩
      rw [← hy] at hx
      have HY := Lib.hid hy
      clear hy
      have hcall := HP.out wr y HB.out
      cases hq : p y with
      | true =>
       rw [hq] at hcall
       have HQ := Lib.hid hq
       clear hq
       go_wp2_with (go_at_fn g; refine hcall.mono ?_; rintro e w2 ⟨rfl, hb2⟩)
       go_ret
       refine ⟨kk, rfl, ?_, .inr (by omega), below_then HB.out HB.out.size hb2⟩
       have : l.any p = true := List.any_eq_true.2 ⟨y, by rw [HY.out]; simp [List.getD_eq_getElem?_getD, List.getElem?_eq_getElem hlt], HQ.out⟩
       rw [this]
       simp
      | false =>
       rw [hq] at hcall
       have HQ := Lib.hid hq
       clear hq
       go_wp2_with (go_at_fn g; refine hcall.mono ?_; rintro e w2 ⟨rfl, hb2⟩)
       go_roundg (l.length - (kk + 1))
       case measure => omega
       case rel =>
        refine ⟨kk + 1, by omega, by omega, by go_num, ⟨below_then HB.out HB.out.size hb2⟩, ⟨fun j hj => ?_⟩⟩
        by_cases e : j = kk
        · subst e
          rw [← HY.out]; exact HQ.out
        · exact HA.out j (by omega)
    · have hltz : ¬ (kk : Int) < (l.length : Int) := by omega
      have : kk = l.length := by omega
      subst this
      go_wp2
      go_ret
      refine ⟨-1, rfl, ?_, .inl rfl, HB.out⟩
      have : l.any p = false := by
       rw [Bool.eq_false_iff]
       intro h
       obtain ⟨x, hx, hpx⟩ := List.any_eq_true.1 h
       obtain ⟨j, hj, rfl⟩ := List.getElem_of_mem hx
       have := HA.out j hj
       simp [List.getD_eq_getElem?_getD, List.getElem?_eq_getElem hj] at this
       rw [this] at hpx
       cases hpx
      rw [this]
      simp

set_option maxHeartbeats 1000000 in
theorem containsFunc_calls (g : Nat) (lb : Array Value) (eg : ∀ args w, (callFunc g args).run Tryz.prog w = .ok (.enter g args) w) (p : ByteArray → Bool) (A : Option Addr) (c : Nat) (l : List ByteArray) (w : World)
 (hr : Kd.C Kd.string w A l.length l) (hp : PredB g lb p w) :
 Calls Tryz.prog 43 #[.slice A l.length c, .func (.func g) #[] lb] w fun e w' => e = .returned (.bool (l.any p)) ∧ Below w.heap.size w w' := by
 have hI := indexFunc_calls g lb eg p A c l w hr hp
 clear hr hp
 generalize l.any p = q at *
 go_enter Tryz.func43, Tryz.ntmps43
 go_wp2_with (go_at_call 62; refine hI.mono ?_; rintro e w2 ⟨i, rfl, hq, _, hb2⟩)
 go_ret
 exact ⟨by rw [← hq]; rfl, hb2⟩

end Go.Proofs.YtobbliglnjgbaaaGreatDoor.X

namespace Go.Proofs.YtobbliglnjgbaaaGreatDoor.Pa
open Go.Proofs.YtobbliglnjgbaaaGreatDoor.X
open Go.RowKit Go.Proofs.YtobbliglnjgbaaaGreatDoorW.PrintWords Go.Proofs.YtobbliglnjgbaaaGreatDoorW.PrintLast Go.Proofs.YtobbliglnjgbaaaGreatDoorW.PrintMore
attribute [local go_sem] max2_int min2_int max_two min_two max_three min_three max_four min_four   -- for this text's walks alone
set_option linter.unusedVariables false
set_option linter.unusedSimpArgs false



def errW : Option Int → Value
 | none => .nilIface
 | some c => .iface 0 (.int .i64 c)
theorem errW_none : errW none = .nilIface := rfl
theorem errW_some (c : Int) : errW (some c) = .iface 0 (.int .i64 c) := rfl

-- the values' own types

end Go.Proofs.YtobbliglnjgbaaaGreatDoor.Pa
namespace Go.Proofs.YtobbliglnjgbaaaGreatDoor.Pa
open Go.Proofs.YtobbliglnjgbaaaGreatDoor.X
open Go.RowKit Go.Proofs.YtobbliglnjgbaaaGreatDoorW.PrintWords Go.Proofs.YtobbliglnjgbaaaGreatDoorW.PrintLast Go.Proofs.YtobbliglnjgbaaaGreatDoorW.PrintMore
attribute [local go_sem] max2_int min2_int max_two min_two max_three min_three max_four min_four   -- for this text's walks alone
set_option linter.unusedVariables false
set_option linter.unusedSimpArgs false

def path_sign.f (a0 : Int) : Option (Bool) := if a0 ≥ 97 then (if a0 ≤ 122 then (some true) else (if a0 ≥ 65 then (if a0 ≤ 90 then (some true) else (if a0 ≥ 48 then (if a0 ≤ 57 then (some true) else (if a0 = 46 then (some true) else (if a0 = 95 then (some true) else (some (a0 == 45))))) else (if a0 = 46 then (some true) else (if a0 = 95 then (some true) else (some (a0 == 45)))))) else (if a0 ≥ 48 then (if a0 ≤ 57 then (some true) else (if a0 = 46 then (some true) else (if a0 = 95 then (some true) else (some (a0 == 45))))) else (if a0 = 46 then (some true) else (if a0 = 95 then (some true) else (some (a0 == 45))))))) else (if a0 ≥ 65 then (if a0 ≤ 90 then (some true) else (if a0 ≥ 48 then (if a0 ≤ 57 then (some true) else (if a0 = 46 then (some true) else (if a0 = 95 then (some true) else (some (a0 == 45))))) else (if a0 = 46 then (some true) else (if a0 = 95 then (some true) else (some (a0 == 45)))))) else (if a0 ≥ 48 then (if a0 ≤ 57 then (some true) else (if a0 = 46 then (some true) else (if a0 = 95 then (some true) else (some (a0 == 45))))) else (if a0 = 46 then (some true) else (if a0 = 95 then (some true) else (some (a0 == 45))))))
set_option maxHeartbeats 8000000 in
set_option maxRecDepth 100000 in
theorem path_sign.calls (a0 : Int) (r : Bool) (w : World) (hG : GOK w) (h : path_sign.f a0 = some r) :
 Calls Tryz.prog 65 #[.int .i32 a0] w fun e w' => e = .returned (.bool r) ∧ Drawn0 w w' := by
 have HG := Aside0.mk hG
 clear hG
 have H : (if a0 ≥ 97 then (if a0 ≤ 122 then (some true) else (if a0 ≥ 65 then (if a0 ≤ 90 then (some true) else (if a0 ≥ 48 then (if a0 ≤ 57 then (some true) else (if a0 = 46 then (some true) else (if a0 = 95 then (some true) else (some (a0 == 45))))) else (if a0 = 46 then (some true) else (if a0 = 95 then (some true) else (some (a0 == 45)))))) else (if a0 ≥ 48 then (if a0 ≤ 57 then (some true) else (if a0 = 46 then (some true) else (if a0 = 95 then (some true) else (some (a0 == 45))))) else (if a0 = 46 then (some true) else (if a0 = 95 then (some true) else (some (a0 == 45))))))) else (if a0 ≥ 65 then (if a0 ≤ 90 then (some true) else (if a0 ≥ 48 then (if a0 ≤ 57 then (some true) else (if a0 = 46 then (some true) else (if a0 = 95 then (some true) else (some (a0 == 45))))) else (if a0 = 46 then (some true) else (if a0 = 95 then (some true) else (some (a0 == 45)))))) else (if a0 ≥ 48 then (if a0 ≤ 57 then (some true) else (if a0 = 46 then (some true) else (if a0 = 95 then (some true) else (some (a0 == 45))))) else (if a0 = 46 then (some true) else (if a0 = 95 then (some true) else (some (a0 == 45))))))) = some r := h
 clear h
 by_cases c2 : a0 ≥ 97
 · rw [if_pos c2] at H
   have c2b0 : decide (97 ≤ a0) = true := decide_eq_true c2
   clear c2
   by_cases c3 : a0 ≤ 122
   · rw [if_pos c3] at H
     have c3b0 : decide (a0 ≤ 122) = true := decide_eq_true c3
     clear c3
     obtain rfl := Option.some.inj H
     go_enter Tryz.func65, Tryz.ntmps65
     go_wp2
     go_ret
     exact ⟨by first | rfl | (simp; done) | (simp [*]; done), by repeat (first | exact Drawn0.refl _ | apply Drawn0.step)⟩
   · rw [if_neg c3] at H
     have c3b0 : decide (a0 ≤ 122) = false := decide_eq_false c3
     clear c3
     by_cases c4 : a0 ≥ 65
     · rw [if_pos c4] at H
       have c4b0 : decide (65 ≤ a0) = true := decide_eq_true c4
       clear c4
       by_cases c5 : a0 ≤ 90
       · rw [if_pos c5] at H
         have c5b0 : decide (a0 ≤ 90) = true := decide_eq_true c5
         clear c5
         obtain rfl := Option.some.inj H
         go_enter Tryz.func65, Tryz.ntmps65
         go_wp2
         go_ret
         exact ⟨by first | rfl | (simp; done) | (simp [*]; done), by repeat (first | exact Drawn0.refl _ | apply Drawn0.step)⟩
       · rw [if_neg c5] at H
         have c5b0 : decide (a0 ≤ 90) = false := decide_eq_false c5
         clear c5
         by_cases c6 : a0 ≥ 48
         · rw [if_pos c6] at H
           have c6b0 : decide (48 ≤ a0) = true := decide_eq_true c6
           clear c6
           by_cases c7 : a0 ≤ 57
           · rw [if_pos c7] at H
             have c7b0 : decide (a0 ≤ 57) = true := decide_eq_true c7
             clear c7
             obtain rfl := Option.some.inj H
             go_enter Tryz.func65, Tryz.ntmps65
             go_wp2
             go_ret
             exact ⟨by first | rfl | (simp; done) | (simp [*]; done), by repeat (first | exact Drawn0.refl _ | apply Drawn0.step)⟩
           · rw [if_neg c7] at H
             have c7b0 : decide (a0 ≤ 57) = false := decide_eq_false c7
             clear c7
             by_cases c8 : a0 = 46
             · rw [if_pos c8] at H
               have c8b0 : (a0 == 46) = true := beq_iff_eq.mpr c8
               have c8b1 : (a0 != 46) = false := bne_eq_false_iff_eq.mpr c8
               clear c8
               obtain rfl := Option.some.inj H
               go_enter Tryz.func65, Tryz.ntmps65
               go_wp2
               go_ret
               exact ⟨by first | rfl | (simp; done) | (simp [*]; done), by repeat (first | exact Drawn0.refl _ | apply Drawn0.step)⟩
             · rw [if_neg c8] at H
               have c8b0 : (a0 == 46) = false := beq_eq_false_iff_ne.mpr c8
               have c8b1 : (a0 != 46) = true := bne_iff_ne.mpr c8
               by_cases c9 : a0 = 95
               · rw [if_pos c9] at H
                 have c9b0 : (a0 == 95) = true := beq_iff_eq.mpr c9
                 have c9b1 : (a0 != 95) = false := bne_eq_false_iff_eq.mpr c9
                 clear c9
                 obtain rfl := Option.some.inj H
                 go_enter Tryz.func65, Tryz.ntmps65
                 go_wp2
                 go_ret
                 exact ⟨by first | rfl | (simp; done) | (simp [*]; done), by repeat (first | exact Drawn0.refl _ | apply Drawn0.step)⟩
               · rw [if_neg c9] at H
                 have c9b0 : (a0 == 95) = false := beq_eq_false_iff_ne.mpr c9
                 have c9b1 : (a0 != 95) = true := bne_iff_ne.mpr c9
                 obtain rfl := Option.some.inj H
                 go_enter Tryz.func65, Tryz.ntmps65
                 go_wp2
                 go_ret
                 exact ⟨by first | rfl | (simp; done) | (simp [*]; done), by repeat (first | exact Drawn0.refl _ | apply Drawn0.step)⟩
         · rw [if_neg c6] at H
           have c6b0 : decide (48 ≤ a0) = false := decide_eq_false c6
           clear c6
           by_cases c10 : a0 = 46
           · rw [if_pos c10] at H
             have c10b0 : (a0 == 46) = true := beq_iff_eq.mpr c10
             have c10b1 : (a0 != 46) = false := bne_eq_false_iff_eq.mpr c10
             clear c10
             obtain rfl := Option.some.inj H
             go_enter Tryz.func65, Tryz.ntmps65
             go_wp2
             go_ret
             exact ⟨by first | rfl | (simp; done) | (simp [*]; done), by repeat (first | exact Drawn0.refl _ | apply Drawn0.step)⟩
           · rw [if_neg c10] at H
             have c10b0 : (a0 == 46) = false := beq_eq_false_iff_ne.mpr c10
             have c10b1 : (a0 != 46) = true := bne_iff_ne.mpr c10
             by_cases c11 : a0 = 95
             · rw [if_pos c11] at H
               have c11b0 : (a0 == 95) = true := beq_iff_eq.mpr c11
               have c11b1 : (a0 != 95) = false := bne_eq_false_iff_eq.mpr c11
               clear c11
               obtain rfl := Option.some.inj H
               go_enter Tryz.func65, Tryz.ntmps65
               go_wp2
               go_ret
               exact ⟨by first | rfl | (simp; done) | (simp [*]; done), by repeat (first | exact Drawn0.refl _ | apply Drawn0.step)⟩
             · rw [if_neg c11] at H
               have c11b0 : (a0 == 95) = false := beq_eq_false_iff_ne.mpr c11
               have c11b1 : (a0 != 95) = true := bne_iff_ne.mpr c11
               obtain rfl := Option.some.inj H
               go_enter Tryz.func65, Tryz.ntmps65
               go_wp2
               go_ret
               exact ⟨by first | rfl | (simp; done) | (simp [*]; done), by repeat (first | exact Drawn0.refl _ | apply Drawn0.step)⟩
     · rw [if_neg c4] at H
       have c4b0 : decide (65 ≤ a0) = false := decide_eq_false c4
       clear c4
       by_cases c12 : a0 ≥ 48
       · rw [if_pos c12] at H
         have c12b0 : decide (48 ≤ a0) = true := decide_eq_true c12
         clear c12
         by_cases c13 : a0 ≤ 57
         · rw [if_pos c13] at H
           have c13b0 : decide (a0 ≤ 57) = true := decide_eq_true c13
           clear c13
           obtain rfl := Option.some.inj H
           go_enter Tryz.func65, Tryz.ntmps65
           go_wp2
           go_ret
           exact ⟨by first | rfl | (simp; done) | (simp [*]; done), by repeat (first | exact Drawn0.refl _ | apply Drawn0.step)⟩
         · rw [if_neg c13] at H
           have c13b0 : decide (a0 ≤ 57) = false := decide_eq_false c13
           clear c13
           by_cases c14 : a0 = 46
           · rw [if_pos c14] at H
             have c14b0 : (a0 == 46) = true := beq_iff_eq.mpr c14
             have c14b1 : (a0 != 46) = false := bne_eq_false_iff_eq.mpr c14
             clear c14
             obtain rfl := Option.some.inj H
             go_enter Tryz.func65, Tryz.ntmps65
             go_wp2
             go_ret
             exact ⟨by first | rfl | (simp; done) | (simp [*]; done), by repeat (first | exact Drawn0.refl _ | apply Drawn0.step)⟩
           · rw [if_neg c14] at H
             have c14b0 : (a0 == 46) = false := beq_eq_false_iff_ne.mpr c14
             have c14b1 : (a0 != 46) = true := bne_iff_ne.mpr c14
             by_cases c15 : a0 = 95
             · rw [if_pos c15] at H
               have c15b0 : (a0 == 95) = true := beq_iff_eq.mpr c15
               have c15b1 : (a0 != 95) = false := bne_eq_false_iff_eq.mpr c15
               clear c15
               obtain rfl := Option.some.inj H
               go_enter Tryz.func65, Tryz.ntmps65
               go_wp2
               go_ret
               exact ⟨by first | rfl | (simp; done) | (simp [*]; done), by repeat (first | exact Drawn0.refl _ | apply Drawn0.step)⟩
             · rw [if_neg c15] at H
               have c15b0 : (a0 == 95) = false := beq_eq_false_iff_ne.mpr c15
               have c15b1 : (a0 != 95) = true := bne_iff_ne.mpr c15
               obtain rfl := Option.some.inj H
               go_enter Tryz.func65, Tryz.ntmps65
               go_wp2
               go_ret
               exact ⟨by first | rfl | (simp; done) | (simp [*]; done), by repeat (first | exact Drawn0.refl _ | apply Drawn0.step)⟩
       · rw [if_neg c12] at H
         have c12b0 : decide (48 ≤ a0) = false := decide_eq_false c12
         clear c12
         by_cases c16 : a0 = 46
         · rw [if_pos c16] at H
           have c16b0 : (a0 == 46) = true := beq_iff_eq.mpr c16
           have c16b1 : (a0 != 46) = false := bne_eq_false_iff_eq.mpr c16
           clear c16
           obtain rfl := Option.some.inj H
           go_enter Tryz.func65, Tryz.ntmps65
           go_wp2
           go_ret
           exact ⟨by first | rfl | (simp; done) | (simp [*]; done), by repeat (first | exact Drawn0.refl _ | apply Drawn0.step)⟩
         · rw [if_neg c16] at H
           have c16b0 : (a0 == 46) = false := beq_eq_false_iff_ne.mpr c16
           have c16b1 : (a0 != 46) = true := bne_iff_ne.mpr c16
           by_cases c17 : a0 = 95
           · rw [if_pos c17] at H
             have c17b0 : (a0 == 95) = true := beq_iff_eq.mpr c17
             have c17b1 : (a0 != 95) = false := bne_eq_false_iff_eq.mpr c17
             clear c17
             obtain rfl := Option.some.inj H
             go_enter Tryz.func65, Tryz.ntmps65
             go_wp2
             go_ret
             exact ⟨by first | rfl | (simp; done) | (simp [*]; done), by repeat (first | exact Drawn0.refl _ | apply Drawn0.step)⟩
           · rw [if_neg c17] at H
             have c17b0 : (a0 == 95) = false := beq_eq_false_iff_ne.mpr c17
             have c17b1 : (a0 != 95) = true := bne_iff_ne.mpr c17
             obtain rfl := Option.some.inj H
             go_enter Tryz.func65, Tryz.ntmps65
             go_wp2
             go_ret
             exact ⟨by first | rfl | (simp; done) | (simp [*]; done), by repeat (first | exact Drawn0.refl _ | apply Drawn0.step)⟩
 · rw [if_neg c2] at H
   have c2b0 : decide (97 ≤ a0) = false := decide_eq_false c2
   clear c2
   by_cases c18 : a0 ≥ 65
   · rw [if_pos c18] at H
     have c18b0 : decide (65 ≤ a0) = true := decide_eq_true c18
     clear c18
     by_cases c19 : a0 ≤ 90
     · rw [if_pos c19] at H
       have c19b0 : decide (a0 ≤ 90) = true := decide_eq_true c19
       clear c19
       obtain rfl := Option.some.inj H
       go_enter Tryz.func65, Tryz.ntmps65
       go_wp2
       go_ret
       exact ⟨by first | rfl | (simp; done) | (simp [*]; done), by repeat (first | exact Drawn0.refl _ | apply Drawn0.step)⟩
     · rw [if_neg c19] at H
       have c19b0 : decide (a0 ≤ 90) = false := decide_eq_false c19
       clear c19
       by_cases c20 : a0 ≥ 48
       · rw [if_pos c20] at H
         have c20b0 : decide (48 ≤ a0) = true := decide_eq_true c20
         clear c20
         by_cases c21 : a0 ≤ 57
         · rw [if_pos c21] at H
           have c21b0 : decide (a0 ≤ 57) = true := decide_eq_true c21
           clear c21
           obtain rfl := Option.some.inj H
           go_enter Tryz.func65, Tryz.ntmps65
           go_wp2
           go_ret
           exact ⟨by first | rfl | (simp; done) | (simp [*]; done), by repeat (first | exact Drawn0.refl _ | apply Drawn0.step)⟩
         · rw [if_neg c21] at H
           have c21b0 : decide (a0 ≤ 57) = false := decide_eq_false c21
           clear c21
           by_cases c22 : a0 = 46
           · rw [if_pos c22] at H
             have c22b0 : (a0 == 46) = true := beq_iff_eq.mpr c22
             have c22b1 : (a0 != 46) = false := bne_eq_false_iff_eq.mpr c22
             clear c22
             obtain rfl := Option.some.inj H
             go_enter Tryz.func65, Tryz.ntmps65
             go_wp2
             go_ret
             exact ⟨by first | rfl | (simp; done) | (simp [*]; done), by repeat (first | exact Drawn0.refl _ | apply Drawn0.step)⟩
           · rw [if_neg c22] at H
             have c22b0 : (a0 == 46) = false := beq_eq_false_iff_ne.mpr c22
             have c22b1 : (a0 != 46) = true := bne_iff_ne.mpr c22
             by_cases c23 : a0 = 95
             · rw [if_pos c23] at H
               have c23b0 : (a0 == 95) = true := beq_iff_eq.mpr c23
               have c23b1 : (a0 != 95) = false := bne_eq_false_iff_eq.mpr c23
               clear c23
               obtain rfl := Option.some.inj H
               go_enter Tryz.func65, Tryz.ntmps65
               go_wp2
               go_ret
               exact ⟨by first | rfl | (simp; done) | (simp [*]; done), by repeat (first | exact Drawn0.refl _ | apply Drawn0.step)⟩
             · rw [if_neg c23] at H
               have c23b0 : (a0 == 95) = false := beq_eq_false_iff_ne.mpr c23
               have c23b1 : (a0 != 95) = true := bne_iff_ne.mpr c23
               obtain rfl := Option.some.inj H
               go_enter Tryz.func65, Tryz.ntmps65
               go_wp2
               go_ret
               exact ⟨by first | rfl | (simp; done) | (simp [*]; done), by repeat (first | exact Drawn0.refl _ | apply Drawn0.step)⟩
       · rw [if_neg c20] at H
         have c20b0 : decide (48 ≤ a0) = false := decide_eq_false c20
         clear c20
         by_cases c24 : a0 = 46
         · rw [if_pos c24] at H
           have c24b0 : (a0 == 46) = true := beq_iff_eq.mpr c24
           have c24b1 : (a0 != 46) = false := bne_eq_false_iff_eq.mpr c24
           clear c24
           obtain rfl := Option.some.inj H
           go_enter Tryz.func65, Tryz.ntmps65
           go_wp2
           go_ret
           exact ⟨by first | rfl | (simp; done) | (simp [*]; done), by repeat (first | exact Drawn0.refl _ | apply Drawn0.step)⟩
         · rw [if_neg c24] at H
           have c24b0 : (a0 == 46) = false := beq_eq_false_iff_ne.mpr c24
           have c24b1 : (a0 != 46) = true := bne_iff_ne.mpr c24
           by_cases c25 : a0 = 95
           · rw [if_pos c25] at H
             have c25b0 : (a0 == 95) = true := beq_iff_eq.mpr c25
             have c25b1 : (a0 != 95) = false := bne_eq_false_iff_eq.mpr c25
             clear c25
             obtain rfl := Option.some.inj H
             go_enter Tryz.func65, Tryz.ntmps65
             go_wp2
             go_ret
             exact ⟨by first | rfl | (simp; done) | (simp [*]; done), by repeat (first | exact Drawn0.refl _ | apply Drawn0.step)⟩
           · rw [if_neg c25] at H
             have c25b0 : (a0 == 95) = false := beq_eq_false_iff_ne.mpr c25
             have c25b1 : (a0 != 95) = true := bne_iff_ne.mpr c25
             obtain rfl := Option.some.inj H
             go_enter Tryz.func65, Tryz.ntmps65
             go_wp2
             go_ret
             exact ⟨by first | rfl | (simp; done) | (simp [*]; done), by repeat (first | exact Drawn0.refl _ | apply Drawn0.step)⟩
   · rw [if_neg c18] at H
     have c18b0 : decide (65 ≤ a0) = false := decide_eq_false c18
     clear c18
     by_cases c26 : a0 ≥ 48
     · rw [if_pos c26] at H
       have c26b0 : decide (48 ≤ a0) = true := decide_eq_true c26
       clear c26
       by_cases c27 : a0 ≤ 57
       · rw [if_pos c27] at H
         have c27b0 : decide (a0 ≤ 57) = true := decide_eq_true c27
         clear c27
         obtain rfl := Option.some.inj H
         go_enter Tryz.func65, Tryz.ntmps65
         go_wp2
         go_ret
         exact ⟨by first | rfl | (simp; done) | (simp [*]; done), by repeat (first | exact Drawn0.refl _ | apply Drawn0.step)⟩
       · rw [if_neg c27] at H
         have c27b0 : decide (a0 ≤ 57) = false := decide_eq_false c27
         clear c27
         by_cases c28 : a0 = 46
         · rw [if_pos c28] at H
           have c28b0 : (a0 == 46) = true := beq_iff_eq.mpr c28
           have c28b1 : (a0 != 46) = false := bne_eq_false_iff_eq.mpr c28
           clear c28
           obtain rfl := Option.some.inj H
           go_enter Tryz.func65, Tryz.ntmps65
           go_wp2
           go_ret
           exact ⟨by first | rfl | (simp; done) | (simp [*]; done), by repeat (first | exact Drawn0.refl _ | apply Drawn0.step)⟩
         · rw [if_neg c28] at H
           have c28b0 : (a0 == 46) = false := beq_eq_false_iff_ne.mpr c28
           have c28b1 : (a0 != 46) = true := bne_iff_ne.mpr c28
           by_cases c29 : a0 = 95
           · rw [if_pos c29] at H
             have c29b0 : (a0 == 95) = true := beq_iff_eq.mpr c29
             have c29b1 : (a0 != 95) = false := bne_eq_false_iff_eq.mpr c29
             clear c29
             obtain rfl := Option.some.inj H
             go_enter Tryz.func65, Tryz.ntmps65
             go_wp2
             go_ret
             exact ⟨by first | rfl | (simp; done) | (simp [*]; done), by repeat (first | exact Drawn0.refl _ | apply Drawn0.step)⟩
           · rw [if_neg c29] at H
             have c29b0 : (a0 == 95) = false := beq_eq_false_iff_ne.mpr c29
             have c29b1 : (a0 != 95) = true := bne_iff_ne.mpr c29
             obtain rfl := Option.some.inj H
             go_enter Tryz.func65, Tryz.ntmps65
             go_wp2
             go_ret
             exact ⟨by first | rfl | (simp; done) | (simp [*]; done), by repeat (first | exact Drawn0.refl _ | apply Drawn0.step)⟩
     · rw [if_neg c26] at H
       have c26b0 : decide (48 ≤ a0) = false := decide_eq_false c26
       clear c26
       by_cases c30 : a0 = 46
       · rw [if_pos c30] at H
         have c30b0 : (a0 == 46) = true := beq_iff_eq.mpr c30
         have c30b1 : (a0 != 46) = false := bne_eq_false_iff_eq.mpr c30
         clear c30
         obtain rfl := Option.some.inj H
         go_enter Tryz.func65, Tryz.ntmps65
         go_wp2
         go_ret
         exact ⟨by first | rfl | (simp; done) | (simp [*]; done), by repeat (first | exact Drawn0.refl _ | apply Drawn0.step)⟩
       · rw [if_neg c30] at H
         have c30b0 : (a0 == 46) = false := beq_eq_false_iff_ne.mpr c30
         have c30b1 : (a0 != 46) = true := bne_iff_ne.mpr c30
         by_cases c31 : a0 = 95
         · rw [if_pos c31] at H
           have c31b0 : (a0 == 95) = true := beq_iff_eq.mpr c31
           have c31b1 : (a0 != 95) = false := bne_eq_false_iff_eq.mpr c31
           clear c31
           obtain rfl := Option.some.inj H
           go_enter Tryz.func65, Tryz.ntmps65
           go_wp2
           go_ret
           exact ⟨by first | rfl | (simp; done) | (simp [*]; done), by repeat (first | exact Drawn0.refl _ | apply Drawn0.step)⟩
         · rw [if_neg c31] at H
           have c31b0 : (a0 == 95) = false := beq_eq_false_iff_ne.mpr c31
           have c31b1 : (a0 != 95) = true := bne_iff_ne.mpr c31
           obtain rfl := Option.some.inj H
           go_enter Tryz.func65, Tryz.ntmps65
           go_wp2
           go_ret
           exact ⟨by first | rfl | (simp; done) | (simp [*]; done), by repeat (first | exact Drawn0.refl _ | apply Drawn0.step)⟩

def path_bad_1.f (a0 : Int) : Option (Bool) := (path_sign.f a0).bind fun t101 => (some (!t101))
set_option maxHeartbeats 8000000 in
set_option maxRecDepth 100000 in
theorem path_bad_1.calls (a0 : Int) (r : Bool) (w : World) (hG : GOK w) (h : path_bad_1.f a0 = some r) :
 Calls Tryz.prog 64 #[.int .i32 a0] w fun e w' => e = .returned (.bool r) ∧ Drawn0 w w' := by
 have HG := Aside0.mk hG
 clear hG
 have H : ((path_sign.f a0).bind fun t101 => (some (!t101))) = some r := h
 clear h
 replace H := Option.bind_eq_some_iff.mp H
 obtain ⟨t101, A20, H⟩ := H
 replace H : (some (!t101)) = some r := H
 have A2 := Aside0.mk A20
 clear A20
 obtain rfl := Option.some.inj H
 go_enter Tryz.func64, Tryz.ntmps64
 go_wp2_with (first | ((with_reducible refine gate_callee (f := 65) rfl ?_); refine goesL_ (some 4) rfl rfl Tryz.func65 (by kernel_rfl) rfl #[.int .i32 a0] rfl (by (try simp only [List.map_toArray, List.map_cons, List.map_nil]); first | done | rfl | (simp only [List.length_drop, List.length_take]; rfl)) ?_; (with_reducible refine (path_sign.calls a0 t101 _ ?side99 A2.out).mono ?_); (case side99 => first | exact HG.out | exact GOK.drewN HG.out _); rintro e w' ⟨rfl, ⟨nd, rfl⟩⟩; refine ⟨_, rfl, ?_⟩))
 go_ret
 exact ⟨by first | rfl | (simp; done) | (simp [*]; done), by repeat (first | exact Drawn0.refl _ | apply Drawn0.step)⟩

def path_Join_1.f (a0 : ByteArray) : Option (Bool) := some (a0.toList == ([] : List UInt8))
set_option maxHeartbeats 8000000 in
set_option maxRecDepth 100000 in
theorem path_Join_1.calls (a0 : ByteArray) (r : Bool) (w : World) (hG : GOK w) (h : path_Join_1.f a0 = some r) :
 Calls Tryz.prog 46 #[.string a0] w fun e w' => e = .returned (.bool r) ∧ Drawn0 w w' := by
 have HG := Aside0.mk hG
 clear hG
 have H : (some (a0.toList == ([] : List UInt8))) = some r := h
 clear h
 obtain rfl := Option.some.inj H
 go_enter Tryz.func46, Tryz.ntmps46
 go_wp2
 go_ret
 exact ⟨by first | rfl | (simp; done) | (simp [*]; done), by repeat (first | exact Drawn0.refl _ | apply Drawn0.step)⟩

end Go.Proofs.YtobbliglnjgbaaaGreatDoor.Pa

namespace Go.Proofs
open Go.Shelf
def Tryz.laysM146_ren : Go.Shelf.Ren := ⟨fun | 146 => 45 | 221 => 66 | 268 => 79 | 138 => 80 | 143 => 81 | 195 => 95 | 197 => 96 | 218 => 97 | 219 => 85 | 260 => 118 | 217 => 100 | 225 => 101 | 224 => 102 | 267 => 103 | 266 => 123 | 314 => 124 | n => n, fun | 9 => 9 | 31 => 28 | 3 => 3 | 4 => 4 | 0 => 0 | 105 => 121 | 21 => 21 | 5 => 5 | 46 => 112 | 119 => 160 | 139 => 163 | 138 => 162 | 146 => 148 | 51 => 135 | n => n, fun | 1 => 0 | 3 => 3 | 4 => 4 | n => n⟩
theorem Tryz.laysM146 : Go.Proofs.LaysM.n146 Tryz.prog Tryz.laysM146_ren := {
 mixed := by kernel_rfl
 f138 := Tryz.func80.trans (congrArg some (by kernel_rfl))
 f143 := Tryz.func81.trans (congrArg some (by kernel_rfl))
 f146 := Tryz.func45.trans (congrArg some (by kernel_rfl))
 f195 := Tryz.func95.trans (congrArg some (by kernel_rfl))
 f197 := Tryz.func96.trans (congrArg some (by kernel_rfl))
 f217 := Tryz.func100.trans (congrArg some (by kernel_rfl))
 f218 := Tryz.func97.trans (congrArg some (by kernel_rfl))
 f219 := Tryz.func85.trans (congrArg some (by kernel_rfl))
 f221 := Tryz.func66.trans (congrArg some (by kernel_rfl))
 f224 := Tryz.func102.trans (congrArg some (by kernel_rfl))
 f225 := Tryz.func101.trans (congrArg some (by kernel_rfl))
 f260 := Tryz.func118.trans (congrArg some (by kernel_rfl))
 f266 := Tryz.func123.trans (congrArg some (by kernel_rfl))
 f267 := Tryz.func103.trans (congrArg some (by kernel_rfl))
 f268 := Tryz.func79.trans (congrArg some (by kernel_rfl))
 f314 := Tryz.func124.trans (congrArg some (by kernel_rfl))
 t0 := Tryz.underlying0
 a0 := Tryz.isAgg0
 z0 := Tryz.sizeOf0
 v0 := Tryz.zeroValue0
 t3 := Tryz.underlying3
 a3 := Tryz.isAgg3
 z3 := Tryz.sizeOf3
 v3 := Tryz.zeroValue3
 t4 := Tryz.underlying4
 a4 := Tryz.isAgg4
 z4 := Tryz.sizeOf4
 v4 := Tryz.zeroValue4
 t5 := Tryz.underlying5
 a5 := Tryz.isAgg5
 z5 := Tryz.sizeOf5
 v5 := Tryz.zeroValue5
 t9 := Tryz.underlying9
 a9 := Tryz.isAgg9
 z9 := Tryz.sizeOf9
 v9 := Tryz.zeroValue9
 t21 := Tryz.underlying21
 a21 := Tryz.isAgg21
 z21 := Tryz.sizeOf21
 v21 := Tryz.zeroValue21
 t31 := Tryz.underlying28
 a31 := Tryz.isAgg28
 z31 := Tryz.sizeOf28
 v31 := Tryz.zeroValue28
 t46 := Tryz.underlying112
 a46 := Tryz.isAgg112
 z46 := Tryz.sizeOf112
 v46 := Tryz.zeroValue112
 t51 := Tryz.underlying135
 a51 := Tryz.isAgg135
 z51 := Tryz.sizeOf135
 v51 := Tryz.zeroValue135
 t105 := Tryz.underlying121
 a105 := Tryz.isAgg121
 z105 := Tryz.sizeOf121
 v105 := Tryz.zeroValue121
 t119 := Tryz.underlying160
 a119 := Tryz.isAgg160
 z119 := Tryz.sizeOf160
 t138 := Tryz.underlying162
 a138 := Tryz.isAgg162
 z138 := Tryz.sizeOf162
 v138 := Tryz.zeroValue162
 t139 := Tryz.underlying163
 a139 := Tryz.isAgg163
 z139 := Tryz.sizeOf163
 v139 := Tryz.zeroValue163
 t146 := Tryz.underlying148
 a146 := Tryz.isAgg148
 z146 := Tryz.sizeOf148
 v146 := Tryz.zeroValue148
 g1 := by kernel_rfl
 g3 := by kernel_rfl
 g4 := by kernel_rfl
 i0 := by kernel_rfl
 i3 := by kernel_rfl
 i4 := by kernel_rfl
 i5 := by kernel_rfl
 i9 := by kernel_rfl
 i21 := by kernel_rfl
 i31 := by kernel_rfl
 i46 := by kernel_rfl
 i51 := by kernel_rfl
 i105 := by kernel_rfl
 i138 := by kernel_rfl
 i139 := by kernel_rfl
 i146 := by kernel_rfl
 m1 := by kernel_rfl
 s1_3 := fun w h => Go.Proofs.cell_of_shapedOpen_int (zero := #[.int .i64 0]) (t := 3) h (of_decide_eq_true (by kernel_rfl)) (by kernel_rfl) rfl (by kernel_rfl) (by kernel_rfl) Tryz.underlying3
 m3 := by kernel_rfl
 m4 := by kernel_rfl }
def Tryz.lays145_ren : Go.Shelf.Ren := ⟨fun | 145 => 54 | 220 => 70 | 219 => 85 | 217 => 100 | 225 => 101 | 224 => 102 | 267 => 103 | 266 => 123 | 314 => 124 | n => n, fun | 9 => 9 | 4 => 4 | 59 => 87 | 3 => 3 | 5 => 5 | 46 => 112 | 146 => 148 | 51 => 135 | n => n, fun | 1 => 0 | n => n⟩
theorem Tryz.lays145 : Go.Proofs.Lays.n145 Tryz.prog Tryz.lays145_ren := {
 mixed := by kernel_rfl
 f145 := Tryz.func54.trans (congrArg some (by kernel_rfl))
 f217 := Tryz.func100.trans (congrArg some (by kernel_rfl))
 f219 := Tryz.func85.trans (congrArg some (by kernel_rfl))
 f220 := Tryz.func70.trans (congrArg some (by kernel_rfl))
 f224 := Tryz.func102.trans (congrArg some (by kernel_rfl))
 f225 := Tryz.func101.trans (congrArg some (by kernel_rfl))
 f266 := Tryz.func123.trans (congrArg some (by kernel_rfl))
 f267 := Tryz.func103.trans (congrArg some (by kernel_rfl))
 f314 := Tryz.func124.trans (congrArg some (by kernel_rfl))
 t3 := Tryz.underlying3
 a3 := Tryz.isAgg3
 z3 := Tryz.sizeOf3
 v3 := Tryz.zeroValue3
 t4 := Tryz.underlying4
 a4 := Tryz.isAgg4
 z4 := Tryz.sizeOf4
 v4 := Tryz.zeroValue4
 t5 := Tryz.underlying5
 a5 := Tryz.isAgg5
 z5 := Tryz.sizeOf5
 v5 := Tryz.zeroValue5
 t9 := Tryz.underlying9
 a9 := Tryz.isAgg9
 z9 := Tryz.sizeOf9
 v9 := Tryz.zeroValue9
 t46 := Tryz.underlying112
 a46 := Tryz.isAgg112
 z46 := Tryz.sizeOf112
 v46 := Tryz.zeroValue112
 t51 := Tryz.underlying135
 a51 := Tryz.isAgg135
 z51 := Tryz.sizeOf135
 v51 := Tryz.zeroValue135
 t59 := Tryz.underlying87
 a59 := Tryz.isAgg87
 z59 := Tryz.sizeOf87
 v59 := Tryz.zeroValue87
 t146 := Tryz.underlying148
 a146 := Tryz.isAgg148
 z146 := Tryz.sizeOf148
 v146 := Tryz.zeroValue148
 g1 := by kernel_rfl }
def Tryz.lays156_ren : Go.Shelf.Ren := ⟨fun | 156 => 47 | 165 => 67 | 166 => 51 | 169 => 53 | 240 => 68 | 241 => 82 | 276 => 83 | 277 => 98 | n => n, fun | 31 => 28 | 9 => 9 | 3 => 3 | 4 => 4 | 0 => 0 | 20 => 20 | 72 => 82 | 76 => 85 | 70 => 80 | 37 => 43 | 75 => 84 | 127 => 100 | 164 => 107 | 5 => 5 | 80 => 51 | n => n, fun | n => n⟩
theorem Tryz.lays156 : Go.Proofs.Lays.n156 Tryz.prog Tryz.lays156_ren := {
 mixed := by kernel_rfl
 f156 := Tryz.func47.trans (congrArg some (by kernel_rfl))
 f165 := Tryz.func67.trans (congrArg some (by kernel_rfl))
 f166 := Tryz.func51.trans (congrArg some (by kernel_rfl))
 f169 := Tryz.func53.trans (congrArg some (by kernel_rfl))
 f240 := Tryz.func68.trans (congrArg some (by kernel_rfl))
 f241 := Tryz.func82.trans (congrArg some (by kernel_rfl))
 f276 := Tryz.func83.trans (congrArg some (by kernel_rfl))
 f277 := Tryz.func98.trans (congrArg some (by kernel_rfl))
 t0 := Tryz.underlying0
 a0 := Tryz.isAgg0
 z0 := Tryz.sizeOf0
 v0 := Tryz.zeroValue0
 t3 := Tryz.underlying3
 a3 := Tryz.isAgg3
 z3 := Tryz.sizeOf3
 v3 := Tryz.zeroValue3
 t4 := Tryz.underlying4
 a4 := Tryz.isAgg4
 z4 := Tryz.sizeOf4
 v4 := Tryz.zeroValue4
 t9 := Tryz.underlying9
 a9 := Tryz.isAgg9
 z9 := Tryz.sizeOf9
 v9 := Tryz.zeroValue9
 t20 := Tryz.underlying20
 a20 := Tryz.isAgg20
 z20 := Tryz.sizeOf20
 v20 := Tryz.zeroValue20
 t31 := Tryz.underlying28
 a31 := Tryz.isAgg28
 z31 := Tryz.sizeOf28
 v31 := Tryz.zeroValue28
 t37 := Tryz.underlying43
 a37 := Tryz.isAgg43
 z37 := Tryz.sizeOf43
 v37 := Tryz.zeroValue43
 t70 := Tryz.underlying80
 a70 := Tryz.isAgg80
 z70 := Tryz.sizeOf80
 v70 := Tryz.zeroValue80
 t72 := Tryz.underlying82
 a72 := Tryz.isAgg82
 z72 := Tryz.sizeOf82
 v72 := Tryz.zeroValue82
 t75 := Tryz.underlying84
 a75 := Tryz.isAgg84
 z75 := Tryz.sizeOf84
 v75 := Tryz.zeroValue84
 t76 := Tryz.underlying85
 a76 := Tryz.isAgg85
 z76 := Tryz.sizeOf85
 v76 := Tryz.zeroValue85
 t127 := Tryz.underlying100
 a127 := Tryz.isAgg100
 z127 := Tryz.sizeOf100
 v127 := Tryz.zeroValue100
 t164 := Tryz.underlying107
 a164 := Tryz.isAgg107
 z164 := Tryz.sizeOf107
 v164 := Tryz.zeroValue107 }
def Tryz.laysM171_ren : Go.Shelf.Ren := ⟨fun | 171 => 69 | 243 => 84 | 246 => 99 | 283 => 119 | 284 => 120 | 285 => 121 | 286 => 122 | 129 => 114 | 317 => 133 | 318 => 134 | 319 => 135 | 320 => 136 | 337 => 138 | 338 => 139 | n => n, fun | 3 => 3 | 9 => 9 | 2 => 2 | 4 => 4 | 171 => 144 | 0 => 0 | 53 => 137 | 37 => 43 | 5 => 5 | 173 => 146 | 212 => 165 | 51 => 135 | 20 => 20 | 213 => 166 | 46 => 112 | 232 => 171 | 233 => 172 | n => n, fun | 17 => 5 | 18 => 6 | 19 => 7 | n => n⟩
theorem Tryz.laysM171 : Go.Proofs.LaysM.n171 Tryz.prog Tryz.laysM171_ren := {
 mixed := by kernel_rfl
 f129 := Tryz.func114.trans (congrArg some (by kernel_rfl))
 f171 := Tryz.func69.trans (congrArg some (by kernel_rfl))
 f243 := Tryz.func84.trans (congrArg some (by kernel_rfl))
 f246 := Tryz.func99.trans (congrArg some (by kernel_rfl))
 f283 := Tryz.func119.trans (congrArg some (by kernel_rfl))
 f284 := Tryz.func120.trans (congrArg some (by kernel_rfl))
 f285 := Tryz.func121.trans (congrArg some (by kernel_rfl))
 f286 := Tryz.func122.trans (congrArg some (by kernel_rfl))
 f317 := Tryz.func133.trans (congrArg some (by kernel_rfl))
 f318 := Tryz.func134.trans (congrArg some (by kernel_rfl))
 f319 := Tryz.func135.trans (congrArg some (by kernel_rfl))
 f320 := Tryz.func136.trans (congrArg some (by kernel_rfl))
 f337 := Tryz.func138.trans (congrArg some (by kernel_rfl))
 f338 := Tryz.func139.trans (congrArg some (by kernel_rfl))
 t0 := Tryz.underlying0
 a0 := Tryz.isAgg0
 z0 := Tryz.sizeOf0
 v0 := Tryz.zeroValue0
 t2 := Tryz.underlying2
 a2 := Tryz.isAgg2
 z2 := Tryz.sizeOf2
 v2 := Tryz.zeroValue2
 t3 := Tryz.underlying3
 a3 := Tryz.isAgg3
 z3 := Tryz.sizeOf3
 v3 := Tryz.zeroValue3
 t4 := Tryz.underlying4
 a4 := Tryz.isAgg4
 z4 := Tryz.sizeOf4
 v4 := Tryz.zeroValue4
 t5 := Tryz.underlying5
 a5 := Tryz.isAgg5
 z5 := Tryz.sizeOf5
 v5 := Tryz.zeroValue5
 t9 := Tryz.underlying9
 a9 := Tryz.isAgg9
 z9 := Tryz.sizeOf9
 v9 := Tryz.zeroValue9
 t20 := Tryz.underlying20
 a20 := Tryz.isAgg20
 z20 := Tryz.sizeOf20
 v20 := Tryz.zeroValue20
 t37 := Tryz.underlying43
 a37 := Tryz.isAgg43
 z37 := Tryz.sizeOf43
 v37 := Tryz.zeroValue43
 t46 := Tryz.underlying112
 a46 := Tryz.isAgg112
 z46 := Tryz.sizeOf112
 v46 := Tryz.zeroValue112
 t51 := Tryz.underlying135
 a51 := Tryz.isAgg135
 z51 := Tryz.sizeOf135
 v51 := Tryz.zeroValue135
 t53 := Tryz.underlying137
 a53 := Tryz.isAgg137
 z53 := Tryz.sizeOf137
 v53 := Tryz.zeroValue137
 t171 := Tryz.underlying144
 a171 := Tryz.isAgg144
 z171 := Tryz.sizeOf144
 v171 := Tryz.zeroValue144
 t173 := Tryz.underlying146
 a173 := Tryz.isAgg146
 z173 := Tryz.sizeOf146
 v173 := Tryz.zeroValue146
 t212 := Tryz.underlying165
 a212 := Tryz.isAgg165
 z212 := Tryz.sizeOf165
 v212 := Tryz.zeroValue165
 t213 := Tryz.underlying166
 a213 := Tryz.isAgg166
 z213 := Tryz.sizeOf166
 t232 := Tryz.underlying171
 a232 := Tryz.isAgg171
 z232 := Tryz.sizeOf171
 v232 := Tryz.zeroValue171
 t233 := Tryz.underlying172
 a233 := Tryz.isAgg172
 z233 := Tryz.sizeOf172
 v233 := Tryz.zeroValue172
 g17 := by kernel_rfl
 g18 := by kernel_rfl
 g19 := by kernel_rfl
 i0 := by kernel_rfl
 i2 := by kernel_rfl
 i3 := by kernel_rfl
 i4 := by kernel_rfl
 i5 := by kernel_rfl
 i9 := by kernel_rfl
 i20 := by kernel_rfl
 i37 := by kernel_rfl
 i46 := by kernel_rfl
 i51 := by kernel_rfl
 i53 := by kernel_rfl
 i171 := by kernel_rfl
 i173 := by kernel_rfl
 i212 := by kernel_rfl
 i232 := by kernel_rfl
 i233 := by kernel_rfl
 m17 := by kernel_rfl
 m18 := by kernel_rfl
 m19 := by kernel_rfl }
def Tryz.laysC172_ren : Go.Shelf.Ren := ⟨fun | 172 => 61 | 244 => 76 | 245 => 77 | 247 => 89 | 279 => 90 | 280 => 91 | 281 => 92 | 282 => 93 | 287 => 115 | 316 => 116 | 171 => 69 | 205 => 117 | 321 => 131 | 322 => 132 | 243 => 84 | 246 => 99 | 283 => 119 | 284 => 120 | 285 => 121 | 286 => 122 | 129 => 114 | 317 => 133 | 318 => 134 | 319 => 135 | 320 => 136 | 337 => 138 | 338 => 139 | n => n, fun | 9 => 9 | 3 => 3 | 75 => 84 | 76 => 85 | 4 => 4 | 5 => 5 | 167 => 113 | 37 => 43 | 0 => 0 | 85 => 114 | 2 => 2 | 168 => 116 | 53 => 137 | 175 => 138 | 46 => 112 | 210 => 142 | 127 => 100 | 145 => 159 | 143 => 157 | 21 => 21 | 171 => 144 | 173 => 146 | 212 => 165 | 51 => 135 | 20 => 20 | 213 => 166 | 232 => 171 | 233 => 172 | 80 => 51 | n => n, fun | 15 => 1 | 16 => 2 | 17 => 5 | 18 => 6 | 19 => 7 | n => n⟩
theorem Tryz.laysC172 : Go.Proofs.LaysC.n172 Tryz.prog Tryz.laysC172_ren := {
 mixed := by kernel_rfl
 f129 := Tryz.func114.trans (congrArg some (by kernel_rfl))
 f171 := Tryz.func69.trans (congrArg some (by kernel_rfl))
 f172 := Tryz.func61.trans (congrArg some (by kernel_rfl))
 f205 := Tryz.func117.trans (congrArg some (by kernel_rfl))
 f243 := Tryz.func84.trans (congrArg some (by kernel_rfl))
 f244 := Tryz.func76.trans (congrArg some (by kernel_rfl))
 f245 := Tryz.func77.trans (congrArg some (by kernel_rfl))
 f246 := Tryz.func99.trans (congrArg some (by kernel_rfl))
 f247 := Tryz.func89.trans (congrArg some (by kernel_rfl))
 f279 := Tryz.func90.trans (congrArg some (by kernel_rfl))
 f280 := Tryz.func91.trans (congrArg some (by kernel_rfl))
 f281 := Tryz.func92.trans (congrArg some (by kernel_rfl))
 f282 := Tryz.func93.trans (congrArg some (by kernel_rfl))
 f283 := Tryz.func119.trans (congrArg some (by kernel_rfl))
 f284 := Tryz.func120.trans (congrArg some (by kernel_rfl))
 f285 := Tryz.func121.trans (congrArg some (by kernel_rfl))
 f286 := Tryz.func122.trans (congrArg some (by kernel_rfl))
 f287 := Tryz.func115.trans (congrArg some (by kernel_rfl))
 f316 := Tryz.func116.trans (congrArg some (by kernel_rfl))
 f317 := Tryz.func133.trans (congrArg some (by kernel_rfl))
 f318 := Tryz.func134.trans (congrArg some (by kernel_rfl))
 f319 := Tryz.func135.trans (congrArg some (by kernel_rfl))
 f320 := Tryz.func136.trans (congrArg some (by kernel_rfl))
 f321 := Tryz.func131.trans (congrArg some (by kernel_rfl))
 f322 := Tryz.func132.trans (congrArg some (by kernel_rfl))
 f337 := Tryz.func138.trans (congrArg some (by kernel_rfl))
 f338 := Tryz.func139.trans (congrArg some (by kernel_rfl))
 t0 := Tryz.underlying0
 a0 := Tryz.isAgg0
 z0 := Tryz.sizeOf0
 v0 := Tryz.zeroValue0
 t2 := Tryz.underlying2
 a2 := Tryz.isAgg2
 z2 := Tryz.sizeOf2
 v2 := Tryz.zeroValue2
 t3 := Tryz.underlying3
 a3 := Tryz.isAgg3
 z3 := Tryz.sizeOf3
 v3 := Tryz.zeroValue3
 t4 := Tryz.underlying4
 a4 := Tryz.isAgg4
 z4 := Tryz.sizeOf4
 v4 := Tryz.zeroValue4
 t5 := Tryz.underlying5
 a5 := Tryz.isAgg5
 z5 := Tryz.sizeOf5
 v5 := Tryz.zeroValue5
 t9 := Tryz.underlying9
 a9 := Tryz.isAgg9
 z9 := Tryz.sizeOf9
 v9 := Tryz.zeroValue9
 t20 := Tryz.underlying20
 a20 := Tryz.isAgg20
 z20 := Tryz.sizeOf20
 v20 := Tryz.zeroValue20
 t21 := Tryz.underlying21
 a21 := Tryz.isAgg21
 z21 := Tryz.sizeOf21
 v21 := Tryz.zeroValue21
 t37 := Tryz.underlying43
 a37 := Tryz.isAgg43
 z37 := Tryz.sizeOf43
 v37 := Tryz.zeroValue43
 t46 := Tryz.underlying112
 a46 := Tryz.isAgg112
 z46 := Tryz.sizeOf112
 v46 := Tryz.zeroValue112
 t51 := Tryz.underlying135
 a51 := Tryz.isAgg135
 z51 := Tryz.sizeOf135
 v51 := Tryz.zeroValue135
 t53 := Tryz.underlying137
 a53 := Tryz.isAgg137
 z53 := Tryz.sizeOf137
 v53 := Tryz.zeroValue137
 t75 := Tryz.underlying84
 a75 := Tryz.isAgg84
 z75 := Tryz.sizeOf84
 v75 := Tryz.zeroValue84
 t76 := Tryz.underlying85
 a76 := Tryz.isAgg85
 z76 := Tryz.sizeOf85
 v76 := Tryz.zeroValue85
 t85 := Tryz.underlying114
 a85 := Tryz.isAgg114
 z85 := Tryz.sizeOf114
 v85 := Tryz.zeroValue114
 t127 := Tryz.underlying100
 a127 := Tryz.isAgg100
 z127 := Tryz.sizeOf100
 v127 := Tryz.zeroValue100
 t143 := Tryz.underlying157
 a143 := Tryz.isAgg157
 z143 := Tryz.sizeOf157
 v143 := Tryz.zeroValue157
 t145 := Tryz.underlying159
 a145 := Tryz.isAgg159
 z145 := Tryz.sizeOf159
 v145 := Tryz.zeroValue159
 t167 := Tryz.underlying113
 a167 := Tryz.isAgg113
 z167 := Tryz.sizeOf113
 v167 := Tryz.zeroValue113
 t168 := Tryz.underlying116
 a168 := Tryz.isAgg116
 z168 := Tryz.sizeOf116
 v168 := Tryz.zeroValue116
 t171 := Tryz.underlying144
 a171 := Tryz.isAgg144
 z171 := Tryz.sizeOf144
 v171 := Tryz.zeroValue144
 t173 := Tryz.underlying146
 a173 := Tryz.isAgg146
 z173 := Tryz.sizeOf146
 v173 := Tryz.zeroValue146
 t175 := Tryz.underlying138
 a175 := Tryz.isAgg138
 z175 := Tryz.sizeOf138
 v175 := Tryz.zeroValue138
 t210 := Tryz.underlying142
 a210 := Tryz.isAgg142
 z210 := Tryz.sizeOf142
 v210 := Tryz.zeroValue142
 t212 := Tryz.underlying165
 a212 := Tryz.isAgg165
 z212 := Tryz.sizeOf165
 v212 := Tryz.zeroValue165
 t213 := Tryz.underlying166
 a213 := Tryz.isAgg166
 z213 := Tryz.sizeOf166
 t232 := Tryz.underlying171
 a232 := Tryz.isAgg171
 z232 := Tryz.sizeOf171
 v232 := Tryz.zeroValue171
 t233 := Tryz.underlying172
 a233 := Tryz.isAgg172
 z233 := Tryz.sizeOf172
 v233 := Tryz.zeroValue172
 g15 := by kernel_rfl
 g16 := by kernel_rfl
 g17 := by kernel_rfl
 g18 := by kernel_rfl
 g19 := by kernel_rfl
 t80 := Tryz.underlying51
 a80 := Tryz.isAgg51
 z80 := Tryz.sizeOf51
 v80 := Tryz.zeroValue51
 i0 := by kernel_rfl
 i2 := by kernel_rfl
 i3 := by kernel_rfl
 i4 := by kernel_rfl
 i5 := by kernel_rfl
 i9 := by kernel_rfl
 i20 := by kernel_rfl
 i21 := by kernel_rfl
 i37 := by kernel_rfl
 i46 := by kernel_rfl
 i51 := by kernel_rfl
 i53 := by kernel_rfl
 i75 := by kernel_rfl
 i76 := by kernel_rfl
 i80 := by kernel_rfl
 i85 := by kernel_rfl
 i127 := by kernel_rfl
 i143 := by kernel_rfl
 i145 := by kernel_rfl
 i167 := by kernel_rfl
 i168 := by kernel_rfl
 i171 := by kernel_rfl
 i173 := by kernel_rfl
 i175 := by kernel_rfl
 i210 := by kernel_rfl
 i212 := by kernel_rfl
 i232 := by kernel_rfl
 i233 := by kernel_rfl
 m15 := by kernel_rfl
 m16 := by kernel_rfl
 m17 := by kernel_rfl
 m18 := by kernel_rfl
 m19 := by kernel_rfl
 c0 := by kernel_rfl
 c2 := by kernel_rfl
 c3 := by kernel_rfl
 c4 := by kernel_rfl
 c5 := by kernel_rfl
 c9 := by kernel_rfl
 c20 := by kernel_rfl
 c21 := by kernel_rfl
 c37 := by kernel_rfl
 c46 := by kernel_rfl
 c51 := by kernel_rfl
 c53 := by kernel_rfl
 c75 := by kernel_rfl
 c76 := by kernel_rfl
 c80 := by kernel_rfl
 c85 := by kernel_rfl
 c127 := by kernel_rfl
 c143 := by kernel_rfl
 c145 := by kernel_rfl
 c167 := by kernel_rfl
 c168 := by kernel_rfl
 c171 := by kernel_rfl
 c173 := by kernel_rfl
 c175 := by kernel_rfl
 c210 := by kernel_rfl
 c212 := by kernel_rfl
 c213 := by kernel_rfl
 c232 := by kernel_rfl
 c233 := by kernel_rfl }
def Tryz.laysGw17_ren : Go.Shelf.Ren := ⟨fun | 17 => 63 | 15 => 78 | 20 => 94 | n => n, fun | 9 => 9 | 23 => 97 | 4 => 4 | 3 => 3 | 0 => 0 | 21 => 21 | n => n, fun | n => n⟩
theorem Tryz.laysGw17 : Go.Proofs.LaysGw.n17 Tryz.prog Tryz.laysGw17_ren := {
 mixed := by kernel_rfl
 f15 := Tryz.func78.trans (congrArg some (by kernel_rfl))
 f17 := Tryz.func63.trans (congrArg some (by kernel_rfl))
 f20 := Tryz.func94.trans (congrArg some (by kernel_rfl))
 t0 := Tryz.underlying0
 a0 := Tryz.isAgg0
 z0 := Tryz.sizeOf0
 v0 := Tryz.zeroValue0
 i0 := by kernel_rfl
 t3 := Tryz.underlying3
 a3 := Tryz.isAgg3
 z3 := Tryz.sizeOf3
 v3 := Tryz.zeroValue3
 i3 := by kernel_rfl
 t4 := Tryz.underlying4
 a4 := Tryz.isAgg4
 z4 := Tryz.sizeOf4
 v4 := Tryz.zeroValue4
 i4 := by kernel_rfl
 t9 := Tryz.underlying9
 a9 := Tryz.isAgg9
 z9 := Tryz.sizeOf9
 v9 := Tryz.zeroValue9
 i9 := by kernel_rfl
 t21 := Tryz.underlying21
 a21 := Tryz.isAgg21
 z21 := Tryz.sizeOf21
 v21 := Tryz.zeroValue21
 i21 := by kernel_rfl
 t23 := Tryz.underlying97
 a23 := Tryz.isAgg97
 z23 := Tryz.sizeOf97
 v23 := Tryz.zeroValue97
 i23 := by kernel_rfl }
def Tryz.laysDel_ren : Go.Shelf.Ren := ⟨fun | 10 => 48 | 6 => 62 | n => n, fun | 22 => 28 | 23 => 9 | 25 => 26 | 3 => 3 | 4 => 4 | 0 => 0 | n => n, fun | n => n⟩
theorem Tryz.laysDel : Go.Proofs.SlLaysH.n10 Tryz.prog Tryz.laysDel_ren := {
 mixed := by kernel_rfl
 f6 := ⟨Tryz.f62.name, by decide, Tryz.func62.trans (congrArg some (by kernel_rfl))⟩
 f10 := ⟨Tryz.f48.name, by decide, Tryz.func48.trans (congrArg some (by kernel_rfl))⟩
 t0 := Tryz.underlying0
 a0 := Tryz.isAgg0
 z0 := Tryz.sizeOf0
 v0 := Tryz.zeroValue0
 t3 := Tryz.underlying3
 a3 := Tryz.isAgg3
 z3 := Tryz.sizeOf3
 v3 := Tryz.zeroValue3
 t4 := Tryz.underlying4
 a4 := Tryz.isAgg4
 z4 := Tryz.sizeOf4
 v4 := Tryz.zeroValue4
 t22 := Tryz.underlying28
 a22 := Tryz.isAgg28
 z22 := Tryz.sizeOf28
 v22 := Tryz.zeroValue28
 a23 := Tryz.isAgg9
 z23 := Tryz.sizeOf9
 t25 := Tryz.underlying26
 a25 := Tryz.isAgg26
 z25 := Tryz.sizeOf26
 v25 := Tryz.zeroValue26 }
def Tryz.laysClone_ren : Go.Shelf.Ren := ⟨fun | 16 => 49 | n => n, fun | 24 => 28 | 9 => 9 | 4 => 4 | n => n, fun | n => n⟩
theorem Tryz.laysClone : Go.Proofs.Lays2.n16 Tryz.prog Tryz.laysClone_ren := {
 mixed := by kernel_rfl
 f16 := Tryz.func49.trans (congrArg some (by kernel_rfl))
 t4 := Tryz.underlying4
 a4 := Tryz.isAgg4
 z4 := Tryz.sizeOf4
 v4 := Tryz.zeroValue4
 t9 := Tryz.underlying9
 a9 := Tryz.isAgg9
 z9 := Tryz.sizeOf9
 v9 := Tryz.zeroValue9
 t24 := Tryz.underlying28
 a24 := Tryz.isAgg28
 z24 := Tryz.sizeOf28
 v24 := Tryz.zeroValue28
 i9 := by kernel_rfl }
def Tryz.laysMClone_ren : Go.Shelf.Ren := ⟨fun | 5 => 58 | 7 => 72 | n => n, fun | 23 => 77 | 25 => 9 | 3 => 9 | 4 => 4 | 20 => 20 | n => n, fun | n => n⟩
theorem Tryz.laysMClone : Go.Proofs.SlLaysW.n5 Tryz.prog Tryz.laysMClone_ren := {
 mixed := by kernel_rfl
 f5 := ⟨Tryz.f58.name, by decide, Tryz.func58.trans (congrArg some (by kernel_rfl))⟩
 f7 := Tryz.func72.trans (congrArg some (by kernel_rfl))
 t4 := Tryz.underlying4
 a4 := Tryz.isAgg4
 z4 := Tryz.sizeOf4
 v4 := Tryz.zeroValue4
 t20 := Tryz.underlying20
 a20 := Tryz.isAgg20
 z20 := Tryz.sizeOf20
 v20 := Tryz.zeroValue20
 t23 := Tryz.underlying77
 a23 := Tryz.isAgg77
 z23 := Tryz.sizeOf77
 v23 := Tryz.zeroValue77 }
def Tryz.laysKeys_ren : Go.Shelf.Ren := ⟨fun | 7 => 60 | 10 => 75 | n => n, fun | 23 => 77 | 26 => 9 | 3 => 9 | 28 => 93 | 0 => 0 | 27 => 92 | 33 => 26 | 4 => 4 | n => n, fun | n => n⟩
theorem Tryz.laysKeys : Go.Proofs.SlLaysZ.n7 Tryz.prog Tryz.laysKeys_ren := {
 mixed := by kernel_rfl
 f7 := ⟨Tryz.f60.name, by decide, Tryz.func60.trans (congrArg some (by kernel_rfl))⟩
 f10 := ⟨Tryz.f75.name, by decide, Tryz.func75.trans (congrArg some (by kernel_rfl))⟩
 t0 := Tryz.underlying0
 a0 := Tryz.isAgg0
 z0 := Tryz.sizeOf0
 v0 := Tryz.zeroValue0
 t4 := Tryz.underlying4
 a4 := Tryz.isAgg4
 z4 := Tryz.sizeOf4
 v4 := Tryz.zeroValue4
 t23 := Tryz.underlying77
 a23 := Tryz.isAgg77
 z23 := Tryz.sizeOf77
 v23 := Tryz.zeroValue77
 t26 := Tryz.underlying9
 a26 := Tryz.isAgg9
 z26 := Tryz.sizeOf9
 v26 := Tryz.zeroValue9
 t27 := Tryz.underlying92
 a27 := Tryz.isAgg92
 z27 := Tryz.sizeOf92
 v27 := Tryz.zeroValue92
 t28 := Tryz.underlying93
 a28 := Tryz.isAgg93
 z28 := Tryz.sizeOf93
 v28 := Tryz.zeroValue93
 t33 := Tryz.underlying26
 a33 := Tryz.isAgg26
 z33 := Tryz.sizeOf26
 v33 := Tryz.zeroValue26 }
def Tryz.laysSorted_ren : Go.Shelf.Ren := ⟨fun | 6 => 59 | 8 => 73 | 9 => 74 | 11 => 86 | 13 => 88 | 12 => 87 | 23 => 113 | 24 => 114 | 14 => 104 | 15 => 105 | 16 => 106 | 17 => 107 | 18 => 108 | 19 => 109 | 20 => 110 | 21 => 111 | 22 => 112 | 25 => 125 | 26 => 126 | 27 => 127 | 28 => 128 | 29 => 129 | 30 => 130 | 31 => 137 | n => n, fun | 26 => 9 | 28 => 93 | 24 => 28 | 0 => 0 | 3 => 3 | 37 => 112 | 48 => 135 | 50 => 137 | 4 => 4 | 40 => 129 | 39 => 128 | 45 => 69 | 5 => 5 | 9 => 9 | 51 => 150 | 55 => 154 | 57 => 168 | 58 => 169 | 33 => 26 | n => n, fun | n => n⟩
theorem Tryz.laysSorted : Go.Proofs.SlLaysZ.n6 Tryz.prog Tryz.laysSorted_ren := {
 mixed := by kernel_rfl
 f6 := ⟨Tryz.f59.name, by decide, Tryz.func59.trans (congrArg some (by kernel_rfl))⟩
 f8 := ⟨Tryz.f73.name, by decide, Tryz.func73.trans (congrArg some (by kernel_rfl))⟩
 f11 := ⟨Tryz.f86.name, by decide, Tryz.func86.trans (congrArg some (by kernel_rfl))⟩
 t0 := Tryz.underlying0
 a0 := Tryz.isAgg0
 z0 := Tryz.sizeOf0
 v0 := Tryz.zeroValue0
 t24 := Tryz.underlying28
 a24 := Tryz.isAgg28
 z24 := Tryz.sizeOf28
 v24 := Tryz.zeroValue28
 t26 := Tryz.underlying9
 a26 := Tryz.isAgg9
 z26 := Tryz.sizeOf9
 v26 := Tryz.zeroValue9
 t28 := Tryz.underlying93
 a28 := Tryz.isAgg93
 z28 := Tryz.sizeOf93
 v28 := Tryz.zeroValue93
 i26 := by kernel_rfl }
def Tryz.laysSort_ren : Go.Shelf.Ren := ⟨fun | 6 => 74 | 8 => 88 | 9 => 87 | 19 => 113 | 20 => 114 | 21 => 104 | 22 => 105 | 23 => 106 | 24 => 107 | 25 => 108 | 26 => 109 | 27 => 110 | 28 => 111 | 29 => 112 | 36 => 125 | 31 => 126 | 32 => 127 | 37 => 128 | 38 => 129 | 39 => 130 | 41 => 137 | n => n, fun | 27 => 28 | 29 => 9 | 3 => 3 | 32 => 112 | 26 => 28 | 0 => 0 | 44 => 135 | 46 => 137 | 4 => 4 | 36 => 129 | 35 => 128 | 41 => 69 | 5 => 5 | 9 => 9 | 53 => 150 | 57 => 154 | 63 => 168 | 64 => 169 | n => n, fun | n => n⟩
theorem Tryz.laysSort : Go.Proofs.SlLaysM.n6 Tryz.prog Tryz.laysSort_ren := {
 mixed := by kernel_rfl
 f6 := ⟨Tryz.f74.name, by decide, Tryz.func74.trans (congrArg some (by kernel_rfl))⟩
 f8 := Tryz.func88.trans (congrArg some (by kernel_rfl))
 f9 := ⟨Tryz.f87.name, by decide, Tryz.func87.trans (congrArg some (by kernel_rfl))⟩
 f19 := Tryz.func113.trans (congrArg some (by kernel_rfl))
 f20 := Tryz.func114.trans (congrArg some (by kernel_rfl))
 f21 := ⟨Tryz.f104.name, by decide, Tryz.func104.trans (congrArg some (by kernel_rfl))⟩
 f22 := ⟨Tryz.f105.name, by decide, Tryz.func105.trans (congrArg some (by kernel_rfl))⟩
 f23 := ⟨Tryz.f106.name, by decide, Tryz.func106.trans (congrArg some (by kernel_rfl))⟩
 f24 := ⟨Tryz.f107.name, by decide, Tryz.func107.trans (congrArg some (by kernel_rfl))⟩
 f25 := ⟨Tryz.f108.name, by decide, Tryz.func108.trans (congrArg some (by kernel_rfl))⟩
 f26 := ⟨Tryz.f109.name, by decide, Tryz.func109.trans (congrArg some (by kernel_rfl))⟩
 f27 := ⟨Tryz.f110.name, by decide, Tryz.func110.trans (congrArg some (by kernel_rfl))⟩
 f28 := ⟨Tryz.f111.name, by decide, Tryz.func111.trans (congrArg some (by kernel_rfl))⟩
 f29 := ⟨Tryz.f112.name, by decide, Tryz.func112.trans (congrArg some (by kernel_rfl))⟩
 f31 := Tryz.func126.trans (congrArg some (by kernel_rfl))
 f32 := Tryz.func127.trans (congrArg some (by kernel_rfl))
 f36 := ⟨Tryz.f125.name, by decide, Tryz.func125.trans (congrArg some (by kernel_rfl))⟩
 f37 := ⟨Tryz.f128.name, by decide, Tryz.func128.trans (congrArg some (by kernel_rfl))⟩
 f38 := ⟨Tryz.f129.name, by decide, Tryz.func129.trans (congrArg some (by kernel_rfl))⟩
 f39 := ⟨Tryz.f130.name, by decide, Tryz.func130.trans (congrArg some (by kernel_rfl))⟩
 f41 := ⟨Tryz.f137.name, by decide, Tryz.func137.trans (congrArg some (by kernel_rfl))⟩
 t0 := Tryz.underlying0
 a0 := Tryz.isAgg0
 z0 := Tryz.sizeOf0
 v0 := Tryz.zeroValue0
 t3 := Tryz.underlying3
 a3 := Tryz.isAgg3
 z3 := Tryz.sizeOf3
 v3 := Tryz.zeroValue3
 t4 := Tryz.underlying4
 a4 := Tryz.isAgg4
 z4 := Tryz.sizeOf4
 v4 := Tryz.zeroValue4
 t5 := Tryz.underlying5
 a5 := Tryz.isAgg5
 z5 := Tryz.sizeOf5
 v5 := Tryz.zeroValue5
 t9 := Tryz.underlying9
 a9 := Tryz.isAgg9
 z9 := Tryz.sizeOf9
 v9 := Tryz.zeroValue9
 t26 := Tryz.underlying28
 a26 := Tryz.isAgg28
 z26 := Tryz.sizeOf28
 v26 := Tryz.zeroValue28
 t27 := Tryz.underlying28
 a27 := Tryz.isAgg28
 z27 := Tryz.sizeOf28
 v27 := Tryz.zeroValue28
 t29 := Tryz.underlying9
 a29 := Tryz.isAgg9
 z29 := Tryz.sizeOf9
 v29 := Tryz.zeroValue9
 t32 := Tryz.underlying112
 a32 := Tryz.isAgg112
 z32 := Tryz.sizeOf112
 v32 := Tryz.zeroValue112
 t35 := Tryz.underlying128
 a35 := Tryz.isAgg128
 z35 := Tryz.sizeOf128
 v35 := Tryz.zeroValue128
 t36 := Tryz.underlying129
 a36 := Tryz.isAgg129
 z36 := Tryz.sizeOf129
 v36 := Tryz.zeroValue129
 t41 := Tryz.underlying69
 a41 := Tryz.isAgg69
 z41 := Tryz.sizeOf69
 v41 := Tryz.zeroValue69
 t44 := Tryz.underlying135
 a44 := Tryz.isAgg135
 z44 := Tryz.sizeOf135
 v44 := Tryz.zeroValue135
 t46 := Tryz.underlying137
 a46 := Tryz.isAgg137
 z46 := Tryz.sizeOf137
 v46 := Tryz.zeroValue137
 t53 := Tryz.underlying150
 a53 := Tryz.isAgg150
 z53 := Tryz.sizeOf150
 v53 := Tryz.zeroValue150
 t57 := Tryz.underlying154
 a57 := Tryz.isAgg154
 z57 := Tryz.sizeOf154
 v57 := Tryz.zeroValue154
 t63 := Tryz.underlying168
 a63 := Tryz.isAgg168
 z63 := Tryz.sizeOf168
 v63 := Tryz.zeroValue168
 t64 := Tryz.underlying169
 a64 := Tryz.isAgg169
 z64 := Tryz.sizeOf169
 v64 := Tryz.zeroValue169 }
end Go.Proofs

namespace Go.Proofs.YtobbliglnjgbaaaGreatDoor.X
open Go.RowKit Go.Proofs.YtobbliglnjgbaaaGreatDoorW.PrintWords

def signN (n : Nat) : Bool := decide (97 ≤ n ∧ n ≤ 122 ∨ 65 ≤ n ∧ n ≤ 90 ∨ 48 ≤ n ∧ n ≤ 57 ∨ n = 46 ∨ n = 95 ∨ n = 45)
theorem signN_byte (c : UInt8) : signN c.toNat = sign c := by
 unfold signN sign
 rw [Bool.eq_iff_iff]
 simp only [decide_eq_true_eq, Bool.or_eq_true, Bool.and_eq_true, beq_iff_eq, UInt8.le_iff_toNat_le, ← UInt8.toNat_inj]
 simp
 omega
theorem signN_high (n : Nat) (h : 128 ≤ n) : signN n = false := by
 unfold signN
 simp
 omega
theorem path_sign_is (n : Nat) : Pa.path_sign.f (n : Int) = some (signN n) := by
 unfold Pa.path_sign.f signN
 repeat' split
 all_goals (simp only [Option.some.injEq]; rw [Bool.eq_iff_iff]; simp only [decide_eq_true_eq, beq_iff_eq, true_iff]; omega)
theorem idxFuncFrom_any (p : Nat → Bool) (hp : ∀ x, 128 ≤ x → p x = true) (s : ByteArray) : ∀ (f pos : Nat), s.size ≤ pos + f →
 decide (0 ≤ Lib.idxFuncFrom p true s f pos) = (s.data.toList.drop pos).any (fun c => p c.toNat)
 | 0, pos, h => by
  have : s.data.toList.drop pos = [] := List.drop_eq_nil_of_le (by rw [← Lib.size_eq]; omega)
  rw [this]
  rfl
 | f + 1, pos, h => by
  unfold Lib.idxFuncFrom
  by_cases hps : pos < s.size
  · rw [if_pos hps]
    have hl : pos < s.data.toList.length := by rw [← Lib.size_eq]; exact hps
    have hd : s.data.toList.drop pos = s.data.toList[pos] :: s.data.toList.drop (pos + 1) := (List.drop_eq_getElem_cons hl)
    have hb : s.data.toList[pos] = s[pos]'hps := rfl
    rw [hd, hb, List.any_cons]
    by_cases ha : (s[pos]'hps).toNat < 128
    · rw [decode_ascii s pos hps ha]
      by_cases hq : p (s[pos]'hps).toNat = true
      · rw [if_pos hq, hq]
        simp
      · rw [if_neg hq, idxFuncFrom_any p hp s f (pos + 1) (by omega)]
        simp only [Bool.not_eq_true] at hq
        rw [hq]
        simp
    · obtain ⟨h1, _⟩ := decode_high s pos hps (by omega)
      rw [if_pos (hp _ h1), hp _ (by omega)]
      simp
  · rw [if_neg hps]
    have : s.data.toList.drop pos = [] := List.drop_eq_nil_of_le (by rw [← Lib.size_eq]; omega)
    rw [this]
    rfl
theorem idxFunc_any (p : Nat → Bool) (hp : ∀ x, 128 ≤ x → p x = true) (s : ByteArray) : decide (0 ≤ Lib.idxFunc p true s) = s.data.toList.any (fun c => p c.toNat) := by
 unfold Lib.idxFunc
 rw [idxFuncFrom_any p hp s s.size 0 (by omega)]
 rfl

theorem eg64 : ∀ args w, (callFunc 64 args).run Tryz.prog w = .ok (.enter 64 args) w := Go.Proofs.enters_of Tryz.func64 (by kernel_rfl) rfl
theorem contains_bad (s : ByteArray) (w : World) (hG : GOK w) :
 Calls Tryz.prog 63 #[.string s, .func (.func 64) #[] #[]] w fun e w' => e = .returned (.bool (s.data.toList.any (fun c => !sign c))) ∧ Below w.heap.size w w' := by
 have hp : Go.Proofs.PredAtRunes Tryz.prog 64 #[] (fun n => !signN n) w := by
  intro W x _ hb
  refine (Pa.path_bad_1.calls (x : Int) (!signN x) W (hG.below hb) ?_).mono fun e w' ⟨he, hd⟩ => ⟨he, hd.out⟩
  unfold Pa.path_bad_1.f
  rw [path_sign_is]
  rfl
 have h := Go.Proofs.Any.strings_ContainsFunc_runes Go.Proofs.Tryz.laysGw17 64 #[] eg64 (fun n => !signN n) s w hp
 refine h.mono fun e w' ⟨he, hb⟩ => ⟨?_, hb⟩
 rw [he, idxFunc_any _ (fun x hx => by rw [signN_high x hx]; rfl)]
 simp only [signN_byte]

def path_bad.f (a0 : ByteArray) : Option Bool := some (bad a0.data.toList)
set_option maxHeartbeats 1000000 in
theorem path_bad.calls (a0 : ByteArray) (r : Bool) (w : World) (hG : GOK w) (h : path_bad.f a0 = some r) :
 Calls Tryz.prog 44 #[.string a0] w fun e w' => e = .returned (.bool r) ∧ Below w.heap.size w w' := by
 unfold path_bad.f bad at h
 have hc := contains_bad a0 w hG
 generalize (a0.data.toList.any fun c => !sign c) = q at hc h
 rw [← toList_eq] at h
 by_cases h1 : a0.toList = []
 · have e1 : (a0.toList == []) = true := by simp [h1]
   have hr : r = true := by rw [h1] at h; simpa using h.symm
   subst hr
   clear h hc h1
   go_enter Tryz.func44, Tryz.ntmps44
   go_wp2
   go_ret
   exact ⟨rfl, Below.refl _ _⟩
 · have e1 : (a0.toList == []) = false := by simp [h1]
   by_cases h2 : a0.toList = [46]
   · have e2 : (a0.toList == [46]) = true := by simp [h2]
     have hr : r = true := by rw [h2] at h; simpa using h.symm
     subst hr
     clear h hc h1 h2
     go_enter Tryz.func44, Tryz.ntmps44
     go_wp2
     go_ret
     exact ⟨rfl, Below.refl _ _⟩
   · have e2 : (a0.toList == [46]) = false := by simp [h2]
     by_cases h3 : a0.toList = [46, 46]
     · have e3 : (a0.toList == [46, 46]) = true := by simp [h3]
       have hr : r = true := by rw [h3] at h; simpa using h.symm
       subst hr
       clear h hc h1 h2 h3
       go_enter Tryz.func44, Tryz.ntmps44
       go_wp2
       go_ret
       exact ⟨rfl, Below.refl _ _⟩
     · have e3 : (a0.toList == [46, 46]) = false := by simp [h3]
       have hr : r = q := by rw [e1, e2, e3] at h; simpa using h.symm
       subst hr
       clear h h1 h2 h3
       go_enter Tryz.func44, Tryz.ntmps44
       go_wp2_with (go_at_call 63; refine hc.mono ?_; rintro e w2 ⟨rfl, hb2⟩)
       go_ret
       exact ⟨rfl, hb2⟩

end Go.Proofs.YtobbliglnjgbaaaGreatDoor.X

namespace Go.Proofs.YtobbliglnjgbaaaGreatDoor.X
open Go.RowKit Go.Proofs.YtobbliglnjgbaaaGreatDoorW.PrintWords

def strings_Split.f (a0 a1 : ByteArray) : Option (List ByteArray) :=
 match a1.data.toList with
 | [c] => if a0.size < 4294967281 then some ((cutAt c a0.data.toList).map mk) else none
 | _ => none
theorem strings_Split.one (s : ByteArray) (c : UInt8) (hs : s.size < 4294967281) : strings_Split.f s (⟨#[c]⟩ : ByteArray) = some ((cutAt c s.data.toList).map mk) := by
 unfold strings_Split.f
 show (if s.size < 4294967281 then some _ else none) = _
 rw [if_pos hs]
theorem cutAt_length_le (c : UInt8) : ∀ l, (cutAt c l).length ≤ l.length + 1
 | [] => by simp [cutAt]
 | x :: r => by
  have := cutAt_length_le c r
  unfold cutAt
  split
  · simp; omega
  · split
    · simp
    · rename_i h; rw [h] at this; simp at this ⊢; omega
set_option maxHeartbeats 1000000 in
theorem strings_Split.calls (a0 a1 : ByteArray) (r : List ByteArray) (w : World) (hG : GOK w) (h : strings_Split.f a0 a1 = some r) :
 Calls Tryz.prog 45 #[.string a0, .string a1] w fun e w' => ∃ v0_ : Value, e = .returned v0_ ∧ Kd.R Kd.string 9 w' w.heap.size (fun _ => True) v0_ r ∧ Below w.heap.size w w' := by
 unfold strings_Split.f at h
 split at h
 · rename_i c hc
   have hs : a0.size < 4294967281 := by
    by_cases hs : a0.size < 4294967281
    · exact hs
    · rw [if_neg hs] at h; cases h
   rw [if_pos hs] at h
   have hr := Option.some.inj h
   have ha1 : a1 = mk [c] := by rw [← data_mk a1, hc]
   subst ha1
   obtain ⟨m, hm⟩ := hG.maxLen
   have L := Go.Proofs.Tryz.laysM146
   have hcall := Go.Proofs.Any.strings_Split { L with } L.i9 a0 (mk [c]) m w hs hm (by rw [mk_size]; simp)
   change Calls Tryz.prog 45 _ _ _ at hcall
   refine hcall.mono fun e w' ⟨he, hw⟩ => ?_
   rw [split_one] at hw
   have hlen : Lib.countB a0 (mk [c]) + 1 = r.length := by
    rw [← hr, List.length_map, ← Lib.splitB_all (mk [c]) (by rw [mk_size]; simp) 0 _ a0 rfl, split_one, List.length_map]
   have hle : r.length ≤ a0.size + 1 := by rw [← hr, List.length_map, Lib.size_eq]; exact cutAt_length_le c _
   rw [hr] at hw
   subst hw
   refine ⟨_, he, ?_, (Below.refl _ _).alloc (Nat.le_refl _) _⟩
   rw [hlen]
   exact Kd.R_of_own (own_lit_of (enc := Value.string) w w.heap.size 9 r (Nat.le_refl _) (by omega)) (fun _ _ => trivial)
 · cases h

def strings_Cut.f (a0 a1 : ByteArray) : Option (ByteArray × ByteArray × Bool) :=
 if a0.size < 4294967281 then some (mk (Lib.cut a0.data.toList a1.data.toList).1, mk (Lib.cut a0.data.toList a1.data.toList).2.1, (Lib.cut a0.data.toList a1.data.toList).2.2) else none
theorem strings_Cut.calls (a0 a1 r1 r2 : ByteArray) (r3 : Bool) (w : World) (hG : GOK w) (h : strings_Cut.f a0 a1 = some (r1, r2, r3)) :
 Calls Tryz.prog 54 #[.string a0, .string a1] w fun e w' => e = .returned (.tuple #[.string r1, .string r2, .bool r3]) ∧ Below w.heap.size w w' := by
 unfold strings_Cut.f at h
 split at h
 · rename_i hs
   have h' := Option.some.inj h
   simp only [Prod.mk.injEq] at h'
   obtain ⟨rfl, rfl, rfl⟩ := h'
   obtain ⟨m, hm⟩ := hG.maxLen
   have hcall := Go.Proofs.Any.strings_Cut Go.Proofs.Tryz.lays145 a0 a1 m w hs hm
   change Calls Tryz.prog 54 _ _ _ at hcall
   refine hcall.mono fun e w' ⟨he, n, hw⟩ => ⟨he, ?_⟩
   subst hw
   exact pw_below_drewN (Below.refl _ _) n
 · cases h

theorem builderExtra : Go.Proofs.Builder.Extra Tryz.prog Go.Proofs.Tryz.lays156_ren := {
 sizeBuilder := by kernel_rfl
 liesBuilder := by kernel_rfl
 t5 := Tryz.underlying5
 a5 := Tryz.isAgg5
 z5 := Tryz.sizeOf5
 v5 := Tryz.zeroValue5
 infoByte := by kernel_rfl
 cellsByte := by kernel_rfl
 sizeByte := by kernel_rfl
 neB5 := by decide }
def strings_Join.f (l0 : List ByteArray) (a1 : ByteArray) : Option ByteArray :=
 if l0.length ≤ 140737488355328 ∧ (Lib.join (l0.map (·.data.toList)) a1.data.toList).length ≤ 140737488355328 then some (mk (Lib.join (l0.map (·.data.toList)) a1.data.toList)) else none
theorem strings_Join.calls (A0 : Option Addr) (c0 : Nat) (l0 : List ByteArray) (a1 : ByteArray) (r : ByteArray) (w : World) (_hG : GOK w) (hr0 : Kd.C Kd.string w A0 l0.length l0) (hc0 : l0.length ≤ c0) (h : strings_Join.f l0 a1 = some r) :
 Calls Tryz.prog 47 #[.slice A0 l0.length c0, .string a1] w fun e w' => e = .returned (.string r) ∧ Below w.heap.size w w' := by
 unfold strings_Join.f at h
 split at h
 · rename_i hs
   have hr := Option.some.inj h
   rcases row_open hr0 with rfl | ⟨b, o, rfl, hb, hcell⟩
   · have hcall := Go.Proofs.Any.strings_Join_none Go.Proofs.Tryz.lays156 builderExtra A0 c0 a1 w
     change Calls Tryz.prog 47 _ _ _ at hcall
     refine hcall.mono fun e w' ⟨he, hw⟩ => ?_
     subst hw
     refine ⟨?_, Below.refl _ _⟩
     rw [he, ← hr]
     rfl
   · have hcall := Go.Proofs.Any.strings_Join Go.Proofs.Tryz.lays156 builderExtra b o c0 l0 a1 w (fun j x hx => by
      obtain ⟨hj, he⟩ := List.getElem?_eq_some_iff.1 hx
      have := hcell j hj
      rwa [show l0.getD j ByteArray.empty = x by simp [List.getD_eq_getElem?_getD, hx]] at this) hb hs.1 hc0 hs.2
     change Calls Tryz.prog 47 _ _ _ at hcall
     refine hcall.mono fun e w' ⟨he, hw⟩ => ⟨?_, hw⟩
     rw [he, ← hr]
     rfl
 · cases h

def strconv_Itoa.f (a0 : Int) : Option ByteArray := if -9223372036854775808 ≤ a0 ∧ a0 ≤ 9223372036854775807 then some (mk (Lib.itoa a0)) else none
theorem strconv_Itoa.calls (a0 : Int) (r : ByteArray) (w : World) (hG : GOK w) (h : strconv_Itoa.f a0 = some r) :
 Calls Tryz.prog 69 #[.int .i64 a0] w fun e w' => e = .returned (.string r) ∧ Below w.heap.size w w' := by
 unfold strconv_Itoa.f at h
 split at h
 · rename_i hs
   have hr := Option.some.inj h
   have hcall := Go.Proofs.Any.strconv_Itoa Go.Proofs.Tryz.laysM171 a0 hs.1 hs.2 w hG.pow10
   change Calls Tryz.prog 69 _ _ _ at hcall
   refine hcall.mono fun e w' ⟨he, k, os, hw⟩ => ⟨?_, ?_⟩
   · rw [he, ← hr]; rfl
   · subst hw
     exact Go.Proofs.below_grown w k os
 · cases h

end Go.Proofs.YtobbliglnjgbaaaGreatDoor.X

namespace Go.Proofs.YtobbliglnjgbaaaGreatDoor.X
open Go.RowKit Go.Sort Go.Proofs.YtobbliglnjgbaaaGreatDoorW.PrintWords

theorem heap_put {w : World} {g n : Nat} {os : Array Obj} {cur : Array Value} {e : TypeId} {fr : Nat × Nat} (d : Array ByteArray) (hb : w.heap[g]? = some (.cells cur e fr)) :
 (grow (putRow Value.string (Sort.ahead w n) g 0 d) os).heap[g]? = some (.cells (putCells Value.string 0 d cur) e fr) := by
 have hg : g < w.heap.size := (Array.getElem?_eq_some_iff.1 hb).1
 rw [heap_grow_old _ _ (by simpa using hg)]
 simp [putRow, mapBlock, Sort.ahead, Array.getElem?_modify, hb, onCells]
theorem grownBy_put {w : World} {g n : Nat} {os : Array Obj} (d : Array ByteArray) : w.grownBy (grow (putRow Value.string (Sort.ahead w n) g 0 d) os) (some g) := by
 refine ⟨rfl, rfl, rfl, by simp, fun k hk hne => ?_⟩
 rw [heap_grow_old _ _ (by simpa using hk)]
 have : g ≠ k := fun e => hne (by rw [e])
 simp [putRow, mapBlock, Sort.ahead, Array.getElem?_modify, this]
theorem take_put (cur : Array Value) (ts rest : List ByteArray) (h : ts.length + rest.length ≤ cur.size) : (putCells Value.string 0 (ts ++ rest).toArray cur).toList.take ts.length = ts.map Value.string := by
 apply List.ext_getElem?
 intro j
 by_cases hj : j < ts.length
 · rw [List.getElem?_take_of_lt hj, Array.getElem?_toList]
   simp [putCells, hj, show j < cur.size by omega, show j < ts.length + rest.length by omega, List.getElem_append_left]
 · rw [List.getElem?_take_eq_none (by omega), List.getElem?_eq_none (by simp; omega)]
theorem below_of_grown {B : Nat} {w w1 : World} {g : Nat} (hg : w.grownBy w1 (some g)) (hB : B ≤ w.heap.size) (hBg : B ≤ g) : Below B w w1 := (Below.refl B w).grown hg hB (fun k hk => by cases hk; exact hBg)
theorem holds_of_row {w : World} {g : Nat} {cur : Array Value} {e : TypeId} {ss : List ByteArray} (hb : w.heap[g]? = some (.cells cur e (0, 0))) (ht : cur.toList.take ss.length = ss.map Value.string) : Holds Value.string w g 0 ss.toArray := by
 intro j hj
 have hj' : j < ss.length := by simpa using hj
 refine ⟨?_, by simp [World.frozen?, hb]⟩
 have h1 : (cur.toList.take ss.length)[j]? = (ss.map Value.string)[j]? := by rw [ht]
 rw [List.getElem?_take_of_lt hj'] at h1
 simp only [World.cell?, hb, Nat.zero_add]
 simp only [Option.isSome_none, Bool.false_eq_true, if_false]
 rw [← Array.getElem?_toList, h1]
 simp [hj']

set_option maxHeartbeats 1000000 in
theorem deleteFunc_own (B base g : Nat) (lb : Array Value) (eg : ∀ args w, (callFunc g args).run Tryz.prog w = .ok (.enter g args) w) (p : ByteArray → Bool) (v : Value) (l : List ByteArray) (w : World)
 (hown : w.ownsRow base 9 1 v l.length (encs Value.string l)) (hB : B ≤ base) (hBw : B ≤ w.heap.size) (hp : ∀ (W : World) (x : ByteArray), Below B w W → Go.Proofs.FnGives Tryz.prog g lb #[.string x] (.bool (p x)) W) :
 Calls Tryz.prog 48 #[v, .func (.func g) #[] lb] w fun e w' => ∃ v', e = .returned v' ∧ w'.ownsRow base 9 1 v' (l.filter fun x => !p x).length (encs Value.string (l.filter fun x => !p x)) ∧ v'.ownBlock = v.ownBlock ∧ w.grownBy w' v.ownBlock := by
 have hlen : l.length ≤ 9223372036854775807 := by
  rcases hown.2 with ⟨_, h0⟩ | ⟨_, cap, cur, _, _, _, h1, h2, _⟩
  · omega
  · simp only [maxLen] at h2; omega
 rcases hown.2 with ⟨rfl, h0⟩ | ⟨gb, cap, cur, rfl, hbase, hb, h1, h2, h3, h4⟩
 · obtain rfl : l = [] := List.eq_nil_of_length_eq_zero h0
   have hI := indexFunc_calls g lb eg p none 0 [] w ⟨rfl, by simp, fun h => absurd h (by simp)⟩ (fun W x hb => (hp W x (hb.mono hBw)).mono fun e w' ⟨he, q, hw⟩ => ⟨he, by subst hw; exact pw_below_drewN (Below.refl _ _) q⟩)
   clear hp hown h0
   go_enter Tryz.func48, Tryz.ntmps48
   go_wp2_with fail
   refine hI.mono ?_
   rintro e w2 ⟨i, rfl, hq, hi, hb2⟩
   have hi' : i = -1 := by
    rcases hi with hi | hi
    · exact hi
    · simp [hi] at hq
   subst hi'
   clear hq hi hI
   go_wp2
   go_ret
   exact ⟨.slice none 0 0, rfl, own_nil _ _ _ _, rfl, grown_of_below hb2 _⟩
 · have hH : Holds Value.string w gb 0 l.toArray := holds_of_row hb (by simpa [encs] using h4)
   have hcall := Go.Proofs.AnyE.slices_DeleteFunc Go.Proofs.Tryz.laysDel Value.string (fun _ => rfl) p g lb eg ByteArray.empty Tryz.zeroValue9 gb 0 cap l.toArray w
    (fun W x hb => hp W x (hb.mono hBw))
    (fun n os dk x _ => hp _ x (below_of_grown (grownBy_put dk) hBw (by omega))) hH (by simpa using hlen) (by simpa using h1)
   change Calls Tryz.prog 48 _ _ _ at hcall
   refine hcall.mono fun e w' ⟨he, q, hw⟩ => ?_
   have hf : (l.filter fun x => !p x).length ≤ l.length := List.length_filter_le _ _
   have hg0 : w' = grow (putRow Value.string (Sort.ahead w q) gb 0 ((l.filter fun x => !p x) ++ List.replicate (l.length - (l.filter fun x => !p x).length) ByteArray.empty).toArray) #[] := by rw [hw]; simp
   refine ⟨_, he, ?_, rfl, ?_⟩
   · refine ⟨by simp [encs], .inr ⟨gb, cap, _, rfl, hbase, by rw [hg0]; exact heap_put _ hb, by simpa using Nat.le_trans hf h1, h2, by simp [putCells, h3], ?_⟩⟩
     simp only [Nat.mul_one]
     exact take_put cur _ _ (by rw [List.length_replicate]; omega)
   · rw [hg0]; exact grownBy_put _

end Go.Proofs.YtobbliglnjgbaaaGreatDoor.X
