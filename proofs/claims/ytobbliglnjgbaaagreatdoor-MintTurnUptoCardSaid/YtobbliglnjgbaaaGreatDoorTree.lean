/-
  Source trees as sorted lists of names and bytes; a tree in memory; what New, Len, Read, Write, Erase do to it.
-/
import Derived.Test.YtobbliglnjgbaaaGreatDoorPut
import Derived.Maps.OwnSet
import Derived.Maps.StringElems
import Derived.WalkSpells
import Derived.ChangeMaps5
namespace Go.Proofs.YtobbliglnjgbaaaGreatDoor.X
open Go.RowKit Go.Maps Go.Proofs.YtobbliglnjgbaaaGreatDoorW.PrintWords

abbrev TM := List (Bytes × Bytes)
def encT (m : TM) : DataW Unit := .map (m.map fun p => (.string p.1, .lit (.string p.2)))
def insT (x : Bytes × Bytes) : TM → TM
  | [] => [x]
  | y :: r => if bytesBefore x.1 y.1 then x :: y :: r else y :: insT x r
def delT (m : TM) (k : Bytes) : TM := m.filter fun p => !(p.1 == k)
def putT (m : TM) (k v : Bytes) : TM := insT (k, v) (delT m k)
def getT (m : TM) (k : Bytes) : Option Bytes := (m.find? fun p => p.1 == k).map (·.2)
def keyT (m : TM) : Bytes := put (m.flatMap fun p => [p.1, p.2])
def writeT (m : TM) (k v : Bytes) : TM × Int := if may k = false then (m, 1) else if 2000 < v.length ∨ getT m k = none ∧ 60 ≤ m.length then (m, 4) else (putT m k v, 0)
def eraseT (m : TM) (k : Bytes) : TM × Int := if getT m k = none then (m, 6) else (delT m k, 0)

theorem encT_del (m : TM) (k : Bytes) : (encT m).del (.string k) = encT (delT m k) := by
  unfold encT delT DataW.del
  simp only [List.filter_map]
  rfl
theorem encT_ins (x : Bytes × Bytes) : ∀ m : TM, DataW.insert (H := Unit) (.string x.1, .lit (.string x.2)) (m.map fun p => (.string p.1, .lit (.string p.2))) = (insT x m).map fun p => (.string p.1, .lit (.string p.2))
  | [] => rfl
  | y :: r => by
    simp only [List.map_cons, DataW.insert, insT]
    show (if bytesBefore x.1 y.1 = true then _ else _) = _
    split
    · rfl
    · rw [encT_ins x r]; rfl
theorem encT_put (m : TM) (k v : Bytes) : (encT m).put (.string k) (.lit (.string v)) = encT (putT m k v) := by
  have h := encT_del m k
  unfold encT DataW.del at h
  unfold DataW.put encT putT
  simp only [DataW.map.injEq] at h ⊢
  rw [h]
  exact encT_ins (k, v) _
theorem encT_find (m : TM) (k : Bytes) : ((m.map fun p => ((.string p.1 : Lit), (.lit (.string p.2) : DataW Unit))).find? fun p => p.1.sameKey (.string k)) = (m.find? fun p => p.1 == k).map fun p => (.string p.1, .lit (.string p.2)) := by
  rw [List.find?_map]
  rfl
theorem encT_has (m : TM) (k : Bytes) : Maps.has (encT m) (.string k) = (getT m k).isSome := by
  unfold encT getT
  rw [Maps.has_eq, List.any_map]
  rw [Option.isSome_map, List.isSome_find?]
  rfl
theorem encT_at (m : TM) (k : Bytes) : (encT m).atKey (.string k) (.lit (.string [])) = .lit (.string ((getT m k).getD [])) := by
  unfold encT getT DataW.atKey
  simp only [encT_find]
  cases m.find? fun p => p.1 == k <;> rfl
theorem encT_size (m : TM) : Maps.size (encT m) = m.length := by
  unfold encT
  rw [Maps.size_eq, List.length_map]

/-- A tree in memory: its struct is block g, its map block b. -/
structure IsTree (w : World) (g b : Nat) (m : TM) : Prop where
  cell : w.heap[g]? = some (.cells #[.map (some b)] 79 (0, 0))
  map : w.ownsMap Tryz.prog 9 (plainElem Tryz.prog 9) b m.length (encT m)
theorem ownsMap_tight {w : World} {b n : Nat} {m : TM} (h : w.ownsMap Tryz.prog 9 (plainElem Tryz.prog 9) b n (encT m)) : w.ownsMap Tryz.prog 9 (plainElem Tryz.prog 9) b m.length (encT m) := by
  obtain ⟨es, clock, hb, F, _, hD⟩ := h
  refine ⟨es, clock, hb, F, ?_, hD⟩
  have := encT_size m
  rw [hD] at this
  simp only [Maps.size, length_sorted, List.length_map, Array.length_toList] at this
  omega
theorem IsTree.c {w : World} {g b : Nat} {m : TM} (h : IsTree w g b m) : w.cell? ⟨g, 0, none⟩ = some (.map (some b)) := by
  simp [World.cell?, h.cell]
theorem IsTree.lt {w : World} {g b : Nat} {m : TM} (h : IsTree w g b m) : g < w.heap.size ∧ b < w.heap.size := ⟨(Array.getElem?_eq_some_iff.1 h.cell).1, h.map.lt⟩
theorem IsTree.ne {w : World} {g b : Nat} {m : TM} (h : IsTree w g b m) : g ≠ b := by
  rintro rfl
  obtain ⟨es, clock, hb, _⟩ := h.map
  rw [h.cell] at hb
  cases hb
theorem IsTree.kept {w w1 : World} {g b : Nat} {m : TM} (h : IsTree w g b m) (hg : w1.heap[g]? = w.heap[g]?) (hb : w1.heap[b]? = w.heap[b]?) : IsTree w1 g b m := by
  refine ⟨hg.trans h.cell, ?_⟩
  obtain ⟨es, clock, h1, r⟩ := h.map
  exact ⟨es, clock, hb.trans h1, r⟩
theorem IsTree.below {w w1 : World} {g b : Nat} {m : TM} (h : IsTree w g b m) (hb : Below w.heap.size w w1) : IsTree w1 g b m := h.kept (hb.block g h.lt.1) (hb.block b h.lt.2)
theorem kS : Keyed Tryz.prog 9 := string_keyed Tryz.underlying9
theorem zS (w : World) : (zeroValue 9).run Tryz.prog w = .ok (.string ⟨#[]⟩) w := Tryz.zeroValue9 w
theorem pS : plainElem (H := Unit) Tryz.prog 9 (.string ⟨#[]⟩) = some (.lit (.string []), []) := plainElem_string Tryz.underlying9 (by simp [ByteArray.size, maxLen])

/-- v, ok := m[k] and m[k]. -/
theorem IsTree.look {w : World} {g b : Nat} {m : TM} (h : IsTree w g b m) (k : ByteArray) (hk : k.size ≤ maxLen) :
    (Instr.lookup 77 (.map (some b)) (.string k) true).run Tryz.prog w = .ok (.tuple #[(.string (X.mk ((getT m k.data.toList).getD []))), .bool (getT m k.data.toList).isSome]) w := by
  obtain ⟨v, ps, hrun, hR⟩ := h.map.look_ok kS Tryz.underlying77 (zS w) pS (Go.WideMaps.keyOf_string_mk Tryz.underlying9 hk)
  rw [encT_at] at hR
  obtain ⟨s, rfl, hs, _⟩ := plainElem_string_inv Tryz.underlying9 hR
  rw [hrun, encT_has]
  have : s = X.mk ((getT m k.data.toList).getD []) := by
    have h0 := (Prod.mk.inj hs).1
    simp only [DataW.lit.injEq, Lit.string.injEq] at h0
    rw [← data_mk s, ← h0]
  rw [this]
theorem IsTree.len {w : World} {g b : Nat} {m : TM} (h : IsTree w g b m) (ty : TypeId) :
    (Builtin.len_ #[77] ty #[.map (some b)]).run Tryz.prog w = .ok (.int .i64 m.length) w := by
  have := h.map.len Tryz.underlying77 ty
  rwa [encT_size] at this
theorem IsTree.store {w : World} {g b : Nat} {m : TM} (h : IsTree w g b m) (k v : ByteArray) (hk : k.size ≤ maxLen) (hv : v.size ≤ maxLen) (hm : m.length < maxLen) :
    ∃ w', (Instr.mapUpdate 77 (.map (some b)) (.string k) (.string v)).run Tryz.prog w = .ok () w' ∧ IsTree w' g b (putT m k.data.toList v.data.toList) ∧ w.grownBy w' (some b) := by
  obtain ⟨w', hrun, ho, ht⟩ := h.map.store kS Tryz.underlying77 hm (Go.WideMaps.keyOf_string_mk Tryz.underlying9 hk) (plainElem_string Tryz.underlying9 hv)
  rw [encT_put] at ho
  have hg := ht.grown
  exact ⟨w', hrun, ⟨(hg.block g h.lt.1 (by have := h.ne; intro e; injection e; omega)).trans h.cell, ownsMap_tight ho⟩, hg⟩
theorem IsTree.drop {w : World} {g b : Nat} {m : TM} (h : IsTree w g b m) (k : ByteArray) (hk : k.size ≤ maxLen) (ty : TypeId) :
    ∃ w', (Builtin.delete_ #[77, 9] ty #[.map (some b), .string k]).run Tryz.prog w = .ok (.tuple #[]) w' ∧ IsTree w' g b (delT m k.data.toList) ∧ w.grownBy w' (some b) := by
  obtain ⟨w', hrun, ho, ht⟩ := h.map.drop kS Tryz.underlying77 (Go.WideMaps.keyOf_string_mk Tryz.underlying9 hk) ty
  rw [encT_del] at ho
  have hg := ht.grown
  exact ⟨w', hrun, ⟨(hg.block g h.lt.1 (by have := h.ne; intro e; injection e; omega)).trans h.cell, ownsMap_tight ho⟩, hg⟩

/-! ### Len, Read -/
set_option maxHeartbeats 1000000 in
theorem tree_Len.calls (w : World) (g b : Nat) (m : TM) (h : IsTree w g b m) :
    Calls Tryz.prog 28 #[.pointer (some ⟨g, 0, none⟩)] w fun e w' => e = .returned (.int .i64 m.length) ∧ Drawn0 w w' := by
  have hc := h.c
  have hl := h.len
  clear h
  go_enter Tryz.func28, Tryz.ntmps28
  go_wp2
  go_ret
  exact ⟨rfl, Drawn0.refl _⟩
set_option maxHeartbeats 1000000 in
theorem tree_Len.none (w : World) : Calls Tryz.prog 28 #[.pointer none] w fun e w' => e = .returned (.int .i64 0) ∧ Drawn0 w w' := by
  go_enter Tryz.func28, Tryz.ntmps28
  go_wp2
  go_ret
  exact ⟨rfl, Drawn0.refl _⟩
set_option maxHeartbeats 1000000 in
theorem tree_Read.calls (w : World) (g b : Nat) (m : TM) (h : IsTree w g b m) (k : ByteArray) (hk : k.size ≤ maxLen) :
    Calls Tryz.prog 30 #[.pointer (some ⟨g, 0, none⟩), .string k] w fun e w' => e = .returned (.tuple #[.string (mk ((getT m k.data.toList).getD [])), .bool (getT m k.data.toList).isSome]) ∧ Drawn0 w w' := by
  have hc := h.c
  have hl := h.look k hk
  clear h
  generalize mk ((getT m k.data.toList).getD []) = v at hl ⊢
  generalize (getT m k.data.toList).isSome = is at hl ⊢
  go_enter Tryz.func30, Tryz.ntmps30
  go_wp2
  go_ret2
  exact ⟨rfl, Drawn0.refl _⟩

end Go.Proofs.YtobbliglnjgbaaaGreatDoor.X
