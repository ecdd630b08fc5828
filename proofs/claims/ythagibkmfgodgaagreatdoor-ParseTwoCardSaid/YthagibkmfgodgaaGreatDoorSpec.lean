/-
  Plain functions on lists of bytes: a name's parts, which names may be, joined parts, names made plain, numbers and keys. No program stands here.
-/
import Derived.Lib.Strings
import Derived.Lib.Join
import Derived.Lib.ItoaNum
import Derived.Lib.SplitLaws
import Derived.Lib.IndexLaws
import Derived.Lib.IndexMore
namespace Go.Proofs.YthagibkmfgodgaaGreatDoor.X

abbrev Bytes := List UInt8
def mk (l : Bytes) : ByteArray := ⟨l.toArray⟩
theorem mk_data (l : Bytes) : (mk l).data.toList = l := by simp [mk]
theorem data_mk (s : ByteArray) : mk s.data.toList = s := by cases s; simp [mk]
theorem mk_toList (l : Bytes) : (mk l).toList = l := by rw [Lib.toList_data, mk_data]
theorem toList_eq (s : ByteArray) : s.toList = s.data.toList := Lib.toList_data s
theorem mk_size (l : Bytes) : (mk l).size = l.length := by rw [Lib.size_eq, mk_data]
theorem mk_inj {a b : Bytes} (h : mk a = mk b) : a = b := by rw [← mk_data a, h, mk_data]
theorem data_inj {a b : ByteArray} (h : a.data.toList = b.data.toList) : a = b := by rw [← data_mk a, h, data_mk]
theorem data_append (a b : ByteArray) : (a ++ b).data.toList = a.data.toList ++ b.data.toList := by
  have h : (a ++ b).data = a.data ++ b.data := ByteArray.data_append
  rw [h, Array.toList_append]
theorem mk_append (a b : Bytes) : mk a ++ mk b = mk (a ++ b) := by
  apply data_inj
  rw [data_append, mk_data, mk_data, mk_data]

/-- What stands between the bytes c. -/
def cutAt (c : UInt8) : Bytes → List Bytes
  | [] => [[]]
  | x :: r => if x = c then [] :: cutAt c r else match cutAt c r with
    | [] => [[x]]
    | p :: q => (x :: p) :: q
theorem cutAt_ne (c : UInt8) : ∀ l, cutAt c l ≠ []
  | [] => by simp [cutAt]
  | x :: r => by
    unfold cutAt
    split
    · simp
    · split <;> simp
theorem splitK_one (c : UInt8) : ∀ s : Bytes, Lib.splitK [c] 0 (s.count c) s = cutAt c s
  | [] => rfl
  | b :: l => by
    by_cases hb : b = c
    · subst hb
      have hix : Lib.index (b :: l) [b] = 0 := by rw [Lib.index]; simp [List.isPrefixOf]
      rw [List.count_cons_self, Lib.splitK, hix, cutAt, if_pos rfl, ← splitK_one b l]
      simp
    · have hp : ([c] : List UInt8).isPrefixOf (b :: l) = false := by simp [List.isPrefixOf, Ne.symm hb]
      have hix : Lib.index (b :: l) [c] = if Lib.index l [c] == -1 then -1 else Lib.index l [c] + 1 := by rw [Lib.index, hp]; simp
      rw [List.count_cons_of_ne (by simpa using hb), cutAt, if_neg hb, ← splitK_one c l]
      cases hk : l.count c with
      | zero => rfl
      | succ k =>
        have hge := Lib.index_ge l [c]
        have hm : Lib.index l [c] ≠ -1 := by
          intro hm
          have : Lib.count l [c] = 0 := Lib.count_miss hm
          rw [Lib.count_one] at this
          omega
        obtain ⟨j, hj⟩ : ∃ j : Nat, Lib.index l [c] = j := ⟨(Lib.index l [c]).toNat, by omega⟩
        rw [hj] at hix hm
        have e1 : ((j : Int) == -1) = false := beq_eq_false_iff_ne.2 (by omega)
        have e2 : ((j : Int) + 1 == -1) = false := beq_eq_false_iff_ne.2 (by omega)
        rw [e1] at hix
        simp only [Lib.splitK, hix, hj, e1, e2, Bool.false_eq_true, if_false]
        simp
theorem split_one (c : UInt8) (s : ByteArray) : Lib.splitB (mk [c]) 0 (Lib.countB s (mk [c])) s = (cutAt c s.data.toList).map mk := by
  have h : (Lib.splitB (mk [c]) 0 (Lib.countB s (mk [c])) s).map (·.data.toList) = cutAt c s.data.toList := by
    rw [Lib.splitB_data, mk_data, ← splitK_one c]
    congr 1
    show Lib.count s.data.toList (mk [c]).data.toList = _
    rw [mk_data, Lib.count_one]
  rw [← h, List.map_map]
  have e : (mk ∘ fun x : ByteArray => x.data.toList) = id := by funext x; exact data_mk x
  rw [e, List.map_id]
def parts (s : Bytes) : List Bytes := cutAt 47 s
def sign (c : UInt8) : Bool := (97 ≤ c && c ≤ 122) || (65 ≤ c && c ≤ 90) || (48 ≤ c && c ≤ 57) || c == 46 || c == 95 || c == 45
def bad (p : Bytes) : Bool := p == [] || p == [46] || p == [46, 46] || p.any (fun c => !sign c)
def may (s : Bytes) : Bool := !(s == [114, 117, 108, 101] || s == [105, 110] || s == [111, 117, 116] || s == [97, 102, 116, 101, 114]) && decide (s.length ≤ 40) && !(parts s).any bad
def join (l : List Bytes) : Bytes := Lib.join (l.filter fun s => !(s == [])) [47]

/-- A number as it is written: of a number below 0, 0. -/
def number (n : Int) : Bytes := Lib.decDigits n.toNat
def put (l : List Bytes) : Bytes := (l.map fun s => number s.length ++ [58] ++ s).flatten

end Go.Proofs.YthagibkmfgodgaaGreatDoor.X
