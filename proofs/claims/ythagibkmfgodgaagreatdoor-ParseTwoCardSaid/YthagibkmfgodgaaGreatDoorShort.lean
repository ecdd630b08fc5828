/-
  A text cut short, plainly.
-/
import Derived.Test.YthagibkmfgodgaaGreatDoorBegin
namespace Go.Proofs.YthagibkmfgodgaaGreatDoor.X
open Go.RowKit Go.Maps Go.Proofs.YthagibkmfgodgaaGreatDoorW.PrintWords Go.Proofs.YthagibkmfgodgaaGreatDoorW.PrintMore Go.Proofs.YthagibkmfgodgaaGreatDoor.Pb

theorem short_f (s : ByteArray) (n : Nat) : shipwrightlaw1_Short.f s (n : Int) = some (mk (s.data.toList.take n)) := by
  unfold shipwrightlaw1_Short.f mn
  have hz := Lib.size_eq s
  have key : ∀ m : Nat, m ≤ s.size → s.data.toList.take m = s.data.toList.take n → (s.extract 0 ((m : Int)).toNat) = mk (s.data.toList.take n) := by
    intro m _ hm
    apply data_inj
    rw [mk_data, ← hm]
    simp [ByteArray.data_extract]
  rcases Nat.lt_or_ge n s.size with h | h
  · rw [if_pos (show (n : Int) < (s.size : Int) by omega), if_pos (show (0 : Int) ≤ (n : Int) by omega), if_pos (show (n : Int) ≤ (s.size : Int) by omega), key n (by omega) rfl]
  · rw [if_neg (show ¬ (n : Int) < (s.size : Int) by omega), if_pos (show (0 : Int) ≤ (s.size : Int) by omega), if_pos (Int.le_refl _), key s.size (Nat.le_refl _) (by rw [List.take_of_length_le (by omega), List.take_of_length_le (by omega)])]

end Go.Proofs.YthagibkmfgodgaaGreatDoor.X
