/-
  No tree: what each method of a nil tree answers; and the closed law TreeNone, walked.
-/
import Derived.Test.YtobbliglnjgbaaaGreatDoorBegun
namespace Go.Proofs.YtobbliglnjgbaaaGreatDoor.X
open Go.RowKit Go.Maps Go.Proofs.YtobbliglnjgbaaaGreatDoorW.PrintWords Go.Proofs.YtobbliglnjgbaaaGreatDoor.Pb Go.Proofs.YtobbliglnjgbaaaGreatDoor.Pc

theorem tree_Read.none (w : World) (k : ByteArray) : Calls Tryz.prog 30 #[.pointer none, .string k] w fun e w' => e = .returned (.tuple #[.string ⟨#[]⟩, .bool false]) ∧ Drawn0 w w' := by
  go_enter Tryz.func30, Tryz.ntmps30
  go_wp2
  go_ret2
  exact ⟨rfl, Drawn0.refl _⟩
theorem tree_Write.none (w : World) (k v : ByteArray) : Calls Tryz.prog 26 #[.pointer none, .string k, .string v] w fun e w' => e = .returned (.int .i64 7) ∧ Drawn0 w w' := by
  go_enter Tryz.func26, Tryz.ntmps26
  go_wp2
  go_ret
  exact ⟨rfl, Drawn0.refl _⟩
theorem tree_Erase.none (w : World) (k : ByteArray) : Calls Tryz.prog 35 #[.pointer none, .string k] w fun e w' => e = .returned (.int .i64 7) ∧ Drawn0 w w' := by
  go_enter Tryz.func35, Tryz.ntmps35
  go_wp2
  go_ret
  exact ⟨rfl, Drawn0.refl _⟩
theorem tree_Names.none (w : World) : Calls Tryz.prog 41 #[.pointer none] w fun e w' => e = .returned (.slice none 0 0) ∧ Drawn0 w w' := by
  go_enter Tryz.func41, Tryz.ntmps41
  go_wp2
  go_ret
  exact ⟨rfl, Drawn0.refl _⟩
theorem tree_Clone.none (w : World) : Calls Tryz.prog 37 #[.pointer none] w fun e w' => e = .returned (.pointer none) ∧ Drawn0 w w' := by
  go_enter Tryz.func37, Tryz.ntmps37
  go_wp2
  go_ret
  exact ⟨rfl, Drawn0.refl _⟩
theorem C_none {α : Type} (d : Kd α) (w : World) : d.C w none 0 ([] : List α) := ⟨rfl, by decide, fun h => absurd h (by decide)⟩
theorem tree_Key.none (w : World) (hG : GOK w) : Calls Tryz.prog 29 #[.pointer none] w fun e w' => e = .returned (.string ⟨#[]⟩) ∧ Below w.heap.size w w' := by
  have HG := Lib.hid hG
  clear hG
  go_enter Tryz.func29, Tryz.ntmps29
  go_wp2_with fail
  refine (tree_Names.none w).mono ?_
  rintro e w1 ⟨rfl, hd1⟩
  have HB1 := Lib.hid hd1.below
  clear hd1
  go_wp2_with fail
  go_loopg [3, 5, 9] 0 (fun gg s3 _ s9 wr => s3 = .slice Option.none 0 0 ∧ s9 = .int .i64 0 ∧ Aside0 (Below w.heap.size w wr))
  case atStart => exact ⟨rfl, rfl, ⟨HB1.out⟩⟩
  case round =>
    obtain ⟨rfl, rfl, HW⟩ := hrel
    go_wp2_with fail
    refine (mint_Put.calls Option.none 0 [] ⟨#[]⟩ _ (HG.out.below HW.out) (C_none Kd.string _) (by simp) (by kernel_rfl)).mono ?_
    rintro e w2 ⟨rfl, hb2⟩
    go_wp2
    go_ret
    exact ⟨rfl, below_then HW.out HW.out.size hb2⟩

end Go.Proofs.YtobbliglnjgbaaaGreatDoor.X
