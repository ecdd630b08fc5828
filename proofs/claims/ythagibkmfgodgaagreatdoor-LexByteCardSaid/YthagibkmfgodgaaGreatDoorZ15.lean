/-
  A quoted text alone among words, plain: what the words are; what a quoted text is made of.
  LexByte, walked by hand: each byte alone.
-/
import Derived.Test.YthagibkmfgodgaaGreatDoorZ6
import Derived.Test.YthagibkmfgodgaaGreatDoorZ10
import Derived.Test.YthagibkmfgodgaaGreatDoorZ8
import Derived.Test.YthagibkmfgodgaaGreatDoorZ9
namespace Go.Proofs.YthagibkmfgodgaaGreatDoor.X
open Go.RowKit Go.Maps Go.Proofs.YthagibkmfgodgaaGreatDoorW.PrintWords Go.Proofs.YthagibkmfgodgaaGreatDoorW.PrintMore

/-- A byte alone behind a word: where it can't be one. -/
theorem lex_byte (c : UInt8) : ∀ p, allF [97, 32, c] = .error p → p = 2 := by
  have key : ∀ n : Nat, n < 256 → (match allF [97, 32, UInt8.ofNat n] with | .error p => p == 2 | .ok _ => true) = true := by decide +kernel
  have := key c.toNat (UInt8.toNat_lt c)
  rw [show UInt8.ofNat c.toNat = c by simp] at this
  intro p hp
  rw [hp] at this
  simpa using this

end Go.Proofs.YthagibkmfgodgaaGreatDoor.X

namespace Go.Proofs.YthagibkmfgodgaaGreatDoor.X
open Go.RowKit Go.Maps Go.Proofs.YthagibkmfgodgaaGreatDoorW.PrintWords Go.Proofs.YthagibkmfgodgaaGreatDoorW.PrintMore Go.Proofs.YthagibkmfgodgaaGreatDoorW.PrintLast Go.Proofs.YthagibkmfgodgaaGreatDoor.Pb

theorem one_byte0 (W : World) (v : Int) : (convert 38 9 (.slice (some ⟨W.heap.size, 0, none⟩) 1 1)).run Tryz.prog (W.alloc (.cells #[.int .u8 v] 5)) = .ok (.string (mk [UInt8.ofNat v.toNat])) (W.alloc (.cells #[.int .u8 v] 5)) := by
  have h : ReadsInt (W.alloc (.cells #[.int .u8 v] 5)) .u8 (some ⟨W.heap.size, 0, none⟩) 1 [v] := by
    refine ⟨rfl, by decide, fun _ => ⟨_, rfl, fun j hj => ?_⟩⟩
    obtain rfl : j = 0 := by omega
    rw [add_plain]
    exact (blk_cell (heap_alloc_new W (.cells #[.int .u8 v] 5)) 0).trans rfl
  exact string_of_reads Tryz.underlying38 Tryz.underlying5 Tryz.underlying9 h
theorem byte_at (c : UInt8) : (allR (allF [97, 32, c])).2.1 = 0 ∨ (allR (allF [97, 32, c])).2.1 = 1 ∧ (allR (allF [97, 32, c])).2.2 = 2 := by
  cases h : allF [97, 32, c] with
  | ok l => exact .inl rfl
  | error p => rw [lex_byte c p h]; exact .inr ⟨rfl, rfl⟩

set_option maxHeartbeats 8000000 in
set_option maxRecDepth 100000 in
theorem lexByte_walk (x : Int) (w : World) (hG : GOK w) :
    Calls Tryz.prog 12 #[.int .u8 x] w (IsTrue w) := by
  have HG := Lib.hid hG
  clear hG
  obtain ⟨y, hy⟩ : ∃ y : ByteArray, y = mk [UInt8.ofNat x.toNat] := ⟨_, rfl⟩
  have hcv := fun W => one_byte0 W x
  have hys : y.size = 1 := by rw [hy]; exact mk_size _
  have hdat : ((⟨#[97, 32]⟩ : ByteArray) ++ y).data.toList = [97, 32, UInt8.ofNat x.toNat] := by rw [hy]; rfl
  have hsz : ((⟨#[97, 32]⟩ : ByteArray) ++ y).size ≤ 100000 := by rw [ByteArray.size_append, hys]; decide
  have hA := fun W => all_calls ((⟨#[97, 32]⟩ : ByteArray) ++ y) hsz W
  have hB := fun W => refAll_calls ((⟨#[97, 32]⟩ : ByteArray) ++ y) hsz W
  rw [← hy] at hcv
  rw [hdat] at hA hB
  have HT := Lib.hid (byte_at (UInt8.ofNat x.toNat))
  clear hdat hsz hy
  generalize allR (allF [97, 32, UInt8.ofNat x.toNat]) = T at hA hB HT
  have hov : ¬ 9223372036854775807 < 2 + y.size := by omega
  go_enter Tryz.func12, Tryz.ntmps12
  go_wp2_with fail
  refine (begun4_calls _ HG.out).mono ?_
  rintro e w1 ⟨rfl, hb1⟩
  have HB1 := Lib.hid hb1
  clear hb1
  have HB2 := Lib.hid (HB1.out.alloc HB1.out.size (.cells #[.int .u8 x] 5))
  clear HB1
  go_wp2_with fail
  refine (hA _).mono ?_
  rintro e w3 ⟨v, rfl, hR, hb3⟩
  obtain ⟨A, c, rfl, hc, hr3⟩ := Kd.R_reads hR
  have hb4 := (Below.refl w3.heap.size w3).alloc (Nat.le_refl _) (.cells #[.int .i64 T.2.1, .int .i64 T.2.2] 27)
  have HE4 := Lib.hid (blk_new w3 (.cells #[.int .i64 T.2.1, .int .i64 T.2.2] 27))
  have HR4 := Lib.hid (Kd.C_below hr3 hb4)
  have HB4 := Lib.hid (below_then (below_then HB2.out HB2.out.size hb3) (below_then HB2.out HB2.out.size hb3).size hb4)
  have hcv2 := hcv (w3.alloc (.cells #[.int .i64 T.2.1, .int .i64 T.2.2] 27))
  rw [World.size_alloc] at hcv2
  clear hA hR hb3 hr3 hb4 hc HB2 hcv
  go_wp2_with fail
  generalize w3.alloc (.cells #[.int .i64 T.2.1, .int .i64 T.2.2] 27) = w4 at HE4 HR4 HB4 hcv2 ⊢
  clear hcv2
  generalize w3.heap.size = E1 at HE4 ⊢
  have ha := (Below.refl w4.heap.size w4).alloc (Nat.le_refl _) (.cells #[.int .u8 x] 5)
  have HE4 := Lib.hid (blk_alloc HE4.out (.cells #[.int .u8 x] 5))
  have HR4 := Lib.hid (Kd.C_below HR4.out ha)
  have HB4 := Lib.hid (HB4.out.alloc HB4.out.size (.cells #[.int .u8 x] 5))
  clear ha
  generalize w4.alloc (.cells #[.int .u8 x] 5) = w4 at HE4 HR4 HB4 ⊢
  refine (hB _).mono ?_
  rintro e w5 ⟨v, rfl, hR, hb5⟩
  obtain ⟨B, d, rfl, hd, hr5⟩ := Kd.R_reads hR
  have hb6 := (Below.refl w5.heap.size w5).alloc (Nat.le_refl _) (.cells #[.int .i64 T.2.1, .int .i64 T.2.2] 27)
  have HE6 := Lib.hid (blk_new w5 (.cells #[.int .i64 T.2.1, .int .i64 T.2.2] 27))
  have HE5 := Lib.hid (blk_below (blk_below HE4.out hb5) hb6)
  have HR6 := Lib.hid (Kd.C_below hr5 hb6)
  have HR5 := Lib.hid (Kd.C_below (Kd.C_below HR4.out hb5) hb6)
  have HB6 := Lib.hid (below_then (below_then HB4.out HB4.out.size hb5) (below_then HB4.out HB4.out.size hb5).size hb6)
  clear hB hR hb5 hr5 hb6 hd HB4 HR4 HE4
  go_wp2_with fail
  generalize w5.alloc (.cells #[.int .i64 T.2.1, .int .i64 T.2.2] 27) = w6 at HE6 HE5 HR6 HR5 HB6 ⊢
  generalize w5.heap.size = E2 at HE6 ⊢
  refine (words_same A B c d T.1 _ HR5.out HR6.out).mono ?_
  rintro e w7 ⟨rfl, hb7⟩
  have h1 := blk_below HE5.out hb7
  have h2 := blk_below HE6.out hb7
  have k10 : w7.cell? ⟨E1, 0, none⟩ = some (.int .i64 T.2.1) := (blk_cell h1 0).trans rfl
  have k11 : w7.cell? ⟨E1, 1, none⟩ = some (.int .i64 T.2.2) := (blk_cell h1 1).trans rfl
  have k20 : w7.cell? ⟨E2, 0, none⟩ = some (.int .i64 T.2.1) := (blk_cell h2 0).trans rfl
  have k21 : w7.cell? ⟨E2, 1, none⟩ = some (.int .i64 T.2.2) := (blk_cell h2 1).trans rfl
  have HB7 := Lib.hid (below_then HB6.out HB6.out.size hb7)
  clear h1 h2 hb7 HE5 HE6 HR5 HR6 HB6
  rcases HT.out with h | ⟨h, h'⟩
  · rw [h] at k10 k20
    clear HT h
    go_wp2_with fail
    go_ret
    exact ⟨rfl, HB7.out⟩
  · rw [h] at k10 k20
    rw [h'] at k11 k21
    clear HT h h'
    go_wp2_with fail
    go_ret
    exact ⟨rfl, HB7.out⟩

def shipwrightlaw4_LexByte.f (_ : Int) : Option Bool := some true
theorem shipwrightlaw4_LexByte.calls (x : Int) (r : Bool) (w : World) (hG : GOK w) (h : shipwrightlaw4_LexByte.f x = some r) :
    Calls Tryz.prog 12 #[.int .u8 x] w fun e w' => e = .returned (.bool r) ∧ Below w.heap.size w w' := by
  obtain rfl := Option.some.inj h
  exact lexByte_walk x w hG
theorem pure_LexByte (x : Int) {p : Prop} (_ : p) : shipwrightlaw4_LexByte.f x = some true := rfl

end Go.Proofs.YthagibkmfgodgaaGreatDoor.X
