/-
  LexAll, walked by hand: any text's words, or where it has none, as the reference has them.
-/
import Derived.Test.YthagibkmfgodgaaGreatDoorZ10
import Derived.Test.YthagibkmfgodgaaGreatDoorZ8
import Derived.Test.YthagibkmfgodgaaGreatDoorZ9
namespace Go.Proofs.YthagibkmfgodgaaGreatDoor.X
open Go.RowKit Go.Maps Go.Proofs.YthagibkmfgodgaaGreatDoorW.PrintWords Go.Proofs.YthagibkmfgodgaaGreatDoorW.PrintMore Go.Proofs.YthagibkmfgodgaaGreatDoorW.PrintLast Go.Proofs.YthagibkmfgodgaaGreatDoor.Pb

set_option maxHeartbeats 8000000 in
set_option maxRecDepth 100000 in
theorem lexAll_walk (s : ByteArray) (w : World) (hG : GOK w) :
    Calls Tryz.prog 3 #[.string s] w (IsTrue w) := by
  have HG := Lib.hid hG
  clear hG
  obtain ⟨t, ht⟩ : ∃ t, t = mk (s.data.toList.take 200) := ⟨_, rfl⟩
  have htl : t.size ≤ 200 := by rw [ht, mk_size, List.length_take]; omega
  have hSh := fun W hW => shipwrightlaw1_Short.calls s 200 t W hW (by rw [ht]; exact short_f s 200)
  have hA := fun W => all_calls t (by omega) W
  have hB := fun W => refAll_calls t (by omega) W
  clear ht
  generalize allR (allF t.data.toList) = T at hA hB
  go_enter Tryz.func3, Tryz.ntmps3
  go_wp2_with fail
  refine (begun4_calls _ HG.out).mono ?_
  rintro e w1 ⟨rfl, hb1⟩
  have HB1 := Lib.hid hb1
  clear hb1
  go_wp2_with fail
  refine (hSh _ (HG.out.below HB1.out)).mono ?_
  rintro e w2 ⟨rfl, hb2⟩
  have HB2 := Lib.hid (below_then HB1.out HB1.out.size hb2)
  clear hb2 HB1 hSh
  go_wp2_with fail
  refine (hA _).mono ?_
  rintro e w3 ⟨v, rfl, hR, hb3⟩
  obtain ⟨A, c, rfl, hc, hr3⟩ := Kd.R_reads hR
  have hb4 := (Below.refl w3.heap.size w3).alloc (Nat.le_refl _) (.cells #[.int .i64 T.2.1, .int .i64 T.2.2] 27)
  have HE4 := Lib.hid (blk_new w3 (.cells #[.int .i64 T.2.1, .int .i64 T.2.2] 27))
  have HR4 := Lib.hid (Kd.C_below hr3 hb4)
  have HB4 := Lib.hid (below_then (below_then HB2.out HB2.out.size hb3) (below_then HB2.out HB2.out.size hb3).size hb4)
  clear hA hR hb3 hr3 hb4 hc HB2
  go_wp2_with fail
  generalize w3.alloc (.cells #[.int .i64 T.2.1, .int .i64 T.2.2] 27) = w4 at HE4 HR4 HB4 ⊢
  generalize w3.heap.size = E1 at HE4 ⊢
  refine (hB _).mono ?_
  rintro e w5 ⟨v, rfl, hR, hb5⟩
  obtain ⟨B, d, rfl, hd, hr5⟩ := Kd.R_reads hR
  have hb6 := (Below.refl w5.heap.size w5).alloc (Nat.le_refl _) (.cells #[.int .i64 T.2.1, .int .i64 T.2.2] 27)
  have HE6 := Lib.hid (blk_new w5 (.cells #[.int .i64 T.2.1, .int .i64 T.2.2] 27))
  have HE5 := Lib.hid (blk_below (blk_below HE4.out hb5) hb6)
  have HR6 := Lib.hid (Kd.C_below hr5 hb6)
  have HR5 := Lib.hid (Kd.C_below (Kd.C_below HR4.out hb5) hb6)
  have HB6 := Lib.hid (below_then (below_then HB4.out HB4.out.size hb5) (below_then HB4.out HB4.out.size hb5).size hb6)
  clear hB hR hb5 hr5 hb6 hd HB4 HR4 HE4
  go_wp2_with fail
  generalize w5.alloc (.cells #[.int .i64 T.2.1, .int .i64 T.2.2] 27) = w6 at HE6 HE5 HR6 HR5 HB6 ⊢
  generalize w5.heap.size = E2 at HE6 ⊢
  refine (words_same A B c d T.1 _ HR5.out HR6.out).mono ?_
  rintro e w7 ⟨rfl, hb7⟩
  have h1 := blk_below HE5.out hb7
  have h2 := blk_below HE6.out hb7
  have k10 : w7.cell? ⟨E1, 0, none⟩ = some (.int .i64 T.2.1) := (blk_cell h1 0).trans rfl
  have k11 : w7.cell? ⟨E1, 1, none⟩ = some (.int .i64 T.2.2) := (blk_cell h1 1).trans rfl
  have k20 : w7.cell? ⟨E2, 0, none⟩ = some (.int .i64 T.2.1) := (blk_cell h2 0).trans rfl
  have k21 : w7.cell? ⟨E2, 1, none⟩ = some (.int .i64 T.2.2) := (blk_cell h2 1).trans rfl
  have HB7 := Lib.hid (below_then HB6.out HB6.out.size hb7)
  clear h1 h2 hb7 HE5 HE6 HR5 HR6 HB6
  go_wp2_with fail
  go_ret
  exact ⟨rfl, HB7.out⟩

def shipwrightlaw4_LexAll.f (_ : ByteArray) : Option Bool := some true
theorem shipwrightlaw4_LexAll.calls (s : ByteArray) (r : Bool) (w : World) (hG : GOK w) (h : shipwrightlaw4_LexAll.f s = some r) :
    Calls Tryz.prog 3 #[.string s] w fun e w' => e = .returned (.bool r) ∧ Below w.heap.size w w' := by
  obtain rfl := Option.some.inj h
  exact lexAll_walk s w hG
theorem pure_LexAll (s : ByteArray) {p : Prop} (_ : p) : shipwrightlaw4_LexAll.f s = some true := rfl

end Go.Proofs.YthagibkmfgodgaaGreatDoor.X
