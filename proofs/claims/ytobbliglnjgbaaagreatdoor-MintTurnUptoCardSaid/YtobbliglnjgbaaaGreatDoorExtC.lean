/-
  path.May and path.Join: 'may' and 'join' of the bytes.
-/
import Derived.Test.YtobbliglnjgbaaaGreatDoorExtB
import Derived.Test.YtobbliglnjgbaaaGreatDoorLib
import Derived.Test.YtobbliglnjgbaaaGreatDoorDel
import Derived.Test.YtobbliglnjgbaaaGreatDoorPb
namespace Go.Proofs.YtobbliglnjgbaaaGreatDoor.X
open Go.RowKit Go.Proofs.YtobbliglnjgbaaaGreatDoorW.PrintWords

theorem eg44 : ∀ args w, (callFunc 44 args).run Tryz.prog w = .ok (.enter 44 args) w := Go.Proofs.enters_of Tryz.func44 (by kernel_rfl) rfl
theorem predB_bad (w : World) (hG : GOK w) : PredB 44 #[] (fun x => bad x.data.toList) w := fun W x hb => path_bad.calls x _ W (hG.below hb) rfl
theorem parts_calls (s : ByteArray) (w : World) (hG : GOK w) (hs : s.size < 4294967281) :
    Calls Tryz.prog 20 #[.string s] w fun e w' => ∃ v : Value, e = .returned v ∧ Kd.R Kd.string 9 w' w.heap.size (fun _ => True) v ((parts s.data.toList).map mk) ∧ Below w.heap.size w w' :=
  Pb.path_Parts.calls s _ w hG (by unfold Pb.path_Parts.f; rw [strings_Split.one s 47 hs]; rfl)

def path_May.f (a0 : ByteArray) : Option Bool := some (may a0.data.toList)
set_option maxHeartbeats 2000000 in
theorem path_May.calls (a0 : ByteArray) (r : Bool) (w : World) (hG : GOK w) (h : path_May.f a0 = some r) :
    Calls Tryz.prog 19 #[.string a0] w fun e w' => e = .returned (.bool r) ∧ Below w.heap.size w w' := by
  have hr : may a0.data.toList = r := Option.some.inj h
  clear h
  unfold may at hr
  rw [← Lib.size_eq, ← toList_eq] at hr
  by_cases h1 : a0.toList = [114, 117, 108, 101]
  · have e1 : (a0.toList == [114, 117, 108, 101]) = true := by simp [h1]
    rw [e1] at hr
    have hr' : r = false := by simpa using hr.symm
    subst hr'
    clear hr h1
    go_enter Tryz.func19, Tryz.ntmps19
    go_wp2
    go_ret
    exact ⟨rfl, Below.refl _ _⟩
  have e1 : (a0.toList == [114, 117, 108, 101]) = false := by simp [h1]
  by_cases h2 : a0.toList = [105, 110]
  · have e2 : (a0.toList == [105, 110]) = true := by simp [h2]
    rw [e2] at hr
    have hr' : r = false := by simpa using hr.symm
    subst hr'
    clear hr h1 h2
    go_enter Tryz.func19, Tryz.ntmps19
    go_wp2
    go_ret
    exact ⟨rfl, Below.refl _ _⟩
  have e2 : (a0.toList == [105, 110]) = false := by simp [h2]
  by_cases h3 : a0.toList = [111, 117, 116]
  · have e3 : (a0.toList == [111, 117, 116]) = true := by simp [h3]
    rw [e3] at hr
    have hr' : r = false := by simpa using hr.symm
    subst hr'
    clear hr h1 h2 h3
    go_enter Tryz.func19, Tryz.ntmps19
    go_wp2
    go_ret
    exact ⟨rfl, Below.refl _ _⟩
  have e3 : (a0.toList == [111, 117, 116]) = false := by simp [h3]
  by_cases h4 : a0.toList = [97, 102, 116, 101, 114]
  · have e4 : (a0.toList == [97, 102, 116, 101, 114]) = true := by simp [h4]
    rw [e4] at hr
    have hr' : r = false := by simpa using hr.symm
    subst hr'
    clear hr h1 h2 h3 h4
    go_enter Tryz.func19, Tryz.ntmps19
    go_wp2
    go_ret
    exact ⟨rfl, Below.refl _ _⟩
  have e4 : (a0.toList == [97, 102, 116, 101, 114]) = false := by simp [h4]
  rw [e1, e2, e3, e4] at hr
  clear h1 h2 h3 h4
  by_cases hl : a0.size ≤ 40
  · have hl1 : decide ((a0.size : Int) ≤ 40) = true := by simp; omega
    have hl2 : decide (a0.size ≤ 40) = true := by simp [hl]
    have hr' : r = !(parts a0.toList).any bad := by rw [hl2] at hr; simpa using hr.symm
    clear hr hl2
    have hP := parts_calls a0 w hG (by omega)
    rw [← toList_eq] at hP
    generalize hps : (parts a0.toList).map mk = ps at hP
    have HPS := Lib.hid hps
    clear hps
    have HG := Lib.hid hG
    clear hG
    have HR := Lib.hid hr'
    clear hr'
    go_enter Tryz.func19, Tryz.ntmps19
    go_wp2_with fail
    refine hP.mono ?_
    rintro e w2 ⟨v, rfl, hv, hb2⟩
    obtain ⟨A, c, rfl, hc, hrd⟩ := Kd.R_reads hv
    have hC := containsFunc_calls 44 #[] eg44 (fun x => bad x.data.toList) A c _ w2 hrd (predB_bad w2 (HG.out.below hb2))
    have ea : ps.any (fun x => bad x.data.toList) = (parts a0.toList).any bad := by
      rw [← HPS.out]
      simp only [List.any_map, Function.comp_def, mk_data]
    rw [ea] at hC
    clear hv hrd hc ea hP HPS
    generalize (parts a0.toList).any bad = q at hC HR
    go_wp2_with fail
    refine hC.mono ?_
    rintro e w3 ⟨rfl, hb3⟩
    go_wp2
    go_ret
    exact ⟨by rw [HR.out]; rfl, below_then hb2 hb2.size hb3⟩
  · have hl1 : decide ((a0.size : Int) ≤ 40) = false := by simp; omega
    have hl2 : decide (a0.size ≤ 40) = false := by simp [hl]
    have hr' : r = false := by rw [hl2] at hr; simpa using hr.symm
    subst hr'
    clear hr hl2
    go_enter Tryz.func19, Tryz.ntmps19
    go_wp2
    go_ret
    exact ⟨rfl, Below.refl _ _⟩

end Go.Proofs.YtobbliglnjgbaaaGreatDoor.X
