/-
  What the cards lean on (part Y10): contracts of functions, by hand, and plain laws; what is printed by the kit's print for this seat is among them. What is not reached is left out.
-/
import Derived.Test.YtdpgdnpddndeoaaGreatDoorY9
import Derived.Test.YtdpgdnpddndeoaaGreatDoorY0
import Derived.Test.YtdpgdnpddndeoaaGreatDoorY8
import Derived.Test.YtdpgdnpddndeoaaGreatDoorY2
set_option maxHeartbeats 16000000
set_option maxRecDepth 100000
set_option linter.unusedSimpArgs false
set_option linter.unusedVariables false
open Go.RowKit.Below renaming refl -> zno
open Nat renaming le_refl -> znp, le_trans -> znv, le_of_lt -> zom, zero_le -> zn8
open List renaming length_map -> zn0, length_append -> znC, take_length -> zn1, map_cons -> zn3, take_succ_eq_append_getElem -> znO, mem_cons_self -> zot, mem_cons_of_mem -> zou, mem_singleton -> zoF, length_cons -> zn5, append_assoc -> zoG, mem_cons -> zow, any_eq_true -> zoK, map_append -> zoc, take_append_drop -> zoL, mem_of_find?_eq_some -> zoO, getElem_mem -> zoy, map_congr_left -> zoA, any_eq_false -> zoP, sum_cons -> zoQ, mem_map -> zoE, find?_eq_none -> zoR
open Option.some renaming inj -> znU
open Option renaming isSome_none -> zoa, getD_none -> zoM, isSome_some -> zoN, getD_some -> zod

namespace Go.Proofs.YtdpgdnpddndeoaaGreatDoor.X
open Go.RowKit Go.Maps Go.Proofs.YtdpgdnpddndeoaaGreatDoorW.PrintWords Go.Proofs.YtdpgdnpddndeoaaGreatDoorW.PrintMore Go.Proofs.YtdpgdnpddndeoaaGreatDoorW.PrintLast
theorem zgl {w : World} {a : Addr} {v : Value} (h : w.cell? a = some v) : ∃ (cs : Array Value) (t : TypeId) (fr : Nat × Nat), w.heap[a.block]? = some (Obj.cells cs t fr) := by
 unfold World.cell? at h; split at h
 . rename_i c t fr hb
   exact ⟨c, t, fr, hb⟩
 . cases h
theorem zgy {w w' : World} {A : Option Addr} {l : List ByteArray} (h : Kd.C Kd.string w A l.length l) {m : Nat} (hm : ∀ (g t : Nat) (cs : Array Value) (fr : Nat × Nat), w.heap[g]? = some (Obj.cells cs t fr) -> m ≠ g) (hg : w.grownBy w' (some m)) : Kd.C Kd.string w' A l.length l := by
 refine ⟨h.1, h.2.1, fun hp => ?_⟩
 obtain ⟨ad, rfl, hc⟩ := h.2.2 hp; refine ⟨ad, rfl, fun j x hx => ?_⟩
 obtain ⟨c, h1, h2, h3⟩ := hc j x hx; refine ⟨c, h1, h2, fun i v hv => ?_⟩
 have h4 := h3 i v hv; obtain ⟨cs, t, fr, hb⟩ := zgl h4; have h5 := hg.block _ (Array.getElem?_eq_some_iff.1 hb).1 (by intro e; injection e with e; exact hm _ _ _ _ hb e.symm)
 unfold World.cell? at h4 |-; rw [h5]; exact h4
def MkIs (w : World) (b n : Nat) (g : zab -> Option ByteArray) : Prop := ∃ f, MapIs Tryz.prog 9 w b n f /\ ∀ k, f k = (g k).map Value.string
theorem MkIs.made (w : World) : MkIs (w.alloc (.map #[] 0)) w.heap.size 0 (fun _ => none) := ⟨_, MapIs.made w, fun _ => rfl⟩
theorem MkIs.lt {w : World} {b n : Nat} {g : zab -> Option ByteArray} (h : MkIs w b n g) : b < w.heap.size := by obtain ⟨f, h, _⟩ := h; exact h.lt
theorem MkIs.mono {w : World} {b n n' : Nat} {g : zab -> Option ByteArray} (h : MkIs w b n g) (hn : n <= n') : MkIs w b n' g := by obtain ⟨f, h, h2⟩ := h; exact ⟨f, h.mono hn, h2⟩
theorem MkIs.below {w w' : World} {b n : Nat} {g : zab -> Option ByteArray} (h : MkIs w b n g) (hb : Below w.heap.size w w') : MkIs w' b n g := by obtain ⟨f, h, h2⟩ := h; exact ⟨f, h.below hb, h2⟩
theorem MkIs.grown {w w' : World} {b n : Nat} {g : zab -> Option ByteArray} {row : Option Nat} (h : MkIs w b n g) (hg : w.grownBy w' row) (hne : some b ≠ row) : MkIs w' b n g := by obtain ⟨f, h, h2⟩ := h; exact ⟨f, h.grown hg hne, h2⟩
theorem MkIs.ne_cells {w : World} {b n : Nat} {g : zab -> Option ByteArray} (h : MkIs w b n g) {a t : Nat} {cs : Array Value} {fr : Nat × Nat} (hg : w.heap[a]? = some (.cells cs t fr)) : b ≠ a := by obtain ⟨f, h, _⟩ := h; exact h.ne_cells hg
theorem MkIs.look2 {w : World} {b n : Nat} {g : zab -> Option ByteArray} (h : MkIs w b n g) (k : ByteArray) (hs : k.size <= maxLen) :
 (Instr.lookup 98 (.map (some b)) (.string k) true).run Tryz.prog w = .ok (.tuple #[.string ((g k.data.toList).getD ⟨#[]⟩), .bool (g k.data.toList).isSome]) w := by
 obtain ⟨f, h, h2⟩ := h; rw [h.look2 Tryz.underlying9 Tryz.underlying98 (Tryz.zeroValue9 w) k hs, h2]; cases g k.data.toList <;> rfl
def setG {α : Type} (g : zab -> Option α) (k : zab) (v : α) : zab -> Option α := fun x => if x = k then some v else g x
theorem MkIs.put {w : World} {b n : Nat} {g : zab -> Option ByteArray} (h : MkIs w b n g) (hn : n < maxLen) (k : ByteArray) (hs : k.size <= maxLen) (v : ByteArray) :
 ∃ w', (Instr.mapUpdate 98 (.map (some b)) (.string k) (.string v)).run Tryz.prog w = .ok () w' /\ MkIs w' b (n + 1) (setG g k.data.toList v) /\ w.grownBy w' (some b) := by
 obtain ⟨f, h, h2⟩ := h; obtain ⟨w', hrun, h', hg⟩ := h.store Tryz.underlying9 Tryz.underlying98 hn k hs (.string v); refine ⟨w', hrun, ⟨_, h', fun x => ?_⟩, hg⟩
 unfold setF setG; split
 . rfl
 . exact h2 x
def zhp (w : World) (v : Value) (l : List ByteArray) : Prop := ∃ A c, v = .slice A l.length c /\ Kd.C Kd.string w A l.length l
def AllIs (w : World) (b n : Nat) (g : zab -> Option (List ByteArray)) : Prop := ∃ f, MapIs Tryz.prog 9 w b n f /\ (∀ k, (f k).isSome = (g k).isSome) /\ ∀ k v l, f k = some v -> g k = some l -> zhp w v l
theorem AllIs.made (w : World) : AllIs (w.alloc (.map #[] 0)) w.heap.size 0 (fun _ => none) := ⟨_, MapIs.made w, fun _ => rfl, fun _ _ _ h => by cases h⟩
theorem AllIs.lt {w : World} {b n : Nat} {g : zab -> Option (List ByteArray)} (h : AllIs w b n g) : b < w.heap.size := by obtain ⟨f, h, _⟩ := h; exact h.lt
theorem AllIs.below {w w' : World} {b n : Nat} {g : zab -> Option (List ByteArray)} (h : AllIs w b n g) (hb : Below w.heap.size w w') : AllIs w' b n g := by
 obtain ⟨f, h, h1, h2⟩ := h; refine ⟨f, h.below hb, h1, fun k v l hv hl => ?_⟩
 obtain ⟨A, c, e, hc⟩ := h2 k v l hv hl; exact ⟨A, c, e, Kd.C_below hc hb⟩
theorem AllIs.put {w : World} {b n : Nat} {g : zab -> Option (List ByteArray)} (h : AllIs w b n g) (hn : n < maxLen) (k : ByteArray) (hs : k.size <= maxLen) (A : Option Addr) (c : Nat) (l : List ByteArray) (hl : Kd.C Kd.string w A l.length l) :
 ∃ w', (Instr.mapUpdate 125 (.map (some b)) (.string k) (.slice A l.length c)).run Tryz.prog w = .ok () w' /\ AllIs w' b (n + 1) (setG g k.data.toList l) /\ w.grownBy w' (some b) := by
 obtain ⟨f, h, h1, h2⟩ := h; obtain ⟨w', hrun, h', hg⟩ := h.store Tryz.underlying9 Tryz.underlying125 hn k hs (.slice A l.length c); have hne : ∀ (a t : Nat) (cs : Array Value) (fr : Nat × Nat), w.heap[a]? = some (Obj.cells cs t fr) -> b ≠ a := fun a t cs fr hc => h.ne_cells hc
 refine ⟨w', hrun, ⟨_, h', fun x => ?_, fun x v l2 hv hl2 => ?_⟩, hg⟩
 . unfold setF setG
   split
   . rfl
   . exact h1 x
 . unfold setF at hv
   unfold setG at hl2; split at hv
   . rename_i e
     rw [if_pos e] at hl2; cases hv
     cases hl2
     exact ⟨A, c, rfl, zgy hl hne hg⟩
   . rename_i e
     rw [if_neg e] at hl2; obtain ⟨A', c', e', hc'⟩ := h2 x v l2 hv hl2; exact ⟨A', c', e', zgy hc' hne hg⟩

def za0 (rs : List zai) : zab -> Option ByteArray := fun o => (rs.reverse.find? fun r => (zac r.f2).contains o).map (·.f0)
theorem zi3 (rs : List zai) (r : zai) : za0 (rs ++ [r]) = fun o => if (zac r.f2).contains o then some r.f0 else za0 rs o := by
 funext o
 unfold za0; rw [List.reverse_append, List.reverse_singleton, List.singleton_append, List.find?_cons]; cases (zac r.f2).contains o <;> rfl
def zbV (rs : List zai) (r : zai) : List ByteArray := r.f3 ++ r.f1.filterMap fun i => za0 rs i.data.toList
def zbu (all : List zai) (rs : List zai) : zab -> Option (List ByteArray) := fun n => (rs.reverse.find? fun r => r.f0.data.toList == n).map fun r => zbJ (zae (zbV all r))
theorem zkj (all rs : List zai) (r : zai) : zbu all (rs ++ [r]) = setG (zbu all rs) r.f0.data.toList (zbJ (zae (zbV all r))) := by
 funext n
 unfold zbu setG; rw [List.reverse_append, List.reverse_singleton, List.singleton_append, List.find?_cons]; by_cases h : n = r.f0.data.toList
 . rw [if_pos h, h]
   simp
 . rw [if_neg h]
   have : (r.f0.data.toList == n) = false := by simpa using Ne.symm h
   rw [this]
theorem zeL {α : Type} (l : List α) (k : Nat) (h : k < l.length) : l.take (k + 1) = l.take k ++ [l[k]] := znO h
theorem zlX (all : List zai) (f3 f1 : List ByteArray) (j : Nat) (h : j < f1.length) (n : ByteArray) (hm : za0 all f1[j].data.toList = some n) : f3 ++ (f1.take (j + 1)).filterMap (fun i => za0 all i.data.toList) = (f3 ++ (f1.take j).filterMap fun i => za0 all i.data.toList) ++ [n] := by
 rw [znO h, List.filterMap_append, zoG]; simp [hm]
theorem zlr (all : List zai) (f3 f1 : List ByteArray) (j : Nat) (h : j < f1.length) (hm : za0 all f1[j].data.toList = none) : f3 ++ (f1.take (j + 1)).filterMap (fun i => za0 all i.data.toList) = f3 ++ (f1.take j).filterMap fun i => za0 all i.data.toList := by
 rw [znO h, List.filterMap_append]; simp [hm]
theorem zhv (all : List zai) (r : zai) : (zbV all r).length <= r.f3.length + r.f1.length := by
 unfold zbV; rw [znC]; have := List.length_filterMap_le (fun i : ByteArray => za0 all i.data.toList) r.f1
 omega
theorem zif (A : Option Addr) (c : Nat) (rs : List zai) (w : World) (hr : Kd.C k45 w A rs.length rs) (hF : zcc rs) :
 Calls Tryz.prog 105 #[.slice A rs.length c] w fun e w' => ∃ b, e = .returned (.map (some b)) /\ w.heap.size <= b /\ AllIs w' b rs.length (zbu rs rs) /\ Below w.heap.size w w' := by
 have hn := hF.len; have HR := znl hr; have HF := znl hF.fit; have hmm := @run_makeMap Tryz.prog; have HM0 := znl (MkIs.made w); have HB0 := znl ((zno w.heap.size w).alloc (znp _) (.map #[] 0)); obtain ⟨g, hg⟩ : ∃ g, g = zbu rs rs := ⟨_, rfl⟩; rw [<- hg]; have HGg := znl hg; clear hr hF hg; go_enter Tryz.func105, Tryz.ntmps105
 go_upto_region 2 with fail; generalize w.alloc (.map #[] 0) = w1 at HM0 HB0 |-; go_wp2_with fail; go_loopg [5, 7, 19] rs.length (fun gg _ _ s19 wr => ∃ kk : Nat, kk <= rs.length /\ rs.length - kk <= gg /\ s19 = .int .i64 kk /\ Aside0 (MkIs wr w.heap.size (kk * 1000) (za0 (rs.take kk))) /\ Aside0 (Below w.heap.size w wr))
 case atStart => exact ⟨0, zn8 _, by omega, rfl, ⟨by rw [Nat.zero_mul]; exact HM0.out⟩, ⟨HB0.out⟩⟩
 case round =>
  obtain ⟨kk, hkk, hgk, rfl, HM, HW⟩ := hrel; obtain ⟨wq, rfl⟩ : ∃ wq, wq = wr := ⟨wr, rfl⟩; by_cases hlt : kk < rs.length
  . have hltz : (kk : Int) < (rs.length : Int) := by omega
    obtain ⟨b, o, B1, c1, B2, c2, B3, c3, B4, c4, rfl, p0, p1, p2, p3, p4, hA, hC⟩ := zcG HR.out kk hlt; replace p0 := zaf HW.out p0
    replace p1 := zaf HW.out p1
    replace p2 := zaf HW.out p2
    replace p3 := zaf HW.out p3
    replace p4 := zaf HW.out p4
    obtain ⟨hf, _, hf0, _⟩ := HF.out _ (zoy hlt); have hsn := zi3 (rs.take kk) rs[kk]; rw [<- zeL rs kk hlt] at hsn; have HSn := znl hsn; have HF2 := znl hf.outsN; have hx2 := hf.outs; have HF0 := znl hf0; have hb3 := (zno wq.heap.size wq).alloc (znp _) (.cells (zaq rs[kk] B1 c1 B2 c2 B3 c3 B4 c4) 45); have HX3 := znl (zao wq (.cells (zaq rs[kk] B1 c1 B2 c2 B3 c3 B4 c4) 45)); have HB3 := znl (HW.out.alloc HW.out.size (.cells (zaq rs[kk] B1 c1 B2 c2 B3 c3 B4 c4) 45)); have HM3 := znl (HM.out.below hb3); have HA := znl hA; generalize rs[kk] = x at p0 p1 p2 p3 p4 HA HX3 HB3 HM3 HSn HF2 HF0 hx2; clear hA hC hf hf0 hsn hb3; unfold zaq at HX3 HB3 HM3; go_upto_region 5 with fail; generalize wq.alloc (.cells #[.string x.f0, .slice B1 x.f1.length c1, .slice B2 x.f2.length c2, .slice B3 x.f3.length c3, .slice B4 x.f4.length c4] 45) = w3 at HX3 HB3 HM3 |-; have x2 : w3.cell? ⟨wq.heap.size, 2, none⟩ = some (.slice B2 x.f2.length c2) := (zaa HX3.out 2).trans rfl; go_wp2_with fail; go_loopg [7, 26] x.f2.length (fun gg _ s26 wi => ∃ j : Nat, j <= x.f2.length /\ x.f2.length - j <= gg /\ s26 = .int .i64 j /\ Aside0 (MkIs wi w.heap.size (kk * 1000 + j) (fun o => if ((zac x.f2).take j).contains o then some x.f0 else za0 (rs.take kk) o)) /\ Aside0 (wi.heap[wq.heap.size]? = some (.cells #[.string x.f0, .slice B1 x.f1.length c1, .slice B2 x.f2.length c2, .slice B3 x.f3.length c3, .slice B4 x.f4.length c4] 45 (0, 0))) /\ Aside0 (Below w.heap.size w wi))
    case atStart => exact ⟨0, zn8 _, by omega, rfl, ⟨by simpa using HM3.out⟩, ⟨HX3.out⟩, ⟨HB3.out⟩⟩
    case round =>
     obtain ⟨j, hj, hgj, rfl, HMi, HXi, HWi⟩ := hrel; by_cases hlj : j < x.f2.length
     . have hljz : (j : Int) < (x.f2.length : Int) := by omega
       obtain ⟨b5, o5, rfl, n0⟩ := zbc (HA.out.below HWi.out).h2 j hlj; have z0 : wr.cell? ⟨wq.heap.size, 0, none⟩ = some (.string x.f0) := (zaa HXi.out 0).trans rfl; obtain ⟨w6, hrun, hM6, hg6⟩ := HMi.out.put (by unfold maxLen; omega) x.f2[j] (HF2.out _ (zoy hlj)) x.f0
       have hB6 := HWi.out.grown hg6 HWi.out.size (fun k hk => by cases hk; exact znp _)
       have hX6 := zaK HXi.out hg6 (by intro e; injection e with e; exact HMi.out.ne_cells HXi.out e.symm)
       have hadd : setG (fun o => if ((zac x.f2).take j).contains o then some x.f0 else za0 (rs.take kk) o) x.f2[j].data.toList x.f0 = fun o => if ((zac x.f2).take (j + 1)).contains o then some x.f0 else za0 (rs.take kk) o := by
        funext o
        rw [zeL (zac x.f2) j (by rw [zaZ]; exact hlj), zcD x.f2 j hlj]
        unfold setG; by_cases ho : o = x.f2[j].data.toList
        . rw [if_pos ho, if_pos (by rw [ho]; simp)]
        . rw [if_neg ho]
          have : ((zac x.f2).take j ++ [x.f2[j].data.toList]).contains o = ((zac x.f2).take j).contains o := by
           rw [Bool.eq_iff_iff]; simp [ho]
          rw [this]
       rw [hadd] at hM6; have HM6 := znl hM6; have HB6 := znl hB6; have HX6 := znl hX6; generalize x.f2[j] = n at n0 hrun; clear hM6 hg6 hB6 hX6 hadd; go_wp2_with fail; go_roundg (x.f2.length - (j + 1))
       case measure => omega
       case rel => exact ⟨j + 1, by omega, by omega, by first | rfl | go_num, ⟨HM6.out⟩, ⟨HX6.out⟩, ⟨HB6.out⟩⟩
     . have hljz : ¬ (j : Int) < (x.f2.length : Int) := by omega
       obtain rfl : j = x.f2.length := by omega
       have HMn : Hid (MkIs wr w.heap.size ((kk + 1) * 1000) (za0 (rs.take (kk + 1)))) := by
        have h := HMi.out; rw [List.take_of_length_le (by rw [zaZ]; exact znp _)] at h
        show MkIs _ _ _ _
        rw [HSn.out]; refine h.mono ?_; have h2 : (kk + 1) * 1000 = kk * 1000 + 1000 := Nat.succ_mul kk 1000; omega
       go_wp2_with fail; go_roundg (rs.length - (kk + 1))
       case measure => omega
       case rel => exact ⟨kk + 1, by omega, by omega, by first | rfl | go_num, ⟨HMn.out⟩, ⟨HWi.out⟩⟩
  . have hltz : ¬ (kk : Int) < (rs.length : Int) := by omega
    obtain rfl : kk = rs.length := by omega
    have hM := HM.out; rw [zn1] at hM; have hb1 := (zno wq.heap.size wq).alloc (znp _) (.map #[] 0); have HM1 := znl (hM.below hb1); have HE1 := znl (AllIs.made wq); have HB1 := znl (HW.out.alloc HW.out.size (.map #[] 0)); have HZ1 := znl HW.out.size; have HZ0 : Hid (w.heap.size < wq.heap.size) := znl hM.lt; clear hM hb1 HM; go_upto_region 12 with fail; generalize hb : wq.heap.size = b at HE1 HZ1 HZ0 |-; generalize wq.alloc (.map #[] 0) = w2 at HM1 HE1 HB1 |-; clear hb; go_wp2_with fail; go_loopg [10, 11, 13, 14, 15, 39] rs.length (fun gg _ _ _ _ _ s39 wr => ∃ kk : Nat, kk <= rs.length /\ rs.length - kk <= gg /\ s39 = .int .i64 kk /\ Aside0 (AllIs wr b kk (zbu rs (rs.take kk))) /\ Aside0 (MkIs wr w.heap.size (rs.length * 1000) (za0 rs)) /\ Aside0 (Below w.heap.size w wr))
    case atStart => exact ⟨0, zn8 _, by omega, rfl, ⟨HE1.out⟩, ⟨HM1.out⟩, ⟨HB1.out⟩⟩
    case round =>
     obtain ⟨kk, hkk, hgk, rfl, HE, HM, HW⟩ := hrel; obtain ⟨wq, rfl⟩ : ∃ wq, wq = wr := ⟨wr, rfl⟩; by_cases hlt : kk < rs.length
     . have hltz : (kk : Int) < (rs.length : Int) := by omega
       obtain ⟨bb, o, B1, c1, B2, c2, B3, c3, B4, c4, rfl, p0, p1, p2, p3, p4, hA, hC⟩ := zcG HR.out kk hlt; replace p0 := zaf HW.out p0
       replace p1 := zaf HW.out p1
       replace p2 := zaf HW.out p2
       replace p3 := zaf HW.out p3
       replace p4 := zaf HW.out p4
       obtain ⟨hf, hf3, hf0, _⟩ := HF.out _ (zoy hlt); have hsn := zkj rs (rs.take kk) rs[kk]; rw [<- zeL rs kk hlt] at hsn; have HSn := znl hsn; have HF1 := znl hf.insN; have hx1 := hf.ins; have HF0 := znl hf0; have hb3 := (zno wq.heap.size wq).alloc (znp _) (.cells (zaq rs[kk] B1 c1 B2 c2 B3 c3 B4 c4) 45); have HX3 := znl (zao wq (.cells (zaq rs[kk] B1 c1 B2 c2 B3 c3 B4 c4) 45)); have HB3 := znl (HW.out.alloc HW.out.size (.cells (zaq rs[kk] B1 c1 B2 c2 B3 c3 B4 c4) 45)); have HM3 := znl (HM.out.below hb3); have HE3 := znl (HE.out.below hb3); have HA3 := znl (hA.below HB3.out); have hnl := zhv rs rs[kk]; have hnl2 : (zbV rs rs[kk]).length <= 2000 := by omega
       have HNl := znl hnl2; generalize hxx : rs[kk] = x at p0 p1 p2 p3 p4 HX3 HB3 HM3 HE3 HA3 HSn HF1 HF0 hx1 HNl hf3; clear hA hC hf hf0 hsn hb3 hnl hnl2 hxx HM HE; unfold zaq at HX3 HB3 HM3 HE3 HA3; go_upto_region 15 with fail; generalize wq.alloc (.cells #[.string x.f0, .slice B1 x.f1.length c1, .slice B2 x.f2.length c2, .slice B3 x.f3.length c3, .slice B4 x.f4.length c4] 45) = w3 at HX3 HB3 HM3 HE3 HA3 |-; have x3 : w3.cell? ⟨wq.heap.size, 3, none⟩ = some (.slice B3 x.f3.length c3) := (zaa HX3.out 3).trans rfl; have hcl := zc0 B3 c3 x.f3 w3 HA3.out.h3 (by omega)
       go_upto_region 16 with (first | (go_at_call 99; refine hcl.mono ?_; rintro e w4 ⟨v4, rfl, hown, hb4⟩; have HO4 : Hid (RS w4 w3.heap.size v4 x.f3) := znl (Kd.R_of_own (h1 := fun _ => rfl) hown (fun _ _ => trivial)); have HB4 := znl hb4; have HX4 := znl (zah HX3.out hb4); clear hown hb4))
       have x1 : w4.cell? ⟨wq.heap.size, 1, none⟩ = some (.slice B1 x.f1.length c1) := (zaa HX4.out 1).trans rfl; clear hcl x3; go_wp2_with fail; go_loopg [11, 13, 14, 15, 49] x.f1.length (fun gg s11 _ _ _ s49 wi => ∃ j : Nat, j <= x.f1.length /\ x.f1.length - j <= gg /\ s49 = .int .i64 j /\ Aside0 (RS wi w3.heap.size s11 (x.f3 ++ (x.f1.take j).filterMap fun i => za0 rs i.data.toList)) /\ Aside0 (Below w3.heap.size w3 wi))
       case atStart => exact ⟨0, zn8 _, by omega, rfl, ⟨by simpa using HO4.out⟩, ⟨HB4.out⟩⟩
       case round =>
        obtain ⟨j, hj, hgj, rfl, HO, HWi⟩ := hrel; by_cases hlj : j < x.f1.length
        . have hljz : (j : Int) < (x.f1.length : Int) := by omega
          obtain ⟨b5, o5, rfl, n0⟩ := zbc (HA3.out.below HWi.out).h1 j hlj; have hlk := (HM3.out.below HWi.out).look2 x.f1[j] (HF1.out _ (zoy hlj)); have hfl : ((x.f1.take j).filterMap fun i => za0 rs i.data.toList).length <= 1000 := znv (List.length_filterMap_le _ _) (by rw [List.length_take]; omega)
          have HFl := znl hfl; have HWs := znl HWi.out.size; have HSome := znl (zlX rs x.f3 x.f1 j hlj); have HNone := znl (zlr rs x.f3 x.f1 j hlj); generalize za0 rs x.f1[j].data.toList = mo at hlk HSome HNone; generalize x.f1[j] = n at n0 hlk; clear hfl; cases mo with
          | none =>
           have HN : Hid (RS wr w3.heap.size u11 (x.f3 ++ (x.f1.take (j + 1)).filterMap fun i => za0 rs i.data.toList)) := by show RS _ _ _ _; rw [HNone.out (by trivial)]; exact HO.out
           simp only [zoM, zoa] at hlk; go_wp2_with fail; go_roundg (x.f1.length - (j + 1))
           case measure => omega
           case rel => exact ⟨j + 1, by omega, by omega, by first | rfl | go_num, ⟨HN.out⟩, ⟨HWi.out⟩⟩
          | some nm =>
           have HN : Hid (x.f3 ++ (x.f1.take (j + 1)).filterMap (fun i => za0 rs i.data.toList) = (x.f3 ++ (x.f1.take j).filterMap fun i => za0 rs i.data.toList) ++ [nm]) := HSome.out nm rfl
           simp only [zod, zoN] at hlk; go_wp2_with (first | ((with_reducible refine zaM (b := .append) (xs := #[.tmp 60, .tmp 62]) rfl ?_); at_builtin; refine Kd.R_append Kd.string (w0 := w3) w3.heap.size rfl (.tmp 60) (.tmp 62) 22 9 (.string ⟨#[]⟩) 16 rfl Tryz.underlying22 zcg rfl (by decide) (by decide) u11 (x.f3 ++ (x.f1.take j).filterMap fun i => za0 rs i.data.toList) nm [.string nm] (fun _ => True) (fun k_ => True /\ some k_ ≠ u11.ownBlock) rfl rfl rfl (fun _ hk => hk) (fun _ _ => trivial) HO.out HWi.out HWs.out ?aL ?_; (case aL => (have h1 := HFl.out; rw [znC]; omega)); intro v1 w5 ho hb hg hat; have HO5 : Hid (RS w5 w3.heap.size v1 (x.f3 ++ (x.f1.take (j + 1)).filterMap fun i => za0 rs i.data.toList)) := (by show RS _ _ _ _; rw [HN.out]; exact ho); have HB5 := znl hb; clear ho hb hg hat))
           go_roundg (x.f1.length - (j + 1))
           case measure => omega
           case rel => exact ⟨j + 1, by omega, by omega, by first | rfl | go_num, ⟨HO5.out⟩, ⟨HB5.out⟩⟩
        . have hljz : ¬ (j : Int) < (x.f1.length : Int) := by omega
          obtain rfl : j = x.f1.length := by omega
          have hO := HO.out; rw [zn1] at hO; have hO' : RS wr w3.heap.size u11 (zbV rs x) := hO; have hSort := zfF w3.heap.size u11 (zbV rs x) wr hO' (by have := HNl.out; omega)
          have HSort := znl hSort; have HBs := znl (Kd.R_base hO'); have HSn2 := HSn.out; generalize zbV rs x = nl at HSort HSn2 HNl; have HSn3 := znl HSn2; clear hO hO' hSort HSn2 HSn HO; go_upto_region 24 with (first
           | (go_at_call 93; refine HSort.out.mono ?_; rintro e w5 ⟨rfl, hR5, hg5⟩; have HR5 := znl hR5; have HW5 := znl (HWi.out.grown hg5 HWi.out.size (fun k hk => HBs.out k hk)); clear hR5 hg5))
          have HX5 := znl (zah HX3.out HW5.out); have HSo : Hid (∀ W, Below w3.heap.size w3 W -> W.cell? ⟨wq.heap.size, 0, none⟩ = some (.string x.f0)) := znl (fun W hW => (zaa (zah HX3.out hW) 0).trans rfl)
          have HBx : Hid (Below w3.heap.size w3 w5.drew) := znl (zbh HW5.out); have HR5d := znl (Kd.R_drew HR5.out); go_wp2_with fail; go_region_held3 (fun W => W.cell? ⟨wq.heap.size, 0, none⟩ = some (.string x.f0)) (first | exact HSo.out _ HBx.out | exact (zaa HX7.out 0).trans rfl)
           (first | (go_at_call 94; refine (zhm w3.heap.size u11 _ _ HR5d.out).mono ?_; rintro e w6 ⟨v6, rfl, hR6, hg6⟩; obtain ⟨A6, n6, rfl, _, hC6⟩ := Kd.R_reads hR6; have HBx := znl (HBx.out.grown hg6 HBx.out.size (fun k hk => HBs.out k hk)); obtain ⟨w7, hrun, hE7, hg7⟩ := (HE3.out.below HBx.out).put (by unfold maxLen; omega) x.f0 HF0.out A6 n6 _ hC6; have HE7 := znl hE7; have HG7 := znl hg7; have HX7 := znl (zaK (zah HX3.out HBx.out) hg7 (by intro e; injection e with e; obtain ⟨f, hf, _⟩ := HE3.out.below HBx.out; exact hf.ne_cells (zah HX3.out HBx.out) e.symm)); have HM7 := znl ((HM3.out.below HBx.out).grown hg7 (by have h0 := HZ0.out; intro e; injection e with e; omega)); clear hR6 hg6 hC6 hE7 hg7))
          all_goals
           have HB7 : Hid (Below w.heap.size w w7) := znl ((HB3.out.trans (HBx.out.mono HB3.out.size)).grown HG7.out (znv HB3.out.size HBx.out.size) (fun k hk => by cases hk; exact HZ1.out))
           have HE8 : Hid (AllIs w7 b (kk + 1) (zbu rs (rs.take (kk + 1)))) := by
            show AllIs _ _ _ _
            rw [HSn3.out]; exact HE7.out
           go_wp2_with fail; go_roundg (rs.length - (kk + 1))
           case measure => omega
           case rel => exact ⟨kk + 1, by omega, by omega, by first | rfl | go_num, ⟨HE8.out⟩, ⟨HM7.out⟩, ⟨HB7.out⟩⟩
     . have hltz : ¬ (kk : Int) < (rs.length : Int) := by omega
       obtain rfl : kk = rs.length := by omega
       have hE := HE.out; rw [zn1, <- HGg.out] at hE; have HEf := znl hE; clear hE; go_wp2_with fail; go_ret
       exact ⟨b, rfl, HZ1.out, HEf.out, HW.out⟩

end Go.Proofs.YtdpgdnpddndeoaaGreatDoor.X

namespace Go.Proofs.YtdpgdnpddndeoaaGreatDoor.X
def goes (G : zab -> List zab) (t : zab) : Nat -> zab -> Prop
 | 0, x => x = t
 | n + 1, x => ∃ y, y ∈ G x /\ goes G t n y
structure IsFar (G : zab -> List zab) (t : zab) (far : zab -> Option Nat) : Prop where
 sound : ∀ x d, far x = some d -> goes G t d x
 least : ∀ x n, goes G t n x -> ∃ d, far x = some d /\ d <= n
theorem IsFar.le {G : zab -> List zab} {t : zab} {f g : zab -> Option Nat} (hf : IsFar G t f) (hg : IsFar G t g) {x : zab} {d : Nat} (h : f x = some d) : g x = some d := by
 obtain ⟨e, he, hle⟩ := hg.least x d (hf.sound x d h); obtain ⟨d', hd', hle'⟩ := hf.least x e (hg.sound x e he); rw [h] at hd'; obtain rfl := znU hd'; rw [he, Nat.le_antisymm hle hle']
theorem IsFar.unique {G : zab -> List zab} {t : zab} {f g : zab -> Option Nat} (hf : IsFar G t f) (hg : IsFar G t g) : f = g := by
 funext x
 cases h : f x with
 | some d => rw [hf.le hg h]
 | none =>
  cases h2 : g x with
  | none => rfl
  | some d => rw [hg.le hf h2] at h; cases h
theorem zmn {G : zab -> List zab} {t : zab} {far : zab -> Option Nat} (h0 : far t = some 0) (hs : ∀ x d, far x = some d -> goes G t d x) (hc : ∀ x y d, y ∈ G x -> far y = some d -> ∃ e, far x = some e /\ e <= d + 1) : IsFar G t far := by
 refine ⟨hs, fun x n => ?_⟩
 induction n generalizing x with
 | zero => rintro rfl; exact ⟨0, h0, znp _⟩
 | succ n ih =>
  rintro ⟨y, hy, hg⟩; obtain ⟨d, hd, hle⟩ := ih y hg; obtain ⟨e, he, hle2⟩ := hc x y d hy hd; exact ⟨e, he, by omega⟩
theorem IsFar.self {G : zab -> List zab} {t : zab} {far : zab -> Option Nat} (h : IsFar G t far) : far t = some 0 := by
 obtain ⟨d, hd, hle⟩ := h.least t 0 rfl; rw [hd, Nat.le_zero.1 hle]
theorem IsFar.next {G : zab -> List zab} {t : zab} {far : zab -> Option Nat} (h : IsFar G t far) {x : zab} {k : Nat} (hx : far x = some (k + 1)) : ∃ y, y ∈ G x /\ far y = some k := by
 obtain ⟨y, hy, hg⟩ := h.sound x _ hx; obtain ⟨d, hd, hle⟩ := h.least y k hg; refine ⟨y, hy, ?_⟩; obtain ⟨e, he, hle2⟩ := h.least x (d + 1) ⟨y, hy, h.sound y d hd⟩; rw [hx] at he; obtain rfl := znU he; rw [hd]; congr 1
 omega

def zbx (b : Option Nat) (v : Option Nat) : Option Nat := match v, b with
 | none, b => b
 | some d, none => some d
 | some d, some e => if d < e then some d else some e
def zbG (far : zab -> Option Nat) (l : List zab) : Option Nat := l.foldl (fun b y => zbx b (far y)) none
theorem zg2 (far : zab -> Option Nat) : ∀ (l : List zab) (b : Option Nat), (match l.foldl (fun b y => zbx b (far y)) b with
 | none => b = none /\ ∀ y ∈ l, far y = none
 | some k => (b = some k \/ ∃ y ∈ l, far y = some k) /\ (∀ e, b = some e -> k <= e) /\ ∀ y ∈ l, ∀ d, far y = some d -> k <= d)
 | [], b => by
  cases b with
  | none => exact ⟨rfl, fun y hy => by cases hy⟩
  | some k => exact ⟨.inl rfl, fun e he => by cases he; exact znp _, fun y hy => by cases hy⟩
 | y :: r, b => by
  have ih := zg2 far r (zbx b (far y)); rw [List.foldl_cons]; generalize r.foldl (fun b y => zbx b (far y)) (zbx b (far y)) = z at ih |-
  cases z with
  | none =>
   obtain ⟨h1, h2⟩ := ih; cases hy : far y with
   | none =>
    rw [hy] at h1; refine ⟨by cases b <;> first | rfl | exact h1, fun u hu => ?_⟩
    rcases zow.1 hu with rfl | hu
    . exact hy
    . exact h2 u hu
   | some d =>
    rw [hy] at h1; exfalso
    cases b with
    | none => cases h1
    | some e => unfold zbx at h1; dsimp only at h1; split at h1 <;> cases h1
  | some k =>
   obtain ⟨h1, h2, h3⟩ := ih; cases hy : far y with
   | none =>
    rw [hy] at h1 h2; have e : zbx b none = b := by cases b <;> rfl
    rw [e] at h1 h2; refine ⟨?_, h2, fun u hu d hd => ?_⟩
    . rcases h1 with h1 | ⟨u, hu, hk⟩
      . exact .inl h1
      . exact .inr ⟨u, zou _ hu, hk⟩
    . rcases zow.1 hu with rfl | hu
      . rw [hy] at hd; cases hd
      . exact h3 u hu d hd
   | some d =>
    rw [hy] at h1 h2; cases b with
    | none =>
     have e : zbx none (some d) = some d := rfl; rw [e] at h1 h2; refine ⟨?_, (fun e he => by cases he), fun u hu d' hd => ?_⟩
     . rcases h1 with h1 | ⟨u, hu, hk⟩
       . exact .inr ⟨y, zot, by rw [hy, h1]⟩
       . exact .inr ⟨u, zou _ hu, hk⟩
     . rcases zow.1 hu with rfl | hu
       . rw [hy] at hd; cases hd; exact h2 d rfl
       . exact h3 u hu d' hd
    | some e =>
     by_cases hlt : d < e
     . have e' : zbx (some e) (some d) = some d := by unfold zbx; dsimp only; rw [if_pos hlt]
       rw [e'] at h1 h2; have hk := h2 d rfl; refine ⟨?_, fun e2 he => by cases he; omega, fun u hu d' hd => ?_⟩
       . rcases h1 with h1 | ⟨u, hu, hk⟩
         . exact .inr ⟨y, zot, by rw [hy, h1]⟩
         . exact .inr ⟨u, zou _ hu, hk⟩
       . rcases zow.1 hu with rfl | hu
         . rw [hy] at hd; cases hd; exact hk
         . exact h3 u hu d' hd
     . have e' : zbx (some e) (some d) = some e := by unfold zbx; dsimp only; rw [if_neg hlt]
       rw [e'] at h1 h2; have hk := h2 e rfl; refine ⟨?_, fun e2 he => by cases he; exact hk, fun u hu d' hd => ?_⟩
       . rcases h1 with h1 | ⟨u, hu, hk⟩
         . exact .inl h1
         . exact .inr ⟨u, zou _ hu, hk⟩
       . rcases zow.1 hu with rfl | hu
         . rw [hy] at hd; cases hd; omega
         . exact h3 u hu d' hd
theorem zfV {far : zab -> Option Nat} {l : List zab} {k : Nat} (h : zbG far l = some k) : (∃ y ∈ l, far y = some k) /\ ∀ y ∈ l, ∀ d, far y = some d -> k <= d := by
 have := zg2 far l none; unfold zbG at h; rw [h] at this; obtain ⟨h1, _, h3⟩ := this; exact ⟨by rcases h1 with h1 | h1; cases h1; exact h1, h3⟩

def zck (G : zab -> List zab) (far : zab -> Option Nat) : Nat -> zab -> List zab
 | 0, _ => []
 | k + 1, x => match (G x).find? (fun y => far y == some (k + 1)) with
  | some y => y :: zck G far k y
  | none => []
def wayF (G : zab -> List zab) (far : zab -> Option Nat) (t : zab) : Option (List zab) := match zbG far (G t) with
 | none => none
 | some k => some (t :: zck G far k t)
def zeG (G : zab -> List zab) (far : zab -> Option Nat) (t : zab) (k : Nat) (x : zab) : Prop := (x = t /\ zbG far (G t) = some k) \/ far x = some (k + 1)
theorem zmb {G : zab -> List zab} {t : zab} {far : zab -> Option Nat} (h : IsFar G t far) {k : Nat} {x : zab} (hx : zeG G far t (k + 1) x) : ∃ y, (G x).find? (fun y => far y == some (k + 1)) = some y /\ y ∈ G x /\ far y = some (k + 1) /\ zck G far (k + 1) x = y :: zck G far k y /\ zeG G far t k y := by
 have hex : ∃ y, y ∈ G x /\ far y = some (k + 1) := by
  rcases hx with ⟨rfl, hb⟩ | hx
  . obtain ⟨⟨y, hy, hk⟩, _⟩ := zfV hb
    exact ⟨y, hy, hk⟩
  . exact h.next hx
 cases hf : (G x).find? (fun y => far y == some (k + 1)) with
 | none =>
  obtain ⟨y, hy, hk⟩ := hex; have := zoR.1 hf y hy; rw [hk] at this; simp at this
 | some y =>
  have h1 := zoO hf; have h2 : far y = some (k + 1) := by simpa using List.find?_some hf
  refine ⟨y, rfl, h1, h2, ?_, .inr h2⟩; show (match (G x).find? (fun y => far y == some (k + 1)) with
   | some y => y :: zck G far k y
   | none => []) = _
  rw [hf]

def far0 (t : zab) : zab -> Option Nat := fun x => if x = t then some 0 else none
def zd0 (G : zab -> List zab) (nodes : List zab) (d : Nat) (far : zab -> Option Nat) : zab -> Option Nat := fun x =>
 match far x with
 | some e => some e
 | none => if nodes.contains x && (G x).any (fun y => far y == some d) then some (d + 1) else none
def farK (G : zab -> List zab) (nodes : List zab) (t : zab) : Nat -> zab -> Option Nat
 | 0 => far0 t
 | d + 1 => zd0 G nodes d (farK G nodes t d)
structure zeb (G : zab -> List zab) (nodes : List zab) : Prop where
 out : ∀ x y, y ∈ G x -> x ∈ nodes /\ y ∈ nodes
 nodup : nodes.Nodup
theorem zdO (G : zab -> List zab) (nodes : List zab) (t : zab) (hG : zeb G nodes) : ∀ d x, (∀ e, farK G nodes t d x = some e -> e <= d /\ goes G t e x /\ ∀ n, goes G t n x -> e <= n) /\ (farK G nodes t d x = none -> ∀ n, goes G t n x -> d < n)
 | 0, x => by
  unfold farK far0; by_cases hx : x = t
  . rw [if_pos hx]
    exact ⟨fun e he => by cases he; exact ⟨znp _, hx, fun n _ => zn8 _⟩, fun h => by cases h⟩
  . rw [if_neg hx]
    refine ⟨(fun e he => by cases he), fun _ n hn => ?_⟩
    cases n with
    | zero => exact absurd hn hx
    | succ n => omega
 | d + 1, x => by
  obtain ⟨i1, i2⟩ := zdO G nodes t hG d x; show (∀ e, zd0 G nodes d (farK G nodes t d) x = some e -> _) /\ (zd0 G nodes d (farK G nodes t d) x = none -> _)
  unfold zd0; cases hx : farK G nodes t d x with
  | some e0 =>
   obtain ⟨a1, a2, a3⟩ := i1 e0 hx; exact ⟨fun e he => by cases he; exact ⟨by omega, a2, a3⟩, fun h => by cases h⟩
  | none =>
   have hfar := i2 hx; dsimp only; by_cases hc : (nodes.contains x && (G x).any (fun y => farK G nodes t d y == some d)) = true
   . rw [if_pos hc]
     refine ⟨fun e he => ?_, fun h => by cases h⟩
     cases he
     rw [Bool.and_eq_true] at hc; obtain ⟨y, hy, hyd⟩ := zoK.1 hc.2; have hyd' : farK G nodes t d y = some d := by simpa using hyd
     exact ⟨znp _, ⟨y, hy, ((zdO G nodes t hG d y).1 d hyd').2.1⟩, fun n hn => hfar n hn⟩
   . rw [if_neg hc]
     refine ⟨(fun e he => by cases he), fun _ n hn => ?_⟩
     have h1 := hfar n hn; rcases Nat.lt_or_ge (d + 1) n with h2 | h2
     . exact h2
     . exfalso
       obtain rfl : n = d + 1 := by omega
       obtain ⟨y, hy, hg⟩ := hn; refine hc ?_; rw [Bool.and_eq_true]; refine ⟨by simpa using (hG.out x y hy).1, zoK.2 ⟨y, hy, ?_⟩⟩
       obtain ⟨j1, j2⟩ := zdO G nodes t hG d y; cases hyd : farK G nodes t d y with
       | none => exact absurd (j2 hyd d hg) (Nat.lt_irrefl _)
       | some e =>
        obtain ⟨b1, b2, b3⟩ := j1 e hyd; have := hfar (e + 1) ⟨y, hy, b2⟩; have : e = d := by omega
        rw [this]; simp
theorem zfs {α : Type} [DecidableEq α] : ∀ (l k : List α), l.Nodup -> (∀ x ∈ l, x ∈ k) -> l.length <= k.length
 | [], _, _, _ => zn8 _
 | x :: r, k, hd, hs => by
  obtain ⟨h1, h2⟩ := List.nodup_cons.1 hd; have hx := hs x zot; have := zfs r (k.erase x) h2 (fun y hy => by
   have hne : y ≠ x := fun e => h1 (e ▸ hy)
   exact (List.mem_erase_of_ne hne).2 (hs y (zou _ hy)))
  rw [List.length_erase_of_mem hx] at this; have hp : 0 < k.length := List.length_pos_of_mem hx; rw [zn5]; omega
theorem zgE {G : zab -> List zab} {nodes : List zab} {t : zab} (hG : zeb G nodes) (ht : t ∈ nodes) : ∀ (n : Nat) (x : zab), goes G t n x -> (∀ m, goes G t m x -> n <= m) -> ∃ l : List zab, l.length = n + 1 /\ l.Nodup /\ (∀ y ∈ l, y ∈ nodes) /\ ∀ y ∈ l, ∃ j, j <= n /\ goes G t j y /\ ∀ m, goes G t m y -> j <= m
 | 0, x, h, hm => by
  have hx : x = t := h; subst hx; exact ⟨[x], rfl, by simp, fun y hy => by rw [zoF.1 hy]; exact ht, fun y hy => by rw [zoF.1 hy]; exact ⟨0, znp _, rfl, fun m _ => zn8 _⟩⟩
 | n + 1, x, h, hm => by
  obtain ⟨y, hy, hg⟩ := h; have hym : ∀ m, goes G t m y -> n <= m := fun m hm' => by have := hm (m + 1) ⟨y, hy, hm'⟩; omega
  obtain ⟨l, h1, h2, h3, h4⟩ := zgE hG ht n y hg hym; refine ⟨x :: l, by rw [zn5, h1], List.nodup_cons.2 ⟨fun hx => ?_, h2⟩, fun u hu => ?_, fun u hu => ?_⟩
  . obtain ⟨j, hj, hgj, _⟩ := h4 x hx
    have := hm j hgj; omega
  . rcases zow.1 hu with rfl | hu
    . exact (hG.out _ y hy).1
    . exact h3 u hu
  . rcases zow.1 hu with rfl | hu
    . exact ⟨n + 1, znp _, ⟨y, hy, hg⟩, hm⟩
    . obtain ⟨j, hj, r⟩ := h4 u hu
      exact ⟨j, by omega, r⟩
theorem zkD {G : zab -> List zab} {t x : zab} : ∀ n, goes G t n x -> ∃ m, m <= n /\ goes G t m x /\ ∀ k, goes G t k x -> m <= k := by
 intro n; induction n using Nat.strongRecOn with
 | ind n ih =>
  intro h; by_cases hs : ∃ k, k < n /\ goes G t k x
  . obtain ⟨k, hk, hg⟩ := hs
    obtain ⟨m, hm, r⟩ := ih k hk hg; exact ⟨m, by omega, r⟩
  . exact ⟨n, znp _, h, fun k hk => by
     rcases Nat.lt_or_ge k n with h1 | h1
     . exact absurd ⟨k, h1, hk⟩ hs
     . exact h1⟩
theorem zlE (G : zab -> List zab) (nodes : List zab) (t : zab) (hG : zeb G nodes) (ht : t ∈ nodes) (k : Nat) (hk : nodes.length <= k + 1) : IsFar G t (farK G nodes t k) := by
 refine ⟨fun x d h => ((zdO G nodes t hG k x).1 d h).2.1, fun x n hn => ?_⟩
 obtain ⟨i1, i2⟩ := zdO G nodes t hG k x; cases hx : farK G nodes t k x with
 | some d => exact ⟨d, rfl, (i1 d hx).2.2 n hn⟩
 | none =>
  exfalso
  obtain ⟨m, hm, hg, hmin⟩ := zkD n hn; have h1 := i2 hx m hg; obtain ⟨l, l1, l2, l3, _⟩ := zgE hG ht m x hg hmin; have := zfs l nodes l2 l3; omega
end Go.Proofs.YtdpgdnpddndeoaaGreatDoor.X

namespace Go.Proofs.YtdpgdnpddndeoaaGreatDoor.X
open Go.RowKit Go.Maps Go.Proofs.YtdpgdnpddndeoaaGreatDoorW.PrintWords Go.Proofs.YtdpgdnpddndeoaaGreatDoorW.PrintMore Go.Proofs.YtdpgdnpddndeoaaGreatDoorW.PrintLast
theorem zfC (f g : zab -> Nat) (h : ∀ y, f y <= g y) : ∀ l : List zab, (l.map f).sum <= (l.map g).sum
 | [] => znp _
 | x :: r => by
  rw [zn3, zn3, zoQ, zoQ]; exact Nat.add_le_add (h x) (zfC f g h r)
theorem zez (f g : zab -> Nat) (h : ∀ y, f y <= g y) : ∀ (l : List zab) (x : zab), x ∈ l -> f x < g x -> (l.map f).sum < (l.map g).sum
 | y :: r, x, hx, hlt => by
  rw [zn3, zn3, zoQ, zoQ]; rcases zow.1 hx with rfl | hx
  . have := zfC f g h r
    omega
  . have := zez f g h r x hx hlt
    have := h y; omega
theorem zfx (f : zab -> Nat) (c : Nat) : ∀ l : List zab, (∀ y, f y <= c) -> (l.map f).sum <= l.length * c
 | [], _ => zn8 _
 | x :: r, h => by
  rw [zn3, zoQ, zn5, Nat.succ_mul]; have := zfx f c r h; have := h x; omega
def zcx (nodes : List zab) (fd : zab -> Option Nat) : Nat := (nodes.map fun x => if (fd x).isSome then 1 else 0).sum
def phiN (nodes : List zab) (fd : zab -> Option Nat) : Nat := (nodes.map fun x => (fd x).getD nodes.length).sum
theorem zgW (nodes : List zab) (fd : zab -> Option Nat) : zcx nodes fd <= nodes.length := by
 have := zfx (fun x => if (fd x).isSome then 1 else 0) 1 nodes (fun y => by split <;> omega)
 unfold zcx; omega
structure FarInv (G : zab -> List zab) (nodes : List zab) (t : zab) (fd : zab -> Option Nat) : Prop where
 self : fd t = some 0
 sound : ∀ x d, fd x = some d -> goes G t d x
 low : ∀ x d, fd x = some d -> d < zcx nodes fd
theorem FarInv.init (G : zab -> List zab) {nodes : List zab} {t : zab} (ht : t ∈ nodes) : FarInv G nodes t (setG (fun _ => none) t 0) := by
 have e : ∀ x d, setG (fun _ => none) t 0 x = some d -> x = t /\ d = 0 := by
  intro x d h; unfold setG at h; split at h
  . cases h; exact ⟨by assumption, rfl⟩
  . cases h
 refine ⟨by unfold setG; rw [if_pos rfl], fun x d h => ?_, fun x d h => ?_⟩
 . obtain ⟨rfl, rfl⟩ := e x d h
   exact rfl
 . obtain ⟨rfl, rfl⟩ := e x d h
   have := zez (fun _ => 0) (fun y => if (setG (fun _ => none) x 0 y).isSome then 1 else 0) (fun y => zn8 _) nodes x ht (by unfold setG; rw [if_pos rfl]; exact Nat.zero_lt_one)
   unfold zcx; omega
theorem FarInv.lt {G : zab -> List zab} {nodes : List zab} {t x : zab} {fd : zab -> Option Nat} {d : Nat} (h : FarInv G nodes t fd) (hx : fd x = some d) : d < nodes.length := Nat.lt_of_lt_of_le (h.low x d hx) (zgW nodes fd)
theorem FarInv.phi {G : zab -> List zab} {nodes : List zab} {t : zab} {fd : zab -> Option Nat} (h : FarInv G nodes t fd) : phiN nodes fd <= nodes.length * nodes.length := by
 refine zfx _ _ nodes fun y => ?_
 cases hy : fd y with
 | none => exact znp _
 | some d => exact zom (h.lt hy)
theorem FarInv.put {G : zab -> List zab} {nodes : List zab} {t x y : zab} {fd : zab -> Option Nat} {d : Nat} (h : FarInv G nodes t fd) (hx : x ∈ nodes) (hy : y ∈ G x) (hd : fd y = some d) (hn : ∀ e, fd x = some e -> d + 1 < e) :
 FarInv G nodes t (setG fd x (d + 1)) /\ phiN nodes (setG fd x (d + 1)) < phiN nodes fd := by
 have hs : setG fd x (d + 1) x = some (d + 1) := by unfold setG; rw [if_pos rfl]
 have hne : ∀ z, z ≠ x -> setG fd x (d + 1) z = fd z := fun z hz => by unfold setG; rw [if_neg hz]
 have hkle : ∀ z, (if (fd z).isSome then 1 else 0 : Nat) <= if (setG fd x (d + 1) z).isSome then 1 else 0 := by
  intro z; by_cases hz : z = x
  . rw [hz, hs]
    split <;> simp
  . rw [hne z hz]
    exact znp _
 have hk : zcx nodes fd <= zcx nodes (setG fd x (d + 1)) := zfC _ _ hkle nodes; have hdk : d + 1 < zcx nodes (setG fd x (d + 1)) := by
  cases hfx : fd x with
  | some e =>
   have := hn e hfx; have := h.low x e hfx; omega
  | none =>
   have h1 := h.low y d hd; have h2 : zcx nodes fd < zcx nodes (setG fd x (d + 1)) := zez _ _ hkle nodes x hx (by rw [hs, hfx]; simp)
   omega
 have hN := zgW nodes (setG fd x (d + 1)); refine ⟨⟨?_, fun z e hz => ?_, fun z e hz => ?_⟩, ?_⟩
 . have : t ≠ x := by
    rintro rfl; have := hn 0 h.self; omega
   rw [hne t this, h.self]
 . by_cases hzx : z = x
   . subst hzx
     rw [hs] at hz; cases hz
     exact ⟨y, hy, h.sound y d hd⟩
   . rw [hne z hzx] at hz
     exact h.sound z e hz
 . by_cases hzx : z = x
   . subst hzx
     rw [hs] at hz; cases hz
     exact hdk
   . rw [hne z hzx] at hz
     have := h.low z e hz; omega
 . refine zez _ _ (fun z => ?_) nodes x hx ?_
   . by_cases hz : z = x
     . rw [hz, hs]
       cases hfx : fd x with
       | some e => exact zom (hn e hfx)
       | none => show d + 1 <= nodes.length; omega
     . rw [hne z hz]
       exact znp _
   . show (setG fd x (d + 1) x).getD nodes.length < (fd x).getD nodes.length
     rw [hs]; cases hfx : fd x with
     | some e => exact hn e hfx
     | none => show d + 1 < nodes.length; omega
def zcX (G : zab -> List zab) (fd : zab -> Option Nat) (x : zab) : Prop := ∀ y ∈ G x, ∀ d, fd y = some d -> ∃ e, fd x = some e /\ e <= d + 1
theorem FarInv.is {G : zab -> List zab} {nodes : List zab} {t : zab} {fd : zab -> Option Nat} (h : FarInv G nodes t fd) (hc : ∀ x, zcX G fd x) : IsFar G t fd := zmn h.self h.sound fun x y d hy hd => hc x y hy d hd

def IntIs (w : World) (b n : Nat) (fd : zab -> Option Nat) : Prop := ∃ f, MapIs Tryz.prog 9 w b n f /\ ∀ k, f k = (fd k).map fun d => Value.int .i64 (d : Int)
theorem IntIs.made (w : World) : IntIs (w.alloc (.map #[] 0)) w.heap.size 0 (fun _ => none) := ⟨_, MapIs.made w, fun _ => rfl⟩
theorem IntIs.lt {w : World} {b n : Nat} {g : zab -> Option Nat} (h : IntIs w b n g) : b < w.heap.size := by obtain ⟨f, h, _⟩ := h; exact h.lt
theorem IntIs.below {w w' : World} {b n : Nat} {g : zab -> Option Nat} (h : IntIs w b n g) (hb : Below w.heap.size w w') : IntIs w' b n g := by obtain ⟨f, h, h2⟩ := h; exact ⟨f, h.below hb, h2⟩
theorem IntIs.grown {w w' : World} {b n : Nat} {g : zab -> Option Nat} {row : Option Nat} (h : IntIs w b n g) (hg : w.grownBy w' row) (hne : some b ≠ row) : IntIs w' b n g := by obtain ⟨f, h, h2⟩ := h; exact ⟨f, h.grown hg hne, h2⟩
theorem IntIs.ne_cells {w : World} {b n : Nat} {g : zab -> Option Nat} (h : IntIs w b n g) {a t : Nat} {cs : Array Value} {fr : Nat × Nat} (hg : w.heap[a]? = some (.cells cs t fr)) : b ≠ a := by obtain ⟨f, h, _⟩ := h; exact h.ne_cells hg
theorem IntIs.look2 {w : World} {b n : Nat} {g : zab -> Option Nat} (h : IntIs w b n g) (k : ByteArray) (hs : k.size <= maxLen) :
 (Instr.lookup 162 (.map (some b)) (.string k) true).run Tryz.prog w = .ok (.tuple #[.int .i64 (((g k.data.toList).getD 0 : Nat) : Int), .bool (g k.data.toList).isSome]) w := by
 obtain ⟨f, h, h2⟩ := h; rw [h.look2 Tryz.underlying9 Tryz.underlying162 (Tryz.zeroValue3 w) k hs, h2]; cases g k.data.toList <;> rfl
theorem IntIs.put {w : World} {b n : Nat} {g : zab -> Option Nat} (h : IntIs w b n g) (hn : n < maxLen) (k : ByteArray) (hs : k.size <= maxLen) (v : Nat) :
 ∃ w', (Instr.mapUpdate 162 (.map (some b)) (.string k) (.int .i64 (v : Int))).run Tryz.prog w = .ok () w' /\ IntIs w' b (n + 1) (setG g k.data.toList v) /\ w.grownBy w' (some b) := by
 obtain ⟨f, h, h2⟩ := h; obtain ⟨w', hrun, h', hg⟩ := h.store Tryz.underlying9 Tryz.underlying162 hn k hs (.int .i64 (v : Int)); refine ⟨w', hrun, ⟨_, h', fun x => ?_⟩, hg⟩
 unfold setF setG; split
 . rfl
 . exact h2 x
structure FSt (w : World) (K m n : Nat) (fd : zab -> Option Nat) : Prop where
 c : w.heap[K]? = some (.cells #[.map (some m)] 162 (0, 0))
 e : IntIs w m n fd
theorem FSt.below {w w' : World} {K m n : Nat} {fd : zab -> Option Nat} (h : FSt w K m n fd) (hb : Below w.heap.size w w') : FSt w' K m n fd := ⟨zah h.c hb, h.e.below hb⟩
theorem FSt.grown {w w' : World} {K m n : Nat} {fd : zab -> Option Nat} {row : Option Nat} (h : FSt w K m n fd) (hg : w.grownBy w' row) (h1 : some K ≠ row) (h2 : some m ≠ row) : FSt w' K m n fd := ⟨zaK h.c hg h1, h.e.grown hg h2⟩
theorem FSt.cell {w : World} {K m n : Nat} {fd : zab -> Option Nat} (h : FSt w K m n fd) : w.cell? ⟨K, 0, none⟩ = some (.map (some m)) := (zaa h.c 0).trans rfl
theorem FSt.put {w : World} {K m n : Nat} {fd : zab -> Option Nat} (h : FSt w K m n fd) (hn : n < maxLen) (k : ByteArray) (hs : k.size <= maxLen) (v : Nat) :
 ∃ w', (Instr.mapUpdate 162 (.map (some m)) (.string k) (.int .i64 (v : Int))).run Tryz.prog w = .ok () w' /\ FSt w' K m (n + 1) (setG fd k.data.toList v) /\ w.grownBy w' (some m) := by
 obtain ⟨w', hrun, he, hg⟩ := h.e.put hn k hs v; exact ⟨w', hrun, ⟨zaK h.c hg (by intro e; injection e with e; exact h.e.ne_cells h.c e.symm), he⟩, hg⟩

section
variable {P : Program} {kt et t : TypeId} {w : World} {b n : Nat} {f : zab -> Option Value} {ops : Array Oper} {rest : List Oper} {o : Oper} {a : Act} {Q : Exit -> Act -> World -> Prop}
theorem zlA (hg : o.guard = none) (m : Operand) (hop : o.op = Op.range t m) (hk : P.underlying kt = some .string) (ht : P.underlying t = some (.map kt et)) (hm : a.eval m = .map (some b)) (h : MapIs P kt w b n f)
 (hK : ∀ w' cnt, RangesIs P kt w' b w.heap.size n f (fun k => (f k).isSome) cnt -> cnt <= n -> w.grownBy w' none -> w'.heap.size = w.heap.size + 1 -> wpList P ops Q rest (a.put o.dst (.pointer (some ⟨w.heap.size, 0, none⟩))) w') :
 wpList P ops Q (o :: rest) a w := by
 refine wpList_plain hg fun K' hK' => ?_
 obtain ⟨w', cnt, hrun, r1, r0, r2, r3⟩ := h.range hk ht; unfold Oper.wp; simp [execOp, hop, hm, hrun, Result.andThen]
 exact hK' _ _ (hK w' cnt r1 r0 r2 r3)
theorem zmQ (hg : o.guard = none) (it : Operand) (hop : o.op = Op.next it false) (hk : P.underlying kt = some .string) {r cnt : Nat} {left : zab -> Bool} (hit : a.eval it = .pointer (some ⟨r, 0, none⟩)) (h : RangesIs P kt w b r n f left cnt)
 (hDone : cnt = 0 -> (∀ k, left k = false) -> wpList P ops Q rest (a.put o.dst (.tuple #[.bool false])) w)
 (hMore : ∀ (k : ByteArray) (v : Value) (w' : World) (cnt' : Nat), k.size <= maxLen -> left k.data.toList = true -> f k.data.toList = some v -> RangesIs P kt w' b r n f (fun x => left x && !(x == k.data.toList)) cnt' -> cnt' < cnt -> w.grownBy w' (some r) -> w'.heap.size = w.heap.size ->
  (Instr.entry (.pointer (some ⟨r, 0, none⟩))).run P w' = .ok (.tuple #[.string k, v]) w' -> wpList P ops Q rest (a.put o.dst (.tuple #[.bool true, .string k, v])) w') :
 wpList P ops Q (o :: rest) a w := by
 refine wpList_plain hg fun K' hK' => ?_
 unfold Oper.wp; rcases h.next hk o.type with ⟨h0, hl, hrun⟩ | ⟨k, v, w', cnt', hks, hlk, hf, hrun, hrg, hlt, hgr, hsz, hen⟩
 . simp [execOp, hop, hit, hrun, Result.andThen]
   exact hK' _ _ (hDone h0 hl)
 . simp [execOp, hop, hit, hrun, Result.andThen]
   exact hK' _ _ (hMore k v w' cnt' hks hlk hf hrg hlt hgr hsz hen)
end

theorem zjI : ∀ args w, (callFunc 137 args).run Tryz.prog w = .ok (.enter 137 args) w := Go.Proofs.enters_of Tryz.func137 (by kernel_rfl) rfl
theorem znb (K m n J k : Nat) (fd : zab -> Option Nat) (x : ByteArray) (w : World) (h : FSt w K m n fd) (hJ : w.cell? ⟨J, 0, none⟩ = some (.int .i64 (k : Int))) (hx : x.size <= maxLen) :
 Calls Tryz.prog 137 #[.string x, .pointer (some ⟨K, 0, none⟩), .pointer (some ⟨J, 0, none⟩)] w fun e w' => e = .returned (.bool (fd x.data.toList == some k)) /\ w = w' := by
 have hl := h.e.look2 x hx; have hc := h.cell; clear h; generalize fd x.data.toList = q at hl |-; go_enter Tryz.func137, Tryz.ntmps137
 cases q with
 | none =>
  simp only [zoM, zoa] at hl; go_wp2_with fail; go_ret
  exact ⟨rfl, rfl⟩
 | some d =>
  simp only [zod, zoN] at hl; by_cases hd : d = k
  . subst hd
    go_wp2_with fail; go_ret
    exact ⟨by simp, rfl⟩
  . have hdz : ¬ (d : Int) = (k : Int) := by omega
    go_wp2_with fail; go_ret
    have e1 : ((d : Int) == (k : Int)) = false := by simpa using hdz
    have e2 : (d == k) = false := by simpa using hd
    exact ⟨by simp [e1, e2], rfl⟩

theorem zkg (g : Nat) (lb : Array Value) (eg : ∀ args w, (callFunc g args).run Tryz.prog w = .ok (.enter g args) w) (p : ByteArray -> Bool) (A : Option Addr) (c : Nat) (l : List ByteArray) (w : World) (hl0 : l.length <= 9223372036854775807)
 (hr : Kd.C Kd.string w A l.length l) (hp : ∀ (W : World), Below w.heap.size w W -> ∀ x ∈ l, Calls Tryz.prog g (#[.string x] ++ lb) W fun e w' => e = .returned (.bool (p x)) /\ Below W.heap.size W w') :
 Calls Tryz.prog 76 #[.slice A l.length c, .func (.func g) #[] lb] w fun e w' => ((l.any p = false /\ e = .returned (.int .i64 (-1))) \/ ∃ (i : Nat) (h : i < l.length), e = .returned (.int .i64 i) /\ l.find? p = some l[i]) /\ Below w.heap.size w w' := by
 have hlen : l.length <= 9223372036854775807 := hr.2.1; have HP := znl hp; have HR := znl hr; clear hp hr; go_enter Tryz.func76, Tryz.ntmps76
 go_wp2_with fail; go_loopg [5, 8] l.length (fun gg _ s8 wr => ∃ kk : Nat, kk <= l.length /\ l.length - kk <= gg /\ s8 = .int .i64 kk /\ Aside0 (Below w.heap.size w wr) /\ Aside0 ((l.take kk).any p = false))
 case atStart => exact ⟨0, zn8 _, by omega, rfl, ⟨zno _ _⟩, ⟨rfl⟩⟩
 case round =>
  obtain ⟨kk, hkk, hgk, rfl, HB, HA⟩ := hrel; by_cases hlt : kk < l.length
  . have hltz : (kk : Int) < (l.length : Int) := by omega
    obtain ⟨b, o, rfl, p0⟩ := zbc (Kd.C_below HR.out HB.out) kk hlt; have hS : (l.take (kk + 1)).any p = ((l.take kk).any p || p l[kk]) := by rw [znO hlt, List.any_append]; simp
    rw [HA.out, Bool.false_or] at hS; have hfind : p l[kk] = true -> l.find? p = some l[kk] := fun h => by
     have e : l = l.take kk ++ (l[kk] :: l.drop (kk + 1)) := by rw [<- List.drop_eq_getElem_cons hlt, zoL]
     have h0 : (l.take kk).find? p = none := by
      rw [zoR]; intro x hx hpx; have := HA.out; rw [zoP] at this; exact this x hx hpx
     have e2 : l.find? p = (l.take kk ++ (l[kk] :: l.drop (kk + 1))).find? p := congrArg (List.find? p) e; rw [e2, List.find?_append, h0, List.find?_cons, h]; rfl
    have hcall := HP.out wr HB.out l[kk] (zoy hlt); have HS := znl hS; have HFi := znl hfind; generalize hpk : p l[kk] = q at hcall HS HFi; generalize hxk : l[kk] = x at p0 hcall; clear hS hfind hpk; cases q with
    | true =>
     have HFi2 := znl (HFi.out rfl); have HX2 := znl hxk; clear hxk; go_wp2_with (first | (go_at_fn g; refine hcall.mono ?_; rintro e w2 ⟨rfl, hb2⟩; have HB2 := znl (zad HB.out HB.out.size hb2); clear hb2))
     go_ret
     exact ⟨.inr ⟨kk, hlt, rfl, HFi2.out⟩, HB2.out⟩
    | false =>
     clear hxk; go_wp2_with (first | (go_at_fn g; refine hcall.mono ?_; rintro e w2 ⟨rfl, hb2⟩; have HB2 := znl (zad HB.out HB.out.size hb2); clear hb2))
     go_roundg (l.length - (kk + 1))
     case measure => omega
     case rel => exact ⟨kk + 1, by omega, by omega, by first | rfl | go_num, ⟨HB2.out⟩, ⟨HS.out⟩⟩
  . have hltz : ¬ (kk : Int) < (l.length : Int) := by omega
    obtain rfl : kk = l.length := by omega
    have hA := HA.out; rw [zn1] at hA; have HA2 := znl hA; clear hA; go_wp2_with fail; go_ret
    exact ⟨.inl ⟨by first | exact HA2.out | (intro x hx; simpa using zoP.1 HA2.out x hx), rfl⟩, HB.out⟩

def zaR (g : zab -> Option (List ByteArray)) : zab -> List zab := fun x => zac ((g x).getD [])
def zdj (b : Option Nat) : Int := match b with
 | none => -1
 | some k => k
def zfe (o : Option (List zab)) (w : World) (e : Ending) (w' : World) : Prop := ∃ v, e = .returned v /\ (match o with
 | none => v = .slice none 0 0
 | some l => ∃ r, zac r = l /\ RS w' w.heap.size v r) /\ Below w.heap.size w w'
structure NeedsAt (w : World) (b n : Nat) (g : zab -> Option (List ByteArray)) (nodes : List zab) (f : zab -> Option Value) : Prop where
 m : MapIs Tryz.prog 9 w b n f
 same : ∀ k, (f k).isSome = (g k).isSome
 row : ∀ k v l, f k = some v -> g k = some l -> zhp w v l
 inN : ∀ k l, g k = some l -> k ∈ nodes /\ l.length <= 2000 /\ ∀ y ∈ l, y.size <= maxLen
 few : nodes.length <= 1000
theorem NeedsAt.get {w : World} {b n : Nat} {g : zab -> Option (List ByteArray)} {nodes : List zab} {f : zab -> Option Value} (h : NeedsAt w b n g nodes f) {k : zab} {v : Value} (hv : f k = some v) : ∃ l A c, g k = some l /\ v = .slice A l.length c /\ Kd.C Kd.string w A l.length l /\ k ∈ nodes /\ l.length <= 2000 /\ ∀ y ∈ l, y.size <= maxLen := by
 have := h.same k; rw [hv] at this; cases hg : g k with
 | none => rw [hg] at this; cases this
 | some l =>
  obtain ⟨A, c, e, hC⟩ := h.row k v l hv hg; obtain ⟨i1, i2, i3⟩ := h.inN k l hg; exact ⟨l, A, c, rfl, e, hC, i1, i2, i3⟩
theorem NeedsAt.getG {w : World} {b n : Nat} {g : zab -> Option (List ByteArray)} {nodes : List zab} {f : zab -> Option Value} (h : NeedsAt w b n g nodes f) {k : zab} {l : List ByteArray} (hv : g k = some l) : ∃ A c, f k = some (.slice A l.length c) /\ Kd.C Kd.string w A l.length l := by
 have := h.same k; rw [hv] at this; cases hf : f k with
 | none => rw [hf] at this; cases this
 | some v =>
  obtain ⟨A, c, e, hC⟩ := h.row k v l hf hv; exact ⟨A, c, by rw [e], hC⟩
structure BSt (g : zab -> Option (List ByteArray)) (nodes : List zab) (t : zab) (w : World) (K m : Nat) (fd : zab -> Option Nat) (w0 : World) : Prop where
 inv : FarInv (zaR g) nodes t fd
 st : ∃ n, FSt w K m n fd /\ n + phiN nodes fd <= 1000001
 b : Below w0.heap.size w0 w
theorem BSt.below {g : zab -> Option (List ByteArray)} {nodes : List zab} {t : zab} {w w' : World} {K m : Nat} {fd : zab -> Option Nat} {w0 : World} (h : BSt g nodes t w K m fd w0) (hb : Below w.heap.size w w') : BSt g nodes t w' K m fd w0 := by
 obtain ⟨n, hs, hn⟩ := h.st; exact ⟨h.inv, ⟨n, hs.below hb, hn⟩, zad h.b h.b.size hb⟩
theorem BSt.grown {g : zab -> Option (List ByteArray)} {nodes : List zab} {t : zab} {w w' : World} {K m r : Nat} {fd : zab -> Option Nat} {w0 : World} (h : BSt g nodes t w K m fd w0) (hg : w.grownBy w' (some r)) (h1 : K ≠ r) (h2 : m ≠ r) (h3 : w0.heap.size <= r) : BSt g nodes t w' K m fd w0 := by
 obtain ⟨n, hs, hn⟩ := h.st; exact ⟨h.inv, ⟨n, hs.grown hg (by intro e; injection e with e; exact h1 e) (by intro e; injection e with e; exact h2 e), hn⟩, h.b.grown hg h.b.size (fun k hk => by cases hk; exact h3)⟩
theorem BSt.put {g : zab -> Option (List ByteArray)} {nodes : List zab} {t y : zab} {w : World} {K m d : Nat} {fd : zab -> Option Nat} {w0 : World} (h : BSt g nodes t w K m fd w0) (hm : w0.heap.size <= m) (x : ByteArray) (hs : x.size <= maxLen) (hx : x.data.toList ∈ nodes) (hy : y ∈ zaR g x.data.toList) (hd : fd y = some d) (hn : ∀ e, fd x.data.toList = some e -> d + 1 < e) :
 ∃ w', (Instr.mapUpdate 162 (.map (some m)) (.string x) (.int .i64 ((d : Int) + 1))).run Tryz.prog w = .ok () w' /\ BSt g nodes t w' K m (setG fd x.data.toList (d + 1)) w0 /\ phiN nodes (setG fd x.data.toList (d + 1)) < phiN nodes fd /\ w.grownBy w' (some m) := by
 obtain ⟨n, hst, hsn⟩ := h.st; obtain ⟨hi, hphi⟩ := h.inv.put hx hy hd hn; obtain ⟨w', hrun, hst', hg⟩ := hst.put (by unfold maxLen; omega) x hs (d + 1)
 exact ⟨w', hrun, ⟨hi, ⟨n + 1, hst', by omega⟩, h.b.grown hg h.b.size (fun k hk => by cases hk; exact hm)⟩, hphi, hg⟩
theorem BSt.grownL {g : zab -> Option (List ByteArray)} {nodes : List zab} {t : zab} {w w' : World} {K m L : Nat} {row : Option Nat} {fd : zab -> Option Nat} {w0 : World} (h : BSt g nodes t w K m fd w0) (hg : w.grownBy w' row) (hr : ∀ k, row = some k -> L <= k) (h1 : K < L) (h2 : m < L) (h3 : w0.heap.size <= L) : BSt g nodes t w' K m fd w0 := by
 obtain ⟨n, hs, hn⟩ := h.st; exact ⟨h.inv, ⟨n, hs.grown hg (fun e => by have := hr K e.symm; omega) (fun e => by have := hr m e.symm; omega), hn⟩, h.b.grown hg h.b.size (fun k hk => by have := hr k hk; omega)⟩
def JAt (w : World) (J : Nat) (v : Int) : Prop := w.heap[J]? = some (.cells #[.int .i64 v] 3 (0, 0))
theorem BSt.set {g : zab -> Option (List ByteArray)} {nodes : List zab} {t : zab} {w : World} {K m J : Nat} {v : Int} {fd : zab -> Option Nat} {w0 : World} (h : BSt g nodes t w K m fd w0) (hJ : JAt w J v) (hne : K < J) (h3 : w0.heap.size <= J) (u : Value) : BSt g nodes t (w.setCell ⟨J, 0, none⟩ u) K m fd w0 := by
 obtain ⟨n, ⟨hc, f, hM, hf⟩, hn⟩ := h.st; exact ⟨h.inv, ⟨n, ⟨zaI hc (p := ⟨J, 0, none⟩) (show K ≠ J by omega) u, f, hM.kept (Below.heap_setCell w ⟨J, 0, none⟩ u m (hM.ne_cells hJ)), hf⟩, hn⟩, h.b.setCell (p := ⟨J, 0, none⟩) h3 u⟩
theorem JAt.set {w : World} {J : Nat} {v : Int} (h : JAt w J v) (v' : Int) : JAt (w.setCell ⟨J, 0, none⟩ (.int .i64 v')) J v' := zar h 0 _ rfl
theorem JAt.cell {w : World} {J : Nat} {v : Int} (h : JAt w J v) : w.cell? ⟨J, 0, none⟩ = some (.int .i64 v) := (zaa h 0).trans rfl
theorem zil (far : zab -> Option Nat) (l : List zab) (y : zab) : zbG far (l ++ [y]) = zbx (zbG far l) (far y) := by
 unfold zbG; rw [List.foldl_append]; rfl
theorem NeedsAt.look {w W : World} {b n : Nat} {g : zab -> Option (List ByteArray)} {nodes : List zab} {f : zab -> Option Value} (h : NeedsAt w b n g nodes f) (hB : Below w.heap.size w W) (k : ByteArray) (hs : k.size <= maxLen) {v : Value} (hf : f k.data.toList = some v) :
 (Instr.lookup 125 (.map (some b)) (.string k) false).run Tryz.prog W = .ok v W := by
 rw [(h.m.below hB).look Tryz.underlying9 Tryz.underlying125 (Tryz.zeroValue22 W) k hs, hf]; rfl
def ClosedTo (fd : zab -> Option Nat) (x : zab) (l : List zab) : Prop := ∀ y ∈ l, ∀ d, fd y = some d -> ∃ e, fd x = some e /\ e <= d + 1
theorem ClosedTo.snoc {fd : zab -> Option Nat} {x y : zab} {l : List zab} (h : ClosedTo fd x l) (hy : ∀ d, fd y = some d -> ∃ e, fd x = some e /\ e <= d + 1) : ClosedTo fd x (l ++ [y]) := by
 intro z hz; rcases List.mem_append.1 hz with hz | hz
 . exact h z hz
 . rw [zoF.1 hz]
   exact hy
theorem zhz (l : List ByteArray) (j : Nat) (h : j < l.length) : zac (l.take (j + 1)) = zac (l.take j) ++ [l[j].data.toList] := by
 rw [znO h]; unfold zac; rw [zoc]; rfl
theorem ziF (b n : Nat) (g : zab -> Option (List ByteArray)) (nodes : List zab) (f : zab -> Option Value) (t : ByteArray) (w : World) (hA : NeedsAt w b n g nodes f) (ht : (g t.data.toList).isSome = true) (hts : t.size <= maxLen) :
 Calls Tryz.prog 106 #[.map (some b), .string t] w fun e w' => ∃ far, IsFar (zaR g) t.data.toList far /\ zfe (wayF (zaR g) far t.data.toList) w e w' := by
 obtain ⟨l0, hl0⟩ := Option.isSome_iff_exists.1 ht; obtain ⟨htn, h0n, h0s⟩ := hA.inN _ _ hl0; have hmm := @run_makeMap Tryz.prog; obtain ⟨w1, hrun', hI1, hg1⟩ := (IntIs.made w).put (by unfold maxLen; omega) t hts 0
 have hrun : (Instr.mapUpdate 162 (.map (some w.heap.size)) (.string t) (.int .i64 0)).run Tryz.prog (w.alloc (.map #[] 0)) = .ok () w1 := hrun'; have hB1 := ((zno w.heap.size w).alloc (znp _) (.map #[] 0)).grown hg1 ((zno w.heap.size w).alloc (znp _) (.map #[] 0)).size (fun k hk => by cases hk; exact znp _)
 have hlt1 : w.heap.size < w1.heap.size := hI1.lt; have HB2 := znl (hB1.alloc hB1.size (.cells #[.map (some w.heap.size)] 162)); have hb2 := (zno w1.heap.size w1).alloc (znp _) (.cells #[.map (some w.heap.size)] 162); have HF2 : Hid (FSt (w1.alloc (.cells #[.map (some w.heap.size)] 162)) w1.heap.size w.heap.size 1 (setG (fun _ => none) t.data.toList 0)) := znl ⟨zao w1 _, hI1.below hb2⟩
 have HI := znl (FarInv.init (zaR g) htn); have HA := znl hA; have HTS := znl hts; have HBm := znl hA.m.lt; have H00 := znl hl0; have H0s := znl h0s; have HP0 : Hid (1 + phiN nodes (setG (fun _ => none) t.data.toList 0) <= 1000001) := znl (by
  have h1 := HI.out.phi; have h2 : nodes.length * nodes.length <= 1000 * 1000 := Nat.mul_le_mul hA.few hA.few; omega)
 clear hrun' hI1 hg1 hB1 hb2 hA hts hl0 h0s ht htn; go_enter Tryz.func106, Tryz.ntmps106
 go_upto_region 2 with fail; generalize hK : w1.heap.size = K at hlt1 HF2 |-; generalize w1.alloc (.cells #[.map (some w.heap.size)] 162) = w2 at HB2 HF2 |-; clear hK hrun; go_wp2_with fail; go_loopg [6, 7, 8, 10, 11, 12, 13, 14] (phiN nodes (setG (fun _ => none) t.data.toList 0) + 1) (fun gg s6 _ _ _ _ _ _ _ wr => ∃ fd td, s6 = .bool td /\ (td = true -> phiN nodes fd + 1 <= gg) /\ Aside0 (BSt g nodes t.data.toList wr K w.heap.size fd w) /\ Aside0 (td = false -> ∀ x, zcX (zaR g) fd x))
 case atStart => exact ⟨_, true, rfl, fun _ => znp _, ⟨⟨HI.out, ⟨1, HF2.out, HP0.out⟩, HB2.out⟩⟩, ⟨fun h => by cases h⟩⟩
 case round =>
  obtain ⟨fd, td, rfl, hgk, HS, HC⟩ := hrel; obtain ⟨wq, rfl⟩ : ∃ wq, wq = wr := ⟨wr, rfl⟩; cases td with
  | true =>
   have hgk := hgk rfl; have HMb := znl (HA.out.m.below HS.out.b); have HKq : Hid (K < wq.heap.size) := by obtain ⟨_, h, _⟩ := HS.out.st; exact znl (za1 h.c)
   clear hmm; go_wp2_with (first | (at_range; refine zlA rfl _ rfl Tryz.underlying9 Tryz.underlying125 rfl HMb.out ?_; intro w3 cnt hrg hcn hg3 hs3; have HRg := znl hrg; have HG3 := znl hg3; clear hrg hg3))
   go_loopg [6, 7, 8, 10, 11, 12, 13, 14] cnt (fun gg s6 _ _ _ _ _ _ _ wr => ∃ fd' td left cn, cn <= gg /\ s6 = .bool td /\ phiN nodes fd' <= phiN nodes fd /\ (td = true -> phiN nodes fd' + 1 <= phiN nodes fd) /\ Aside0 (RangesIs Tryz.prog 9 wr b wq.heap.size n f left cn) /\ Aside0 (BSt g nodes t.data.toList wr K w.heap.size fd' w) /\ Aside0 (td = false -> ∀ x, left x = false -> zcX (zaR g) fd' x))
   case atStart => exact ⟨fd, false, _, cnt, znp _, rfl, znp _, (fun h => by cases h), ⟨HRg.out⟩, ⟨HS.out.below ((zno wq.heap.size wq).grown HG3.out (znp _) (fun k hk => by cases hk))⟩, ⟨fun _ x hx y hy => by
    exfalso
    have h1 := HA.out.same x; cases hgx : g x with
    | none => unfold zaR at hy; rw [hgx] at hy; exact absurd hy (by simp [zac])
    | some l => rw [hgx, hx] at h1; cases h1⟩⟩
   case round =>
    obtain ⟨fd2, td2, left, cn, hcn2, rfl, hph, hpt, HR, HS2, HC2⟩ := hrel; obtain ⟨wp, rfl⟩ : ∃ wp, wp = wr := ⟨wr, rfl⟩; go_wp2_with (first | (at_next; refine zmQ rfl _ rfl Tryz.underlying9 rfl HR.out ?_ ?_ <;> first | (intro hc0 hl0; have HL0 : Hid (∀ k, left k = false) := znl hl0; clear hl0) | (intro kx vx w4 cn4 hks hlk hfv hrg4 hlt4 hg4 hs4 hen; obtain ⟨l, A, c, hgl, rfl, hC, hxn, hln, hls⟩ := HA.out.get hfv; have HR4 := znl hrg4; have HG4 := znl hg4; have HC4 := znl hC; have HXn := znl hxn; have HLs := znl hls; have HGl := znl hgl; have HLk := znl hlk; clear hlk hfv hrg4 hg4 hC hxn hls hgl)))
    . go_roundg (if td2 = true then phiN nodes fd2 + 1 else 0)
      case measure => cases td2 with
       | true => have := hpt rfl; simp; omega
       | false => simp; omega
      case rel => exact ⟨fd2, td2, rfl, (fun h => by rw [h, if_pos rfl]; exact znp _), ⟨HS2.out⟩, ⟨fun h x => HC2.out h x (HL0.out x)⟩⟩
    . have HS4 := znl (HS2.out.grown HG4.out (by have := HKq.out; omega) (by have := HKq.out; omega) (by have := HKq.out; omega))
      have HC40 := znl (Kd.C_below HC4.out HS4.out.b); clear HS2 HR; go_wp2_with fail; go_loopg [6, 10, 11, 12, 13, 14, 36] l.length (fun gg s6 _ _ _ _ _ s36 wi => ∃ (j : Nat) (fd3 : zab -> Option Nat) (td3 : Bool), j <= l.length /\ l.length - j <= gg /\ s36 = .int .i64 j /\ s6 = .bool td3 /\ phiN nodes fd3 <= phiN nodes fd /\ (td3 = true -> phiN nodes fd3 + 1 <= phiN nodes fd) /\ Aside0 (RangesIs Tryz.prog 9 wi b wq.heap.size n f (fun x => left x && !x == kx.data.toList) cn4) /\ Aside0 (BSt g nodes t.data.toList wi K w.heap.size fd3 w) /\ Aside0 (td3 = false -> (∀ x, left x = false -> zcX (zaR g) fd3 x) /\ ClosedTo fd3 kx.data.toList (zac (l.take j))))
      case atStart => exact ⟨0, fd2, td2, zn8 _, by omega, rfl, rfl, hph, hpt, ⟨HR4.out⟩, ⟨HS4.out⟩, ⟨fun h => ⟨HC2.out h, fun y hy => by cases hy⟩⟩⟩
      case round =>
       obtain ⟨j, fd3, td3, hj, hgj, rfl, rfl, hph3, hpt3, HRi, HSi, HCi⟩ := hrel; by_cases hlj : j < l.length
       . have hljz : (j : Int) < (l.length : Int) := by omega
         obtain ⟨b5, o5, rfl, n0⟩ := zbc (Kd.C_below HC4.out HSi.out.b) j hlj; obtain ⟨n5, hst5, hn5⟩ := HSi.out.st; have hcell := hst5.cell; have hly := hst5.e.look2 l[j] (HLs.out _ (zoy hlj)); have hlx := hst5.e.look2 kx hks; have HSn := znl (zhz l j hlj); have HGx : Hid (zaR g kx.data.toList = zac l) := znl (by unfold zaR; rw [HGl.out]; rfl)
         have HMy : Hid (l[j].data.toList ∈ zaR g kx.data.toList) := znl (by rw [HGx.out, <- zcD l j hlj]; exact zoy _)
         have HTo : Hid ((∀ d, fd3 l[j].data.toList = some d -> ∃ e, fd3 kx.data.toList = some e /\ e <= d + 1) -> td3 = false -> (∀ x, left x = false -> zcX (zaR g) fd3 x) /\ ClosedTo fd3 kx.data.toList (zac (l.take (j + 1)))) := znl (fun h htd => ⟨(HCi.out htd).1, by rw [HSn.out]; exact (HCi.out htd).2.snoc h⟩)
         have hew : @Below w.heap.size w wr := HSi.out.b; clear hst5 hn5; generalize hyy : l[j] = y at n0 hly HMy HTo; clear hyy; cases hfy : fd3 y.data.toList with
         | none =>
          have HTo2 := znl (HTo.out (fun d h => by rw [hfy] at h; cases h))
          rw [hfy] at hly; simp only [zoM, zoa] at hly; generalize (fd3 kx.data.toList).getD 0 = dx at hlx; generalize (fd3 kx.data.toList).isSome = ix at hlx; clear hfy HTo; go_wp2_with fail; go_roundg (l.length - (j + 1))
          case measure => omega
          case rel => exact ⟨j + 1, fd3, td3, by omega, by omega, by first | rfl | go_num, rfl, hph3, hpt3, ⟨HRi.out⟩, ⟨HSi.out⟩, ⟨HTo2.out⟩⟩
         | some d =>
          have hdl := HSi.out.inv.lt hfy; have hfew := HA.out.few; have hd1 : d <= 1000 := by omega
          rw [hfy] at hly; simp only [zod, zoN] at hly; cases hfx : fd3 kx.data.toList with
          | none =>
           obtain ⟨w6, hrun, hS6, hph6, hg6⟩ := HSi.out.put (znp _) kx hks HXn.out HMy.out hfy (fun e he => by rw [hfx] at he; cases he)
           rw [hfx] at hlx; simp only [zoM, zoa] at hlx; have hne := HKq.out; have HR6 := znl (HRi.out.kept hg6 (by have := HBm.out; intro e; injection e with e; omega) (by intro e; injection e with e; omega))
           have HS6 := znl hS6; have hph6' : phiN nodes (setG fd3 kx.data.toList (d + 1)) + 1 <= phiN nodes fd := by omega
           have HP6 := znl hph6'; clear hfx hfy hS6 hg6 hph6 hph6' hne; go_wp2_with fail; go_roundg (l.length - (j + 1))
           case measure => omega
           case rel => exact ⟨j + 1, _, true, by omega, by omega, by first | rfl | go_num, rfl, by have := HP6.out; omega, fun _ => HP6.out, ⟨HR6.out⟩, ⟨HS6.out⟩, ⟨fun h => by cases h⟩⟩
          | some e =>
           have hel := HSi.out.inv.lt hfx; have he1 : e <= 1000 := by omega
           rw [hfx] at hlx; simp only [zod, zoN] at hlx; by_cases hde : d + 1 < e
           . have hdez : (d : Int) + 1 < (e : Int) := by omega
             obtain ⟨w6, hrun, hS6, hph6, hg6⟩ := HSi.out.put (znp _) kx hks HXn.out HMy.out hfy (fun e2 he => by rw [hfx] at he; cases he; exact hde)
             have hne := HKq.out; have HR6 := znl (HRi.out.kept hg6 (by have := HBm.out; intro e; injection e with e; omega) (by intro e; injection e with e; omega))
             have HS6 := znl hS6; have hph6' : phiN nodes (setG fd3 kx.data.toList (d + 1)) + 1 <= phiN nodes fd := by omega
             have HP6 := znl hph6'; clear hfx hfy hS6 hg6 hph6 hph6' hne; go_wp2_with fail; go_roundg (l.length - (j + 1))
             case measure => omega
             case rel => exact ⟨j + 1, _, true, by omega, by omega, by first | rfl | go_num, rfl, by have := HP6.out; omega, fun _ => HP6.out, ⟨HR6.out⟩, ⟨HS6.out⟩, ⟨fun h => by cases h⟩⟩
           . have hdez : ¬ (d : Int) + 1 < (e : Int) := by omega
             have HTo2 := znl (HTo.out (fun d2 h => by rw [hfy] at h; cases h; exact ⟨e, hfx, by omega⟩))
             clear hfx hfy HTo; go_wp2_with fail; go_roundg (l.length - (j + 1))
             case measure => omega
             case rel => exact ⟨j + 1, fd3, td3, by omega, by omega, by first | rfl | go_num, rfl, hph3, hpt3, ⟨HRi.out⟩, ⟨HSi.out⟩, ⟨HTo2.out⟩⟩
       . have hljz : ¬ (j : Int) < (l.length : Int) := by omega
         obtain rfl : j = l.length := by omega
         have HCx : Hid (td3 = false -> ∀ x, (left x && !x == kx.data.toList) = false -> zcX (zaR g) fd3 x) := znl (fun htd x hx => by
          obtain ⟨h1, h2⟩ := HCi.out htd; rw [zn1] at h2; by_cases hxk : x = kx.data.toList
          . rw [hxk]
            unfold zcX zaR; rw [HGl.out]; exact h2
          . exact h1 x (by simpa [hxk] using hx))
         go_wp2_with fail; go_roundg cn4
         case measure => omega
         case rel => exact ⟨fd3, td3, _, cn4, znp _, rfl, hph3, hpt3, ⟨HRi.out⟩, ⟨HSi.out⟩, ⟨HCx.out⟩⟩
  | false =>
   obtain ⟨A0, c0, hf0, hC0⟩ := HA.out.getG H00.out; have HFar := znl (HS.out.inv.is (HC.out rfl)); have HC00 := znl hC0; have hlen0 : l0.length <= 2000 := h0n; have hKq : K < wq.heap.size := by obtain ⟨_, h, _⟩ := HS.out.st; exact za1 h.c
   have hb4 := (zno wq.heap.size wq).alloc (znp _) (.cells #[.int .i64 (-1)] 3); have HS4 := znl (HS.out.below hb4); have HJ4 : Hid (JAt (wq.alloc (.cells #[.int .i64 (-1)] 3)) wq.heap.size (-1)) := znl (zao wq _); have hlk := HA.out.look HS4.out.b t HTS.out hf0; have hsq := HS.out.b.size; clear hC0 hb4 hmm; go_upto_region 18 with fail; generalize hJ : wq.heap.size = J at HJ4 hKq hsq |-; generalize wq.alloc (.cells #[.int .i64 (-1)] 3) = w4 at HS4 HJ4 hlk |-; clear hJ; go_wp2_with fail; go_loopg [17, 18, 19, 72] l0.length (fun gg _ _ _ s72 wi => ∃ j : Nat, j <= l0.length /\ l0.length - j <= gg /\ s72 = .int .i64 j /\ Aside0 (BSt g nodes t.data.toList wi K w.heap.size fd w) /\ Aside0 (JAt wi J (zdj (zbG fd (zac (l0.take j))))))
   case atStart => exact ⟨0, zn8 _, by omega, rfl, ⟨HS4.out⟩, ⟨HJ4.out⟩⟩
   case round =>
    obtain ⟨j, hj, hgj, rfl, HSi, HJi⟩ := hrel; by_cases hlj : j < l0.length
    . have hljz : (j : Int) < (l0.length : Int) := by omega
      obtain ⟨b5, o5, rfl, n0⟩ := zbc (Kd.C_below HC00.out HSi.out.b) j hlj; obtain ⟨n5, hst5, hn5⟩ := HSi.out.st; have hcell := hst5.cell; have hly := hst5.e.look2 l0[j] (H0s.out _ (zoy hlj)); have hsn := zil fd (zac (l0.take j)) l0[j].data.toList; rw [<- zhz l0 j hlj] at hsn; have HSn := znl hsn; have hjc := HJi.out.cell; have hjf := zag HJi.out 0; clear hst5 hn5 hsn; generalize zbG fd (zac (l0.take j)) = bo at HSn hjc HJi; generalize l0[j] = y at n0 hly HSn; cases hfy : fd y.data.toList with
      | none =>
       rw [hfy] at hly HSn; simp only [zoM, zoa] at hly; have HJn : Hid (JAt wr J (zdj (zbG fd (zac (l0.take (j + 1)))))) := znl (by rw [HSn.out]; cases bo <;> exact HJi.out)
       generalize zdj bo = bi at hjc; clear hfy; go_wp2_with fail; go_roundg (l0.length - (j + 1))
       case measure => omega
       case rel => exact ⟨j + 1, by omega, by omega, by first | rfl | go_num, ⟨HSi.out⟩, ⟨HJn.out⟩⟩
      | some d =>
       have hdl := HSi.out.inv.lt hfy; have hfew := HA.out.few; have hd1 : d <= 1000 := by omega
       rw [hfy] at hly HSn; simp only [zod, zoN] at hly; clear hfy; cases bo with
       | none =>
        replace hjc : wr.cell? ⟨J, 0, none⟩ = some (.int .i64 (-1)) := hjc
        have HSx := znl (HSi.out.set HJi.out hKq hsq (.int .i64 (d : Int))); have HJx : Hid (JAt (wr.setCell ⟨J, 0, none⟩ (.int .i64 (d : Int))) J (zdj (zbG fd (zac (l0.take (j + 1)))))) := znl (by have h := HJi.out.set (d : Int); rw [HSn.out]; exact h)
        go_wp2_with fail; generalize wr.setCell ⟨J, 0, none⟩ (.int .i64 (d : Int)) = w6 at HSx HJx |-; go_roundg (l0.length - (j + 1))
        case measure => omega
        case rel => exact ⟨j + 1, by omega, by omega, by first | rfl | go_num, ⟨HSx.out⟩, ⟨HJx.out⟩⟩
       | some e =>
        replace hjc : wr.cell? ⟨J, 0, none⟩ = some (.int .i64 (e : Int)) := hjc
        have he0 : ¬ (e : Int) < 0 := by omega
        by_cases hde : d < e
        . have hdez : (d : Int) < (e : Int) := by omega
          have hbo : zbx (some e) (some d) = some d := by unfold zbx; dsimp only; rw [if_pos hde]
          rw [hbo] at HSn; clear hbo; have HSx := znl (HSi.out.set HJi.out hKq hsq (.int .i64 (d : Int))); have HJx : Hid (JAt (wr.setCell ⟨J, 0, none⟩ (.int .i64 (d : Int))) J (zdj (zbG fd (zac (l0.take (j + 1)))))) := znl (by have h := HJi.out.set (d : Int); rw [HSn.out]; exact h)
          go_wp2_with fail; generalize wr.setCell ⟨J, 0, none⟩ (.int .i64 (d : Int)) = w6 at HSx HJx |-; go_roundg (l0.length - (j + 1))
          case measure => omega
          case rel => exact ⟨j + 1, by omega, by omega, by first | rfl | go_num, ⟨HSx.out⟩, ⟨HJx.out⟩⟩
        . have hdez : ¬ (d : Int) < (e : Int) := by omega
          have hbo : zbx (some e) (some d) = some e := by unfold zbx; dsimp only; rw [if_neg hde]
          rw [hbo] at HSn; have HJn : Hid (JAt wr J (zdj (zbG fd (zac (l0.take (j + 1)))))) := znl (by rw [HSn.out]; exact HJi.out)
          clear hbo; go_wp2_with fail; go_roundg (l0.length - (j + 1))
          case measure => omega
          case rel => exact ⟨j + 1, by omega, by omega, by first | rfl | go_num, ⟨HSi.out⟩, ⟨HJn.out⟩⟩
    . have hljz : ¬ (j : Int) < (l0.length : Int) := by omega
      obtain rfl : j = l0.length := by omega
      have hJi := HJi.out; rw [zn1] at hJi; have HBo : Hid (zbG fd (zaR g t.data.toList) = zbG fd (zac l0)) := znl (by unfold zaR; rw [H00.out]; rfl)
      cases hbo : zbG fd (zac l0) with
      | none =>
       rw [hbo] at hJi HBo; have hjc : wr.cell? ⟨J, 0, none⟩ = some (.int .i64 (-1)) := hJi.cell; have HW : Hid (wayF (zaR g) fd t.data.toList = none) := znl (by unfold wayF; rw [HBo.out])
       clear hbo; go_wp2_with fail; go_ret
       exact ⟨fd, HFar.out, _, rfl, by rw [HW.out]; rfl, HSi.out.b⟩
      | some k =>
       rw [hbo] at hJi HBo; obtain ⟨⟨yb, hyb, hkb⟩, _⟩ := zfV hbo; have hkl := HSi.out.inv.lt hkb; have hfew := HA.out.few; have hk1 : k <= 1000 := by omega
       have hjc : wr.cell? ⟨J, 0, none⟩ = some (.int .i64 (k : Int)) := hJi.cell; have hk0 : ¬ (k : Int) < 0 := by omega
       have HW : Hid (wayF (zaR g) fd t.data.toList = some (t.data.toList :: zck (zaR g) fd k t.data.toList)) := znl (by unfold wayF; rw [HBo.out])
       have hb5 := (zno wr.heap.size wr).alloc (znp _) (.cells #[.string t] 9); have HR5 := znl (zgT wr wr.heap.size t (znp _)); have HS5 := znl (HSi.out.below hb5); have HJ5 : Hid (JAt (wr.alloc (.cells #[.string t] 9)) J k) := znl (zah hJi hb5); have hJL : J < wr.heap.size := za1 hJi; have hL5 := hb5.size; clear hbo hyb hkb hb5 hlk hJi; go_upto_region 28 with fail; generalize hL : wr.heap.size = L at HR5 hJL hL5 |-; generalize wr.alloc (.cells #[.string t] 9) = w5 at HR5 HS5 HJ5 hL5 |-; clear hL hjc hk0; go_wp2_with fail; go_loopg [20, 21, 22] k (fun gg s20 s21 _ wi => ∃ (kk : Nat) (y : ByteArray) (r : List ByteArray), kk <= gg /\ kk <= 1000 /\ r.length + kk <= 1001 /\ s21 = .string y /\ L <= wi.heap.size /\ Aside0 (RS wi L s20 r) /\ Aside0 (BSt g nodes t.data.toList wi K w.heap.size fd w) /\ Aside0 (JAt wi J kk) /\ Aside0 (zeG (zaR g) fd t.data.toList kk y.data.toList) /\ Aside0 (y.size <= maxLen) /\ Aside0 (zac r ++ zck (zaR g) fd kk y.data.toList = t.data.toList :: zck (zaR g) fd k t.data.toList))
       case atStart => exact ⟨k, t, [t], znp _, hk1, by simp; omega, rfl, hL5, ⟨HR5.out⟩, ⟨HS5.out⟩, ⟨HJ5.out⟩, ⟨.inl ⟨rfl, HBo.out⟩⟩, ⟨HTS.out⟩, ⟨rfl⟩⟩
       case round =>
        obtain ⟨kk, y, r, hkg, hkk, hrk, rfl, hLi, HR, HSj, HJj, HOn, HYs, HE⟩ := hrel; cases kk with
        | zero =>
         have hjc : wr.cell? ⟨J, 0, none⟩ = some (.int .i64 0) := HJj.out.cell; go_wp2_with fail; go_ret
         exact ⟨fd, HFar.out, _, rfl, by
          rw [HW.out]; refine ⟨r, ?_, Kd.R_lower HR.out (by have := HS5.out.b.size; omega)⟩
          have h := HE.out; rw [show zck (zaR g) fd 0 y.data.toList = [] from rfl, List.append_nil] at h
          exact h, HSj.out.b⟩
        | succ kk =>
         obtain ⟨y2, hfi, hy2, hk2, hst, hon2⟩ := zmb HFar.out HOn.out; have hgy : ∃ l, g y.data.toList = some l := by
          cases h : g y.data.toList with
          | some l => exact ⟨l, rfl⟩
          | none => unfold zaR at hy2; rw [h] at hy2; exact absurd hy2 (by simp [zac])
         obtain ⟨l, hgl⟩ := hgy; obtain ⟨A, c, hf, hC⟩ := HA.out.getG hgl; obtain ⟨_, hln, hls⟩ := HA.out.inN _ _ hgl; have hGy : zaR g y.data.toList = zac l := by unfold zaR; rw [hgl]; rfl
         have hC5 := Kd.C_below hC HSj.out.b; have hk1i : ((kk + 1 : Nat) : Int) = (kk : Int) + 1 := by omega
         have hIx := zkg 137 #[.pointer (some ⟨K, 0, none⟩), .pointer (some ⟨J, 0, none⟩)] zjI (fun x => fd x.data.toList == some (kk + 1)) A c l wr (by omega) hC5 (fun W hW x hxm => by
          obtain ⟨n6, hst6, _⟩ := (HSj.out.below hW).st; exact (znb K w.heap.size n6 J (kk + 1) fd x W hst6 (JAt.cell (zah HJj.out hW)) (hls x hxm)).mono fun e w' ⟨he, hw⟩ => ⟨he, by rw [<- hw]; exact zno _ _⟩)
         have hfil : ∀ (i : Nat) (h : i < l.length), l.find? (fun x => fd x.data.toList == some (kk + 1)) = some l[i] -> l[i].data.toList = y2 := fun i h he => by
          have e1 : (zac l).find? (fun x => fd x == some (kk + 1)) = (l.find? (fun x => fd x.data.toList == some (kk + 1))).map fun x => x.data.toList := by
           unfold zac; rw [List.find?_map]; rfl
          rw [hGy, e1, he] at hfi; exact znU hfi
         have hany : l.any (fun x => fd x.data.toList == some (kk + 1)) = true := by
          rw [hGy] at hy2; unfold zac at hy2; obtain ⟨x, hx, rfl⟩ := zoE.1 hy2; exact zoK.2 ⟨x, hx, by rw [hk2]; simp⟩
         have hlk := HA.out.look HSj.out.b y HYs.out hf; have HIx := znl (hIx.mono (R' := fun e w' => ∃ (i : Nat) (h : i < l.length), e = .returned (.int .i64 i) /\ l.find? (fun x => fd x.data.toList == some (kk + 1)) = some l[i] /\ Below wr.heap.size wr w') (fun e w' ⟨h, hb⟩ => by
          rcases h with h | ⟨i, hi, he, hf⟩
          . rw [h.1] at hany; cases hany
          . exact ⟨i, hi, he, hf, hb⟩))
         have HFil := znl hfil; have HOn2 := znl hon2; have HSt := znl hst; have HLs := znl hls; have HC5 := znl hC5; have HF := znl hf; have hjc : wr.cell? ⟨J, 0, none⟩ = some (.int .i64 ((kk : Int) + 1)) := by have := HJj.out.cell; rw [hk1i] at this; exact this
         have hpos : (kk : Int) + 1 > 0 := by omega
         obtain ⟨wq, rfl⟩ : ∃ wq, wq = wr := ⟨wr, rfl⟩; clear hIx hfil hany hon2 hst hls hC5 hfi hy2 hk2 hgl hGy hC hf; go_upto_region 32 with (first | (go_at_call 76; refine HIx.out.mono ?_; rintro e w6 ⟨i, hi, rfl, hfi, hb6⟩; have HY2 := znl (HFil.out i hi hfi); have HB6 := znl hb6; clear hfi hb6))
         have HS6 := znl (HSj.out.below HB6.out); have HJ6 : Hid (JAt w6 J ((kk : Int) + 1)) := znl (by have h := zah HJj.out HB6.out; rw [hk1i] at h; exact h)
         have HR6 := znl (Kd.R_below HR.out HB6.out); have HB6L := znl (HB6.out.mono hLi); have HL6 : Hid (L <= w6.heap.size) := znl (znv hLi HB6.out.size); have hlk6 := HA.out.look HS6.out.b y HYs.out HF.out; obtain ⟨b5, o5, rfl, n0⟩ := zbc (Kd.C_below HC5.out HB6.out) i hi; have hiz : (i : Int) < (l.length : Int) := by omega
         have hxs := HLs.out _ (zoy hi); have HXs := znl hxs; generalize l[i] = x at n0 HY2 HXs; have hKL : K < L := by omega
         have hmL : w.heap.size < L := by omega
         clear hxs hlk hjc; go_wp2_with (first | ((with_reducible refine zaM (b := .append) (xs := #[.tmp 114, .tmp 116]) rfl ?_); at_builtin; refine Kd.R_append Kd.string (w0 := wq) L rfl (.tmp 114) (.tmp 116) 22 9 (.string ⟨#[]⟩) 16 rfl Tryz.underlying22 zcg rfl (by decide) (by decide) u20 r x [.string x] (fun _ => True) (fun k_ => True /\ some k_ ≠ u20.ownBlock) rfl rfl rfl (fun _ hk => hk) (fun _ _ => trivial) HR6.out HB6L.out HL6.out ?aL ?_; (case aL => omega); intro v1 w8 ho hb hg hat; have HR8 := znl ho; have HL8 : Hid (L <= w8.heap.size) := znl (znv HL6.out hg.size); have HS8 := znl (HS6.out.grownL hg (fun k hk => Kd.R_base HR6.out k hk) hKL hmL (zom hmL)); have HJ8 : Hid (JAt w8 J ((kk : Int) + 1)) := znl (zaK HJ6.out hg (fun e => by have := Kd.R_base HR6.out J e.symm; omega)); have jc8 := JAt.cell HJ8.out; have f8 := zag HJ8.out 0; clear ho hb hg hat))
         have HS9 := znl (HS8.out.set HJ8.out hKq hsq (.int .i64 (kk : Int))); have HJ9 := znl (HJ8.out.set (kk : Int)); have HR9 := znl (Kd.R_set HR8.out HJ8.out (by decide) 0 (.int .i64 (kk : Int)))
         have HL9 := znl (znv HL8.out ((zno J w8).setCell (p := ⟨J, 0, none⟩) (znp _) (.int .i64 (kk : Int))).size); have HE9 : Hid (zac (r ++ [x]) ++ zck (zaR g) fd kk x.data.toList = t.data.toList :: zck (zaR g) fd k t.data.toList) := znl (by
          rw [<- HE.out, HSt.out, HY2.out]; unfold zac; rw [zoc, zoG, List.map_singleton, HY2.out, List.singleton_append])
         generalize w8.setCell ⟨J, 0, none⟩ (.int .i64 (kk : Int)) = w9 at HS9 HJ9 HR9 HL9 |-; have hrl : (r ++ [x]).length + kk <= 1001 := by rw [znC, List.length_singleton]; omega
         go_roundg kk
         case measure => omega
         case rel => exact ⟨kk, x, r ++ [x], znp _, by omega, hrl, rfl, HL9.out, ⟨HR9.out⟩, ⟨HS9.out⟩, ⟨HJ9.out⟩, ⟨by rw [HY2.out]; exact HOn2.out⟩, ⟨HXs.out⟩, ⟨HE9.out⟩⟩

theorem zjN (l : List ByteArray) (x : zab) : x ∈ zac (zae l) ↔ x ∈ zac l := by
 rw [zd2]; exact List.mem_mergeSort
theorem zfb (l : List ByteArray) (x : ByteArray) : x ∈ zae l ↔ x ∈ l := by
 have h := zjN l x.data.toList; unfold zac at h; rw [zoE, zoE] at h; constructor
 . intro hx
   obtain ⟨y, hy, he⟩ := h.1 ⟨x, hx, rfl⟩; rw [<- zbO he]; exact hy
 . intro hx
   obtain ⟨y, hy, he⟩ := h.2 ⟨x, hx, rfl⟩; rw [<- zbO he]; exact hy
theorem zgs (l : List ByteArray) (x : ByteArray) (h : x ∈ zbJ l) : x ∈ l := by
 unfold zbJ at h; obtain ⟨y, hy, rfl⟩ := zoE.1 h; have := (zfn (zac l) y).1 hy; unfold zac at this; obtain ⟨z, hz, rfl⟩ := zoE.1 this; rw [zbP]; exact hz
def zbs (rs : List zai) : List zab := rs.map fun q => q.f0.data.toList
def zcH (rs : List zai) : zab -> List zab := zaR (zbu rs rs)
theorem ziH {rs : List zai} {o : zab} {n : ByteArray} (h : za0 rs o = some n) : ∃ r ∈ rs, r.f0 = n := by
 unfold za0 at h; cases hf : rs.reverse.find? (fun r => (zac r.f2).contains o) with
 | none => rw [hf] at h; cases h
 | some r =>
  rw [hf] at h; exact ⟨r, List.mem_reverse.1 (zoO hf), znU h⟩
theorem zgw {all rs : List zai} {k : zab} {l : List ByteArray} (h : zbu all rs k = some l) : ∃ r ∈ rs, r.f0.data.toList = k /\ l = zbJ (zae (zbV all r)) := by
 unfold zbu at h; cases hf : rs.reverse.find? (fun r => r.f0.data.toList == k) with
 | none => rw [hf] at h; cases h
 | some r =>
  rw [hf] at h; exact ⟨r, List.mem_reverse.1 (zoO hf), by simpa using List.find?_some hf, (znU h).symm⟩
theorem zkC {all rs : List zai} {k : zab} (h : k ∈ zbs rs) : (zbu all rs k).isSome = true := by
 unfold zbs at h; obtain ⟨r, hr, rfl⟩ := zoE.1 h; unfold zbu; rw [Option.isSome_map, List.find?_isSome]; exact ⟨r, List.mem_reverse.2 hr, by simp⟩
theorem zgY {all : List zai} {r : zai} {y : ByteArray} (h : y ∈ zbV all r) : y ∈ r.f3 \/ ∃ q ∈ all, q.f0 = y := by
 unfold zbV at h; rcases List.mem_append.1 h with h | h
 . exact .inl h
 . obtain ⟨i, _, hi⟩ := List.mem_filterMap.1 h
   exact .inr (ziH hi)
theorem zjX {w : World} {b n : Nat} {rs : List zai} (hF : zcc rs) (h : AllIs w b n (zbu rs rs)) : ∃ f, NeedsAt w b n (zbu rs rs) (zbs rs) f := by
 obtain ⟨f, hM, hs, hr⟩ := h; refine ⟨f, hM, hs, hr, fun k l hl => ?_, by unfold zbs; rw [zn0]; exact hF.len⟩
 obtain ⟨r, hr, rfl, rfl⟩ := zgw hl; refine ⟨zoE.2 ⟨r, hr, rfl⟩, ?_, fun y hy => ?_⟩
 . have h1 := zhv rs r
   have h2 := (hF.fit r hr).1.ins; have h3 := (hF.fit r hr).2.1; have h4 := zeF (zac (zae (zbV rs r))); unfold zbJ; rw [zn0]; rw [zaZ, zfp] at h4; omega
 . have hm := (zfb _ _).1 (zgs _ _ hy)
   rcases zgY hm with hm | ⟨q, hq, rfl⟩
   . exact (hF.fit r hr).2.2.2 y hm
   . exact (hF.fit q hq).2.2.1
theorem NeedsAt.below {w w' : World} {b n : Nat} {g : zab -> Option (List ByteArray)} {nodes : List zab} {f : zab -> Option Value} (h : NeedsAt w b n g nodes f) (hb : Below w.heap.size w w') : NeedsAt w' b n g nodes f :=
 ⟨h.m.below hb, h.same, fun k v l hv hl => by obtain ⟨A, c, e, hC⟩ := h.row k v l hv hl; exact ⟨A, c, e, Kd.C_below hC hb⟩, h.inN, h.few⟩
theorem zgH : ∀ (rs : List zai) (N O : List zab), dupS rs N O = none -> N.Nodup -> (N ++ zbs rs).Nodup
 | [], N, O, _, hN => by simpa [zbs] using hN
 | r :: rs, N, O, h, hN => by
  unfold dupS at h; split at h
  . cases h
  . rename_i hc
    have hc1 : r.f0.data.toList ∉ N := by
     intro hm; apply hc
     rw [Bool.or_eq_true]; exact .inl (by simpa using hm)
    have := zgH rs (N ++ [r.f0.data.toList]) (O ++ zac r.f2) h (by
     rw [List.nodup_append]; exact ⟨hN, by simp, fun a ha b hb e => by rw [zoF] at hb; subst hb; subst e; exact hc1 ha⟩)
    rw [zoG] at this; exact this
theorem zhM {o : Option zai} {d : Int × ByteArray} (h : (whoV 2 o d).1 = 0) : o = none /\ d.1 = 0 := by
 cases o with
 | none => exact ⟨rfl, h⟩
 | some r => exact absurd (show (2 : Int) = 0 from h) (by decide)
theorem zja {rs : List zai} (h : (zbz rs).1 = 0) : dupS rs [] [] = none /\ zc1 rs = none /\ rs.length <= 40 := by
 unfold zbz at h; cases hf : rs.find? (fun r => zbU r != 0) with
 | some r =>
  rw [hf] at h; have := List.find?_some hf; dsimp only at h; rw [h] at this; cases this
 | none =>
  rw [hf] at h; dsimp only at h; split at h
  . cases h
  . obtain ⟨h1, h2⟩ := zhM h
    exact ⟨h1, (zhM h2).1, by omega⟩
theorem ziZ {rs : List zai} (h : (zbz rs).1 = 0) : zeb (zcH rs) (zbs rs) := by
 obtain ⟨h1, h2, _⟩ := zja h; refine ⟨fun x y hy => ?_, by simpa using zgH rs [] [] h1 List.nodup_nil⟩
 unfold zcH zaR at hy; cases hg : zbu rs rs x with
 | none => rw [hg] at hy; exact absurd hy (by simp [zac])
 | some l =>
  rw [hg] at hy; obtain ⟨r, hr, rfl, rfl⟩ := zgw hg; refine ⟨zoE.2 ⟨r, hr, rfl⟩, ?_⟩; unfold zac at hy; obtain ⟨z, hz, rfl⟩ := zoE.1 hy; have hm := (zfb _ _).1 (zgs _ _ hz); rcases zgY hm with hm | ⟨q, hq, rfl⟩
  . unfold zc1 at h2
    have h3 := zoR.1 h2 r hr; have h4 : ((zac r.f3).any fun a => !(zbs rs).contains a) = false := by
     cases hb : (zac r.f3).any fun a => !(zbs rs).contains a with
     | false => rfl
     | true => exact absurd hb h3
    rw [zoP] at h4; have h5 := h4 z.data.toList (zoE.2 ⟨z, hm, rfl⟩); simpa using h5
  . exact zoE.2 ⟨q, hq, rfl⟩
def wayV (rs : List zai) (t : zab) : Option (List zab) := wayF (zcH rs) (farK (zcH rs) (zbs rs) t (zbs rs).length) t
def zb7 (rs : List zai) : List ByteArray := zae (rs.map fun q => q.f0)
def cycV (rs : List zai) : Option (List zab) := if (zbz rs).1 = 0 then (zb7 rs).findSome? fun t => wayV rs t.data.toList else none
def allV (rs : List zai) : Int × ByteArray := if (zbz rs).1 = 0 then match cycV rs with
 | some l => (3, mk (l.headD []))
 | none => (0, ⟨#[]⟩)
 else zbz rs
theorem zh4 {rs : List zai} {t : zab} {l : List zab} (h : wayV rs t = some l) : l ≠ [] := by
 unfold wayV wayF at h; split at h
 . cases h
 . cases h
   exact List.cons_ne_nil _ _
theorem zk9 (b n : Nat) (rs : List zai) (f : zab -> Option Value) (t : ByteArray) (w : World) (hF : zcc rs) (hp : (zbz rs).1 = 0) (hA : NeedsAt w b n (zbu rs rs) (zbs rs) f) (ht : t.data.toList ∈ zbs rs) :
 Calls Tryz.prog 106 #[.map (some b), .string t] w (zfe (wayV rs t.data.toList) w) := by
 have hts : t.size <= maxLen := by
  unfold zbs at ht; obtain ⟨r, hr, he⟩ := zoE.1 ht; rw [<- zbO he]; exact (hF.fit r hr).2.2.1
 refine (ziF b n _ _ f t w hA (zkC ht) hts).mono fun e w' ⟨far, hfar, h⟩ => ?_
 have e1 : far = farK (zcH rs) (zbs rs) t.data.toList (zbs rs).length := hfar.unique (zlE (zcH rs) (zbs rs) t.data.toList (ziZ hp) ht _ (by omega))
 unfold wayV; rw [<- e1]; exact h

theorem zhx {α β : Type} (F : α -> Option β) (l : List α) (j : Nat) (h : j < l.length) (hn : (l.take j).findSome? F = none) : (l.take (j + 1)).findSome? F = F l[j] := by
 rw [znO h, List.findSome?_append, hn]; simp
theorem zmt {α β : Type} (F : α -> Option β) (l : List α) (j : Nat) (v : β) (h : j < l.length) (hn : (l.take j).findSome? F = none) (hv : F l[j] = some v) : l.findSome? F = some v := by
 have e : l = l.take (j + 1) ++ l.drop (j + 1) := (zoL _ _).symm; have h1 := zhx F l j h hn; rw [hv] at h1; rw [e, List.findSome?_append, h1]; rfl
theorem zmO (A : Option Addr) (c : Nat) (rs : List zai) (w : World) (hG : GOK w) (hr : Kd.C k45 w A rs.length rs) (hF : zcc rs) :
 Calls Tryz.prog 73 #[.slice A rs.length c] w (zfe (cycV rs) w) := by
 have hP := zhW A c rs w hG hr hF; have hn := hF.len; have HR := znl hr; have HF := znl hF; obtain ⟨T, hT⟩ : ∃ T, T = cycV rs := ⟨_, rfl⟩; rw [<- hT]; have HT := znl hT; have HZ := znl (fun h : (zbz rs).1 = 0 => h)
 obtain ⟨pe, hpe⟩ : ∃ pe, pe = zbz rs := ⟨_, rfl⟩; rw [<- hpe] at hP; have HPe := znl hpe; clear hr hG hF hT hpe HZ; obtain ⟨p1, p2⟩ := pe; unfold zdM at hP; dsimp only at hP; go_enter Tryz.func73, Tryz.ntmps73
 by_cases hp : p1 = 0
 . subst hp
   have HP0 : Hid ((zbz rs).1 = 0) := znl (by rw [<- HPe.out])
   go_upto_region 4 with (first | (go_at_call 72; refine hP.mono ?_; rintro e w1 ⟨rfl, hb1⟩; have HB1 := znl hb1; clear hb1))
   have hNe := zif A c rs w1 (Kd.C_below HR.out HB1.out) HF.out; have HNe := znl hNe; clear hNe hP; go_upto_region 6 with (first | (go_at_call 105; refine HNe.out.mono ?_; rintro e w2 ⟨b, rfl, _, hA2, hb2⟩; have HA2 := znl (zjX HF.out hA2); have HB2 := znl (zad HB1.out HB1.out.size hb2); clear hA2 hb2))
   obtain ⟨f, hA⟩ := HA2.out; have HA := znl hA; have HR2 := znl (Kd.C_below HR.out HB2.out); clear hA HA2 HNe; go_wp2_with fail; go_loopg [6, 8, 23] rs.length (fun gg s6 _ s23 wr => ∃ kk : Nat, kk <= rs.length /\ rs.length - kk <= gg /\ s23 = .int .i64 kk /\ Aside0 (RS wr w2.heap.size s6 ((rs.take kk).map fun q => q.f0)) /\ Aside0 (Below w2.heap.size w2 wr))
   case atStart => exact ⟨0, zn8 _, by omega, rfl, ⟨Kd.R_nil _ _ _ _ _⟩, ⟨zno _ _⟩⟩
   case round =>
    obtain ⟨kk, hkk, hgk, rfl, HO, HW⟩ := hrel; obtain ⟨wq, rfl⟩ : ∃ wq, wq = wr := ⟨wr, rfl⟩; by_cases hlt : kk < rs.length
    . have hltz : (kk : Int) < (rs.length : Int) := by omega
      obtain ⟨b9, o, B1, c1, B2, c2, B3, c3, B4, c4, rfl, q0, q1, q2, q3, q4, hA4, hC4⟩ := zcG HR2.out kk hlt; replace q0 := zaf HW.out q0
      replace q1 := zaf HW.out q1
      replace q2 := zaf HW.out q2
      replace q3 := zaf HW.out q3
      replace q4 := zaf HW.out q4
      have hsn : ((rs.take (kk + 1)).map fun q => q.f0) = ((rs.take kk).map fun q => q.f0) ++ [rs[kk].f0] := by rw [znO hlt, zoc]; rfl
      have hln : ((rs.take kk).map fun q => q.f0).length = kk := by rw [zn0, List.length_take]; omega
      have HSn := znl hsn; have HLn := znl hln; generalize rs[kk] = x at q0 q1 q2 q3 q4 HSn; have hb3 := (zno wq.heap.size wq).alloc (znp _) (.cells (zaq x B1 c1 B2 c2 B3 c3 B4 c4) 45); have HX3 := znl (zao wq (.cells (zaq x B1 c1 B2 c2 B3 c3 B4 c4) 45)); have HB3 := znl (HW.out.alloc HW.out.size (.cells (zaq x B1 c1 B2 c2 B3 c3 B4 c4) 45)); have HO3 := znl (Kd.R_below HO.out hb3); clear hA4 hC4 hb3 hsn hln; unfold zaq at HX3 HB3 HO3; go_upto_region 9 with fail; generalize wq.alloc (.cells #[.string x.f0, .slice B1 x.f1.length c1, .slice B2 x.f2.length c2, .slice B3 x.f3.length c3, .slice B4 x.f4.length c4] 45) = w3 at HX3 HB3 HO3 |-; have x0 : w3.cell? ⟨wq.heap.size, 0, none⟩ = some (.string x.f0) := (zaa HX3.out 0).trans rfl; have HWs := znl HB3.out.size; generalize x.f0 = nm at x0 HSn; go_wp2_with (first | ((with_reducible refine zaM (b := .append) (xs := #[.tmp 27, .tmp 30]) rfl ?_); at_builtin; refine Kd.R_append Kd.string (w0 := w2) w2.heap.size rfl (.tmp 27) (.tmp 30) 22 9 (.string ⟨#[]⟩) 16 rfl Tryz.underlying22 zcg rfl (by decide) (by decide) u6 ((rs.take kk).map fun q => q.f0) nm [.string nm] (fun _ => True) (fun k_ => True /\ some k_ ≠ u6.ownBlock) rfl rfl rfl (fun _ hk => hk) (fun _ _ => trivial) HO3.out HB3.out HWs.out ?aL ?_; (case aL => (have h1 := HLn.out; omega)); intro v1 w5 ho hb hg hat; have HO5 : Hid (RS w5 w2.heap.size v1 ((rs.take (kk + 1)).map fun q => q.f0)) := (by show RS _ _ _ _; rw [HSn.out]; exact ho); have HB5 := znl hb; clear ho hb hg hat))
      go_roundg (rs.length - (kk + 1))
      case measure => omega
      case rel => exact ⟨kk + 1, by omega, by omega, by first | rfl | go_num, ⟨HO5.out⟩, ⟨HB5.out⟩⟩
    . have hltz : ¬ (kk : Int) < (rs.length : Int) := by omega
      obtain rfl : kk = rs.length := by omega
      have hO := HO.out; rw [zn1] at hO; have hSort := zfF w2.heap.size u6 _ wq hO (by rw [zn0]; omega)
      have HSort := znl hSort; have HBs := znl (Kd.R_base hO); clear hO hSort HO; go_upto_region 12 with (first
       | (go_at_call 93; refine HSort.out.mono ?_; rintro e w5 ⟨rfl, hR5, hg5⟩; have HR5 := znl hR5; have HW5 := znl (HW.out.grown hg5 HW.out.size (fun k hk => HBs.out k hk)); clear hR5 hg5))
      obtain ⟨A5, c5, rfl, _, hC5⟩ := Kd.R_reads HR5.out; have HC5 := znl hC5; have hnl : (zb7 rs).length <= 1000 := by unfold zb7; rw [zfp, zn0]; exact hn
      have hmem : ∀ x ∈ zb7 rs, x.data.toList ∈ zbs rs := fun x hx => by
       have := (zfb _ _).1 hx; obtain ⟨r, hr, rfl⟩ := zoE.1 this; exact zoE.2 ⟨r, hr, rfl⟩
      have HMem := znl hmem; have HTn : Hid (T = (zb7 rs).findSome? fun t => wayV rs t.data.toList) := znl (by rw [HT.out]; unfold cycV; rw [if_pos HP0.out])
      have HNV : Hid (zb7 rs = zae (rs.map fun q => q.f0)) := znl rfl
      have HC6 : Hid (Kd.C Kd.string w5 A5 (zb7 rs).length (zb7 rs)) := znl HC5.out; have hl5 : (zae (rs.map fun q => q.f0)).length = (zb7 rs).length := rfl
      generalize zb7 rs = nv at hnl HMem HTn HNV HC6 hl5; clear hC5 hmem HC5; rw [hl5]; have HWC : Hid (w.heap.size <= w2.heap.size) := znl HB2.out.size; clear hl5; go_wp2_with fail; go_loopg [10, 11, 37] nv.length (fun gg _ _ s37 wi => ∃ j : Nat, j <= nv.length /\ nv.length - j <= gg /\ s37 = .int .i64 j /\ Aside0 (Below w5.heap.size w5 wi) /\ Aside0 ((nv.take j).findSome? (fun t => wayV rs t.data.toList) = none))
      case atStart => exact ⟨0, zn8 _, by omega, rfl, ⟨zno _ _⟩, ⟨rfl⟩⟩
      case round =>
       obtain ⟨j, hj, hgj, rfl, HWi, HN⟩ := hrel; obtain ⟨wi, rfl⟩ : ∃ wi, wi = wr := ⟨wr, rfl⟩; have HB0 : Hid (Below w.heap.size w wi) := znl ((HB2.out.trans (HW5.out.mono HWC.out)).trans (HWi.out.mono (znv HWC.out HW5.out.size))); by_cases hlj : j < nv.length
       . have hljz : (j : Int) < (nv.length : Int) := by omega
         obtain ⟨b5, o5, rfl, n0⟩ := zbc (Kd.C_below HC6.out HWi.out) j hlj; have hway := zk9 b rs.length rs f nv[j] wi HF.out HP0.out ((HA.out.below HW5.out).below HWi.out) (HMem.out _ (zoy hlj)); have hsn := zhx (fun t : ByteArray => wayV rs t.data.toList) nv j hlj HN.out
         have hat := fun v => zmt (fun t : ByteArray => wayV rs t.data.toList) nv j v hlj HN.out
         have hcons := fun l => @zh4 rs nv[j].data.toList l
         have HSn := znl hsn; have HAt := znl hat; generalize wayV rs nv[j].data.toList = wo at hway HSn HAt hcons; generalize nv[j] = nm at n0 hway; clear hsn hat; cases wo with
         | none =>
          go_wp2_with (first | (go_at_call 106; refine hway.mono ?_; rintro e w7 ⟨v7, rfl, rfl, hb7⟩; have HW7 := znl (zad HWi.out HWi.out.size hb7); clear hb7))
          go_roundg (nv.length - (j + 1))
          case measure => omega
          case rel => exact ⟨j + 1, by omega, by omega, by first | rfl | go_num, ⟨HW7.out⟩, ⟨HSn.out⟩⟩
         | some l =>
          have HCo := znl (hcons l rfl); have HTl : Hid (T = some l) := znl (by rw [HTn.out]; exact HAt.out l rfl)
          clear hcons; replace hway := hway.mono (R' := fun e w' => ∃ b7 o7 c7 r7, e = .returned (.slice (some ⟨b7, o7, none⟩) (List.length r7) c7) /\ zac r7 = l /\ RS w' wi.heap.size (.slice (some ⟨b7, o7, none⟩) r7.length c7) r7 /\ Below wi.heap.size wi w') (fun e w' ⟨v, he, ⟨r7, hr7, hR7⟩, hb⟩ => by
           obtain ⟨A7, c7, rfl, _, hC7⟩ := Kd.R_reads hR7; have hpos : 0 < r7.length := by
            have h := HCo.out; rw [<- hr7] at h; cases r7 with
            | nil => exact absurd rfl h
            | cons a r => exact Nat.succ_pos _
           obtain ⟨b7, o7, rfl, _⟩ := zbc hC7 0 hpos; exact ⟨b7, o7, c7, r7, he, hr7, hR7, hb⟩)
          have HWs := znl HB0.out.size; go_wp2_with (first | (go_at_call 106; refine hway.mono ?_; rintro e w7 ⟨b7, o7, c7, r7, rfl, hr7, hR7, hb7⟩; have HB7 := znl (zad HB0.out HB0.out.size hb7); have HR7 := znl hR7; have HN7 := znl hr7; clear hb7 hR7 hr7))
          go_ret
          exact ⟨_, rfl, by rw [HTl.out]; exact ⟨r7, HN7.out, Kd.R_lower HR7.out HWs.out⟩, HB7.out⟩
       . have hljz : ¬ (j : Int) < (nv.length : Int) := by omega
         obtain rfl : j = nv.length := by omega
         have hN := HN.out; rw [zn1, <- HTn.out] at hN; have HTl := znl hN; clear hN; go_wp2_with fail; go_ret
         exact ⟨_, rfl, by rw [HTl.out]; rfl, HB0.out⟩
 . have HTl : Hid (T = none) := znl (by rw [HT.out]; unfold cycV; rw [if_neg (by rw [<- HPe.out]; exact hp)])
   go_wp2_with (first | (go_at_call 72; refine hP.mono ?_; rintro e w1 ⟨rfl, hb1⟩; have HB1 := znl hb1; clear hb1))
   go_ret
   exact ⟨_, rfl, by rw [HTl.out]; rfl, HB1.out⟩

theorem zeK (A : Option Addr) (c : Nat) (rs : List zai) (w : World) (hG : GOK w) (hr : Kd.C k45 w A rs.length rs) (hF : zcc rs) :
 Calls Tryz.prog 49 #[.slice A rs.length c] w (zdM (allV rs) w) := by
 have hP := zhW A c rs w hG hr hF; have hn := hF.len; have HCy := znl (fun (W : World) (hB : Below w.heap.size w W) => zmO A c rs W (hG.below hB) (Kd.C_below hr hB) hF)
 have HT : Hid (allV rs = if (zbz rs).1 = 0 then match cycV rs with
 | some l => (3, mk (l.headD []))
 | none => (0, ⟨#[]⟩)
 else zbz rs) := znl rfl
 have HCn : Hid (∀ l, cycV rs = some l -> l ≠ []) := znl (fun l h => by
  unfold cycV at h; split at h
  . obtain ⟨t, _, ht⟩ := List.exists_of_findSome?_eq_some h
    exact zh4 ht
  . cases h)
 generalize allV rs = T at HT |-; generalize cycV rs = cy at HCy HT HCn; generalize zbz rs = pe at hP HT; clear hr hF hG; obtain ⟨p1, p2⟩ := pe; unfold zdM at hP; dsimp only at hP; go_enter Tryz.func49, Tryz.ntmps49
 by_cases hp : p1 = 0
 . subst hp
   cases cy with
   | none =>
    have HTl : Hid (T = (0, ⟨#[]⟩)) := znl (by rw [HT.out]; rfl)
    go_wp2_with (first | (go_at_call 72; refine hP.mono ?_; rintro e w1 ⟨rfl, hb1⟩; have HB1 := znl hb1; clear hb1) | (go_at_call 73; refine (HCy.out _ HB1.out).mono ?_; rintro e w2 ⟨v2, rfl, rfl, hb2⟩; have HB2 := znl (zad HB1.out HB1.out.size hb2); clear hb2))
    go_ret2
    exact ⟨by rw [HTl.out]; rfl, HB2.out⟩
   | some l =>
    have HTl : Hid (T = (3, mk (l.headD []))) := znl (by rw [HT.out]; rfl)
    have HCo := znl (HCn.out l rfl); have HCy2 := znl (fun (W : World) (hB : Below w.heap.size w W) => (HCy.out W hB).mono (R' := fun e w' => ∃ b7 o7 c7 n, ∃ x : ByteArray, e = .returned (.slice (some ⟨b7, o7, none⟩) (n + 1) c7) /\ (n : Int) <= 9223372036854775806 /\ l.headD [] = x.data.toList /\ w'.cell? ⟨b7, o7, none⟩ = some (.string x) /\ Below W.heap.size W w') (fun e w' ⟨v, he, ⟨r7, hr7, hR7⟩, hb⟩ => by
     obtain ⟨A7, c7, rfl, _, hC7⟩ := Kd.R_reads hR7; have hlim := hC7.2.1; cases r7 with
     | nil => exact absurd hr7.symm (HCo.out)
     | cons a r =>
      obtain ⟨b7, o7, rfl, hc⟩ := zbc hC7 0 (Nat.succ_pos _); refine ⟨b7, o7, c7, r.length, a, he, ?_, by rw [<- hr7]; rfl, hc, hb⟩
      rw [zn5] at hlim; omega))
    go_wp2_with (first | (go_at_call 72; refine hP.mono ?_; rintro e w1 ⟨rfl, hb1⟩; have HB1 := znl hb1; clear hb1) | (go_at_call 73; refine (HCy2.out _ HB1.out).mono ?_; rintro e w2 ⟨b7, o7, c7, n, x, rfl, hnl, hx, hc7, hb2⟩; have HB2 := znl (zad HB1.out HB1.out.size hb2); have HX := znl hx; clear hb2 hx))

    go_quiet (fail)
    go_wp2_with fail; go_ret2
    exact ⟨by rw [HTl.out, HX.out, zbP]; rfl, zap HB2.out _⟩
 . have HTl : Hid (T = (p1, p2)) := znl (by rw [HT.out]; exact if_neg hp)
   go_wp2_with (first | (go_at_call 72; refine hP.mono ?_; rintro e w1 ⟨rfl, hb1⟩; have HB1 := znl hb1; clear hb1))
   go_ret2
   exact ⟨by rw [HTl.out]; rfl, HB1.out⟩

end Go.Proofs.YtdpgdnpddndeoaaGreatDoor.X

namespace Go.Proofs.YtdpgdnpddndeoaaGreatDoor.X
open Go.RowKit Go.Maps Go.Proofs.YtdpgdnpddndeoaaGreatDoorW.PrintWords Go.Proofs.YtdpgdnpddndeoaaGreatDoorW.PrintMore Go.Proofs.YtdpgdnpddndeoaaGreatDoorW.PrintLast
open Go.ChangeMaps Go.MapKept
def strOf : Lit -> zab
 | .string s => s
 | _ => []
theorem MapIs.tight {P : Program} {kt : TypeId} {w : World} {b n : Nat} {f : zab -> Option Value} (h : MapIs P kt w b n f) (hk : P.underlying kt = some .string) (L : List zab) (hL : ∀ k, (f k).isSome = true -> k ∈ L) : MapIs P kt w b L.length f := by
 obtain ⟨D, ho, hf⟩ := h; have ht := ho.tidy (string_keyed hk); obtain ⟨es, clock, hb, F, hs, rfl⟩ := ho; obtain ⟨es0, he, hp⟩ := ht; cases he
 have hlen : ((es.toList.map (WideElems.rg P kt valM)).foldr DataW.insert []).length = es.size := length_read es; have hstr : ∀ p ∈ (es.toList.map (WideElems.rg P kt valM)).foldr DataW.insert [], ∃ s, p.1 = Lit.string s := by
  intro p hpm; have h1 := (WideShapes.sorted_perm _).mem_iff.1 hpm; obtain ⟨x, hx, rfl⟩ := zoE.1 h1; obtain ⟨y, hy⟩ := F.reads x hx; have hr : WideElems.rg P kt valM x = y := by unfold WideElems.rg; rw [hy]; rfl
  have hkey := WideElems.rd_key hy; rw [hr]; generalize x.key = key at hkey; cases key <;> simp [keyOf, hk, mapKey] at hkey
  exact ⟨_, hkey.2.symm⟩
 have hf' := hf; have key : es.size <= L.length := by
  generalize (es.toList.map (WideElems.rg P kt valM)).foldr DataW.insert [] = S at hp hf' hlen hstr; have hmem : ∀ p ∈ S, strOf p.1 ∈ L := by
   intro p hpm; obtain ⟨s, hs1⟩ := hstr p hpm; refine hL _ ?_; rw [<- hf'.1]; rw [hs1]; show S.any (fun q => q.1.sameKey (.string s)) = true
   exact zoK.2 ⟨p, hpm, by rw [hs1]; simp [Lit.sameKey]⟩
  have hnd : (S.map fun p => strOf p.1).Nodup := by
   unfold List.Nodup; rw [List.pairwise_map]; refine hp.imp_of_mem fun {p q} h1 h2 hne he => ?_
   obtain ⟨s, e1⟩ := hstr p h1; obtain ⟨s', e2⟩ := hstr q h2; rw [e1, e2] at he hne; exact hne (by rw [show s = s' from he])
  have hle := zfs _ L hnd (fun x hx => by obtain ⟨p, hpm, rfl⟩ := zoE.1 hx; exact hmem p hpm)
  rw [zn0, hlen] at hle; exact hle
 exact ⟨_, ⟨es, clock, hb, F, key, rfl⟩, hf⟩

def zb9 (rs : List zai) (name : zab) : Option zai := rs.find? fun r => (zac r.f2).contains name
def zbC (rs : List zai) (rd : zab -> Option zab) : Nat -> zab -> SVal
 | 0, _ => zV
 | n + 1, name => match zb9 rs name with
  | none => ⟨(rd name).isSome, mk ((rd name).getD [])⟩
  | some r => runK (zax r) (r.f1.map fun i => zbC rs rd n i.data.toList) r.f4.length name
structure Mean (rs : List zai) (rank : zab -> Nat) : Prop where
 fit : zcc rs
 uniq : ∀ r ∈ rs, ∀ o ∈ r.f2, zb9 rs o.data.toList = some r
 rank : ∀ r ∈ rs, ∀ o ∈ r.f2, ∀ i ∈ r.f1, rank i.data.toList < rank o.data.toList
theorem zgG {rs : List zai} {name : zab} {r : zai} (h : zb9 rs name = some r) : r ∈ rs /\ ∃ o ∈ r.f2, o.data.toList = name := by
 unfold zb9 at h; refine ⟨zoO h, ?_⟩; have := List.find?_some h; have hm : name ∈ zac r.f2 := by simpa using this
 unfold zac at hm; obtain ⟨o, ho, he⟩ := zoE.1 hm; exact ⟨o, ho, he⟩
theorem Mean.lower {rs : List zai} {rank : zab -> Nat} (h : Mean rs rank) {name : zab} {r : zai} (hp : zb9 rs name = some r) {i : ByteArray} (hi : i ∈ r.f1) : rank i.data.toList < rank name := by
 obtain ⟨hr, o, ho, rfl⟩ := zgG hp; exact h.rank r hr o ho i hi
theorem zg9 {rs : List zai} {rank : zab -> Nat} (h : Mean rs rank) (rd : zab -> Option zab) : ∀ (n m : Nat) (name : zab), rank name < n -> rank name < m -> zbC rs rd n name = zbC rs rd m name
 | n + 1, m + 1, name, h1, h2 => by
  unfold zbC; cases hp : zb9 rs name with
  | none => rfl
  | some r =>
   dsimp only; have e : (r.f1.map fun i => zbC rs rd n i.data.toList) = r.f1.map fun i => zbC rs rd m i.data.toList := by
    refine zoA fun i hi => ?_
    have := h.lower hp hi; exact zg9 h rd n m i.data.toList (by omega) (by omega)
   rw [e]
def valF (rs : List zai) (rank : zab -> Nat) (rd : zab -> Option zab) (name : zab) : SVal := zbC rs rd (rank name + 1) name
theorem zkH {rs : List zai} {rank : zab -> Nat} {rd : zab -> Option zab} {name : zab} (hp : zb9 rs name = none) : valF rs rank rd name = ⟨(rd name).isSome, mk ((rd name).getD [])⟩ := by
 unfold valF zbC; rw [hp]
theorem zkR {rs : List zai} {rank : zab -> Nat} (h : Mean rs rank) {rd : zab -> Option zab} {name : zab} {r : zai} (hp : zb9 rs name = some r) : valF rs rank rd name = runK (zax r) (r.f1.map fun i => valF rs rank rd i.data.toList) r.f4.length name := by
 have e : (r.f1.map fun i => zbC rs rd (rank name) i.data.toList) = r.f1.map fun i => valF rs rank rd i.data.toList := by
  refine zoA fun i hi => ?_
  have := h.lower hp hi; exact zg9 h rd _ _ i.data.toList (by omega) (by omega)
 unfold valF; conv => lhs; unfold zbC
 rw [hp]; dsimp only; rw [e]; rfl
theorem zgS {rs : List zai} {rd : zab -> Option zab} (hrd : ∀ k v, rd k = some v -> v.length <= 4194304) : ∀ (n : Nat) (name : zab), (zbC rs rd n name).f1.size <= 4194304
 | 0, _ => zn8 _
 | n + 1, name => by
  unfold zbC; split
  . show (mk ((rd name).getD [])).size <= _
    rw [za6]; cases hr : rd name with
    | none => exact zn8 _
    | some v => exact hrd name v hr
  . rename_i r _
    refine zhF (zax r) _ (fun v hv => ?_) _ _
    obtain ⟨i, _, rfl⟩ := zoE.1 hv; exact zgS hrd n _
theorem zih {rs : List zai} {rank : zab -> Nat} {rd : zab -> Option zab} (hrd : ∀ k v, rd k = some v -> v.length <= 4194304) (name : zab) : (valF rs rank rd name).f1.size <= 4194304 := zgS hrd _ _
theorem ziQ {rs : List zai} {rank : zab -> Nat} (h : Mean rs rank) {rd : zab -> Option zab} {r : zai} (hr : r ∈ rs) : runS (zax r) (r.f1.map fun i => valF rs rank rd i.data.toList) = r.f2.map fun o => valF rs rank rd o.data.toList := by
 unfold runS; have h1 : (zax r).ins.length = r.f1.length := zaZ _; have h2 : (zax r).steps.length = r.f4.length := zn0 ..; rw [zn0, h1, if_neg (by simp), h2]
 show (zac r.f2).map _ = _
 unfold zac; rw [List.map_map]; refine zoA fun o ho => ?_
 exact (zkR h (h.uniq r hr o ho)).symm

def DoneIs (w : World) (b n : Nat) (st : zab -> Option SVal) : Prop := ∃ f, MapIs Tryz.prog 9 w b n f /\ ∀ k, f k = (st k).map aggV
theorem DoneIs.made (w : World) : DoneIs (w.alloc (.map #[] 0)) w.heap.size 0 (fun _ => none) := ⟨_, MapIs.made w, fun _ => rfl⟩
theorem DoneIs.lt {w : World} {b n : Nat} {st : zab -> Option SVal} (h : DoneIs w b n st) : b < w.heap.size := by obtain ⟨f, h, _⟩ := h; exact h.lt
theorem DoneIs.mono {w : World} {b n n' : Nat} {st : zab -> Option SVal} (h : DoneIs w b n st) (hn : n <= n') : DoneIs w b n' st := by obtain ⟨f, h, h2⟩ := h; exact ⟨f, h.mono hn, h2⟩
theorem DoneIs.below {w w' : World} {b n : Nat} {st : zab -> Option SVal} (h : DoneIs w b n st) (hb : Below w.heap.size w w') : DoneIs w' b n st := by obtain ⟨f, h, h2⟩ := h; exact ⟨f, h.below hb, h2⟩
theorem DoneIs.grown {w w' : World} {b n : Nat} {st : zab -> Option SVal} {row : Option Nat} (h : DoneIs w b n st) (hg : w.grownBy w' row) (hne : some b ≠ row) : DoneIs w' b n st := by obtain ⟨f, h, h2⟩ := h; exact ⟨f, h.grown hg hne, h2⟩
theorem DoneIs.ne_cells {w : World} {b n : Nat} {st : zab -> Option SVal} (h : DoneIs w b n st) {a t : Nat} {cs : Array Value} {fr : Nat × Nat} (hg : w.heap[a]? = some (.cells cs t fr)) : b ≠ a := by obtain ⟨f, h, _⟩ := h; exact h.ne_cells hg
theorem DoneIs.tight {w : World} {b n : Nat} {st : zab -> Option SVal} (h : DoneIs w b n st) (L : List zab) (hL : ∀ k, (st k).isSome = true -> k ∈ L) : DoneIs w b L.length st := by
 obtain ⟨f, h, h2⟩ := h; exact ⟨f, h.tight Tryz.underlying9 L (fun k hk => hL k (by rw [h2] at hk; simpa using hk)), h2⟩
theorem DoneIs.look2 {w : World} {b n : Nat} {st : zab -> Option SVal} (h : DoneIs w b n st) (k : ByteArray) (hs : k.size <= maxLen) :
 (Instr.lookup 91 (.map (some b)) (.string k) true).run Tryz.prog w = .ok (.tuple #[aggV ((st k.data.toList).getD zV), .bool (st k.data.toList).isSome]) w := by
 obtain ⟨f, h, h2⟩ := h; have := h.look2 Tryz.underlying9 Tryz.underlying91 (Tryz.zeroValue34 w) k hs; rw [this, h2]; cases st k.data.toList <;> rfl
theorem DoneIs.look {w : World} {b n : Nat} {st : zab -> Option SVal} (h : DoneIs w b n st) (k : ByteArray) (hs : k.size <= maxLen) :
 (Instr.lookup 91 (.map (some b)) (.string k) false).run Tryz.prog w = .ok (aggV ((st k.data.toList).getD zV)) w := by
 obtain ⟨f, h, h2⟩ := h; have := h.look Tryz.underlying9 Tryz.underlying91 (Tryz.zeroValue34 w) k hs; rw [this, h2]; cases st k.data.toList <;> rfl
theorem DoneIs.put {w : World} {b n : Nat} {st : zab -> Option SVal} (h : DoneIs w b n st) (hn : n < maxLen) (k : ByteArray) (hs : k.size <= maxLen) (v : SVal) :
 ∃ w', (Instr.mapUpdate 91 (.map (some b)) (.string k) (aggV v)).run Tryz.prog w = .ok () w' /\ DoneIs w' b (n + 1) (setG st k.data.toList v) /\ w.grownBy w' (some b) := by
 obtain ⟨f, h, h2⟩ := h; obtain ⟨w', hrun, h', hg⟩ := h.store Tryz.underlying9 Tryz.underlying91 hn k hs (aggV v); refine ⟨w', hrun, ⟨_, h', fun x => ?_⟩, hg⟩
 unfold setF setG; split
 . rfl
 . exact h2 x
def zbT (rs : List zai) : List zab := rs.flatMap fun r => zac r.f2
theorem zm5 {rs : List zai} {r : zai} {o : ByteArray} (hr : r ∈ rs) (ho : o ∈ r.f2) : o.data.toList ∈ zbT rs := List.mem_flatMap.2 ⟨r, hr, zoE.2 ⟨o, ho, rfl⟩⟩
structure DSt (rs : List zai) (rank : zab -> Nat) (m : TM) (w0 : World) (A : Option Addr) (c gt bt M D : Nat) (w : World) (st : zab -> Option SVal) : Prop where
 c : w.heap[M]? = some (.cells #[.slice A rs.length c, .pointer (some ⟨gt, 0, none⟩), .map (some D)] 105 (0, 0))
 d : DoneIs w D (zbT rs).length st
 ok : ∀ k v, st k = some v -> v = valF rs rank (getT m) k /\ k ∈ zbT rs
 b : Below w0.heap.size w0 w
 lo : w0.heap.size <= D

end Go.Proofs.YtdpgdnpddndeoaaGreatDoor.X
