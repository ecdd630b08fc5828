/-
  What the cards lean on (part Y3): contracts of functions, by hand, and plain laws; what is printed by the kit's print for this seat is among them. What is not reached is left out.
-/
import Derived.Laws.RangeAny
import Derived.Sort.Grow
import Derived.Lib.AtoiAllCases
import Derived.Lib.SmallJoins
import Derived.Maps.OwnSet
import Derived.Maps.StringElems
import Derived.WalkSpells
import Derived.ChangeMaps5
import Derived.Sort.KeysCollected
import Derived.Sort.Walk0
import Derived.Test.YtdpgdnpddndeoaaGreatDoorY1
import Derived.Test.YtdpgdnpddndeoaaGreatDoorY2
set_option maxHeartbeats 4000000
set_option maxRecDepth 100000
set_option linter.unusedSimpArgs false
set_option linter.unusedVariables false
open Go.RowKit.Below renaming refl -> zpt
open Nat renaming le_refl -> zpu, le_trans -> zpA, zero_le -> zqf
open Go.Lib renaming size_eq -> zp8
open List renaming map_map -> zp9, getElem?_eq_getElem -> zpx, getD_eq_getElem?_getD -> zpy, length_map -> zp6, length_append -> zpH, take_length -> zqa, map_cons -> zpU, take_succ_eq_append_getElem -> zpW, length_cons -> zqc, drop_eq_nil_of_le -> zqe, getElem?_take_of_lt -> zqg, length_filter_le -> zqi, map_append -> zqj
open Array renaming getElem?_eq_some_iff -> zpv, getElem?_modify -> zqb, getElem?_toList -> zqd
open Option.some renaming inj -> zp2
open Option renaming isSome_none -> zqh, getD_some -> zqk

namespace Go.Proofs.YtdpgdnpddndeoaaGreatDoor.X
open Go.RowKit Go.Proofs.YtdpgdnpddndeoaaGreatDoorW.PrintWords
def zcD (n : Nat) : Bool := decide (97 <= n /\ n <= 122 \/ 65 <= n /\ n <= 90 \/ 48 <= n /\ n <= 57 \/ n = 46 \/ n = 95 \/ n = 45)
theorem zks (c : UInt8) : zcD c.toNat = sign c := by
 unfold zcD sign; rw [Bool.eq_iff_iff]; simp only [decide_eq_true_eq, Bool.or_eq_true, Bool.and_eq_true, beq_iff_eq, UInt8.le_iff_toNat_le, <- UInt8.toNat_inj]; simp
 omega
theorem zmO (n : Nat) (h : 128 <= n) : zcD n = false := by
 unfold zcD; simp
 omega
theorem znx (n : Nat) : Pa.path_sign.f (n : Int) = some (zcD n) := by
 unfold Pa.path_sign.f zcD; repeat' split
 all_goals (simp only [Option.some.injEq]; rw [Bool.eq_iff_iff]; simp only [decide_eq_true_eq, beq_iff_eq, true_iff]; omega)
theorem ziD (p : Nat -> Bool) (hp : ∀ x, 128 <= x -> p x = true) (s : ByteArray) : ∀ (f pos : Nat), s.size <= pos + f ->
 decide (0 <= Lib.idxFuncFrom p true s f pos) = (s.data.toList.drop pos).any (fun c => p c.toNat)
 | 0, pos, h => by
  have : s.data.toList.drop pos = [] := zqe (by rw [<- zp8]; omega)
  rw [this]; rfl
 | f + 1, pos, h => by
  unfold Lib.idxFuncFrom; by_cases hps : pos < s.size
  . rw [if_pos hps]
    have hl : pos < s.data.toList.length := by rw [<- zp8]; exact hps
    have hd : s.data.toList.drop pos = s.data.toList[pos] :: s.data.toList.drop (pos + 1) := (List.drop_eq_getElem_cons hl); have hb : s.data.toList[pos] = s[pos]'hps := rfl; rw [hd, hb, List.any_cons]; by_cases ha : (s[pos]'hps).toNat < 128
    . rw [decode_ascii s pos hps ha]
      by_cases hq : p (s[pos]'hps).toNat = true
      . rw [if_pos hq, hq]
        simp
      . rw [if_neg hq, ziD p hp s f (pos + 1) (by omega)]
        simp only [Bool.not_eq_true] at hq; rw [hq]; simp
    . obtain ⟨h1, _⟩ := decode_high s pos hps (by omega)
      rw [if_pos (hp _ h1), hp _ (by omega)]
      simp
  . rw [if_neg hps]
    have : s.data.toList.drop pos = [] := zqe (by rw [<- zp8]; omega)
    rw [this]; rfl
theorem zof (p : Nat -> Bool) (hp : ∀ x, 128 <= x -> p x = true) (s : ByteArray) : decide (0 <= Lib.idxFunc p true s) = s.data.toList.any (fun c => p c.toNat) := by
 unfold Lib.idxFunc; rw [ziD p hp s s.size 0 (by omega)]
 rfl

theorem eg64 : ∀ args w, (callFunc 173 args).run Tryz.prog w = .ok (.enter 173 args) w := Go.Proofs.enters_of Tryz.func173 (by kernel_rfl) rfl
theorem zmK (s : ByteArray) (w : World) (hG : GOK w) :
 Calls Tryz.prog 172 #[.string s, .func (.func 173) #[] #[]] w fun e w' => e = .returned (.bool (s.data.toList.any (fun c => !sign c))) /\ Below w.heap.size w w' := by
 have hp : Go.Proofs.PredAtRunes Tryz.prog 173 #[] (fun n => !zcD n) w := by
  intro W x _ hb; refine (Pa.path_bad_1.calls (x : Int) (!zcD x) W (hG.below hb) ?_).mono fun e w' ⟨he, hd⟩ => ⟨he, hd.out⟩
  unfold Pa.path_bad_1.f; rw [znx]; rfl
 have h := Go.Proofs.Any.strings_ContainsFunc_runes Go.Proofs.Tryz.laysGw17 173 #[] eg64 (fun n => !zcD n) s w hp
 refine h.mono fun e w' ⟨he, hb⟩ => ⟨?_, hb⟩
 rw [he, zof _ (fun x hx => by rw [zmO x hx]; rfl)]
 simp only [zks]

def path_bad.f (a0 : ByteArray) : Option Bool := some (bad a0.data.toList)
theorem path_bad.calls (a0 : ByteArray) (r : Bool) (w : World) (hG : GOK w) (h : path_bad.f a0 = some r) :
 Calls Tryz.prog 136 #[.string a0] w fun e w' => e = .returned (.bool r) /\ Below w.heap.size w w' := by
 unfold path_bad.f bad at h; have hc := zmK a0 w hG; generalize (a0.data.toList.any fun c => !sign c) = q at hc h
 rw [<- za4] at h; by_cases h1 : a0.toList = []
 . have e1 : (a0.toList == []) = true := by simp [h1]
   have hr : r = true := by rw [h1] at h; simpa using h.symm
   subst hr; clear h hc h1; go_enter Tryz.func136, Tryz.ntmps136
   go_wp2; go_ret
   exact ⟨rfl, zpt _ _⟩
 . have e1 : (a0.toList == []) = false := by simp [h1]
   by_cases h2 : a0.toList = [46]
   . have e2 : (a0.toList == [46]) = true := by simp [h2]
     have hr : r = true := by rw [h2] at h; simpa using h.symm
     subst hr; clear h hc h1 h2; go_enter Tryz.func136, Tryz.ntmps136
     go_wp2; go_ret
     exact ⟨rfl, zpt _ _⟩
   . have e2 : (a0.toList == [46]) = false := by simp [h2]
     by_cases h3 : a0.toList = [46, 46]
     . have e3 : (a0.toList == [46, 46]) = true := by simp [h3]
       have hr : r = true := by rw [h3] at h; simpa using h.symm
       subst hr; clear h hc h1 h2 h3; go_enter Tryz.func136, Tryz.ntmps136
       go_wp2; go_ret
       exact ⟨rfl, zpt _ _⟩
     . have e3 : (a0.toList == [46, 46]) = false := by simp [h3]
       have hr : r = q := by rw [e1, e2, e3] at h; simpa using h.symm
       subst hr; clear h h1 h2 h3; go_enter Tryz.func136, Tryz.ntmps136
       go_wp2_with (go_at_call 172; refine hc.mono ?_; rintro e w2 ⟨rfl, hb2⟩)
       go_ret
       exact ⟨rfl, hb2⟩

end Go.Proofs.YtdpgdnpddndeoaaGreatDoor.X

namespace Go.Proofs.YtdpgdnpddndeoaaGreatDoor.X
open Go.RowKit Go.Sort Go.Proofs.YtdpgdnpddndeoaaGreatDoorW.PrintWords
theorem zpm {w : World} {g n : Nat} {os : Array Obj} {cur : Array Value} {e : TypeId} {fr : Nat × Nat} (d : Array ByteArray) (hb : w.heap[g]? = some (.cells cur e fr)) :
 (grow (putRow Value.string (Sort.ahead w n) g 0 d) os).heap[g]? = some (.cells (putCells Value.string 0 d cur) e fr) := by
 have hg : g < w.heap.size := (zpv.1 hb).1; rw [heap_grow_old _ _ (by simpa using hg)]
 simp [putRow, mapBlock, Sort.ahead, zqb, hb, onCells]
theorem zhE {w : World} {g n : Nat} {os : Array Obj} (d : Array ByteArray) : w.grownBy (grow (putRow Value.string (Sort.ahead w n) g 0 d) os) (some g) := by
 refine ⟨rfl, rfl, rfl, by simp, fun k hk hne => ?_⟩
 rw [heap_grow_old _ _ (by simpa using hk)]
 have : g ≠ k := fun e => hne (by rw [e])
 simp [putRow, mapBlock, Sort.ahead, zqb, this]
theorem zkF (cur : Array Value) (ts rest : List ByteArray) (h : ts.length + rest.length <= cur.size) : (putCells Value.string 0 (ts ++ rest).toArray cur).toList.take ts.length = ts.map Value.string := by
 apply List.ext_getElem?
 intro j; by_cases hj : j < ts.length
 . rw [zqg hj, zqd]
   simp [putCells, hj, show j < cur.size by omega, show j < ts.length + rest.length by omega, List.getElem_append_left]
 . rw [List.getElem?_take_eq_none (by omega), List.getElem?_eq_none (by simp; omega)]
theorem zhi {B : Nat} {w w1 : World} {g : Nat} (hg : w.grownBy w1 (some g)) (hB : B <= w.heap.size) (hBg : B <= g) : Below B w w1 := (zpt B w).grown hg hB (fun k hk => by cases hk; exact hBg)
theorem znK {w : World} {g : Nat} {cur : Array Value} {e : TypeId} {ss : List ByteArray} (hb : w.heap[g]? = some (.cells cur e (0, 0))) (ht : cur.toList.take ss.length = ss.map Value.string) : Holds Value.string w g 0 ss.toArray := by
 intro j hj; have hj' : j < ss.length := by simpa using hj
 refine ⟨?_, by simp [World.frozen?, hb]⟩
 have h1 : (cur.toList.take ss.length)[j]? = (ss.map Value.string)[j]? := by rw [ht]
 rw [zqg hj'] at h1; simp only [World.cell?, hb, Nat.zero_add]; simp only [zqh, Bool.false_eq_true, if_false]; rw [<- zqd, h1]; simp [hj']

theorem zoR (B base g : Nat) (lb : Array Value) (eg : ∀ args w, (callFunc g args).run Tryz.prog w = .ok (.enter g args) w) (p : ByteArray -> Bool) (v : Value) (l : List ByteArray) (w : World)
 (hown : w.ownsRow base 9 1 v l.length (encs Value.string l)) (hB : B <= base) (hBw : B <= w.heap.size) (hp : ∀ (W : World) (x : ByteArray), Below B w W -> Go.Proofs.FnGives Tryz.prog g lb #[.string x] (.bool (p x)) W) :
 Calls Tryz.prog 86 #[v, .func (.func g) #[] lb] w fun e w' => ∃ v', e = .returned v' /\ w'.ownsRow base 9 1 v' (l.filter fun x => !p x).length (encs Value.string (l.filter fun x => !p x)) /\ v'.ownBlock = v.ownBlock /\ w.grownBy w' v.ownBlock := by
 have hlen : l.length <= 9223372036854775807 := by
  rcases hown.2 with ⟨_, h0⟩ | ⟨_, cap, cur, _, _, _, h1, h2, _⟩
  . omega
  . simp only [maxLen] at h2; omega
 rcases hown.2 with ⟨rfl, h0⟩ | ⟨gb, cap, cur, rfl, hbase, hb, h1, h2, h3, h4⟩
 . obtain rfl : l = [] := List.eq_nil_of_length_eq_zero h0
   have hI := zh7 g lb eg p none 0 [] w ⟨rfl, by simp, fun h => absurd h (by simp)⟩ (fun W x hb => (hp W x (hb.mono hBw)).mono fun e w' ⟨he, q, hw⟩ => ⟨he, by subst hw; exact zak (zpt _ _) q⟩)
   clear hp hown h0; go_enter Tryz.func86, Tryz.ntmps86
   go_wp2_with fail; refine hI.mono ?_; rintro e w2 ⟨i, rfl, hq, hi, hb2⟩; have hi' : i = -1 := by
    rcases hi with hi | hi
    . exact hi
    . simp [hi] at hq
   subst hi'; clear hq hi hI; go_wp2; go_ret
   exact ⟨.slice none 0 0, rfl, zcQ _ _ _ _, rfl, zb6 hb2 _⟩
 . have hH : Holds Value.string w gb 0 l.toArray := znK hb (by simpa [encs] using h4)
   have hcall := Go.Proofs.AnyE.slices_DeleteFunc Go.Proofs.Tryz.laysDel Value.string (fun _ => rfl) p g lb eg ByteArray.empty Tryz.zeroValue9 gb 0 cap l.toArray w
    (fun W x hb => hp W x (hb.mono hBw))
    (fun n os dk x _ => hp _ x (zhi (zhE dk) hBw (by omega))) hH (by simpa using hlen) (by simpa using h1)
   change Calls Tryz.prog 86 _ _ _ at hcall
   refine hcall.mono fun e w' ⟨he, q, hw⟩ => ?_
   have hf : (l.filter fun x => !p x).length <= l.length := zqi _ _
   have hg0 : w' = grow (putRow Value.string (Sort.ahead w q) gb 0 ((l.filter fun x => !p x) ++ List.replicate (l.length - (l.filter fun x => !p x).length) ByteArray.empty).toArray) #[] := by rw [hw]; simp
   refine ⟨_, he, ?_, rfl, ?_⟩
   . refine ⟨by simp [encs], .inr ⟨gb, cap, _, rfl, hbase, by rw [hg0]; exact zpm _ hb, by simpa using zpA hf h1, h2, by simp [putCells, h3], ?_⟩⟩
     simp only [Nat.mul_one]; exact zkF cur _ _ (by rw [List.length_replicate]; omega)
   . rw [hg0]; exact zhE _

end Go.Proofs.YtdpgdnpddndeoaaGreatDoor.X

namespace Go.Proofs.YtdpgdnpddndeoaaGreatDoor.X
open Go.RowKit Go.Proofs.YtdpgdnpddndeoaaGreatDoorW.PrintWords
theorem eg44 : ∀ args w, (callFunc 136 args).run Tryz.prog w = .ok (.enter 136 args) w := Go.Proofs.enters_of Tryz.func136 (by kernel_rfl) rfl
theorem zn4 (w : World) (hG : GOK w) : zdS 136 #[] (fun x => bad x.data.toList) w := fun W x hb => path_bad.calls x _ W (hG.below hb) rfl
theorem zlz (s : ByteArray) (w : World) (hG : GOK w) (hs : s.size < 4294967281) :
 Calls Tryz.prog 135 #[.string s] w fun e w' => ∃ v : Value, e = .returned v /\ Kd.R Kd.string 9 w' w.heap.size (fun _ => True) v ((parts s.data.toList).map mk) /\ Below w.heap.size w w' :=
 Pb.path_Parts.calls s _ w hG (by unfold Pb.path_Parts.f; rw [strings_Split.one s 47 hs]; rfl)

def path_May.f (a0 : ByteArray) : Option Bool := some (may a0.data.toList)
theorem path_May.calls (a0 : ByteArray) (r : Bool) (w : World) (hG : GOK w) (h : path_May.f a0 = some r) :
 Calls Tryz.prog 102 #[.string a0] w fun e w' => e = .returned (.bool r) /\ Below w.heap.size w w' := by
 have hr : may a0.data.toList = r := zp2 h; clear h; unfold may at hr; rw [<- zp8, <- za4] at hr; by_cases h1 : a0.toList = [114, 117, 108, 101]
 . have e1 : (a0.toList == [114, 117, 108, 101]) = true := by simp [h1]
   rw [e1] at hr; have hr' : r = false := by simpa using hr.symm
   subst hr'; clear hr h1; go_enter Tryz.func102, Tryz.ntmps102
   go_wp2; go_ret
   exact ⟨rfl, zpt _ _⟩
 have e1 : (a0.toList == [114, 117, 108, 101]) = false := by simp [h1]
 by_cases h2 : a0.toList = [105, 110]
 . have e2 : (a0.toList == [105, 110]) = true := by simp [h2]
   rw [e2] at hr; have hr' : r = false := by simpa using hr.symm
   subst hr'; clear hr h1 h2; go_enter Tryz.func102, Tryz.ntmps102
   go_wp2; go_ret
   exact ⟨rfl, zpt _ _⟩
 have e2 : (a0.toList == [105, 110]) = false := by simp [h2]
 by_cases h3 : a0.toList = [111, 117, 116]
 . have e3 : (a0.toList == [111, 117, 116]) = true := by simp [h3]
   rw [e3] at hr; have hr' : r = false := by simpa using hr.symm
   subst hr'; clear hr h1 h2 h3; go_enter Tryz.func102, Tryz.ntmps102
   go_wp2; go_ret
   exact ⟨rfl, zpt _ _⟩
 have e3 : (a0.toList == [111, 117, 116]) = false := by simp [h3]
 by_cases h4 : a0.toList = [97, 102, 116, 101, 114]
 . have e4 : (a0.toList == [97, 102, 116, 101, 114]) = true := by simp [h4]
   rw [e4] at hr; have hr' : r = false := by simpa using hr.symm
   subst hr'; clear hr h1 h2 h3 h4; go_enter Tryz.func102, Tryz.ntmps102
   go_wp2; go_ret
   exact ⟨rfl, zpt _ _⟩
 have e4 : (a0.toList == [97, 102, 116, 101, 114]) = false := by simp [h4]
 rw [e1, e2, e3, e4] at hr; clear h1 h2 h3 h4; by_cases hl : a0.size <= 40
 . have hl1 : decide ((a0.size : Int) <= 40) = true := by simp; omega
   have hl2 : decide (a0.size <= 40) = true := by simp [hl]
   have hr' : r = !(parts a0.toList).any bad := by rw [hl2] at hr; simpa using hr.symm
   clear hr hl2; have hP := zlz a0 w hG (by omega)
   rw [<- za4] at hP; generalize hps : (parts a0.toList).map mk = ps at hP; have HPS := zpq hps; clear hps; have HG := zpq hG; clear hG; have HR := zpq hr'; clear hr'; go_enter Tryz.func102, Tryz.ntmps102
   go_wp2_with fail; refine hP.mono ?_; rintro e w2 ⟨v, rfl, hv, hb2⟩; obtain ⟨A, c, rfl, hc, hrd⟩ := Kd.R_reads hv; have hC := zd6 136 #[] eg44 (fun x => bad x.data.toList) A c _ w2 hrd (zn4 w2 (HG.out.below hb2))
   have ea : ps.any (fun x => bad x.data.toList) = (parts a0.toList).any bad := by
    rw [<- HPS.out]; simp only [List.any_map, Function.comp_def, zbb]
   rw [ea] at hC; clear hv hrd hc ea hP HPS; generalize (parts a0.toList).any bad = q at hC HR; go_wp2_with fail; refine hC.mono ?_; rintro e w3 ⟨rfl, hb3⟩; go_wp2; go_ret
   exact ⟨by rw [HR.out]; rfl, zad hb2 hb2.size hb3⟩
 . have hl1 : decide ((a0.size : Int) <= 40) = false := by simp; omega
   have hl2 : decide (a0.size <= 40) = false := by simp [hl]
   have hr' : r = false := by rw [hl2] at hr; simpa using hr.symm
   subst hr'; clear hr hl2; go_enter Tryz.func102, Tryz.ntmps102
   go_wp2; go_ret
   exact ⟨rfl, zpt _ _⟩

theorem zlv {B : Nat} {w w1 w2 : World} {v : Value} (h : Below B w w1) (hB : B <= w1.heap.size) (hg : w1.grownBy w2 v.ownBlock) (hv : ∀ k, v.ownBlock = some k -> B <= k) : Below B w w2 := h.grown hg hB hv

theorem zdb (A : Option Addr) (c : Nat) (l : List ByteArray) (w : World) (hr : Kd.C Kd.string w A l.length l) (hl : l.length * 16 <= 140737488355328) :
 Calls Tryz.prog 99 #[.slice A l.length c] w fun e w' => ∃ v', e = .returned v' /\ w'.ownsRow w.heap.size 9 1 v' l.length (encs Value.string l) /\ Below w.heap.size w w' := by
 rcases zaL hr with rfl | ⟨b, o, rfl, _, hcell⟩
 . cases A with
   | none =>
    have h := Go.Proofs.Any.slices_Clone_string_nil Go.Proofs.Tryz.laysClone 0 c w; change Calls Tryz.prog 99 _ _ _ at h
    exact h.mono fun e w' ⟨he, hw⟩ => ⟨_, he, zcQ _ _ _ _, by subst hw; exact zpt _ _⟩
   | some a =>
    have h := Go.Proofs.Any.slices_Clone_string_zero Go.Proofs.Tryz.laysClone a c w; change Calls Tryz.prog 99 _ _ _ at h
    exact h.mono fun e w' ⟨v', he, ho, _, hb⟩ => ⟨v', he, ho, hb⟩
 . have h := Go.Proofs.Any.slices_Clone_string Go.Proofs.Tryz.laysClone b o l.length c l w (zpu _) hl hcell
   change Calls Tryz.prog 99 _ _ _ at h
   exact h.mono fun e w' ⟨v', he, ho, _, hb⟩ => ⟨v', he, by rw [zqa] at ho; exact ho, hb⟩

theorem eg46 : ∀ args w, (callFunc 224 args).run Tryz.prog w = .ok (.enter 224 args) w := Go.Proofs.enters_of Tryz.func224 (by kernel_rfl) rfl
def path_Join.f (l0 : List ByteArray) : Option ByteArray :=
 if l0.length * 16 <= 140737488355328 /\ (join (l0.map (·.data.toList))).length <= 140737488355328 then some (mk (join (l0.map (·.data.toList)))) else none
theorem znv (l : List ByteArray) : ((l.filter fun x => !(x.toList == [])).map (·.data.toList)) = (l.map (·.data.toList)).filter fun s => !(s == []) := by
 rw [List.filter_map]; congr 1
 simp only [za4]; rfl
theorem path_Join.calls (A0 : Option Addr) (c0 : Nat) (l0 : List ByteArray) (r : ByteArray) (w : World) (hG : GOK w) (hr0 : Kd.C Kd.string w A0 l0.length l0) (_hc0 : l0.length <= c0) (h : path_Join.f l0 = some r) :
 Calls Tryz.prog 187 #[.slice A0 l0.length c0] w fun e w' => e = .returned (.string r) /\ Below w.heap.size w w' := by
 unfold path_Join.f at h; split at h
 . rename_i hs
   have hr := zp2 h; have h1 := zdb A0 c0 l0 w hr0 hs.1; have hjoin : strings_Join.f (l0.filter fun x => !(x.toList == [])) (⟨#[47]⟩ : ByteArray) = some r := by
    unfold strings_Join.f; rw [znv]; have hlen : (l0.filter fun x => !(x.toList == [])).length <= l0.length := zqi _ _
    rw [if_pos ⟨by omega, hs.2⟩, <- hr]
    rfl
   clear h hr hr0; generalize hf : (l0.filter fun x => !(x.toList == [])) = lf at hjoin
   have HF := zpq hf; clear hf; have HJ := zpq hjoin; clear hjoin; have HG := zpq hG; clear hG hs; go_enter Tryz.func187, Tryz.ntmps187
   go_wp2_with fail; refine h1.mono ?_; rintro e w1 ⟨v1, rfl, ho1, hb1⟩; have h2 := zoR w.heap.size w.heap.size 224 #[] eg46 (fun x => x.toList == []) v1 l0 w1 ho1 (zpu _) hb1.size (fun W x hb => by
    refine (Pa.path_Join_1.calls x (x.toList == []) W (HG.out.below (hb1.trans hb)) rfl).mono fun e w' ⟨he, hd⟩ => ⟨he, hd.out⟩)
   rw [HF.out] at h2; have HB1 := zpq hb1; have HV1 : Hid (∀ k, v1.ownBlock = some k -> w.heap.size <= k) := zcy ho1; clear hb1 ho1 h1; go_wp2_with fail; refine h2.mono ?_; rintro e w2 ⟨v2, rfl, ho2, _, hg2⟩; have hb2 : Below w.heap.size w w2 := zlv HB1.out HB1.out.size hg2 HV1.out; obtain ⟨A, c, rfl, hc, hrd⟩ := Kd.R_reads (Kd.R_of_own (h1 := fun _ => rfl) (ok := fun _ => True) ho2 (fun _ _ => trivial))
   have h3 := strings_Join.calls A c lf (⟨#[47]⟩ : ByteArray) r w2 (HG.out.below hb2) hrd hc HJ.out; clear ho2 hg2 hc hrd h2; go_wp2_with fail; refine h3.mono ?_; rintro e w3 ⟨rfl, hb3⟩; go_wp2; go_ret
   exact ⟨rfl, zad hb2 hb2.size hb3⟩
 . cases h

theorem zmy (n : Int) (h : 0 <= n) : Lib.itoa n = zaK n := by
 unfold Lib.itoa zaK; rw [if_neg (by omega)]
theorem zfM (n : Int) (h0 : 0 <= n) (h1 : n <= 9223372036854775807) (w : World) (hG : GOK w) :
 Calls Tryz.prog 82 #[.int .i64 n] w fun e w' => e = .returned (.string (mk (zaK n))) /\ Below w.heap.size w w' := by
 refine Pb.mint_Number.calls n _ w hG ?_; unfold Pb.mint_Number.f; have e : mx n 0 = n := by unfold mx; omega
 rw [e]; unfold strconv_Itoa.f; rw [if_pos ⟨by omega, h1⟩, zmy n h0]
 rfl

def zeK (s : zaa) (most : Int) : Int × Bool :=
 match Lib.atoiAll s with
 | .ok v => if v < 0 then (0, false) else if most < v then (0, false) else if zaK v == s then (v, true) else (0, false)
 | _ => (0, false)
def mint_GetNumber.f (a0 : ByteArray) (a1 : Int) : Option (Int × Bool) := if a0.size <= 281474976710656 then some (zeK a0.data.toList a1) else none
theorem mint_GetNumber.calls (a0 : ByteArray) (a1 : Int) (r1 : Int) (r2 : Bool) (w : World) (hG : GOK w) (h : mint_GetNumber.f a0 a1 = some (r1, r2)) :
 Calls Tryz.prog 186 #[.string a0, .int .i64 a1] w fun e w' => e = .returned (.tuple #[.int .i64 r1, .bool r2]) /\ Below w.heap.size w w' := by
 unfold mint_GetNumber.f at h; split at h
 . rename_i hs
   have hr := zp2 h; clear h; unfold zeK at hr; cases ha : Lib.atoiAll a0.data.toList
   . rename_i v
     rw [ha] at hr; dsimp only at hr; obtain ⟨hv0, hv1⟩ := Lib.atoiAll_bounds ha; have hA := Go.Proofs.Any.strconv_Atoi_ok Go.Proofs.Tryz.laysC172 a0 (by omega) v ha w
     change Calls Tryz.prog 223 _ _ _ at hA
     have hA' : Calls Tryz.prog 223 #[.string a0] w fun e w' => e = .returned (.tuple #[.int .i64 v, .nilIface]) /\ Below w.heap.size w w' := hA.mono fun e w' ⟨he, hw⟩ => ⟨he, by
      rcases hw with hw | ⟨t, hw⟩
      . subst hw; exact zpt _ _
      . subst hw; exact Go.Joins.below_bytesWorld _ _ _ _ (zpu _)⟩
     clear hA ha; by_cases hn : v < 0
     . have hd : decide (v < 0) = true := by simp [hn]
       rw [if_pos hn] at hr; cases hr
       clear hG; go_enter Tryz.func186, Tryz.ntmps186
       go_wp2_with (go_at_call 223; refine hA'.mono ?_; rintro e w2 ⟨rfl, hb2⟩)
       go_ret2
       exact ⟨rfl, hb2⟩
     have hd : decide (v < 0) = false := by simp; omega
     rw [if_neg hn] at hr; by_cases hm : a1 < v
     . have hd2 : decide (a1 < v) = true := by simp [hm]
       rw [if_pos hm] at hr; cases hr
       clear hG; go_enter Tryz.func186, Tryz.ntmps186
       go_wp2_with (go_at_call 223; refine hA'.mono ?_; rintro e w2 ⟨rfl, hb2⟩)
       go_ret2
       exact ⟨rfl, hb2⟩
     have hd2 : decide (a1 < v) = false := by simp; omega
     rw [if_neg hm, <- za4] at hr; have HG := zpq hG; clear hG; have hN := fun W (h : GOK W) => zfM v (by omega) hv1 W h
     have et : (mk (zaK v)).toList = zaK v := zjo _; generalize mk (zaK v) = nv at hN et; rw [<- et] at hr; clear et; by_cases hq : nv.toList = a0.toList
     . have e1 : (nv.toList != a0.toList) = false := by simp [hq]
       have e2 : (nv.toList == a0.toList) = true := by simp [hq]
       rw [e2] at hr; cases hr
       clear hq; have HN := zpq hN; clear hN; go_enter Tryz.func186, Tryz.ntmps186
       go_wp2_with fail; refine hA'.mono ?_; rintro e w2 ⟨rfl, hb2⟩; go_wp2_with (go_at_call 82; refine (HN.out _ (HG.out.below hb2)).mono ?_; rintro e w3 ⟨rfl, hb3⟩)
       go_ret2
       exact ⟨rfl, zad hb2 hb2.size hb3⟩
     . have e1 : (nv.toList != a0.toList) = true := by simp [hq]
       have e2 : (nv.toList == a0.toList) = false := by simp [hq]
       rw [e2] at hr; cases hr
       clear hq; have HN := zpq hN; clear hN; go_enter Tryz.func186, Tryz.ntmps186
       go_wp2_with fail; refine hA'.mono ?_; rintro e w2 ⟨rfl, hb2⟩; go_wp2_with (go_at_call 82; refine (HN.out _ (HG.out.below hb2)).mono ?_; rintro e w3 ⟨rfl, hb3⟩)
       go_ret2
       exact ⟨rfl, zad hb2 hb2.size hb3⟩
   . rw [ha] at hr
     cases hr
     obtain ⟨te, pe, hev⟩ := hG.errS; have hA := Go.Proofs.Any.strconv_Atoi_syntax Go.Proofs.Tryz.laysC172 a0 hs ha _ w hev (.inr ⟨te, pe, rfl⟩); change Calls Tryz.prog 223 _ _ fun e w' => ∃ N, e = .returned (.tuple #[_, .iface 255 _]) /\ _ at hA
     clear hG hev ha; go_enter Tryz.func186, Tryz.ntmps186
     go_wp2_with (go_at_call 223; refine hA.mono ?_; rintro e w2 ⟨N, rfl, _, _, hb2⟩)
     go_ret2
     exact ⟨rfl, hb2⟩
   . rw [ha] at hr
     cases hr
     obtain ⟨te, pe, hev⟩ := hG.errR; have hA := Go.Proofs.Any.strconv_Atoi_range Go.Proofs.Tryz.laysC172 a0 hs ha _ w hev (.inr ⟨te, pe, rfl⟩); change Calls Tryz.prog 223 _ _ fun e w' => ∃ N, e = .returned (.tuple #[_, .iface 255 _]) /\ _ at hA
     clear hG hev ha; generalize Lib.atoiSat a0.data.toList = sat at hA; go_enter Tryz.func186, Tryz.ntmps186
     go_wp2_with (go_at_call 223; refine hA.mono ?_; rintro e w2 ⟨N, rfl, _, _, hb2⟩)
     go_ret2
     exact ⟨rfl, hb2⟩
 . cases h

theorem zml {T e : TypeId} {B b : Nat} {bs : List Value} {w w1 : World} (h : Lib.IsBuilder T e B b bs w) (hb : Below w.heap.size w w1) : Lib.IsBuilder T e B b bs w1 := by
 have one : ∀ p, Lib.BuilderAt T e B b p bs w -> Lib.BuilderAt T e B b p bs w1 := by
  rintro p ⟨hB, v, hh, ho, hne⟩; exact ⟨hB, v, (hb.block b (zpv.1 hh).1).trans hh, zfz ho hb, hne⟩
 rcases h with h | h
 . exact .inl (one _ h)
 . exact .inr (one _ h)
theorem zpc (l m : zaa) (s : ByteArray) (h : s.data.toList = m) : Lib.byteCells l ++ Lib.strCells s = Lib.byteCells (l ++ m) := by
 subst h; unfold Lib.byteCells Lib.strCells; rw [zqj]
theorem zme (l : zaa) : (Lib.byteCells l).length = l.length := by simp [Lib.byteCells]
theorem zlP (l : List zaa) (k : Nat) (h : k < l.length) : put (l.take (k + 1)) = put (l.take k) ++ (zaK (l[k].length) ++ [58] ++ l[k]) := by
 unfold put; rw [zpW h, zqj, List.flatten_append]; simp
theorem zlM (l : List zaa) (k : Nat) : (put (l.take k)).length <= (put l).length := by
 have : put l = put (l.take k) ++ put (l.drop k) := by
  unfold put; rw [<- List.flatten_append, <- zqj, List.take_append_drop]
 rw [this, zpH]; omega

theorem zhD (B b : Nat) (l : zaa) (s : ByteArray) (w : World) (h : Lib.IsBuilder 150 5 B b (Lib.byteCells l) w) (hlen : l.length + s.size <= 140737488355328) (hBw : B <= w.heap.size) :
 Calls Tryz.prog 124 #[.pointer (some ⟨b, 0, none⟩), .string s] w fun e w' => e = .returned (.tuple #[.int .i64 s.size, .nilIface]) /\ Lib.IsBuilder 150 5 B b (Lib.byteCells (l ++ s.data.toList)) w' /\ Below B w w' := by
 have hcall := Go.Proofs.Any.Builder_WriteString { Go.Proofs.Tryz.lays156 with } zet B b (Lib.byteCells l) s w h (by rw [zme]; exact hlen) hBw
 change Calls Tryz.prog 124 _ _ _ at hcall
 refine hcall.mono fun e w' ⟨he, hb, hB⟩ => ⟨he, .inr ?_, hB⟩
 rw [zpc l s.data.toList s rfl] at hb; exact hb
theorem zgt (B b : Nat) (l : zaa) (w : World) (h : Lib.IsBuilder 150 5 B b (Lib.byteCells l) w) (hBw : B <= w.heap.size) :
 Calls Tryz.prog 125 #[.pointer (some ⟨b, 0, none⟩)] w fun e w' => e = .returned (.string (mk l)) /\ Below B w w' := by
 have hcall := Go.Proofs.Any.Builder_String_any { Go.Proofs.Tryz.lays156 with } zet B b l w h hBw; change Calls Tryz.prog 125 _ _ _ at hcall
 exact hcall

def mint_Put.f (l0 : List ByteArray) : Option ByteArray := if (put (l0.map (·.data.toList))).length <= 140737488355328 then some (mk (put (l0.map (·.data.toList)))) else none
theorem mint_Put.calls (A0 : Option Addr) (c0 : Nat) (l0 : List ByteArray) (r : ByteArray) (w : World) (hG : GOK w) (hr0 : Kd.C Kd.string w A0 l0.length l0) (_hc0 : l0.length <= c0) (h : mint_Put.f l0 = some r) :
 Calls Tryz.prog 188 #[.slice A0 l0.length c0] w fun e w' => e = .returned (.string r) /\ Below w.heap.size w w' := by
 unfold mint_Put.f at h; split at h
 . rename_i hs
   have hr : mk (put (l0.map (·.data.toList))) = r := zp2 h; clear h; have hlen : l0.length <= 9223372036854775807 := hr0.2.1; have HS : Hid ((put (l0.map (·.data.toList))).length <= 140737488355328) := hs; have HR := zpq hr; have HG := zpq hG; have HC : Hid (l0 = [] \/ ∃ b o, A0 = some ⟨b, o, none⟩ /\ b < w.heap.size /\ ∀ j, j < l0.length -> w.cell? ⟨b, o + j, none⟩ = some (.string (l0.getD j ByteArray.empty))) := zaL hr0; clear hs hr hG hr0; go_enter Tryz.func188, Tryz.ntmps188
   go_wp2_with fail; go_loopg [5, 8] l0.length (fun gg _ s8 wr => ∃ kk : Nat, kk <= l0.length /\ l0.length - kk <= gg /\ s8 = .int .i64 kk /\ Aside0 (Lib.IsBuilder 150 5 w.heap.size w.heap.size (Lib.byteCells (put ((l0.map (·.data.toList)).take kk))) wr) /\ Aside0 (Below w.heap.size w wr))
   case atStart =>
    refine ⟨0, zqf _, by omega, rfl, ⟨.inl ⟨zpu _, .slice none 0 0, heap_alloc_new w _, zcQ _ _ _ _, by simp [Value.ownBlock]⟩⟩, ⟨(zpt _ _).alloc (zpu _) _⟩⟩
   case round =>
    obtain ⟨kk, hkk, hgk, rfl, HB, HW⟩ := hrel; by_cases hlt : kk < l0.length
    . have hltz : (kk : Int) < (l0.length : Int) := by omega
      obtain ⟨y, hy⟩ : ∃ y, y = l0.getD kk ByteArray.empty := ⟨_, rfl⟩; rcases HC.out with h0 | ⟨b, o, rfl, hb, hcell⟩
      . exfalso; rw [h0] at hlt; simp at hlt
      have hx : wr.cell? ⟨b, o + kk, none⟩ = some (.string y) := by rw [hy]; exact zaf HW.out (hcell kk hlt)
      have hk : kk < (l0.map (·.data.toList)).length := by simpa using hlt
      have hyk : (l0.map (·.data.toList))[kk] = y.data.toList := by rw [hy]; simp [zpy, zpx hlt]
      have hput : put ((l0.map (·.data.toList)).take (kk + 1)) = put ((l0.map (·.data.toList)).take kk) ++ (zaK (y.size) ++ [58] ++ y.data.toList) := by
       rw [zlP _ kk hk, hyk, <- zp8]
      have hle : (put ((l0.map (·.data.toList)).take kk)).length + (zaK y.size ++ [58] ++ y.data.toList).length <= 140737488355328 := by
       have := zlM (l0.map (·.data.toList)) (kk + 1); rw [hput, zpH] at this; exact zpA this HS.out
      have hsz : y.size <= 140737488355328 := by
       have e := zp8 y; simp only [zpH] at hle; omega
      have hnl : (zaK y.size).length <= 140737488355328 := by simp only [zpH] at hle; omega
      clear hcell hb; have HP := zpq hput; have HL : Hid ((put ((l0.map (·.data.toList)).take kk)).length + (zaK y.size ++ [58] ++ y.data.toList).length <= 140737488355328) := hle; have HN := zfM (y.size : Int) (by omega) (by omega) wr (HG.out.below HW.out)
      have ens : (mk (zaK y.size)).size = (zaK (y.size : Int)).length := zaZ _; have end_ : (mk (zaK y.size)).data.toList = zaK (y.size : Int) := zbb _; generalize mk (zaK (y.size : Int)) = nv at HN ens end_; have hnv : nv.size <= 140737488355328 := by omega
      have END := zpq end_; clear hy hput hle hyk hk ens end_ hnl; have hd1 : nv.size + 1 <= 9223372036854775807 := by omega
      go_wp2_with fail; refine HN.mono ?_; rintro e w1 ⟨rfl, hb1⟩; go_wp2_with fail; refine (zhD w.heap.size w.heap.size _ _ _ (zml HB.out hb1) ?_ (zpA HW.out.size hb1.size)).mono ?_
      . have h1 := HL.out
        have e3 := congrArg List.length END.out; rw [<- zp8] at e3; have e4 := zp8 y; simp only [zpH, List.length_singleton] at h1; simp only [ByteArray.size_append]; show _ + (nv.size + 1 + y.size) <= _
        omega
      rintro e w2 ⟨rfl, hB2, hb2⟩; go_wp2; go_roundg (l0.length - (kk + 1))
      case measure => omega
      case rel =>
       refine ⟨kk + 1, by omega, by omega, by go_num, ⟨?_⟩, ⟨(HW.out.trans (hb1.mono HW.out.size)).trans hb2⟩⟩
       rw [HP.out]; have e5 : (nv ++ (⟨#[58]⟩ : ByteArray) ++ y).data.toList = zaK y.size ++ [58] ++ y.data.toList := by
        rw [data_append, data_append, END.out]
       rw [<- e5]; exact hB2
    . have hltz : ¬ (kk : Int) < (l0.length : Int) := by omega
      obtain rfl : kk = l0.length := by omega
      have hB := HB.out; rw [List.take_of_length_le (by simp)] at hB
      clear HB; go_wp2_with (go_at_call 125; refine (zgt w.heap.size w.heap.size _ _ hB HW.out.size).mono ?_; rintro e w2 ⟨rfl, hb2⟩)
      go_ret
      exact ⟨by rw [<- HR.out]; rfl, HW.out.trans hb2⟩
 . cases h

end Go.Proofs.YtdpgdnpddndeoaaGreatDoor.X

namespace Go.Proofs.YtdpgdnpddndeoaaGreatDoor.X
open Go.RowKit Go.Maps Go.Proofs.YtdpgdnpddndeoaaGreatDoorW.PrintWords
abbrev TM := List (zaa × zaa)
def encT (m : TM) : DataW Unit := .map (m.map fun p => (.string p.1, .lit (.string p.2)))
def insT (x : zaa × zaa) : TM -> TM
 | [] => [x]
 | y :: r => if bytesBefore x.1 y.1 then x :: y :: r else y :: insT x r
def delT (m : TM) (k : zaa) : TM := m.filter fun p => !(p.1 == k)
def putT (m : TM) (k v : zaa) : TM := insT (k, v) (delT m k)
def getT (m : TM) (k : zaa) : Option zaa := (m.find? fun p => p.1 == k).map (·.2)
def keyT (m : TM) : zaa := put (m.flatMap fun p => [p.1, p.2])
def zcg (m : TM) (k v : zaa) : TM × Int := if may k = false then (m, 1) else if 2000 < v.length \/ getT m k = none /\ 60 <= m.length then (m, 4) else (putT m k v, 0)
def zeC (m : TM) (k : zaa) : TM × Int := if getT m k = none then (m, 6) else (delT m k, 0)

theorem ziH (m : TM) (k : zaa) : (encT m).del (.string k) = encT (delT m k) := by
 unfold encT delT DataW.del; simp only [List.filter_map]; rfl
theorem zic (x : zaa × zaa) : ∀ m : TM, DataW.insert (H := Unit) (.string x.1, .lit (.string x.2)) (m.map fun p => (.string p.1, .lit (.string p.2))) = (insT x m).map fun p => (.string p.1, .lit (.string p.2))
 | [] => rfl
 | y :: r => by
  simp only [zpU, DataW.insert, insT]; show (if bytesBefore x.1 y.1 = true then _ else _) = _
  split
  . rfl
  . rw [zic x r]; rfl
theorem zkp (m : TM) (k v : zaa) : (encT m).put (.string k) (.lit (.string v)) = encT (putT m k v) := by
 have h := ziH m k; unfold encT DataW.del at h; unfold DataW.put encT putT; simp only [DataW.map.injEq] at h |-; rw [h]; exact zic (k, v) _
theorem zkv (m : TM) (k : zaa) : ((m.map fun p => ((.string p.1 : Lit), (.lit (.string p.2) : DataW Unit))).find? fun p => p.1.sameKey (.string k)) = (m.find? fun p => p.1 == k).map fun p => (.string p.1, .lit (.string p.2)) := by
 rw [List.find?_map]; rfl
theorem zpo (m : TM) (k : zaa) : Maps.has (encT m) (.string k) = (getT m k).isSome := by
 unfold encT getT; rw [Maps.has_eq, List.any_map]; rw [Option.isSome_map, List.isSome_find?]; rfl
theorem zgR (m : TM) (k : zaa) : (encT m).atKey (.string k) (.lit (.string [])) = .lit (.string ((getT m k).getD [])) := by
 unfold encT getT DataW.atKey; simp only [zkv]; cases m.find? fun p => p.1 == k <;> rfl
theorem zej (m : TM) : Maps.size (encT m) = m.length := by
 unfold encT; rw [Maps.size_eq, zp6]

structure IsTree (w : World) (g b : Nat) (m : TM) : Prop where
 cell : w.heap[g]? = some (.cells #[.map (some b)] 100 (0, 0))
 map : w.ownsMap Tryz.prog 9 (plainElem Tryz.prog 9) b m.length (encT m)
theorem zit {w : World} {b n : Nat} {m : TM} (h : w.ownsMap Tryz.prog 9 (plainElem Tryz.prog 9) b n (encT m)) : w.ownsMap Tryz.prog 9 (plainElem Tryz.prog 9) b m.length (encT m) := by
 obtain ⟨es, clock, hb, F, _, hD⟩ := h; refine ⟨es, clock, hb, F, ?_, hD⟩; have := zej m; rw [hD] at this; simp only [Maps.size, length_sorted, zp6, Array.length_toList] at this; omega
theorem IsTree.c {w : World} {g b : Nat} {m : TM} (h : IsTree w g b m) : w.cell? ⟨g, 0, none⟩ = some (.map (some b)) := by
 simp [World.cell?, h.cell]
theorem IsTree.lt {w : World} {g b : Nat} {m : TM} (h : IsTree w g b m) : g < w.heap.size /\ b < w.heap.size := ⟨(zpv.1 h.cell).1, h.map.lt⟩
theorem IsTree.ne {w : World} {g b : Nat} {m : TM} (h : IsTree w g b m) : g ≠ b := by
 rintro rfl; obtain ⟨es, clock, hb, _⟩ := h.map; rw [h.cell] at hb; cases hb
theorem IsTree.kept {w w1 : World} {g b : Nat} {m : TM} (h : IsTree w g b m) (hg : w1.heap[g]? = w.heap[g]?) (hb : w1.heap[b]? = w.heap[b]?) : IsTree w1 g b m := by
 refine ⟨hg.trans h.cell, ?_⟩; obtain ⟨es, clock, h1, r⟩ := h.map; exact ⟨es, clock, hb.trans h1, r⟩
theorem IsTree.below {w w1 : World} {g b : Nat} {m : TM} (h : IsTree w g b m) (hb : Below w.heap.size w w1) : IsTree w1 g b m := h.kept (hb.block g h.lt.1) (hb.block b h.lt.2)
theorem kS : Keyed Tryz.prog 9 := string_keyed Tryz.underlying9
theorem zS (w : World) : (zeroValue 9).run Tryz.prog w = .ok (.string ⟨#[]⟩) w := Tryz.zeroValue9 w
theorem pS : plainElem (H := Unit) Tryz.prog 9 (.string ⟨#[]⟩) = some (.lit (.string []), []) := plainElem_string Tryz.underlying9 (by simp [ByteArray.size, maxLen])

theorem IsTree.look {w : World} {g b : Nat} {m : TM} (h : IsTree w g b m) (k : ByteArray) (hk : k.size <= maxLen) :
 (Instr.lookup 98 (.map (some b)) (.string k) true).run Tryz.prog w = .ok (.tuple #[(.string (X.mk ((getT m k.data.toList).getD []))), .bool (getT m k.data.toList).isSome]) w := by
 obtain ⟨v, ps, hrun, hR⟩ := h.map.look_ok kS Tryz.underlying98 (zS w) pS (Go.WideMaps.keyOf_string_mk Tryz.underlying9 hk); rw [zgR] at hR; obtain ⟨s, rfl, hs, _⟩ := plainElem_string_inv Tryz.underlying9 hR; rw [hrun, zpo]; have : s = X.mk ((getT m k.data.toList).getD []) := by
  have h0 := (Prod.mk.inj hs).1; simp only [DataW.lit.injEq, Lit.string.injEq] at h0; rw [<- zbh s, <- h0]
 rw [this]
theorem IsTree.len {w : World} {g b : Nat} {m : TM} (h : IsTree w g b m) (ty : TypeId) :
 (Builtin.len_ #[98] ty #[.map (some b)]).run Tryz.prog w = .ok (.int .i64 m.length) w := by
 have := h.map.len Tryz.underlying98 ty; rwa [zej] at this
theorem IsTree.store {w : World} {g b : Nat} {m : TM} (h : IsTree w g b m) (k v : ByteArray) (hk : k.size <= maxLen) (hv : v.size <= maxLen) (hm : m.length < maxLen) :
 ∃ w', (Instr.mapUpdate 98 (.map (some b)) (.string k) (.string v)).run Tryz.prog w = .ok () w' /\ IsTree w' g b (putT m k.data.toList v.data.toList) /\ w.grownBy w' (some b) := by
 obtain ⟨w', hrun, ho, ht⟩ := h.map.store kS Tryz.underlying98 hm (Go.WideMaps.keyOf_string_mk Tryz.underlying9 hk) (plainElem_string Tryz.underlying9 hv); rw [zkp] at ho; have hg := ht.grown; exact ⟨w', hrun, ⟨(hg.block g h.lt.1 (by have := h.ne; intro e; injection e; omega)).trans h.cell, zit ho⟩, hg⟩
theorem IsTree.drop {w : World} {g b : Nat} {m : TM} (h : IsTree w g b m) (k : ByteArray) (hk : k.size <= maxLen) (ty : TypeId) :
 ∃ w', (Builtin.delete_ #[98, 9] ty #[.map (some b), .string k]).run Tryz.prog w = .ok (.tuple #[]) w' /\ IsTree w' g b (delT m k.data.toList) /\ w.grownBy w' (some b) := by
 obtain ⟨w', hrun, ho, ht⟩ := h.map.drop kS Tryz.underlying98 (Go.WideMaps.keyOf_string_mk Tryz.underlying9 hk) ty; rw [ziH] at ho; have hg := ht.grown; exact ⟨w', hrun, ⟨(hg.block g h.lt.1 (by have := h.ne; intro e; injection e; omega)).trans h.cell, zit ho⟩, hg⟩

theorem tree_Len.calls (w : World) (g b : Nat) (m : TM) (h : IsTree w g b m) :
 Calls Tryz.prog 190 #[.pointer (some ⟨g, 0, none⟩)] w fun e w' => e = .returned (.int .i64 m.length) /\ Drawn0 w w' := by
 have hc := h.c; have hl := h.len; clear h; go_enter Tryz.func190, Tryz.ntmps190
 go_wp2; go_ret
 exact ⟨rfl, Drawn0.refl _⟩
theorem tree_Len.none (w : World) : Calls Tryz.prog 190 #[.pointer none] w fun e w' => e = .returned (.int .i64 0) /\ Drawn0 w w' := by
 go_enter Tryz.func190, Tryz.ntmps190
 go_wp2; go_ret
 exact ⟨rfl, Drawn0.refl _⟩
theorem tree_Read.calls (w : World) (g b : Nat) (m : TM) (h : IsTree w g b m) (k : ByteArray) (hk : k.size <= maxLen) :
 Calls Tryz.prog 109 #[.pointer (some ⟨g, 0, none⟩), .string k] w fun e w' => e = .returned (.tuple #[.string (mk ((getT m k.data.toList).getD [])), .bool (getT m k.data.toList).isSome]) /\ Drawn0 w w' := by
 have hc := h.c; have hl := h.look k hk; clear h; generalize mk ((getT m k.data.toList).getD []) = v at hl |-; generalize (getT m k.data.toList).isSome = is at hl |-; go_enter Tryz.func109, Tryz.ntmps109
 go_wp2; go_ret2
 exact ⟨rfl, Drawn0.refl _⟩

theorem zhW {w w1 w2 : World} {row : Option Nat} (h : Below w.heap.size w w1) (hg : w1.grownBy w2 row) : w.grownBy w2 row :=
 ⟨hg.os.trans h.os, hg.tape.trans h.tape, hg.output.trans h.output, zpA h.size hg.size, fun i hi hne => (hg.block i (Nat.lt_of_lt_of_le hi h.size) hne).trans (h.block i hi)⟩

theorem tree_Write.calls (w : World) (hG : GOK w) (g b : Nat) (m : TM) (h : IsTree w g b m) (k v : ByteArray) (hk : k.size <= maxLen) (hv : v.size <= maxLen) (hm : m.length <= 60) :
 Calls Tryz.prog 71 #[.pointer (some ⟨g, 0, none⟩), .string k, .string v] w fun e w' => e = .returned (.int .i64 (zcg m k.data.toList v.data.toList).2) /\ IsTree w' g b (zcg m k.data.toList v.data.toList).1 /\ w.grownBy w' (some b) := by
 have hM := path_May.calls k (may k.data.toList) w hG rfl; have HT : Hid (IsTree w g b m) := h; have hc := h.c; have hl := h.look k hk; unfold zcg; rw [<- zp8]; cases hmay : may k.data.toList with
 | false =>
  rw [if_pos rfl]; rw [hmay] at hM; clear hG h hk hv hm hmay; generalize X.mk ((getT m k.data.toList).getD []) = v0 at hl; generalize (getT m k.data.toList).isSome = is at hl; go_enter Tryz.func71, Tryz.ntmps71
  go_wp2_with (go_at_call 102; refine hM.mono ?_; rintro e w2 ⟨rfl, hb2⟩)
  go_ret
  exact ⟨rfl, HT.out.below hb2, zb6 hb2 _⟩
 | true =>
  rw [if_neg (by simp)]
  rw [hmay] at hM; clear hmay hG; by_cases hv2 : 2000 < v.size
  . rw [if_pos (.inl hv2)]
    clear h hk hv hm; generalize X.mk ((getT m k.data.toList).getD []) = v0 at hl; generalize (getT m k.data.toList).isSome = is at hl; go_enter Tryz.func71, Tryz.ntmps71
    go_wp2_with (go_at_call 102; refine hM.mono ?_; rintro e w2 ⟨rfl, hb2⟩)
    go_ret
    exact ⟨rfl, HT.out.below hb2, zb6 hb2 _⟩
  . cases hget : getT m k.data.toList with
    | none =>
     rw [hget] at hl; simp only [zqh, Option.getD_none] at hl; by_cases h60 : 60 <= m.length
     . rw [if_pos (.inr ⟨rfl, h60⟩)]
       clear h hk hv hm hget; generalize X.mk [] = v0 at hl; go_enter Tryz.func71, Tryz.ntmps71
       go_wp2_with fail; refine hM.mono ?_; rintro e w2 ⟨rfl, hb2⟩; have hc2 := (HT.out.below hb2).c; have hl2 := (HT.out.below hb2).len; go_wp2; go_ret
       exact ⟨rfl, HT.out.below hb2, zb6 hb2 _⟩
     . rw [if_neg (by omega)]
       generalize X.mk [] = v0 at hl; have HK : Hid (k.size <= maxLen) := hk; have HV : Hid (v.size <= maxLen) := hv; have hm2 : m.length < 60 := by omega
       clear h hget hk hv h60 hm; go_enter Tryz.func71, Tryz.ntmps71
       go_wp2_with fail; refine hM.mono ?_; rintro e w2 ⟨rfl, hb2⟩; have hc2 := (HT.out.below hb2).c; have hl2 := (HT.out.below hb2).len; obtain ⟨w3, hrun, hT3, hg3⟩ := (HT.out.below hb2).store k v HK.out HV.out (by unfold maxLen; omega)
       have HT3 : Hid (IsTree w3 g b (putT m k.data.toList v.data.toList)) := hT3; have HG3 : Hid (w2.grownBy w3 (some b)) := hg3; clear hT3 hg3; go_wp2; go_ret
       exact ⟨rfl, HT3.out, zhW hb2 HG3.out⟩
    | some x =>
     rw [hget] at hl; simp only [Option.isSome_some, zqk] at hl; rw [if_neg (by simp; omega)]
     generalize X.mk x = v0 at hl; have HK : Hid (k.size <= maxLen) := hk; have HV : Hid (v.size <= maxLen) := hv; clear h hget hk hv; go_enter Tryz.func71, Tryz.ntmps71
     go_wp2_with fail; refine hM.mono ?_; rintro e w2 ⟨rfl, hb2⟩; have hc2 := (HT.out.below hb2).c; obtain ⟨w3, hrun, hT3, hg3⟩ := (HT.out.below hb2).store k v HK.out HV.out (by unfold maxLen; omega)
     have HT3 : Hid (IsTree w3 g b (putT m k.data.toList v.data.toList)) := hT3; have HG3 : Hid (w2.grownBy w3 (some b)) := hg3; clear hT3 hg3; go_wp2; go_ret
     exact ⟨rfl, HT3.out, zhW hb2 HG3.out⟩

theorem tree_Erase.calls (w : World) (g b : Nat) (m : TM) (h : IsTree w g b m) (k : ByteArray) (hk : k.size <= maxLen) :
 Calls Tryz.prog 193 #[.pointer (some ⟨g, 0, none⟩), .string k] w fun e w' => e = .returned (.int .i64 (zeC m k.data.toList).2) /\ IsTree w' g b (zeC m k.data.toList).1 /\ w.grownBy w' (some b) := by
 have HT : Hid (IsTree w g b m) := h; have hc := h.c; have hl := h.look k hk; unfold zeC; cases hget : getT m k.data.toList with
 | none =>
  rw [hget] at hl; simp only [zqh, Option.getD_none] at hl; rw [if_pos rfl]; generalize X.mk [] = v0 at hl; clear h hk hget; go_enter Tryz.func193, Tryz.ntmps193
  go_wp2; go_ret
  exact ⟨rfl, HT.out, World.grownBy.refl _ _⟩
 | some x =>
  rw [hget] at hl; simp only [Option.isSome_some, zqk] at hl; rw [if_neg (by simp)]
  generalize X.mk x = v0 at hl; have hd : ∀ ty, ∃ w', (Builtin.delete_ #[98, 9] ty #[.map (some b), .string k]).run Tryz.prog w = .ok (.tuple #[]) w' /\ IsTree w' g b (delT m k.data.toList) /\ w.grownBy w' (some b) := fun ty => h.drop k hk ty
  clear h hk hget; go_enter Tryz.func193, Tryz.ntmps193
  obtain ⟨w3, hrun, hT3, hg3⟩ := hd 0; have HT3 : Hid (IsTree w3 g b (delT m k.data.toList)) := hT3; have HG3 : Hid (w.grownBy w3 (some b)) := hg3; clear hT3 hg3 hd; go_wp2; go_ret
  exact ⟨rfl, HT3.out, HG3.out⟩

end Go.Proofs.YtdpgdnpddndeoaaGreatDoor.X

namespace Go.Proofs.YtdpgdnpddndeoaaGreatDoor.X
open Go.RowKit Go.Maps Go.Proofs.YtdpgdnpddndeoaaGreatDoorW.PrintWords Go.Proofs.YtdpgdnpddndeoaaGreatDoorW.PrintLast
theorem zh0 (x : zaa × zaa) : ∀ m : TM, (insT x m).length = m.length + 1
 | [] => rfl
 | y :: r => by
  unfold insT; split
  . rfl
  . rw [zqc, zh0 x r, zqc]
theorem zii (m : TM) (k : zaa) : (delT m k).length <= m.length := zqi _ _
theorem zon (m : TM) (k v : zaa) (h : getT m k = some v) : (delT m k).length + 1 <= m.length := by
 unfold getT at h; cases hf : m.find? (fun p => p.1 == k) with
 | none => rw [hf] at h; cases h
 | some p =>
  have hp := List.find?_some hf; have hm := List.mem_of_find?_eq_some hf; have : (delT m k).length < m.length := by
   rcases Nat.lt_or_ge (delT m k).length m.length with hl | hl
   . exact hl
   . have e := List.length_filter_eq_length_iff.1 (Nat.le_antisymm (zii m k) hl) p hm
     simp at hp e
     exact absurd hp e
  omega
theorem zoh (m : TM) (k v : zaa) (h : m.length <= 60) : (zcg m k v).1.length <= 60 := by
 unfold zcg; split
 . exact h
 . split
   . exact h
   . rename_i h2
     show (putT m k v).length <= 60
     unfold putT; rw [zh0]; cases hg : getT m k with
     | none =>
      have := zii m k; have h3 : ¬ 60 <= m.length := fun h4 => h2 (.inr ⟨hg, h4⟩)
      omega
     | some x =>
      have := zon m k x hg; omega
def newT (l : List (zaa × zaa)) : TM := l.foldl (fun m f => (zcg m f.1 f.2).1) []
theorem zmc (l : List (zaa × zaa)) (f : zaa × zaa) : newT (l ++ [f]) = (zcg (newT l) f.1 f.2).1 := by
 unfold newT; rw [List.foldl_append]; rfl
theorem zlA (l : List (zaa × zaa)) : ∀ m : TM, m.length <= 60 -> (l.foldl (fun m f => (zcg m f.1 f.2).1) m).length <= 60 := by
 induction l with
 | nil => exact fun _ h => h
 | cons f r ih => exact fun m h => ih _ (zoh m _ _ h)
theorem znd (l : List (zaa × zaa)) : (newT l).length <= 60 := zlA l [] (by simp)
def Made (w : World) (m : TM) (e : Ending) (w' : World) : Prop := ∃ g b, e = .returned (.pointer (some ⟨g, 0, none⟩)) /\ IsTree w' g b m /\ w.heap.size <= g /\ w.heap.size <= b /\ Below w.heap.size w w'
def zcK (f : S77) : zaa × zaa := (f.f0.data.toList, f.f1.data.toList)

theorem tree_New.calls (A : Option Addr) (c : Nat) (l : List S77) (w : World) (hG : GOK w) (hr : Kd.C k77 w A l.length l) (hsz : ∀ f ∈ l, f.f0.size <= maxLen /\ f.f1.size <= maxLen) :
 Calls Tryz.prog 48 #[.slice A l.length c] w (Made w (newT (l.map zcK))) := by
 have hlen : l.length <= 9223372036854775807 := hr.2.1; have HG := zpq hG; have HR := zpq hr; have HZ := zpq hsz; clear hG hr hsz; have hmm := @run_makeMap Tryz.prog; go_enter Tryz.func48, Tryz.ntmps48
 go_wp2_with fail; go_loopg [5, 11] l.length (fun gg _ s11 wr => ∃ kk : Nat, kk <= l.length /\ l.length - kk <= gg /\ s11 = .int .i64 kk /\ Aside0 (IsTree wr (w.heap.size + 1) w.heap.size (newT ((l.take kk).map zcK))) /\ Aside0 (Below w.heap.size w wr))
 case atStart =>
  refine ⟨0, zqf _, by omega, rfl, ⟨⟨?_, ?_⟩⟩, ⟨((zpt _ _).alloc (zpu _) _).alloc (by simp) _⟩⟩
  . have := heap_alloc_new (w.alloc (.map #[] 0)) (.cells #[.map (some w.heap.size)] 100)
    simpa using this
  . exact ((World.ownsMap_made w Tryz.prog 9 _).alloc _)
 case round =>
  obtain ⟨kk, hkk, hgk, rfl, HT, HW⟩ := hrel; by_cases hlt : kk < l.length
  . have hltz : (kk : Int) < (l.length : Int) := by omega
    have hx := zka HR.out (kk : Int) (by omega) hltz
    obtain ⟨ad, rfl, hx0, hx1⟩ := hx; simp only [Int.toNat_natCast] at hx0 hx1; obtain ⟨y, hy⟩ : ∃ y, y = zeT l (kk : Int) := ⟨_, rfl⟩; rw [<- hy] at hx0 hx1; have hym : y = l[kk] := by rw [hy]; unfold zeT; simp [zpy, zpx hlt]
    have HY : Hid (y = l[kk]) := hym; clear hy hym; replace hx0 := zaf HW.out hx0
    replace hx1 := zaf HW.out hx1
    have HN : Hid (newT ((l.take (kk + 1)).map zcK) = (zcg (newT ((l.take kk).map zcK)) y.f0.data.toList y.f1.data.toList).1) := by
     show _ = _
     rw [zpW hlt, zqj, zpU, List.map_nil, zmc, HY.out]; rfl
    have HL : Hid ((newT ((l.take kk).map zcK)).length <= 60) := znd _; have HZ1 : Hid (y.f0.size <= maxLen /\ y.f1.size <= maxLen) := by rw [HY.out]; exact HZ.out _ (List.getElem_mem hlt)
    go_wp2_with fail; have hb1 : ∀ o, Below wr.heap.size wr (wr.alloc o) := fun o => (zpt _ _).alloc (zpu _) o
    refine (tree_Write.calls _ (HG.out.below (zad HW.out HW.out.size (hb1 _))) _ _ _ (HT.out.below (hb1 _)) y.f0 y.f1 HZ1.out.1 HZ1.out.2 HL.out).mono ?_; rintro e w2 ⟨rfl, hT2, hg2⟩; rw [<- HN.out] at hT2; have HT2 : Hid (IsTree w2 (w.heap.size + 1) w.heap.size (newT ((l.take (kk + 1)).map zcK))) := hT2; have HW2 : Hid (Below w.heap.size w w2) := (zad HW.out HW.out.size (hb1 _)).grown hg2 (zpA HW.out.size (hb1 _).size) (fun k hk => by cases hk; exact zpu _)
    clear hT2 hg2 hb1 hx0 hx1 HN HL HZ1 HY; go_wp2; go_roundg (l.length - (kk + 1))
    case measure => omega
    case rel => exact ⟨kk + 1, by omega, by omega, by go_num, ⟨HT2.out⟩, ⟨HW2.out⟩⟩
  . have hltz : ¬ (kk : Int) < (l.length : Int) := by omega
    obtain rfl : kk = l.length := by omega
    have hT := HT.out; rw [zqa] at hT; have HT' : Hid (IsTree wr (w.heap.size + 1) w.heap.size (newT (l.map zcK))) := hT; clear HT hT; go_wp2; go_ret
    exact ⟨w.heap.size + 1, w.heap.size, rfl, HT'.out, by omega, zpu _, HW.out⟩

end Go.Proofs.YtdpgdnpddndeoaaGreatDoor.X

namespace Go.Proofs.YtdpgdnpddndeoaaGreatDoor.X
open Go.RowKit Go.Maps Go.Sort Go.Shelf Go.Proofs.YtdpgdnpddndeoaaGreatDoorW.PrintWords
theorem zi2 : ∀ (x y : zaa), bytesBefore x y = decide (x < y)
 | [], [] => by simp [bytesBefore]
 | _ :: _, [] => by simp [bytesBefore]
 | [], _ :: _ => by simp [bytesBefore]
 | a :: x, b :: y => by
  rw [bytesBefore, zi2 x y]; simp only [List.cons_lt_cons_iff]; by_cases h1 : a < b <;> by_cases h2 : a = b <;> by_cases h3 : x < y <;> simp [h1, h2, h3]
def SortedT (m : TM) : Prop := m.Pairwise fun p q => bytesBefore p.1 q.1 = true
theorem SortedT.del {m : TM} (h : SortedT m) (k : zaa) : SortedT (delT m k) := List.Pairwise.filter _ h
theorem zg9 (x : zaa × zaa) (p : zaa × zaa) : ∀ m : TM, p ∈ insT x m ↔ p = x \/ p ∈ m
 | [] => by simp [insT]
 | y :: r => by
  unfold insT; split
  . simp
  . simp only [List.mem_cons, zg9 x p r]
    constructor
    . rintro (h | h | h)
      . exact .inr (.inl h)
      . exact .inl h
      . exact .inr (.inr h)
    . rintro (h | h | h)
      . exact .inr (.inl h)
      . exact .inl h
      . exact .inr (.inr h)
theorem SortedT.ins (x : zaa × zaa) : ∀ m : TM, SortedT m -> (∀ p ∈ m, p.1 ≠ x.1) -> SortedT (insT x m)
 | [], _, _ => by simp [insT, SortedT]
 | y :: r, h, hne => by
  unfold insT; have hy := List.pairwise_cons.1 h; split
  . rename_i hb
    refine List.pairwise_cons.2 ⟨fun p hp => ?_, h⟩
    rcases List.mem_cons.1 hp with rfl | hp
    . exact hb
    . exact WideShapes.bytes_trans _ _ _ hb (hy.1 p hp)
  . rename_i hb
    refine List.pairwise_cons.2 ⟨fun p hp => ?_, SortedT.ins x r hy.2 (fun p hp => hne p (List.mem_cons_of_mem _ hp))⟩
    rcases (zg9 x p r).1 hp with rfl | hp
    . rcases WideAt.bytes_total y.1 p.1 (hne y List.mem_cons_self) with h1 | h1
      . exact h1
      . exact absurd h1 hb
    . exact hy.1 p hp
theorem SortedT.put {m : TM} (h : SortedT m) (k v : zaa) : SortedT (putT m k v) := by
 refine SortedT.ins (k, v) _ (h.del k) fun p hp e => ?_
 have := (List.mem_filter.1 hp).2; simp at this
 exact this e
theorem SortedT.write {m : TM} (h : SortedT m) (k v : zaa) : SortedT (zcg m k v).1 := by
 unfold zcg; split
 . exact h
 . split
   . exact h
   . exact h.put k v
theorem SortedT.nil : SortedT [] := List.Pairwise.nil
theorem SortedT.fold (l : List (zaa × zaa)) : ∀ m : TM, SortedT m -> SortedT (l.foldl (fun m f => (zcg m f.1 f.2).1) m) := by
 induction l with
 | nil => exact fun _ h => h
 | cons f r ih => exact fun m h => ih _ (h.write _ _)
theorem SortedT.new (l : List (zaa × zaa)) : SortedT (newT l) := SortedT.fold l [] SortedT.nil
theorem zmC {m : TM} (h : SortedT m) : (m.map (·.1)).mergeSort leB = m.map (·.1) := by
 refine List.mergeSort_of_pairwise ?_; refine List.pairwise_map.2 (h.imp fun {p q} hb => ?_)
 rw [zi2] at hb; simp only [leB, decide_eq_true_eq] at hb |-; exact List.le_of_lt hb

theorem zjH (mb : Option Nat) (W : World) : Calls Tryz.prog 225 #[.map mb] W fun e w' => e = .returned (.func (.func 240) #[] #[.pointer (some ⟨W.heap.size, 0, none⟩)]) /\ w' = W.alloc (.cells #[.map mb] 98) :=
 callsIn_wide.1 (Go.Proofs.AnyZ.keys_in Go.Proofs.Tryz.laysKeys Fence.wide 5 trivial rfl mb W)
theorem sorts (m : Nat) : Go.Proofs.AnyZ.SortsIn Tryz.prog Go.Proofs.Tryz.laysSorted_ren Fence.wide m :=
 ⟨fun blk off cap ss W hH hblk hsz => callsIn_wide.2 (Go.Proofs.AnyM.slices_Sort_string Go.Proofs.Tryz.laysSort blk off cap ss W hH hblk hsz),
  fun p cap W => callsIn_wide.2 (Go.Proofs.AnyM.slices_Sort_string_none Go.Proofs.Tryz.laysSort p cap W)⟩
theorem zlD (b : Nat) (m : TM) (hm : SortedT m) (hl : m.length <= 60) (w : World) (hown : w.ownsMap Tryz.prog 9 (plainElem Tryz.prog 9) b m.length (encT m)) :
 Calls Tryz.prog 80 #[.func (.func 240) #[] #[.pointer (some ⟨w.heap.size, 0, none⟩)]] (w.alloc (.cells #[.map (some b)] 98)) fun e w' => ∃ v : Value, e = .returned v /\
  w'.ownsRow w.heap.size 9 1 v (m.map fun p => mk p.1).length (encs Value.string (m.map fun p => mk p.1)) /\ Below w.heap.size w w' := by
 have hbl := hown.lt; have hmax : Maps.size (encT m) <= maxLen := by rw [zej]; unfold maxLen; omega
 have hbytes : Maps.size (encT m) * 16 <= 140737488355328 := by rw [zej]; omega
 have hseq : Go.SeqGives Fence.wide 2 Tryz.prog 240 #[.pointer (some ⟨w.heap.size, 0, none⟩)] encStr (fun ss => ss.Perm (strKeys (encT m))) (Maps.size (encT m)) (w.alloc (.cells #[.map (some b)] 98)) :=
  Go.Proofs.AnyZ.keys_gives (ρ := Go.Proofs.Tryz.laysKeys_ren) { Go.Proofs.Tryz.laysKeys with } Fence.wide _ trivial rfl (by omega) w.heap.size b m.length (encT m) _ (by simp) (by simp) (by
   obtain ⟨es, clock, hb, Ft, hs, hD⟩ := hown; exact ⟨es, clock, (Below.heap_alloc _ _ b hbl).trans hb, Ft, hs, hD⟩)
 have h := Go.Proofs.AnyZ.sorted_in Go.Proofs.Tryz.laysSorted Fence.wide 5 trivial trivial trivial trivial rfl (by omega) (sorts _) (Go.Proofs.enters_of Tryz.func93 (by kernel_rfl) rfl) 240 #[.pointer (some ⟨w.heap.size, 0, none⟩)] trivial (Go.Proofs.enters_of Tryz.func240 (by kernel_rfl) rfl) _ _ hmax hbytes _ hseq
 refine (callsIn_wide.1 h).mono fun e w' ⟨v, ss, he, hS, hrow, _, hb⟩ => ⟨v, he, ?_, ((zpt _ w).alloc (zpu _) _).trans (hb.mono (by simp))⟩
 have hk : strKeys (encT m) = m.map (·.1) := by
  show (m.map fun p => ((.string p.1 : Lit), (.lit (.string p.2) : DataW Unit))).map (fun p => strOf p.1) = _
  rw [zp9]; rfl
 rw [hk] at hS; have e1 := mergeSort_of_perm hS; rw [zmC hm] at e1; have e2 : ss.length = m.length := by rw [hS.length_eq, zp6]
 rw [show (fun x y : List UInt8 => decide (x <= y)) = leB from rfl, e1, e2, zp9] at hrow
 rw [zp6]; have e3 : encs Value.string (m.map fun p => mk p.1) = m.map (encStr ∘ fun x => x.1) := by
  unfold encs; rw [zp9]; rfl
 rw [e3]; exact ownsRow_base_a hrow (by simp)

theorem tree_Names.calls (w : World) (g b : Nat) (m : TM) (h : IsTree w g b m) (hm : SortedT m) (hl : m.length <= 60) :
 Calls Tryz.prog 191 #[.pointer (some ⟨g, 0, none⟩)] w fun e w' => ∃ v : Value, e = .returned v /\
  w'.ownsRow w.heap.size 9 1 v (m.map fun p => mk p.1).length (encs Value.string (m.map fun p => mk p.1)) /\ Below w.heap.size w w' := by
 have hc := h.c; have hK := zjH (some b) w; have hS := zlD b m hm hl w h.map; clear h hm hl; generalize (m.map fun p => mk p.1) = nm at hS |-
 go_enter Tryz.func191, Tryz.ntmps191
 go_wp2_with (first
  | (go_at_call 225; refine hK.mono ?_; rintro e w2 ⟨rfl, rfl⟩)
  | (go_at_call 80; refine hS.mono ?_; rintro e w3 ⟨v, rfl, hrow, hb⟩))
 go_ret
 exact ⟨v, rfl, hrow, hb⟩

end Go.Proofs.YtdpgdnpddndeoaaGreatDoor.X

namespace Go.Proofs.YtdpgdnpddndeoaaGreatDoor.X
open Go.RowKit Go.Maps Go.Proofs.YtdpgdnpddndeoaaGreatDoorW.PrintWords
section
variable {P : Program} {ops : Array Oper} {rest : List Oper} {o : Oper} {a : Act} {Q : Exit -> Act -> World -> Prop}
theorem zpe {w0 W : World} (base : Nat) (hgd : o.guard = none) (s x : Operand) (t e : TypeId) (z : Value) (bytes : Nat)
 (ho : o.op = .call { callee := .builtin .append, args := #[s, x], argTypes := #[t, t] })
 (ht : P.underlying t = some (.slice e)) (hinfo : (P.info? e).map (fun i => (i.zero, i.size, i.bytes)) = some (some z, 1, bytes)) (hz : z.cells.size = 1) (hb0 : 0 < bytes)
 (v : Value) (xs : List Value) (y1 y2 : Value) (hs : a.eval s = v) (hx : a.eval x = .slice (some ⟨W.heap.size, 0, none⟩) 2 2) (h1 : y1.oneCell' = true) (h2 : y2.oneCell' = true)
 (HO : W.ownsRow base e 1 v xs.length xs) (HB : Below base w0 W) (hbase : base <= W.heap.size) (hl : (xs.length + 2) * bytes <= 140737488355328)
 (h : ∀ v1 w1, w1.ownsRow base e 1 v1 (xs ++ [y1, y2]).length (xs ++ [y1, y2]) -> Below base w0 w1 -> W.grownBy w1 v.ownBlock -> (v1.ownBlock = v.ownBlock \/ ∃ b, v1.ownBlock = some b /\ W.heap.size <= b) -> wpList P ops Q rest (a.put o.dst v1) w1) :
 wpList P ops Q (o :: rest) a (W.alloc (.cells #[y1, y2] e)) := by
 obtain ⟨i0, hi, hzz⟩ := Option.map_eq_some_iff.1 hinfo; simp only [Prod.mk.injEq] at hzz; obtain ⟨hz0, hz1, hz2⟩ := hzz; have hlen : xs.length + 2 <= 140737488355328 := zpA (Nat.le_mul_of_pos_right _ hb0) hl; refine wpList_append_own_at (W.alloc (.cells #[y1, y2] e)) hgd s x t ho base e i0 z 1 bytes ht hi hz0 hz1 hz2 hz (by omega) v xs.length xs hs (HO.alloc _) ⟨W.heap.size, 0, none⟩ 2 2 [y1, y2] hx rfl
  (World.news_of_block (cs := #[y1, y2]) (t := e) (fr := (0, 0)) (heap_alloc_new W _)) (by simp [h1, h2]) (by simp only [maxLen]; omega) hl (by simp; omega) ?_
 intro v1 w1 hown hg _ hat; refine h v1 w1 (by simpa using hown) ((HB.alloc hbase _).grown hg (by simp; omega) (zcy HO)) (World.grownBy.trans (World.grownBy_alloc W _ _) hg) ?_
 rcases hat with hat | hat
 . exact .inl hat
 . exact .inr ⟨_, hat, by simp⟩
end

theorem IsTree.look1 {w : World} {g b : Nat} {m : TM} (h : IsTree w g b m) (k : ByteArray) (hk : k.size <= maxLen) :
 (Instr.lookup 98 (.map (some b)) (.string k) false).run Tryz.prog w = .ok (.string (X.mk ((getT m k.data.toList).getD []))) w := by
 obtain ⟨v, ps, hrun, hR⟩ := h.map.lookup kS Tryz.underlying98 (zS w) pS (Go.WideMaps.keyOf_string_mk Tryz.underlying9 hk); rw [zgR] at hR; obtain ⟨s, rfl, hs, _⟩ := plainElem_string_inv Tryz.underlying9 hR; rw [hrun]; have h0 := (Prod.mk.inj hs).1; simp only [DataW.lit.injEq, Lit.string.injEq] at h0; rw [h0, zbh]

def zbC (m : TM) : List ByteArray := m.flatMap fun p => [mk p.1, mk p.2]
theorem zlQ (m : TM) : put ((zbC m).map (·.data.toList)) = keyT m := by
 unfold zbC keyT; congr 1
 rw [List.map_flatMap]; simp only [zpU, List.map_nil, zbb]
theorem zlr (m : TM) (k : Nat) (h : k < m.length) : zbC (m.take (k + 1)) = zbC (m.take k) ++ [mk (m[k]).1, mk (m[k]).2] := by
 unfold zbC; rw [zpW h, List.flatMap_append]; simp
theorem zjz (m : TM) : (zbC m).length = 2 * m.length := by
 induction m with
 | nil => rfl
 | cons p r ih => simp only [zbC, List.flatMap_cons, zpH, zqc, List.length_nil] at ih |-; omega
theorem zk5 {m : TM} (h : SortedT m) (k : Nat) (hk : k < m.length) : getT m (m[k]).1 = some (m[k]).2 := by
 unfold getT; have : m.find? (fun p => p.1 == (m[k]).1) = some m[k] := by
  rw [List.find?_eq_some_iff_getElem]; refine ⟨by simp, k, hk, rfl, fun j hj => ?_⟩
  have := List.pairwise_iff_getElem.1 h j k (by omega) hk hj
  simp only [Bool.not_eq_true']; rw [beq_eq_false_iff_ne]; intro e; rw [e, WideAt.bytes_irrefl] at this; cases this
 rw [this]; rfl

theorem infoS : (Tryz.prog.info? 9).map (fun i => (i.zero, i.size, i.bytes)) = some (some (.string ⟨#[]⟩), 1, 16) := by kernel_rfl
theorem tree_Key.calls (w : World) (hG : GOK w) (g b : Nat) (m : TM) (h : IsTree w g b m) (hm : SortedT m) (hl : m.length <= 60) (hkey : ∀ p ∈ m, p.1.length <= maxLen) (hput : (keyT m).length <= 140737488355328) :
 Calls Tryz.prog 192 #[.pointer (some ⟨g, 0, none⟩)] w fun e w' => e = .returned (.string (mk (keyT m))) /\ Below w.heap.size w w' := by
 have hN := tree_Names.calls w g b m h hm hl; have HT := zpq h; have HM := zpq hm; have HG := zpq hG; have HP : Hid ((keyT m).length <= 140737488355328) := hput; have HKey := zpq hkey; clear hG h hm hput hkey; generalize hnm : (m.map fun p => mk p.1) = nm at hN
 have hnl : nm.length = m.length := by rw [<- hnm, zp6]
 have HNM := zpq hnm; clear hnm; go_enter Tryz.func192, Tryz.ntmps192
 go_wp2_with fail; refine hN.mono ?_; rintro e w1 ⟨vn, rfl, hrow, hb1⟩; obtain ⟨A, c, rfl, hc, hrd⟩ := Kd.R_reads (Kd.R_of_own (h1 := fun _ => rfl) (ok := fun _ => True) hrow (fun _ _ => trivial))
 have HROW : Hid (w1.ownsRow w.heap.size 9 1 (.slice A nm.length c) nm.length (encs Value.string nm)) := hrow; have HB1 := zpq hb1; clear hrow hb1 hc hrd; have hnl2 : nm.length <= 60 := by omega
 have HNL : Hid (nm.length = m.length) := hnl; clear hnl; go_wp2_with fail; go_loopg [3, 5, 9] nm.length (fun gg s3 _ s9 wr => ∃ kk : Nat, kk <= nm.length /\ nm.length - kk <= gg /\ s9 = .int .i64 kk /\ Aside0 (wr.ownsRow w.heap.size 9 1 s3 (encs Value.string (zbC (m.take kk))).length (encs Value.string (zbC (m.take kk)))) /\
  Aside0 (wr.ownsRow w.heap.size 9 1 (.slice A nm.length c) nm.length (encs Value.string nm)) /\ Aside0 (s3.ownBlock = none \/ s3.ownBlock ≠ (Value.slice A nm.length c).ownBlock) /\ Aside0 (Below w.heap.size w wr))
 case atStart =>
  exact ⟨0, zqf _, by omega, rfl, ⟨zcQ _ _ _ _⟩, ⟨HROW.out⟩, ⟨.inl rfl⟩, ⟨HB1.out⟩⟩
 case round =>
  obtain ⟨kk, hkk, hgk, rfl, HO, HR, HNE, HW⟩ := hrel; by_cases hlt : kk < nm.length
  . have hltz : (kk : Int) < (nm.length : Int) := by omega
    have hkm : kk < m.length := by have := HNL.out; omega
    obtain ⟨A', c', he, _, hrd⟩ := Kd.R_reads (Kd.R_of_own (h1 := fun _ => rfl) (ok := fun _ => True) HR.out (fun _ _ => trivial))
    obtain rfl : A = A' := by injection he
    obtain ⟨y, hy⟩ : ∃ y, y = nm.getD kk ByteArray.empty := ⟨_, rfl⟩; have hym : y = mk (m[kk]).1 := by
     rw [hy, zpy, zpx hlt]; simp only [zqk]; have := HNM.out; subst this; rw [List.getElem_map]
    rcases zaL hrd with h0 | ⟨b', o, rfl, _, hcell⟩
    . exfalso; rw [h0] at hlt; simp at hlt
    have hx : wr.cell? ⟨b', o + kk, none⟩ = some (.string y) := by rw [hy]; exact hcell kk hlt
    have hTW := HT.out.below HW.out; have hc := hTW.c; have hsz : y.size <= maxLen := by rw [hym, zaZ]; exact HKey.out _ (List.getElem_mem hkm)
    have hlk := hTW.look1 y hsz; obtain ⟨z, hz⟩ : ∃ z, z = mk (m[kk]).2 := ⟨_, rfl⟩; have hget : mk ((getT m y.data.toList).getD []) = z := by rw [hym, zbb, zk5 HM.out kk hkm, hz]; rfl
    rw [hget] at hlk; have HF : Hid (zbC (m.take (kk + 1)) = zbC (m.take kk) ++ [y, z]) := by show _ = _; rw [zlr m kk hkm, hym, hz]
    have HL2 : Hid ((zbC (m.take kk)).length = 2 * kk) := by show _ = _; rw [zjz, List.length_take]; omega
    have hwb : w.heap.size <= wr.heap.size := HW.out.size; have HWB := zpq hwb; clear hcell hrd hy hym hget hz he hsz hTW; go_wp2_with (first | ((with_reducible refine zaG (b := .append) (xs := #[.tmp 13, .tmp 21]) rfl ?_); at_builtin; refine zpe (w0 := w) w.heap.size rfl (.tmp 13) (.tmp 21) 22 9 (.string ⟨#[]⟩) 16 rfl Tryz.underlying22 infoS rfl (by decide) u3 (encs Value.string (zbC (m.take kk))) (.string y) (.string z) rfl ?aX rfl rfl HO.out HW.out HWB.out ?aL ?_; (case aX => exact rfl); (case aL => have := HL2.out; unfold encs; rw [zp6, this]; omega); intro v1 w2 ho hb hg hat))
    rw [show encs Value.string (zbC (m.take kk)) ++ [.string y, .string z] = encs Value.string (zbC (m.take (kk + 1))) by rw [HF.out]; unfold encs; rw [zqj]; rfl] at ho
    have HR2 : Hid (w2.ownsRow w.heap.size 9 1 (.slice (some ⟨b', o, none⟩) nm.length c) nm.length (encs Value.string nm)) :=
     zlc HR.out hg (by
      rcases HNE.out with h | h
      . exact .inr (by rw [h]; simp [Value.ownBlock])
      . exact .inr (Ne.symm h))
    have HNE2 : Hid (v1.ownBlock = none \/ v1.ownBlock ≠ (Value.slice (some ⟨b', o, none⟩) nm.length c).ownBlock) := by
     rcases hat with h | ⟨q, h, hq⟩
     . exact h ▸ HNE.out
     . refine .inr ?_
       rw [h]; simp only [Value.ownBlock, ne_eq, Option.some.injEq]; omega
    have HO2 := zpq ho; have HB2 := zpq hb; clear ho hb hg hat hx hc hlk HF HL2 HWB; go_wp2; go_roundg (nm.length - (kk + 1))
    case measure => omega
    case rel => exact ⟨kk + 1, by omega, by omega, by go_num, ⟨HO2.out⟩, ⟨HR2.out⟩, ⟨HNE2.out⟩, ⟨HB2.out⟩⟩
  . have hltz : ¬ (kk : Int) < (nm.length : Int) := by omega
    obtain rfl : kk = nm.length := by omega
    have ho := HO.out; rw [HNL.out, zqa] at ho; obtain ⟨A', c', rfl, hc', hrd⟩ := Kd.R_reads (Kd.R_of_own (h1 := fun _ => rfl) (ok := fun _ => True) (show wr.ownsRow w.heap.size 9 1 u3 (zbC m).length (encs Value.string (zbC m)) by unfold encs at ho; rw [zp6] at ho; exact ho) (fun _ _ => trivial))
    have hP := mint_Put.calls A' c' (zbC m) (mk (keyT m)) wr (HG.out.below HW.out) hrd hc' (by unfold mint_Put.f; rw [zlQ, if_pos HP.out])
    clear hrd ho hc'; go_wp2_with fail; refine hP.mono ?_; rintro e w2 ⟨rfl, hb2⟩; go_wp2; go_ret
    exact ⟨rfl, zad HW.out HW.out.size hb2⟩

end Go.Proofs.YtdpgdnpddndeoaaGreatDoor.X
