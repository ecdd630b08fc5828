/-
  What the cards lean on (part V13): contracts of functions, by hand, and plain laws; what is printed by the kit's print for this seat is among them. What is not reached is left out.
-/
import Derived.Test.YtdpgdnpddndeoaaGreatDoorRows
import Derived.Deep.Slices
import Derived.ChangeSame
import Derived.SizedLaws
import Derived.Deep.Strs
import Derived.OpenShut
import Derived.Test.YtdpgdnpddndeoaaGreatDoorV11
import Derived.Test.YtdpgdnpddndeoaaGreatDoorV12
import Derived.Test.YtdpgdnpddndeoaaGreatDoorV9
import Derived.Test.YtdpgdnpddndeoaaGreatDoorV8
import Derived.Test.YtdpgdnpddndeoaaGreatDoorV6
import Derived.Test.YtdpgdnpddndeoaaGreatDoorV1
import Derived.Test.YtdpgdnpddndeoaaGreatDoorV0
set_option maxHeartbeats 16000000
set_option maxRecDepth 100000
set_option linter.unusedSimpArgs false
set_option linter.unusedVariables false
open Go.RowKit.Below renaming refl -> zpw, heap_setCell -> zpV
open Nat renaming le_refl -> zpx, zero_le -> zqk
open List renaming getElem?_eq_getElem -> zpA, getD_eq_getElem?_getD -> zpB, length_map -> zqe, length_take -> zpI, getElem?_eq_some_iff -> zpS, take_succ_eq_append_getElem -> zpZ, mem_cons_of_mem -> zqM, mem_singleton -> zq6, mem_append -> zq7, mem_cons -> zqE, any_eq_true -> zqU, take_append_drop -> zq2, getElem_mem -> zqQ, getElem_map -> zrf, drop_succ_cons -> zqI, mem_map -> zqR, setIfInBounds_toArray -> zqZ, set_cons_zero -> zq0, set_cons_succ -> zq1
open Option.some renaming inj -> zp6
open Int renaming toNat_natCast -> zqN
open Bool renaming and_eq_true -> zp7
open Go.Proofs.Tryz renaming prog -> zp5
open Go.Proofs.YtdpgdnpddndeoaaGreatDoorW.PrintWords.Kd renaming C_below -> zqS, string -> zqb, R_reads -> zqq
namespace Go.Proofs.YtdpgdnpddndeoaaGreatDoor
namespace X
open Go.RowKit Go.Maps YtdpgdnpddndeoaaGreatDoorW.PrintWords YtdpgdnpddndeoaaGreatDoorW.PrintMore YtdpgdnpddndeoaaGreatDoorW.PrintLast
theorem zgr {α : Type} (d : Kd α) (w : World) : Kd.C d w none 0 [] := ⟨rfl, zqk _, fun hp => absurd hp (Nat.lt_irrefl _)⟩
theorem zcD (W : World) (l : List ByteArray) (hl : l.length <= 1000) : Kd.C zqb (W.alloc (.cells (l.map Value.string).toArray 9)) (some ⟨W.heap.size, 0, none⟩) l.length l :=
 zbO zqb W 9 l (l.map Value.string) (Kd.reps_scalar l) (by omega)
theorem zbl (W : World) (o : Obj) : Below W.heap.size W (W.alloc o) := (zpw _ _).alloc (zpx _) o
def stepV (x : zaw) (A : Option Addr) : List Value := [.string x.f0, .int .i64 x.f1, .slice A x.f2.length x.f2.length, .slice none 0 0, .int .i64 x.f4]
theorem zeT (W : World) (x : zaw) (A : Option Addr) (h3 : x.f3 = []) (h : Kd.C zqb W A x.f2.length x.f2) : Kd.K k24 W x (stepV x A) := by
 have := zf0 W x (zpx x.f2.length) h (A3 := none) (c3 := 0) (by rw [h3]; exact zpx _) (by rw [h3]; exact zgr zqb W)
 rw [h3] at this; exact this
def zeZ (s : Nat) : Array Value := #[.string ⟨#[116]⟩, .int .i64 3, .slice (some ⟨s + 1 + 1, 0, none⟩) 1 1, .slice none 0 0, .int .i64 0, .string ⟨#[120]⟩, .int .i64 4, .slice (some ⟨s + 1 + 1 + 1, 0, none⟩) 1 1, .slice none 0 0, .int .i64 0, .string ⟨#[121]⟩, .int .i64 2, .slice (some ⟨s + 1 + 1 + 1 + 1, 0, none⟩) 1 1, .slice none 0 0, .int .i64 0]
def r7W (w : World) : World := (((((w.alloc (.cells #[.string ⟨#[97]⟩, .string ⟨#[98]⟩] 9)).alloc (.cells #[.string ⟨#[120]⟩, .string ⟨#[121]⟩] 9)).alloc (.cells #[.string ⟨#[97]⟩] 9)).alloc (.cells #[.string ⟨#[116]⟩] 9)).alloc (.cells #[.string ⟨#[98]⟩] 9)).alloc (.cells (zeZ w.heap.size) 24)
theorem zbM (w : World) (o : Obj) : (w.alloc o).heap.size = w.heap.size + 1 := by simp
theorem zkR (w : World) : RuleAt R7 (some ⟨w.heap.size, 0, none⟩) (some ⟨w.heap.size + 1, 0, none⟩) none (some ⟨w.heap.size + 1 + 1 + 1 + 1 + 1, 0, none⟩) (r7W w) /\ Below w.heap.size w (r7W w) /\ (r7W w).heap.size = w.heap.size + 1 + 1 + 1 + 1 + 1 + 1 := by
 obtain ⟨wA, hA⟩ : ∃ wA, wA = w.alloc (.cells #[.string ⟨#[97]⟩, .string ⟨#[98]⟩] 9) := ⟨_, rfl⟩; obtain ⟨wB, hB⟩ : ∃ wB, wB = wA.alloc (.cells #[.string ⟨#[120]⟩, .string ⟨#[121]⟩] 9) := ⟨_, rfl⟩; obtain ⟨wC, hC⟩ : ∃ wC, wC = wB.alloc (.cells #[.string ⟨#[97]⟩] 9) := ⟨_, rfl⟩; obtain ⟨wD, hD⟩ : ∃ wD, wD = wC.alloc (.cells #[.string ⟨#[116]⟩] 9) := ⟨_, rfl⟩; obtain ⟨wE, hE⟩ : ∃ wE, wE = wD.alloc (.cells #[.string ⟨#[98]⟩] 9) := ⟨_, rfl⟩; have e : r7W w = wE.alloc (.cells (zeZ w.heap.size) 24) := by rw [hE, hD, hC, hB, hA]; rfl
 have sA : wA.heap.size = w.heap.size + 1 := by rw [hA, zbM]
 have sB : wB.heap.size = w.heap.size + 1 + 1 := by rw [hB, zbM, sA]
 have sC : wC.heap.size = w.heap.size + 1 + 1 + 1 := by rw [hC, zbM, sB]
 have sD : wD.heap.size = w.heap.size + 1 + 1 + 1 + 1 := by rw [hD, zbM, sC]
 have sE : wE.heap.size = w.heap.size + 1 + 1 + 1 + 1 + 1 := by rw [hE, zbM, sD]
 have bA : Below w.heap.size w wA := by rw [hA]; exact zbl w _
 have bB : Below wA.heap.size wA wB := by rw [hB]; exact zbl wA _
 have bC : Below wB.heap.size wB wC := by rw [hC]; exact zbl wB _
 have bD : Below wC.heap.size wC wD := by rw [hD]; exact zbl wC _
 have bE : Below wD.heap.size wD wE := by rw [hE]; exact zbl wD _
 have bF : Below wE.heap.size wE (r7W w) := by rw [e]; exact zbl wE _
 have cA : Kd.C zqb wA (some ⟨w.heap.size, 0, none⟩) 2 [⟨#[97]⟩, ⟨#[98]⟩] := by rw [hA]; exact zcD w [⟨#[97]⟩, ⟨#[98]⟩] (by decide)
 have cB : Kd.C zqb wB (some ⟨w.heap.size + 1, 0, none⟩) 2 [⟨#[120]⟩, ⟨#[121]⟩] := by rw [hB, <- sA]; exact zcD wA [⟨#[120]⟩, ⟨#[121]⟩] (by decide)
 have cC : Kd.C zqb wC (some ⟨w.heap.size + 1 + 1, 0, none⟩) 1 [⟨#[97]⟩] := by rw [hC, <- sB]; exact zcD wB [⟨#[97]⟩] (by decide)
 have cD : Kd.C zqb wD (some ⟨w.heap.size + 1 + 1 + 1, 0, none⟩) 1 [⟨#[116]⟩] := by rw [hD, <- sC]; exact zcD wC [⟨#[116]⟩] (by decide)
 have cE : Kd.C zqb wE (some ⟨w.heap.size + 1 + 1 + 1 + 1, 0, none⟩) 1 [⟨#[98]⟩] := by rw [hE, <- sD]; exact zcD wD [⟨#[98]⟩] (by decide)
 have cF : Kd.C k24 (r7W w) (some ⟨w.heap.size + 1 + 1 + 1 + 1 + 1, 0, none⟩) 3 R7.f4 := by
  rw [e, <- sE]; refine zbO k24 wE 24 R7.f4 (zeZ w.heap.size).toList ?_ (by decide)
  exact Reps.snoc (Reps.snoc (Reps.snoc (Reps.none _ _) (zeT wE ⟨⟨#[116]⟩, 3, [⟨#[97]⟩], [], 0⟩ _ rfl (zqS (zqS cC bD) bE)) rfl) (zeT wE ⟨⟨#[120]⟩, 4, [⟨#[116]⟩], [], 0⟩ _ rfl (zqS cD bE)) rfl) (zeT wE ⟨⟨#[121]⟩, 2, [⟨#[98]⟩], [], 0⟩ _ rfl cE) rfl
 refine ⟨⟨zqS (zqS (zqS (zqS (zqS cA bB) bC) bD) bE) bF, zqS (zqS (zqS (zqS cB bC) bD) bE) bF, zgr zqb _, cF⟩, ?_, by rw [e, zbM, sE]⟩
 exact zac (zac (zac (zac (zac bA (by omega) bB) (by omega) bC) (by omega) bD) (by omega) bE) (by omega) bF
theorem fit7 : FitR R7 := ⟨by decide, by decide, by decide, by decide, by decide, by decide⟩
theorem fitS : FitR S7 := ⟨by decide, by decide, by decide, by decide, by decide, by decide⟩
theorem fits1 : zcj [R7] := ⟨by decide, fun r hr => by rw [zq6.1 hr]; exact ⟨fit7, by decide, by decide, fun x hx => by cases hx⟩⟩
theorem fits2 : zcj [S7, R7] := ⟨by decide, fun r hr => by
 rcases zqE.1 hr with rfl | hr
 . exact ⟨fitS, by decide, by decide, fun x hx => by cases hx⟩
 . rw [zq6.1 hr]; exact ⟨fit7, by decide, by decide, fun x hx => by cases hx⟩⟩
theorem mean7 : Mean [R7] rk7 := by
 refine ⟨fits1, fun r hr o ho => ?_, fun r hr o ho i hi => ?_⟩
 . rw [zq6.1 hr] at ho |-
   have ho' : o ∈ [(⟨#[120]⟩ : ByteArray), ⟨#[121]⟩] := ho; rcases zqE.1 ho' with rfl | ho'
   . rfl
   . rw [zq6.1 ho']; rfl
 . rw [zq6.1 hr] at ho hi
   have ho' : o ∈ [(⟨#[120]⟩ : ByteArray), ⟨#[121]⟩] := ho; have hi' : i ∈ [(⟨#[97]⟩ : ByteArray), ⟨#[98]⟩] := hi; rcases zqE.1 ho' with rfl | ho' <;> rcases zqE.1 hi' with rfl | hi'
   . decide
   . rw [zq6.1 hi']; decide
   . rw [zq6.1 ho']; decide
   . rw [zq6.1 hi', zq6.1 ho']; decide
theorem zi1 (W : World) (l : List SVal) (hl : l.length <= 1000) : Kd.C k34 (W.alloc (.cells (l.flatMap fun v => [Value.bool v.f0, .string v.f1]).toArray 34)) (some ⟨W.heap.size, 0, none⟩) l.length l := by
 refine zbO k34 W 34 l _ ?_ (by omega)
 clear hl; have key : ∀ (l a : List SVal) (cs : List Value), Reps (Kd.K k34 W) 2 a cs -> Reps (Kd.K k34 W) 2 (a ++ l) (cs ++ l.flatMap fun v => [Value.bool v.f0, .string v.f1]) := by
  intro l; induction l with
  | nil => intro a cs h; simpa using h
  | cons v r ih =>
   intro a cs h; have := ih (a ++ [v]) (cs ++ [.bool v.f0, .string v.f1]) (Reps.snoc h (zfS W v) rfl); rw [List.append_assoc, List.append_assoc] at this; exact this
 exact key l [] [] (Reps.none _ _)
theorem zg6 {B1 B2 B4 : Option Addr} {W : World} (h : RuleAt R7 B1 B2 none B4 W) : Kd.K k45 W R7 [.string ⟨#[114]⟩, .slice B1 2 2, .slice B2 2 2, .slice none 0 0, .slice B4 3 3] :=
 zeC W R7 (c1 := 2) (by decide) h.h1 (c2 := 2) (by decide) h.h2 (c3 := 0) (by decide) h.h3 (c4 := 3) (by decide) h.h4
theorem zhq {B1 B2 B4 : Option Addr} {W : World} (h : RuleAt R7 B1 B2 none B4 W) : Kd.C k45 (W.alloc (.cells #[.string ⟨#[114]⟩, .slice B1 2 2, .slice B2 2 2, .slice none 0 0, .slice B4 3 3] 45)) (some ⟨W.heap.size, 0, none⟩) 1 [R7] :=
 zbO k45 W 45 [R7] [.string ⟨#[114]⟩, .slice B1 2 2, .slice B2 2 2, .slice none 0 0, .slice B4 3 3] (Reps.snoc (Reps.none _ _) (zg6 h) rfl) (by decide)
def zdP (s : Nat) : Array Value := #[.string ⟨#[97]⟩, .int .i64 1, .slice (some ⟨s + 1 + 1, 0, none⟩) 1 1, .slice none 0 0, .int .i64 0]
def s7W (w : World) : World := (((w.alloc (.cells #[.string ⟨#[97]⟩] 9)).alloc (.cells #[.string ⟨#[120]⟩] 9)).alloc (.cells #[.string ⟨#[120]⟩] 9)).alloc (.cells (zdP w.heap.size) 24)
theorem zkQ (w : World) : RuleAt S7 (some ⟨w.heap.size + 1, 0, none⟩) (some ⟨w.heap.size, 0, none⟩) none (some ⟨w.heap.size + 1 + 1 + 1, 0, none⟩) (s7W w) /\ Below w.heap.size w (s7W w) /\ (s7W w).heap.size = w.heap.size + 1 + 1 + 1 + 1 := by
 obtain ⟨wA, hA⟩ : ∃ wA, wA = w.alloc (.cells #[.string ⟨#[97]⟩] 9) := ⟨_, rfl⟩; obtain ⟨wB, hB⟩ : ∃ wB, wB = wA.alloc (.cells #[.string ⟨#[120]⟩] 9) := ⟨_, rfl⟩; obtain ⟨wC, hC⟩ : ∃ wC, wC = wB.alloc (.cells #[.string ⟨#[120]⟩] 9) := ⟨_, rfl⟩; have e : s7W w = wC.alloc (.cells (zdP w.heap.size) 24) := by rw [hC, hB, hA]; rfl
 have sA : wA.heap.size = w.heap.size + 1 := by rw [hA, zbM]
 have sB : wB.heap.size = w.heap.size + 1 + 1 := by rw [hB, zbM, sA]
 have sC : wC.heap.size = w.heap.size + 1 + 1 + 1 := by rw [hC, zbM, sB]
 have bA : Below w.heap.size w wA := by rw [hA]; exact zbl w _
 have bB : Below wA.heap.size wA wB := by rw [hB]; exact zbl wA _
 have bC : Below wB.heap.size wB wC := by rw [hC]; exact zbl wB _
 have bF : Below wC.heap.size wC (s7W w) := by rw [e]; exact zbl wC _
 have cA : Kd.C zqb wA (some ⟨w.heap.size, 0, none⟩) 1 [⟨#[97]⟩] := by rw [hA]; exact zcD w [⟨#[97]⟩] (by decide)
 have cB : Kd.C zqb wB (some ⟨w.heap.size + 1, 0, none⟩) 1 [⟨#[120]⟩] := by rw [hB, <- sA]; exact zcD wA [⟨#[120]⟩] (by decide)
 have cC : Kd.C zqb wC (some ⟨w.heap.size + 1 + 1, 0, none⟩) 1 [⟨#[120]⟩] := by rw [hC, <- sB]; exact zcD wB [⟨#[120]⟩] (by decide)
 have cF : Kd.C k24 (s7W w) (some ⟨w.heap.size + 1 + 1 + 1, 0, none⟩) 1 S7.f4 := by
  rw [e, <- sC]; refine zbO k24 wC 24 S7.f4 (zdP w.heap.size).toList ?_ (by decide)
  exact Reps.snoc (Reps.none _ _) (zeT wC ⟨⟨#[97]⟩, 1, [⟨#[120]⟩], [], 0⟩ _ rfl cC) rfl
 refine ⟨⟨zqS (zqS cB bC) bF, zqS (zqS (zqS cA bB) bC) bF, zgr zqb _, cF⟩, ?_, by rw [e, zbM, sC]⟩
 exact zac (zac (zac bA (by omega) bB) (by omega) bC) (by omega) bF
theorem zoo (w : World) (hG : GOK w) : Calls zp5 51 #[] w (zcw w) := by
 have h := zjC w hG; go_enter Tryz.func51, Tryz.ntmps51
 go_wp2_with (first | (go_at_call 75; refine h.mono ?_; rintro e w2 ⟨rfl, hb2⟩))
 go_ret
 exact ⟨rfl, hb2⟩
theorem zfs {w : World} {A : Option Addr} {l : List SVal} (h : Kd.C k34 w A l.length l) (hp : 0 < l.length) : ∃ b o, A = some ⟨b, o, none⟩ /\ ∀ i (hi : i < l.length), w.cell? ⟨b, o + i * 2, none⟩ = some (.bool l[i].f0) /\ w.cell? ⟨b, o + i * 2 + 1, none⟩ = some (.string l[i].f1) := by
 obtain ⟨b, o, rfl, _, _⟩ := zdn h 0 hp; refine ⟨b, o, rfl, fun i hi => ?_⟩
 obtain ⟨b', o', e, h0, h1⟩ := zdn h i hi; cases e
 exact ⟨h0, h1⟩
theorem zlA (w : World) (hG : GOK w) : Calls zp5 16 #[] w fun e w' => e = .returned (.bool true) /\ Below w.heap.size w w' := by
 obtain ⟨hR, hB, hS⟩ := zkR w; have HX := zpt (zap (r7W w) (.cells #[.string ⟨#[114]⟩, .slice (some ⟨w.heap.size, 0, none⟩) 2 2, .slice (some ⟨w.heap.size + 1, 0, none⟩) 2 2, .slice none 0 0, .slice (some ⟨w.heap.size + 1 + 1 + 1 + 1 + 1, 0, none⟩) 3 3] 45)); have HR := zpt (hR.below (zbl (r7W w) (.cells #[.string ⟨#[114]⟩, .slice (some ⟨w.heap.size, 0, none⟩) 2 2, .slice (some ⟨w.heap.size + 1, 0, none⟩) 2 2, .slice none 0 0, .slice (some ⟨w.heap.size + 1 + 1 + 1 + 1 + 1, 0, none⟩) 3 3] 45))); have HG := zpt hG; rw [hS] at HX; have HB := zpt (zac hB hB.size (zbl (r7W w) (.cells #[.string ⟨#[114]⟩, .slice (some ⟨w.heap.size, 0, none⟩) 2 2, .slice (some ⟨w.heap.size + 1, 0, none⟩) 2 2, .slice none 0 0, .slice (some ⟨w.heap.size + 1 + 1 + 1 + 1 + 1, 0, none⟩) 3 3] 45))); clear hR hB hS hG; go_enter Tryz.func16, Tryz.ntmps16
 go_upto_region 2 with fail; unfold r7W zeZ at HX HR HB; obtain ⟨w1, hw1⟩ : ∃ w1, w1 = (((((((w.alloc (.cells #[.string ⟨#[97]⟩, .string ⟨#[98]⟩] 9)).alloc (.cells #[.string ⟨#[120]⟩, .string ⟨#[121]⟩] 9)).alloc (.cells #[.string ⟨#[97]⟩] 9)).alloc (.cells #[.string ⟨#[116]⟩] 9)).alloc (.cells #[.string ⟨#[98]⟩] 9)).alloc (.cells #[.string ⟨#[116]⟩, .int .i64 3, .slice (some ⟨w.heap.size + 1 + 1, 0, none⟩) 1 1, .slice none 0 0, .int .i64 0, .string ⟨#[120]⟩, .int .i64 4, .slice (some ⟨w.heap.size + 1 + 1 + 1, 0, none⟩) 1 1, .slice none 0 0, .int .i64 0, .string ⟨#[121]⟩, .int .i64 2, .slice (some ⟨w.heap.size + 1 + 1 + 1 + 1, 0, none⟩) 1 1, .slice none 0 0, .int .i64 0] 24)).alloc (.cells #[.string ⟨#[114]⟩, .slice (some ⟨w.heap.size, 0, none⟩) 2 2, .slice (some ⟨w.heap.size + 1, 0, none⟩) 2 2, .slice none 0 0, .slice (some ⟨w.heap.size + 1 + 1 + 1 + 1 + 1, 0, none⟩) 3 3] 45)) := ⟨_, rfl⟩; rw [<- hw1] at HX HR HB |-; clear hw1; generalize w.heap.size + 1 + 1 + 1 + 1 + 1 + 1 = X at HX |-; generalize (some (⟨w.heap.size, 0, none⟩ : Addr)) = B1 at HX HR |-; generalize (some (⟨w.heap.size + 1, 0, none⟩ : Addr)) = B2 at HX HR |-; generalize (some (⟨w.heap.size + 1 + 1 + 1 + 1 + 1, 0, none⟩ : Addr)) = B4 at HX HR |-; have HCs : Hid (∀ W, Below w1.heap.size w1 W -> W.cell? ⟨X, 0, none⟩ = some (.string ⟨#[114]⟩) /\ W.cell? ⟨X, 1, none⟩ = some (.slice B1 2 2) /\ W.cell? ⟨X, 2, none⟩ = some (.slice B2 2 2) /\ W.cell? ⟨X, 3, none⟩ = some (.slice none 0 0) /\ W.cell? ⟨X, 4, none⟩ = some (.slice B4 3 3)) := zpt (fun W hW =>
  ⟨(zah (zai HX.out hW) 0).trans rfl, (zah (zai HX.out hW) 1).trans rfl, (zah (zai HX.out hW) 2).trans rfl, (zah (zai HX.out hW) 3).trans rfl, (zah (zai HX.out hW) 4).trans rfl⟩)
 -- run.Of
 have hb2 := zbl w1 (.cells #[.bool true, .string ⟨#[113, 10, 112]⟩, .bool true, .string ⟨#[]⟩] 34); have hv2 : Kd.C k34 (w1.alloc (.cells #[.bool true, .string ⟨#[113, 10, 112]⟩, .bool true, .string ⟨#[]⟩] 34)) (some ⟨w1.heap.size, 0, none⟩) 2 [⟨true, ⟨#[113, 10, 112]⟩⟩, ⟨true, ⟨#[]⟩⟩] := zi1 w1 [⟨true, ⟨#[113, 10, 112]⟩⟩, ⟨true, ⟨#[]⟩⟩] (by decide)
 have hR2 := HR.out.below hb2; have hOf := zf9 R7 B1 2 B2 2 none 0 B4 3 (some ⟨w1.heap.size, 0, none⟩) 2 [⟨true, ⟨#[113, 10, 112]⟩⟩, ⟨true, ⟨#[]⟩⟩] _ ((HG.out.below HB.out).below hb2) hR2.h1 hR2.h2 hR2.h4 hv2 fit7 (by decide)
 rw [sv_of] at hOf; have HOf := zpt hOf; have HB2 := zpt hb2; obtain ⟨x0, x1, x2, x3, x4⟩ := HCs.out w1 (zpw _ _); obtain ⟨y0, y1, y2, y3, y4⟩ := HCs.out _ hb2; clear hb2 hv2 hR2 hOf; go_upto_region 3 with (first | (go_at_call 34; refine HOf.out.mono ?_; rintro e w2 ⟨v2, rfl, hR2, hb2⟩; have HV2 := zpt hR2; have HB2 := zpt (zac HB2.out HB2.out.size hb2); clear hR2 hb2))
 obtain ⟨V2, d2, he2, _, hC2⟩ := zqq HV2.out; replace he2 : v2 = .slice V2 2 d2 := he2
 subst he2; have HV2C : Hid (Kd.C k34 w2 V2 2 [⟨true, ⟨#[50, 10]⟩⟩, ⟨false, ⟨#[]⟩⟩]) := zpt hC2
 -- run.Named
 have hb3a := zbl w2 (.cells #[.string ⟨#[98]⟩] 9); have hb3b := hb3a.alloc hb3a.size (.cells #[.bool true, .string ⟨#[122]⟩] 34); have hs3 : (w2.alloc (.cells #[.string ⟨#[98]⟩] 9)).heap.size = w2.heap.size + 1 := zbM _ _; have hv3 : Kd.C k34 ((w2.alloc (.cells #[.string ⟨#[98]⟩] 9)).alloc (.cells #[.bool true, .string ⟨#[122]⟩] 34)) (some ⟨(w2.alloc (.cells #[.string ⟨#[98]⟩] 9)).heap.size, 0, none⟩) 1 [⟨true, ⟨#[122]⟩⟩] := zi1 (w2.alloc (.cells #[.string ⟨#[98]⟩] 9)) [⟨true, ⟨#[122]⟩⟩] (by decide)
 have hi3 : Kd.C zqb (w2.alloc (.cells #[.string ⟨#[98]⟩] 9)) (some ⟨w2.heap.size, 0, none⟩) 1 [⟨#[98]⟩] := zcD w2 [⟨#[98]⟩] (by decide)
 rw [hs3] at hv3; have hB3 := zac HB2.out HB2.out.size hb3b; have hR3 := HR.out.below hB3; have hNm := zmW R7 B1 2 B2 2 none 0 B4 3 (some ⟨w2.heap.size, 0, none⟩) 1 [⟨#[98]⟩] (some ⟨w2.heap.size + 1, 0, none⟩) 1 [⟨true, ⟨#[122]⟩⟩] _ ((HG.out.below HB.out).below hB3) hR3.h1 hR3.h2 hR3.h4 (zqS hi3 (zbl _ _)) hv3 fit7 (by decide)
 rw [zlN] at hNm; have HNm := zpt hNm; have HB3 := zpt hB3; have HV2C := zpt (zqS HV2C.out hb3b); obtain ⟨x0, x1, x2, x3, x4⟩ := HCs.out _ HB2.out; obtain ⟨y0, y1, y2, y3, y4⟩ := HCs.out _ (zac HB2.out HB2.out.size hb3a); obtain ⟨z0, z1, z2, z3, z4⟩ := HCs.out _ hB3; clear hb3a hb3b hs3 hv3 hi3 hB3 hR3 hNm hC2 HOf; go_upto_region 4 with (first | (go_at_call 36; refine HNm.out.mono ?_; rintro e w3 ⟨v3, rfl, hR3, hb3⟩; have HV3 := zpt hR3; have HB3 := zpt (zac HB3.out HB3.out.size hb3); have HV2C := zpt (zqS HV2C.out hb3); clear hR3 hb3))
 obtain ⟨V3, d3, he3, _, hC3⟩ := zqq HV3.out; replace he3 : v3 = .slice V3 2 d3 := he3
 subst he3; have HV3C : Hid (Kd.C k34 w3 V3 2 [⟨false, ⟨#[]⟩⟩, ⟨true, ⟨#[122]⟩⟩]) := zpt hC3; clear hC3
 -- tree.New
 have hr4 : Kd.C k77 (w3.alloc (.cells #[.string ⟨#[97]⟩, .string ⟨#[50, 10, 49]⟩] 77)) (some ⟨w3.heap.size, 0, none⟩) 1 [⟨⟨#[97]⟩, ⟨#[50, 10, 49]⟩⟩] := zbO k77 w3 77 [⟨⟨#[97]⟩, ⟨#[50, 10, 49]⟩⟩] [.string ⟨#[97]⟩, .string ⟨#[50, 10, 49]⟩] (Reps.snoc (Reps.none _ _) (zeX w3 ⟨⟨#[97]⟩, ⟨#[50, 10, 49]⟩⟩) rfl) (by decide)
 have hb4 := zbl w3 (.cells #[.string ⟨#[97]⟩, .string ⟨#[50, 10, 49]⟩] 77); have hB4 := zac HB3.out HB3.out.size hb4; have hNw := tree_New.calls (some ⟨w3.heap.size, 0, none⟩) 1 [⟨⟨#[97]⟩, ⟨#[50, 10, 49]⟩⟩] _ ((HG.out.below HB.out).below hB4) hr4 (by decide)
 have HNw := zpt hNw; have HB4 := zpt hB4; have HV2C := zpt (zqS HV2C.out hb4); have HV3C := zpt (zqS HV3C.out hb4); clear hr4 hb4 hB4 hNw HNm; go_upto_region 5 with (first | (go_at_call 48; refine HNw.out.mono ?_; rintro e w4 ⟨gt, bt, rfl, hT4, _, _, hb4⟩; have HT4 := zpt hT4; have HB4 := zpt (zac HB4.out HB4.out.size hb4); have HV2C := zpt (zqS HV2C.out hb4); have HV3C := zpt (zqS HV3C.out hb4); clear hT4 hb4))
 have HTm : Hid (IsTree w4 gt bt [([97], [50, 10, 49])]) := zpt (by have h := HT4.out; rw [show ([⟨⟨#[97]⟩, ⟨#[50, 10, 49]⟩⟩] : List S77).map zcU = [([97], [50, 10, 49])] from rfl, zoJ] at h; exact h)
 obtain ⟨x0, x1, x2, x3, x4⟩ := HCs.out _ HB4.out
 -- check.All of the one rule
 have hR4 := HR.out.below HB4.out; have hb5 := zbl w4 (.cells #[.string ⟨#[114]⟩, .slice B1 2 2, .slice B2 2 2, .slice none 0 0, .slice B4 3 3] 45); have hAl := zfr (some ⟨w4.heap.size, 0, none⟩) 1 [R7] _ (((HG.out.below HB.out).below HB4.out).below hb5) (zhq hR4) fits1; rw [zhU] at hAl; have HAl := zpt hAl; have HB5 := zpt (zac HB4.out HB4.out.size hb5); have HV2C := zpt (zqS HV2C.out hb5); have HV3C := zpt (zqS HV3C.out hb5); have HTm := zpt (HTm.out.below hb5); clear hb5 hAl hR4 HNw; go_upto_region 8 with (first | (go_at_call 49; refine HAl.out.mono ?_; rintro e w5 ⟨rfl, hb5⟩; have HB5 := zpt (zac HB5.out HB5.out.size hb5); have HV2C := zpt (zqS HV2C.out hb5); have HV3C := zpt (zqS HV3C.out hb5); have HTm := zpt (HTm.out.below hb5); clear hb5))
 -- check.All of both rules
 obtain ⟨hS, hbS, hsS⟩ := zkQ w5; have hB6 := zac HB5.out HB5.out.size hbS; have hR6 := HR.out.below hB6; have hb6 := zbl (s7W w5) (.cells #[.string ⟨#[115]⟩, .slice (some ⟨w5.heap.size + 1, 0, none⟩) 1 1, .slice (some ⟨w5.heap.size, 0, none⟩) 1 1, .slice none 0 0, .slice (some ⟨w5.heap.size + 1 + 1 + 1, 0, none⟩) 1 1, .string ⟨#[114]⟩, .slice B1 2 2, .slice B2 2 2, .slice none 0 0, .slice B4 3 3] 45); have hrow6 : Kd.C k45 ((s7W w5).alloc (.cells #[.string ⟨#[115]⟩, .slice (some ⟨w5.heap.size + 1, 0, none⟩) 1 1, .slice (some ⟨w5.heap.size, 0, none⟩) 1 1, .slice none 0 0, .slice (some ⟨w5.heap.size + 1 + 1 + 1, 0, none⟩) 1 1, .string ⟨#[114]⟩, .slice B1 2 2, .slice B2 2 2, .slice none 0 0, .slice B4 3 3] 45)) (some ⟨(s7W w5).heap.size, 0, none⟩) 2 [S7, R7] :=
  zbO k45 (s7W w5) 45 [S7, R7] [.string ⟨#[115]⟩, .slice (some ⟨w5.heap.size + 1, 0, none⟩) 1 1, .slice (some ⟨w5.heap.size, 0, none⟩) 1 1, .slice none 0 0, .slice (some ⟨w5.heap.size + 1 + 1 + 1, 0, none⟩) 1 1, .string ⟨#[114]⟩, .slice B1 2 2, .slice B2 2 2, .slice none 0 0, .slice B4 3 3]
   (Reps.snoc (Reps.snoc (Reps.none _ _) (zeC (s7W w5) S7 (c1 := 1) (by decide) hS.h1 (c2 := 1) (by decide) hS.h2 (c3 := 0) (by decide) hS.h3 (c4 := 1) (by decide) hS.h4) rfl) (zg6 hR6) rfl) (by decide)
 rw [hsS] at hrow6; have hAl := zfr (some ⟨w5.heap.size + 1 + 1 + 1 + 1, 0, none⟩) 2 [S7, R7] _ (((HG.out.below HB.out).below hB6).below hb6) hrow6 fits2; rw [zok] at hAl; have HB6 := zpt (zac hB6 hB6.size hb6); have HV2C := zpt (zqS (zqS HV2C.out hbS) hb6); have HV3C := zpt (zqS (zqS HV3C.out hbS) hb6); have HTm := zpt ((HTm.out.below hbS).below hb6); unfold s7W zdP at hAl HB6 HV2C HV3C HTm; have HAl2 := zpt hAl; obtain ⟨u0, u1, u2, u3, u4⟩ := HCs.out _ HB5.out; have HCs6 : Hid (∀ W, Below w5.heap.size w5 W -> W.cell? ⟨X, 0, none⟩ = some (.string ⟨#[114]⟩) /\ W.cell? ⟨X, 1, none⟩ = some (.slice B1 2 2) /\ W.cell? ⟨X, 2, none⟩ = some (.slice B2 2 2) /\ W.cell? ⟨X, 3, none⟩ = some (.slice none 0 0) /\ W.cell? ⟨X, 4, none⟩ = some (.slice B4 3 3)) := zpt (fun W hW => HCs.out W (zac HB5.out HB5.out.size hW))
 obtain ⟨p0, p1, p2, p3, p4⟩ := HCs6.out _ hbS; unfold s7W zdP at p0 p1 p2 p3 p4; clear hS hbS hsS hB6 hR6 hb6 hrow6 hAl HAl; go_upto_region 9 with (first | (go_at_call 49; refine HAl2.out.mono ?_; rintro e w6 ⟨rfl, hb6⟩; have HB6 := zpt (zac HB6.out HB6.out.size hb6); have HV2C := zpt (zqS HV2C.out hb6); have HV3C := zpt (zqS HV3C.out hb6); have HTm := zpt (HTm.out.below hb6); clear hb6))
 -- deno.Files
 clear p0 p1 p2 p3 p4 u0 u1 u2 u3 u4 HAl2; have hR7 := HR.out.below HB6.out; have hrow7 := zhq hR7; have hb7 := zbl w6 (.cells #[.string ⟨#[114]⟩, .slice B1 2 2, .slice B2 2 2, .slice none 0 0, .slice B4 3 3] 45); have hb7b := hb7.alloc hb7.size (.cells #[.string ⟨#[120]⟩, .string ⟨#[97]⟩, .string ⟨#[121]⟩] 9); have hs7 := zbM w6 (.cells #[.string ⟨#[114]⟩, .slice B1 2 2, .slice B2 2 2, .slice none 0 0, .slice B4 3 3] 45); have hnm7 : Kd.C zqb ((w6.alloc (.cells #[.string ⟨#[114]⟩, .slice B1 2 2, .slice B2 2 2, .slice none 0 0, .slice B4 3 3] 45)).alloc (.cells #[.string ⟨#[120]⟩, .string ⟨#[97]⟩, .string ⟨#[121]⟩] 9)) (some ⟨(w6.alloc (.cells #[.string ⟨#[114]⟩, .slice B1 2 2, .slice B2 2 2, .slice none 0 0, .slice B4 3 3] 45)).heap.size, 0, none⟩) 3 [⟨#[120]⟩, ⟨#[97]⟩, ⟨#[121]⟩] := zcD _ [⟨#[120]⟩, ⟨#[97]⟩, ⟨#[121]⟩] (by decide)
 rw [hs7] at hnm7; have hB7 := zac HB6.out HB6.out.size hb7b; have hFl := zoO [R7] rk7 [([97], [50, 10, 49])] (some ⟨w6.heap.size, 0, none⟩) 1 gt bt (some ⟨w6.heap.size + 1, 0, none⟩) 3 [⟨#[120]⟩, ⟨#[97]⟩, ⟨#[121]⟩] _ ((HG.out.below HB.out).below hB7) (zqS hrow7 (zbl _ _)) (HTm.out.below hb7b) hnm7 fits1 (fun _ => mean7) (fun k v h => by
  unfold getT at h; by_cases hk : ([97] : zaa) == k
  . simp [List.find?_cons, hk] at h
    rw [<- h]; decide
  . simp [List.find?_cons, hk] at h) (by decide) (by decide)
 rw [zjB] at hFl; have HFl := zpt hFl; have HB7 := zpt hB7; have HV2C := zpt (zqS HV2C.out hb7b); have HV3C := zpt (zqS HV3C.out hb7b); obtain ⟨p0, p1, p2, p3, p4⟩ := HCs.out _ HB6.out; clear hR7 hrow7 hb7 hb7b hs7 hnm7 hB7 hFl; go_upto_region 10 with (first | (go_at_call 50; refine HFl.out.mono ?_; rintro e w7 ⟨v7, rfl, hR7, hb7⟩; have HV7 := zpt hR7; have HB7 := zpt (zac HB7.out HB7.out.size hb7); have HV2C := zpt (zqS HV2C.out hb7); have HV3C := zpt (zqS HV3C.out hb7); clear hR7 hb7))
 obtain ⟨V7, d7, he7, _, hC7⟩ := zqq HV7.out; replace he7 : v7 = .slice V7 3 d7 := he7
 subst he7; have HV7C : Hid (Kd.C k34 w7 V7 3 [⟨true, ⟨#[50, 10]⟩⟩, ⟨true, ⟨#[50, 10, 49]⟩⟩, ⟨false, ⟨#[]⟩⟩]) := zpt hC7; clear hC7 p0 p1 p2 p3 p4 HFl; go_upto_region 12 with fail; obtain ⟨b2, o2, rfl, hc2⟩ := zfs HV2C.out (by decide)
 obtain ⟨b3, o3, rfl, hc3⟩ := zfs HV3C.out (by decide)
 obtain ⟨b7, o7, rfl, hc7⟩ := zfs HV7C.out (by decide)
 have HFa : Hid (∀ W, Below w7.heap.size w7 W -> (W.cell? ⟨b2, o2, none⟩ = some (.bool true) /\ W.cell? ⟨b2, o2 + 1, none⟩ = some (.string ⟨#[50, 10]⟩) /\ W.cell? ⟨b2, o2 + 2, none⟩ = some (.bool false) /\ W.cell? ⟨b3, o3, none⟩ = some (.bool false) /\ W.cell? ⟨b3, o3 + 3, none⟩ = some (.string ⟨#[122]⟩)) /\ (W.cell? ⟨b7, o7 + 1, none⟩ = some (.string ⟨#[50, 10]⟩) /\ W.cell? ⟨b7, o7 + 3, none⟩ = some (.string ⟨#[50, 10, 49]⟩) /\ W.cell? ⟨b7, o7 + 4, none⟩ = some (.bool false) /\ W.cell? ⟨b7, o7 + 5, none⟩ = some (.string ⟨#[]⟩)) /\ (W.cell? ⟨X, 0, none⟩ = some (.string ⟨#[114]⟩) /\ W.cell? ⟨X, 1, none⟩ = some (.slice B1 2 2) /\ W.cell? ⟨X, 2, none⟩ = some (.slice B2 2 2) /\ W.cell? ⟨X, 3, none⟩ = some (.slice none 0 0) /\ W.cell? ⟨X, 4, none⟩ = some (.slice B4 3 3))) := zpt (fun W hW => by
  refine ⟨⟨?_, ?_, ?_, ?_, ?_⟩, ⟨?_, ?_, ?_, ?_⟩, HCs.out W (zac HB7.out HB7.out.size hW)⟩
  . exact zad hW (hc2 0 (by decide)).1
  . exact zad hW (hc2 0 (by decide)).2
  . exact zad hW (hc2 1 (by decide)).1
  . exact zad hW (hc3 0 (by decide)).1
  . exact zad hW (hc3 1 (by decide)).2
  . exact zad hW (hc7 0 (by decide)).2
  . exact zad hW (hc7 1 (by decide)).2
  . exact zad hW (hc7 2 (by decide)).1
  . exact zad hW (hc7 2 (by decide)).2)
 have HRa : Hid (∀ W, Below w7.heap.size w7 W -> RuleAt R7 B1 B2 none B4 W /\ GOK W) := zpt (fun W hW => ⟨HR.out.below (zac HB7.out HB7.out.size hW), (HG.out.below HB.out).below (zac HB7.out HB7.out.size hW)⟩)
 have HBw : Hid (Below w.heap.size w w7) := zpt (zac HB.out HB.out.size HB7.out); clear hc2 hc3 hc7; obtain ⟨b4, o4, C2, e2, C3, e3, rfl, t0, t1, t2, t3, t4, g2, g3⟩ := zcA (HRa.out w7 (zpw _ _)).1.h4 0 (by decide)
 have HFs : Hid (∀ W, Below w7.heap.size w7 W -> W.cell? ⟨b4, o4, none⟩ = some (.string ⟨#[116]⟩) /\ W.cell? ⟨b4, o4 + 1, none⟩ = some (.int .i64 3) /\ W.cell? ⟨b4, o4 + 2, none⟩ = some (.slice C2 1 e2) /\ W.cell? ⟨b4, o4 + 3, none⟩ = some (.slice C3 0 e3) /\ W.cell? ⟨b4, o4 + 4, none⟩ = some (.int .i64 0)) := zpt (fun W hW => ⟨zad hW t0, zad hW t1, zad hW t2, zad hW t3, zad hW t4⟩)
 have HBg : Hid (∀ W, Below w7.heap.size w7 W -> Calls zp5 51 #[] W fun e w' => e = .returned (.bool true) /\ Below W.heap.size W w') := zpt (fun W hW => zoo W (HRa.out W hW).2)
 have HSt : Hid (∀ W, Below w7.heap.size w7 W -> Calls zp5 39 #[.agg #[.string ⟨#[114]⟩, .slice B1 2 2, .slice B2 2 2, .slice none 0 0, .slice (some ⟨b4, o4, none⟩) 3 3], .string ⟨#[120]⟩] W fun e w' => ∃ A c, e = .returned (.slice A 2 c) /\ Below W.heap.size W w') := zpt (fun W hW => (ziw R7 B1 2 B2 2 none 0 (some ⟨b4, o4, none⟩) 3 ⟨#[120]⟩ W (HRa.out W hW).1 fit7 (by decide)).mono fun e w' ⟨v, he, hv, hb⟩ => by
  obtain ⟨A, c, hv', _, _⟩ := zqq hv; exact ⟨A, c, by rw [he, hv', zo2], hb⟩)
 have HRd : Hid (∀ W, Below w7.heap.size w7 W -> Calls zp5 41 #[.agg #[.string ⟨#[114]⟩, .slice B1 2 2, .slice B2 2 2, .slice none 0 0, .slice (some ⟨b4, o4, none⟩) 3 3], .string ⟨#[120]⟩] W fun e w' => ∃ A c, e = .returned (.slice A 1 c) /\ Below W.heap.size W w') := zpt (fun W hW => (zh1 R7 B1 2 B2 2 none 0 (some ⟨b4, o4, none⟩) 3 ⟨#[120]⟩ W (HRa.out W hW).1 fit7 (by decide)).mono fun e w' ⟨v, he, hv, hb⟩ => by
  obtain ⟨A, c, hv', _, _⟩ := zqq hv; exact ⟨A, c, by rw [he, hv', zqe, zmh]; rfl, hb⟩)
 have HSa : Hid (∀ W, Below w7.heap.size w7 W -> Calls zp5 43 #[.agg #[.string ⟨#[114]⟩, .slice B1 2 2, .slice B2 2 2, .slice none 0 0, .slice (some ⟨b4, o4, none⟩) 3 3]] W fun e w' => ∃ A c, e = .returned (.slice A 2 c) /\ Below W.heap.size W w') := zpt (fun W hW => (zh3 R7 B1 2 B2 2 none 0 (some ⟨b4, o4, none⟩) 3 W (HRa.out W hW).1 fit7).mono fun e w' ⟨v, he, hv, hb⟩ => by
  obtain ⟨A, c, hv', _, _⟩ := zqq hv; exact ⟨A, c, by rw [he, hv', zqe, zl4]; rfl, hb⟩)
 have HDe : Hid (∀ W, Below w7.heap.size w7 W -> Calls zp5 44 #[.agg #[.string ⟨#[114]⟩, .slice B1 2 2, .slice B2 2 2, .slice none 0 0, .slice (some ⟨b4, o4, none⟩) 3 3]] W fun e w' => ∃ A c, e = .returned (.slice A 0 c) /\ Below W.heap.size W w') := zpt (fun W hW => (zoP R7 B1 2 B2 2 none 0 (some ⟨b4, o4, none⟩) 3 W (HRa.out W hW).1 fit7).mono fun e w' ⟨v, he, hv, hb⟩ => by
  obtain ⟨A, c, hv', _, _⟩ := zqq hv; exact ⟨A, c, by rw [he, hv', zo8], hb⟩)
 have HEq : Hid (∀ W, Below w7.heap.size w7 W -> Calls zp5 52 #[.agg #[.bool false, .string ⟨#[]⟩], .agg #[.bool false, .string ⟨#[63]⟩]] W fun e w' => e = .returned (.bool true) /\ Below W.heap.size W w') := zpt (fun W _ => zkF ⟨false, ⟨#[]⟩⟩ ⟨false, ⟨#[63]⟩⟩ W)
 have HRu : Hid (∀ W, Below w7.heap.size w7 W -> Calls zp5 46 #[.agg #[.string ⟨#[114]⟩, .slice B1 2 2, .slice B2 2 2, .slice none 0 0, .slice (some ⟨b4, o4, none⟩) 3 3]] W fun e w' => e = .returned (.int .i64 0) /\ Below W.heap.size W w') := zpt (fun W hW => by
  have h := zi4 R7 B1 2 B2 2 none 0 (some ⟨b4, o4, none⟩) 3 W (HRa.out W hW).2 (HRa.out W hW).1 ⟨by decide, by decide, by decide, by decide⟩ (by decide) (by decide)
  rw [zoH] at h; exact h)
 have HMa : Hid (∀ W, Below w7.heap.size w7 W -> Calls zp5 20 #[.agg #[.string ⟨#[116]⟩, .int .i64 3, .slice C2 1 e2, .slice C3 0 e3, .int .i64 0]] W fun e w' => e = .returned (.bool true) /\ Below W.heap.size W w') := zpt (fun W hW => by
  have h := zfx ⟨⟨#[116]⟩, 3, [⟨#[97]⟩], [], 0⟩ C2 e2 C3 e3 W (zqS g2 hW) (zqS g3 hW); rw [zjG] at h; exact h)
 have HLi : Hid (∀ W, Below w7.heap.size w7 W -> Calls zp5 23 #[.string ⟨#[97, 10, 10, 98]⟩] W fun e w' => ∃ A c, e = .returned (.slice A 3 c) /\ Below W.heap.size W w') := zpt (fun W hW => (zeO ⟨#[97, 10, 10, 98]⟩ W (HRa.out W hW).2 (by decide)).mono fun e w' ⟨v, he, hv, hb⟩ => by
  obtain ⟨A, c, hv', _, _⟩ := zqq hv; exact ⟨A, c, by rw [he, hv', znm], hb⟩)
 have HX8 : Hid (Below w7.heap.size w7 w7) := zpt (zpw _ _); obtain ⟨⟨f0, f1, f2, f3, f4⟩, ⟨f5, f6, f7, f8⟩, ⟨f9, f10, f11, f12, f13⟩⟩ := HFa.out _ HX8.out; obtain ⟨s0, s1, s2, s3, s4⟩ := HFs.out _ HX8.out; clear t0 t1 t2 t3 t4 g2 g3; go_wp2_with (first
  | (go_at_call 51; refine (HBg.out _ HX8.out).mono ?_; rintro e w8 ⟨rfl, hb8⟩; have HX8 := zpt (zac HX8.out HX8.out.size hb8); clear f0 f1 f2 f3 f4 f5 f6 f7 f8 f9 f10 f11 f12 f13 s0 s1 s2 s3 s4; obtain ⟨⟨f0, f1, f2, f3, f4⟩, ⟨f5, f6, f7, f8⟩, ⟨f9, f10, f11, f12, f13⟩⟩ := HFa.out _ HX8.out; obtain ⟨s0, s1, s2, s3, s4⟩ := HFs.out _ HX8.out; clear hb8)
  | (go_at_call 39; refine (HSt.out _ HX8.out).mono ?_; rintro e w8 ⟨A8, c8, rfl, hb8⟩; have HX8 := zpt (zac HX8.out HX8.out.size hb8); clear f0 f1 f2 f3 f4 f5 f6 f7 f8 f9 f10 f11 f12 f13 s0 s1 s2 s3 s4; obtain ⟨⟨f0, f1, f2, f3, f4⟩, ⟨f5, f6, f7, f8⟩, ⟨f9, f10, f11, f12, f13⟩⟩ := HFa.out _ HX8.out; obtain ⟨s0, s1, s2, s3, s4⟩ := HFs.out _ HX8.out; clear hb8)
  | (go_at_call 41; refine (HRd.out _ HX8.out).mono ?_; rintro e w8 ⟨A8, c8, rfl, hb8⟩; have HX8 := zpt (zac HX8.out HX8.out.size hb8); clear f0 f1 f2 f3 f4 f5 f6 f7 f8 f9 f10 f11 f12 f13 s0 s1 s2 s3 s4; obtain ⟨⟨f0, f1, f2, f3, f4⟩, ⟨f5, f6, f7, f8⟩, ⟨f9, f10, f11, f12, f13⟩⟩ := HFa.out _ HX8.out; obtain ⟨s0, s1, s2, s3, s4⟩ := HFs.out _ HX8.out; clear hb8)
  | (go_at_call 43; refine (HSa.out _ HX8.out).mono ?_; rintro e w8 ⟨A8, c8, rfl, hb8⟩; have HX8 := zpt (zac HX8.out HX8.out.size hb8); clear f0 f1 f2 f3 f4 f5 f6 f7 f8 f9 f10 f11 f12 f13 s0 s1 s2 s3 s4; obtain ⟨⟨f0, f1, f2, f3, f4⟩, ⟨f5, f6, f7, f8⟩, ⟨f9, f10, f11, f12, f13⟩⟩ := HFa.out _ HX8.out; obtain ⟨s0, s1, s2, s3, s4⟩ := HFs.out _ HX8.out; clear hb8)
  | (go_at_call 44; refine (HDe.out _ HX8.out).mono ?_; rintro e w8 ⟨A8, c8, rfl, hb8⟩; have HX8 := zpt (zac HX8.out HX8.out.size hb8); clear f0 f1 f2 f3 f4 f5 f6 f7 f8 f9 f10 f11 f12 f13 s0 s1 s2 s3 s4; obtain ⟨⟨f0, f1, f2, f3, f4⟩, ⟨f5, f6, f7, f8⟩, ⟨f9, f10, f11, f12, f13⟩⟩ := HFa.out _ HX8.out; obtain ⟨s0, s1, s2, s3, s4⟩ := HFs.out _ HX8.out; clear hb8)
  | (go_at_call 52; refine (HEq.out _ HX8.out).mono ?_; rintro e w8 ⟨rfl, hb8⟩; have HX8 := zpt (zac HX8.out HX8.out.size hb8); clear f0 f1 f2 f3 f4 f5 f6 f7 f8 f9 f10 f11 f12 f13 s0 s1 s2 s3 s4; obtain ⟨⟨f0, f1, f2, f3, f4⟩, ⟨f5, f6, f7, f8⟩, ⟨f9, f10, f11, f12, f13⟩⟩ := HFa.out _ HX8.out; obtain ⟨s0, s1, s2, s3, s4⟩ := HFs.out _ HX8.out; clear hb8)
  | (go_at_call 46; refine (HRu.out _ HX8.out).mono ?_; rintro e w8 ⟨rfl, hb8⟩; have HX8 := zpt (zac HX8.out HX8.out.size hb8); clear f0 f1 f2 f3 f4 f5 f6 f7 f8 f9 f10 f11 f12 f13 s0 s1 s2 s3 s4; obtain ⟨⟨f0, f1, f2, f3, f4⟩, ⟨f5, f6, f7, f8⟩, ⟨f9, f10, f11, f12, f13⟩⟩ := HFa.out _ HX8.out; obtain ⟨s0, s1, s2, s3, s4⟩ := HFs.out _ HX8.out; clear hb8)
  | (go_at_call 20; refine (HMa.out _ HX8.out).mono ?_; rintro e w8 ⟨rfl, hb8⟩; have HX8 := zpt (zac HX8.out HX8.out.size hb8); clear f0 f1 f2 f3 f4 f5 f6 f7 f8 f9 f10 f11 f12 f13 s0 s1 s2 s3 s4; obtain ⟨⟨f0, f1, f2, f3, f4⟩, ⟨f5, f6, f7, f8⟩, ⟨f9, f10, f11, f12, f13⟩⟩ := HFa.out _ HX8.out; obtain ⟨s0, s1, s2, s3, s4⟩ := HFs.out _ HX8.out; clear hb8)
  | (go_at_call 23; refine (HLi.out _ HX8.out).mono ?_; rintro e w8 ⟨A8, c8, rfl, hb8⟩; have HX8 := zpt (zac HX8.out HX8.out.size hb8); clear f0 f1 f2 f3 f4 f5 f6 f7 f8 f9 f10 f11 f12 f13 s0 s1 s2 s3 s4; obtain ⟨⟨f0, f1, f2, f3, f4⟩, ⟨f5, f6, f7, f8⟩, ⟨f9, f10, f11, f12, f13⟩⟩ := HFa.out _ HX8.out; obtain ⟨s0, s1, s2, s3, s4⟩ := HFs.out _ HX8.out; clear hb8))
 go_ret
 exact ⟨rfl, zac HBw.out HBw.out.size HX8.out⟩
theorem zfv {α : Type} {d : Kd α} {W : World} {ok : Nat -> Prop} {x : α} {c : List Value} (h : Kd.FK d W ok x c) (g : Nat) (hne : ∀ k, ok k -> k ≠ g) (v0 v1 v2 v3 v4 : Value) :
 Kd.FK d (((((W.setCell ⟨g, 0, none⟩ v0).setCell ⟨g, 1, none⟩ v1).setCell ⟨g, 2, none⟩ v2).setCell ⟨g, 3, none⟩ v3).setCell ⟨g, 4, none⟩ v4) ok x c :=
 Kd.FK_step h (fun k hk _ => ((((zpV _ ⟨g, 4, none⟩ v4 k (hne k hk)).trans (zpV _ ⟨g, 3, none⟩ v3 k (hne k hk))).trans (zpV _ ⟨g, 2, none⟩ v2 k (hne k hk))).trans (zpV _ ⟨g, 1, none⟩ v1 k (hne k hk))).trans (zpV _ ⟨g, 0, none⟩ v0 k (hne k hk)))
theorem zf2 {W : World} {ok : Nat -> Prop} {r : zaj} {X1 X2 X3 X4 : Option Addr} {d1 d2 d3 d4 : Nat} (h : Kd.FK k45 W ok r [.string r.f0, .slice X1 r.f1.length d1, .slice X2 r.f2.length d2, .slice X3 r.f3.length d3, .slice X4 r.f4.length d4]) : RuleAt r X1 X2 X3 X4 W /\ CapR r d1 d2 d3 d4 := by
 obtain ⟨A1, c1, A2, c2, A3, c3, A4, c4, he, l1, g1, l2, g2, l3, g3, l4, g4⟩ := zkl h; simp only [List.cons.injEq, Value.slice.injEq, true_and, and_true] at he; obtain ⟨⟨rfl, rfl⟩, ⟨rfl, rfl⟩, ⟨rfl, rfl⟩, rfl, rfl⟩ := he; exact ⟨⟨Kd.F_now g1, Kd.F_now g2, Kd.F_now g3, Kd.F_now g4⟩, ⟨l1, l2, l3, l4⟩⟩
def zoU (r : zaj) (w : World) (e : Ending) (w' : World) : Prop :=
 ∃ X1 d1 X2 d2 X3 d3 X4 d4, e = .returned (.tuple #[.agg #[.string r.f0, .slice X1 r.f1.length d1, .slice X2 r.f2.length d2, .slice X3 r.f3.length d3, .slice X4 r.f4.length d4], .bool (decide (zbn r = 0))]) /\
  Kd.FK k45 w' (fun k => w.heap.size <= k) r [.string r.f0, .slice X1 r.f1.length d1, .slice X2 r.f2.length d2, .slice X3 r.f3.length d3, .slice X4 r.f4.length d4] /\ Below w.heap.size w w'
theorem zm1 (r : zaj) (B1 : Option Addr) (c1 : Nat) (B2 : Option Addr) (c2 : Nat) (B3 : Option Addr) (c3 : Nat) (B4 : Option Addr) (c4 : Nat) (w : World) (hA : RuleAt r B1 B2 B3 B4 w) (hC : CapR r c1 c2 c3 c4)
 (hls : ∀ x ∈ r.f4, x.f2.length * 16 <= 140737488355328 /\ x.f3.length * 16 <= 140737488355328) (hF : FitR (zb1 r)) (hf3 : (zb1 r).f3.length <= 1000) :
 Calls zp5 30 #[.agg (zal r B1 c1 B2 c2 B3 c3 B4 c4)] w (zoU (zb1 r) w) := by
 obtain ⟨w2, hw2⟩ : ∃ w2, w2 = (w.alloc (.cells (zal r B1 c1 B2 c2 B3 c3 B4 c4) 45)).alloc (.cells #[.string ⟨#[]⟩, .slice none 0 0, .slice none 0 0, .slice none 0 0, .slice none 0 0] 45) := ⟨_, rfl⟩; have hg1 := zbl w (.cells (zal r B1 c1 B2 c2 B3 c3 B4 c4) 45); have hg2 := zbl (w.alloc (.cells (zal r B1 c1 B2 c2 B3 c3 B4 c4) 45)) (.cells #[.string ⟨#[]⟩, .slice none 0 0, .slice none 0 0, .slice none 0 0, .slice none 0 0] 45); have hb2 : Below w.heap.size w w2 := by rw [hw2]; exact zac hg1 hg1.size hg2
 have hn2 : w2.heap.size = w.heap.size + 1 + 1 := by rw [hw2, zbM, zbM]
 have hz2 : w2.heap[w.heap.size + 1]? = some (.cells #[.string ⟨#[]⟩, .slice none 0 0, .slice none 0 0, .slice none 0 0, .slice none 0 0] 45 (0, 0)) := by
  rw [hw2, <- zbM w (.cells (zal r B1 c1 B2 c2 B3 c3 B4 c4) 45)]; exact zap _ _
 have hk2 : w2.heap[w.heap.size]? = some (.cells (zal r B1 c1 B2 c2 B3 c3 B4 c4) 45 (0, 0)) := by rw [hw2]; exact zai (zap _ _) hg2
 have hA2 := hA.below hb2; have HCut := zpt (zkX r B1 c1 B2 c2 B3 c3 B4 c4 w2 hA2.h1 hA2.h2 hA2.h3 hA2.h4 hls hC.l1 hC.l2 hC.l3 hC.l4); generalize zb1 r = R at HCut hF hf3 |-; have HZ2 := zpt hz2; have HK2 := zpt hk2; have HB2 := zpt hb2; have HN2 := zpt hn2; unfold zal at HK2 hw2 hk2 |-; have k0 := bc0 hk2; have k1 := bc1 hk2; have k2 := bc2 hk2; have k3 := bc3 hk2; have k4 := bc4 hk2; have f0 := zak hk2 0; have f1 := zak hk2 1; have f2 := zak hk2 2; have f3 := zak hk2 3; have f4 := zak hk2 4; clear hg1 hg2 hb2 hz2 hk2 hA2 hA hC hls hn2; go_enter Tryz.func30, Tryz.ntmps30
 go_upto_region 1 with fail; rw [<- hw2]; clear hw2; have HS2 : Hid (w.heap.size < w2.heap.size) := zpt (by rw [HN2.out]; omega)
 go_upto_region 2 with (first | (go_at_call 53; refine HCut.out.mono ?_; rintro e w4 ⟨X1, d1, X2, d2, X3, d3, X4, d4, rfl, hFK, hb4⟩; have HFK := zpt hFK; have HK4 := zpt (zai HK2.out hb4); have HZ4 := zpt (zai HZ2.out hb4); have HB4 := zpt (zac HB2.out HB2.out.size hb4); have v0 := bc0 HK4.out; have v1 := bc1 HK4.out; have v2 := bc2 HK4.out; have v3 := bc3 HK4.out; have v4 := bc4 HK4.out; have y0 := zak HK4.out 0; have y1 := zak HK4.out 1; have y2 := zak HK4.out 2; have y3 := zak HK4.out 3; have y4 := zak HK4.out 4; clear hFK hb4))
 have hs5 := zcl (.string R.f0) (.slice X1 R.f1.length d1) (.slice X2 R.f2.length d2) (.slice X3 R.f3.length d3) (.slice X4 R.f4.length d4) HK4.out; unfold set5 at hs5; have hle : w.heap.size <= w.heap.size := zpx _; have hB5 := ((((HB4.out.setCell (p := ⟨w.heap.size, 0, none⟩) hle (.string R.f0)).setCell (p := ⟨w.heap.size, 1, none⟩) hle (.slice X1 R.f1.length d1)).setCell (p := ⟨w.heap.size, 2, none⟩) hle (.slice X2 R.f2.length d2)).setCell (p := ⟨w.heap.size, 3, none⟩) hle (.slice X3 R.f3.length d3)).setCell (p := ⟨w.heap.size, 4, none⟩) hle (.slice X4 R.f4.length d4); have hF5 := zfv HFK.out w.heap.size (fun k hk => by have := HS2.out; omega) (.string R.f0) (.slice X1 R.f1.length d1) (.slice X2 R.f2.length d2) (.slice X3 R.f3.length d3) (.slice X4 R.f4.length d4)
 have hz5 : (((((w4.setCell ⟨w.heap.size, 0, none⟩ (.string R.f0)).setCell ⟨w.heap.size, 1, none⟩ (.slice X1 R.f1.length d1)).setCell ⟨w.heap.size, 2, none⟩ (.slice X2 R.f2.length d2)).setCell ⟨w.heap.size, 3, none⟩ (.slice X3 R.f3.length d3)).setCell ⟨w.heap.size, 4, none⟩ (.slice X4 R.f4.length d4)).heap[w.heap.size + 1]? = some (.cells #[.string ⟨#[]⟩, .slice none 0 0, .slice none 0 0, .slice none 0 0, .slice none 0 0] 45 (0, 0)) := by
  have hne : w.heap.size + 1 ≠ w.heap.size := by omega
  exact (((((zpV _ ⟨w.heap.size, 4, none⟩ _ _ hne).trans (zpV _ ⟨w.heap.size, 3, none⟩ _ _ hne)).trans (zpV _ ⟨w.heap.size, 2, none⟩ _ _ hne)).trans (zpV _ ⟨w.heap.size, 1, none⟩ _ _ hne)).trans (zpV _ ⟨w.heap.size, 0, none⟩ _ _ hne)).trans HZ4.out
 generalize (((((w4.setCell ⟨w.heap.size, 0, none⟩ (.string R.f0)).setCell ⟨w.heap.size, 1, none⟩ (.slice X1 R.f1.length d1)).setCell ⟨w.heap.size, 2, none⟩ (.slice X2 R.f2.length d2)).setCell ⟨w.heap.size, 3, none⟩ (.slice X3 R.f3.length d3)).setCell ⟨w.heap.size, 4, none⟩ (.slice X4 R.f4.length d4)) = w5 at hs5 hB5 hF5 hz5 |-; have HS5 := zpt hs5; have HB5 := zpt hB5; have HF5 := zpt hF5; have HZ5 := zpt hz5; have HSo : Hid (∀ W : World, Below w5.heap.size w5 W -> W.cell? ⟨w.heap.size, 0, none⟩ = some (.string R.f0) /\ W.cell? ⟨w.heap.size, 1, none⟩ = some (.slice X1 R.f1.length d1) /\ W.cell? ⟨w.heap.size, 2, none⟩ = some (.slice X2 R.f2.length d2) /\ W.cell? ⟨w.heap.size, 3, none⟩ = some (.slice X3 R.f3.length d3) /\ W.cell? ⟨w.heap.size, 4, none⟩ = some (.slice X4 R.f4.length d4)) :=
  zpt (fun W hW => ⟨bc0 (zai HS5.out hW), bc1 (zai HS5.out hW), bc2 (zai HS5.out hW), bc3 (zai HS5.out hW), bc4 (zai HS5.out hW)⟩)
 have HRu := zpt (fun W (hW : Below w5.heap.size w5 W) => zkH R X1 d1 X2 d2 X3 d3 X4 d4 W (zf2 (Kd.FK_below HF5.out hW)).1 (zf2 HF5.out).2 hF hf3)
 unfold zal at HRu; have HBk : Hid (Below w5.heap.size w5 w5.drew) := zpt (zaM (zpw _ _)); clear hs5 hB5 hF5 hz5 hle hF hf3 v0 v1 v2 v3 v4 y0 y1 y2 y3 y4 HFK k0 k1 k2 k3 k4 f0 f1 f2 f3 f4; go_region_held3 (fun W => W.cell? ⟨w.heap.size, 0, none⟩ = some (.string R.f0) /\ W.cell? ⟨w.heap.size, 1, none⟩ = some (.slice X1 R.f1.length d1) /\ W.cell? ⟨w.heap.size, 2, none⟩ = some (.slice X2 R.f2.length d2) /\ W.cell? ⟨w.heap.size, 3, none⟩ = some (.slice X3 R.f3.length d3) /\ W.cell? ⟨w.heap.size, 4, none⟩ = some (.slice X4 R.f4.length d4))
  (first | exact HSo.out _ HBk.out | go_keep)
  (first | (go_at_call 61; refine (HRu.out _ HBk.out).mono ?_; rintro e w6 ⟨rfl, hb6⟩; have HBk := zpt (zac HBk.out HBk.out.size hb6); have HZ6 := zpt (zai HZ5.out HBk.out); have v0 := bc0 HZ6.out; have v1 := bc1 HZ6.out; have v2 := bc2 HZ6.out; have v3 := bc3 HZ6.out; have v4 := bc4 HZ6.out; have y0 := zak HZ6.out 0; have y1 := zak HZ6.out 1; have y2 := zak HZ6.out 2; have y3 := zak HZ6.out 3; have y4 := zak HZ6.out 4; clear hb6))
 all_goals
  have hs6 := zcl (.string R.f0) (.slice X1 R.f1.length d1) (.slice X2 R.f2.length d2) (.slice X3 R.f3.length d3) (.slice X4 R.f4.length d4) HZ6.out; unfold set5 at hs6; have hle : w.heap.size <= w.heap.size + 1 := Nat.le_succ _; have hB6 := (((((zac HB5.out HB5.out.size HBk.out).setCell (p := ⟨w.heap.size + 1, 0, none⟩) hle (.string R.f0)).setCell (p := ⟨w.heap.size + 1, 1, none⟩) hle (.slice X1 R.f1.length d1)).setCell (p := ⟨w.heap.size + 1, 2, none⟩) hle (.slice X2 R.f2.length d2)).setCell (p := ⟨w.heap.size + 1, 3, none⟩) hle (.slice X3 R.f3.length d3)).setCell (p := ⟨w.heap.size + 1, 4, none⟩) hle (.slice X4 R.f4.length d4); have hF6 := Kd.FK_mono (zfv (Kd.FK_below HF5.out HBk.out) (w.heap.size + 1) (fun k hk => by have := HN2.out; omega) (.string R.f0) (.slice X1 R.f1.length d1) (.slice X2 R.f2.length d2) (.slice X3 R.f3.length d3) (.slice X4 R.f4.length d4)) (ok' := fun k => w.heap.size <= k) (fun k hk => Nat.le_trans (Nat.le_of_lt HS2.out) hk)
  have HB6 := zpt hB6; have HF6 := zpt hF6; have HS6 := zpt hs6; clear hB6 hF6 hs6; go_wp2_with fail; generalize (((((w6.setCell ⟨w.heap.size + 1, 0, none⟩ (.string R.f0)).setCell ⟨w.heap.size + 1, 1, none⟩ (.slice X1 R.f1.length d1)).setCell ⟨w.heap.size + 1, 2, none⟩ (.slice X2 R.f2.length d2)).setCell ⟨w.heap.size + 1, 3, none⟩ (.slice X3 R.f3.length d3)).setCell ⟨w.heap.size + 1, 4, none⟩ (.slice X4 R.f4.length d4)) = w7 at HB6 HF6 HS6 |-; have g0 := bc0 HS6.out; have g1 := bc1 HS6.out; have g2 := bc2 HS6.out; have g3 := bc3 HS6.out; have g4 := bc4 HS6.out; exact bodyPost_ret (v := .tuple #[.agg #[.string R.f0, .slice X1 R.f1.length d1, .slice X2 R.f2.length d2, .slice X3 R.f3.length d3, .slice X4 R.f4.length d4], .bool (decide (zbn R = 0))]) (by simp [results, Tryz.results30, go_sem, g0, g1, g2, g3, g4] <;> rfl) rfl ⟨X1, d1, X2, d2, X3, d3, X4, d4, rfl, HF6.out, HB6.out⟩
end X
namespace X
theorem zhp (outs : List zaa) : ∀ L : List zbg, (zaJ outs L).length = L.length
 | [] => rfl
 | s :: r => by show (zaJ outs r).length + 1 = _; rw [zhp outs r]; rfl
theorem zjo (outs : List zaa) : ∀ (L : List zbg) (k : Nat) (h : k < L.length), (zaJ outs L)[k]? = some (outs.contains L[k].out || ((L.drop (k + 1)).zip ((zaJ outs L).drop (k + 1))).any fun p => p.2 && p.1.args.contains L[k].out)
 | [], _, h => by simp at h
 | _ :: _, 0, _ => rfl
 | s :: r, k + 1, h => by
  have hk : k < r.length := by simpa using h
  exact zjo outs r k hk
def zdR (r : zb5) : Prop := ∀ (j : Nat) (hj : j < r.steps.length), ∀ a ∈ r.steps[j].args, a ∈ r.ins \/ ∃ (i : Nat) (hi : i < r.steps.length), i < j /\ r.steps[i].out = a
theorem zor {r : zb5} (hf : zdO r) (ha : zdR r) {j k : Nat} (hj : j < r.steps.length) (hk : k < r.steps.length) (hjk : j <= k) : r.steps[j].args.contains r.steps[k].out = false := by
 rw [Bool.eq_false_iff]; intro h; rcases ha j hj _ (by simpa using h) with h1 | ⟨i, hi, hij, he⟩
 . exact hf.fresh _ (zqQ hk) h1
 . have hne : i ≠ k := by omega
   rcases Nat.lt_or_gt_of_ne hne with h2 | h2
   . exact List.pairwise_iff_getElem.1 hf.outs i k (by rw [zqe]; exact hi) (by rw [zqe]; exact hk) h2 (by rw [zrf, zrf]; exact he)
   . omega
theorem znL {r : zb5} (hf : zdO r) (ha : zdR r) (outs : List zaa) (k : Nat) (hk : k < r.steps.length) :
 (zaJ outs r.steps)[k]? = some (outs.contains r.steps[k].out || (r.steps.zip (zaJ outs r.steps)).any fun p => p.2 && p.1.args.contains r.steps[k].out) := by
 rw [zjo outs r.steps k hk]; congr 2
 have hsplit : r.steps.zip (zaJ outs r.steps) = (r.steps.take (k + 1)).zip ((zaJ outs r.steps).take (k + 1)) ++ (r.steps.drop (k + 1)).zip ((zaJ outs r.steps).drop (k + 1)) := by
  rw [<- List.zip_append (by rw [zpI, zpI, zhp]), zq2, zq2]
 rw [hsplit, List.any_append]; have hno : ((r.steps.take (k + 1)).zip ((zaJ outs r.steps).take (k + 1))).any (fun p => p.2 && p.1.args.contains r.steps[k].out) = false := by
  rw [List.any_eq_false]; rintro ⟨s, b⟩ hp; have hs : s ∈ r.steps.take (k + 1) := (List.of_mem_zip hp).1; obtain ⟨j, hj, rfl⟩ := List.mem_iff_getElem.1 hs; rw [zpI] at hj; rw [List.getElem_take]; show ¬ (b && r.steps[j].args.contains r.steps[k].out) = true
  rw [zor hf ha (by omega) hk (by omega), Bool.and_false]
  simp
 rw [hno, Bool.false_or]
theorem zfu {o1 o2 : List zaa} (h : ∀ x, o1.contains x = true -> o2.contains x = true) : ∀ (L : List zbg) (p : zbg × Bool), p ∈ L.zip (zaJ o1 L) -> p.2 = true -> (p.1, true) ∈ L.zip (zaJ o2 L)
 | [], _, hp, _ => by cases hp
 | s :: r, p, hp, hb => by
  have hp' : p ∈ (s, (o1.contains s.out || (r.zip (zaJ o1 r)).any fun p => p.2 && p.1.args.contains s.out)) :: r.zip (zaJ o1 r) := hp
  show (p.1, true) ∈ (s, (o2.contains s.out || (r.zip (zaJ o2 r)).any fun p => p.2 && p.1.args.contains s.out)) :: r.zip (zaJ o2 r)
  rcases zqE.1 hp' with rfl | hp2
  . have hb' : (o1.contains s.out || (r.zip (zaJ o1 r)).any fun p => p.2 && p.1.args.contains s.out) = true := hb
    have : (o2.contains s.out || (r.zip (zaJ o2 r)).any fun p => p.2 && p.1.args.contains s.out) = true := by
     rw [Bool.or_eq_true] at hb' |-; rcases hb' with h1 | h1
     . exact .inl (h _ h1)
     . right
       obtain ⟨q, hq, hq2⟩ := zqU.1 h1; rw [zp7] at hq2; exact zqU.2 ⟨(q.1, true), zfu h r q hq hq2.1, by simpa using hq2.2⟩
    rw [this]; exact List.mem_cons_self
  . exact zqM _ (zfu h r p hp2 hb)
theorem zkP (r : zb5) (o : zaa) (ho : o ∈ r.outs) (f : zaa) (hf : f ∈ zbq r (zaJ [o] r.steps)) : f ∈ r.ins /\ f ∈ zbq r (zaJ r.outs r.steps) := by
 have key : ∀ m, f ∈ zbq r m ↔ ∃ p ∈ r.steps.zip m, f ∈ p.1.args /\ p.2 = true /\ f ∈ r.ins := by
  intro m; unfold zbq; rw [zeK, List.mem_mergeSort]; simp only [List.mem_flatMap, List.mem_filter, zp7, List.contains_iff_mem]
 obtain ⟨p, hp, h1, h2, h3⟩ := (key _).1 hf; refine ⟨h3, (key _).2 ⟨(p.1, true), zfu (fun x hx => ?_) r.steps p hp h2, h1, rfl, h3⟩⟩
 have : x = o := by simpa using hx
 rw [this]; simpa using ho
theorem zhC (ins : List zaa) : ∀ (L : List zbg) (known k : List zaa), zbN ins L known = some k -> known.Nodup ->
 k = known ++ L.map (·.out) /\ k.Nodup /\ (∀ s ∈ L, s.out ∉ ins) /\ ∀ (j : Nat) (hj : j < L.length), ∀ a ∈ L[j].args, a ∈ ins \/ a ∈ known \/ ∃ (i : Nat) (hi : i < L.length), i < j /\ L[i].out = a
 | [], known, k, h, hn => by
  have : k = known := (zp6 h).symm; subst this; exact ⟨by simp, hn, fun s hs => (by cases hs), fun j hj => (by simp at hj)⟩
 | s :: r, known, k, h, hn => by
  unfold zbN at h; split at h
  . cases h
  . rename_i hc
    simp only [Bool.or_eq_true, not_or, Bool.not_eq_true, List.any_eq_false] at hc; obtain ⟨⟨h1, h2⟩, h3⟩ := hc; have hi : s.out ∉ ins := by simpa using h1
    have hk : s.out ∉ known := by simpa using h2
    obtain ⟨e, hd, hf, ha⟩ := zhC ins r (known ++ [s.out]) k h (List.nodup_append.2 ⟨hn, by simp, fun a ha b hb => by rw [zq6.1 hb]; rintro rfl; exact hk ha⟩)
    refine ⟨by rw [e]; simp, hd, fun t ht => ?_, fun j hj a haj => ?_⟩
    . rcases zqE.1 ht with rfl | ht
      . exact hi
      . exact hf t ht
    . cases j with
      | zero =>
       have h5 := h3 a haj; by_cases hai : a ∈ ins
       . exact .inl hai
       . by_cases hak : a ∈ known
         . exact .inr (.inl hak)
         . exfalso
           simp [hai, hak] at h5
      | succ j =>
       rcases ha j (by simpa using hj) a haj with h4 | h4 | ⟨i, hi2, hij, he⟩
       . exact .inl h4
       . rcases zq7.1 h4 with h5 | h5
         . exact .inr (.inl h5)
         . exact .inr (.inr ⟨0, by simp, by omega, (zq6.1 h5).symm⟩)
       . exact .inr (.inr ⟨i + 1, by simp; omega, by omega, he⟩)
theorem zlL (r : zcm) (h : zc9 zcH zc8 r = 0) : zdO r.body /\ zdR r.body := by
 unfold zc9 at h; split at h
 . cases h
 . split at h
   . cases h
   . split at h
     . cases h
     . rename_i hn
       have hn2 : zc8 r = true := by simpa using hn
       unfold zc8 at hn2; rw [zp7] at hn2; obtain ⟨ht, hm⟩ := hn2; have hti : r.body.ins.Nodup := by
        simp only [Bool.not_eq_true', Bool.or_eq_false_iff] at ht; have := ht.1.1.1; unfold zaL at this; simpa using this
       cases hw : zbN r.body.ins r.body.steps [] with
       | none => rw [hw] at hm; cases hm
       | some known =>
        rw [hw] at hm; obtain ⟨e, hd, hf, ha⟩ := zhC r.body.ins r.body.steps [] known hw List.nodup_nil; have ho : ∀ o ∈ r.body.outs, o ∉ r.body.ins := by
         intro o hoo hoi; have h1 : (r.body.outs.any fun o => r.body.ins.contains o || !known.contains o) = true := zqU.2 ⟨o, hoo, by simp [hoi]⟩
         have h2 : (!(r.body.outs.any fun o => r.body.ins.contains o || !known.contains o)) = true := hm
         rw [h1] at h2; cases h2
        refine ⟨⟨hti, ?_, hf, ho⟩, fun j hj a haj => ?_⟩
        . rw [e, List.nil_append] at hd
          exact hd
        . rcases ha j hj a haj with h4 | h4 | h4
          . exact .inl h4
          . cases h4
          . exact .inr h4
def zb4 (P : List Int) (n k : Nat) : List Bool := (List.range n).map fun (i : Nat) => decide ((i : Int) ∈ P.take k)
theorem zcz (P : List Int) (n k : Nat) : (zb4 P n k).length = n := by unfold zb4; simp
theorem zm3 (P : List Int) (n : Nat) : zb4 P n 0 = List.replicate n false := by
 unfold zb4; apply List.ext_getElem (by simp)
 intro i h1 h2; simp
theorem zeG (P : List Int) (n k i : Nat) (hi : i < n) : (zb4 P n k)[i]'(by rw [zcz]; exact hi) = decide ((i : Int) ∈ P.take k) := by unfold zb4; simp
theorem znj (P : List Int) (n k i : Nat) (h : k < P.length) (hP : P[k] = (i : Int)) : (zb4 P n k).set i true = zb4 P n (k + 1) := by
 apply List.ext_getElem (by rw [List.length_set, zcz, zcz])
 intro j h1 h2; rw [zcz] at h2; rw [List.getElem_set, zeG _ _ _ _ h2, zeG _ _ _ _ h2, zpZ h, hP]; by_cases hij : i = j
 . subst hij; simp
 . rw [if_neg hij]
   have : ¬ (j : Int) = (i : Int) := by omega
   simp [this]
theorem zfZ (m : List Bool) (v : Int) : v ∈ zaR m true ↔ ∃ (i : Nat) (h : i < m.length), v = i /\ m[i] = true := by
 unfold zaR; simp only [zqR, List.mem_filter, Prod.exists, List.mem_zipIdx_iff_getElem?]; constructor
 . rintro ⟨b, i, ⟨h1, h2⟩, rfl⟩
   obtain ⟨hi, he⟩ := zpS.1 h1; exact ⟨i, hi, rfl, by rw [he]; simpa using h2⟩
 . rintro ⟨i, hi, rfl, h⟩
   exact ⟨true, i, ⟨by rw [zpA hi, h], rfl⟩, rfl⟩
theorem zhy (m : List Bool) : ∀ k, k <= m.length -> (zaR (m.take k) true).Nodup /\ ∀ v ∈ zaR (m.take k) true, v < (k : Int)
 | 0, _ => by simp [zaR]
 | k + 1, h => by
  obtain ⟨h1, h2⟩ := zhy m k (by omega)
  rw [zis m true k (by omega)]
  refine ⟨List.nodup_append.2 ⟨h1, by split <;> simp, fun a ha b hb => ?_⟩, fun v hv => ?_⟩
  . have := h2 a ha
    split at hb
    . rw [zq6] at hb; omega
    . cases hb
  . rcases zq7.1 hv with h3 | h3
    . have := h2 v h3; omega
    . split at h3
      . rw [zq6] at h3; omega
      . cases h3
theorem znq (m : List Bool) : (zaR m true).Nodup := by
 have := (zhy m m.length (zpx _)).1; rwa [List.take_length] at this
theorem znx (m : List Bool) : zb4 (zaR m true) m.length (zaR m true).length = m := by
 apply List.ext_getElem (by rw [zcz])
 intro i h1 h2; rw [zeG _ _ _ _ h2, List.take_length]; cases hm : m[i] with
 | true => exact decide_eq_true ((zfZ m _).2 ⟨i, h2, rfl, hm⟩)
 | false =>
  refine decide_eq_false (fun h => ?_)
  obtain ⟨j, hj, he, ht⟩ := (zfZ m _).1 h; obtain rfl : i = j := by omega
  rw [hm] at ht; cases ht
theorem zow (m : List Bool) (k : Nat) (hk : k < (zaR m true).length) : ∃ (i : Nat) (hi : i < m.length), (zaR m true)[k] = (i : Int) /\ (zb4 (zaR m true) m.length k)[i]'(by rw [zcz]; exact hi) = false := by
 obtain ⟨i, hi, he, _⟩ := (zfZ m _).1 (zqQ hk); refine ⟨i, hi, he, ?_⟩; rw [zeG _ _ _ _ hi, <- he]; refine decide_eq_false (fun h => ?_)
 obtain ⟨j, hj, hje⟩ := List.mem_iff_getElem.1 h; rw [List.getElem_take] at hje; rw [zpI] at hj; have hn := List.pairwise_iff_getElem.1 (znq m) j k (by omega) hk (by omega)
 exact hn hje
def zbX (st : List zbg) (m : List Bool) (x : zaa) (j : Nat) : Bool := ((st.zip m).take j).any fun p => p.2 && p.1.args.contains x
theorem zmH (st : List zbg) (m : List Bool) (x : zaa) (j : Nat) (h1 : j < st.length) (h2 : j < m.length) : zbX st m x (j + 1) = (zbX st m x j || (m[j] && st[j].args.contains x)) := by
 have hz : j < (st.zip m).length := by rw [List.length_zip]; omega
 unfold zbX; rw [zpZ hz, List.any_append, List.getElem_zip]; simp
theorem zmE (r : zb5) (hf : zdO r) (ha : zdR r) (o : ByteArray) (m : List Bool) (hm : m = (zau (za2 [o]) r.steps).1) (k : Nat) (hk : k < r.steps.length) (hk2 : k < m.length) :
 m[k] = (decide (r.steps[k].out = o.data.toList) || zbX r.steps m r.steps[k].out r.steps.length) := by
 have he : m = zaJ [o.data.toList] r.steps := by rw [hm]; exact (zeo [o.data.toList] r.steps).1
 have h := znL hf ha [o.data.toList] k hk; rw [<- he, zpA hk2] at h; have h2 := zp6 h; rw [h2]; congr 1
 . rw [Bool.eq_iff_iff]; simp
 . unfold zbX
   rw [List.take_of_length_le (by rw [List.length_zip]; omega)]
end X
namespace X
open Go.RowKit Go.ChangeShapes Go.WideShapes Go.Deep YtdpgdnpddndeoaaGreatDoorW.PrintWords
theorem zpi (a : Addr) (i j : Nat) : (a.add i).add j = a.add (i + j) := by
 unfold Addr.add; by_cases hi : i = 0 <;> by_cases hj : j = 0 <;> simp [hi, hj, Nat.add_assoc]
section
variable {H : Type} {enc : TypeId × Value -> H} {W : World} {α : Type}
end
instance : Inhabited S34 := ⟨z34⟩
instance : Inhabited S77 := ⟨z77⟩
section
variable {H : Type} {enc : TypeId × Value -> H} {W : World} {α : Type}
def RowP (l : List α) (d : DataW H) : Prop := (d = .nil /\ l = []) \/ ∃ ds sp, d = .slice ds sp /\ ds.length = l.length
def SizedBy (P : Program) (t : TypeId) (d : DataW H) : Prop := ∀ n ∈ d.weights P t, n <= reachBytes
theorem zgy {P : Program} {e : TypeId} {n : Nat} {d : DataW H} (hn : n ∈ d.weights P e) : ∀ ds : List (DataW H), d ∈ ds -> n ∈ DataW.weightsAll P e ds
 | [], h => by cases h
 | x :: r, h => by
  rw [DataW.weightsAll, zq7]; rcases zqE.1 h with rfl | h
  . exact .inl hn
  . exact .inr (zgy hn r h)
theorem SizedBy.elems {P : Program} {t e : TypeId} {ds sp : List (DataW H)} (hu : P.underlying t = some (.slice e)) (h : SizedBy P t (.slice ds sp)) : ds.length * P.bytesOf e <= reachBytes /\ ∀ d ∈ ds, SizedBy P e d := by
 unfold SizedBy at h; simp only [DataW.weights, hu] at h; refine ⟨Nat.le_trans (Nat.mul_le_mul_right _ (Nat.le_add_right _ _)) (h _ List.mem_cons_self), fun d hd n hn => ?_⟩
 exact h n (zqM _ (List.mem_append_left _ (zgy hn ds hd)))
theorem SizedBy.part {P : Program} {t : TypeId} {fs : Array Field} {ds : List (DataW H)} (hu : P.underlying t = some (.struct fs)) (h : SizedBy P t (.agg ds)) {j : Nat} {t' : TypeId} {d : DataW H} (ht : (fs.toList.map (·.type))[j]? = some t') (hd : ds[j]? = some d) : SizedBy P t' d := fun n hn => by
 refine h n ?_; simp only [DataW.weights, hu]; exact DataW.weights_mem_each ht hd n hn
theorem zhh [Inhabited α] (K : Kd α) (good good2 : α -> Prop) {P : Program} {base fuel : Nat} {held : Bool} {t e : TypeId} {cs0 : List Value} {x0 : DataW H × List MemPlace}
 (ht : P.underlying t = some (.slice e)) (hce : P.cellsOf e = K.sz)
 (hel : ∀ n cs x, cs.length = K.sz -> DataW.trod enc P W base (fun _ => true) held n e cs = some x -> ∃ y : α, K.K W y cs /\ good y /\ (SizedBy P e x.1 -> good2 y))
 (h : DataW.trod enc P W base (fun _ => true) held fuel t cs0 = some x0) :
 ∃ (a : Option Addr) (l : List α) (c : Nat), cs0 = [.slice a l.length c] /\ K.C W a l.length l /\ l.length <= c /\ RowP l x0.1 /\ (∀ y ∈ l, good y) /\ (SizedBy P t x0.1 -> l.length * P.bytesOf e <= reachBytes /\ ∀ y ∈ l, good2 y) := by
 rcases open_slice ht h with ⟨hcs, hx⟩ | ⟨a, len, cap, m, n, D, Pl, hcs, hb, hl, hm, hmm, hx, hall⟩
 . exact ⟨none, [], 0, hcs, ⟨rfl, by simp, fun h => by simp at h⟩, zpx _, .inl ⟨congrArg Prod.fst hx, rfl⟩, fun y hy => (by cases hy), fun _ => ⟨by simp, fun y hy => (by cases hy)⟩⟩
 . have hlm : len <= m := by rw [hmm]; simp; omega
   obtain ⟨Y, hY⟩ := choose_lt (α := α) (n := len) (p := fun i y => ∃ cs, W.cells? base (a.add (i * K.sz)) K.sz = some cs /\ K.K W y cs /\ good y /\ (SizedBy P e (D i) -> good2 y)) (fun i hi => by
    obtain ⟨cs, h1, h2⟩ := hall i (by omega)
    rw [hce] at h1; obtain ⟨_, hlen, _⟩ := World.cells?_some h1; obtain ⟨y, h3, h5, h6⟩ := hel n cs _ hlen h2; exact ⟨y, cs, h1, h3, h5, h6⟩)
   have hle : len <= 9223372036854775807 := by unfold maxLen at hm; omega
   refine ⟨some a, (List.range len).map Y, cap, by simpa using hcs, ?_, by simpa using hl, .inr ⟨_, _, congrArg Prod.fst hx, by simp⟩, ?_, ?_⟩
   . refine ⟨rfl, by simpa using hle, fun _ => ⟨a, rfl, fun j p hj => ?_⟩⟩
     obtain ⟨hjl, hjp⟩ := zpS.1 hj; have hjn : j < len := by simpa using hjl
     have hp : Y j = p := by simpa using hjp
     obtain ⟨cs, h1, h2, _, _⟩ := hY j hjn; rw [hp] at h2; obtain ⟨_, hlen, hcell⟩ := World.cells?_some h1; refine ⟨cs, hlen, h2, fun i u hu => ?_⟩
     have hi : i < K.sz := by rw [<- hlen]; exact (zpS.1 hu).1
     have := hcell i hi; rw [hu] at this; rw [<- this, zpi]
   . intro y hy
     obtain ⟨i, hi, rfl⟩ := zqR.1 hy; obtain ⟨_, _, _, h4, _⟩ := hY i (List.mem_range.1 hi); exact h4
   . intro hs
     rw [congrArg Prod.fst hx] at hs; obtain ⟨q1, q2⟩ := SizedBy.elems ht hs; refine ⟨by simpa using q1, fun y hy => ?_⟩
     obtain ⟨i, hi, rfl⟩ := zqR.1 hy; obtain ⟨_, _, _, _, h5⟩ := hY i (List.mem_range.1 hi); exact h5 (q2 _ (List.mem_map_of_mem hi))
theorem ziI {P : Program} {w : World} {base : Nat} {spare : Nat -> Bool} {held : Bool} {t : TypeId} {f0 f1 f2 f3 f4 : Field} {fuel : Nat} {cs : List Value} {x : DataW H × List MemPlace} (ht : P.underlying t = some (.struct #[f0, f1, f2, f3, f4])) (h : DataW.trod enc P w base spare held fuel t cs = some x) :
 ∃ y0 y1 y2 y3 y4 n, cs.length = P.cellsOf t /\ x.1 = .agg [y0.1, y1.1, y2.1, y3.1, y4.1] /\ DataW.trod enc P w base spare held n f0.type ((cs.drop f0.offset).take (P.cellsOf f0.type)) = some y0 /\
  DataW.trod enc P w base spare held n f1.type ((cs.drop f1.offset).take (P.cellsOf f1.type)) = some y1 /\ DataW.trod enc P w base spare held n f2.type ((cs.drop f2.offset).take (P.cellsOf f2.type)) = some y2 /\
  DataW.trod enc P w base spare held n f3.type ((cs.drop f3.offset).take (P.cellsOf f3.type)) = some y3 /\ DataW.trod enc P w base spare held n f4.type ((cs.drop f4.offset).take (P.cellsOf f4.type)) = some y4 := by
 obtain ⟨xs, n, _, rfl, hl, hlen, hf⟩ := DataW.trod_struct ht h; match xs, hlen with
 | [y0, y1, y2, y3, y4], _ => exact ⟨y0, y1, y2, y3, y4, n, hl, by simp, by simpa using hf 0 f0 rfl, by simpa using hf 1 f1 rfl, by simpa using hf 2 f2 rfl, by simpa using hf 3 f3 rfl, by simpa using hf 4 f4 rfl⟩
theorem zgU {cs : List Value} (h : cs.length = 5) : ∃ a b c d e, cs = [a, b, c, d, e] := by
 match cs, h with
 | [a, b, c, d, e], _ => exact ⟨a, b, c, d, e, rfl⟩
end
instance : Inhabited S24 := ⟨z24⟩
instance : Inhabited S45 := ⟨z45⟩
structure zeH (y : S24) : Prop where
 out : y.f0.size <= maxLen
 op : -9223372036854775808 <= y.f1 /\ y.f1 <= 9223372036854775807
 args : ∀ s ∈ y.f2, s.size <= maxLen
 lits : ∀ s ∈ y.f3, s.size <= maxLen
 num : -9223372036854775808 <= y.f4 /\ y.f4 <= 9223372036854775807
structure zdN (y : S45) : Prop where
 name : y.f0.size <= maxLen
 ins : ∀ s ∈ y.f1, s.size <= maxLen
 outs : ∀ s ∈ y.f2, s.size <= maxLen
 after : ∀ s ∈ y.f3, s.size <= maxLen
 steps : ∀ s ∈ y.f4, zeH s
structure zeL (y : S24) : Prop where
 out : y.f0.size <= 140737488351232
 args : y.f2.length * 16 <= 140737488351232
 lits : y.f3.length * 16 <= 140737488351232
 argz : ∀ s ∈ y.f2, s.size <= 140737488351232
 litz : ∀ s ∈ y.f3, s.size <= 140737488351232
structure zft (y : S45) : Prop where
 name : y.f0.size <= 140737488351232
 insz : ∀ s ∈ y.f1, s.size <= 140737488351232
 outsz : ∀ s ∈ y.f2, s.size <= 140737488351232
 afterz : ∀ s ∈ y.f3, s.size <= 140737488351232
 ins : y.f1.length * 16 <= 140737488351232
 outs : y.f2.length * 16 <= 140737488351232
 after : y.f3.length * 16 <= 140737488351232
 len : y.f4.length * 80 <= 140737488351232
 steps : ∀ s ∈ y.f4, zeL s
section
variable {H : Type} {enc : TypeId × Value -> H} {W : World} {base fuel : Nat} {held : Bool}
theorem by16 : Tryz.prog.bytesOf 9 = 16 := by kernel_rfl
theorem by80 : Tryz.prog.bytesOf 24 = 80 := by kernel_rfl
theorem zfY {P : Program} {t : TypeId} {s : ByteArray} {x : DataW H × List MemPlace} (hx : x = (.lit (.string s.data.toList), [])) (hs : SizedBy P t x.1) : s.size <= 140737488351232 := by
 rw [hx] at hs; have := hs s.data.toList.length (by simp [DataW.weights])
 rwa [Array.length_toList] at this
theorem zec {cs : List Value} {x : DataW H × List MemPlace} (h : DataW.trod enc zp5 W base (fun _ => true) held fuel 22 cs = some x) :
 ∃ (a : Option Addr) (l : List ByteArray) (c : Nat), cs = [.slice a l.length c] /\ Kd.C zqb W a l.length l /\ l.length <= c /\ RowP l x.1 /\ (∀ y ∈ l, y.size <= maxLen) /\ (SizedBy zp5 22 x.1 -> l.length * 16 <= 140737488351232 /\ ∀ y ∈ l, y.size <= 140737488351232) := by
 obtain ⟨a, l, c, h1, h2, h3, h4, h5, h6⟩ := zhh zqb (fun y => y.size <= maxLen) (fun y => y.size <= 140737488351232) Tryz.underlying22 (by kernel_rfl) (fun n cs x _ hx => by
  obtain ⟨s, h1, h2, h3⟩ := DataW.trod_string Tryz.underlying9 (x := x) hx; exact ⟨s, h1, h3, fun hs => zfY h2 hs⟩) h
 refine ⟨a, l, c, h1, h2, h3, h4, h5, fun hs => ?_⟩
 have := h6 hs; rwa [by16] at this
theorem znT {cs : List Value} {x : DataW H × List MemPlace} (hl : cs.length = 5) (hx : DataW.trod enc zp5 W base (fun _ => true) held fuel 24 cs = some x) : ∃ y, k24.K W y cs /\ zeH y /\ (SizedBy zp5 24 x.1 -> zeL y) := by
 obtain ⟨y0, y1, y2, y3, y4, n, _, hx1, h0, h1, h2, h3, h4⟩ := ziI Tryz.underlying24 hx; obtain ⟨ca, cb, cc, cd, ce, rfl⟩ := zgU hl; have c1 : Tryz.prog.cellsOf 3 = 1 := by kernel_rfl
 have c2 : Tryz.prog.cellsOf 9 = 1 := by kernel_rfl
 have c3 : Tryz.prog.cellsOf 22 = 1 := by kernel_rfl
 simp only [c1, c2, c3, List.drop_zero, zqI, List.take_succ_cons, List.take_zero] at h0 h1 h2 h3 h4; obtain ⟨s, e1, d1, g1⟩ := DataW.trod_string Tryz.underlying9 h0; obtain ⟨b, e2, _, g2⟩ := DataW.trod_int Tryz.underlying3 h1; obtain ⟨a3, l3, k3, e3, C3, n3, _, g3, z3⟩ := zec h2; obtain ⟨a4, l4, k4, e4, C4, n4, _, g4, z4⟩ := zec h3; obtain ⟨b5, e5, _, g5⟩ := DataW.trod_int Tryz.underlying3 h4; cases e1; cases e2; cases e3; cases e4; cases e5
 refine ⟨⟨s, b, l3, l4, b5⟩, zf0 W ⟨s, b, l3, l4, b5⟩ n3 C3 n4 C4, ⟨g1, bounds_i64 g2, g3, g4, bounds_i64 g5⟩, fun hs => ?_⟩
 rw [hx1] at hs; have u := Tryz.underlying24; obtain ⟨q3, r3⟩ := z3 (SizedBy.part u hs (j := 2) rfl rfl); obtain ⟨q4, r4⟩ := z4 (SizedBy.part u hs (j := 3) rfl rfl); exact ⟨zfY d1 (SizedBy.part u hs (j := 0) rfl rfl), q3, q4, r3, r4⟩
theorem zjL {cs : List Value} {x : DataW H × List MemPlace} (h : DataW.trod enc zp5 W base (fun _ => true) held fuel 43 cs = some x) :
 ∃ (a : Option Addr) (l : List S24) (c : Nat), cs = [.slice a l.length c] /\ Kd.C k24 W a l.length l /\ l.length <= c /\ RowP l x.1 /\ (∀ y ∈ l, zeH y) /\ (SizedBy zp5 43 x.1 -> l.length * 80 <= 140737488351232 /\ ∀ y ∈ l, zeL y) := by
 obtain ⟨a, l, c, h1, h2, h3, h4, h5, h6⟩ := zhh k24 zeH zeL Tryz.underlying43 (by kernel_rfl) (fun n cs x hl hx => znT hl hx) h
 refine ⟨a, l, c, h1, h2, h3, h4, h5, fun hs => ?_⟩
 have := h6 hs; rwa [by80] at this
theorem zll {cs : List Value} {x : DataW H × List MemPlace} (hl : cs.length = 5) (hx : DataW.trod enc zp5 W base (fun _ => true) held fuel 45 cs = some x) : ∃ y, k45.K W y cs /\ zdN y /\ (SizedBy zp5 45 x.1 -> zft y) := by
 obtain ⟨y0, y1, y2, y3, y4, n, _, hx1, h0, h1, h2, h3, h4⟩ := ziI Tryz.underlying45 hx; obtain ⟨ca, cb, cc, cd, ce, rfl⟩ := zgU hl; have c2 : Tryz.prog.cellsOf 9 = 1 := by kernel_rfl
 have c3 : Tryz.prog.cellsOf 22 = 1 := by kernel_rfl
 have c4 : Tryz.prog.cellsOf 43 = 1 := by kernel_rfl
 simp only [c2, c3, c4, List.drop_zero, zqI, List.take_succ_cons, List.take_zero] at h0 h1 h2 h3 h4; obtain ⟨s, e1, d1, g1⟩ := DataW.trod_string Tryz.underlying9 h0; obtain ⟨a2, l2, k2, e2, C2, n2, _, g2, z2⟩ := zec h1; obtain ⟨a3, l3, k3, e3, C3, n3, _, g3, z3⟩ := zec h2; obtain ⟨a4, l4, k4, e4, C4, n4, _, g4, z4⟩ := zec h3; obtain ⟨a5, l5, k5, e5, C5, n5, _, g5, z5⟩ := zjL h4; cases e1; cases e2; cases e3; cases e4; cases e5
 refine ⟨⟨s, l2, l3, l4, l5⟩, zeC W ⟨s, l2, l3, l4, l5⟩ n2 C2 n3 C3 n4 C4 n5 C5, ⟨g1, g2, g3, g4, g5⟩, fun hs => ?_⟩
 rw [hx1] at hs; have u := Tryz.underlying45; obtain ⟨q1, q2⟩ := z5 (SizedBy.part u hs (j := 4) rfl rfl); obtain ⟨m2, r2⟩ := z2 (SizedBy.part u hs (j := 1) rfl rfl); obtain ⟨m3, r3⟩ := z3 (SizedBy.part u hs (j := 2) rfl rfl); obtain ⟨m4, r4⟩ := z4 (SizedBy.part u hs (j := 3) rfl rfl); exact ⟨zfY d1 (SizedBy.part u hs (j := 0) rfl rfl), r2, r3, r4, m2, m3, m4, q1, q2⟩
theorem sizedBy {P : Program} {ts : List TypeId} {ds : List (DataW H)} {j : Nat} {t : TypeId} {d : DataW H} (hsz : (DataW.weightsEach P ts ds).all (· <= reachBytes) = true) (ht : ts[j]? = some t) (hj : ds[j]? = some d) : SizedBy P t d := fun n hn => by
 have := List.all_eq_true.1 hsz n (DataW.weights_mem_each ht hj n hn); simpa using this
end
theorem open_rule1 {H : Type} {enc : TypeId × Value -> H} {W : World} {base : Nat} {held : Bool} {v : Value} {d : DataW H} {ps : List MemPlace} (hv : ∃ cs, v = Value.agg cs /\ cs.size = Tryz.prog.cellsOf 45)
 (h : DataW.Trod enc zp5 W base (fun _ => true) held 45 v d ps) :
 ∃ (y : S45) (B1 : Option Addr) (c1 : Nat) (B2 : Option Addr) (c2 : Nat) (B3 : Option Addr) (c3 : Nat) (B4 : Option Addr) (c4 : Nat), v = .agg #[.string y.f0, .slice B1 y.f1.length c1, .slice B2 y.f2.length c2, .slice B3 y.f3.length c3, .slice B4 y.f4.length c4] /\
  (Kd.C zqb W B1 y.f1.length y.f1 /\ y.f1.length <= c1 /\ Kd.C zqb W B2 y.f2.length y.f2 /\ y.f2.length <= c2 /\ Kd.C zqb W B3 y.f3.length y.f3 /\ y.f3.length <= c3 /\ Kd.C k24 W B4 y.f4.length y.f4 /\ y.f4.length <= c4) /\ zdN y /\ (SizedBy zp5 45 d -> zft y) := by
 obtain ⟨cs, rfl, hs⟩ := hv; obtain ⟨fuel, hf⟩ := h; have c0 : Tryz.prog.cellsOf 45 = 5 := by kernel_rfl
 rw [c0] at hs; obtain ⟨y, hK, hg, hB⟩ := zll (cs := cs.toList) (by simpa using hs) hf
 obtain ⟨A1, c1, A2, c2, A3, c3, A4, c4, e, l1, g1, l2, g2, l3, g3, l4, g4⟩ := zcB hK; obtain rfl : cs = #[.string y.f0, .slice A1 y.f1.length c1, .slice A2 y.f2.length c2, .slice A3 y.f3.length c3, .slice A4 y.f4.length c4] := by apply Array.toList_inj.1; exact e
 exact ⟨y, A1, c1, A2, c2, A3, c3, A4, c4, rfl, ⟨g1, l1, g2, l2, g3, l3, g4, l4⟩, hg, hB⟩
end X
namespace X
open Go.RowKit Go.Maps YtdpgdnpddndeoaaGreatDoorW.PrintWords YtdpgdnpddndeoaaGreatDoorW.PrintMore YtdpgdnpddndeoaaGreatDoorW.PrintLast
theorem znt {w : World} {A : Option Addr} {l : List Int} (h : Kd.C (Kd.int .i64) w A l.length l) (k : Nat) (hk : k < l.length) : ∃ b o, A = some ⟨b, o, none⟩ /\ w.cell? ⟨b, o + k, none⟩ = some (.int .i64 l[k]) := by
 obtain ⟨ad, rfl, hc⟩ := h.2.2 (by omega)
 obtain ⟨cs, _, h1, h2⟩ := hc k l[k] (zpA hk); have h1' : cs = [.int .i64 l[k]] := h1; subst h1'; have h3 := h2 0 _ rfl; obtain ⟨cs0, _, h4, h5⟩ := hc 0 l[0] (zpA (by omega))
 have h4' : cs0 = [.int .i64 l[0]] := h4; rw [h4'] at h5; have h6 := h5 0 _ rfl; have e1 : (Kd.int .i64).sz = 1 := rfl; rw [e1] at h3 h6; obtain ⟨b, o, rfl⟩ := zdZ (n := 1) (ad := ad) (by simpa using h6)
 refine ⟨b, o, rfl, ?_⟩; have e : ((⟨b, o, none⟩ : Addr).add (k * 1 + 0)) = ⟨b, o + k, none⟩ := by
  rw [Nat.mul_one, Nat.add_zero]; unfold Addr.add; split
  . rename_i h0; simp [h0]
  . rfl
 rw [e] at h3; exact h3
theorem zmG (r : zaj) (hg : zdN r) : FitR (zb1 r) /\ (zb1 r).f3.length <= 1000 := by
 refine ⟨⟨?_, ?_, ?_, fun x hx => hg.ins x (List.mem_of_mem_take hx), fun x hx => hg.outs x (List.mem_of_mem_take hx), fun s hs => ?_⟩, ?_⟩
 . show (r.f1.take 10).length <= 1000
   rw [zpI]; omega
 . show (r.f2.take 6).length <= 1000
   rw [zpI]; omega
 . show ((r.f4.take 14).map zbF).length <= 1000
   rw [zqe, zpI]; omega
 . obtain ⟨y, hy, rfl⟩ := zqR.1 (show s ∈ (r.f4.take 14).map zbF from hs)
   have h := hg.steps y (List.mem_of_mem_take hy); exact ⟨h.out, by show (y.f2.take 8).length <= 1000; rw [zpI]; omega, fun x hx => h.args x (List.mem_of_mem_take hx)⟩
 . show (r.f3.take 10).length <= 1000
   rw [zpI]; omega
theorem zmP (m : List Bool) (n : Nat) (hn : m.length = n) (P : List Int) (hP : P = zaR m true) (k : Nat) (hk : k < P.length) : ∃ i : Nat, i < n /\ P[k] = (i : Int) /\ rdOf false (zb4 P n k) (i : Int) = false := by
 subst hn hP; obtain ⟨i, hi, he, hf⟩ := zow m k hk; refine ⟨i, hi, he, ?_⟩; unfold rdOf; rw [zqN, zpB, zpA (by rw [zcz]; exact hi), hf]
 rfl
theorem zgM (m : List Bool) (i : Nat) (hi : i < m.length) : rdOf false m (i : Int) = m[i] := by
 unfold rdOf; rw [zqN, zpB, zpA hi]; rfl
theorem zlM (R : zaj) (o : ByteArray) (ho : o ∈ R.f2) (nm : ByteArray) (h : nm ∈ (zbq (zao R) (zau (za2 [o]) (zao R).steps).1).map mk) :
 0 <= zaN R.f1 nm /\ 0 <= zaN ((zbq (zao R) (zau (za2 R.f2) (zao R).steps).1).map mk) nm := by
 obtain ⟨b, hb, rfl⟩ := zqR.1 h; have e1 : (zau (za2 [o]) (zao R).steps).1 = zaJ [o.data.toList] (zao R).steps := (zeo [o.data.toList] _).1; have e2 : (zau (za2 R.f2) (zao R).steps).1 = zaJ (zao R).outs (zao R).steps := (zeo (zao R).outs _).1; rw [e1] at hb; rw [e2]; obtain ⟨h1, h2⟩ := zkP (zao R) o.data.toList (zqR.2 ⟨o, ho, rfl⟩) b hb; have hd : (mk b).data.toList = b := zbd b; constructor
 . have := zcs R.f1 (mk b)
   rw [hd, show (zab R.f1).contains b = true by simpa using (show b ∈ zab R.f1 from h1)] at this
   simpa using this
 . have := zcs ((zbq (zao R) (zaJ (zao R).outs (zao R).steps)).map mk) (mk b)
   rw [hd, show (zab ((zbq (zao R) (zaJ (zao R).outs (zao R).steps)).map mk)).contains b = true by
    simp only [List.contains_iff_mem]; exact zqR.2 ⟨mk b, zqR.2 ⟨b, h2, rfl⟩, hd⟩] at this
   simpa using this
theorem zk1 (R : zaj) (M : List Bool) (hML : M.length = R.f4.length) (o : ByteArray)
 (h : ∀ (k : Nat) (hk : k < (zao R).steps.length) (hk2 : k < M.length), M[k] = (decide ((zao R).steps[k].out = o.data.toList) || zbX (zao R).steps M (zao R).steps[k].out (zao R).steps.length)) (i : Nat) (hi : i < R.f4.length) :
 rdOf false M (i : Int) = (decide (R.f4[i].f0.data.toList = o.data.toList) || zbX (zao R).steps M R.f4[i].f0.data.toList R.f4.length) := by
 have hsl : (zao R).steps.length = R.f4.length := zqe ..; have h1 := h i (by rw [hsl]; exact hi) (by rw [hML]; exact hi)
 have hst : (zao R).steps[i]'(by rw [hsl]; exact hi) = zaC R.f4[i] := zrf ..
 rw [hst, hsl] at h1; rw [zgM M i (by rw [hML]; exact hi)]
 exact h1
theorem zkK (R : zaj) (M : List Bool) (hML : M.length = R.f4.length) (x : zaa) (j : Nat) (hj : j < R.f4.length) :
 zbX (zao R).steps M x (j + 1) = (zbX (zao R).steps M x j || (rdOf false M (j : Int) && (zab R.f4[j].f2).contains x)) := by
 have hsl : (zao R).steps.length = R.f4.length := zqe ..; have hst : (zao R).steps[j]'(by rw [hsl]; exact hj) = zaC R.f4[j] := zrf ..
 rw [zmH _ M x j (by rw [hsl]; exact hj) (by rw [hML]; exact hj), hst, zgM M j (by rw [hML]; exact hj)]
 rfl
theorem zn6 (r : zaj) (B1 : Option Addr) (c1 : Nat) (B2 : Option Addr) (c2 : Nat) (B3 : Option Addr) (c3 : Nat) (B4 : Option Addr) (c4 : Nat) (w : World) (hG : GOK w) (hA : RuleAt r B1 B2 B3 B4 w) (hC : CapR r c1 c2 c3 c4) (hg : zdN r)
 (hls : ∀ x ∈ r.f4, x.f2.length * 16 <= 140737488355328 /\ x.f3.length * 16 <= 140737488355328) :
 Calls zp5 15 #[.agg #[.string r.f0, .slice B1 r.f1.length c1, .slice B2 r.f2.length c2, .slice B3 r.f3.length c3, .slice B4 r.f4.length c4]] w fun e w' => e = .returned (.bool true) /\ Below w.heap.size w w' := by
 have hab := (zpw w.heap.size w).alloc (zpx _) (.cells (zal r B1 c1 B2 c2 B3 c3 B4 c4) 45); have HK := zpt (zap w (.cells (zal r B1 c1 B2 c2 B3 c3 B4 c4) 45)); have HB := zpt hab; have HG := zpt hG; have HS1 := zpt (zbM w (.cells (zal r B1 c1 B2 c2 B3 c3 B4 c4) 45)); obtain ⟨hF, hf3⟩ := zmG r hg; have HFn := zpt (fun W (hW : Below w.heap.size w W) => zm1 r B1 c1 B2 c2 B3 c3 B4 c4 W (hA.below hW) hC hls hF hf3)
 have HF := zpt hF; unfold zal at HFn HK HB HS1; generalize zb1 r = R at HFn HF; clear hab hG hA hC hg hls hF hf3; go_enter Tryz.func15, Tryz.ntmps15
 go_upto_region 1 with fail; generalize w.alloc (.cells #[.string r.f0, .slice B1 r.f1.length c1, .slice B2 r.f2.length c2, .slice B3 r.f3.length c3, .slice B4 r.f4.length c4] 45) = w1 at HB HK HS1 |-; go_upto_region 4 with (first | (go_at_call 16; refine (zlA _ (HG.out.below HB.out)).mono ?_; rintro e w2 ⟨rfl, hb2⟩; have HB2 := zpt (zac HB.out HB.out.size hb2); have HK2 := zpt (zai HK.out hb2); have HS2 : Hid (w.heap.size < w2.heap.size) := zpt (by have h1 := hb2.size; have h2 := HS1.out; omega); clear hb2))
 have k0 := bc0 HK2.out; have k1 := bc1 HK2.out; have k2 := bc2 HK2.out; have k3 := bc3 HK2.out; have k4 := bc4 HK2.out; go_upto_region 5 with (first | (go_at_call 30; refine (HFn.out _ HB2.out).mono ?_; rintro e w3 ⟨X1, d1, X2, d2, X3, d3, X4, d4, rfl, hFK, hb3⟩; have HFK := zpt hFK; have HK3 := zpt (zai HK2.out hb3); have HB3 := zpt (zac HB2.out HB2.out.size hb3); have v0 := bc0 HK3.out; have v1 := bc1 HK3.out; have v2 := bc2 HK3.out; have v3 := bc3 HK3.out; have v4 := bc4 HK3.out; have y0 := zak HK3.out 0; have y1 := zak HK3.out 1; have y2 := zak HK3.out 2; have y3 := zak HK3.out 3; have y4 := zak HK3.out 4; clear hFK hb3))
 have hs5 := zcl (.string R.f0) (.slice X1 R.f1.length d1) (.slice X2 R.f2.length d2) (.slice X3 R.f3.length d3) (.slice X4 R.f4.length d4) HK3.out; unfold set5 at hs5; have hle : w.heap.size <= w.heap.size := zpx _; have hB5 := ((((HB3.out.setCell (p := ⟨w.heap.size, 0, none⟩) hle (.string R.f0)).setCell (p := ⟨w.heap.size, 1, none⟩) hle (.slice X1 R.f1.length d1)).setCell (p := ⟨w.heap.size, 2, none⟩) hle (.slice X2 R.f2.length d2)).setCell (p := ⟨w.heap.size, 3, none⟩) hle (.slice X3 R.f3.length d3)).setCell (p := ⟨w.heap.size, 4, none⟩) hle (.slice X4 R.f4.length d4); have hF5 := zfv HFK.out w.heap.size (fun k hk => by have := HS2.out; omega) (.string R.f0) (.slice X1 R.f1.length d1) (.slice X2 R.f2.length d2) (.slice X3 R.f3.length d3) (.slice X4 R.f4.length d4)
 clear v0 v1 v2 v3 v4 y0 y1 y2 y3 y4 k0 k1 k2 k3 k4 HFK HK3; generalize (((((w3.setCell ⟨w.heap.size, 0, none⟩ (.string R.f0)).setCell ⟨w.heap.size, 1, none⟩ (.slice X1 R.f1.length d1)).setCell ⟨w.heap.size, 2, none⟩ (.slice X2 R.f2.length d2)).setCell ⟨w.heap.size, 3, none⟩ (.slice X3 R.f3.length d3)).setCell ⟨w.heap.size, 4, none⟩ (.slice X4 R.f4.length d4)) = w4 at hs5 hB5 hF5 |-; have HS4 := zpt hs5; have HB4 := zpt hB5; obtain ⟨hA4, hC4⟩ := zf2 hF5; have HRA : Hid (∀ W : World, Below w4.heap.size w4 W -> RuleAt R X1 X2 X3 X4 W) := zpt (fun W hW => hA4.below hW)
 have HCe : Hid (∀ W : World, Below w4.heap.size w4 W -> W.cell? ⟨w.heap.size, 0, none⟩ = some (.string R.f0) /\ W.cell? ⟨w.heap.size, 1, none⟩ = some (.slice X1 R.f1.length d1) /\ W.cell? ⟨w.heap.size, 2, none⟩ = some (.slice X2 R.f2.length d2) /\ W.cell? ⟨w.heap.size, 3, none⟩ = some (.slice X3 R.f3.length d3) /\ W.cell? ⟨w.heap.size, 4, none⟩ = some (.slice X4 R.f4.length d4)) :=
  zpt (fun W hW => ⟨bc0 (zai HS4.out hW), bc1 (zai HS4.out hW), bc2 (zai HS4.out hW), bc3 (zai HS4.out hW), bc4 (zai HS4.out hW)⟩)
 clear hs5 hB5 hF5 hle hA4 hC4; by_cases hr0 : zbn R = 0
 case neg =>
  have hd : decide (zbn R = 0) = false := decide_eq_false hr0; rw [hd]; clear hr0 hd; go_wp2_with fail; go_ret
  exact ⟨rfl, HB4.out⟩
 have hd : decide (zbn R = 0) = true := decide_eq_true hr0; rw [hd]; obtain ⟨hfb, hab⟩ := zlL (zbu R) ((zmm _).symm.trans hr0); have HFb : Hid (zdO (zao R)) := zpt hfb; have HAb : Hid (zdR (zao R)) := zpt hab; have hn1 := HF.out.ins; have hn2 := HF.out.outs; have hn4 := HF.out.steps; obtain ⟨_, _, z2, _, _⟩ := HCe.out w4 (zpw _ _); clear hd hr0 hfb hab HFn; go_wp2_with fail; clear z2; go_loopg [29] R.f2.length (fun gg s29 wr => ∃ kk : Nat, kk <= R.f2.length /\ R.f2.length - kk <= gg /\ s29 = .int .i64 kk /\ Aside0 (Below w4.heap.size w4 wr))
 case atStart => exact ⟨0, zqk _, by omega, rfl, ⟨zpw _ _⟩⟩
 case round =>
  obtain ⟨kk, hkk, hgk, rfl, HW⟩ := hrel; obtain ⟨wq, rfl⟩ : ∃ wq, wq = wr := ⟨wr, rfl⟩; obtain ⟨z0, z1, z2, z3, z4⟩ := HCe.out _ HW.out; by_cases hlt : kk < R.f2.length
  . have hltz : (kk : Int) < (R.f2.length : Int) := by omega
    obtain ⟨b2, o2, rfl, p0⟩ := za4 (HRA.out _ HW.out).h2 kk hlt; have hom : R.f2[kk] ∈ R.f2 := zqQ hlt; have HRd := zpt (zlM R R.f2[kk] hom); have hos := HF.out.outsN _ hom; have HSt := zpt (fun W (hW : Below w4.heap.size w4 W) => ziw R X1 d1 (some ⟨b2, o2, none⟩) d2 X3 d3 X4 d4 R.f2[kk] W (HRA.out W hW) HF.out hos)
    have HRe := zpt (fun W (hW : Below w4.heap.size w4 W) => zh1 R X1 d1 (some ⟨b2, o2, none⟩) d2 X3 d3 X4 d4 R.f2[kk] W (HRA.out W hW) HF.out hos)
    unfold zal at HSt HRe; have HNg := zpt (fun (m : List Bool) (hm : m = (zau (za2 [R.f2[kk]]) (zao R).steps).1) => zmE (zao R) HFb.out HAb.out R.f2[kk] m hm)
    generalize R.f2[kk] = o at p0 HRd HSt HRe HNg; clear hom hos; obtain ⟨M, hM⟩ : ∃ M, M = (zau (za2 [o]) (zao R).steps).1 := ⟨_, rfl⟩; have hML : M.length = R.f4.length := by rw [hM]; exact zeb _ _
    rw [<- hM] at HSt HRe HRd HNg; obtain ⟨L8, hL8⟩ : ∃ L, L = (zbq (zao R) M).map mk := ⟨_, rfl⟩; obtain ⟨LA, hLA⟩ : ∃ L, L = (zbq (zao R) (zau (za2 R.f2) (zao R).steps).1).map mk := ⟨_, rfl⟩; rw [<- hL8] at HRe HRd; rw [<- hLA] at HRd; have HLA := zpt hLA; clear hL8 hLA; have HGa := zpt (HNg.out M rfl); obtain ⟨P, hP⟩ : ∃ P, P = zaR M true := ⟨_, rfl⟩; have HPa := zpt (zmP M R.f4.length hML P hP); have HPe : Hid (zb4 P R.f4.length P.length = M) := zpt (by rw [hP, <- hML]; exact znx M)
    have HPl : Hid (P.length <= 1000) := zpt (by have := ziW M true; rw [<- hP] at this; omega)
    rw [<- hP] at HSt; have HML := zpt hML; clear hM hP hML HNg; go_upto_region 11 with (first | (go_at_call 39; refine (HSt.out _ HW.out).mono ?_; rintro e w5 ⟨v5, rfl, hR5, hb5⟩; obtain ⟨Y5, e5, rfl, _, hC5⟩ := zqq hR5; have HC5 := zpt hC5; have HB5 := zpt (zac HW.out HW.out.size hb5); clear hR5 hC5 hb5))
    obtain ⟨_, _, _, _, q4⟩ := HCe.out _ HB5.out; have hz0 : (0 : Int) <= (R.f4.length : Int) := by omega
    clear z0 z1 z2 z3 z4 p0; go_upto_region 12 with (first | (at_make; refine Kd.R_make Kd.bool (w0 := w5) w5.heap.size 4 rfl rfl 55 (.tmp 38) (.tmp 38) rfl (R.f4.length : Int) rfl rfl Tryz.underlying55 (.bool false) 1 zhA rfl (by decide) (by decide) false (okp := fun _ => True) (ok := fun _ => True) rfl (fun _ h => h) trivial hz0 (by omega) (zpw _ _) (zpx _) ?_; intro v6 w6 ho hb hg hv; have HO6 := zpt ho; have HB6 := zpt hb; clear ho hb hg hv))
    rw [zqN, <- zm3 P] at HO6; obtain ⟨Z6, c6, hv6, _, _⟩ := zqq HO6.out; rw [zcz] at hv6; subst hv6; clear q4; go_wp2_with fail; go_loopg [42] P.length (fun gg s42 wr => ∃ jj : Nat, jj <= P.length /\ P.length - jj <= gg /\ s42 = .int .i64 jj /\ Aside0 (zck wr w5.heap.size (.slice Z6 R.f4.length c6) (zb4 P R.f4.length jj)) /\ Aside0 (Below w5.heap.size w5 wr))
    case atStart => exact ⟨0, zqk _, by omega, rfl, ⟨HO6.out⟩, ⟨HB6.out⟩⟩
    case round =>
     obtain ⟨jj, hjj, hgj, rfl, HO, HI⟩ := hrel; obtain ⟨wi, rfl⟩ : ∃ wi, wi = wr := ⟨wr, rfl⟩; by_cases hlj : jj < P.length
     . have hljz : (jj : Int) < (P.length : Int) := by omega
       obtain ⟨b5, o5, rfl, pa⟩ := znt (zqS HC5.out HI.out) jj hlj; obtain ⟨i, hi, hPi, hrd⟩ := HPa.out jj hlj; rw [hPi] at pa; obtain ⟨g, cap, hv1, hbg, hgl, _⟩ := Kd.R_form HO.out (by rw [zcz]; omega)
       rw [zcz] at hv1; injection hv1 with e1 e2 e3; subst e1 e3; have hi0 : (0 : Int) <= (i : Int) := by omega
       have hiz : (i : Int) < (R.f4.length : Int) := by omega
       have hneg : ¬ (i : Int) < 0 := by omega
       have hge : ¬ (R.f4.length : Int) <= (i : Int) := by omega
       obtain ⟨hc0, hf0⟩ := Kd.R_celln false HO.out (i : Int) hi0 (by omega)
       have hPt := Kd.R_putn HO.out (i : Int) true; rw [zqN] at hc0 hf0 hPt; rw [hrd] at hc0; rw [znj P R.f4.length jj i hlj hPi] at hPt; have HPt := zpt hPt; have HIn : Hid (Below w5.heap.size w5 (wi.setCell ⟨g, i, none⟩ (.bool true))) := zpt (HI.out.setCell (p := ⟨g, i, none⟩) hbg _); have hpl := HPl.out; clear hPt hrd hPi e2 hbg hgl; go_wp2_with fail; go_roundg (P.length - (jj + 1))
       case measure => omega
       case rel => exact ⟨jj + 1, by omega, by omega, by first | rfl | go_num, ⟨HPt.out⟩, ⟨HIn.out⟩⟩
     . have hljz : ¬ (jj : Int) < (P.length : Int) := by omega
       obtain rfl : jj = P.length := by omega
       have hO := HO.out; rw [HPe.out] at hO; have HOi := zpt hO; have HWi := zpt (zac HB5.out HB5.out.size HI.out); clear hO; go_wp2_with fail; go_loopg [66] R.f4.length (fun gg s66 wr => ∃ i : Nat, i <= R.f4.length /\ R.f4.length - i <= gg /\ s66 = .int .i64 i /\ Aside0 (Below wi.heap.size wi wr))
       case atStart => exact ⟨0, zqk _, by omega, rfl, ⟨zpw _ _⟩⟩
       case round =>
        obtain ⟨i, hi, hgi, rfl, HJ⟩ := hrel; obtain ⟨wj, rfl⟩ : ∃ wj, wj = wr := ⟨wr, rfl⟩; have HWj := zpt (zac HWi.out HWi.out.size HJ.out); have HOj := zpt (Kd.R_below HOi.out HJ.out); by_cases hii : i < R.f4.length
        . have hiz : (i : Int) < (R.f4.length : Int) := by omega
          obtain ⟨_, _, _, _, t4⟩ := HCe.out _ HWj.out; obtain ⟨b4, o4, C2, e2, C3, e3, rfl, p0, p1, p2, p3, p4, g2, g3⟩ := zcA (HRA.out _ HWj.out).h4 i hii; have HGi := zpt (zk1 R M HML.out o HGa.out i hii); have hq : ∀ y : zaw, (y.f0.toList == o.toList) = decide (y.f0.data.toList = o.data.toList) := fun y => by rw [zbh, zbh, Bool.eq_iff_iff]; simp
          generalize R.f4[i] = x at p0 p1 p2 p3 p4 g2 g3 HGi; obtain ⟨g, cap, hv1, hbg, hgl, _⟩ := Kd.R_form HOj.out (by rw [HML.out]; omega)
          rw [HML.out] at hv1; injection hv1 with e1 _ e3; subst e1 e3; have HP0 := zpt p0; have HQ := zpt hq; clear p1 p2 p3 p4 g2 g3 hbg hgl hq; go_upto_region 23 with fail; rw [HQ.out x]; clear HQ; generalize decide (x.f0.data.toList = o.data.toList) = d0 at HGi |-; go_wp2_with fail; go_loopg [12, 79] R.f4.length (fun gg s12 s79 wr => ∃ j : Nat, j <= R.f4.length /\ R.f4.length - j <= gg /\ s79 = .int .i64 j /\ s12 = .bool (d0 || zbX (zao R).steps M x.f0.data.toList j) /\ Aside0 (Below wj.heap.size wj wr))
          case atStart => exact ⟨0, zqk _, by omega, rfl, by rw [show zbX (zao R).steps M x.f0.data.toList 0 = false from rfl, Bool.or_false], ⟨zpw _ _⟩⟩
          case round =>
           obtain ⟨j, hj, hgj2, rfl, rfl, HL⟩ := hrel; obtain ⟨wk, rfl⟩ : ∃ wk, wk = wr := ⟨wr, rfl⟩; have HWk := zpt (zac HWj.out HWj.out.size HL.out); have HOk := zpt (Kd.R_below HOj.out HL.out); obtain ⟨_, _, _, _, t4⟩ := HCe.out _ HWk.out; by_cases hjl : j < R.f4.length
           . have hjz : (j : Int) < (R.f4.length : Int) := by omega
             have hj0 : (0 : Int) <= (j : Int) := by omega
             obtain ⟨b6, o6, D2, f2, D3, f3, hX, r0, r1, r2, r3, r4, g2, g3⟩ := zcA (HRA.out _ HWk.out).h4 j hjl; injection hX with hX1; injection hX1 with e1 e2; subst e1 e2; obtain ⟨hcj, _⟩ := Kd.R_celln false HOk.out (j : Int) hj0 (by omega)
             rw [zqN] at hcj; have hgn := zkK R M HML.out x.f0.data.toList j hjl; have HFd := zpt (fun W (hW : Below wk.heap.size wk W) => zcp D2 f2 R.f4[j].f2 x.f0 W (zqS g2 hW))
             have hfh := zcs R.f4[j].f2 x.f0; generalize R.f4[j] = y at r0 r1 r2 r3 r4 g2 g3 hgn HFd hfh; generalize rdOf false M (j : Int) = mj at hcj hgn; generalize zaN y.f2 x.f0 = zz at HFd hfh; generalize (zab y.f2).contains x.f0.data.toList = cj at hgn hfh; obtain ⟨bb, hbb⟩ : ∃ bb, bb = (d0 || zbX (zao R).steps M x.f0.data.toList j) := ⟨_, rfl⟩
             have HQn : Hid ((d0 || zbX (zao R).steps M x.f0.data.toList (j + 1)) = (bb || (mj && cj))) := zpt (by rw [hgn, hbb, Bool.or_assoc])
             have HFh := zpt hfh; rw [<- hbb]; have HIb := zpt (zaM (zpw wk.heap.size wk)); have HIn := zpt (zac HL.out HL.out.size HIb.out); have HSz : Hid (∀ w', Below wk.heap.size wk w' -> w'.cell? ⟨w.heap.size, 4, none⟩ = some (.slice (some ⟨b4, o4, none⟩) R.f4.length d4) /\ w'.cell? ⟨g, j, none⟩ = some (.bool mj) /\ w'.cell? ⟨b4, o4 + j * 5 + 2, none⟩ = some (.slice D2 y.f2.length f2) /\ w'.cell? ⟨b4, o4 + i * 5, none⟩ = some (.string x.f0)) :=
              zpt (fun w' hW => ⟨(HCe.out _ (zac HWk.out HWk.out.size hW)).2.2.2.2, zad hW hcj, zad hW r2, zad hW (zad HL.out HP0.out)⟩)
             clear hbb hgn hfh r0 r1 r2 r3 r4 g2 g3 hcj t4; cases bb with
             | true =>
              go_wp2_with fail
              --WALKA
              refine startR (n := 24) [0, 1, 2, 3, 4, 5, 6, 7, 8, 9, 10, 11, 12, 13, 14, 15, 16, 17, 18, 19, 20, 21, 22, 23] (S := fun w' => w'.cell? ⟨w.heap.size, 4, none⟩ = some (.slice (some ⟨b4, o4, none⟩) R.f4.length d4) /\ w'.cell? ⟨g, j, none⟩ = some (.bool mj) /\ w'.cell? ⟨b4, o4 + j * 5 + 2, none⟩ = some (.slice D2 y.f2.length f2) /\ w'.cell? ⟨b4, o4 + i * 5, none⟩ = some (.string x.f0)) (ds := []) (by kernel_rfl) rfl (by kernel_rfl) (HSz.out _ HIb.out) (fun hHeld => ?_)
              iterate 2 (refine nextR (v := ?_) (a' := ?_) rfl (by decide +kernel) (fun _ _ _ h => h) (Or.inl ⟨by rfl, ?_⟩) hHeld ?_ ?_; rotate_left; (rintro w' ⟨s0, s1, s2, s3⟩; go_simp; with_reducible rfl); rotate_left; (simp only [Act.put, List.getElem_toArray, List.getElem_cons_zero, List.getElem_cons_succ, zqZ, zq0, zq1, zaf, zag]; rfl))
              iterate 20 (refine nextR (v := undef) (a' := ?_) rfl (by decide +kernel) (fun _ _ _ h => h) (Or.inr ⟨by rfl, rfl⟩) hHeld ?_ ?_; rotate_left; (simp only [Act.put, List.getElem_toArray, List.getElem_cons_zero, List.getElem_cons_succ, zqZ, zq0, zq1, zaf, zag]; rfl))
              iterate 2 (refine nextR (v := ?_) (a' := ?_) rfl (by decide +kernel) (fun _ _ _ h => h) (Or.inl ⟨by rfl, ?_⟩) hHeld ?_ ?_; rotate_left; (rintro w' ⟨s0, s1, s2, s3⟩; go_simp; with_reducible rfl); rotate_left; (simp only [Act.put, List.getElem_toArray, List.getElem_cons_zero, List.getElem_cons_succ, zqZ, zq0, zq1, zaf, zag]; rfl))
              refine zcF (by decide +kernel) ?_
              --ENDA
              go_wp2_with fail; go_roundg (R.f4.length - (j + 1))
              case measure => omega
              case rel => exact ⟨j + 1, by omega, by omega, by first | rfl | go_num, by rw [HQn.out]; rfl, ⟨HIn.out⟩⟩
             | false =>
              cases mj with
              | false =>
               go_wp2_with fail
               --WALKB
               refine startR (n := 24) [0, 1, 2, 3, 4, 5, 6, 7, 8, 9, 10, 11, 12, 13, 14, 15, 16, 17, 18, 19, 20, 21, 22, 23] (S := fun w' => w'.cell? ⟨w.heap.size, 4, none⟩ = some (.slice (some ⟨b4, o4, none⟩) R.f4.length d4) /\ w'.cell? ⟨g, j, none⟩ = some (.bool false) /\ w'.cell? ⟨b4, o4 + j * 5 + 2, none⟩ = some (.slice D2 y.f2.length f2) /\ w'.cell? ⟨b4, o4 + i * 5, none⟩ = some (.string x.f0)) (ds := []) (by kernel_rfl) rfl (by kernel_rfl) (HSz.out _ HIb.out) (fun hHeld => ?_)
               iterate 7 (refine nextR (v := ?_) (a' := ?_) rfl (by decide +kernel) (fun _ _ _ h => h) (Or.inl ⟨by rfl, ?_⟩) hHeld ?_ ?_; rotate_left; (rintro w' ⟨s0, s1, s2, s3⟩; go_simp; with_reducible rfl); rotate_left; (simp only [Act.put, List.getElem_toArray, List.getElem_cons_zero, List.getElem_cons_succ, zqZ, zq0, zq1, zaf, zag]; rfl))
               iterate 14 (refine nextR (v := undef) (a' := ?_) rfl (by decide +kernel) (fun _ _ _ h => h) (Or.inr ⟨by rfl, rfl⟩) hHeld ?_ ?_; rotate_left; (simp only [Act.put, List.getElem_toArray, List.getElem_cons_zero, List.getElem_cons_succ, zqZ, zq0, zq1, zaf, zag]; rfl))
               iterate 3 (refine nextR (v := ?_) (a' := ?_) rfl (by decide +kernel) (fun _ _ _ h => h) (Or.inl ⟨by rfl, ?_⟩) hHeld ?_ ?_; rotate_left; (rintro w' ⟨s0, s1, s2, s3⟩; go_simp; with_reducible rfl); rotate_left; (simp only [Act.put, List.getElem_toArray, List.getElem_cons_zero, List.getElem_cons_succ, zqZ, zq0, zq1, zaf, zag]; rfl))
               refine zcF (by decide +kernel) ?_
               --ENDB
               go_wp2_with fail; go_roundg (R.f4.length - (j + 1))
               case measure => omega
               case rel => exact ⟨j + 1, by omega, by omega, by first | rfl | go_num, by rw [HQn.out]; rfl, ⟨HIn.out⟩⟩
              | true =>
               go_wp2_with fail; go_region_held3 (fun w' => w'.cell? ⟨w.heap.size, 4, none⟩ = some (.slice (some ⟨b4, o4, none⟩) R.f4.length d4) /\ w'.cell? ⟨g, j, none⟩ = some (.bool true) /\ w'.cell? ⟨b4, o4 + j * 5 + 2, none⟩ = some (.slice D2 y.f2.length f2) /\ w'.cell? ⟨b4, o4 + i * 5, none⟩ = some (.string x.f0)) (exact HSz.out _ HIb.out)
                (first | (go_at_call 32; refine (HFd.out _ HIb.out).mono ?_; rintro e wa ⟨rfl, rfl⟩))
               all_goals
                go_wp2_with fail; go_roundg (R.f4.length - (j + 1))
                case measure => omega
                case rel => exact ⟨j + 1, by omega, by omega, by first | rfl | go_num, by rw [HQn.out, <- HFh.out]; rfl, ⟨HIn.out⟩⟩
           . have hjz : ¬ (j : Int) < (R.f4.length : Int) := by omega
             obtain rfl : j = R.f4.length := by omega
             have hi0 : (0 : Int) <= (i : Int) := by omega
             obtain ⟨hci, _⟩ := Kd.R_celln false HOk.out (i : Int) hi0 (by omega)
             rw [zqN, HGi.out] at hci; generalize (d0 || zbX (zao R).steps M x.f0.data.toList R.f4.length) = bb at hci |-
             cases bb
             all_goals
              go_wp2_with fail; go_roundg (R.f4.length - (i + 1))
              case measure => omega
              case rel => exact ⟨i + 1, by omega, by omega, by first | rfl | go_num, ⟨zac HJ.out HJ.out.size HL.out⟩⟩
        . have hiz : ¬ (i : Int) < (R.f4.length : Int) := by omega
          obtain rfl : i = R.f4.length := by omega
          obtain ⟨t0, t1, t2, t3, t4⟩ := HCe.out _ HWj.out; go_wp2_with (first | (go_at_call 41; refine (HRe.out _ HWj.out).mono ?_; rintro e w8 ⟨v8, rfl, hR8, hb8⟩; obtain ⟨Y8, e8, rfl, _, hC8⟩ := zqq hR8; have HC8 := zpt hC8; have HB8 := zpt (zac HWj.out HWj.out.size hb8); clear hR8 hC8 hb8))
          have hl8 := HC8.out.2.1; go_loopg [117] L8.length (fun gg s117 wr => ∃ jj : Nat, jj <= L8.length /\ L8.length - jj <= gg /\ s117 = .int .i64 jj /\ Aside0 (Below w8.heap.size w8 wr))
          case atStart => exact ⟨0, zqk _, by omega, rfl, ⟨zpw _ _⟩⟩
          case round =>
           obtain ⟨jj, hjj, hgj, rfl, HI8⟩ := hrel; obtain ⟨w9, rfl⟩ : ∃ w9, w9 = wr := ⟨wr, rfl⟩; have HW9 := zpt (zac HB8.out HB8.out.size HI8.out); by_cases hlj : jj < L8.length
           . have hljz : (jj : Int) < (L8.length : Int) := by omega
             obtain ⟨b9, o9, rfl, pa⟩ := za4 (zqS HC8.out HI8.out) jj hlj; obtain ⟨hz1, hz2⟩ := HRd.out _ (zqQ hlj); have HF1 := zpt (zcp X1 d1 R.f1 L8[jj] w9 (HRA.out _ HW9.out).h1); have HAl := zpt (zh3 R X1 d1 (some ⟨b2, o2, none⟩) d2 X3 d3 X4 d4 w9 (HRA.out _ HW9.out) HF.out); unfold zal at HAl; rw [<- HLA.out] at HAl; have HF2 := zpt (fun (A : Option Addr) (c : Nat) (W : World) (h : Kd.C zqb W A LA.length LA) => zcp A c LA L8[jj] W h)
             generalize L8[jj] = nm at pa hz1 hz2 HF1 HF2; generalize zaN R.f1 nm = n1 at hz1 HF1; generalize zaN LA nm = n2 at hz2 HF2; obtain ⟨n1, rfl⟩ : ∃ n : Nat, n1 = (n : Int) := ⟨n1.toNat, by omega⟩
             obtain ⟨n2, rfl⟩ : ∃ n : Nat, n2 = (n : Int) := ⟨n2.toNat, by omega⟩
             obtain ⟨z0, z1, z2, z3, z4⟩ := HCe.out _ HW9.out; have hneg1 : ¬ (n1 : Int) < 0 := by omega
             have hneg2 : ¬ (n2 : Int) < 0 := by omega
             go_wp2_with (first
              | (go_at_call_of 32 (Value.slice X1 R.f1.length d1); refine HF1.out.mono ?_; rintro e wa ⟨rfl, rfl⟩)
              | (go_at_call 43; refine HAl.out.mono ?_; rintro e wb ⟨vb, rfl, hRb, hbb⟩; obtain ⟨Yb, eb, rfl, _, hCb⟩ := zqq hRb; have HCb := zpt hCb; have HBb := zpt (zac HI8.out HI8.out.size hbb); clear hRb hCb hbb)
              | (go_at_call 32; refine (HF2.out _ _ _ HCb.out).mono ?_; rintro e wc ⟨rfl, rfl⟩))
             go_roundg (L8.length - (jj + 1))
             case measure => omega
             case rel => exact ⟨jj + 1, by omega, by omega, by first | rfl | go_num, ⟨HBb.out⟩⟩
           . have hljz : ¬ (jj : Int) < (L8.length : Int) := by omega
             go_wp2_with fail; go_roundg (R.f2.length - (kk + 1))
             case measure => omega
             case rel => exact ⟨kk + 1, by omega, by omega, by first | rfl | go_num, ⟨HW9.out⟩⟩
  . have hltz : ¬ (kk : Int) < (R.f2.length : Int) := by omega
    go_wp2_with fail; go_ret
    exact ⟨rfl, zac HB4.out HB4.out.size HW.out⟩
def shipwrightlaw7_SliceSteps.f (r : zaj) : Option Bool := if ∀ x ∈ r.f4, x.f2.length * 16 <= 140737488355328 /\ x.f3.length * 16 <= 140737488355328 then some true else none
theorem shipwrightlaw7_SliceSteps.calls (r : zaj) (B1 : Option Addr) (c1 : Nat) (B2 : Option Addr) (c2 : Nat) (B3 : Option Addr) (c3 : Nat) (B4 : Option Addr) (c4 : Nat) (b : Bool) (w : World) (hG : GOK w) (hg : zdN r)
 (hr : Kd.C zqb w B1 r.f1.length r.f1 /\ r.f1.length <= c1 /\ Kd.C zqb w B2 r.f2.length r.f2 /\ r.f2.length <= c2 /\ Kd.C zqb w B3 r.f3.length r.f3 /\ r.f3.length <= c3 /\ Kd.C k24 w B4 r.f4.length r.f4 /\ r.f4.length <= c4)
 (h : shipwrightlaw7_SliceSteps.f r = some b) :
 Calls zp5 15 #[.agg #[.string r.f0, .slice B1 r.f1.length c1, .slice B2 r.f2.length c2, .slice B3 r.f3.length c3, .slice B4 r.f4.length c4]] w fun e w' => e = .returned (.bool b) /\ Below w.heap.size w w' := by
 obtain ⟨h1, l1, h2, l2, h3, l3, h4, l4⟩ := hr; unfold shipwrightlaw7_SliceSteps.f at h; split at h
 . rename_i hl
   obtain rfl := zp6 h; exact zn6 r B1 c1 B2 c2 B3 c3 B4 c4 w hG ⟨h1, h2, h3, h4⟩ ⟨l1, l2, l3, l4⟩ hg hl
 . cases h
theorem pure_SliceSteps (r : zaj) (y : zft r) : shipwrightlaw7_SliceSteps.f r = some true := by
 unfold shipwrightlaw7_SliceSteps.f; rw [if_pos (fun x hx => by have h := y.steps x hx; have h1 := h.args; have h2 := h.lits; exact ⟨by omega, by omega⟩)]
end X
end Go.Proofs.YtdpgdnpddndeoaaGreatDoor
