/-
  What the cards lean on (part Q12): contracts of functions, by hand, and plain laws; what is printed by the kit's print for this seat is among them. What is not reached is left out.
-/
import Derived.Test.YtdpgdnpddndeoaaGreatDoorRows
import Derived.Deep.Slices
import Derived.ChangeSame
import Derived.SizedLaws
import Derived.Deep.Strs
import Derived.OpenShut
import Derived.Test.YtdpgdnpddndeoaaGreatDoorQ10
import Derived.Test.YtdpgdnpddndeoaaGreatDoorQ11
import Derived.Test.YtdpgdnpddndeoaaGreatDoorQ6
import Derived.Test.YtdpgdnpddndeoaaGreatDoorQ8
import Derived.Test.YtdpgdnpddndeoaaGreatDoorQ1
import Derived.Test.YtdpgdnpddndeoaaGreatDoorQ0
import Derived.Test.YtdpgdnpddndeoaaGreatDoorQ7
set_option maxHeartbeats 16000000
set_option maxRecDepth 100000
set_option linter.unusedSimpArgs false
set_option linter.unusedVariables false
open Go.RowKit.Below renaming refl -> zpr
open Nat renaming le_refl -> zps, le_trans -> zpy, mul_le_mul_right -> zpK, zero_le -> zqf
open Go.Lib renaming size_eq -> zp7
open List renaming getElem?_eq_getElem -> zpv, getD_eq_getElem?_getD -> zpw, length_map -> zp9, length_take -> zpD, length_append -> zpF, length_singleton -> zpG, getElem?_eq_some_iff -> zpN, take_succ_eq_append_getElem -> zpU, mem_singleton -> zqU, drop_zero -> zqv, append_assoc -> zqG, mem_cons -> zqH, take_of_length_le -> zqS, length_filter_le -> zqi, drop_succ_cons -> zqC, mem_map -> zqT
open Int renaming toNat_natCast -> zqF
open Go.Proofs.Tryz renaming prog -> zp0
open ByteArray renaming empty -> zp1
open Go.Proofs.YtdpgdnpddndeoaaGreatDoorW.PrintWords.Kd renaming C_below -> zqO, string -> zp6, R_reads -> zql
namespace Go.Proofs.YtdpgdnpddndeoaaGreatDoor
namespace X
open Go.RowKit Go.Maps YtdpgdnpddndeoaaGreatDoorW.PrintWords YtdpgdnpddndeoaaGreatDoorW.PrintMore YtdpgdnpddndeoaaGreatDoorW.PrintLast
theorem zdi {α : Type} (d : Kd α) (w : World) : Kd.C d w none 0 [] := ⟨rfl, zqf _, fun hp => absurd hp (Nat.lt_irrefl _)⟩
theorem zcs (W : World) (l : List ByteArray) (hl : l.length <= 1000) : Kd.C zp6 (W.alloc (.cells (l.map Value.string).toArray 9)) (some ⟨W.heap.size, 0, none⟩) l.length l :=
 zbG zp6 W 9 l (l.map Value.string) (Kd.reps_scalar l) (by omega)
theorem za7 (W : World) (o : Obj) : Below W.heap.size W (W.alloc o) := (zpr _ _).alloc (zps _) o
def stepV (x : zar) (A : Option Addr) : List Value := [.string x.f0, .int .i64 x.f1, .slice A x.f2.length x.f2.length, .slice none 0 0, .int .i64 x.f4]
theorem zed (W : World) (x : zar) (A : Option Addr) (h3 : x.f3 = []) (h : Kd.C zp6 W A x.f2.length x.f2) : Kd.K k24 W x (stepV x A) := by
 have := zek W x (zps x.f2.length) h (A3 := none) (c3 := 0) (by rw [h3]; exact zps _) (by rw [h3]; exact zdi zp6 W)
 rw [h3] at this; exact this
def zew (s : Nat) : Array Value := #[.string ⟨#[116]⟩, .int .i64 3, .slice (some ⟨s + 1 + 1, 0, none⟩) 1 1, .slice none 0 0, .int .i64 0, .string ⟨#[120]⟩, .int .i64 4, .slice (some ⟨s + 1 + 1 + 1, 0, none⟩) 1 1, .slice none 0 0, .int .i64 0, .string ⟨#[121]⟩, .int .i64 2, .slice (some ⟨s + 1 + 1 + 1 + 1, 0, none⟩) 1 1, .slice none 0 0, .int .i64 0]
def r7W (w : World) : World := (((((w.alloc (.cells #[.string ⟨#[97]⟩, .string ⟨#[98]⟩] 9)).alloc (.cells #[.string ⟨#[120]⟩, .string ⟨#[121]⟩] 9)).alloc (.cells #[.string ⟨#[97]⟩] 9)).alloc (.cells #[.string ⟨#[116]⟩] 9)).alloc (.cells #[.string ⟨#[98]⟩] 9)).alloc (.cells (zew w.heap.size) 24)
theorem zbI (w : World) (o : Obj) : (w.alloc o).heap.size = w.heap.size + 1 := by simp
theorem zk5 (w : World) : RuleAt R7 (some ⟨w.heap.size, 0, none⟩) (some ⟨w.heap.size + 1, 0, none⟩) none (some ⟨w.heap.size + 1 + 1 + 1 + 1 + 1, 0, none⟩) (r7W w) /\ Below w.heap.size w (r7W w) /\ (r7W w).heap.size = w.heap.size + 1 + 1 + 1 + 1 + 1 + 1 := by
 obtain ⟨wA, hA⟩ : ∃ wA, wA = w.alloc (.cells #[.string ⟨#[97]⟩, .string ⟨#[98]⟩] 9) := ⟨_, rfl⟩; obtain ⟨wB, hB⟩ : ∃ wB, wB = wA.alloc (.cells #[.string ⟨#[120]⟩, .string ⟨#[121]⟩] 9) := ⟨_, rfl⟩; obtain ⟨wC, hC⟩ : ∃ wC, wC = wB.alloc (.cells #[.string ⟨#[97]⟩] 9) := ⟨_, rfl⟩; obtain ⟨wD, hD⟩ : ∃ wD, wD = wC.alloc (.cells #[.string ⟨#[116]⟩] 9) := ⟨_, rfl⟩; obtain ⟨wE, hE⟩ : ∃ wE, wE = wD.alloc (.cells #[.string ⟨#[98]⟩] 9) := ⟨_, rfl⟩; have e : r7W w = wE.alloc (.cells (zew w.heap.size) 24) := by rw [hE, hD, hC, hB, hA]; rfl
 have sA : wA.heap.size = w.heap.size + 1 := by rw [hA, zbI]
 have sB : wB.heap.size = w.heap.size + 1 + 1 := by rw [hB, zbI, sA]
 have sC : wC.heap.size = w.heap.size + 1 + 1 + 1 := by rw [hC, zbI, sB]
 have sD : wD.heap.size = w.heap.size + 1 + 1 + 1 + 1 := by rw [hD, zbI, sC]
 have sE : wE.heap.size = w.heap.size + 1 + 1 + 1 + 1 + 1 := by rw [hE, zbI, sD]
 have bA : Below w.heap.size w wA := by rw [hA]; exact za7 w _
 have bB : Below wA.heap.size wA wB := by rw [hB]; exact za7 wA _
 have bC : Below wB.heap.size wB wC := by rw [hC]; exact za7 wB _
 have bD : Below wC.heap.size wC wD := by rw [hD]; exact za7 wC _
 have bE : Below wD.heap.size wD wE := by rw [hE]; exact za7 wD _
 have bF : Below wE.heap.size wE (r7W w) := by rw [e]; exact za7 wE _
 have cA : Kd.C zp6 wA (some ⟨w.heap.size, 0, none⟩) 2 [⟨#[97]⟩, ⟨#[98]⟩] := by rw [hA]; exact zcs w [⟨#[97]⟩, ⟨#[98]⟩] (by decide)
 have cB : Kd.C zp6 wB (some ⟨w.heap.size + 1, 0, none⟩) 2 [⟨#[120]⟩, ⟨#[121]⟩] := by rw [hB, <- sA]; exact zcs wA [⟨#[120]⟩, ⟨#[121]⟩] (by decide)
 have cC : Kd.C zp6 wC (some ⟨w.heap.size + 1 + 1, 0, none⟩) 1 [⟨#[97]⟩] := by rw [hC, <- sB]; exact zcs wB [⟨#[97]⟩] (by decide)
 have cD : Kd.C zp6 wD (some ⟨w.heap.size + 1 + 1 + 1, 0, none⟩) 1 [⟨#[116]⟩] := by rw [hD, <- sC]; exact zcs wC [⟨#[116]⟩] (by decide)
 have cE : Kd.C zp6 wE (some ⟨w.heap.size + 1 + 1 + 1 + 1, 0, none⟩) 1 [⟨#[98]⟩] := by rw [hE, <- sD]; exact zcs wD [⟨#[98]⟩] (by decide)
 have cF : Kd.C k24 (r7W w) (some ⟨w.heap.size + 1 + 1 + 1 + 1 + 1, 0, none⟩) 3 R7.f4 := by
  rw [e, <- sE]; refine zbG k24 wE 24 R7.f4 (zew w.heap.size).toList ?_ (by decide)
  exact Reps.snoc (Reps.snoc (Reps.snoc (Reps.none _ _) (zed wE ⟨⟨#[116]⟩, 3, [⟨#[97]⟩], [], 0⟩ _ rfl (zqO (zqO cC bD) bE)) rfl) (zed wE ⟨⟨#[120]⟩, 4, [⟨#[116]⟩], [], 0⟩ _ rfl (zqO cD bE)) rfl) (zed wE ⟨⟨#[121]⟩, 2, [⟨#[98]⟩], [], 0⟩ _ rfl cE) rfl
 refine ⟨⟨zqO (zqO (zqO (zqO (zqO cA bB) bC) bD) bE) bF, zqO (zqO (zqO (zqO cB bC) bD) bE) bF, zdi zp6 _, cF⟩, ?_, by rw [e, zbI, sE]⟩
 exact zac (zac (zac (zac (zac bA (by omega) bB) (by omega) bC) (by omega) bD) (by omega) bE) (by omega) bF
theorem fit7 : FitR R7 := ⟨by decide, by decide, by decide, by decide, by decide, by decide⟩
theorem fitS : FitR S7 := ⟨by decide, by decide, by decide, by decide, by decide, by decide⟩
theorem fits1 : zcf [R7] := ⟨by decide, fun r hr => by rw [zqU.1 hr]; exact ⟨fit7, by decide, by decide, fun x hx => by cases hx⟩⟩
theorem fits2 : zcf [S7, R7] := ⟨by decide, fun r hr => by
 rcases zqH.1 hr with rfl | hr
 . exact ⟨fitS, by decide, by decide, fun x hx => by cases hx⟩
 . rw [zqU.1 hr]; exact ⟨fit7, by decide, by decide, fun x hx => by cases hx⟩⟩
theorem mean7 : Mean [R7] rk7 := by
 refine ⟨fits1, fun r hr o ho => ?_, fun r hr o ho i hi => ?_⟩
 . rw [zqU.1 hr] at ho |-
   have ho' : o ∈ [(⟨#[120]⟩ : ByteArray), ⟨#[121]⟩] := ho; rcases zqH.1 ho' with rfl | ho'
   . rfl
   . rw [zqU.1 ho']; rfl
 . rw [zqU.1 hr] at ho hi
   have ho' : o ∈ [(⟨#[120]⟩ : ByteArray), ⟨#[121]⟩] := ho; have hi' : i ∈ [(⟨#[97]⟩ : ByteArray), ⟨#[98]⟩] := hi; rcases zqH.1 ho' with rfl | ho' <;> rcases zqH.1 hi' with rfl | hi'
   . decide
   . rw [zqU.1 hi']; decide
   . rw [zqU.1 ho']; decide
   . rw [zqU.1 hi', zqU.1 ho']; decide
theorem zhL (W : World) (l : List SVal) (hl : l.length <= 1000) : Kd.C k34 (W.alloc (.cells (l.flatMap fun v => [Value.bool v.f0, .string v.f1]).toArray 34)) (some ⟨W.heap.size, 0, none⟩) l.length l := by
 refine zbG k34 W 34 l _ ?_ (by omega)
 clear hl; have key : ∀ (l a : List SVal) (cs : List Value), Reps (Kd.K k34 W) 2 a cs -> Reps (Kd.K k34 W) 2 (a ++ l) (cs ++ l.flatMap fun v => [Value.bool v.f0, .string v.f1]) := by
  intro l; induction l with
  | nil => intro a cs h; simpa using h
  | cons v r ih =>
   intro a cs h; have := ih (a ++ [v]) (cs ++ [.bool v.f0, .string v.f1]) (Reps.snoc h (zeE W v) rfl); rw [zqG, zqG] at this; exact this
 exact key l [] [] (Reps.none _ _)
theorem zgv {B1 B2 B4 : Option Addr} {W : World} (h : RuleAt R7 B1 B2 none B4 W) : Kd.K k45 W R7 [.string ⟨#[114]⟩, .slice B1 2 2, .slice B2 2 2, .slice none 0 0, .slice B4 3 3] :=
 zf6 W R7 (c1 := 2) (by decide) h.h1 (c2 := 2) (by decide) h.h2 (c3 := 0) (by decide) h.h3 (c4 := 3) (by decide) h.h4
theorem zhB {B1 B2 B4 : Option Addr} {W : World} (h : RuleAt R7 B1 B2 none B4 W) : Kd.C k45 (W.alloc (.cells #[.string ⟨#[114]⟩, .slice B1 2 2, .slice B2 2 2, .slice none 0 0, .slice B4 3 3] 45)) (some ⟨W.heap.size, 0, none⟩) 1 [R7] :=
 zbG k45 W 45 [R7] [.string ⟨#[114]⟩, .slice B1 2 2, .slice B2 2 2, .slice none 0 0, .slice B4 3 3] (Reps.snoc (Reps.none _ _) (zgv h) rfl) (by decide)
def zd7 (s : Nat) : Array Value := #[.string ⟨#[97]⟩, .int .i64 1, .slice (some ⟨s + 1 + 1, 0, none⟩) 1 1, .slice none 0 0, .int .i64 0]
def s7W (w : World) : World := (((w.alloc (.cells #[.string ⟨#[97]⟩] 9)).alloc (.cells #[.string ⟨#[120]⟩] 9)).alloc (.cells #[.string ⟨#[120]⟩] 9)).alloc (.cells (zd7 w.heap.size) 24)
theorem zjC (w : World) : RuleAt S7 (some ⟨w.heap.size + 1, 0, none⟩) (some ⟨w.heap.size, 0, none⟩) none (some ⟨w.heap.size + 1 + 1 + 1, 0, none⟩) (s7W w) /\ Below w.heap.size w (s7W w) /\ (s7W w).heap.size = w.heap.size + 1 + 1 + 1 + 1 := by
 obtain ⟨wA, hA⟩ : ∃ wA, wA = w.alloc (.cells #[.string ⟨#[97]⟩] 9) := ⟨_, rfl⟩; obtain ⟨wB, hB⟩ : ∃ wB, wB = wA.alloc (.cells #[.string ⟨#[120]⟩] 9) := ⟨_, rfl⟩; obtain ⟨wC, hC⟩ : ∃ wC, wC = wB.alloc (.cells #[.string ⟨#[120]⟩] 9) := ⟨_, rfl⟩; have e : s7W w = wC.alloc (.cells (zd7 w.heap.size) 24) := by rw [hC, hB, hA]; rfl
 have sA : wA.heap.size = w.heap.size + 1 := by rw [hA, zbI]
 have sB : wB.heap.size = w.heap.size + 1 + 1 := by rw [hB, zbI, sA]
 have sC : wC.heap.size = w.heap.size + 1 + 1 + 1 := by rw [hC, zbI, sB]
 have bA : Below w.heap.size w wA := by rw [hA]; exact za7 w _
 have bB : Below wA.heap.size wA wB := by rw [hB]; exact za7 wA _
 have bC : Below wB.heap.size wB wC := by rw [hC]; exact za7 wB _
 have bF : Below wC.heap.size wC (s7W w) := by rw [e]; exact za7 wC _
 have cA : Kd.C zp6 wA (some ⟨w.heap.size, 0, none⟩) 1 [⟨#[97]⟩] := by rw [hA]; exact zcs w [⟨#[97]⟩] (by decide)
 have cB : Kd.C zp6 wB (some ⟨w.heap.size + 1, 0, none⟩) 1 [⟨#[120]⟩] := by rw [hB, <- sA]; exact zcs wA [⟨#[120]⟩] (by decide)
 have cC : Kd.C zp6 wC (some ⟨w.heap.size + 1 + 1, 0, none⟩) 1 [⟨#[120]⟩] := by rw [hC, <- sB]; exact zcs wB [⟨#[120]⟩] (by decide)
 have cF : Kd.C k24 (s7W w) (some ⟨w.heap.size + 1 + 1 + 1, 0, none⟩) 1 S7.f4 := by
  rw [e, <- sC]; refine zbG k24 wC 24 S7.f4 (zd7 w.heap.size).toList ?_ (by decide)
  exact Reps.snoc (Reps.none _ _) (zed wC ⟨⟨#[97]⟩, 1, [⟨#[120]⟩], [], 0⟩ _ rfl cC) rfl
 refine ⟨⟨zqO (zqO cB bC) bF, zqO (zqO (zqO cA bB) bC) bF, zdi zp6 _, cF⟩, ?_, by rw [e, zbI, sC]⟩
 exact zac (zac (zac bA (by omega) bB) (by omega) bC) (by omega) bF
theorem zke (w : World) (hG : GOK w) : Calls zp0 51 #[] w (zci w) := by
 have h := zkO w hG; go_enter Tryz.func51, Tryz.ntmps51
 go_wp2_with (first | (go_at_call 75; refine h.mono ?_; rintro e w2 ⟨rfl, hb2⟩))
 go_ret
 exact ⟨rfl, hb2⟩
theorem zf0 {w : World} {A : Option Addr} {l : List SVal} (h : Kd.C k34 w A l.length l) (hp : 0 < l.length) : ∃ b o, A = some ⟨b, o, none⟩ /\ ∀ i (hi : i < l.length), w.cell? ⟨b, o + i * 2, none⟩ = some (.bool l[i].f0) /\ w.cell? ⟨b, o + i * 2 + 1, none⟩ = some (.string l[i].f1) := by
 obtain ⟨b, o, rfl, _, _⟩ := zcR h 0 hp; refine ⟨b, o, rfl, fun i hi => ?_⟩
 obtain ⟨b', o', e, h0, h1⟩ := zcR h i hi; cases e
 exact ⟨h0, h1⟩
theorem zjh (w : World) (hG : GOK w) : Calls zp0 16 #[] w fun e w' => e = .returned (.bool true) /\ Below w.heap.size w w' := by
 obtain ⟨hR, hB, hS⟩ := zk5 w; have HX := zpo (zak (r7W w) (.cells #[.string ⟨#[114]⟩, .slice (some ⟨w.heap.size, 0, none⟩) 2 2, .slice (some ⟨w.heap.size + 1, 0, none⟩) 2 2, .slice none 0 0, .slice (some ⟨w.heap.size + 1 + 1 + 1 + 1 + 1, 0, none⟩) 3 3] 45)); have HR := zpo (hR.below (za7 (r7W w) (.cells #[.string ⟨#[114]⟩, .slice (some ⟨w.heap.size, 0, none⟩) 2 2, .slice (some ⟨w.heap.size + 1, 0, none⟩) 2 2, .slice none 0 0, .slice (some ⟨w.heap.size + 1 + 1 + 1 + 1 + 1, 0, none⟩) 3 3] 45))); have HG := zpo hG; rw [hS] at HX; have HB := zpo (zac hB hB.size (za7 (r7W w) (.cells #[.string ⟨#[114]⟩, .slice (some ⟨w.heap.size, 0, none⟩) 2 2, .slice (some ⟨w.heap.size + 1, 0, none⟩) 2 2, .slice none 0 0, .slice (some ⟨w.heap.size + 1 + 1 + 1 + 1 + 1, 0, none⟩) 3 3] 45))); clear hR hB hS hG; go_enter Tryz.func16, Tryz.ntmps16
 go_upto_region 2 with fail; unfold r7W zew at HX HR HB; obtain ⟨w1, hw1⟩ : ∃ w1, w1 = (((((((w.alloc (.cells #[.string ⟨#[97]⟩, .string ⟨#[98]⟩] 9)).alloc (.cells #[.string ⟨#[120]⟩, .string ⟨#[121]⟩] 9)).alloc (.cells #[.string ⟨#[97]⟩] 9)).alloc (.cells #[.string ⟨#[116]⟩] 9)).alloc (.cells #[.string ⟨#[98]⟩] 9)).alloc (.cells #[.string ⟨#[116]⟩, .int .i64 3, .slice (some ⟨w.heap.size + 1 + 1, 0, none⟩) 1 1, .slice none 0 0, .int .i64 0, .string ⟨#[120]⟩, .int .i64 4, .slice (some ⟨w.heap.size + 1 + 1 + 1, 0, none⟩) 1 1, .slice none 0 0, .int .i64 0, .string ⟨#[121]⟩, .int .i64 2, .slice (some ⟨w.heap.size + 1 + 1 + 1 + 1, 0, none⟩) 1 1, .slice none 0 0, .int .i64 0] 24)).alloc (.cells #[.string ⟨#[114]⟩, .slice (some ⟨w.heap.size, 0, none⟩) 2 2, .slice (some ⟨w.heap.size + 1, 0, none⟩) 2 2, .slice none 0 0, .slice (some ⟨w.heap.size + 1 + 1 + 1 + 1 + 1, 0, none⟩) 3 3] 45)) := ⟨_, rfl⟩; rw [<- hw1] at HX HR HB |-; clear hw1; generalize w.heap.size + 1 + 1 + 1 + 1 + 1 + 1 = X at HX |-; generalize (some (⟨w.heap.size, 0, none⟩ : Addr)) = B1 at HX HR |-; generalize (some (⟨w.heap.size + 1, 0, none⟩ : Addr)) = B2 at HX HR |-; generalize (some (⟨w.heap.size + 1 + 1 + 1 + 1 + 1, 0, none⟩ : Addr)) = B4 at HX HR |-; have HCs : Hid (∀ W, Below w1.heap.size w1 W -> W.cell? ⟨X, 0, none⟩ = some (.string ⟨#[114]⟩) /\ W.cell? ⟨X, 1, none⟩ = some (.slice B1 2 2) /\ W.cell? ⟨X, 2, none⟩ = some (.slice B2 2 2) /\ W.cell? ⟨X, 3, none⟩ = some (.slice none 0 0) /\ W.cell? ⟨X, 4, none⟩ = some (.slice B4 3 3)) := zpo (fun W hW =>
  ⟨(zaf (zah HX.out hW) 0).trans rfl, (zaf (zah HX.out hW) 1).trans rfl, (zaf (zah HX.out hW) 2).trans rfl, (zaf (zah HX.out hW) 3).trans rfl, (zaf (zah HX.out hW) 4).trans rfl⟩)
 -- run.Of
 have hb2 := za7 w1 (.cells #[.bool true, .string ⟨#[113, 10, 112]⟩, .bool true, .string ⟨#[]⟩] 34); have hv2 : Kd.C k34 (w1.alloc (.cells #[.bool true, .string ⟨#[113, 10, 112]⟩, .bool true, .string ⟨#[]⟩] 34)) (some ⟨w1.heap.size, 0, none⟩) 2 [⟨true, ⟨#[113, 10, 112]⟩⟩, ⟨true, ⟨#[]⟩⟩] := zhL w1 [⟨true, ⟨#[113, 10, 112]⟩⟩, ⟨true, ⟨#[]⟩⟩] (by decide)
 have hR2 := HR.out.below hb2; have hOf := zfT R7 B1 2 B2 2 none 0 B4 3 (some ⟨w1.heap.size, 0, none⟩) 2 [⟨true, ⟨#[113, 10, 112]⟩⟩, ⟨true, ⟨#[]⟩⟩] _ ((HG.out.below HB.out).below hb2) hR2.h1 hR2.h2 hR2.h4 hv2 fit7 (by decide)
 rw [sv_of] at hOf; have HOf := zpo hOf; have HB2 := zpo hb2; obtain ⟨x0, x1, x2, x3, x4⟩ := HCs.out w1 (zpr _ _); obtain ⟨y0, y1, y2, y3, y4⟩ := HCs.out _ hb2; clear hb2 hv2 hR2 hOf; go_upto_region 3 with (first | (go_at_call 34; refine HOf.out.mono ?_; rintro e w2 ⟨v2, rfl, hR2, hb2⟩; have HV2 := zpo hR2; have HB2 := zpo (zac HB2.out HB2.out.size hb2); clear hR2 hb2))
 obtain ⟨V2, d2, he2, _, hC2⟩ := zql HV2.out; replace he2 : v2 = .slice V2 2 d2 := he2
 subst he2; have HV2C : Hid (Kd.C k34 w2 V2 2 [⟨true, ⟨#[50, 10]⟩⟩, ⟨false, ⟨#[]⟩⟩]) := zpo hC2
 -- run.Named
 have hb3a := za7 w2 (.cells #[.string ⟨#[98]⟩] 9); have hb3b := hb3a.alloc hb3a.size (.cells #[.bool true, .string ⟨#[122]⟩] 34); have hs3 : (w2.alloc (.cells #[.string ⟨#[98]⟩] 9)).heap.size = w2.heap.size + 1 := zbI _ _; have hv3 : Kd.C k34 ((w2.alloc (.cells #[.string ⟨#[98]⟩] 9)).alloc (.cells #[.bool true, .string ⟨#[122]⟩] 34)) (some ⟨(w2.alloc (.cells #[.string ⟨#[98]⟩] 9)).heap.size, 0, none⟩) 1 [⟨true, ⟨#[122]⟩⟩] := zhL (w2.alloc (.cells #[.string ⟨#[98]⟩] 9)) [⟨true, ⟨#[122]⟩⟩] (by decide)
 have hi3 : Kd.C zp6 (w2.alloc (.cells #[.string ⟨#[98]⟩] 9)) (some ⟨w2.heap.size, 0, none⟩) 1 [⟨#[98]⟩] := zcs w2 [⟨#[98]⟩] (by decide)
 rw [hs3] at hv3; have hB3 := zac HB2.out HB2.out.size hb3b; have hR3 := HR.out.below hB3; have hNm := zk1 R7 B1 2 B2 2 none 0 B4 3 (some ⟨w2.heap.size, 0, none⟩) 1 [⟨#[98]⟩] (some ⟨w2.heap.size + 1, 0, none⟩) 1 [⟨true, ⟨#[122]⟩⟩] _ ((HG.out.below HB.out).below hB3) hR3.h1 hR3.h2 hR3.h4 (zqO hi3 (za7 _ _)) hv3 fit7 (by decide)
 rw [zkd] at hNm; have HNm := zpo hNm; have HB3 := zpo hB3; have HV2C := zpo (zqO HV2C.out hb3b); obtain ⟨x0, x1, x2, x3, x4⟩ := HCs.out _ HB2.out; obtain ⟨y0, y1, y2, y3, y4⟩ := HCs.out _ (zac HB2.out HB2.out.size hb3a); obtain ⟨z0, z1, z2, z3, z4⟩ := HCs.out _ hB3; clear hb3a hb3b hs3 hv3 hi3 hB3 hR3 hNm hC2 HOf; go_upto_region 4 with (first | (go_at_call 36; refine HNm.out.mono ?_; rintro e w3 ⟨v3, rfl, hR3, hb3⟩; have HV3 := zpo hR3; have HB3 := zpo (zac HB3.out HB3.out.size hb3); have HV2C := zpo (zqO HV2C.out hb3); clear hR3 hb3))
 obtain ⟨V3, d3, he3, _, hC3⟩ := zql HV3.out; replace he3 : v3 = .slice V3 2 d3 := he3
 subst he3; have HV3C : Hid (Kd.C k34 w3 V3 2 [⟨false, ⟨#[]⟩⟩, ⟨true, ⟨#[122]⟩⟩]) := zpo hC3; clear hC3
 -- tree.New
 have hr4 : Kd.C k77 (w3.alloc (.cells #[.string ⟨#[97]⟩, .string ⟨#[50, 10, 49]⟩] 77)) (some ⟨w3.heap.size, 0, none⟩) 1 [⟨⟨#[97]⟩, ⟨#[50, 10, 49]⟩⟩] := zbG k77 w3 77 [⟨⟨#[97]⟩, ⟨#[50, 10, 49]⟩⟩] [.string ⟨#[97]⟩, .string ⟨#[50, 10, 49]⟩] (Reps.snoc (Reps.none _ _) (zeK w3 ⟨⟨#[97]⟩, ⟨#[50, 10, 49]⟩⟩) rfl) (by decide)
 have hb4 := za7 w3 (.cells #[.string ⟨#[97]⟩, .string ⟨#[50, 10, 49]⟩] 77); have hB4 := zac HB3.out HB3.out.size hb4; have hNw := tree_New.calls (some ⟨w3.heap.size, 0, none⟩) 1 [⟨⟨#[97]⟩, ⟨#[50, 10, 49]⟩⟩] _ ((HG.out.below HB.out).below hB4) hr4 (by decide)
 have HNw := zpo hNw; have HB4 := zpo hB4; have HV2C := zpo (zqO HV2C.out hb4); have HV3C := zpo (zqO HV3C.out hb4); clear hr4 hb4 hB4 hNw HNm; go_upto_region 5 with (first | (go_at_call 48; refine HNw.out.mono ?_; rintro e w4 ⟨gt, bt, rfl, hT4, _, _, hb4⟩; have HT4 := zpo hT4; have HB4 := zpo (zac HB4.out HB4.out.size hb4); have HV2C := zpo (zqO HV2C.out hb4); have HV3C := zpo (zqO HV3C.out hb4); clear hT4 hb4))
 have HTm : Hid (IsTree w4 gt bt [([97], [50, 10, 49])]) := zpo (by have h := HT4.out; rw [show ([⟨⟨#[97]⟩, ⟨#[50, 10, 49]⟩⟩] : List S77).map zcW = [([97], [50, 10, 49])] from rfl, zjt] at h; exact h)
 obtain ⟨x0, x1, x2, x3, x4⟩ := HCs.out _ HB4.out
 -- check.All of the one rule
 have hR4 := HR.out.below HB4.out; have hb5 := za7 w4 (.cells #[.string ⟨#[114]⟩, .slice B1 2 2, .slice B2 2 2, .slice none 0 0, .slice B4 3 3] 45); have hAl := zfN (some ⟨w4.heap.size, 0, none⟩) 1 [R7] _ (((HG.out.below HB.out).below HB4.out).below hb5) (zhB hR4) fits1; rw [ziD] at hAl; have HAl := zpo hAl; have HB5 := zpo (zac HB4.out HB4.out.size hb5); have HV2C := zpo (zqO HV2C.out hb5); have HV3C := zpo (zqO HV3C.out hb5); have HTm := zpo (HTm.out.below hb5); clear hb5 hAl hR4 HNw; go_upto_region 8 with (first | (go_at_call 49; refine HAl.out.mono ?_; rintro e w5 ⟨rfl, hb5⟩; have HB5 := zpo (zac HB5.out HB5.out.size hb5); have HV2C := zpo (zqO HV2C.out hb5); have HV3C := zpo (zqO HV3C.out hb5); have HTm := zpo (HTm.out.below hb5); clear hb5))
 -- check.All of both rules
 obtain ⟨hS, hbS, hsS⟩ := zjC w5; have hB6 := zac HB5.out HB5.out.size hbS; have hR6 := HR.out.below hB6; have hb6 := za7 (s7W w5) (.cells #[.string ⟨#[115]⟩, .slice (some ⟨w5.heap.size + 1, 0, none⟩) 1 1, .slice (some ⟨w5.heap.size, 0, none⟩) 1 1, .slice none 0 0, .slice (some ⟨w5.heap.size + 1 + 1 + 1, 0, none⟩) 1 1, .string ⟨#[114]⟩, .slice B1 2 2, .slice B2 2 2, .slice none 0 0, .slice B4 3 3] 45); have hrow6 : Kd.C k45 ((s7W w5).alloc (.cells #[.string ⟨#[115]⟩, .slice (some ⟨w5.heap.size + 1, 0, none⟩) 1 1, .slice (some ⟨w5.heap.size, 0, none⟩) 1 1, .slice none 0 0, .slice (some ⟨w5.heap.size + 1 + 1 + 1, 0, none⟩) 1 1, .string ⟨#[114]⟩, .slice B1 2 2, .slice B2 2 2, .slice none 0 0, .slice B4 3 3] 45)) (some ⟨(s7W w5).heap.size, 0, none⟩) 2 [S7, R7] :=
  zbG k45 (s7W w5) 45 [S7, R7] [.string ⟨#[115]⟩, .slice (some ⟨w5.heap.size + 1, 0, none⟩) 1 1, .slice (some ⟨w5.heap.size, 0, none⟩) 1 1, .slice none 0 0, .slice (some ⟨w5.heap.size + 1 + 1 + 1, 0, none⟩) 1 1, .string ⟨#[114]⟩, .slice B1 2 2, .slice B2 2 2, .slice none 0 0, .slice B4 3 3]
   (Reps.snoc (Reps.snoc (Reps.none _ _) (zf6 (s7W w5) S7 (c1 := 1) (by decide) hS.h1 (c2 := 1) (by decide) hS.h2 (c3 := 0) (by decide) hS.h3 (c4 := 1) (by decide) hS.h4) rfl) (zgv hR6) rfl) (by decide)
 rw [hsS] at hrow6; have hAl := zfN (some ⟨w5.heap.size + 1 + 1 + 1 + 1, 0, none⟩) 2 [S7, R7] _ (((HG.out.below HB.out).below hB6).below hb6) hrow6 fits2; rw [znQ] at hAl; have HB6 := zpo (zac hB6 hB6.size hb6); have HV2C := zpo (zqO (zqO HV2C.out hbS) hb6); have HV3C := zpo (zqO (zqO HV3C.out hbS) hb6); have HTm := zpo ((HTm.out.below hbS).below hb6); unfold s7W zd7 at hAl HB6 HV2C HV3C HTm; have HAl2 := zpo hAl; obtain ⟨u0, u1, u2, u3, u4⟩ := HCs.out _ HB5.out; have HCs6 : Hid (∀ W, Below w5.heap.size w5 W -> W.cell? ⟨X, 0, none⟩ = some (.string ⟨#[114]⟩) /\ W.cell? ⟨X, 1, none⟩ = some (.slice B1 2 2) /\ W.cell? ⟨X, 2, none⟩ = some (.slice B2 2 2) /\ W.cell? ⟨X, 3, none⟩ = some (.slice none 0 0) /\ W.cell? ⟨X, 4, none⟩ = some (.slice B4 3 3)) := zpo (fun W hW => HCs.out W (zac HB5.out HB5.out.size hW))
 obtain ⟨p0, p1, p2, p3, p4⟩ := HCs6.out _ hbS; unfold s7W zd7 at p0 p1 p2 p3 p4; clear hS hbS hsS hB6 hR6 hb6 hrow6 hAl HAl; go_upto_region 9 with (first | (go_at_call 49; refine HAl2.out.mono ?_; rintro e w6 ⟨rfl, hb6⟩; have HB6 := zpo (zac HB6.out HB6.out.size hb6); have HV2C := zpo (zqO HV2C.out hb6); have HV3C := zpo (zqO HV3C.out hb6); have HTm := zpo (HTm.out.below hb6); clear hb6))
 -- deno.Files
 clear p0 p1 p2 p3 p4 u0 u1 u2 u3 u4 HAl2; have hR7 := HR.out.below HB6.out; have hrow7 := zhB hR7; have hb7 := za7 w6 (.cells #[.string ⟨#[114]⟩, .slice B1 2 2, .slice B2 2 2, .slice none 0 0, .slice B4 3 3] 45); have hb7b := hb7.alloc hb7.size (.cells #[.string ⟨#[120]⟩, .string ⟨#[97]⟩, .string ⟨#[121]⟩] 9); have hs7 := zbI w6 (.cells #[.string ⟨#[114]⟩, .slice B1 2 2, .slice B2 2 2, .slice none 0 0, .slice B4 3 3] 45); have hnm7 : Kd.C zp6 ((w6.alloc (.cells #[.string ⟨#[114]⟩, .slice B1 2 2, .slice B2 2 2, .slice none 0 0, .slice B4 3 3] 45)).alloc (.cells #[.string ⟨#[120]⟩, .string ⟨#[97]⟩, .string ⟨#[121]⟩] 9)) (some ⟨(w6.alloc (.cells #[.string ⟨#[114]⟩, .slice B1 2 2, .slice B2 2 2, .slice none 0 0, .slice B4 3 3] 45)).heap.size, 0, none⟩) 3 [⟨#[120]⟩, ⟨#[97]⟩, ⟨#[121]⟩] := zcs _ [⟨#[120]⟩, ⟨#[97]⟩, ⟨#[121]⟩] (by decide)
 rw [hs7] at hnm7; have hB7 := zac HB6.out HB6.out.size hb7b; have hFl := zoc [R7] rk7 [([97], [50, 10, 49])] (some ⟨w6.heap.size, 0, none⟩) 1 gt bt (some ⟨w6.heap.size + 1, 0, none⟩) 3 [⟨#[120]⟩, ⟨#[97]⟩, ⟨#[121]⟩] _ ((HG.out.below HB.out).below hB7) (zqO hrow7 (za7 _ _)) (HTm.out.below hb7b) hnm7 fits1 (fun _ => mean7) (fun k v h => by
  unfold getT at h; by_cases hk : ([97] : zaa) == k
  . simp [List.find?_cons, hk] at h
    rw [<- h]; decide
  . simp [List.find?_cons, hk] at h) (by decide) (by decide)
 rw [zk4] at hFl; have HFl := zpo hFl; have HB7 := zpo hB7; have HV2C := zpo (zqO HV2C.out hb7b); have HV3C := zpo (zqO HV3C.out hb7b); obtain ⟨p0, p1, p2, p3, p4⟩ := HCs.out _ HB6.out; clear hR7 hrow7 hb7 hb7b hs7 hnm7 hB7 hFl; go_upto_region 10 with (first | (go_at_call 50; refine HFl.out.mono ?_; rintro e w7 ⟨v7, rfl, hR7, hb7⟩; have HV7 := zpo hR7; have HB7 := zpo (zac HB7.out HB7.out.size hb7); have HV2C := zpo (zqO HV2C.out hb7); have HV3C := zpo (zqO HV3C.out hb7); clear hR7 hb7))
 obtain ⟨V7, d7, he7, _, hC7⟩ := zql HV7.out; replace he7 : v7 = .slice V7 3 d7 := he7
 subst he7; have HV7C : Hid (Kd.C k34 w7 V7 3 [⟨true, ⟨#[50, 10]⟩⟩, ⟨true, ⟨#[50, 10, 49]⟩⟩, ⟨false, ⟨#[]⟩⟩]) := zpo hC7; clear hC7 p0 p1 p2 p3 p4 HFl; go_upto_region 12 with fail; obtain ⟨b2, o2, rfl, hc2⟩ := zf0 HV2C.out (by decide)
 obtain ⟨b3, o3, rfl, hc3⟩ := zf0 HV3C.out (by decide)
 obtain ⟨b7, o7, rfl, hc7⟩ := zf0 HV7C.out (by decide)
 have HFa : Hid (∀ W, Below w7.heap.size w7 W -> (W.cell? ⟨b2, o2, none⟩ = some (.bool true) /\ W.cell? ⟨b2, o2 + 1, none⟩ = some (.string ⟨#[50, 10]⟩) /\ W.cell? ⟨b2, o2 + 2, none⟩ = some (.bool false) /\ W.cell? ⟨b3, o3, none⟩ = some (.bool false) /\ W.cell? ⟨b3, o3 + 3, none⟩ = some (.string ⟨#[122]⟩)) /\ (W.cell? ⟨b7, o7 + 1, none⟩ = some (.string ⟨#[50, 10]⟩) /\ W.cell? ⟨b7, o7 + 3, none⟩ = some (.string ⟨#[50, 10, 49]⟩) /\ W.cell? ⟨b7, o7 + 4, none⟩ = some (.bool false) /\ W.cell? ⟨b7, o7 + 5, none⟩ = some (.string ⟨#[]⟩)) /\ (W.cell? ⟨X, 0, none⟩ = some (.string ⟨#[114]⟩) /\ W.cell? ⟨X, 1, none⟩ = some (.slice B1 2 2) /\ W.cell? ⟨X, 2, none⟩ = some (.slice B2 2 2) /\ W.cell? ⟨X, 3, none⟩ = some (.slice none 0 0) /\ W.cell? ⟨X, 4, none⟩ = some (.slice B4 3 3))) := zpo (fun W hW => by
  refine ⟨⟨?_, ?_, ?_, ?_, ?_⟩, ⟨?_, ?_, ?_, ?_⟩, HCs.out W (zac HB7.out HB7.out.size hW)⟩
  . exact zad hW (hc2 0 (by decide)).1
  . exact zad hW (hc2 0 (by decide)).2
  . exact zad hW (hc2 1 (by decide)).1
  . exact zad hW (hc3 0 (by decide)).1
  . exact zad hW (hc3 1 (by decide)).2
  . exact zad hW (hc7 0 (by decide)).2
  . exact zad hW (hc7 1 (by decide)).2
  . exact zad hW (hc7 2 (by decide)).1
  . exact zad hW (hc7 2 (by decide)).2)
 have HRa : Hid (∀ W, Below w7.heap.size w7 W -> RuleAt R7 B1 B2 none B4 W /\ GOK W) := zpo (fun W hW => ⟨HR.out.below (zac HB7.out HB7.out.size hW), (HG.out.below HB.out).below (zac HB7.out HB7.out.size hW)⟩)
 have HBw : Hid (Below w.heap.size w w7) := zpo (zac HB.out HB.out.size HB7.out); clear hc2 hc3 hc7; obtain ⟨b4, o4, C2, e2, C3, e3, rfl, t0, t1, t2, t3, t4, g2, g3⟩ := zdz (HRa.out w7 (zpr _ _)).1.h4 0 (by decide)
 have HFs : Hid (∀ W, Below w7.heap.size w7 W -> W.cell? ⟨b4, o4, none⟩ = some (.string ⟨#[116]⟩) /\ W.cell? ⟨b4, o4 + 1, none⟩ = some (.int .i64 3) /\ W.cell? ⟨b4, o4 + 2, none⟩ = some (.slice C2 1 e2) /\ W.cell? ⟨b4, o4 + 3, none⟩ = some (.slice C3 0 e3) /\ W.cell? ⟨b4, o4 + 4, none⟩ = some (.int .i64 0)) := zpo (fun W hW => ⟨zad hW t0, zad hW t1, zad hW t2, zad hW t3, zad hW t4⟩)
 have HBg : Hid (∀ W, Below w7.heap.size w7 W -> Calls zp0 51 #[] W fun e w' => e = .returned (.bool true) /\ Below W.heap.size W w') := zpo (fun W hW => zke W (HRa.out W hW).2)
 have HSt : Hid (∀ W, Below w7.heap.size w7 W -> Calls zp0 39 #[.agg #[.string ⟨#[114]⟩, .slice B1 2 2, .slice B2 2 2, .slice none 0 0, .slice (some ⟨b4, o4, none⟩) 3 3], .string ⟨#[120]⟩] W fun e w' => ∃ A c, e = .returned (.slice A 2 c) /\ Below W.heap.size W w') := zpo (fun W hW => (zlX R7 B1 2 B2 2 none 0 (some ⟨b4, o4, none⟩) 3 ⟨#[120]⟩ W (HRa.out W hW).1 fit7 (by decide)).mono fun e w' ⟨v, he, hv, hb⟩ => by
  obtain ⟨A, c, hv', _, _⟩ := zql hv; exact ⟨A, c, by rw [he, hv', zox], hb⟩)
 have HRd : Hid (∀ W, Below w7.heap.size w7 W -> Calls zp0 41 #[.agg #[.string ⟨#[114]⟩, .slice B1 2 2, .slice B2 2 2, .slice none 0 0, .slice (some ⟨b4, o4, none⟩) 3 3], .string ⟨#[120]⟩] W fun e w' => ∃ A c, e = .returned (.slice A 1 c) /\ Below W.heap.size W w') := zpo (fun W hW => (zkV R7 B1 2 B2 2 none 0 (some ⟨b4, o4, none⟩) 3 ⟨#[120]⟩ W (HRa.out W hW).1 fit7 (by decide)).mono fun e w' ⟨v, he, hv, hb⟩ => by
  obtain ⟨A, c, hv', _, _⟩ := zql hv; exact ⟨A, c, by rw [he, hv', zp9, zjF]; rfl, hb⟩)
 have HSa : Hid (∀ W, Below w7.heap.size w7 W -> Calls zp0 43 #[.agg #[.string ⟨#[114]⟩, .slice B1 2 2, .slice B2 2 2, .slice none 0 0, .slice (some ⟨b4, o4, none⟩) 3 3]] W fun e w' => ∃ A c, e = .returned (.slice A 2 c) /\ Below W.heap.size W w') := zpo (fun W hW => (zoP R7 B1 2 B2 2 none 0 (some ⟨b4, o4, none⟩) 3 W (HRa.out W hW).1 fit7).mono fun e w' ⟨v, he, hv, hb⟩ => by
  obtain ⟨A, c, hv', _, _⟩ := zql hv; exact ⟨A, c, by rw [he, hv', zp9, zoV]; rfl, hb⟩)
 have HDe : Hid (∀ W, Below w7.heap.size w7 W -> Calls zp0 44 #[.agg #[.string ⟨#[114]⟩, .slice B1 2 2, .slice B2 2 2, .slice none 0 0, .slice (some ⟨b4, o4, none⟩) 3 3]] W fun e w' => ∃ A c, e = .returned (.slice A 0 c) /\ Below W.heap.size W w') := zpo (fun W hW => (zl3 R7 B1 2 B2 2 none 0 (some ⟨b4, o4, none⟩) 3 W (HRa.out W hW).1 fit7).mono fun e w' ⟨v, he, hv, hb⟩ => by
  obtain ⟨A, c, hv', _, _⟩ := zql hv; exact ⟨A, c, by rw [he, hv', zom], hb⟩)
 have HEq : Hid (∀ W, Below w7.heap.size w7 W -> Calls zp0 52 #[.agg #[.bool false, .string ⟨#[]⟩], .agg #[.bool false, .string ⟨#[63]⟩]] W fun e w' => e = .returned (.bool true) /\ Below W.heap.size W w') := zpo (fun W _ => zlB ⟨false, ⟨#[]⟩⟩ ⟨false, ⟨#[63]⟩⟩ W)
 have HRu : Hid (∀ W, Below w7.heap.size w7 W -> Calls zp0 46 #[.agg #[.string ⟨#[114]⟩, .slice B1 2 2, .slice B2 2 2, .slice none 0 0, .slice (some ⟨b4, o4, none⟩) 3 3]] W fun e w' => e = .returned (.int .i64 0) /\ Below W.heap.size W w') := zpo (fun W hW => by
  have h := zij R7 B1 2 B2 2 none 0 (some ⟨b4, o4, none⟩) 3 W (HRa.out W hW).2 (HRa.out W hW).1 ⟨by decide, by decide, by decide, by decide⟩ (by decide) (by decide)
  rw [zkK] at h; exact h)
 have HMa : Hid (∀ W, Below w7.heap.size w7 W -> Calls zp0 20 #[.agg #[.string ⟨#[116]⟩, .int .i64 3, .slice C2 1 e2, .slice C3 0 e3, .int .i64 0]] W fun e w' => e = .returned (.bool true) /\ Below W.heap.size W w') := zpo (fun W hW => by
  have h := zeO ⟨⟨#[116]⟩, 3, [⟨#[97]⟩], [], 0⟩ C2 e2 C3 e3 W (zqO g2 hW) (zqO g3 hW); rw [znl] at h; exact h)
 have HLi : Hid (∀ W, Below w7.heap.size w7 W -> Calls zp0 23 #[.string ⟨#[97, 10, 10, 98]⟩] W fun e w' => ∃ A c, e = .returned (.slice A 3 c) /\ Below W.heap.size W w') := zpo (fun W hW => (zea ⟨#[97, 10, 10, 98]⟩ W (HRa.out W hW).2 (by decide)).mono fun e w' ⟨v, he, hv, hb⟩ => by
  obtain ⟨A, c, hv', _, _⟩ := zql hv; exact ⟨A, c, by rw [he, hv', zjT], hb⟩)
 have HX8 : Hid (Below w7.heap.size w7 w7) := zpo (zpr _ _); obtain ⟨⟨f0, f1, f2, f3, f4⟩, ⟨f5, f6, f7, f8⟩, ⟨f9, f10, f11, f12, f13⟩⟩ := HFa.out _ HX8.out; obtain ⟨s0, s1, s2, s3, s4⟩ := HFs.out _ HX8.out; clear t0 t1 t2 t3 t4 g2 g3; go_wp2_with (first
  | (go_at_call 51; refine (HBg.out _ HX8.out).mono ?_; rintro e w8 ⟨rfl, hb8⟩; have HX8 := zpo (zac HX8.out HX8.out.size hb8); clear f0 f1 f2 f3 f4 f5 f6 f7 f8 f9 f10 f11 f12 f13 s0 s1 s2 s3 s4; obtain ⟨⟨f0, f1, f2, f3, f4⟩, ⟨f5, f6, f7, f8⟩, ⟨f9, f10, f11, f12, f13⟩⟩ := HFa.out _ HX8.out; obtain ⟨s0, s1, s2, s3, s4⟩ := HFs.out _ HX8.out; clear hb8)
  | (go_at_call 39; refine (HSt.out _ HX8.out).mono ?_; rintro e w8 ⟨A8, c8, rfl, hb8⟩; have HX8 := zpo (zac HX8.out HX8.out.size hb8); clear f0 f1 f2 f3 f4 f5 f6 f7 f8 f9 f10 f11 f12 f13 s0 s1 s2 s3 s4; obtain ⟨⟨f0, f1, f2, f3, f4⟩, ⟨f5, f6, f7, f8⟩, ⟨f9, f10, f11, f12, f13⟩⟩ := HFa.out _ HX8.out; obtain ⟨s0, s1, s2, s3, s4⟩ := HFs.out _ HX8.out; clear hb8)
  | (go_at_call 41; refine (HRd.out _ HX8.out).mono ?_; rintro e w8 ⟨A8, c8, rfl, hb8⟩; have HX8 := zpo (zac HX8.out HX8.out.size hb8); clear f0 f1 f2 f3 f4 f5 f6 f7 f8 f9 f10 f11 f12 f13 s0 s1 s2 s3 s4; obtain ⟨⟨f0, f1, f2, f3, f4⟩, ⟨f5, f6, f7, f8⟩, ⟨f9, f10, f11, f12, f13⟩⟩ := HFa.out _ HX8.out; obtain ⟨s0, s1, s2, s3, s4⟩ := HFs.out _ HX8.out; clear hb8)
  | (go_at_call 43; refine (HSa.out _ HX8.out).mono ?_; rintro e w8 ⟨A8, c8, rfl, hb8⟩; have HX8 := zpo (zac HX8.out HX8.out.size hb8); clear f0 f1 f2 f3 f4 f5 f6 f7 f8 f9 f10 f11 f12 f13 s0 s1 s2 s3 s4; obtain ⟨⟨f0, f1, f2, f3, f4⟩, ⟨f5, f6, f7, f8⟩, ⟨f9, f10, f11, f12, f13⟩⟩ := HFa.out _ HX8.out; obtain ⟨s0, s1, s2, s3, s4⟩ := HFs.out _ HX8.out; clear hb8)
  | (go_at_call 44; refine (HDe.out _ HX8.out).mono ?_; rintro e w8 ⟨A8, c8, rfl, hb8⟩; have HX8 := zpo (zac HX8.out HX8.out.size hb8); clear f0 f1 f2 f3 f4 f5 f6 f7 f8 f9 f10 f11 f12 f13 s0 s1 s2 s3 s4; obtain ⟨⟨f0, f1, f2, f3, f4⟩, ⟨f5, f6, f7, f8⟩, ⟨f9, f10, f11, f12, f13⟩⟩ := HFa.out _ HX8.out; obtain ⟨s0, s1, s2, s3, s4⟩ := HFs.out _ HX8.out; clear hb8)
  | (go_at_call 52; refine (HEq.out _ HX8.out).mono ?_; rintro e w8 ⟨rfl, hb8⟩; have HX8 := zpo (zac HX8.out HX8.out.size hb8); clear f0 f1 f2 f3 f4 f5 f6 f7 f8 f9 f10 f11 f12 f13 s0 s1 s2 s3 s4; obtain ⟨⟨f0, f1, f2, f3, f4⟩, ⟨f5, f6, f7, f8⟩, ⟨f9, f10, f11, f12, f13⟩⟩ := HFa.out _ HX8.out; obtain ⟨s0, s1, s2, s3, s4⟩ := HFs.out _ HX8.out; clear hb8)
  | (go_at_call 46; refine (HRu.out _ HX8.out).mono ?_; rintro e w8 ⟨rfl, hb8⟩; have HX8 := zpo (zac HX8.out HX8.out.size hb8); clear f0 f1 f2 f3 f4 f5 f6 f7 f8 f9 f10 f11 f12 f13 s0 s1 s2 s3 s4; obtain ⟨⟨f0, f1, f2, f3, f4⟩, ⟨f5, f6, f7, f8⟩, ⟨f9, f10, f11, f12, f13⟩⟩ := HFa.out _ HX8.out; obtain ⟨s0, s1, s2, s3, s4⟩ := HFs.out _ HX8.out; clear hb8)
  | (go_at_call 20; refine (HMa.out _ HX8.out).mono ?_; rintro e w8 ⟨rfl, hb8⟩; have HX8 := zpo (zac HX8.out HX8.out.size hb8); clear f0 f1 f2 f3 f4 f5 f6 f7 f8 f9 f10 f11 f12 f13 s0 s1 s2 s3 s4; obtain ⟨⟨f0, f1, f2, f3, f4⟩, ⟨f5, f6, f7, f8⟩, ⟨f9, f10, f11, f12, f13⟩⟩ := HFa.out _ HX8.out; obtain ⟨s0, s1, s2, s3, s4⟩ := HFs.out _ HX8.out; clear hb8)
  | (go_at_call 23; refine (HLi.out _ HX8.out).mono ?_; rintro e w8 ⟨A8, c8, rfl, hb8⟩; have HX8 := zpo (zac HX8.out HX8.out.size hb8); clear f0 f1 f2 f3 f4 f5 f6 f7 f8 f9 f10 f11 f12 f13 s0 s1 s2 s3 s4; obtain ⟨⟨f0, f1, f2, f3, f4⟩, ⟨f5, f6, f7, f8⟩, ⟨f9, f10, f11, f12, f13⟩⟩ := HFa.out _ HX8.out; obtain ⟨s0, s1, s2, s3, s4⟩ := HFs.out _ HX8.out; clear hb8))
 go_ret
 exact ⟨rfl, zac HBw.out HBw.out.size HX8.out⟩
def zoi (x : zar) (w : World) (e : Ending) (w' : World) : Prop :=
 ∃ X2 d2 X3 d3, e = .returned (.agg #[.string x.f0, .int .i64 x.f1, .slice X2 x.f2.length d2, .slice X3 x.f3.length d3, .int .i64 x.f4]) /\ Kd.F zp6 w' (fun k => w.heap.size + 1 < k) X2 x.f2.length x.f2 /\ Kd.F zp6 w' (fun k => w.heap.size + 1 < k) X3 x.f3.length x.f3 /\ Below w.heap.size w w'
theorem zo9 (x : zar) (B2 : Option Addr) (c2 : Nat) (B3 : Option Addr) (c3 : Nat) (w : World) (h2 : Kd.C zp6 w B2 x.f2.length x.f2) (h3 : Kd.C zp6 w B3 x.f3.length x.f3) (hc2 : x.f2.length <= c2) (hc3 : x.f3.length <= c3)
 (hl : x.f2.length * 16 <= 140737488355328 /\ x.f3.length * 16 <= 140737488355328) :
 Calls zp0 17 #[.agg #[.string x.f0, .int .i64 x.f1, .slice B2 x.f2.length c2, .slice B3 x.f3.length c3, .int .i64 x.f4]] w (zoi (zaR x) w) := by
 obtain ⟨w2, hw2⟩ : ∃ w2, w2 = (w.alloc (.cells #[.string x.f0, .int .i64 x.f1, .slice B2 x.f2.length c2, .slice B3 x.f3.length c3, .int .i64 x.f4] 24)).alloc (.cells #[.string ⟨#[]⟩, .int .i64 0, .slice none 0 0, .slice none 0 0, .int .i64 0] 24) := ⟨_, rfl⟩; have hg1 := za7 w (.cells #[.string x.f0, .int .i64 x.f1, .slice B2 x.f2.length c2, .slice B3 x.f3.length c3, .int .i64 x.f4] 24); have hg2 := za7 (w.alloc (.cells #[.string x.f0, .int .i64 x.f1, .slice B2 x.f2.length c2, .slice B3 x.f3.length c3, .int .i64 x.f4] 24)) (.cells #[.string ⟨#[]⟩, .int .i64 0, .slice none 0 0, .slice none 0 0, .int .i64 0] 24); have hb2 : Below w.heap.size w w2 := by rw [hw2]; exact zac hg1 hg1.size hg2
 have hn2 : w2.heap.size = w.heap.size + 1 + 1 := by rw [hw2, zbI, zbI]
 have hz2 : w2.heap[w.heap.size + 1]? = some (.cells #[.string ⟨#[]⟩, .int .i64 0, .slice none 0 0, .slice none 0 0, .int .i64 0] 24 (0, 0)) := by
  rw [hw2, <- zbI w (.cells #[.string x.f0, .int .i64 x.f1, .slice B2 x.f2.length c2, .slice B3 x.f3.length c3, .int .i64 x.f4] 24)]; exact zak _ _
 have hk2 : w2.heap[w.heap.size]? = some (.cells #[.string x.f0, .int .i64 x.f1, .slice B2 x.f2.length c2, .slice B3 x.f3.length c3, .int .i64 x.f4] 24 (0, 0)) := by rw [hw2]; exact zah (zak _ _) hg2
 have hr3 := zbG k24 w2 24 [x] [.string x.f0, .int .i64 x.f1, .slice B2 x.f2.length c2, .slice B3 x.f3.length c3, .int .i64 x.f4] (Reps.snoc (Reps.none _ _) (zek w2 x hc2 (zqO h2 hb2) hc3 (zqO h3 hb2)) rfl) (by simp)
 have hcut := znf ⟨⟨#[]⟩, [], [], [], [x]⟩ none 0 none 0 none 0 (some ⟨w2.heap.size, 0, none⟩) 1 (w2.alloc (.cells #[.string x.f0, .int .i64 x.f1, .slice B2 x.f2.length c2, .slice B3 x.f3.length c3, .int .i64 x.f4] 24)) (zdi _ _) (zdi _ _) (zdi _ _) hr3
  (fun y hy => by rw [zqU.1 hy]; exact hl) (zps _) (zps _) (zps _) (zps _)
 have HCut : Hid (Calls zp0 53 #[.agg #[.string ⟨#[]⟩, .slice none 0 0, .slice none 0 0, .slice none 0 0, .slice (some ⟨w.heap.size + 1 + 1, 0, none⟩) 1 1]] (w2.alloc (.cells #[.string x.f0, .int .i64 x.f1, .slice B2 x.f2.length c2, .slice B3 x.f3.length c3, .int .i64 x.f4] 24)) (zfq ⟨⟨#[]⟩, [], [], [], [zaR x]⟩ (w2.alloc (.cells #[.string x.f0, .int .i64 x.f1, .slice B2 x.f2.length c2, .slice B3 x.f3.length c3, .int .i64 x.f4] 24)))) := by
  show Calls _ _ _ _ _
  rw [<- hn2]; exact hcut
 have HZ2 := zpo hz2; have HB3 := zpo (zac hb2 hb2.size (za7 w2 (.cells #[.string x.f0, .int .i64 x.f1, .slice B2 x.f2.length c2, .slice B3 x.f3.length c3, .int .i64 x.f4] 24))); have HZ3 := zpo (zah hz2 (za7 w2 (.cells #[.string x.f0, .int .i64 x.f1, .slice B2 x.f2.length c2, .slice B3 x.f3.length c3, .int .i64 x.f4] 24))); have k0 := bc0 hk2; have k1 := bc1 hk2; have k2 := bc2 hk2; have k3 := bc3 hk2; have k4 := bc4 hk2; clear hg1 hg2 hb2 hz2 hk2 hr3 hcut h2 h3 hc2 hc3 hl; go_enter Tryz.func17, Tryz.ntmps17
 go_upto_region 1 with fail; rw [<- hw2]; clear hw2; go_wp2_with fail; refine HCut.out.mono ?_; rintro e w4 ⟨X1, d1, X2, d2, X3, d3, X4, d4, rfl, hFK, hb4⟩; have hs3 : (w2.alloc (.cells #[.string x.f0, .int .i64 x.f1, .slice B2 x.f2.length c2, .slice B3 x.f3.length c3, .int .i64 x.f4] 24)).heap.size = w.heap.size + 1 + 1 + 1 := by rw [zbI, hn2]
 have HZ4 := zpo (zah HZ3.out hb4); have HB4 := zpo (zac HB3.out HB3.out.size hb4); obtain ⟨P1, p1, P2, p2, P3, p3, A4, k4, he, _, _, _, _, _, _, _, hF4⟩ := zn9 hFK; simp only [List.cons.injEq, Value.slice.injEq, true_and, and_true] at he; obtain ⟨_, _, _, rfl, rfl⟩ := he; obtain ⟨ad, c, rfl, hcl, hFe, hcell, _⟩ := Kd.F_get hF4 z24 0 (by decide) (by show (0 : Int) < 1; decide)
 obtain ⟨Y2, e2, Y3, e3, rfl, _, hG2, _, hG3⟩ := zhM hFe; rw [hs3] at hG2 hG3; have hok : ∀ k, w.heap.size + 1 + 1 + 1 <= k -> w.heap.size + 1 < k := fun k h => by omega
 have HG2 := zpo (Kd.F_mono hG2 hok); have HG3 := zpo (Kd.F_mono hG3 hok); have z0 := hcell 0 _ rfl; have z1 := hcell 1 _ rfl; have z2 := hcell 2 _ rfl; have z3 := hcell 3 _ rfl; have z4 := hcell 4 _ rfl; obtain ⟨b, o, rfl⟩ := zdY (n := 5) (w := w4) (ad := ad) (v := _) z0; clear hcell hcl hFe hF4 hFK hG2 hG3 hb4 hok k0 k1 k2 k3 k4; have add0 : ∀ m, ((⟨b, o, none⟩ : Addr).add ((0 : Int).toNat * 5 + m)) = ⟨b, o + m, none⟩ := fun m => by
  rw [show (0 : Int).toNat * 5 + m = m by simp]
  unfold Addr.add; split
  . rename_i h0; simp [h0]
  . rfl
 have add00 : ((⟨b, o, none⟩ : Addr).add ((0 : Int).toNat * 5)) = ⟨b, o, none⟩ := by have := add0 0; simpa using this
 replace z0 : w4.cell? ⟨b, o, none⟩ = some (.string x.f0) := by rw [<- add00]; exact z0
 replace z1 : w4.cell? ⟨b, o + 1, none⟩ = some (.int .i64 x.f1) := by rw [<- add0 1]; exact z1
 replace z2 : w4.cell? ⟨b, o + 2, none⟩ = some (.slice Y2 (zaR x).f2.length e2) := by rw [<- add0 2]; exact z2
 replace z3 : w4.cell? ⟨b, o + 3, none⟩ = some (.slice Y3 (zaR x).f3.length e3) := by rw [<- add0 3]; exact z3
 replace z4 : w4.cell? ⟨b, o + 4, none⟩ = some (.int .i64 x.f4) := by rw [<- add0 4]; exact z4
 have y0 := zai HZ4.out 0; have y1 := zai HZ4.out 1; have y2 := zai HZ4.out 2; have y3 := zai HZ4.out 3; have y4 := zai HZ4.out 4; have v0 := bc0 HZ4.out; have v1 := bc1 HZ4.out; have v2 := bc2 HZ4.out; have v3 := bc3 HZ4.out; have v4 := bc4 HZ4.out; have hfd : ∀ W : World, (Instr.field 45 (.agg #[.string ⟨#[]⟩, .slice P1 0 p1, .slice P2 0 p2, .slice P3 0 p3, .slice (some ⟨b, o, none⟩) 1 d4]) 4).run zp0 W = .ok (.slice (some ⟨b, o, none⟩) 1 d4) W := fun _ => by kernel_rfl
 clear hs3; go_wp2_with fail; have hs := zcm (.string x.f0) (.int .i64 x.f1) (.slice Y2 (zaR x).f2.length e2) (.slice Y3 (zaR x).f3.length e3) (.int .i64 x.f4) HZ4.out; have hle : w.heap.size <= w.heap.size + 1 := Nat.le_succ _; have hB := ((((HB4.out.setCell (p := ⟨w.heap.size + 1, 0, none⟩) hle (.string x.f0)).setCell (p := ⟨w.heap.size + 1, 1, none⟩) hle (.int .i64 x.f1)).setCell (p := ⟨w.heap.size + 1, 2, none⟩) hle (.slice Y2 (zaR x).f2.length e2)).setCell (p := ⟨w.heap.size + 1, 3, none⟩) hle (.slice Y3 (zaR x).f3.length e3)).setCell (p := ⟨w.heap.size + 1, 4, none⟩) hle (.int .i64 x.f4); have hne : ∀ m k, w.heap.size + 1 < k -> k ≠ (⟨w.heap.size + 1, m, none⟩ : Addr).block := fun m k h => by show k ≠ w.heap.size + 1; omega
 have hF2 := Kd.F_far (Kd.F_far (Kd.F_far (Kd.F_far (Kd.F_far HG2.out (hne 0) (.string x.f0)) (hne 1) (.int .i64 x.f1)) (hne 2) (.slice Y2 (zaR x).f2.length e2)) (hne 3) (.slice Y3 (zaR x).f3.length e3)) (hne 4) (.int .i64 x.f4); have hF3 := Kd.F_far (Kd.F_far (Kd.F_far (Kd.F_far (Kd.F_far HG3.out (hne 0) (.string x.f0)) (hne 1) (.int .i64 x.f1)) (hne 2) (.slice Y2 (zaR x).f2.length e2)) (hne 3) (.slice Y3 (zaR x).f3.length e3)) (hne 4) (.int .i64 x.f4); unfold set5 at hs; generalize (((((w4.setCell ⟨w.heap.size + 1, 0, none⟩ (.string x.f0)).setCell ⟨w.heap.size + 1, 1, none⟩ (.int .i64 x.f1)).setCell ⟨w.heap.size + 1, 2, none⟩ (.slice Y2 (zaR x).f2.length e2)).setCell ⟨w.heap.size + 1, 3, none⟩ (.slice Y3 (zaR x).f3.length e3)).setCell ⟨w.heap.size + 1, 4, none⟩ (.int .i64 x.f4)) = w5 at hs hB hF2 hF3 |-; have g0 := (zaf hs 0).trans rfl; have g1 := (zaf hs 1).trans rfl; have g2 := (zaf hs 2).trans rfl; have g3 := (zaf hs 3).trans rfl; have g4 := (zaf hs 4).trans rfl; exact bodyPost_ret (v := .agg #[.string x.f0, .int .i64 x.f1, .slice Y2 (zaR x).f2.length e2, .slice Y3 (zaR x).f3.length e3, .int .i64 x.f4]) (by simp [results, Tryz.results17, go_sem, g0, g1, g2, g3, g4]) rfl ⟨Y2, e2, Y3, e3, rfl, hF2, hF3, hB⟩
section
variable {ops : Array Oper} {o : Oper} {rest : List Oper} {a : Act} {Q : Exit -> Act -> World -> Prop}
theorem ziG {w0 W : World} {base : Nat} {val : Value} {l : List SVal} (v : SVal) (hgd : o.guard = none) (s x : Operand)
 (ho : o.op = .call { callee := .builtin .append, args := #[s, x], argTypes := #[25, 25] })
 (hs : a.eval s = val) (hx : a.eval x = .slice (some ⟨W.heap.size, 0, none⟩) 1 1) (HO : RVal W base val l) (HB : Below base w0 W) (hbs : base <= W.heap.size) (hl : l.length <= 1000000)
 (h : ∀ v1 w1, RVal w1 base v1 (l ++ [v]) -> Below base w0 w1 -> wpList zp0 ops Q rest (a.put o.dst v1) w1) :
 wpList zp0 ops Q (o :: rest) a (W.alloc (.cells #[.bool v.f0, .string v.f1] 34)) := by
 refine Kd.R_append k34 (w0 := w0) base hgd s x 25 34 (.agg #[.bool false, .string ⟨#[]⟩]) 24 ho Tryz.underlying25 zcN rfl (by decide) (by decide) val l v [.bool v.f0, .string v.f1] (fun _ => True) (fun k_ => True /\ some k_ ≠ val.ownBlock) hs hx (zcE _ _ _ v) (fun _ hk => hk) (fun _ _ => trivial) HO HB hbs (by omega) ?_
 intro v1 w1 ho1 hb1 _ _; exact h v1 w1 ho1 hb1
end
def zca (v : SVal) : SVal := if v.f0 = true then v else ⟨false, ⟨#[]⟩⟩
def zcG (l : List SVal) : List SVal := (l.take 10).map zca
theorem zof (l : List SVal) (k : Nat) (h : k < l.length) : (l.take (k + 1)).map zca = (l.take k).map zca ++ [zca l[k]] := by rw [zpU h, List.map_append]; rfl
theorem znw (A : Option Addr) (cA : Nat) (l : List SVal) (w : World) (hr : Kd.C k34 w A l.length l) :
 Calls zp0 18 #[.slice A l.length cA] w (zeg (zcG l) w) := by
 have hlen : l.length <= 9223372036854775807 := hr.2.1; have HR := zpo hr; obtain ⟨T, hT⟩ : ∃ T, T = zcG l := ⟨_, rfl⟩; rw [<- hT]; have HT := zpo hT; clear hr hT; go_enter Tryz.func18, Tryz.ntmps18
 go_wp2_with fail; go_loopg [3, 4, 5] l.length (fun gg s3 s4 _ wr => ∃ kk : Nat, kk <= 10 /\ kk <= l.length /\ l.length - kk <= gg /\ s4 = .int .i64 kk /\ Aside0 (RVal wr w.heap.size s3 ((l.take kk).map zca)) /\ Aside0 (Below w.heap.size w wr))
 case atStart => exact ⟨0, zqf _, zqf _, by omega, rfl, ⟨Kd.R_nil _ _ _ _ _⟩, ⟨zpr _ _⟩⟩
 case round =>
  obtain ⟨kk, hk10, hkk, hgk, rfl, HO, HW⟩ := hrel; by_cases hlt : kk < l.length /\ kk < 10
  . obtain ⟨hlt, h10⟩ := hlt
    have hltz : (kk : Int) < (l.length : Int) := by omega
    have h10z : (kk : Int) < 10 := by omega
    obtain ⟨b, o, rfl, p0, p1⟩ := zcR (zqO HR.out HW.out) kk hlt; have HSt := zpo (zof l kk hlt); have HML : Hid (((l.take kk).map zca).length <= 1000) := by show _ <= _; rw [zp9, zpD]; omega
    generalize l[kk] = y at p0 p1 HSt; have hab := (zpr wr.heap.size wr).alloc (zps _) (.cells #[.bool y.f0, .string y.f1] 34); have HY := zpo (zak wr (.cells #[.bool y.f0, .string y.f1] 34)); have HW3 := zpo (zac HW.out HW.out.size hab); have HO3 := zpo (Kd.R_below (Kd.R_bound HO.out) hab); clear hab; go_upto_region 6 with fail; generalize wr.alloc (.cells #[.bool y.f0, .string y.f1] 34) = w3 at HY HW3 HO3 |-; have q0 := bc0 HY.out; have q1 := bc1 HY.out; have f1 := zai HY.out 1; cases hok : y.f0 with
    | true =>
     rw [hok] at q0; have HC : Hid (zca y = ⟨true, y.f1⟩) := by show _ = _; unfold zca; rw [if_pos hok]; cases y; exact congrArg (fun b => (⟨b, _⟩ : SVal)) hok
     clear hok f1; go_wp2_with (first | ((with_reducible refine zaD (b := .append) (xs := #[.tmp 24, .tmp 26]) rfl ?_); at_builtin; refine ziG ⟨true, y.f1⟩ rfl (.tmp 24) (.tmp 26) rfl rfl rfl (Kd.R_mono HO3.out (fun _ _ => trivial)) HW3.out HW3.out.size ?aL ?_; (case aL => (have h1 := HML.out; omega)); intro v1 w8 ho hb; have HO8 := zpo ho; have HB8 := zpo hb; clear ho hb))
     go_roundg (l.length - (kk + 1))
     case measure => omega
     case rel => exact ⟨kk + 1, by omega, by omega, by omega, by first | rfl | go_num, ⟨by rw [HSt.out, HC.out]; exact HO8.out⟩, ⟨HB8.out⟩⟩
    | false =>
     rw [hok] at q0; have HC : Hid (zca y = ⟨false, ⟨#[]⟩⟩) := by show _ = _; unfold zca; rw [if_neg (by rw [hok]; decide)]
     have HY2 : Hid (w3.heap[wr.heap.size]? = some (.cells #[.bool false, .string y.f1] 34 (0, 0))) := by
      have h := HY.out; rw [hok] at h; exact h
     clear hok; go_upto_region 8 with fail; have hY := zat HY2.out 1 (.string ⟨#[]⟩) rfl; have hWs := HW3.out.setCell (p := ⟨wr.heap.size, 1, none⟩) HW.out.size (.string ⟨#[]⟩); have hOs := Kd.R_mono (Kd.R_far HO3.out (p := ⟨wr.heap.size, 1, none⟩) (fun k h => by show k ≠ wr.heap.size; have := h.2.2; omega) (.string ⟨#[]⟩)) (ok' := fun _ => True) (fun _ _ => trivial)
     generalize w3.setCell ⟨wr.heap.size, 1, none⟩ (.string ⟨#[]⟩) = w5 at hY hWs hOs |-; have r0 := bc0 hY; have r1 := bc1 hY; have HW5 := zpo hWs; have HO5 := zpo hOs; clear hY hWs hOs q0 q1 f1; go_wp2_with (first | ((with_reducible refine zaD (b := .append) (xs := #[.tmp 24, .tmp 26]) rfl ?_); at_builtin; refine ziG ⟨false, ⟨#[]⟩⟩ rfl (.tmp 24) (.tmp 26) rfl rfl rfl HO5.out HW5.out HW5.out.size ?aL ?_; (case aL => (have h1 := HML.out; omega)); intro v1 w8 ho hb; have HO8 := zpo ho; have HB8 := zpo hb; clear ho hb))
     go_roundg (l.length - (kk + 1))
     case measure => omega
     case rel => exact ⟨kk + 1, by omega, by omega, by omega, by first | rfl | go_num, ⟨by rw [HSt.out, HC.out]; exact HO8.out⟩, ⟨HB8.out⟩⟩
  . have HT2 : Hid (T = (l.take kk).map zca) := by
     show _ = _
     rw [HT.out]; unfold zcG; rcases Nat.lt_or_ge kk l.length with h | h
     . rw [show kk = 10 by omega]
     . rw [zqS (by omega), zqS (by omega)]
    by_cases hl2 : kk < l.length
    . have hltz : (kk : Int) < (l.length : Int) := by omega
      obtain rfl : kk = 10 := by omega
      have h10z : ¬ ((10 : Nat) : Int) < 10 := by omega
      go_wp2_with fail; go_ret
      exact ⟨_, rfl, by rw [HT2.out]; exact HO.out, HW.out⟩
    . have hltz : ¬ (kk : Int) < (l.length : Int) := by omega
      have hd : decide ((kk : Int) < (l.length : Int)) = false := by simp; omega
      go_wp2_with fail; go_ret
      exact ⟨_, rfl, by rw [HT2.out]; exact HO.out, HW.out⟩
end X
namespace X
theorem zg4 (c : UInt8) (r t : zaa) (i : Bool) : zbk (c :: r) t i = if c = 10 then t :: zbk r [] false else zbk r (t ++ [c]) true := rfl
end X
namespace X
open Go.RowKit Go.Maps YtdpgdnpddndeoaaGreatDoorW.PrintWords YtdpgdnpddndeoaaGreatDoorW.PrintMore YtdpgdnpddndeoaaGreatDoorW.PrintLast
end X
namespace X
end X
namespace X
open Go.RowKit Go.Maps YtdpgdnpddndeoaaGreatDoorW.PrintWords YtdpgdnpddndeoaaGreatDoorW.PrintMore YtdpgdnpddndeoaaGreatDoorW.PrintLast
def shipwrightlaw7_StepLong.f (_ _ _ : Int) : Option Bool := some true
end X
namespace X
open Go.RowKit Go.ChangeShapes Go.WideShapes Go.Deep YtdpgdnpddndeoaaGreatDoorW.PrintWords
theorem zio (a : Addr) (i j : Nat) : (a.add i).add j = a.add (i + j) := by
 unfold Addr.add; by_cases hi : i = 0 <;> by_cases hj : j = 0 <;> simp [hi, hj, Nat.add_assoc]
section
variable {H : Type} {enc : TypeId × Value -> H} {W : World} {α : Type}
def RowD (E : α -> DataW H) (l : List α) (d : DataW H) : Prop := (d = .nil /\ l = []) \/ ∃ sp, d = .slice (l.map E) sp
theorem zln [Inhabited α] (K : Kd α) (E : α -> DataW H) (good : α -> Prop) {P : Program} {base : Nat} {held : Bool} {t e : TypeId} {v : Value} {d : DataW H} {ps : List MemPlace}
 (ht : P.underlying t = some (.slice e)) (hce : P.cellsOf e = K.sz)
 (hel : ∀ n cs x p, cs.length = K.sz -> DataW.trod enc P W base (fun _ => true) held n e cs = some (x, p) -> ∃ y : α, K.K W y cs /\ x = E y /\ good y)
 (hv : ∃ a len cap, v = .slice a len cap) (h : DataW.Trod enc P W base (fun _ => true) held t v d ps) :
 ∃ (a : Option Addr) (l : List α) (c : Nat), v = .slice a l.length c /\ K.C W a l.length l /\ l.length <= c /\ RowD E l d /\ ∀ y ∈ l, good y := by
 obtain ⟨a0, len0, cap0, rfl⟩ := hv; obtain ⟨fuel, hf⟩ := h; rcases open_slice ht hf with ⟨hcs, hx⟩ | ⟨a, len, cap, m, n, D, Pl, hcs, hb, hl, hm, hmm, hx, hall⟩
 . simp [Value.cells] at hcs
   obtain ⟨rfl, rfl, rfl⟩ := hcs; have := (Prod.mk.inj hx).1; exact ⟨none, [], 0, rfl, ⟨rfl, by simp, fun h => by simp at h⟩, zps _, .inl ⟨this, rfl⟩, fun y hy => by cases hy⟩
 . simp [Value.cells] at hcs
   obtain ⟨rfl, rfl, rfl⟩ := hcs; obtain ⟨hx1, _⟩ := Prod.mk.inj hx; have hlm : len0 <= m := by rw [hmm]; simp; omega
   obtain ⟨Y, hY⟩ := choose_lt (α := α) (n := len0) (p := fun i y => ∃ cs, W.cells? base (a.add (i * K.sz)) K.sz = some cs /\ K.K W y cs /\ D i = E y /\ good y) (fun i hi => by
    obtain ⟨cs, h1, h2⟩ := hall i (by omega)
    rw [hce] at h1; obtain ⟨_, hlen, _⟩ := World.cells?_some h1; obtain ⟨y, h3, h4, h5⟩ := hel n cs _ _ hlen h2; exact ⟨y, cs, h1, h3, h4, h5⟩)
   have hle : len0 <= 9223372036854775807 := by unfold maxLen at hm; omega
   refine ⟨some a, (List.range len0).map Y, cap0, by simp, ?_, by simpa using hl, .inr ⟨(List.range (m - len0)).map fun j => D (len0 + j), hx1.trans ?_⟩, ?_⟩
   . refine ⟨rfl, by simpa using hle, fun _ => ⟨a, rfl, fun j p hj => ?_⟩⟩
     obtain ⟨hjl, hjp⟩ := zpN.1 hj; have hjn : j < len0 := by simpa using hjl
     have hp : Y j = p := by simpa using hjp
     obtain ⟨cs, h1, h2, _, _⟩ := hY j hjn; rw [hp] at h2; obtain ⟨_, hlen, hcell⟩ := World.cells?_some h1; refine ⟨cs, hlen, h2, fun i u hu => ?_⟩
     have hi : i < K.sz := by rw [<- hlen]; exact (zpN.1 hu).1
     have := hcell i hi; rw [hu] at this; rw [<- this, zio]
   . congr 1
     rw [List.map_map]; refine List.map_congr_left fun i hi => ?_
     obtain ⟨_, _, _, h3, _⟩ := hY i (List.mem_range.1 hi); exact h3
   . intro y hy
     obtain ⟨i, hi, rfl⟩ := zqT.1 hy; obtain ⟨_, _, _, _, h4⟩ := hY i (List.mem_range.1 hi); exact h4
theorem RowD.bulk {E : α -> DataW H} {l : List α} {d : DataW H} (h : RowD E l d) (wt : α -> Nat) (hw : ∀ y, wt y + 1 <= Rows.uptoBulk (E y)) : (l.map wt).sum + l.length <= Rows.uptoBulk d := by
 have key : ∀ r : List α, (r.map wt).sum + r.length <= Rows.uptoBulkAll (r.map E) := by
  intro r; induction r with
  | nil => simp [Rows.uptoBulkAll]
  | cons y r ih =>
   have := hw y; simp only [List.map_cons, List.sum_cons, List.length_cons, Rows.uptoBulkAll]; omega
 rcases h with ⟨rfl, rfl⟩ | ⟨sp, rfl⟩
 . simp
 . have := key l
   simp only [Rows.uptoBulk]; omega
end
instance : Inhabited S34 := ⟨z34⟩
instance : Inhabited S77 := ⟨z77⟩
def eVal {H : Type} (y : S34) : DataW H := .agg [.lit (.bool y.f0), .lit (.string y.f1.data.toList)]
theorem zmW {cs : List Value} (h : cs.length = 2) : ∃ a b, cs = [a, b] := by
 match cs, h with
 | [a, b], _ => exact ⟨a, b, rfl⟩
theorem open_vals {H : Type} {enc : TypeId × Value -> H} {W : World} {base : Nat} {held : Bool} {v : Value} {d : DataW H} {ps : List MemPlace} (hv : ∃ a len cap, v = Value.slice a len cap)
 (h : DataW.Trod enc zp0 W base (fun _ => true) held 25 v d ps) :
 ∃ (a : Option Addr) (l : List S34) (c : Nat), v = .slice a l.length c /\ Kd.C k34 W a l.length l /\ l.length <= c /\ RowD (eVal (H := H)) l d /\ ∀ y ∈ l, y.f1.size <= maxLen :=
 zln k34 eVal (fun y => y.f1.size <= maxLen) Tryz.underlying25 (by kernel_rfl) (fun n cs x p hl hx => by
  obtain ⟨y0, y1, m, h1, _, h2, h3⟩ := trod_struct2 Tryz.underlying34 hx; obtain ⟨ca, cb, rfl⟩ := zmW hl; have c1 : Tryz.prog.cellsOf 4 = 1 := by kernel_rfl
  have c2 : Tryz.prog.cellsOf 9 = 1 := by kernel_rfl
  simp only [c1, c2, zqv, zqC, List.take_succ_cons, List.take_zero] at h2 h3; obtain ⟨b, e1, e2⟩ := DataW.trod_bool Tryz.underlying4 h2; obtain ⟨s, e3, e4, e5⟩ := DataW.trod_string Tryz.underlying9 h3; refine ⟨⟨b, s⟩, ?_, ?_, e5⟩
  . cases e1; cases e3
    exact zeE W ⟨b, s⟩
  . rw [(Prod.mk.inj h1).1, e2, e4]
    rfl) hv h
theorem bulk_val {H : Type} (y : S34) : y.f1.size + 1 <= Rows.uptoBulk (eVal (H := H) y) := by
 have := zp7 y.f1; simp only [eVal, Rows.uptoBulk, Rows.uptoBulkAll]; omega
theorem bulk_part {H : Type} {d : DataW H} {l : List (DataW H)} (h : d ∈ l) (hB : Rows.uptoSmall H l = true) : Rows.uptoBulk d <= 1048576 := by
 have hB2 : Rows.uptoBulkAll l <= 1048576 := by simpa [Rows.uptoSmall] using hB
 clear hB; induction l with
 | nil => cases h
 | cons x r ih =>
  simp only [Rows.uptoBulkAll] at hB2; rcases zqH.1 h with rfl | h
  . omega
  . exact ih h (by omega)
theorem bulk_text {H : Type} {a : ByteArray} (h : Rows.uptoBulk (DataW.lit (H := H) (.string a.data.toList)) <= 1048576) : a.size + 1 <= 1048576 := by
 have := zp7 a; simp only [Rows.uptoBulk] at h; omega
section
variable {H : Type} {enc : TypeId × Value -> H} {W : World} {α : Type}
def RowP (l : List α) (d : DataW H) : Prop := (d = .nil /\ l = []) \/ ∃ ds sp, d = .slice ds sp /\ ds.length = l.length
def SizedBy (P : Program) (t : TypeId) (d : DataW H) : Prop := ∀ n ∈ d.weights P t, n <= reachBytes
theorem zht {P : Program} {e : TypeId} {n : Nat} {d : DataW H} (hn : n ∈ d.weights P e) : ∀ ds : List (DataW H), d ∈ ds -> n ∈ DataW.weightsAll P e ds
 | [], h => by cases h
 | x :: r, h => by
  rw [DataW.weightsAll, List.mem_append]; rcases zqH.1 h with rfl | h
  . exact .inl hn
  . exact .inr (zht hn r h)
theorem SizedBy.elems {P : Program} {t e : TypeId} {ds sp : List (DataW H)} (hu : P.underlying t = some (.slice e)) (h : SizedBy P t (.slice ds sp)) : ds.length * P.bytesOf e <= reachBytes /\ ∀ d ∈ ds, SizedBy P e d := by
 unfold SizedBy at h; simp only [DataW.weights, hu] at h; refine ⟨zpy (zpK _ (Nat.le_add_right _ _)) (h _ List.mem_cons_self), fun d hd n hn => ?_⟩
 exact h n (List.mem_cons_of_mem _ (List.mem_append_left _ (zht hn ds hd)))
theorem SizedBy.part {P : Program} {t : TypeId} {fs : Array Field} {ds : List (DataW H)} (hu : P.underlying t = some (.struct fs)) (h : SizedBy P t (.agg ds)) {j : Nat} {t' : TypeId} {d : DataW H} (ht : (fs.toList.map (·.type))[j]? = some t') (hd : ds[j]? = some d) : SizedBy P t' d := fun n hn => by
 refine h n ?_; simp only [DataW.weights, hu]; exact DataW.weights_mem_each ht hd n hn
theorem zkC [Inhabited α] (K : Kd α) (good good2 : α -> Prop) {P : Program} {base fuel : Nat} {held : Bool} {t e : TypeId} {cs0 : List Value} {x0 : DataW H × List MemPlace}
 (ht : P.underlying t = some (.slice e)) (hce : P.cellsOf e = K.sz)
 (hel : ∀ n cs x, cs.length = K.sz -> DataW.trod enc P W base (fun _ => true) held n e cs = some x -> ∃ y : α, K.K W y cs /\ good y /\ (SizedBy P e x.1 -> good2 y))
 (h : DataW.trod enc P W base (fun _ => true) held fuel t cs0 = some x0) :
 ∃ (a : Option Addr) (l : List α) (c : Nat), cs0 = [.slice a l.length c] /\ K.C W a l.length l /\ l.length <= c /\ RowP l x0.1 /\ (∀ y ∈ l, good y) /\ (SizedBy P t x0.1 -> l.length * P.bytesOf e <= reachBytes /\ ∀ y ∈ l, good2 y) := by
 rcases open_slice ht h with ⟨hcs, hx⟩ | ⟨a, len, cap, m, n, D, Pl, hcs, hb, hl, hm, hmm, hx, hall⟩
 . exact ⟨none, [], 0, hcs, ⟨rfl, by simp, fun h => by simp at h⟩, zps _, .inl ⟨congrArg Prod.fst hx, rfl⟩, fun y hy => (by cases hy), fun _ => ⟨by simp, fun y hy => (by cases hy)⟩⟩
 . have hlm : len <= m := by rw [hmm]; simp; omega
   obtain ⟨Y, hY⟩ := choose_lt (α := α) (n := len) (p := fun i y => ∃ cs, W.cells? base (a.add (i * K.sz)) K.sz = some cs /\ K.K W y cs /\ good y /\ (SizedBy P e (D i) -> good2 y)) (fun i hi => by
    obtain ⟨cs, h1, h2⟩ := hall i (by omega)
    rw [hce] at h1; obtain ⟨_, hlen, _⟩ := World.cells?_some h1; obtain ⟨y, h3, h5, h6⟩ := hel n cs _ hlen h2; exact ⟨y, cs, h1, h3, h5, h6⟩)
   have hle : len <= 9223372036854775807 := by unfold maxLen at hm; omega
   refine ⟨some a, (List.range len).map Y, cap, by simpa using hcs, ?_, by simpa using hl, .inr ⟨_, _, congrArg Prod.fst hx, by simp⟩, ?_, ?_⟩
   . refine ⟨rfl, by simpa using hle, fun _ => ⟨a, rfl, fun j p hj => ?_⟩⟩
     obtain ⟨hjl, hjp⟩ := zpN.1 hj; have hjn : j < len := by simpa using hjl
     have hp : Y j = p := by simpa using hjp
     obtain ⟨cs, h1, h2, _, _⟩ := hY j hjn; rw [hp] at h2; obtain ⟨_, hlen, hcell⟩ := World.cells?_some h1; refine ⟨cs, hlen, h2, fun i u hu => ?_⟩
     have hi : i < K.sz := by rw [<- hlen]; exact (zpN.1 hu).1
     have := hcell i hi; rw [hu] at this; rw [<- this, zio]
   . intro y hy
     obtain ⟨i, hi, rfl⟩ := zqT.1 hy; obtain ⟨_, _, _, h4, _⟩ := hY i (List.mem_range.1 hi); exact h4
   . intro hs
     rw [congrArg Prod.fst hx] at hs; obtain ⟨q1, q2⟩ := SizedBy.elems ht hs; refine ⟨by simpa using q1, fun y hy => ?_⟩
     obtain ⟨i, hi, rfl⟩ := zqT.1 hy; obtain ⟨_, _, _, _, h5⟩ := hY i (List.mem_range.1 hi); exact h5 (q2 _ (List.mem_map_of_mem hi))
theorem zmI {P : Program} {w : World} {base : Nat} {spare : Nat -> Bool} {held : Bool} {t : TypeId} {f0 f1 f2 f3 f4 : Field} {fuel : Nat} {cs : List Value} {x : DataW H × List MemPlace} (ht : P.underlying t = some (.struct #[f0, f1, f2, f3, f4])) (h : DataW.trod enc P w base spare held fuel t cs = some x) :
 ∃ y0 y1 y2 y3 y4 n, cs.length = P.cellsOf t /\ x.1 = .agg [y0.1, y1.1, y2.1, y3.1, y4.1] /\ DataW.trod enc P w base spare held n f0.type ((cs.drop f0.offset).take (P.cellsOf f0.type)) = some y0 /\
  DataW.trod enc P w base spare held n f1.type ((cs.drop f1.offset).take (P.cellsOf f1.type)) = some y1 /\ DataW.trod enc P w base spare held n f2.type ((cs.drop f2.offset).take (P.cellsOf f2.type)) = some y2 /\
  DataW.trod enc P w base spare held n f3.type ((cs.drop f3.offset).take (P.cellsOf f3.type)) = some y3 /\ DataW.trod enc P w base spare held n f4.type ((cs.drop f4.offset).take (P.cellsOf f4.type)) = some y4 := by
 obtain ⟨xs, n, _, rfl, hl, hlen, hf⟩ := DataW.trod_struct ht h; match xs, hlen with
 | [y0, y1, y2, y3, y4], _ => exact ⟨y0, y1, y2, y3, y4, n, hl, by simp, by simpa using hf 0 f0 rfl, by simpa using hf 1 f1 rfl, by simpa using hf 2 f2 rfl, by simpa using hf 3 f3 rfl, by simpa using hf 4 f4 rfl⟩
theorem znA {cs : List Value} (h : cs.length = 5) : ∃ a b c d e, cs = [a, b, c, d, e] := by
 match cs, h with
 | [a, b, c, d, e], _ => exact ⟨a, b, c, d, e, rfl⟩
end
instance : Inhabited S24 := ⟨z24⟩
instance : Inhabited S45 := ⟨z45⟩
structure zhZ (y : S24) : Prop where
 out : y.f0.size <= maxLen
 op : -9223372036854775808 <= y.f1 /\ y.f1 <= 9223372036854775807
 args : ∀ s ∈ y.f2, s.size <= maxLen
 lits : ∀ s ∈ y.f3, s.size <= maxLen
 num : -9223372036854775808 <= y.f4 /\ y.f4 <= 9223372036854775807
structure zf3 (y : S24) : Prop where
 out : y.f0.size <= 140737488351232
 args : y.f2.length * 16 <= 140737488351232
 lits : y.f3.length * 16 <= 140737488351232
 argz : ∀ s ∈ y.f2, s.size <= 140737488351232
 litz : ∀ s ∈ y.f3, s.size <= 140737488351232
section
variable {H : Type} {enc : TypeId × Value -> H} {W : World} {base fuel : Nat} {held : Bool}
theorem by16 : Tryz.prog.bytesOf 9 = 16 := by kernel_rfl
theorem zg2 {P : Program} {t : TypeId} {s : ByteArray} {x : DataW H × List MemPlace} (hx : x = (.lit (.string s.data.toList), [])) (hs : SizedBy P t x.1) : s.size <= 140737488351232 := by
 rw [hx] at hs; have := hs s.data.toList.length (by simp [DataW.weights])
 rwa [Array.length_toList] at this
theorem zg6 {cs : List Value} {x : DataW H × List MemPlace} (h : DataW.trod enc zp0 W base (fun _ => true) held fuel 22 cs = some x) :
 ∃ (a : Option Addr) (l : List ByteArray) (c : Nat), cs = [.slice a l.length c] /\ Kd.C zp6 W a l.length l /\ l.length <= c /\ RowP l x.1 /\ (∀ y ∈ l, y.size <= maxLen) /\ (SizedBy zp0 22 x.1 -> l.length * 16 <= 140737488351232 /\ ∀ y ∈ l, y.size <= 140737488351232) := by
 obtain ⟨a, l, c, h1, h2, h3, h4, h5, h6⟩ := zkC zp6 (fun y => y.size <= maxLen) (fun y => y.size <= 140737488351232) Tryz.underlying22 (by kernel_rfl) (fun n cs x _ hx => by
  obtain ⟨s, h1, h2, h3⟩ := DataW.trod_string Tryz.underlying9 (x := x) hx; exact ⟨s, h1, h3, fun hs => zg2 h2 hs⟩) h
 refine ⟨a, l, c, h1, h2, h3, h4, h5, fun hs => ?_⟩
 have := h6 hs; rwa [by16] at this
theorem zpd {cs : List Value} {x : DataW H × List MemPlace} (hl : cs.length = 5) (hx : DataW.trod enc zp0 W base (fun _ => true) held fuel 24 cs = some x) : ∃ y, k24.K W y cs /\ zhZ y /\ (SizedBy zp0 24 x.1 -> zf3 y) := by
 obtain ⟨y0, y1, y2, y3, y4, n, _, hx1, h0, h1, h2, h3, h4⟩ := zmI Tryz.underlying24 hx; obtain ⟨ca, cb, cc, cd, ce, rfl⟩ := znA hl; have c1 : Tryz.prog.cellsOf 3 = 1 := by kernel_rfl
 have c2 : Tryz.prog.cellsOf 9 = 1 := by kernel_rfl
 have c3 : Tryz.prog.cellsOf 22 = 1 := by kernel_rfl
 simp only [c1, c2, c3, zqv, zqC, List.take_succ_cons, List.take_zero] at h0 h1 h2 h3 h4; obtain ⟨s, e1, d1, g1⟩ := DataW.trod_string Tryz.underlying9 h0; obtain ⟨b, e2, _, g2⟩ := DataW.trod_int Tryz.underlying3 h1; obtain ⟨a3, l3, k3, e3, C3, n3, _, g3, z3⟩ := zg6 h2; obtain ⟨a4, l4, k4, e4, C4, n4, _, g4, z4⟩ := zg6 h3; obtain ⟨b5, e5, _, g5⟩ := DataW.trod_int Tryz.underlying3 h4; cases e1; cases e2; cases e3; cases e4; cases e5
 refine ⟨⟨s, b, l3, l4, b5⟩, zek W ⟨s, b, l3, l4, b5⟩ n3 C3 n4 C4, ⟨g1, bounds_i64 g2, g3, g4, bounds_i64 g5⟩, fun hs => ?_⟩
 rw [hx1] at hs; have u := Tryz.underlying24; obtain ⟨q3, r3⟩ := z3 (SizedBy.part u hs (j := 2) rfl rfl); obtain ⟨q4, r4⟩ := z4 (SizedBy.part u hs (j := 3) rfl rfl); exact ⟨zg2 d1 (SizedBy.part u hs (j := 0) rfl rfl), q3, q4, r3, r4⟩
theorem sizedBy {P : Program} {ts : List TypeId} {ds : List (DataW H)} {j : Nat} {t : TypeId} {d : DataW H} (hsz : (DataW.weightsEach P ts ds).all (· <= reachBytes) = true) (ht : ts[j]? = some t) (hj : ds[j]? = some d) : SizedBy P t d := fun n hn => by
 have := List.all_eq_true.1 hsz n (DataW.weights_mem_each ht hj n hn); simpa using this
end
end X
namespace X
open Go.RowKit Go.Maps YtdpgdnpddndeoaaGreatDoorW.PrintWords YtdpgdnpddndeoaaGreatDoorW.PrintMore YtdpgdnpddndeoaaGreatDoorW.PrintLast YtdpgdnpddndeoaaGreatDoor.Pb
theorem zok (l : List SVal) : (zcG l).length = min 10 l.length := by unfold zcG; rw [zp9, zpD]
def shipwrightlaw7_StepFail.f (x : zar) (_ : List SVal) (_ : Int) : Option Bool := if x.f2.length * 16 <= 140737488355328 /\ x.f3.length * 16 <= 140737488355328 then some true else none
end X
namespace X
open Go.RowKit Go.Maps YtdpgdnpddndeoaaGreatDoorW.PrintWords YtdpgdnpddndeoaaGreatDoorW.PrintMore YtdpgdnpddndeoaaGreatDoorW.PrintLast
theorem zou (s : ByteArray) : zax s = (zbk s.data.toList [] false).map mk := by unfold zax; rw [zhJ]
theorem zen (s : ByteArray) (w : World) (hs : s.size <= 4194304) :
 Calls zp0 24 #[.string s] w fun e w' => ∃ v, e = .returned v /\ RS w' w.heap.size v (zax s) /\ Below w.heap.size w w' := by
 have HS := zpo (zou s); generalize zax s = L at HS |-; go_enter Tryz.func24, Tryz.ntmps24
 go_wp2_with fail; go_loopg [3, 4, 5, 6] s.size (fun gg s3 s4 s5 s6 wr => ∃ (kk : Nat) (l : List ByteArray) (t : ByteArray) (i : Bool), kk <= s.size /\ s.size - kk <= gg /\ s6 = .int .i64 kk /\ s5 = .bool i /\ s4 = .string t /\ t.size <= kk /\ l.length <= kk /\ Aside0 (L = l ++ (zbk (s.data.toList.drop kk) t.data.toList i).map mk) /\ Aside0 (RS wr w.heap.size s3 l) /\ Aside0 (Below w.heap.size w wr))
 case atStart => exact ⟨0, [], ⟨#[]⟩, false, zqf _, by omega, rfl, rfl, rfl, zqf _, zqf _, ⟨HS.out⟩, ⟨Kd.R_nil _ _ _ _ _⟩, ⟨zpr _ _⟩⟩
 case round =>
  obtain ⟨kk, l, t, i, hkk, hgk, rfl, rfl, rfl, ht, hl, HL, HR, HW⟩ := hrel; by_cases hlt : kk < s.size
  . have hltz : (kk : Int) < (s.size : Int) := by omega
    have hdrop : s.data.toList.drop kk = s[kk] :: s.data.toList.drop (kk + 1) := by rw [List.drop_eq_getElem_cons (by rw [<- zp7]; exact hlt)]; rfl
    by_cases h10 : s[kk] = 10
    . have hd : ((s[kk].toNat : Int) == 10) = true := by rw [h10]; rfl
      have HL2 : Hid (L = (l ++ [t]) ++ (zbk (s.data.toList.drop (kk + 1)) (⟨#[]⟩ : ByteArray).data.toList false).map mk) := by
       show _ = _
       rw [HL.out, hdrop]; rw [zg4, if_pos h10, List.map_cons, zbh, zqG]; rfl
      clear hdrop h10; go_wp2_with (first | ((with_reducible refine zaD (b := .append) (xs := #[.tmp 17, .tmp 19]) rfl ?_); at_builtin; refine Kd.R_append zp6 (w0 := w) w.heap.size rfl (.tmp 17) (.tmp 19) 22 9 (.string ⟨#[]⟩) 16 rfl Tryz.underlying22 zbf rfl (by decide) (by decide) u3 l t [.string t] (fun _ => True) (fun k_ => True /\ some k_ ≠ u3.ownBlock) rfl rfl rfl (fun _ hk => hk) (fun _ _ => trivial) HR.out HW.out HW.out.size ?aL ?_; (case aL => omega); intro v1 w4 ho hb hg hat; have HO4 := zpo ho; have HB4 := zpo hb; clear ho hb hg hat))
      go_roundg (s.size - (kk + 1))
      case measure => omega
      case rel => exact ⟨kk + 1, l ++ [t], ⟨#[]⟩, false, by omega, by omega, by first | rfl | go_num, rfl, rfl, zqf _, by rw [zpF, zpG]; omega, ⟨HL2.out⟩, ⟨HO4.out⟩, ⟨HB4.out⟩⟩
    . have hd : ((s[kk].toNat : Int) == 10) = false := by
       simp only [beq_eq_false_iff_ne, ne_eq]; intro e; apply h10
       apply UInt8.toNat_inj.1
       show s[kk].toNat = 10
       omega
      have hx : (s.extract kk (kk + 1)).data.toList = [s[kk]] := by
       have e : (s.extract kk (kk + 1)).data.toList = (s.data.toList.drop kk).take 1 := by simp [ByteArray.data_extract]
       rw [e, hdrop]; rfl
      have hxz : (s.extract kk (kk + 1)).size = 1 := by rw [zp7, hx]; rfl
      have HL2 : Hid (L = l ++ (zbk (s.data.toList.drop (kk + 1)) (t ++ s.extract kk (kk + 1)).data.toList true).map mk) := by
       show _ = _
       rw [HL.out, hdrop, zg4, if_neg h10, data_append, hx]
      have hb0 : (0 : Int) <= (kk : Int) := by omega
      have hb1 : (kk : Int) <= (kk : Int) + 1 := by omega
      have hb2 : (kk : Int) + 1 <= (s.size : Int) := by omega
      have ho : ¬ 9223372036854775807 < t.size + (s.extract kk (kk + 1)).size := by omega
      clear hdrop h10 hx; go_wp2_with fail; go_roundg (s.size - (kk + 1))
      case measure => omega
      case rel => exact ⟨kk + 1, l, t ++ s.extract kk (kk + 1), true, by omega, by omega, by first | rfl | go_num, rfl, rfl, by rw [ByteArray.size_append]; omega, by omega, ⟨HL2.out⟩, ⟨HR.out⟩, ⟨HW.out⟩⟩
  . have hltz : ¬ (kk : Int) < (s.size : Int) := by omega
    obtain rfl : kk = s.size := by omega
    have hL := HL.out; rw [List.drop_of_length_le (by rw [<- zp7]; exact zps _)] at hL
    cases i with
    | true =>
     have HL2 : Hid (L = l ++ [t]) := by show _ = _; rw [hL]; unfold zbk; rw [if_pos rfl, List.map_singleton, zbh]
     clear hL; go_wp2_with (first | ((with_reducible refine zaD (b := .append) (xs := #[.tmp 29, .tmp 31]) rfl ?_); at_builtin; refine Kd.R_append zp6 (w0 := w) w.heap.size rfl (.tmp 29) (.tmp 31) 22 9 (.string ⟨#[]⟩) 16 rfl Tryz.underlying22 zbf rfl (by decide) (by decide) u3 l t [.string t] (fun _ => True) (fun k_ => True /\ some k_ ≠ u3.ownBlock) rfl rfl rfl (fun _ hk => hk) (fun _ _ => trivial) HR.out HW.out HW.out.size ?aL ?_; (case aL => omega); intro v1 w4 ho hb hg hat; have HO4 := zpo ho; have HB4 := zpo hb; clear ho hb hg hat))
     go_ret
     exact ⟨_, rfl, by rw [HL2.out]; exact HO4.out, HB4.out⟩
    | false =>
     have HL2 : Hid (L = l) := by show _ = _; rw [hL]; simp [zbk]
     clear hL; go_wp2_with fail; go_ret
     exact ⟨_, rfl, by rw [HL2.out]; exact HR.out, HW.out⟩
theorem ziO (A0 : Option Addr) (c0 : Nat) (l0 : List ByteArray) (w : World) (hr0 : Kd.C zp6 w A0 l0.length l0) (hs : (zaC (zab l0)).length <= 140737488355328) :
 Calls zp0 88 #[.slice A0 l0.length c0] w fun e w' => e = .returned (.string (mk (zaC (zab l0)))) /\ w' = w := by
 have hlen : l0.length <= 9223372036854775807 := hr0.2.1; obtain ⟨r, hr⟩ : ∃ r, r = mk (zaC (zab l0)) := ⟨_, rfl⟩; rw [<- hr]; have HR := zpo hr; have HS : Hid ((zaC (zab l0)).length <= 140737488355328) := hs; have HC : Hid (l0 = [] \/ ∃ b o, A0 = some ⟨b, o, none⟩ /\ b < w.heap.size /\ ∀ j, j < l0.length -> w.cell? ⟨b, o + j, none⟩ = some (.string (l0.getD j zp1))) := zaJ hr0; clear hs hr hr0; go_enter Tryz.func88, Tryz.ntmps88
 go_wp2_with fail; go_loopg [3, 4] l0.length (fun gg s3 s4 wr => ∃ kk : Nat, kk <= l0.length /\ l0.length - kk <= gg /\ s4 = .int .i64 kk /\ s3 = .string (mk (zaC ((zab l0).take kk))) /\ wr = w)
 case atStart => exact ⟨0, zqf _, by omega, rfl, rfl, rfl⟩
 case round =>
  obtain ⟨kk, hkk, hgk, rfl, rfl, rfl⟩ := hrel; by_cases hlt : kk < l0.length
  . have hltz : (kk : Int) < (l0.length : Int) := by omega
    obtain ⟨y, hy⟩ : ∃ y, y = l0.getD kk zp1 := ⟨_, rfl⟩; rcases HC.out with h0 | ⟨b, o, rfl, hb, hcell⟩
    . exfalso; rw [h0] at hlt; simp at hlt
    have hx : wr.cell? ⟨b, o + kk, none⟩ = some (.string y) := by rw [hy]; exact hcell kk hlt
    have hk : kk < (zab l0).length := by rw [zaL]; exact hlt
    have hyk : (zab l0)[kk] = y.data.toList := by rw [zce l0 kk hlt, hy]; simp [zpw, zpv hlt]
    have hput : zaC ((zab l0).take (kk + 1)) = zaC ((zab l0).take kk) ++ (y.data.toList ++ [10]) := by rw [zhF _ kk hk, hyk]
    have hle : (zaC ((zab l0).take kk)).length + (y.data.toList ++ [10]).length <= 140737488355328 := by
     have := zhp (zab l0) (kk + 1); rw [hput, zpF] at this; exact zpy this HS.out
    have hm : mk (zaC ((zab l0).take (kk + 1))) = mk (zaC ((zab l0).take kk)) ++ (y ++ ⟨#[10]⟩) := by
     rw [hput, <- zdq]; rw [<- zdq, zbh]; rfl
    have hz : (mk (zaC ((zab l0).take kk))).size + (y.size + 1) <= 140737488355328 := by
     rw [zaX]; have e := zp7 y; simp only [zpF, zpG] at hle; omega
    clear hcell hb hy hput hle hyk hk; generalize mk (zaC ((zab l0).take kk)) = u at hm hz |-; have HM := zpo hm; clear hm; have o1 : ¬ 9223372036854775807 < y.size + 1 := by omega
    have o2 : ¬ 9223372036854775807 < u.size + (y.size + 1) := by omega
    go_wp2_with fail; go_roundg (l0.length - (kk + 1))
    case measure => omega
    case rel => exact ⟨kk + 1, by omega, by omega, by first | rfl | go_num, by rw [HM.out], rfl⟩
  . have hltz : ¬ (kk : Int) < (l0.length : Int) := by omega
    obtain rfl : kk = l0.length := by omega
    have hu : mk (zaC ((zab l0).take l0.length)) = r := by rw [HR.out, zqS (by rw [zaL]; exact zps _)]
    rw [hu]; go_wp2_with fail; go_ret
    exact ⟨rfl, rfl⟩
theorem znF (s t : zaa) (k : Nat) : ((List.range (k + 1)).any fun i => (s.drop i).take t.length == t) = (((List.range k).any fun i => (s.drop i).take t.length == t) || ((s.drop k).take t.length == t)) := by
 rw [List.range_succ, List.any_append]; simp
theorem zi8 (s t : ByteArray) (k : Nat) : ((s.extract k (k + t.size)).toList == t.toList) = ((s.data.toList.drop k).take t.data.toList.length == t.data.toList) := by
 rw [za2, za2]; have : (s.extract k (k + t.size)).data.toList = (s.data.toList.drop k).take t.data.toList.length := by
  rw [<- zp7]; simp [ByteArray.data_extract]
 rw [this]
theorem znJ (s t : ByteArray) (w : World) (hs : s.size <= 4194304) (ht : t.size <= 4194304) :
 Calls zp0 89 #[.string s, .string t] w fun e w' => e = .returned (.bool (hasR s.data.toList t.data.toList)) /\ w' = w := by
 obtain ⟨T, hT⟩ : ∃ T, T = hasR s.data.toList t.data.toList := ⟨_, rfl⟩; rw [<- hT]; have HT : Hid (T = (List.range (s.size + 1 - t.size)).any fun i => (s.data.toList.drop i).take t.data.toList.length == t.data.toList) := by
  show _ = _
  rw [hT, zp7 s, zp7 t]; rfl
 clear hT; go_enter Tryz.func89, Tryz.ntmps89
 go_wp2_with fail; go_loopg [5] (s.size + 1) (fun gg s5 wr => ∃ kk : Nat, kk <= s.size + 1 - t.size /\ s.size + 1 - kk <= gg /\ s5 = .int .i64 kk /\ Aside0 (((List.range kk).any fun i => (s.data.toList.drop i).take t.data.toList.length == t.data.toList) = false) /\ wr = w)
 case atStart => exact ⟨0, zqf _, by omega, rfl, ⟨rfl⟩, rfl⟩
 case round =>
  obtain ⟨kk, hkk, hgk, rfl, HN, rfl⟩ := hrel; by_cases hlt : kk + t.size <= s.size
  . have hltz : (kk : Int) + (t.size : Int) <= (s.size : Int) := by omega
    have hst := znF s.data.toList t.data.toList kk; rw [HN.out, Bool.false_or, <- zi8] at hst; have HSt := zpo hst; clear hst; cases hd : ((s.extract kk (kk + t.size)).toList == t.toList) with
    | true =>
     have HF : Hid (T = true) := by
      show _ = _
      rw [HT.out]; have h1 := HSt.out.trans hd; obtain ⟨i, hi, hd2⟩ := List.any_eq_true.1 h1; exact List.any_eq_true.2 ⟨i, List.mem_range.2 (by have := List.mem_range.1 hi; omega), hd2⟩
     go_wp2_with fail; go_ret
     exact ⟨by rw [HF.out]; rfl, rfl⟩
    | false =>
     have HN2 := zpo (HSt.out.trans hd); go_wp2_with fail; go_roundg (s.size + 1 - (kk + 1))
     case measure => omega
     case rel => exact ⟨kk + 1, by omega, by omega, by first | rfl | go_num, ⟨HN2.out⟩, rfl⟩
  . have hltz : ¬ (kk : Int) + (t.size : Int) <= (s.size : Int) := by omega
    have HF : Hid (T = false) := by show _ = _; rw [HT.out, show s.size + 1 - t.size = kk by omega]; exact HN.out
    go_wp2_with fail; go_ret
    exact ⟨by rw [HF.out]; rfl, rfl⟩
theorem zlt (W : World) (v : Int) : (convert 90 9 (.slice (some ⟨W.heap.size, 0, none⟩) 1 1)).run zp0 (W.alloc (.cells #[.int .u8 v] 5)) = .ok (.string (mk [UInt8.ofNat v.toNat])) (W.alloc (.cells #[.int .u8 v] 5)) := by
 have h : ReadsInt (W.alloc (.cells #[.int .u8 v] 5)) .u8 (some ⟨W.heap.size, 0, none⟩) 1 [v] := by
  refine ⟨rfl, by decide, fun _ => ⟨_, rfl, fun j hj => ?_⟩⟩
  obtain rfl : j = 0 := by omega
  rw [zeh]; exact (zaf (heap_alloc_new W (.cells #[.int .u8 v] 5)) 0).trans rfl
 exact znB Tryz.underlying90 Tryz.underlying5 Tryz.underlying9 h
theorem zi1 (m : Nat) (h : m < 10) : Lib.decDigits m = [UInt8.ofNat (48 + m)] := by
 rw [Lib.decDigits, dif_pos h]
theorem zk8 (m : Nat) (h : ¬ m < 10) : Lib.decDigits m = Lib.decDigits (m / 10) ++ [UInt8.ofNat (48 + m % 10)] := by
 conv => lhs; rw [Lib.decDigits, dif_neg h]
theorem zfe (m : Nat) (h : m < 10) (w : World) : Calls zp0 29 #[.int .i64 m] w fun e w' => e = .returned (.string (mk (Lib.decDigits m))) /\ Below w.heap.size w w' := by
 have hm1 : max (m : Int) 0 = m := by omega
 have hcv := zlt w (48 + m); have hw : IntKind.u8.wrap (48 + (m : Int)) = 48 + m := by
  have : (48 + (m : Int)) % 256 = 48 + m := Int.emod_eq_of_lt (by omega) (by omega)
  simp [IntKind.wrap, IntKind.bits, IntKind.signed, this]
 have hn : (m : Int) < 10 := by omega
 have hd : mk [UInt8.ofNat (48 + (m : Int)).toNat] = mk (Lib.decDigits m) := by
  rw [zi1 m h, show (48 + (m : Int)).toNat = 48 + m by omega]
 rw [hd] at hcv; generalize mk (Lib.decDigits m) = t at hcv |-; clear hd; go_enter Tryz.func29, Tryz.ntmps29
 go_wp2_with fail; go_ret
 exact ⟨rfl, (zpr _ _).alloc (zps _) _⟩
theorem znO : ∀ (k : Nat) (_hk : k <= 30) (m : Nat) (w : World), m < 10 ^ (k + 1) -> m <= 9223372036854775807 -> Calls zp0 29 #[.int .i64 m] w fun e w' => e = .returned (.string (mk (Lib.decDigits m))) /\ Below w.heap.size w w' := by
 intro k; induction k with
 | zero => exact fun _ m w h _ => zfe m (by simpa using h) w
 | succ k ih =>
  intro hk m w h hx; by_cases h10 : m < 10
  . exact zfe m h10 w
  . have hq := fun W => ih (by omega) (m / 10) W (by rw [Nat.pow_succ] at h; omega) (by omega)
    have hr := fun W => zfe (m % 10) (by omega) W
    have hcat : mk (Lib.decDigits (m / 10)) ++ mk (Lib.decDigits (m % 10)) = mk (Lib.decDigits m) := by
     rw [zk8 m h10, zi1 (m % 10) (by omega), zdq]
    have hz1 : (mk (Lib.decDigits (m / 10))).size + (mk (Lib.decDigits (m % 10))).size <= 9223372036854775807 := by
     have e : ∀ n : Nat, n <= 922337203685477580 -> (mk (Lib.decDigits n)).size <= n + 1 := by
      intro n _; rw [zaX]; have := zgl (n : Int); unfold zaH at this; simpa using this
     have h1 := e (m / 10) (by omega)
     have h2 := e (m % 10) (by omega)
     omega
    have hd : Int.tdiv (m : Int) 10 = ((m / 10 : Nat) : Int) := by rw [Int.tdiv_eq_ediv_of_nonneg (by omega)]; omega
    have hm : Int.tmod (m : Int) 10 = ((m % 10 : Nat) : Int) := by rw [Int.tmod_eq_emod_of_nonneg (by omega)]; omega
    have hn : ¬ (m : Int) < 10 := by omega
    rw [<- hcat]; generalize mk (Lib.decDigits (m / 10)) = s1 at hq hz1 |-; generalize mk (Lib.decDigits (m % 10)) = s2 at hr hz1 |-; have hqb : (0 : Int) <= ((m / 10 : Nat) : Int) /\ ((m / 10 : Nat) : Int) <= 922337203685477580 := by omega
    have hrb : (0 : Int) <= ((m % 10 : Nat) : Int) /\ ((m % 10 : Nat) : Int) <= 9 := by omega
    generalize ((m / 10 : Nat) : Int) = q at hq hd hqb; generalize ((m % 10 : Nat) : Int) = r at hr hm hrb; have hqw : wrap64 q = q := by unfold wrap64; omega
    have ho1 : ¬ 9223372036854775807 < s1.size + s2.size := by omega
    clear ih h hcat hz1; go_enter Tryz.func29, Tryz.ntmps29
    go_wp2_with (first | (go_at_call_of 29 (Value.int .i64 q); refine (hq _).mono ?_; rintro e w1 ⟨rfl, hb1⟩) | (go_at_call_of 29 (Value.int .i64 r); refine (hr _).mono ?_; rintro e w2 ⟨rfl, hb2⟩))
    go_ret
    exact ⟨rfl, zac hb1 hb1.size hb2⟩
theorem zo3 (m : Nat) (hm : m <= 9223372036854775807) (w : World) : Calls zp0 29 #[.int .i64 m] w fun e w' => e = .returned (.string (mk (zaH (m : Int)))) /\ Below w.heap.size w w' := by
 have h := znO 19 (by decide) m w (by omega) hm
 unfold zaH; rwa [zqF]
theorem zcu {bs : List ByteArray} (h : bs.length = 1) : ∃ y, bs = [y] := by
 cases bs with
 | nil => simp at h
 | cons y r => cases r with
  | nil => exact ⟨y, rfl⟩
  | cons z s => simp at h
theorem zcC {w : World} {A : Option Addr} {y : ByteArray} {r : List ByteArray} (h : Kd.C zp6 w A (y :: r).length (y :: r)) : ∃ b o, A = some ⟨b, o, none⟩ /\ w.cell? ⟨b, o, none⟩ = some (.string y) := by
 rcases zaJ h with h0 | ⟨b, o, rfl, _, hcell⟩
 . cases h0
 . exact ⟨b, o, rfl, hcell 0 (by simp)⟩
def zbz (f0 : ByteArray) (op : Int) (B2 : Option Addr) (n2 c2 : Nat) (B3 : Option Addr) (n3 c3 : Nat) (f4 : Int) : Obj := .cells #[.string f0, .int .i64 op, .slice B2 n2 c2, .slice B3 n3 c3, .int .i64 f4] 24
theorem zkX (x : zar) (B2 : Option Addr) (c2 : Nat) (B3 : Option Addr) (c3 : Nat) (A : Option Addr) (c : Nat) (bs : List ByteArray) (w : World) (h3 : Kd.C zp6 w B3 x.f3.length x.f3) (hr : Kd.C zp6 w A bs.length bs) (hc : bs.length <= c)
 (hm : mayC (zag x) = true) (hn : bs.length = x.f2.length) (hsz : ∀ b ∈ bs, b.size <= 4194304) (hop : x.f1 = 1) :
 Calls zp0 60 #[.agg #[.string x.f0, .int .i64 x.f1, .slice B2 x.f2.length c2, .slice B3 x.f3.length c3, .int .i64 x.f4], .slice A bs.length c] w (IsOf (zau (zag x) (zab bs)) w) := by
 obtain ⟨fop, f1, f5, f6, f7, f8, fn, fl⟩ := zbc hm; have e1 : (zag x).op = 1 := hop; have e2 : (zag x).args = bs.length := hn.symm; rw [e1] at f1 f5 f6 f7 f8; rw [e2] at f1 f5 f6; obtain ⟨y, rfl⟩ := zcu (f1 (by omega) (by omega))
 have hy := hsz y (by simp)
 obtain ⟨b, o, rfl, p0⟩ := zcC hr; have HP := zpo p0; clear p0; have hM : zau (zag x) (zab [y]) = (y.data.toList, true) := by unfold zau; rw [e1]; rfl
 rw [hM]; clear hM; obtain ⟨f0, op, l2, l3, f4⟩ := x; dsimp only at *; subst hop; have hab := (zpr w.heap.size w).alloc (zps _) (zbz f0 1 B2 l2.length c2 B3 l3.length c3 f4); have HK := zpo (zak w (.cells #[.string f0, .int .i64 1, .slice B2 l2.length c2, .slice B3 l3.length c3, .int .i64 f4] 24)); have HB1 := zpo hab; have HR := zpo (zqO hr hab); have H3 := zpo (zqO h3 hab); unfold zbz at HB1 HR H3; clear hab h3 hr hm hn hsz fop f1 f5 f6 f7 f8 fn fl e1 e2; go_enter Tryz.func60, Tryz.ntmps60
 go_upto_region 1 with fail; generalize w.alloc (.cells #[.string f0, .int .i64 1, .slice B2 l2.length c2, .slice B3 l3.length c3, .int .i64 f4] 24) = w1 at HB1 HK HR H3 |-; have k1 := bc1 HK.out; have k3 := bc3 HK.out; have k4 := bc4 HK.out; have d2 : ((1 : Int) == 2) = false := by decide
 have d3 : ((1 : Int) == 3) = false := by decide
 have d4 : ((1 : Int) == 4) = false := by decide
 have d5 : ((1 : Int) == 5) = false := by decide
 have d6 : ((1 : Int) == 6) = false := by decide
 have d7 : ((1 : Int) == 7) = false := by decide
 have d8 : ((1 : Int) == 8) = false := by decide
 have d9 : ((1 : Int) == 9) = false := by decide
 have p1 := zad HB1.out HP.out; have hl : (0 : Int) < (([y] : List ByteArray).length : Int) := by simp
 go_wp2_with fail; go_ret2
 exact ⟨by rw [zbh]; rfl, HB1.out⟩
theorem zjQ (x : zar) (B2 : Option Addr) (c2 : Nat) (B3 : Option Addr) (c3 : Nat) (A : Option Addr) (c : Nat) (bs : List ByteArray) (w : World) (h3 : Kd.C zp6 w B3 x.f3.length x.f3) (hr : Kd.C zp6 w A bs.length bs) (hc : bs.length <= c)
 (hm : mayC (zag x) = true) (hn : bs.length = x.f2.length) (hsz : ∀ b ∈ bs, b.size <= 4194304) (hop : x.f1 = 2) :
 Calls zp0 60 #[.agg #[.string x.f0, .int .i64 x.f1, .slice B2 x.f2.length c2, .slice B3 x.f3.length c3, .int .i64 x.f4], .slice A bs.length c] w (IsOf (zau (zag x) (zab bs)) w) := by
 obtain ⟨fop, f1, f5, f6, f7, f8, fn, fl⟩ := zbc hm; have e1 : (zag x).op = 2 := hop; have e2 : (zag x).args = bs.length := hn.symm; rw [e1] at f1 f5 f6 f7 f8; rw [e2] at f1 f5 f6; obtain ⟨y, rfl⟩ := zcu (f1 (by omega) (by omega))
 have hy := hsz y (by simp)
 obtain ⟨b, o, rfl, p0⟩ := zcC hr; have HP := zpo p0; clear p0; have hM : zau (zag x) (zab [y]) = (y.data.toList, !(y.data.toList == [])) := by unfold zau; rw [e1]; rfl
 rw [hM]; clear hM; obtain ⟨f0, op, l2, l3, f4⟩ := x; dsimp only at *; subst hop; have hab := (zpr w.heap.size w).alloc (zps _) (zbz f0 2 B2 l2.length c2 B3 l3.length c3 f4); have HK := zpo (zak w (.cells #[.string f0, .int .i64 2, .slice B2 l2.length c2, .slice B3 l3.length c3, .int .i64 f4] 24)); have HB1 := zpo hab; have HR := zpo (zqO hr hab); have H3 := zpo (zqO h3 hab); unfold zbz at HB1 HR H3; clear hab h3 hr hm hn hsz fop f1 f5 f6 f7 f8 fn fl e1 e2; go_enter Tryz.func60, Tryz.ntmps60
 go_upto_region 1 with fail; generalize w.alloc (.cells #[.string f0, .int .i64 2, .slice B2 l2.length c2, .slice B3 l3.length c3, .int .i64 f4] 24) = w1 at HB1 HK HR H3 |-; have k1 := bc1 HK.out; have k3 := bc3 HK.out; have k4 := bc4 HK.out; have d2 : ((2 : Int) == 2) = true := by decide
 have p1 := zad HB1.out HP.out; have hl : (0 : Int) < (([y] : List ByteArray).length : Int) := by simp
 have hq : (y.toList != []) = !(y.data.toList == []) := by rw [za2]; rfl
 by_cases hy0 : y.toList = []
 . have dy : (y.toList == []) = true := by simp [hy0]
   have dz : (y.toList != []) = false := by simp [hy0]
   have hv : (y.data.toList == []) = true := by rw [<- za2]; exact dy
   have HV := zpo hv; clear hq hv; go_wp2_with fail; go_quiet (fail)
   go_wp2_with fail; go_ret2
   exact ⟨by rw [zbh, HV.out]; rfl, by first | exact HB1.out | exact zal HB1.out _⟩
 . have dy : (y.toList == []) = false := by simp [hy0]
   have dz : (y.toList != []) = true := by simp [hy0]
   have hv : (y.data.toList == []) = false := by rw [<- za2]; exact dy
   have HV := zpo hv; clear hq hv; go_wp2_with fail; go_quiet (fail)
   go_wp2_with fail; go_ret2
   exact ⟨by rw [zbh, HV.out]; rfl, by first | exact HB1.out | exact zal HB1.out _⟩
theorem zjA (x : zar) (B2 : Option Addr) (c2 : Nat) (B3 : Option Addr) (c3 : Nat) (A : Option Addr) (c : Nat) (bs : List ByteArray) (w : World) (h3 : Kd.C zp6 w B3 x.f3.length x.f3) (hr : Kd.C zp6 w A bs.length bs) (hc : bs.length <= c)
 (hm : mayC (zag x) = true) (hn : bs.length = x.f2.length) (hsz : ∀ b ∈ bs, b.size <= 4194304) (hop : x.f1 = 4) :
 Calls zp0 60 #[.agg #[.string x.f0, .int .i64 x.f1, .slice B2 x.f2.length c2, .slice B3 x.f3.length c3, .int .i64 x.f4], .slice A bs.length c] w (IsOf (zau (zag x) (zab bs)) w) := by
 obtain ⟨fop, f1, f5, f6, f7, f8, fn, fl⟩ := zbc hm; have e1 : (zag x).op = 4 := hop; have e2 : (zag x).args = bs.length := hn.symm; rw [e1] at f1 f5 f6 f7 f8; rw [e2] at f1 f5 f6; obtain ⟨y, rfl⟩ := zcu (f1 (by omega) (by omega))
 have hy := hsz y (by simp)
 obtain ⟨b, o, rfl, p0⟩ := zcC hr; have HP := zpo p0; clear p0; have hM : zau (zag x) (zab [y]) = (zaH ((zax y).length : Int) ++ [10], true) := by unfold zau; rw [e1]; unfold zax; rw [zp9]; rfl
 rw [hM]; have hLi := fun W => zen y W hy
 have hle : (zax y).length <= 4194304 := by unfold zax; rw [zp9]; exact zpy (zdU _) (by rw [<- zp7]; exact hy)
 clear hM; generalize zax y = L at hLi hle |-; obtain ⟨f0, op, l2, l3, f4⟩ := x; dsimp only at *; subst hop; have hab := (zpr w.heap.size w).alloc (zps _) (zbz f0 4 B2 l2.length c2 B3 l3.length c3 f4); have HK := zpo (zak w (.cells #[.string f0, .int .i64 4, .slice B2 l2.length c2, .slice B3 l3.length c3, .int .i64 f4] 24)); have HB1 := zpo hab; have HR := zpo (zqO hr hab); have H3 := zpo (zqO h3 hab); unfold zbz at HB1 HR H3; clear hab h3 hr hm hn hsz fop f1 f5 f6 f7 f8 fn fl e1 e2; go_enter Tryz.func60, Tryz.ntmps60
 go_upto_region 1 with fail; generalize w.alloc (.cells #[.string f0, .int .i64 4, .slice B2 l2.length c2, .slice B3 l3.length c3, .int .i64 f4] 24) = w1 at HB1 HK HR H3 |-; have k1 := bc1 HK.out; have k3 := bc3 HK.out; have k4 := bc4 HK.out; have d2 : ((4 : Int) == 2) = false := by decide
 have d3 : ((4 : Int) == 3) = false := by decide
 have d4 : ((4 : Int) == 4) = true := by decide
 have p1 := zad HB1.out HP.out; have hl : (0 : Int) < (([y] : List ByteArray).length : Int) := by simp
 have hN := fun W => zo3 L.length (by omega) W
 have hnz : (mk (zaH (L.length : Int))).size <= 100000000 := by
  rw [zaX]; have := zgl (L.length : Int); omega
 have HAp : Hid (mk (zaH (L.length : Int)) ++ ⟨#[10]⟩ = mk (zaH (L.length : Int) ++ [10])) := zdq _ [10]; have HN := zpo hN; generalize mk (zaH (L.length : Int)) = nv at HN HAp hnz; have ho : ¬ 9223372036854775807 < nv.size + 1 := by omega
 have HLi := zpo hLi; clear hLi hN hnz hy hle; go_wp2_with (first
  | (go_at_call 24; refine (HLi.out _).mono ?_; rintro e w2 ⟨v, rfl, hR, hb2⟩; obtain ⟨A2, n2, rfl, hcap, hC2⟩ := zql hR; have HB2 := zpo hb2; clear hcap hR hC2 hb2)
  | (go_at_call 29; refine (HN.out _).mono ?_; rintro e w3 ⟨rfl, hb3⟩; have HB3 := zpo hb3; clear hb3))
 go_ret2
 refine ⟨by rw [<- HAp.out]; rfl, ?_⟩
 exact zac (zac HB1.out HB1.out.size HB2.out) (zpy HB1.out.size HB2.out.size) HB3.out
theorem znG (x : zar) (B2 : Option Addr) (c2 : Nat) (B3 : Option Addr) (c3 : Nat) (A : Option Addr) (c : Nat) (bs : List ByteArray) (w : World) (h3 : Kd.C zp6 w B3 x.f3.length x.f3) (hr : Kd.C zp6 w A bs.length bs) (hc : bs.length <= c)
 (hm : mayC (zag x) = true) (hn : bs.length = x.f2.length) (hsz : ∀ b ∈ bs, b.size <= 4194304) (hop : x.f1 = 9) :
 Calls zp0 60 #[.agg #[.string x.f0, .int .i64 x.f1, .slice B2 x.f2.length c2, .slice B3 x.f3.length c3, .int .i64 x.f4], .slice A bs.length c] w (IsOf (zau (zag x) (zab bs)) w) := by
 obtain ⟨fop, f1, f5, f6, f7, f8, fn, fl⟩ := zbc hm; have e1 : (zag x).op = 9 := hop; have e2 : (zag x).args = bs.length := hn.symm; rw [e1] at f1 f5 f6 f7 f8; rw [e2] at f1 f5 f6; obtain ⟨y, rfl⟩ := zcu (f1 (by omega) (by omega))
 have hy := hsz y (by simp)
 obtain ⟨b, o, rfl, p0⟩ := zcC hr; have HP := zpo p0; clear p0; have hM : zau (zag x) (zab [y]) = (y.data.toList.take x.f4.toNat, true) := by unfold zau; rw [e1]; rfl
 rw [hM]; clear hM; have hf4 : 0 <= x.f4 /\ x.f4 <= 2000 := fn; obtain ⟨f0, op, l2, l3, f4⟩ := x; dsimp only at *; subst hop; have hab := (zpr w.heap.size w).alloc (zps _) (zbz f0 9 B2 l2.length c2 B3 l3.length c3 f4); have HK := zpo (zak w (.cells #[.string f0, .int .i64 9, .slice B2 l2.length c2, .slice B3 l3.length c3, .int .i64 f4] 24)); have HB1 := zpo hab; have HR := zpo (zqO hr hab); have H3 := zpo (zqO h3 hab); unfold zbz at HB1 HR H3; clear hab h3 hr hm hn hsz fop f1 f5 f6 f7 f8 fn fl e1 e2; go_enter Tryz.func60, Tryz.ntmps60
 go_upto_region 1 with fail; generalize w.alloc (.cells #[.string f0, .int .i64 9, .slice B2 l2.length c2, .slice B3 l3.length c3, .int .i64 f4] 24) = w1 at HB1 HK HR H3 |-; have k1 := bc1 HK.out; have k3 := bc3 HK.out; have k4 := bc4 HK.out; have d2 : ((9 : Int) == 2) = false := by decide
 have d3 : ((9 : Int) == 3) = false := by decide
 have d4 : ((9 : Int) == 4) = false := by decide
 have d5 : ((9 : Int) == 5) = false := by decide
 have d6 : ((9 : Int) == 6) = false := by decide
 have d7 : ((9 : Int) == 7) = false := by decide
 have d8 : ((9 : Int) == 8) = false := by decide
 have d9 : ((9 : Int) == 9) = true := by decide
 have p1 := zad HB1.out HP.out; have hl : (0 : Int) < (([y] : List ByteArray).length : Int) := by simp
 obtain ⟨n, rfl⟩ : ∃ n : Nat, f4 = (n : Int) := ⟨f4.toNat, by omega⟩
 have hn0 : n <= 2000 := by omega
 clear hf4; by_cases hmin : (y.size : Int) <= (n : Int)
 . have hz : min (y.size : Int) (n : Int) = (y.size : Int) := by omega
   have hv : mk (y.data.toList.take ((n : Int)).toNat) = y := by
    apply zbR
    rw [za9, zqF, zqS (by rw [<- zp7]; omega)]
   have HV := zpo hv; have hb0 : (0 : Int) <= (y.size : Int) := by omega
   clear hv; go_wp2_with fail; go_quiet (fail)
   go_wp2_with fail; go_ret2
   exact ⟨by rw [HV.out]; rfl, by first | exact HB1.out | exact zal HB1.out _⟩
 . have hz : min (y.size : Int) (n : Int) = (n : Int) := by omega
   have hv : mk (y.data.toList.take ((n : Int)).toNat) = y.extract 0 n := by
    rw [zd2, zqF, zqv, Nat.sub_zero]
   have HV := zpo hv; have hb0 : (0 : Int) <= (n : Int) := by omega
   have hb1 : (n : Int) <= (y.size : Int) := by omega
   clear hv; go_wp2_with fail; go_quiet (fail)
   go_wp2_with fail; go_ret2
   exact ⟨by rw [HV.out]; rfl, by first | exact HB1.out | exact zal HB1.out _⟩
theorem zow (x : zar) (B2 : Option Addr) (c2 : Nat) (B3 : Option Addr) (c3 : Nat) (A : Option Addr) (c : Nat) (bs : List ByteArray) (w : World) (h3 : Kd.C zp6 w B3 x.f3.length x.f3) (hr : Kd.C zp6 w A bs.length bs) (_hc : bs.length <= c)
 (hm : mayC (zag x) = true) (hn : bs.length = x.f2.length) (_hsz : ∀ b ∈ bs, b.size <= 4194304) (hop : x.f1 = 6) :
 Calls zp0 60 #[.agg #[.string x.f0, .int .i64 x.f1, .slice B2 x.f2.length c2, .slice B3 x.f3.length c3, .int .i64 x.f4], .slice A bs.length c] w (IsOf (zau (zag x) (zab bs)) w) := by
 obtain ⟨fop, f1, f5, f6, f7, f8, fn, fl⟩ := zbc hm; have e1 : (zag x).op = 6 := hop; have e2 : (zag x).args = bs.length := hn.symm; rw [e1] at f1 f5 f6 f7 f8; rw [e2] at f1 f5 f6; obtain ⟨f0, op, l2, l3, f4⟩ := x; dsimp only at *; subst hop; obtain ⟨z, hl3⟩ := zcu (show l3.length = 1 by have := (f6 rfl).2; unfold zag at this; simpa using this)
 have h4 := h3; rw [hl3] at h4; obtain ⟨b3, o3, rfl, q0⟩ := zcC h4; have hz : z.size <= 100 := by
  have := fl z.data.toList (by unfold zag; rw [hl3]; simp)
  rw [<- zp7] at this; exact this
 have HQ := zpo q0; have hl30 : (0 : Int) < (l3.length : Int) := by rw [hl3]; simp
 clear q0 h4; have hM : zau (zag ⟨f0, 6, l2, l3, f4⟩) (zab bs) = (z.data.toList, true) := by rw [hl3]; rfl
 rw [hM]; clear hM hl3 _hsz; have hab := (zpr w.heap.size w).alloc (zps _) (zbz f0 6 B2 l2.length c2 (some ⟨b3, o3, none⟩) l3.length c3 f4); have HK := zpo (zak w (.cells #[.string f0, .int .i64 6, .slice B2 l2.length c2, .slice (some ⟨b3, o3, none⟩) l3.length c3, .int .i64 f4] 24)); have HB1 := zpo hab; have HR := zpo (zqO hr hab); unfold zbz at HB1 HR; clear hab h3 hr hm hn fop f1 f5 f6 f7 f8 fn fl e1 e2; go_enter Tryz.func60, Tryz.ntmps60
 go_upto_region 1 with fail; generalize w.alloc (.cells #[.string f0, .int .i64 6, .slice B2 l2.length c2, .slice (some ⟨b3, o3, none⟩) l3.length c3, .int .i64 f4] 24) = w1 at HB1 HK HR |-; have k1 := bc1 HK.out; have k3 := bc3 HK.out; have q1 := zad HB1.out HQ.out; have d2 : ((6 : Int) == 2) = false := by decide
 have d3 : ((6 : Int) == 3) = false := by decide
 have d4 : ((6 : Int) == 4) = false := by decide
 have d5 : ((6 : Int) == 5) = false := by decide
 have d6 : ((6 : Int) == 6) = true := by decide
 go_wp2_with fail; go_ret2
 exact ⟨by rw [zbh]; rfl, HB1.out⟩
theorem zmx (l : List zaa) (k : Nat) (h : k < l.length) : (l.take (k + 1)).flatten = (l.take k).flatten ++ l[k] := by
 rw [zpU h, List.flatten_append]; simp
theorem zmm (x : zar) (B2 : Option Addr) (c2 : Nat) (B3 : Option Addr) (c3 : Nat) (A : Option Addr) (c : Nat) (bs : List ByteArray) (w : World) (h3 : Kd.C zp6 w B3 x.f3.length x.f3) (hr : Kd.C zp6 w A bs.length bs) (_hc : bs.length <= c)
 (hm : mayC (zag x) = true) (hn : bs.length = x.f2.length) (hsz : ∀ b ∈ bs, b.size <= 4194304) (hop : x.f1 = 5) :
 Calls zp0 60 #[.agg #[.string x.f0, .int .i64 x.f1, .slice B2 x.f2.length c2, .slice B3 x.f3.length c3, .int .i64 x.f4], .slice A bs.length c] w (IsOf (zau (zag x) (zab bs)) w) := by
 obtain ⟨fop, f1, f5, f6, f7, f8, fn, fl⟩ := zbc hm; have e1 : (zag x).op = 5 := hop; have e2 : (zag x).args = bs.length := hn.symm; rw [e1] at f1 f5 f6 f7 f8; rw [e2] at f1 f5 f6; obtain ⟨f0, op, l2, l3, f4⟩ := x; dsimp only at *; subst hop; have hb6 : bs.length <= 6 := f5 rfl; have hM : zau (zag ⟨f0, 5, l2, l3, f4⟩) (zab bs) = ((zab bs).flatten, true) := rfl; rw [hM]; clear hM; have HC := zpo (zaJ hr); have HSz := zpo hsz; obtain ⟨r, hrr⟩ : ∃ r, r = mk (zab bs).flatten := ⟨_, rfl⟩; have HRr := zpo hrr; clear hsz hrr; have hab := (zpr w.heap.size w).alloc (zps _) (zbz f0 5 B2 l2.length c2 B3 l3.length c3 f4); have HK := zpo (zak w (.cells #[.string f0, .int .i64 5, .slice B2 l2.length c2, .slice B3 l3.length c3, .int .i64 f4] 24)); have HB1 := zpo hab; have HR := zpo (zqO hr hab); unfold zbz at HB1 HR; clear hab h3 hr hm hn fop f1 f5 f6 f7 f8 fn fl e1 e2; go_enter Tryz.func60, Tryz.ntmps60
 go_upto_region 1 with fail; generalize w.alloc (.cells #[.string f0, .int .i64 5, .slice B2 l2.length c2, .slice B3 l3.length c3, .int .i64 f4] 24) = w1 at HB1 HK HR |-; have k1 := bc1 HK.out; have d2 : ((5 : Int) == 2) = false := by decide
 have d3 : ((5 : Int) == 3) = false := by decide
 have d4 : ((5 : Int) == 4) = false := by decide
 have d5 : ((5 : Int) == 5) = true := by decide
 go_wp2_with fail; go_loopg [10, 11] bs.length (fun gg s10 s11 wr => ∃ kk : Nat, kk <= bs.length /\ bs.length - kk <= gg /\ s11 = .int .i64 kk /\ s10 = .string (mk ((zab bs).take kk).flatten) /\ wr = w1)
 case atStart => exact ⟨0, zqf _, by omega, rfl, rfl, rfl⟩
 case round =>
  obtain ⟨kk, hkk, hgk, rfl, rfl, rfl⟩ := hrel; by_cases hlt : kk < bs.length
  . have hltz : (kk : Int) < (bs.length : Int) := by omega
    rcases HC.out with h0 | ⟨b, o, rfl, hb, hcell⟩
    . exfalso; rw [h0] at hlt; simp at hlt
    have hx := zad HB1.out (hcell kk hlt); have hk : kk < (zab bs).length := by rw [zaL]; exact hlt
    have hmem : bs.getD kk zp1 ∈ bs := by rw [zpw, zpv hlt]; exact List.getElem_mem hlt
    have hyz := HSz.out _ hmem; have hyk : (zab bs)[kk] = (bs.getD kk zp1).data.toList := by rw [zce bs kk hlt]; simp [zpw, zpv hlt]
    have hcat : mk ((zab bs).take (kk + 1)).flatten = mk ((zab bs).take kk).flatten ++ bs.getD kk zp1 := by
     rw [zmx _ kk hk, hyk, <- zdq, zbh]
    have hfl : (mk ((zab bs).take kk).flatten).size <= 25165824 := by
     rw [zaX]; have := zge ((zab bs).take kk) 4194304 (fun t ht => by
      have h1 := List.mem_of_mem_take ht; unfold zab at h1; obtain ⟨u, hu, rfl⟩ := zqT.1 h1; rw [<- zp7]; exact HSz.out u hu)
     rw [zpD, zaL] at this; have h6 : min kk bs.length <= 6 := by omega
     have := zpK 4194304 h6; omega
    generalize bs.getD kk zp1 = yy at hx hyz hcat; have HCat := zpo hcat; clear hcell hb hyk hk hmem hcat; generalize mk ((zab bs).take kk).flatten = u at hfl HCat |-; have ho : ¬ 9223372036854775807 < u.size + yy.size := by omega
    go_wp2_with fail; go_roundg (bs.length - (kk + 1))
    case measure => omega
    case rel => exact ⟨kk + 1, by omega, by omega, by first | rfl | go_num, by rw [HCat.out], rfl⟩
  . have hltz : ¬ (kk : Int) < (bs.length : Int) := by omega
    obtain rfl : kk = bs.length := by omega
    have hu : mk ((zab bs).take bs.length).flatten = r := by rw [HRr.out, zqS (by rw [zaL]; exact zps _)]
    rw [hu]; clear hu; go_wp2_with fail; go_ret2
    exact ⟨by rw [<- HRr.out]; rfl, HB1.out⟩
theorem zjl (x : zar) (B2 : Option Addr) (c2 : Nat) (B3 : Option Addr) (c3 : Nat) (A : Option Addr) (c : Nat) (bs : List ByteArray) (w : World) (h3 : Kd.C zp6 w B3 x.f3.length x.f3) (hr : Kd.C zp6 w A bs.length bs) (_hc : bs.length <= c)
 (hm : mayC (zag x) = true) (hn : bs.length = x.f2.length) (hsz : ∀ b ∈ bs, b.size <= 4194304) (hop : x.f1 = 7) :
 Calls zp0 60 #[.agg #[.string x.f0, .int .i64 x.f1, .slice B2 x.f2.length c2, .slice B3 x.f3.length c3, .int .i64 x.f4], .slice A bs.length c] w (IsOf (zau (zag x) (zab bs)) w) := by
 obtain ⟨fop, f1, f5, f6, f7, f8, fn, fl⟩ := zbc hm; have e1 : (zag x).op = 7 := hop; have e2 : (zag x).args = bs.length := hn.symm; rw [e1] at f1 f5 f6 f7 f8; rw [e2] at f1 f5 f6; obtain ⟨y, rfl⟩ := zcu (f1 (by omega) (by omega))
 have hy := hsz y (by simp)
 obtain ⟨b, o, rfl, p0⟩ := zcC hr; have HP := zpo p0; clear p0; obtain ⟨f0, op, l2, l3, f4⟩ := x; dsimp only at *; subst hop; obtain ⟨z, hl3⟩ := zcu (show l3.length = 1 by have := f7 rfl; unfold zag at this; simpa using this)
 have h4 := h3; rw [hl3] at h4; obtain ⟨b3, o3, rfl, q0⟩ := zcC h4; have hz : z.size <= 100 := by
  have := fl z.data.toList (by unfold zag; rw [hl3]; simp)
  rw [<- zp7] at this; exact this
 have HQ := zpo q0; have hl30 : (0 : Int) < (l3.length : Int) := by rw [hl3]; simp
 clear q0 h4; have hM : zau (zag ⟨f0, 7, l2, l3, f4⟩) (zab [y]) = (zaC (zab ((zax y).filter fun x => hasR x.data.toList z.data.toList)), true) := by
  rw [zeL fun x => hasR x z.data.toList]
  unfold zax; rw [zcH, hl3]; simp only [zk7]; rfl
 have hWb : (zaC (zab ((zax y).filter fun x => hasR x.data.toList z.data.toList))).length <= 140737488355328 := by
  rw [zeL fun x => hasR x z.data.toList]
  unfold zax; rw [zcH]; exact zeS y.data.toList _ (zqi _ _) (fun x hx => (List.mem_filter.1 hx).1) (by rw [<- zp7]; exact hy)
 rw [hM]; have hLi := fun W => zen y W hy
 have hle : (zax y).length <= 4194304 := by unfold zax; rw [zp9]; exact zpy (zdU _) (by rw [<- zp7]; exact hy)
 have hxs : ∀ x ∈ zax y, x.size <= 4194304 := by
  intro x hx; unfold zax at hx; obtain ⟨u, hu, rfl⟩ := zqT.1 hx; rw [zaX]; exact zpy ((zez y.data.toList).2 u hu) (by rw [<- zp7]; exact hy)
 clear hM hl3 hsz; generalize zax y = L at hLi hle hxs hWb |-; have HLi := zpo hLi; have HXs := zpo hxs; have HWb := zpo hWb; obtain ⟨pf, hpf⟩ : ∃ pf : ByteArray -> Bool, pf = fun x => hasR x.data.toList z.data.toList := ⟨_, rfl⟩
 rw [<- hpf] at HWb |-; have HPf : Hid (∀ x, hasR x.data.toList z.data.toList = pf x) := fun x => by rw [hpf]
 clear hLi hxs hWb hpf; have hab := (zpr w.heap.size w).alloc (zps _) (zbz f0 7 B2 l2.length c2 (some ⟨b3, o3, none⟩) l3.length c3 f4); have HK := zpo (zak w (.cells #[.string f0, .int .i64 7, .slice B2 l2.length c2, .slice (some ⟨b3, o3, none⟩) l3.length c3, .int .i64 f4] 24)); have HB1 := zpo hab; have HR := zpo (zqO hr hab); unfold zbz at HB1 HR; clear hab h3 hr hm hn fop f1 f5 f6 f7 f8 fn fl e1 e2; go_enter Tryz.func60, Tryz.ntmps60
 go_upto_region 1 with fail; generalize w.alloc (.cells #[.string f0, .int .i64 7, .slice B2 l2.length c2, .slice (some ⟨b3, o3, none⟩) l3.length c3, .int .i64 f4] 24) = w1 at HB1 HK HR |-; have k1 := bc1 HK.out; have k3 := bc3 HK.out; have q1 := zad HB1.out HQ.out; have d2 : ((7 : Int) == 2) = false := by decide
 have d3 : ((7 : Int) == 3) = false := by decide
 have d4 : ((7 : Int) == 4) = false := by decide
 have d5 : ((7 : Int) == 5) = false := by decide
 have d6 : ((7 : Int) == 6) = false := by decide
 have d7 : ((7 : Int) == 7) = true := by decide
 have p1 := zad HB1.out HP.out; have hl : (0 : Int) < (([y] : List ByteArray).length : Int) := by simp
 go_wp2_with (go_at_call 24; refine (HLi.out _).mono ?_; rintro e w2 ⟨v, rfl, hR, hb2⟩; obtain ⟨A2, n2, rfl, hcap, hC2⟩ := zql hR; have HC2 := zpo hC2; have HB2 := zpo hb2; clear hcap hR hC2 hb2)
 go_loopg [12, 104] L.length (fun gg s12 s104 wr => ∃ kk : Nat, kk <= L.length /\ L.length - kk <= gg /\ s104 = .int .i64 kk /\ Aside0 (RS wr w2.heap.size s12 ((L.take kk).filter pf)) /\ Aside0 (Below w2.heap.size w2 wr))
 case atStart => exact ⟨0, zqf _, by omega, rfl, ⟨Kd.R_nil _ _ _ _ _⟩, ⟨zpr _ _⟩⟩
 case round =>
  obtain ⟨kk, hkk, hgk, rfl, HO, HW⟩ := hrel; have HK3 := zpo (zad HW.out (zad HB2.out k3)); have HQ3 := zpo (zad HW.out (zad HB2.out q1)); by_cases hlt : kk < L.length
  . have hltz : (kk : Int) < (L.length : Int) := by omega
    rcases zaJ HC2.out with h0 | ⟨b2, o2, rfl, hb, hcell⟩
    . exfalso; rw [h0] at hlt; simp at hlt
    have hx := zad HW.out (hcell kk hlt); have hpi : L.getD kk zp1 = L[kk] := by rw [zpw, zpv hlt]; rfl
    rw [hpi] at hx; have hf : (L.take (kk + 1)).filter pf = (L.take kk).filter pf ++ if pf L[kk] then [L[kk]] else [] := by
     rw [zpU hlt, List.filter_append, List.filter_cons, List.filter_nil]
    have hfl : ((L.take kk).filter pf).length <= kk := zpy (zqi _ _) (by rw [zpD]; omega)
    have hhas := fun W => znJ L[kk] z W (HXs.out _ (List.getElem_mem hlt)) (by omega)
    simp only [HPf.out] at hhas; generalize L[kk] = xx at hx hf hhas; have HHas := zpo hhas; have HF := zpo hf; have k3' := HK3.out; have q1' := HQ3.out; clear hcell hb hpi hf hhas; cases hp : pf xx with
    | true =>
     have hF := HF.out; rw [hp, if_pos rfl] at hF; have HF2 := zpo hF; rw [hp] at HHas; clear hF HF hp; go_wp2_with (first | (go_at_call 89; refine (HHas.out _).mono ?_; rintro e w5 ⟨rfl, rfl⟩) | ((with_reducible refine zaD (b := .append) (xs := #[.tmp 114, .tmp 116]) rfl ?_); at_builtin; refine Kd.R_append zp6 (w0 := w2) w2.heap.size rfl (.tmp 114) (.tmp 116) 22 9 (.string ⟨#[]⟩) 16 rfl Tryz.underlying22 zbf rfl (by decide) (by decide) u12 ((L.take kk).filter pf) xx [.string xx] (fun _ => True) (fun k_ => True /\ some k_ ≠ u12.ownBlock) rfl rfl rfl (fun _ hk => hk) (fun _ _ => trivial) HO.out HW.out HW.out.size ?aL ?_; (case aL => omega); intro v1 w4 ho hb hg hat; have HO4 := zpo ho; have HB4 := zpo hb; clear ho hb hg hat))
     go_roundg (L.length - (kk + 1))
     case measure => omega
     case rel => exact ⟨kk + 1, by omega, by omega, by first | rfl | go_num, ⟨by rw [HF2.out]; exact HO4.out⟩, ⟨HB4.out⟩⟩
    | false =>
     have hF := HF.out; rw [hp, if_neg (by decide), List.append_nil] at hF
     have HF2 := zpo hF; rw [hp] at HHas; clear hF HF hp; go_wp2_with (first | (go_at_call 89; refine (HHas.out _).mono ?_; rintro e w5 ⟨rfl, rfl⟩))
     go_roundg (L.length - (kk + 1))
     case measure => omega
     case rel => exact ⟨kk + 1, by omega, by omega, by first | rfl | go_num, ⟨by rw [HF2.out]; exact HO.out⟩, ⟨HW.out⟩⟩
  . have hltz : ¬ (kk : Int) < (L.length : Int) := by omega
    obtain rfl : kk = L.length := by omega
    have hO := HO.out; rw [List.take_length] at hO; obtain ⟨A5, n5, rfl, _, hC5⟩ := zql hO; have hWi := ziO A5 n5 (L.filter pf) wr hC5 HWb.out; have HWi := zpo hWi; clear hO hC5 hWi; go_wp2_with (go_at_call 88; refine HWi.out.mono ?_; rintro e w5 ⟨rfl, rfl⟩)
    go_ret2
    exact ⟨rfl, zac (zac HB1.out HB1.out.size HB2.out) (zpy HB1.out.size HB2.out.size) HW.out⟩
end X
end Go.Proofs.YtdpgdnpddndeoaaGreatDoor
