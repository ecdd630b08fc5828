/-
  What the cards lean on (part V1): contracts of functions, by hand, and plain laws; what is printed by the kit's print for this seat is among them. What is not reached is left out.
-/
import Derived.OrdersHeld
import Derived.Deep.RegionHeld3
import Derived.Laws.BitsLemmas
import Derived.RowKit
import Derived.Laws.StructEq
import Derived.SizedLaws
import Derived.ChangeSlices
import Derived.Test.YtdpgdnpddndeoaaGreatDoorProg
import Derived.Below
import Derived.Deep.Draws
import Derived.Deep.AppendLies
import Derived.Maps.AppendAt
import Derived.OwnWalk
import Derived.Laws.BytesArg
import Derived.Laws.MakeOwn
import Derived.Laws.OwnMore
import Derived.Deep.OwnRows
import Derived.Tactics
import Derived.Lib.ConvBytes
import Derived.Laws.Slices
import Derived.WalkKit
import Derived.KernelRfl
import Derived.RowKit3
import Derived.Deep.LoopGhost
import Derived.Deep.QuietTactic
import Derived.BigQuiet
import Derived.WideLaws
import Derived.Deep.DeepCutAuto
import Derived.Deep.CutBlock
import Derived.Laws.Rows
import Derived.Lib.AppendStr
import Derived.ArgAppend
import Derived.Laws.IdiomCopy
import Derived.WalkLawsBesides
import Derived.Lib.Hide
import Derived.Shelf.Abstract
import Derived.Shelf.SlGeneric
import Derived.Shelf.Strings.Split
import Derived.Shelf.Strings.Cut
import Derived.Shelf.Strings.OnBuilder
import Derived.Shelf.LaysM
import Derived.Shelf.LaysC
import Derived.Shelf.GgClosure.StringsRunes
import Derived.Shelf.SlicesE.DeleteFunc
import Derived.Shelf.SlicesE.IndexFunc
import Derived.Shelf.Slices.Clone
import Derived.Shelf.Strconv.Itoa3
import Derived.Shelf.Strconv.AtoiAll
import Derived.Ground.NamesProg
import Derived.Ground.SlgfProg
import Derived.Ground.GgwProg
import Derived.Ground.Names2Prog
import Derived.Ground.SlmcProg
import Derived.Shelf.SlMaps.Clone
import Derived.Shelf.SlIter.Nil
import Derived.Shelf.SortM.Plain
import Derived.Shelf.SortM.SortNone
import Derived.Ground.GgzProg
import Derived.Ground.SlgmProg
import Derived.Test.YtdpgdnpddndeoaaGreatDoorV0
namespace Go
open Go.RowKit Go.Maps Go.Proofs
theorem zpt {p : Prop} (h : p) : Hid p := Lib.hid h
end Go
set_option maxHeartbeats 8000000
set_option maxRecDepth 100000
set_option linter.unusedSimpArgs false
set_option linter.unusedVariables false
open Go.World renaming block_lt_of_cell? -> zpu
open Go.RowKit.Below renaming refl -> zpw
open Array renaming getElem?_eq_some_iff -> zpy
open List renaming getElem?_eq_getElem -> zpA, getD_eq_getElem?_getD -> zpB, getElem?_eq_some_iff -> zpS, length_set -> zp4, foldlM_cons -> zp8, foldlM_nil -> zp9
open Nat renaming lt_or_ge -> zpM
open Option.some renaming inj -> zp6
open Bool renaming and_eq_true -> zp7
open Go.Proofs.Tryz renaming prog -> zp5
open ByteArray renaming empty -> zqa
open Go.Proofs.YtdpgdnpddndeoaaGreatDoorW.PrintWords.Kd renaming string -> zqb
namespace Go.Proofs
namespace YtdpgdnpddndeoaaGreatDoorW.PrintLast
section
variable {P : Program} {ops : Array Oper} {Q : Exit -> Act -> World -> Prop} {md : Region.Mode} {S : World -> Prop} {ds : List Nat}
def Region.reachB (md : Region.Mode) (ops : Array Oper) (i : Nat) : Nat -> Nat -> Bool
 | 0, _ => false
 | fuel + 1, d => match ops[d]? with
  | some o => o.after.any fun e => Region.binds md e && (e.on == i || Region.reachB md ops i fuel e.on)
  | none => false
def Region.closedB (md : Region.Mode) (ops : Array Oper) (listed : Array Bool) : Bool :=
 (List.range ops.size).all fun j => !listed.getD j false || match ops[j]? with
  | some o => o.after.all fun e => !Region.binds md e || listed.getD e.on false
  | none => true
def Region.lastB (md : Region.Mode) (ops : Array Oper) (listed : Array Bool) (ds : List Nat) (i : Nat) : Bool :=
 ds.all fun d => listed.getD d true || Region.reachB md ops i ops.size d
def ListedClosed (md : Region.Mode) (ops : Array Oper) (listed : Array Bool) : Prop :=
 ∀ j oj, ops[j]? = some oj -> listed.getD j false = true -> ∀ e ∈ oj.after, Region.binds md e = true -> listed.getD e.on false = true
theorem Region.closedB_spec {listed : Array Bool} (h : Region.closedB md ops listed = true) : ListedClosed md ops listed := by
 intro j oj hj hl e he hb; have hlt : j < ops.size := (zpy.1 hj).1; have h1 := List.all_eq_true.1 h j (List.mem_range.2 hlt); simp only [hl, hj, Bool.not_true, Bool.false_or] at h1; have h2 := Array.all_eq_true_iff_forall_mem.1 h1 e he; simpa [hb] using h2
theorem ListedClosed.set {listed : Array Bool} {i : Nat} (h : ListedClosed md ops listed) (hi : i ∈ Region.ready md ops listed) : ListedClosed md ops (listed.setIfInBounds i true) := by
 obtain ⟨_, oi, hoi, hall⟩ := mem_ready.1 hi; intro j oj hj hl e he hb; by_cases hij : i = j
 . subst hij
   have : oj = oi := zp6 (hj.symm.trans hoi); subst this; exact getD_set_true (hall e he hb)
 . rw [getD_set_ne false hij] at hl
   exact getD_set_true (h j oj hj hl e he hb)
theorem Region.reach_listed {listed : Array Bool} {i : Nat} (hc : ListedClosed md ops listed) : ∀ (fuel d : Nat), Region.reachB md ops i fuel d = true -> listed.getD d false = true -> listed.getD i false = true
 | 0, _, h, _ => by simp [Region.reachB] at h
 | fuel + 1, d, h, hl => by
  unfold Region.reachB at h; cases ho : ops[d]? with
  | none => rw [ho] at h; simp at h
  | some o =>
   rw [ho] at h; obtain ⟨e, he, h1⟩ := Array.any_eq_true'.1 h; simp only [zp7, Bool.or_eq_true, beq_iff_eq] at h1; have hle := hc d o ho hl e he h1.1; rcases h1.2 with h2 | h2
   . rw [<- h2]; exact hle
   . exact Region.reach_listed hc fuel e.on h2 hle
theorem Region.reach_not_ready {listed : Array Bool} {i d fuel : Nat} (hc : ListedClosed md ops listed) (hr : Region.reachB md ops i fuel d = true) (hun : listed.getD i true = false) : d ∉ Region.ready md ops listed := by
 intro hd; obtain ⟨_, o, ho, hall⟩ := mem_ready.1 hd; have hi : listed.getD i false = true := by
  cases fuel with
  | zero => simp [Region.reachB] at hr
  | succ n =>
   unfold Region.reachB at hr; rw [ho] at hr; obtain ⟨e, he, h1⟩ := Array.any_eq_true'.1 hr; simp only [zp7, Bool.or_eq_true, beq_iff_eq] at h1; have hle := hall e he h1.1; rcases h1.2 with h2 | h2
   . rw [<- h2]; exact hle
   . exact Region.reach_listed hc n e.on h2 hle
 rcases zpM i listed.size with h' | h'
 . simp [h'] at hun hi
   rw [hun] at hi; cases hi
 . simp [Array.getElem?_eq_none h'] at hun
def zax (P : Program) (md : Region.Mode) (ops : Array Oper) (Q : Exit -> Act -> World -> Prop) (S : World -> Prop) (ds : List Nat) : Nat -> Array Bool -> Act -> World -> Prop
 | 0, listed, a, w => Region.ready md ops listed = [] /\ Q .normal a w
 | fuel + 1, listed, a, w =>
  (Region.ready md ops listed = [] -> Q .normal a w) /\
  ∀ i ∈ Region.ready md ops listed, wpOp P ops Q i (fun a' w' => (i ∉ ds -> S w -> S w') /\ zax P md ops Q S ds fuel (listed.setIfInBounds i true) a' w') a w
theorem zji : ∀ (fuel : Nat) (listed : Array Bool) (a : Act) (w : World), zax P md ops Q S ds fuel listed a w -> wpAny P md ops Q fuel listed a w
 | 0, _, _, _, h => h
 | fuel + 1, _, _, _, h => ⟨h.1, fun i hi => wpOp_mono (fun a' w' h' => zji fuel _ a' w' h'.2) (h.2 i hi)⟩
theorem zlg {i : Nat} {oi : Oper} {v : Value} (hi : ops[i]? = some oi) (hsel : ∀ (j : Nat) (o : Oper) cs b, ops[j]? = some o -> o.op ≠ .select cs b)
 (hQ : ∀ c a w, Q (.panic c) (a.put oi.dst v) w -> Q (.panic c) a w) (n : Nat) :
 ∀ (fuel : Nat) (listed : Array Bool) (a : Act) (w : World),
  (∀ j oj, ops[j]? = some oj -> j ≠ i -> listed.getD j true = false -> (∀ e ∈ oj.after, Region.binds md e = true -> e.on ≠ i) -> oi.apart ops oj = true) ->
  ListedClosed md ops listed -> (∀ d ∈ ds, listed.getD d true = false -> Region.reachB md ops i n d = true) ->
  i ∈ Region.ready md ops listed -> YieldsIf P ops S oi v a -> S w ->
  zax P md ops Q S ds fuel (listed.setIfInBounds i true) (a.put oi.dst v) w -> zax P md ops Q S ds (fuel + 1) listed a w := by
 intro fuel; induction fuel with
 | zero =>
  intro listed a w _ _ _ hr hy hS H; refine ⟨fun h => (by rw [h] at hr; cases hr), fun j hj => ?_⟩
  by_cases hji : j = i
  . subst hji; exact hy.wpOp hi hS ⟨fun _ h => h, H⟩
  . have := ready_mono hj hji
    rw [H.1] at this; cases this
 | succ fuel ih =>
  intro listed a w hfree hc hd hr hy hS H; refine ⟨fun h => (by rw [h] at hr; cases hr), fun j hj => ?_⟩
  by_cases hji : j = i
  . subst hji; exact hy.wpOp hi hS ⟨fun _ h => h, H⟩
  . have h1 := H.2 j (ready_mono hj hji)
    obtain ⟨hjun, oj, hoj, hall⟩ := mem_ready.1 hj; have hiun := (mem_ready.1 hr).1; have hnot : ∀ e ∈ oj.after, Region.binds md e = true -> e.on ≠ i := fun e he hb heq => by
     have h1 := hall e he hb; rw [heq] at h1; rcases zpM i listed.size with h' | h'
     . simp [h'] at hiun h1; rw [hiun] at h1; cases h1
     . simp [Array.getElem?_eq_none h'] at h1
    have hjd : j ∉ ds := fun hm => Region.reach_not_ready hc (hd j hm hjun) hiun hj
    have h2 := wpOp_putIf hoj (hfree j oj hoj hji hjun hnot) (fun cs b => hsel i oi cs b hi) (fun cs b => hsel j oj cs b hoj) hQ hy h1
    have hfree' : ∀ k ok, ops[k]? = some ok -> k ≠ i -> (listed.setIfInBounds j true).getD k true = false ->
     (∀ e ∈ ok.after, Region.binds md e = true -> e.on ≠ i) -> oi.apart ops ok = true := fun k ok hk hki hun hno => by
     refine hfree k ok hk hki ?_ hno; by_cases hjk : j = k
     . subst hjk; exact hjun
     . rw [getD_set_ne true hjk] at hun; exact hun
    have hd' : ∀ d ∈ ds, (listed.setIfInBounds j true).getD d true = false -> Region.reachB md ops i n d = true := fun d hm hun => by
     refine hd d hm ?_; by_cases hjk : j = d
     . subst hjk; exact hjun
     . rw [getD_set_ne true hjk] at hun; exact hun
    refine wpOp_mono (fun a' w' h3 => ⟨h3.2.1, ih (listed.setIfInBounds j true) a' w' hfree' (hc.set hj) hd' (ready_mono hr (Ne.symm hji)) h3.1 (h3.2.1 hjd hS) ?_⟩) h2
    rw [Array.setIfInBounds_comm _ _ hji]; exact h3.2.2
theorem zlD {i : Nat} {oi : Oper} {v : Value} (hi : ops[i]? = some oi) (hsel : ∀ (j : Nat) (o : Oper) cs b, ops[j]? = some o -> o.op ≠ .select cs b)
 (hQ : ∀ c a w, Q (.panic c) (a.put oi.dst v) w -> Q (.panic c) a w) :
 ∀ (fuel : Nat) (listed : Array Bool) (a : Act) (w : World),
  (∀ j oj, ops[j]? = some oj -> j ≠ i -> listed.getD j true = false -> (∀ e ∈ oj.after, Region.binds md e = true -> e.on ≠ i) -> oi.apart ops oj = true) ->
  i ∈ Region.ready md ops listed -> Yields P ops oi v a ->
  zax P md ops Q S ds fuel (listed.setIfInBounds i true) (a.put oi.dst v) w -> zax P md ops Q S ds (fuel + 1) listed a w := by
 intro fuel; induction fuel with
 | zero =>
  intro listed a w _ hr hy H; refine ⟨fun h => (by rw [h] at hr; cases hr), fun j hj => ?_⟩
  by_cases hji : j = i
  . subst hji; exact (hy.yieldsIf (S := fun _ => True)).wpOp hi trivial ⟨fun _ h => h, H⟩
  . have := ready_mono hj hji
    rw [H.1] at this; cases this
 | succ fuel ih =>
  intro listed a w hfree hr hy H; refine ⟨fun h => (by rw [h] at hr; cases hr), fun j hj => ?_⟩
  by_cases hji : j = i
  . subst hji; exact (hy.yieldsIf (S := fun _ => True)).wpOp hi trivial ⟨fun _ h => h, H⟩
  . have h1 := H.2 j (ready_mono hj hji)
    obtain ⟨hjun, oj, hoj, hall⟩ := mem_ready.1 hj; have hiun := (mem_ready.1 hr).1; have hnot : ∀ e ∈ oj.after, Region.binds md e = true -> e.on ≠ i := fun e he hb heq => by
     have h1 := hall e he hb; rw [heq] at h1; rcases zpM i listed.size with h' | h'
     . simp [h'] at hiun h1; rw [hiun] at h1; cases h1
     . simp [Array.getElem?_eq_none h'] at h1
    have h2 := wpOp_put hoj (hfree j oj hoj hji hjun hnot) (fun cs b => hsel i oi cs b hi) (fun cs b => hsel j oj cs b hoj) hQ hy h1
    have hfree' : ∀ k ok, ops[k]? = some ok -> k ≠ i -> (listed.setIfInBounds j true).getD k true = false ->
     (∀ e ∈ ok.after, Region.binds md e = true -> e.on ≠ i) -> oi.apart ops ok = true := fun k ok hk hki hun hno => by
     refine hfree k ok hk hki ?_ hno; by_cases hjk : j = k
     . subst hjk; exact hjun
     . rw [getD_set_ne true hjk] at hun; exact hun
    refine wpOp_mono (fun a' w' h3 => ⟨h3.2.1, ih (listed.setIfInBounds j true) a' w' hfree' (ready_mono hr (Ne.symm hji)) h3.1 ?_⟩) h2
    rw [Array.setIfInBounds_comm _ _ hji]; exact h3.2.2
theorem zov {i : Nat} {oi : Oper} {v : Value} {fuel : Nat} {listed : Array Bool} {a : Act} {w : World} (hi : ops[i]? = some oi)
 (hs : Region.noSelect ops = true) (hf : Region.free md ops listed i = true) (hr : (Region.ready md ops listed).contains i = true)
 (hc : Region.closedB md ops listed = true) (hl : Region.lastB md ops listed ds i = true)
 (hQ : ∀ c a w, Q (.panic c) (a.put oi.dst v) w -> Q (.panic c) a w) (hy : YieldsIf P ops S oi v a) (hS : S w)
 (h : zax P md ops Q S ds fuel (listed.setIfInBounds i true) (a.put oi.dst v) w) : zax P md ops Q S ds (fuel + 1) listed a w :=
 zlg hi (Region.noSelect_spec hs) hQ ops.size fuel listed a w (Region.free_spec hi hf) (Region.closedB_spec hc)
  (fun d hm hun => by have := List.all_eq_true.1 hl d hm; rw [hun] at this; simpa using this) (by simpa using hr) hy hS h
theorem zlP {rs : List Nat} {fuel : Nat} {listed : Array Bool} {a : Act} {w : World} (hr : Region.ready md ops listed = rs) (hne : rs ≠ [])
 (h : ∀ i ∈ rs, wpOp P ops Q i (fun a' w' => (i ∉ ds -> S w -> S w') /\ zax P md ops Q S ds fuel (listed.setIfInBounds i true) a' w') a w) : zax P md ops Q S ds (fuel + 1) listed a w :=
 ⟨fun h0 => absurd (hr ▸ h0) hne, hr ▸ h⟩
theorem znz {listed : Array Bool} {a : Act} {w : World} (hr : Region.ready md ops listed = []) (h : Q .normal a w) :
 ∀ fuel, zax P md ops Q S ds fuel listed a w
 | 0 => ⟨hr, h⟩
 | _ + 1 => ⟨fun _ => h, by rw [hr]; simp⟩
theorem zoK {id : Nat} {a : Act} {w : World} (hm : P.follows .mixedOrders = true)
 (h : zax P .any ops Q S ds ops.size (Array.replicate ops.size false) a { w with drawn := w.drawn + 1 }) : (Code.region id ops true).wp P Q a w :=
 wp_region_any hm (zji _ _ _ _ h)
end
section
variable {P : Program} {ops : Array Oper} {Q : Exit -> Act -> World -> Prop} {md : Region.Mode} {S : World -> Prop} {ds : List Nat}
def AllReadyL (P : Program) (md : Region.Mode) (ops : Array Oper) (Q : Exit -> Act -> World -> Prop) (S : World -> Prop) (ds : List Nat) (fuel : Nat) (listed : Array Bool) (a : Act) (w : World) (rs : List Nat) : Prop :=
 ∀ i ∈ rs, wpOp P ops Q i (fun a' w' => (i ∉ ds -> S w -> S w') /\ zax P md ops Q S ds fuel (listed.setIfInBounds i true) a' w') a w
theorem AllReadyL.nil {fuel : Nat} {listed : Array Bool} {a : Act} {w : World} : AllReadyL P md ops Q S ds fuel listed a w [] := fun _ h => by cases h
theorem AllReadyL.cons {fuel : Nat} {listed : Array Bool} {a : Act} {w : World} {i : Nat} {o : Oper} {rs : List Nat} (ho : ops[i]? = some o) (hd : i ∉ ds)
 (h : ∀ K' : Act -> World -> Prop, Shut (∀ a w, S w -> (S w -> zax P md ops Q S ds fuel (listed.setIfInBounds i true) a w) -> K' a w) -> if Region.wanted o (yielded ops a.tmps) = true then Oper.wp P o a w K' Q else K' (a.put o.dst undef) w)
 (hs : AllReadyL P md ops Q S ds fuel listed a w rs) : AllReadyL P md ops Q S ds fuel listed a w (i :: rs) := fun j hj => by
 rcases List.mem_cons.1 hj with rfl | hj
 . exact wpOp_step ho (fun K' hK => h K' (fun a w hS hW => hK a w ⟨fun _ _ => hS, hW hS⟩))
 . exact hs j hj
theorem AllReadyL.cons_last {fuel : Nat} {listed : Array Bool} {a : Act} {w : World} {i : Nat} {o : Oper} {rs : List Nat} (ho : ops[i]? = some o) (hd : i ∈ ds)
 (h : ∀ K' : Act -> World -> Prop, Shut (∀ a w, zax P md ops Q S ds fuel (listed.setIfInBounds i true) a w -> K' a w) -> if Region.wanted o (yielded ops a.tmps) = true then Oper.wp P o a w K' Q else K' (a.put o.dst undef) w)
 (hs : AllReadyL P md ops Q S ds fuel listed a w rs) : AllReadyL P md ops Q S ds fuel listed a w (i :: rs) := fun j hj => by
 rcases List.mem_cons.1 hj with rfl | hj
 . exact wpOp_step ho (fun K' hK => h K' (fun a w hW => hK a w ⟨fun hn => absurd hd hn, hW⟩))
 . exact hs j hj
theorem zfj {rs : List Nat} {fuel : Nat} {listed : Array Bool} {a : Act} {w : World} (hr : Region.ready md ops listed = rs) (hne : rs ≠ [])
 (h : AllReadyL P md ops Q S ds fuel listed a w rs) : zax P md ops Q S ds (fuel + 1) listed a w := zlP hr hne h
theorem zdy {id n : Nat} {a : Act} {w : World} (l : Array Bool) (hm : P.follows .mixedOrders = true) (hn : ops.size = n) (hl : Array.replicate n false = l) (hS : S w.drew)
 (h : S w.drew -> zax P .any ops Q S ds n l a w.drew) : (Code.region id ops true).wp P Q a w := by
 subst hn; subst hl; exact zoK hm (h hS)
def zd5 (md : Region.Mode) (ops : Array Oper) (ds : List Nat) (l l' : Array Bool) (i : Nat) : Bool :=
 Region.noSelect ops && Region.free md ops l i && (Region.ready md ops l).contains i && Region.closedB md ops l && Region.lastB md ops l ds i && (l.setIfInBounds i true == l')
theorem take_ {i : Nat} {N : Option Tmp} {oi : Oper} {v : Value} {fuel : Nat} {l : Array Bool} {a : Act} {w : World} (l' : Array Bool) (hi : ops[i]? = some oi) (hN : oi.dst = N) (hc : zd5 md ops ds l l' i = true)
 (hQ : ∀ c a w, Q (.panic c) (a.put oi.dst v) w -> Q (.panic c) a w) (hy : YieldsIf P ops S oi v a) (hS : S w) {a' : Act} (ha : a.put N v = a')
 (h : zax P md ops Q S ds fuel l' a' w) : zax P md ops Q S ds (fuel + 1) l a w := by
 subst ha; subst hN; simp only [zd5, zp7, beq_iff_eq] at hc; obtain ⟨⟨⟨⟨⟨h1, h2⟩, h3⟩, h4⟩, h5⟩, h6⟩ := hc; subst h6; exact zov hi h1 h2 h3 h4 h5 hQ hy hS h
def anyB (md : Region.Mode) (ops : Array Oper) (l l' : Array Bool) (i : Nat) : Bool :=
 Region.noSelect ops && Region.free md ops l i && (Region.ready md ops l).contains i && (l.setIfInBounds i true == l')
theorem zaF {i : Nat} {N : Option Tmp} {oi : Oper} {v : Value} {fuel : Nat} {l : Array Bool} {a : Act} {w : World} (l' : Array Bool) (hi : ops[i]? = some oi) (hN : oi.dst = N) (hc : anyB md ops l l' i = true)
 (hQ : ∀ c a w, Q (.panic c) (a.put oi.dst v) w -> Q (.panic c) a w) (hy : Yields P ops oi v a) {a' : Act} (ha : a.put N v = a')
 (h : zax P md ops Q S ds fuel l' a' w) : zax P md ops Q S ds (fuel + 1) l a w := by
 subst ha; subst hN; simp only [anyB, zp7, beq_iff_eq] at hc; obtain ⟨⟨⟨h1, h2⟩, h3⟩, h6⟩ := hc; subst h6; exact zlD hi (Region.noSelect_spec h1) hQ fuel l a w (Region.free_spec hi h2) (by simpa using h3) hy h
def zd9 (md : Region.Mode) (ops : Array Oper) (l l' : Array Bool) (i : Nat) : Bool := (Region.ready md ops l == [i]) && (l.setIfInBounds i true == l')
theorem one_ {i : Nat} {N : Option Tmp} {oi : Oper} {fuel : Nat} {l : Array Bool} {a : Act} {w : World} (l' : Array Bool) (hi : ops[i]? = some oi) (hN : oi.dst = N) (hc : zd9 md ops l l' i = true) (hd : i ∉ ds)
 (h : ∀ K : Act -> World -> Prop, Shut (∀ a' w', S w' -> (S w' -> zax P md ops Q S ds fuel l' a' w') -> K a' w') -> if Region.wanted oi (yielded ops a.tmps) = true then Oper.wp P oi a w K Q else K (a.put N undef) w) :
 zax P md ops Q S ds (fuel + 1) l a w := by
 subst hN; simp only [zd9, zp7, beq_iff_eq] at hc; obtain ⟨h1, h2⟩ := hc; subst h2; exact zfj h1 (by simp) (AllReadyL.cons hi hd (fun K hK => h K hK) AllReadyL.nil)
theorem zej {i : Nat} {N : Option Tmp} {oi : Oper} {fuel : Nat} {l : Array Bool} {a : Act} {w : World} (l' : Array Bool) (hi : ops[i]? = some oi) (hN : oi.dst = N) (hc : zd9 md ops l l' i = true) (hd : i ∈ ds)
 (h : ∀ K : Act -> World -> Prop, Shut (∀ a' w', zax P md ops Q S ds fuel l' a' w' -> K a' w') -> if Region.wanted oi (yielded ops a.tmps) = true then Oper.wp P oi a w K Q else K (a.put N undef) w) :
 zax P md ops Q S ds (fuel + 1) l a w := by
 subst hN; simp only [zd9, zp7, beq_iff_eq] at hc; obtain ⟨h1, h2⟩ := hc; subst h2; exact zfj h1 (by simp) (AllReadyL.cons_last hi hd (fun K hK => h K hK) AllReadyL.nil)
theorem zcF {l : Array Bool} {a : Act} {w : World} {n : Nat} (hr : (Region.ready md ops l == []) = true) (h : Q .normal a w) : zax P md ops Q S ds n l a w := znz (by simpa using hr) h n
theorem two_ {i j : Nat} {Ni Nj : Option Tmp} {oi oj : Oper} {fuel : Nat} {l : Array Bool} {a : Act} {w : World} (li lj : Array Bool) (hi : ops[i]? = some oi) (hj : ops[j]? = some oj) (hNi : oi.dst = Ni) (hNj : oj.dst = Nj)
 (hc : (Region.ready md ops l == [i, j] && l.setIfInBounds i true == li && l.setIfInBounds j true == lj) = true) (hdi : i ∉ ds) (hdj : j ∉ ds)
 (h1 : ∀ K : Act -> World -> Prop, Shut (∀ a' w', S w' -> (S w' -> zax P md ops Q S ds fuel li a' w') -> K a' w') -> if Region.wanted oi (yielded ops a.tmps) = true then Oper.wp P oi a w K Q else K (a.put Ni undef) w)
 (h2 : ∀ K : Act -> World -> Prop, Shut (∀ a' w', S w' -> (S w' -> zax P md ops Q S ds fuel lj a' w') -> K a' w') -> if Region.wanted oj (yielded ops a.tmps) = true then Oper.wp P oj a w K Q else K (a.put Nj undef) w) :
 zax P md ops Q S ds (fuel + 1) l a w := by
 subst hNi; subst hNj; simp only [zp7, beq_iff_eq] at hc; obtain ⟨⟨h3, h4⟩, h5⟩ := hc; subst h4; subst h5; exact zfj h3 (by simp) (AllReadyL.cons hi hdi (fun K hK => h1 K hK) (AllReadyL.cons hj hdj (fun K hK => h2 K hK) AllReadyL.nil))
def zdb : Act -> List (Tmp × Value) -> Act
 | a, [] => a
 | a, (n, v) :: r => zdb (a.put (some n) v) r
theorem join_ {σ : Type} {fuel : Nat} {l : Array Bool} {a : Act} {w : World} (fuel' : Nat) (l' : Array Bool) (ns : σ -> List (Tmp × Value)) (F : σ -> World -> Prop)
 (hcont : ∀ s w', F s w' -> zax P md ops Q S ds fuel' l' (zdb a (ns s)) w')
 (h : (∀ s w', F s w' -> zax P md ops Q S ds fuel' l' (zdb a (ns s)) w') -> zax P md ops Q S ds fuel l a w) : zax P md ops Q S ds fuel l a w := h hcont
theorem za6 {fuel : Nat} {l : Array Bool} {a a' : Act} {w : World} (ha : a = a') (h : zax P md ops Q S ds fuel l a' w) : zax P md ops Q S ds fuel l a w := by
 subst ha; exact h
theorem call_ {oi : Oper} {N : Option Tmp} {a : Act} {w : World} {K : Act -> World -> Prop} (f : FuncId) (args : Array Value) (hw : Region.wanted oi (yielded ops a.tmps) = true) (hN : oi.dst = N) (hrun : (execOp a.eval oi).run P w = .ok (.enter f args) w)
 (h : Calls P f args w fun e w' => ∃ v, e = .returned v /\ K (a.put N v) w') : if Region.wanted oi (yielded ops a.tmps) = true then Oper.wp P oi a w K Q else K (a.put N undef) w := by
 rw [if_pos hw]; subst hN; unfold Oper.wp; rw [hrun, Oper.upon_enter]; refine h.mono fun e w'' hh => ?_
 obtain ⟨v, rfl, hk⟩ := hh; exact hk
theorem zid {f : FuncId} {fn : Func} (hf : P.funcs[f]? = some fn) (hname : (fn.name == "runtime.NumGoroutine") = false) (hb : fn.body.isSome = true) (args : Array Value) (w : World) : (callFunc f args).run P w = .ok (.enter f args) w := by
 have h1 : fn.name ≠ "runtime.NumGoroutine" := by simpa using hname
 obtain ⟨c, hc⟩ := Option.isSome_iff_exists.1 hb; simp [callFunc, hf, h1, hc]
theorem zb2 {oi : Oper} {N : Option Tmp} {a : Act} {w : World} {K : Act -> World -> Prop} {f : FuncId} {fn : Func} {as_ : Array Operand} {ts : Array TypeId} (hf : P.funcs[f]? = some fn) (hname : (fn.name == "runtime.NumGoroutine") = false) (hb : fn.body.isSome = true) (args : Array Value)
 (hw : Region.wanted oi (yielded ops a.tmps) = true) (hN : oi.dst = N) (hop : oi.op = .call { callee := .value (.func f), args := as_, argTypes := ts }) (hargs : as_.map a.eval = args)
 (h : Calls P f args w fun e w' => ∃ v, e = .returned v /\ K (a.put N v) w') : if Region.wanted oi (yielded ops a.tmps) = true then Oper.wp P oi a w K Q else K (a.put N undef) w := by
 refine call_ f args hw hN ?_ h; have he := zid hf hname hb args w; unfold execOp; simp [hop, resolve, Deferred.ofValue, invoke, Act.eval, hargs, he]
theorem zbS {rest : List Oper} {oi : Oper} {a : Act} {w : World} (N : Option Tmp) (hd : oi.dst = N) (hg : oi.guard = none) {f : FuncId} {fn : Func} {as_ : Array Operand} {ts : Array TypeId} (hf : P.funcs[f]? = some fn) (hname : (fn.name == "runtime.NumGoroutine") = false) (hb : fn.body.isSome = true) (args : Array Value)
 (hop : oi.op = .call { callee := .value (.func f), args := as_, argTypes := ts }) (hargs : as_.map a.eval = args)
 (h : Calls P f args w fun e w' => ∃ v, e = .returned v /\ wpList P ops Q rest (a.put N v) w') : wpList P ops Q (oi :: rest) a w := by
 refine wpList_plain hg fun K hK => ?_
 have he := zid hf hname hb args w; have hrun : (execOp a.eval oi).run P w = .ok (.enter f args) w := by
  unfold execOp; simp [hop, resolve, Deferred.ofValue, invoke, Act.eval, hargs, he]
 unfold Oper.wp; rw [hrun, Oper.upon_enter]; refine h.mono fun e w'' hh => ?_
 obtain ⟨v, rfl, hk⟩ := hh; subst hd; exact hK _ _ hk
theorem zcC {oi : Oper} {N : Option Tmp} {a : Act} {w w1 : World} {v : Value} {K : Act -> World -> Prop} (hw : Region.wanted oi (yielded ops a.tmps) = true) (hN : oi.dst = N) (hrun : (execOp a.eval oi).run P w = .ok (.value v) w1)
 (h : K (a.put N v) w1) : if Region.wanted oi (yielded ops a.tmps) = true then Oper.wp P oi a w K Q else K (a.put N undef) w := by
 rw [if_pos hw]; subst hN; unfold Oper.wp; rw [hrun]; exact h
theorem zcQ {oi : Oper} {a : Act} {w w1 : World} {K : Act -> World -> Prop} (hw : Region.wanted oi (yielded ops a.tmps) = true) (hN : oi.dst = none) (hrun : (execOp a.eval oi).run P w = .ok .skip w1)
 (h : K a w1) : if Region.wanted oi (yielded ops a.tmps) = true then Oper.wp P oi a w K Q else K (a.put none undef) w := by
 rw [if_pos hw]; unfold Oper.wp; rw [hrun]; show K (a.put oi.dst undef) w1
 rw [hN]; exact h
theorem zaf (n : Int) : IntKind.i64.wrap n = Go.RowKit.wrap64 n := by unfold Go.RowKit.wrap64; exact IntKind.wrap_i64 n
theorem zag (n : Int) : IntKind.i32.wrap n = Go.RowKit.wrap32 n := by unfold Go.RowKit.wrap32; exact IntKind.wrap_i32 n
end
end YtdpgdnpddndeoaaGreatDoorW.PrintLast
namespace YtdpgdnpddndeoaaGreatDoorW.PrintWords
open Go.RowKit
namespace Kd
section
variable {α : Type} {d : Kd α} {e base g o n cap : Nat} {ok okp : Nat -> Prop} {w W : World} {v : Value} {xs : List α}
end
section
variable {α : Type} {enc : α -> Value} {h1 : ∀ x, (enc x).oneCell' = true} {e base g o n cap : Nat} {ok : Nat -> Prop} {W : World} {xs : List α}
end
end Kd
end YtdpgdnpddndeoaaGreatDoorW.PrintWords
namespace YtdpgdnpddndeoaaGreatDoorW.PrintWords
open Go.RowKit
namespace Kd
def tag {α : Type} (f : Nat -> Nat) (d : Kd α) : Kd (α × Nat) where
 sz := d.sz
 E := d.E
 K := fun w x cs => d.K w x.1 cs
 M := fun w base ok x cs => d.M w base (fun k => ok k /\ f k = x.2) x.1 cs
 K_len := fun h => d.K_len h
 K_one := fun h => d.K_one h
 K_below := fun hb h => d.K_below hb h
 K_of_M := fun h => d.K_of_M h
 M_mono := fun hok h => d.M_mono (fun k hk => ⟨hok k hk.1, hk.2⟩) h
 M_bound := fun h => d.M_mono (fun _ hk => ⟨⟨hk.1.1, hk.2⟩, hk.1.2⟩) (d.M_bound h)
 M_move := fun hm h => d.M_move (fun k hk => hm k hk.1) h
 M_lower := fun hb h => d.M_lower hb h
def bare {α : Type} (d : Kd α) : Kd α where
 sz := d.sz
 E := d.E
 K := d.K
 M := fun w base _ x cs => d.M w base (fun _ => False) x cs
 K_len := fun h => d.K_len h
 K_one := fun h => d.K_one h
 K_below := fun hb h => d.K_below hb h
 K_of_M := fun h => d.K_of_M h
 M_mono := fun _ h => h
 M_bound := fun h => h
 M_move := fun _ h => d.M_move (fun _ hk => hk.elim) h
 M_lower := fun hb h => d.M_lower hb h
def raw (sz : Nat) : Kd (List Value) where
 sz := sz
 E := []
 K := fun _ x cs => cs = x /\ cs.length = sz /\ ∀ u ∈ cs, u.oneCell' = true
 M := fun _ _ _ x cs => cs = x /\ cs.length = sz /\ ∀ u ∈ cs, u.oneCell' = true
 K_len := fun h => h.2.1
 K_one := fun h => h.2.2
 K_below := fun _ h => h
 K_of_M := fun h => h
 M_mono := fun _ h => h
 M_bound := fun h => h
 M_move := fun _ h => h
 M_lower := fun _ h => h
def S {α : Type} (d : Kd α) (e : Nat) (w : World) (base : Nat) (ok : Nat -> Prop) (v : Value) (xs : List α) : Prop := ∃ f, (tag f d).R e w base ok v xs.zipIdx
section
variable {α β : Type} {d : Kd α} {d' : Kd β} {e e' : Nat} {w w1 W : World} {base b : Nat} {ok ok' okv oku : Nat -> Prop} {u v : Value} {xs : List α} {ys : List β}
theorem R_tight (hE : d.E = []) (h : d.R e w base ok v xs) : d.R e w base (fun k => some k = v.ownBlock) v xs := by
 obtain ⟨h0, inner, ho, hr⟩ := h; refine ⟨fun k hk => hk.symm, inner, ho, hr.imp_ (fun p c hp => d.M_mono (fun k hk => ?_) (d.M_bound hp))⟩
 obtain ⟨_, _, _, q, hq, _⟩ := hk; rw [hE] at hq; cases hq
theorem S_nil (d : Kd α) (e : Nat) (w : World) (base : Nat) (ok : Nat -> Prop) : S d e w base ok (.slice none 0 0) [] := ⟨fun _ => 0, R_nil _ _ _ _ _⟩
end
section
variable {α β : Type} {d : Kd α} {d' : Kd β} {e e' g : Nat} {w w1 W : World} {base b : Nat} {ok ok' okv oku : Nat -> Prop} {u v : Value} {xs : List α} {ys : List β}
end
section
variable {P : Program} {ops : Array Oper} {rest : List Oper} {o : Oper} {a : Act} {Q : Exit -> Act -> World -> Prop} {Kc : Act -> World -> Prop} {α : Type}
end
def gap {α : Type} (f : Nat -> Nat) (d : Kd α) (i : Nat) (c : List Value) : Kd (α × Nat) where
 sz := d.sz
 E := d.E
 K := fun w x cs => (x.2 = i -> cs = c /\ cs.length = d.sz /\ ∀ u ∈ cs, u.oneCell' = true) /\ (x.2 ≠ i -> d.K w x.1 cs)
 M := fun w base ok x cs => (x.2 = i -> cs = c /\ cs.length = d.sz /\ ∀ u ∈ cs, u.oneCell' = true) /\ (x.2 ≠ i -> d.M w base (fun k => ok k /\ f k = x.2) x.1 cs)
 K_len := fun {w x cs} h => by
  by_cases hx : x.2 = i
  . exact (h.1 hx).2.1
  . exact d.K_len (h.2 hx)
 K_one := fun {w x cs} h => by
  by_cases hx : x.2 = i
  . exact (h.1 hx).2.2
  . exact d.K_one (h.2 hx)
 K_below := fun hb h => ⟨h.1, fun hx => d.K_below hb (h.2 hx)⟩
 K_of_M := fun h => ⟨h.1, fun hx => d.K_of_M (h.2 hx)⟩
 M_mono := fun hok h => ⟨h.1, fun hx => d.M_mono (fun k hk => ⟨hok k hk.1, hk.2⟩) (h.2 hx)⟩
 M_bound := fun h => ⟨h.1, fun hx => d.M_mono (fun _ hk => ⟨⟨hk.1.1, hk.2⟩, hk.1.2⟩) (d.M_bound (h.2 hx))⟩
 M_move := fun hm h => ⟨h.1, fun hx => d.M_move (fun k hk => hm k hk.1) (h.2 hx)⟩
 M_lower := fun hb h => ⟨h.1, fun hx => d.M_lower hb (h.2 hx)⟩
def H {α : Type} (d : Kd α) (e : Nat) (w : World) (base : Nat) (ok : Nat -> Prop) (v : Value) (xs : List α) (i : Int) (oki : Nat -> Prop) (c : List Value) : Prop :=
 (∀ k, oki k -> ok k) /\ ∃ f, (gap f d i.toNat c).R e w base (fun k => ok k /\ ¬ oki k) v xs.zipIdx
section
variable {α β : Type} {d : Kd α} {e e' g n cap : Nat} {w w1 W : World} {base : Nat} {ok ok' oki okp : Nat -> Prop} {u v : Value} {xs : List α} {i : Int} {c : List Value}
end
section
variable {P : Program} {ops : Array Oper} {rest : List Oper} {o : Oper} {a : Act} {Q : Exit -> Act -> World -> Prop} {α : Type}
end
end Kd
end YtdpgdnpddndeoaaGreatDoorW.PrintWords
namespace YtdpgdnpddndeoaaGreatDoorW.PrintWords
open Go.RowKit
namespace Kd
section
variable {α : Type} {n : Nat} {d : Kd α} {hs : 0 < d.sz} {w : World} {base : Nat} {ok : Nat -> Prop} {xs : List α} {cs : List Value}
end
section
variable {α : Type} {n : Nat} {enc : α -> Value} {h1 : ∀ x, (enc x).oneCell' = true} {hs : 0 < (scalar enc h1).sz} {w : World} {base : Nat} {ok : Nat -> Prop} {xs : List α} {cs : List Value}
end
end Kd
end YtdpgdnpddndeoaaGreatDoorW.PrintWords
namespace YtdpgdnpddndeoaaGreatDoorW.PrintWords
open Go.RowKit
section
variable {P : Program}
end
namespace Kd
section
variable {P : Program} {ops : Array Oper} {rest : List Oper} {o : Oper} {a : Act} {Q : Exit -> Act -> World -> Prop} {Kc : Act -> World -> Prop} {α : Type}
end
section
variable {α : Type} {d : Kd α} {e : Nat} {w : World} {base : Nat} {ok : Nat -> Prop} {v : Value} {xs : List α}
end
section
variable {P : Program} {ops : Array Oper} {rest : List Oper} {o : Oper} {a : Act} {Q : Exit -> Act -> World -> Prop} {Kc : Act -> World -> Prop} {α : Type}
end
end Kd
end YtdpgdnpddndeoaaGreatDoorW.PrintWords
namespace YtdpgdnpddndeoaaGreatDoorW.PrintWords
open Go.RowKit
namespace Kd
structure Heap {α : Type} (d : Kd α) : Prop where
 K : ∀ {w w1 : World} {x : α} {cs : List Value}, (∀ k, k < w.heap.size -> w1.heap[k]? = w.heap[k]?) -> d.K w x cs -> d.K w1 x cs
theorem zn1 {w w1 : World} (hb : ∀ k, k < w.heap.size -> w1.heap[k]? = w.heap[k]?) {a : Addr} {v : Value} (h : w.cell? a = some v) : w1.cell? a = some v := by
 have := hb a.block (zpu w a h); simpa [World.cell?, this] using h
theorem Heap.C {α : Type} {d : Kd α} (hd : Heap d) {w w1 : World} {A : Option Addr} {n : Nat} {xs : List α} (hb : ∀ k, k < w.heap.size -> w1.heap[k]? = w.heap[k]?) (h : d.C w A n xs) : d.C w1 A n xs :=
 ⟨h.1, h.2.1, fun hn => by
  obtain ⟨ad, e, hc⟩ := h.2.2 hn; refine ⟨ad, e, fun j p hj => ?_⟩
  obtain ⟨c, hs, hr, hcell⟩ := hc j p hj; exact ⟨c, hs, hd.K hb hr, fun i u hu => zn1 hb (hcell i u hu)⟩⟩
section
variable {α : Type} {d : Kd α} {e base g n c : Nat} {ok : Nat -> Prop} {w w0 W : World} {A : Option Addr} {xs : List α}
end
end Kd
end YtdpgdnpddndeoaaGreatDoorW.PrintWords
namespace YtdpgdnpddndeoaaGreatDoorW.PrintWords
open Go.RowKit
def Kept (w W : World) (S : Nat -> Prop) : Prop := w.heap.size <= W.heap.size /\ ∀ i, i < w.heap.size -> ¬ S i -> W.heap[i]? = w.heap[i]?
section
variable {w W W2 : World} {S S2 S' : Nat -> Prop}
theorem Kept.of_below (h : Below w.heap.size w W) (S : Nat -> Prop) : Kept w W S := ⟨h.size, fun i hi _ => h.block i hi⟩
theorem Kept.mono (h : Kept w W S) (hs : ∀ k, S k -> S' k) : Kept w W S' := ⟨h.1, fun i hi hn => h.2 i hi (fun hk => hn (hs i hk))⟩
theorem Kept.then_ (h : Kept w W S) (k : Kept W W2 S2) (hs : ∀ k, S2 k -> S k \/ w.heap.size <= k) : Kept w W2 S :=
 ⟨Nat.le_trans h.1 k.1, fun i hi hn => (k.2 i (Nat.lt_of_lt_of_le hi h.1) (fun h2 => (hs i h2).elim hn (fun h3 => by omega))).trans (h.2 i hi hn)⟩
theorem Kept.below (h : Kept w W S) (hb : Below W.heap.size W W2) : Kept w W2 S := h.then_ (Kept.of_below hb (fun _ => False)) (fun _ hk => hk.elim)
theorem Kept.alloc (h : Kept w W S) (o : Obj) : Kept w (W.alloc o) S := h.below (zas (zpw _ _) o)
theorem Kept.drew (h : Kept w W S) : Kept w W.drew S := h
theorem Kept.setCell (h : Kept w W S) {p : Addr} (hp : S p.block \/ w.heap.size <= p.block) (u : Value) : Kept w (W.setCell p u) S :=
 h.then_ (S2 := fun k => k = p.block) ⟨by simp [World.setCell], fun i _ hn => Below.heap_setCell W p u i hn⟩ (fun k hk => by rw [hk]; exact hp)
end
namespace Kd
section
variable {α : Type} {d : Kd α} {e base n c : Nat} {ok oki S S2 : Nat -> Prop} {w w0 W W1 W2 : World} {v : Value} {A : Option Addr} {xs : List α} {i : Int} {cs : List Value}
end
end Kd
end YtdpgdnpddndeoaaGreatDoorW.PrintWords
namespace YtdpgdnpddndeoaaGreatDoorW.PrintWords
open Go.RowKit
def Foot (P : World -> Prop) (W : World) (ok : Nat -> Prop) : Prop := ∀ W' : World, (∀ k, ok k -> k < W.heap.size -> W'.heap[k]? = W.heap[k]?) -> P W'
theorem zly {W W1 : World} {k : Nat} (h : W1.heap[k]? = W.heap[k]?) (hlt : k < W.heap.size) : k < W1.heap.size := by
 rw [Array.getElem?_eq_getElem hlt] at h; exact (zpy.1 h).1
namespace Foot
variable {P Q : World -> Prop} {W W1 : World} {ok ok' : Nat -> Prop}
theorem now (h : Foot P W ok) : P W := h W (fun _ _ _ => rfl)
theorem mono (h : Foot P W ok) (hok : ∀ k, ok k -> ok' k) : Foot P W ok' := fun W' hW => h W' (fun k hk hlt => hW k (hok k hk) hlt)
theorem bound (h : Foot P W ok) : Foot P W (fun k => ok k /\ k < W.heap.size) := fun W' hW => h W' (fun k hk hlt => hW k ⟨hk, hlt⟩ hlt)
theorem step (h : Foot P W ok) (hm : ∀ k, ok k -> k < W.heap.size -> W1.heap[k]? = W.heap[k]?) : Foot P W1 ok := fun W' hW => h W' (fun k hk hlt => (hW k hk (zly (hm k hk hlt) hlt)).trans (hm k hk hlt))
theorem imp (h : Foot P W ok) (hi : ∀ W', P W' -> Q W') : Foot Q W ok := fun W' hW => hi W' (h W' hW)
theorem old (h : Foot P W ok) (hb : Below W.heap.size W W1) : Foot P W1 (fun k => ok k /\ k < W.heap.size) := (h.bound).step (fun k _ hlt => hb.block k hlt)
end Foot
namespace Kd
def F {α : Type} (d : Kd α) (W : World) (ok : Nat -> Prop) (A : Option Addr) (n : Nat) (xs : List α) : Prop := Foot (fun W => d.C W A n xs) W ok
def FK {α : Type} (d : Kd α) (W : World) (ok : Nat -> Prop) (x : α) (c : List Value) : Prop := Foot (fun W => d.K W x c) W ok
section
variable {α β : Type} {d : Kd α} {e base n n' cc g N : Nat} {ok ok' okp S : Nat -> Prop} {w w0 w1 W W1 : World} {A A' : Option Addr} {u v v1 : Value} {xs : List α} {xs' : List β} {d' : Kd β} {x : α} {c : List Value}
theorem F_now (h : F d W ok A n xs) : d.C W A n xs := Foot.now h
theorem F_mono (h : F d W ok A n xs) (hok : ∀ k, ok k -> ok' k) : F d W ok' A n xs := Foot.mono h hok
theorem zma (h : F d W ok A n xs) (hm : ∀ k, ok k -> k < W.heap.size -> W1.heap[k]? = W.heap[k]?) : F d W1 ok A n xs := Foot.step h hm
theorem F_imp (h : F d W ok A n xs) (hi : ∀ W', d.C W' A n xs -> d'.C W' A' n' xs') : F d' W ok A' n' xs' := Foot.imp h hi
theorem zk2 (h : F d W ok A n xs) (hb : Below W.heap.size W W1) : F d W1 ok A n xs := zma h (fun k _ hlt => hb.block k hlt)
theorem F_drew (h : F d W ok A n xs) : F d W.drew ok A n xs := zk2 h (zaM (zpw _ _))
theorem F_nil (d : Kd α) (W : World) (ok : Nat -> Prop) : F d W ok none ([] : List α).length [] := fun W' _ => C_nil d W'
theorem R_F (h : d.R e W base ok (.slice A n cc) xs) : F d W ok A n xs := fun W' hW => by
 have h2 := R_reads' (R_step h hW); rw [h2.1]; exact h2.2.2
theorem FK_now (h : FK d W ok x c) : d.K W x c := Foot.now h
theorem FK_mono (h : FK d W ok x c) (hok : ∀ k, ok k -> ok' k) : FK d W ok' x c := Foot.mono h hok
theorem FK_step (h : FK d W ok x c) (hm : ∀ k, ok k -> k < W.heap.size -> W1.heap[k]? = W.heap[k]?) : FK d W1 ok x c := Foot.step h hm
theorem FK_below (h : FK d W ok x c) (hb : Below W.heap.size W W1) : FK d W1 ok x c := FK_step h (fun k _ hlt => hb.block k hlt)
theorem zmv (h : d.M W base ok x c) : FK d W ok x c := fun _ hW => d.K_of_M (zhL h hW)
end
end Kd
end YtdpgdnpddndeoaaGreatDoorW.PrintWords
namespace YtdpgdnpddndeoaaGreatDoorW.PrintWords
open Go.RowKit
namespace Kd
def zda (sz : Nat) (n : Nat) (inner : List Value) : List (List Value) := (List.range n).map fun j => (inner.drop (j * sz)).take sz
theorem zef (sz n : Nat) (inner : List Value) : (zda sz n inner).length = n := by simp [zda]
theorem zlj {sz n : Nat} {inner : List Value} {j : Nat} (hj : j < n) : (zda sz n inner)[j]? = some ((inner.drop (j * sz)).take sz) := by simp [zda, hj]
theorem zhW {sz n : Nat} {inner : List Value} {j : Nat} {c : List Value} (h : (zda sz n inner)[j]? = some c) : c = (inner.drop (j * sz)).take sz := by
 have hj : j < n := by have := (zpS.1 h).1; rwa [zef] at this
 rw [zlj hj] at h; injection h with h; exact h.symm
theorem zoM {α : Type} {Rr : α -> List Value -> Prop} {sz : Nat} {xs : List α} {inner : List Value} (h : Reps Rr sz xs inner) (hR : ∀ x c, Rr x c -> c.length = sz /\ ∀ u ∈ c, u.oneCell' = true) : Reps (fun x cs => cs = x /\ cs.length = sz /\ ∀ u ∈ cs, u.oneCell' = true) sz (zda sz xs.length inner) inner := by
 refine ⟨by rw [zef]; exact h.1, fun j p hj => ?_⟩
 have hjl : j < xs.length := by have := (zpS.1 hj).1; rwa [zef] at this
 have hp := zhW hj; exact ⟨hp.symm, hR _ _ (h.2 j _ (zpA hjl))⟩
section
variable {α : Type} {d : Kd α} {e base n cc g : Nat} {ok ok' okp S : Nat -> Prop} {w w1 W W1 : World} {A : Option Addr} {u v v1 : Value} {xs : List α} {x : α} {c : List Value}
def N {α : Type} (d : Kd α) (e : Nat) (w : World) (base : Nat) (ok : Nat -> Prop) (v : Value) (xs : List α) : Prop :=
 (∀ k, v.ownBlock = some k -> ok k) /\ ∃ rows : List (List Value), rows.length = xs.length /\ (raw d.sz).R e w base (fun k => some k = v.ownBlock) v rows /\ ∀ (j : Nat) (x : α) (c : List Value), xs[j]? = some x -> rows[j]? = some c -> FK d w (fun k => ok k /\ some k ≠ v.ownBlock) x c
theorem zkG {sz : Nat} {rows : List (List Value)} (h : (raw sz).R e w base ok v rows) : (raw sz).R e w base (fun k => some k = v.ownBlock) v rows := R_tight rfl h
theorem znZ {sz : Nat} {rows : List (List Value)} (h : (raw sz).R e w base ok v rows) : (raw sz).R e w base (fun _ => True) v rows := R_mono h (fun _ _ => trivial)
theorem R_N (h : d.R e w base ok v xs) : N d e w base ok v xs := by
 obtain ⟨h0, inner, ho, hr⟩ := h; refine ⟨h0, zda d.sz xs.length inner, zef _ _ _, ⟨fun k hk => hk.symm, inner, by rw [zef]; exact ho, zoM hr (fun x c hp => ⟨d.K_len (d.K_of_M hp), d.K_one (d.K_of_M hp)⟩)⟩, fun j x c hx hc => ?_⟩
 rw [zhW hc]; exact zmv (hr.2 j x hx)
theorem N_nil (d : Kd α) (e : Nat) (w : World) (base : Nat) (ok : Nat -> Prop) : N d e w base ok (.slice none 0 0) [] := R_N (R_nil _ _ _ _ _)
theorem zfg (h : N d e w base ok v xs) (hm : ∀ k, ok k -> k < w.heap.size -> w1.heap[k]? = w.heap[k]?) : N d e w1 base ok v xs := by
 obtain ⟨h0, rows, hl, hR, hf⟩ := h; exact ⟨h0, rows, hl, R_step hR (fun k hk hlt => hm k (h0 k hk.symm) hlt), fun j x c hx hc => FK_step (hf j x c hx hc) (fun k hk hlt => hm k hk.1 hlt)⟩
theorem zj1 (h : N d e w base ok v xs) (hb : Below w.heap.size w w1) : N d e w1 base ok v xs := zfg h (fun k _ hk => hb.block k hk)
theorem N_drew (h : N d e w base ok v xs) : N d e w.drew base ok v xs := zj1 h (zaM (zpw _ _))
theorem N_far (h : N d e w base ok v xs) {p : Addr} (hok : ∀ k, ok k -> k ≠ p.block) (u : Value) : N d e (w.setCell p u) base ok v xs := zfg h (fun k ho _ => Below.heap_setCell w p u k (hok k ho))
theorem N_form (h : N d e w base ok v xs) (hp : 0 < xs.length) : ∃ g cap, v = .slice (some ⟨g, 0, none⟩) xs.length cap /\ base <= g /\ g < w.heap.size /\ ∃ cells, w.heap[g]? = some (.cells cells e (0, 0)) := by
 obtain ⟨_, rows, hl, hR, _⟩ := h; rw [<- hl] at hp |-; exact R_form hR hp
theorem N_reads' {n c : Nat} (h : N d e w base ok (.slice A n c) xs) : n = xs.length /\ n <= c /\ d.C w A xs.length xs := by
 obtain ⟨_, rows, hl, hR, hf⟩ := h; obtain ⟨hn, hc, hC⟩ := R_reads' hR; refine ⟨by omega, hc, ?_⟩
 rw [hl] at hC; refine ⟨rfl, hC.2.1, fun hp => ?_⟩
 obtain ⟨ad, he, hcell⟩ := hC.2.2 hp; refine ⟨ad, he, fun j p hj => ?_⟩
 have hjl : j < rows.length := by have := (zpS.1 hj).1; omega
 obtain ⟨c', hcl, hK, hcc⟩ := hcell j _ (zpA hjl); have hk := FK_now (hf j p _ hj (zpA hjl)); refine ⟨c', hcl, ?_, hcc⟩; rw [show c' = rows[j] from hK.1]
 exact hk
theorem N_F {n : Nat} (h : N d e w base ok (.slice A n cc) xs) : F d w ok A n xs := fun W' hW => by
 have h2 := N_reads' (zfg h hW); rw [h2.1]; exact h2.2.2
theorem N_elem {n cap : Nat} (h : N d e W base ok (.slice (some ⟨g, 0, none⟩) n cap) xs) (z : α) (i : Int) (h0 : 0 <= i) (h1 : i < n) :
 ∃ c, c.length = d.sz /\ FK d W (fun k => ok k /\ k ≠ g) (xs.getD i.toNat z) c /\ (∀ j u, c[j]? = some u -> W.cell? ⟨g, i.toNat * d.sz + j, none⟩ = some u) /\ ∀ j, W.frozen? ⟨g, i.toNat * d.sz + j, none⟩ = false := by
 obtain ⟨_, rows, hl, hR, hf⟩ := h; have hn := (R_reads' hR).1; obtain ⟨c, hcl, hM, hcc, hfr⟩ := R_elem hR [] i h0 h1; have hil : i.toNat < rows.length := by omega
 have hil' : i.toNat < xs.length := by omega
 have hc : c = rows[i.toNat] := by
  have h2 := hM.1; rwa [zpB, zpA hil] at h2
 refine ⟨c, hcl, ?_, hcc, hfr⟩; rw [zpB, zpA hil']; exact FK_mono (hf _ _ _ (zpA hil') (by rw [hc]; exact zpA hil)) (fun k hk => ⟨hk.1, fun he => hk.2 (by rw [he]; simp [Value.ownBlock])⟩)
end
end Kd
end YtdpgdnpddndeoaaGreatDoorW.PrintWords
namespace YtdpgdnpddndeoaaGreatDoorW.PrintWords
open Go.RowKit
namespace Kd
section
variable {α : Type} {d : Kd α} {e base n cap g : Nat} {ok ok' okp : Nat -> Prop} {w w1 W : World} {v v1 : Value} {xs ys : List α}
theorem zkn {rows : List (List Value)} {i : Int} {x' : α} {c' : List Value} (h0 : ∀ k, (Value.slice (some ⟨g, 0, none⟩) n cap).ownBlock = some k -> ok k) (hl : rows.length = xs.length) (hf : ∀ (j : Nat) (x : α) (c : List Value), xs[j]? = some x -> rows[j]? = some c -> FK d W (fun k => ok k /\ some k ≠ (Value.slice (some ⟨g, 0, none⟩) n cap).ownBlock) x c)
 (hR : (raw d.sz).R e w1 base (fun _ => True) (.slice (some ⟨g, 0, none⟩) n cap) (rows.set i.toNat c')) (hg : W.grownBy w1 (some g)) (hM : FK d W okp x' c') (hokp : ∀ k, okp k -> ok k /\ k ≠ g) : N d e w1 base ok (.slice (some ⟨g, 0, none⟩) n cap) (xs.set i.toNat x') := by
 have hgo : some g = (Value.slice (some ⟨g, 0, none⟩) n cap).ownBlock := by simp [Value.ownBlock]
 refine ⟨h0, rows.set i.toNat c', by rw [zp4, zp4, hl], zkG hR, fun j x c hx hc => ?_⟩
 have hjl : j < xs.length := by have := (zpS.1 hx).1; rwa [zp4] at this
 by_cases hji : j = i.toNat
 . subst hji
   rw [List.getElem?_set_self hjl] at hx; rw [List.getElem?_set_self (by omega)] at hc
   injection hx with hx; injection hc with hc; rw [<- hx, <- hc]; exact FK_mono (FK_step hM (fun k hk hlt => hg.block k hlt (fun he => (hokp k hk).2 (by injection he)))) (fun k hk => ⟨(hokp k hk).1, fun he => (hokp k hk).2 (by rw [<- hgo] at he; injection he)⟩)
 . rw [List.getElem?_set_ne (Ne.symm hji)] at hx hc
   exact FK_step (hf j x c hx hc) (fun k hk hlt => hg.block k hlt (by rw [hgo]; exact hk.2))
theorem N_seg (h : N d e W base ok (.slice (some ⟨g, 0, none⟩) n cap) xs) (i : Int) (h0 : 0 <= i) (h1 : i < n) {c seg : List Value} {j : Nat} (hcl : c.length = d.sz) (hcc : ∀ j u, c[j]? = some u -> W.cell? ⟨g, i.toNat * d.sz + j, none⟩ = some u)
 (hj : j + seg.length <= d.sz) {x' : α} (hM : FK d W okp x' (c.take j ++ seg ++ c.drop (j + seg.length))) (hokp : ∀ k, okp k -> ok k /\ k ≠ g) :
 N d e (W.setCells g (i.toNat * d.sz + j) seg) base ok (.slice (some ⟨g, 0, none⟩) n cap) (xs.set i.toNat x') /\ W.grownBy (W.setCells g (i.toNat * d.sz + j) seg) (some g) := by
 obtain ⟨hown, rows, hl, hR, hf⟩ := h; obtain ⟨h2, h3⟩ := zit (znZ hR) i h0 h1 (c := c) (seg := seg) (j := j) (x' := c.take j ++ seg ++ c.drop (j + seg.length)) (okp := fun _ => False) hcl hcc hj ⟨rfl, d.K_len (FK_now hM), d.K_one (FK_now hM)⟩ (fun _ hk => hk.elim)
 exact ⟨zkn hown hl hf h2 h3 hM hokp, h3⟩
end
section
variable {P : Program} {ops : Array Oper} {rest : List Oper} {o : Oper} {a : Act} {Q : Exit -> Act -> World -> Prop} {Kc : Act -> World -> Prop} {α : Type}
end
end Kd
end YtdpgdnpddndeoaaGreatDoorW.PrintWords
namespace YtdpgdnpddndeoaaGreatDoorW.PrintMore
open Go.RowKit YtdpgdnpddndeoaaGreatDoorW.PrintWords
namespace Kd
open YtdpgdnpddndeoaaGreatDoorW.PrintWords.Kd
section
variable {α : Type} {d : Kd α} {e base g N : Nat} {ok : Nat -> Prop} {W w1 : World} {u v : Value} {xs : List α}
end
end Kd
theorem zdr (k k' : IntKind) (x y : Int) : Builtin.max2 (.int k x) (.int k' y) = pure (.int k (if x < y then y else x)) := by simp only [Builtin.max2, gt_iff_lt]
theorem zdw (k k' : IntKind) (x y : Int) : Builtin.min2 (.int k x) (.int k' y) = pure (.int k (if y < x then y else x)) := by simp only [Builtin.min2]
theorem zdx (ats : Array TypeId) (ty : TypeId) (a b : Value) : Builtin.max_ ats ty #[a, b] = (Builtin.max2 a b >>= fun s => pure s) := by simp only [Builtin.max_, zp8, zp9]
theorem zdE (ats : Array TypeId) (ty : TypeId) (a b : Value) : Builtin.min_ ats ty #[a, b] = (Builtin.min2 a b >>= fun s => pure s) := by simp only [Builtin.min_, zp8, zp9]
theorem zdl (ats : Array TypeId) (ty : TypeId) (a b c : Value) : Builtin.max_ ats ty #[a, b, c] = (Builtin.max2 a b >>= fun s => Builtin.max2 s c >>= fun s => pure s) := by simp only [Builtin.max_, zp8, zp9]
theorem zdC (ats : Array TypeId) (ty : TypeId) (a b c : Value) : Builtin.min_ ats ty #[a, b, c] = (Builtin.min2 a b >>= fun s => Builtin.min2 s c >>= fun s => pure s) := by simp only [Builtin.min_, zp8, zp9]
theorem zdm (ats : Array TypeId) (ty : TypeId) (a b c d : Value) : Builtin.max_ ats ty #[a, b, c, d] = (Builtin.max2 a b >>= fun s => Builtin.max2 s c >>= fun s => Builtin.max2 s d >>= fun s => pure s) := by simp only [Builtin.max_, zp8, zp9]
theorem zdD (ats : Array TypeId) (ty : TypeId) (a b c d : Value) : Builtin.min_ ats ty #[a, b, c, d] = (Builtin.min2 a b >>= fun s => Builtin.min2 s c >>= fun s => Builtin.min2 s d >>= fun s => pure s) := by simp only [Builtin.min_, zp8, zp9]
end YtdpgdnpddndeoaaGreatDoorW.PrintMore
namespace YtdpgdnpddndeoaaGreatDoorW.PrintWords
open Go.RowKit
section
variable {P : Program} {ops : Array Oper} {rest : List Oper} {o : Oper} {a : Act} {Q : Exit -> Act -> World -> Prop} {W : World}
theorem zbU {f : FuncId} {as_ : Array Operand} {ts : Array TypeId} (_ho : o.op = .call { callee := .value (.func f), args := as_, argTypes := ts }) (h : wpList P ops Q (o :: rest) a W) : wpList P ops Q (o :: rest) a W := h
theorem zaG {b : Builtin} {xs : Array Operand} {ts : Array TypeId} (_ho : o.op = .call { callee := .builtin b, args := xs, argTypes := ts }) (h : wpList P ops Q (o :: rest) a W) : wpList P ops Q (o :: rest) a W := h
end
def mx (a b : Int) : Int := if a < b then b else a
def mn (a b : Int) : Int := if b < a then b else a
theorem zc2 {W w1 : World} {row : Option Nat} (hg : W.grownBy w1 row) {a : Addr} {v : Value} (h : W.cell? a = some v) (hne : some a.block ≠ row) : w1.cell? a = some v := by
 have := hg.block a.block (zpu W a h) hne; simpa [World.cell?, this] using h
namespace Kd
section
variable {α : Type} {d : Kd α} {e base : Nat} {ok : Nat -> Prop} {W w1 : World} {v : Value} {xs : List α}
end
section
variable {α : Type} {d : Kd α} {e base g n cap : Nat} {ok oki okp : Nat -> Prop} {W : World} {xs : List α} {i : Int} {c : List Value}
end
section
variable {α : Type} {d : Kd α} {e base b b' g N : Nat} {ok ok1 : Nat -> Prop} {W W2 w1 : World} {u v : Value} {xs ys : List α} {S : Nat -> Prop}
end
end Kd
end YtdpgdnpddndeoaaGreatDoorW.PrintWords
namespace YtdpgdnpddndeoaaGreatDoorW.PrintWords
open Go.RowKit
namespace Kd
def V {α : Type} (d : Kd α) (_e : Nat) (W : World) (_base : Nat) (ok : Nat -> Prop) (v : Value) (xs : List α) : Prop := ∃ A c, v = .slice A xs.length c /\ xs.length <= c /\ F d W ok A xs.length xs
section
variable {α β : Type} {d : Kd α} {e base base' n m c g N' lo hi : Nat} {ok ok' S : Nat -> Prop} {w W w1 : World} {A : Option Addr} {ad : Addr} {u v v1 : Value} {xs : List α}
theorem V_nil (d : Kd α) (e : Nat) (W : World) (base : Nat) (ok : Nat -> Prop) : V d e W base ok (.slice none 0 0) [] := ⟨none, 0, rfl, Nat.le_refl _, F_nil d W ok⟩
end
end Kd
end YtdpgdnpddndeoaaGreatDoorW.PrintWords
namespace YtdpgdnpddndeoaaGreatDoorW.PrintLast
open YtdpgdnpddndeoaaGreatDoorW.PrintWords (Aside0)
section
variable {md : Region.Mode} {ops : Array Oper} {T : Bool × List (List Nat × List Nat)} {l l' li lj lk : Array Bool} {ds : List Nat} {i j k : Nat}
end
end YtdpgdnpddndeoaaGreatDoorW.PrintLast
namespace YtdpgdnpddndeoaaGreatDoorW.PrintLast
section
variable {P : Program} {ops : Array Oper} {Q : Exit -> Act -> World -> Prop} {md : Region.Mode} {S : World -> Prop} {ds : List Nat} {T : Bool × List (List Nat × List Nat)}
end
end YtdpgdnpddndeoaaGreatDoorW.PrintLast
namespace YtdpgdnpddndeoaaGreatDoorW.PrintWords
open Go.RowKit
namespace Kd
section
variable {α : Type} {d : Kd α} {W : World} {g n : Nat} {S ok : Nat -> Prop} {A : Option Addr} {ad : Addr} {xs : List α}
end
end Kd
end YtdpgdnpddndeoaaGreatDoorW.PrintWords
namespace YtdpgdnpddndeoaaGreatDoorW.PrintWords
open Go.RowKit
section
variable {w w' u : World} {m B g : Nat} {o : Obj} {row : Option Nat} {S : Nat -> Prop} {a : Addr} {v : Value}
end
namespace Kd
section
variable {α : Type} {d : Kd α} {e base n m : Nat} {ok : Nat -> Prop} {w w' : World} {v : Value} {A : Option Addr} {xs : List α}
end
end Kd
end YtdpgdnpddndeoaaGreatDoorW.PrintWords
namespace YtdpgdnpddndeoaaGreatDoorW.PrintWords
open Go.RowKit
section
variable {P : Program} {d : Nat} {xs ys : Array Value} {f : Field} {fs : List Field} {a b : Value} {r s : Bool} {w : World}
end
end YtdpgdnpddndeoaaGreatDoorW.PrintWords
namespace YtdpgdnpddndeoaaGreatDoorW.PrintWords
theorem Reps.one {α : Type} {R : α -> List Value -> Prop} {ps : List α} {cs : List Value} {p : α} {v : Value} (hp : R p [v]) (h : Reps R 1 ps cs) : Reps R 1 (p :: ps) (v :: cs) := by
 refine ⟨by simp [h.1], fun j q hq => ?_⟩
 cases j with
 | zero =>
  simp only [List.getElem?_cons_zero, Option.some.injEq] at hq; subst hq; simpa using hp
 | succ j =>
  simp only [List.getElem?_cons_succ] at hq; have h1 := h.2 j q hq; simpa [Nat.mul_one] using h1
theorem Reps.front {α : Type} {R : α -> List Value -> Prop} {size : Nat} {ps : List α} {cs c all : List Value} {p : α} (hp : R p c) (hc : c.length = size) (h : Reps R size ps cs) (ha : c ++ cs = all) : Reps R size (p :: ps) all := by
 subst ha; refine ⟨by rw [List.length_append, hc, h.1, List.length_cons, Nat.succ_mul, Nat.add_comm], fun j q hq => ?_⟩
 cases j with
 | zero =>
  simp only [List.getElem?_cons_zero, Option.some.injEq] at hq; subst hq; rw [Nat.zero_mul, List.drop_zero, List.take_append_of_le_length (by omega), List.take_of_length_le (by omega)]
  exact hp
 | succ j =>
  simp only [List.getElem?_cons_succ] at hq; have h1 := h.2 j q hq; rw [Nat.succ_mul, List.drop_append, List.drop_of_length_le (by rw [hc]; exact Nat.le_add_left _ _), List.nil_append, hc, Nat.add_sub_cancel]
  exact h1
theorem Reps.c2 {α : Type} {R : α -> List Value -> Prop} {ps : List α} {cs : List Value} {p : α} {va vb : Value} (hp : R p [va, vb]) (h : Reps R 2 ps cs) : Reps R 2 (p :: ps) (va :: vb :: cs) := Reps.front hp rfl h rfl
theorem Reps.c3 {α : Type} {R : α -> List Value -> Prop} {ps : List α} {cs : List Value} {p : α} {va vb vc : Value} (hp : R p [va, vb, vc]) (h : Reps R 3 ps cs) : Reps R 3 (p :: ps) (va :: vb :: vc :: cs) := Reps.front hp rfl h rfl
theorem Reps.c4 {α : Type} {R : α -> List Value -> Prop} {ps : List α} {cs : List Value} {p : α} {va vb vc vd : Value} (hp : R p [va, vb, vc, vd]) (h : Reps R 4 ps cs) : Reps R 4 (p :: ps) (va :: vb :: vc :: vd :: cs) := Reps.front hp rfl h rfl
theorem Reps.c5 {α : Type} {R : α -> List Value -> Prop} {ps : List α} {cs : List Value} {p : α} {va vb vc vd ve : Value} (hp : R p [va, vb, vc, vd, ve]) (h : Reps R 5 ps cs) : Reps R 5 (p :: ps) (va :: vb :: vc :: vd :: ve :: cs) := Reps.front hp rfl h rfl
theorem Reps.c6 {α : Type} {R : α -> List Value -> Prop} {ps : List α} {cs : List Value} {p : α} {va vb vc vd ve vf : Value} (hp : R p [va, vb, vc, vd, ve, vf]) (h : Reps R 6 ps cs) : Reps R 6 (p :: ps) (va :: vb :: vc :: vd :: ve :: vf :: cs) := Reps.front hp rfl h rfl
theorem Reps.c7 {α : Type} {R : α -> List Value -> Prop} {ps : List α} {cs : List Value} {p : α} {va vb vc vd ve vf vg : Value} (hp : R p [va, vb, vc, vd, ve, vf, vg]) (h : Reps R 7 ps cs) : Reps R 7 (p :: ps) (va :: vb :: vc :: vd :: ve :: vf :: vg :: cs) := Reps.front hp rfl h rfl
theorem Reps.c8 {α : Type} {R : α -> List Value -> Prop} {ps : List α} {cs : List Value} {p : α} {va vb vc vd ve vf vg vh : Value} (hp : R p [va, vb, vc, vd, ve, vf, vg, vh]) (h : Reps R 8 ps cs) : Reps R 8 (p :: ps) (va :: vb :: vc :: vd :: ve :: vf :: vg :: vh :: cs) := Reps.front hp rfl h rfl
theorem Reps.c9 {α : Type} {R : α -> List Value -> Prop} {ps : List α} {cs : List Value} {p : α} {va vb vc vd ve vf vg vh vi : Value} (hp : R p [va, vb, vc, vd, ve, vf, vg, vh, vi]) (h : Reps R 9 ps cs) : Reps R 9 (p :: ps) (va :: vb :: vc :: vd :: ve :: vf :: vg :: vh :: vi :: cs) := Reps.front hp rfl h rfl
theorem Reps.c10 {α : Type} {R : α -> List Value -> Prop} {ps : List α} {cs : List Value} {p : α} {va vb vc vd ve vf vg vh vi vj : Value} (hp : R p [va, vb, vc, vd, ve, vf, vg, vh, vi, vj]) (h : Reps R 10 ps cs) : Reps R 10 (p :: ps) (va :: vb :: vc :: vd :: ve :: vf :: vg :: vh :: vi :: vj :: cs) := Reps.front hp rfl h rfl
end YtdpgdnpddndeoaaGreatDoorW.PrintWords
namespace YtdpgdnpddndeoaaGreatDoorW.PrintLast
section
variable {P : Program} {ops : Array Oper} {Q : Exit -> Act -> World -> Prop} {md : Region.Mode} {T : Bool × List (List Nat × List Nat)} {B : List Nat} {O : List Nat} {b : Nat -> Bool} {i j n : Nat}
end
end YtdpgdnpddndeoaaGreatDoorW.PrintLast
namespace YtdpgdnpddndeoaaGreatDoorW.PrintWords
open Go.RowKit
end YtdpgdnpddndeoaaGreatDoorW.PrintWords
namespace YtdpgdnpddndeoaaGreatDoorW.PrintLast
section
variable {ops : Array Oper} {a : Act} {o og : Oper} {g : Nat} {t : Tmp} {u : Bool}
end
end YtdpgdnpddndeoaaGreatDoorW.PrintLast
namespace YtdpgdnpddndeoaaGreatDoorW.PrintWords
open Go.RowKit
section
variable {P : Program} {ops : Array Oper} {rest : List Oper} {o : Oper} {a : Act} {Q : Exit -> Act -> World -> Prop} {W : World}
end
end YtdpgdnpddndeoaaGreatDoorW.PrintWords
namespace YtdpgdnpddndeoaaGreatDoorW.PrintWords
open Go.ChangeShapes Go.WideShapes
end YtdpgdnpddndeoaaGreatDoorW.PrintWords
namespace YtdpgdnpddndeoaaGreatDoor.X
open Go.RowKit YtdpgdnpddndeoaaGreatDoorW.PrintWords YtdpgdnpddndeoaaGreatDoorW.PrintLast YtdpgdnpddndeoaaGreatDoorW.PrintMore
theorem info3 : (Tryz.prog.info? 3).map (fun i => (i.zero, i.size, i.bytes)) = some (some (.int .i64 0), 1, 8) := by kernel_rfl
theorem zhA : (Tryz.prog.info? 4).map (fun i => (i.zero, i.size, i.bytes)) = some (some (.bool false), 1, 1) := by kernel_rfl
theorem zem : (Tryz.prog.info? 9).map (fun i => (i.zero, i.size, i.bytes)) = some (some (.string ⟨#[]⟩), 1, 16) := by kernel_rfl
theorem zgm : (Tryz.prog.info? 24).map (fun i => (i.zero, i.size, i.bytes)) = some (some (.agg #[(.string ⟨#[]⟩), (.int .i64 0), (.slice none 0 0), (.slice none 0 0), (.int .i64 0)]), 5, 80) := by kernel_rfl
theorem zc4 : (Tryz.prog.info? 34).map (fun i => (i.zero, i.size, i.bytes)) = some (some (.agg #[(.bool false), (.string ⟨#[]⟩)]), 2, 24) := by kernel_rfl
theorem zhH : (Tryz.prog.info? 45).map (fun i => (i.zero, i.size, i.bytes)) = some (some (.agg #[(.string ⟨#[]⟩), (.slice none 0 0), (.slice none 0 0), (.slice none 0 0), (.slice none 0 0)]), 5, 112) := by kernel_rfl
structure S34 where
 f0 : Bool
 f1 : ByteArray
def z34 : S34 := ⟨false, (⟨#[]⟩ : ByteArray)⟩
def k34 : Kd S34 := Kd.iso (Kd.pair Kd.bool zqb) (fun x : S34 => (x.f0, x.f1))
theorem znE {w : World} {x : S34} {cs : List Value} (h : k34.K w x cs) : cs = [.bool x.f0, .string x.f1] := by
 obtain ⟨_, _, rfl, rfl, rfl⟩ := h; exact rfl
theorem zfS (w : World) (x : S34)  : k34.K w x [.bool x.f0, .string x.f1] := ⟨[.bool x.f0], [.string x.f1], rfl, rfl, rfl⟩
theorem zcY (w : World) (base : Nat) (ok : Nat -> Prop) (x : S34)  : k34.M w base ok x [.bool x.f0, .string x.f1] := ⟨[.bool x.f0], [.string x.f1], rfl, rfl, rfl⟩
def za9 (xs : List S34) (i : Int) : S34 := xs.getD i.toNat z34
theorem zeW {w : World} {A : Option Addr} {n : Nat} {xs : List S34} (h : Kd.C k34 w A n xs) (i : Int) (h0 : 0 <= i) (h1 : i < n) : ∃ ad , A = some ad /\ w.cell? (ad.add (i.toNat * 2)) = some (.bool (za9 xs i).f0) /\ w.cell? ⟨(ad.add (i.toNat * 2)).block, (ad.add (i.toNat * 2)).off + 1, none⟩ = some (.string (za9 xs i).f1) := by
 obtain ⟨ad, c, e, _, hK, hc0⟩ := Kd.C_get h z34 i h0 h1; have hc : ∀ j u, c[j]? = some u -> w.cell? (ad.add (i.toNat * 2 + j)) = some u := hc0; obtain rfl := znE hK; exact ⟨ad, e, hc 0 _ rfl, by rw [<- zca _ _ 1 (by omega)]; exact hc 1 _ rfl⟩
structure S24 where
 f0 : ByteArray
 f1 : Int
 f2 : (List ByteArray)
 f3 : (List ByteArray)
 f4 : Int
def z24 : S24 := ⟨(⟨#[]⟩ : ByteArray), (0 : Int), ([] : List ByteArray), ([] : List ByteArray), (0 : Int)⟩
def k24 : Kd S24 := Kd.iso (Kd.pair zqb (Kd.pair (Kd.int .i64) (Kd.pair (Kd.slice 9 zqb) (Kd.pair (Kd.slice 9 zqb) (Kd.int .i64))))) (fun x : S24 => (x.f0, x.f1, x.f2, x.f3, x.f4))
theorem zdd {w : World} {x : S24} {cs : List Value} (h : k24.K w x cs) : ∃ A2 c2 A3 c3, cs = [.string x.f0, .int .i64 x.f1, .slice A2 x.f2.length c2, .slice A3 x.f3.length c3, .int .i64 x.f4] /\ x.f2.length <= c2 /\ Kd.string.C w A2 x.f2.length x.f2 /\ x.f3.length <= c3 /\ Kd.string.C w A3 x.f3.length x.f3 := by
 obtain ⟨_, _, rfl, rfl, ⟨_, _, rfl, rfl, ⟨_, _, rfl, ⟨A2, c2, rfl, l2, g2⟩, ⟨_, _, rfl, ⟨A3, c3, rfl, l3, g3⟩, rfl⟩⟩⟩⟩ := h; exact ⟨A2, c2, A3, c3, rfl, l2, g2, l3, g3⟩
theorem zf0 (w : World) (x : S24) {A2 : Option Addr} {c2 : Nat} (l2 : x.f2.length <= c2) (g2 : Kd.string.C w A2 x.f2.length x.f2) {A3 : Option Addr} {c3 : Nat} (l3 : x.f3.length <= c3) (g3 : Kd.string.C w A3 x.f3.length x.f3) : k24.K w x [.string x.f0, .int .i64 x.f1, .slice A2 x.f2.length c2, .slice A3 x.f3.length c3, .int .i64 x.f4] := ⟨[.string x.f0], [.int .i64 x.f1, .slice A2 x.f2.length c2, .slice A3 x.f3.length c3, .int .i64 x.f4], rfl, rfl, ⟨[.int .i64 x.f1], [.slice A2 x.f2.length c2, .slice A3 x.f3.length c3, .int .i64 x.f4], rfl, rfl, ⟨[.slice A2 x.f2.length c2], [.slice A3 x.f3.length c3, .int .i64 x.f4], rfl, ⟨A2, c2, rfl, l2, g2⟩, ⟨[.slice A3 x.f3.length c3], [.int .i64 x.f4], rfl, ⟨A3, c3, rfl, l3, g3⟩, rfl⟩⟩⟩⟩
theorem zfz (w : World) (base : Nat) (ok : Nat -> Prop) (x : S24) {v2 : Value} (g2 : Kd.string.R 9 w base ok v2 x.f2) {v3 : Value} (g3 : Kd.string.R 9 w base ok v3 x.f3) : k24.M w base ok x [.string x.f0, .int .i64 x.f1, v2, v3, .int .i64 x.f4] := ⟨[.string x.f0], [.int .i64 x.f1, v2, v3, .int .i64 x.f4], rfl, rfl, ⟨[.int .i64 x.f1], [v2, v3, .int .i64 x.f4], rfl, rfl, ⟨[v2], [v3, .int .i64 x.f4], rfl, ⟨v2, rfl, g2⟩, ⟨[v3], [.int .i64 x.f4], rfl, ⟨v3, rfl, g3⟩, rfl⟩⟩⟩⟩
theorem zlo {W : World} {ok : Nat -> Prop} {x : S24} {cs : List Value} (h : Kd.FK k24 W ok x cs) : ∃ A2 c2 A3 c3, cs = [.string x.f0, .int .i64 x.f1, .slice A2 x.f2.length c2, .slice A3 x.f3.length c3, .int .i64 x.f4] /\ x.f2.length <= c2 /\ Kd.F zqb W ok A2 x.f2.length x.f2 /\ x.f3.length <= c3 /\ Kd.F zqb W ok A3 x.f3.length x.f3 := by
 obtain ⟨A2, c2, A3, c3, rfl, l2, _, l3, _⟩ := zdd (Kd.FK_now h); exact ⟨A2, c2, A3, c3, rfl, l2, (fun W' hW => by obtain ⟨A2_, c2_, A3_, c3_, he, l2_, g2_, l3_, g3_⟩ := zdd (h W' hW); injection (zp6 (show some (Value.slice A2 x.f2.length c2) = some (Value.slice A2_ x.f2.length c2_) from congrArg (fun l => l[2]?) he)) with ha_ _ _; rw [ha_]; exact g2_), l3, (fun W' hW => by obtain ⟨A2_, c2_, A3_, c3_, he, l2_, g2_, l3_, g3_⟩ := zdd (h W' hW); injection (zp6 (show some (Value.slice A3 x.f3.length c3) = some (Value.slice A3_ x.f3.length c3_) from congrArg (fun l => l[3]?) he)) with ha_ _ _; rw [ha_]; exact g3_)⟩
theorem zmx (W : World) (ok : Nat -> Prop) (x : S24) {A2 : Option Addr} {c2 : Nat} (l2 : x.f2.length <= c2) (g2 : Kd.F zqb W ok A2 x.f2.length x.f2) {A3 : Option Addr} {c3 : Nat} (l3 : x.f3.length <= c3) (g3 : Kd.F zqb W ok A3 x.f3.length x.f3) : Kd.FK k24 W ok x [.string x.f0, .int .i64 x.f1, .slice A2 x.f2.length c2, .slice A3 x.f3.length c3, .int .i64 x.f4] := fun W2 hW => zf0 W2 x l2 (g2 W2 hW) l3 (g3 W2 hW)
def zbP (xs : List S24) (i : Int) : S24 := xs.getD i.toNat z24
theorem zfo {w : World} {A : Option Addr} {n : Nat} {xs : List S24} (h : Kd.C k24 w A n xs) (i : Int) (h0 : 0 <= i) (h1 : i < n) : ∃ ad A2 c2 A3 c3, A = some ad /\ w.cell? (ad.add (i.toNat * 5)) = some (.string (zbP xs i).f0) /\ w.cell? ⟨(ad.add (i.toNat * 5)).block, (ad.add (i.toNat * 5)).off + 1, none⟩ = some (.int .i64 (zbP xs i).f1) /\ w.cell? ⟨(ad.add (i.toNat * 5)).block, (ad.add (i.toNat * 5)).off + 2, none⟩ = some (.slice A2 (zbP xs i).f2.length c2) /\ w.cell? ⟨(ad.add (i.toNat * 5)).block, (ad.add (i.toNat * 5)).off + 3, none⟩ = some (.slice A3 (zbP xs i).f3.length c3) /\ w.cell? ⟨(ad.add (i.toNat * 5)).block, (ad.add (i.toNat * 5)).off + 4, none⟩ = some (.int .i64 (zbP xs i).f4) /\ (zbP xs i).f2.length <= c2 /\ Kd.string.C w A2 (zbP xs i).f2.length (zbP xs i).f2 /\ (zbP xs i).f3.length <= c3 /\ Kd.string.C w A3 (zbP xs i).f3.length (zbP xs i).f3 := by
 obtain ⟨ad, c, e, _, hK, hc0⟩ := Kd.C_get h z24 i h0 h1; have hc : ∀ j u, c[j]? = some u -> w.cell? (ad.add (i.toNat * 5 + j)) = some u := hc0; obtain ⟨A2, c2, A3, c3, rfl, l2, g2, l3, g3⟩ := zdd hK; exact ⟨ad, A2, c2, A3, c3, e, hc 0 _ rfl, by rw [<- zca _ _ 1 (by omega)]; exact hc 1 _ rfl, by rw [<- zca _ _ 2 (by omega)]; exact hc 2 _ rfl, by rw [<- zca _ _ 3 (by omega)]; exact hc 3 _ rfl, by rw [<- zca _ _ 4 (by omega)]; exact hc 4 _ rfl, l2, g2, l3, g3⟩
structure S139 where
 f0 : Int
 f1 : Int
 f2 : ByteArray
def z139 : S139 := ⟨(0 : Int), (0 : Int), (⟨#[]⟩ : ByteArray)⟩
def k139 : Kd S139 := Kd.iso (Kd.pair (Kd.int .i64) (Kd.pair (Kd.int .i64) zqb)) (fun x : S139 => (x.f0, x.f1, x.f2))
theorem zhO {w : World} {x : S139} {cs : List Value} (h : k139.K w x cs) : cs = [.int .i64 x.f0, .int .i64 x.f1, .string x.f2] := by
 obtain ⟨_, _, rfl, rfl, ⟨_, _, rfl, rfl, rfl⟩⟩ := h; exact rfl
theorem ziB (w : World) (base : Nat) (ok : Nat -> Prop) (x : S139)  : k139.M w base ok x [.int .i64 x.f0, .int .i64 x.f1, .string x.f2] := ⟨[.int .i64 x.f0], [.int .i64 x.f1, .string x.f2], rfl, rfl, ⟨[.int .i64 x.f1], [.string x.f2], rfl, rfl, rfl⟩⟩
def zfT (xs : List S139) (i : Int) : S139 := xs.getD i.toNat z139
theorem zfR {w : World} {A : Option Addr} {n : Nat} {xs : List S139} (h : Kd.C k139 w A n xs) (i : Int) (h0 : 0 <= i) (h1 : i < n) : ∃ ad , A = some ad /\ w.cell? (ad.add (i.toNat * 3)) = some (.int .i64 (zfT xs i).f0) /\ w.cell? ⟨(ad.add (i.toNat * 3)).block, (ad.add (i.toNat * 3)).off + 1, none⟩ = some (.int .i64 (zfT xs i).f1) /\ w.cell? ⟨(ad.add (i.toNat * 3)).block, (ad.add (i.toNat * 3)).off + 2, none⟩ = some (.string (zfT xs i).f2) := by
 obtain ⟨ad, c, e, _, hK, hc0⟩ := Kd.C_get h z139 i h0 h1; have hc : ∀ j u, c[j]? = some u -> w.cell? (ad.add (i.toNat * 3 + j)) = some u := hc0; obtain rfl := zhO hK; exact ⟨ad, e, hc 0 _ rfl, by rw [<- zca _ _ 1 (by omega)]; exact hc 1 _ rfl, by rw [<- zca _ _ 2 (by omega)]; exact hc 2 _ rfl⟩
structure S45 where
 f0 : ByteArray
 f1 : (List ByteArray)
 f2 : (List ByteArray)
 f3 : (List ByteArray)
 f4 : (List S24)
def z45 : S45 := ⟨(⟨#[]⟩ : ByteArray), ([] : List ByteArray), ([] : List ByteArray), ([] : List ByteArray), ([] : List S24)⟩
def k45 : Kd S45 := Kd.iso (Kd.pair zqb (Kd.pair (Kd.slice 9 zqb) (Kd.pair (Kd.slice 9 zqb) (Kd.pair (Kd.slice 9 zqb) (Kd.slice 24 k24))))) (fun x : S45 => (x.f0, x.f1, x.f2, x.f3, x.f4))
theorem zcB {w : World} {x : S45} {cs : List Value} (h : k45.K w x cs) : ∃ A1 c1 A2 c2 A3 c3 A4 c4, cs = [.string x.f0, .slice A1 x.f1.length c1, .slice A2 x.f2.length c2, .slice A3 x.f3.length c3, .slice A4 x.f4.length c4] /\ x.f1.length <= c1 /\ Kd.string.C w A1 x.f1.length x.f1 /\ x.f2.length <= c2 /\ Kd.string.C w A2 x.f2.length x.f2 /\ x.f3.length <= c3 /\ Kd.string.C w A3 x.f3.length x.f3 /\ x.f4.length <= c4 /\ k24.C w A4 x.f4.length x.f4 := by
 obtain ⟨_, _, rfl, rfl, ⟨_, _, rfl, ⟨A1, c1, rfl, l1, g1⟩, ⟨_, _, rfl, ⟨A2, c2, rfl, l2, g2⟩, ⟨_, _, rfl, ⟨A3, c3, rfl, l3, g3⟩, ⟨A4, c4, rfl, l4, g4⟩⟩⟩⟩⟩ := h; exact ⟨A1, c1, A2, c2, A3, c3, A4, c4, rfl, l1, g1, l2, g2, l3, g3, l4, g4⟩
theorem zeC (w : World) (x : S45) {A1 : Option Addr} {c1 : Nat} (l1 : x.f1.length <= c1) (g1 : Kd.string.C w A1 x.f1.length x.f1) {A2 : Option Addr} {c2 : Nat} (l2 : x.f2.length <= c2) (g2 : Kd.string.C w A2 x.f2.length x.f2) {A3 : Option Addr} {c3 : Nat} (l3 : x.f3.length <= c3) (g3 : Kd.string.C w A3 x.f3.length x.f3) {A4 : Option Addr} {c4 : Nat} (l4 : x.f4.length <= c4) (g4 : k24.C w A4 x.f4.length x.f4) : k45.K w x [.string x.f0, .slice A1 x.f1.length c1, .slice A2 x.f2.length c2, .slice A3 x.f3.length c3, .slice A4 x.f4.length c4] := ⟨[.string x.f0], [.slice A1 x.f1.length c1, .slice A2 x.f2.length c2, .slice A3 x.f3.length c3, .slice A4 x.f4.length c4], rfl, rfl, ⟨[.slice A1 x.f1.length c1], [.slice A2 x.f2.length c2, .slice A3 x.f3.length c3, .slice A4 x.f4.length c4], rfl, ⟨A1, c1, rfl, l1, g1⟩, ⟨[.slice A2 x.f2.length c2], [.slice A3 x.f3.length c3, .slice A4 x.f4.length c4], rfl, ⟨A2, c2, rfl, l2, g2⟩, ⟨[.slice A3 x.f3.length c3], [.slice A4 x.f4.length c4], rfl, ⟨A3, c3, rfl, l3, g3⟩, ⟨A4, c4, rfl, l4, g4⟩⟩⟩⟩⟩
theorem zh5 (w : World) (base : Nat) (ok : Nat -> Prop) (x : S45) {v1 : Value} (g1 : Kd.string.R 9 w base ok v1 x.f1) {v2 : Value} (g2 : Kd.string.R 9 w base ok v2 x.f2) {v3 : Value} (g3 : Kd.string.R 9 w base ok v3 x.f3) {v4 : Value} (g4 : k24.R 24 w base ok v4 x.f4) : k45.M w base ok x [.string x.f0, v1, v2, v3, v4] := ⟨[.string x.f0], [v1, v2, v3, v4], rfl, rfl, ⟨[v1], [v2, v3, v4], rfl, ⟨v1, rfl, g1⟩, ⟨[v2], [v3, v4], rfl, ⟨v2, rfl, g2⟩, ⟨[v3], [v4], rfl, ⟨v3, rfl, g3⟩, ⟨v4, rfl, g4⟩⟩⟩⟩⟩
theorem zkl {W : World} {ok : Nat -> Prop} {x : S45} {cs : List Value} (h : Kd.FK k45 W ok x cs) : ∃ A1 c1 A2 c2 A3 c3 A4 c4, cs = [.string x.f0, .slice A1 x.f1.length c1, .slice A2 x.f2.length c2, .slice A3 x.f3.length c3, .slice A4 x.f4.length c4] /\ x.f1.length <= c1 /\ Kd.F zqb W ok A1 x.f1.length x.f1 /\ x.f2.length <= c2 /\ Kd.F zqb W ok A2 x.f2.length x.f2 /\ x.f3.length <= c3 /\ Kd.F zqb W ok A3 x.f3.length x.f3 /\ x.f4.length <= c4 /\ Kd.F k24 W ok A4 x.f4.length x.f4 := by
 obtain ⟨A1, c1, A2, c2, A3, c3, A4, c4, rfl, l1, _, l2, _, l3, _, l4, _⟩ := zcB (Kd.FK_now h); exact ⟨A1, c1, A2, c2, A3, c3, A4, c4, rfl, l1, (fun W' hW => by obtain ⟨A1_, c1_, A2_, c2_, A3_, c3_, A4_, c4_, he, l1_, g1_, l2_, g2_, l3_, g3_, l4_, g4_⟩ := zcB (h W' hW); injection (zp6 (show some (Value.slice A1 x.f1.length c1) = some (Value.slice A1_ x.f1.length c1_) from congrArg (fun l => l[1]?) he)) with ha_ _ _; rw [ha_]; exact g1_), l2, (fun W' hW => by obtain ⟨A1_, c1_, A2_, c2_, A3_, c3_, A4_, c4_, he, l1_, g1_, l2_, g2_, l3_, g3_, l4_, g4_⟩ := zcB (h W' hW); injection (zp6 (show some (Value.slice A2 x.f2.length c2) = some (Value.slice A2_ x.f2.length c2_) from congrArg (fun l => l[2]?) he)) with ha_ _ _; rw [ha_]; exact g2_), l3, (fun W' hW => by obtain ⟨A1_, c1_, A2_, c2_, A3_, c3_, A4_, c4_, he, l1_, g1_, l2_, g2_, l3_, g3_, l4_, g4_⟩ := zcB (h W' hW); injection (zp6 (show some (Value.slice A3 x.f3.length c3) = some (Value.slice A3_ x.f3.length c3_) from congrArg (fun l => l[3]?) he)) with ha_ _ _; rw [ha_]; exact g3_), l4, (fun W' hW => by obtain ⟨A1_, c1_, A2_, c2_, A3_, c3_, A4_, c4_, he, l1_, g1_, l2_, g2_, l3_, g3_, l4_, g4_⟩ := zcB (h W' hW); injection (zp6 (show some (Value.slice A4 x.f4.length c4) = some (Value.slice A4_ x.f4.length c4_) from congrArg (fun l => l[4]?) he)) with ha_ _ _; rw [ha_]; exact g4_)⟩
theorem zn5 (W : World) (ok : Nat -> Prop) (x : S45) {A1 : Option Addr} {c1 : Nat} (l1 : x.f1.length <= c1) (g1 : Kd.F zqb W ok A1 x.f1.length x.f1) {A2 : Option Addr} {c2 : Nat} (l2 : x.f2.length <= c2) (g2 : Kd.F zqb W ok A2 x.f2.length x.f2) {A3 : Option Addr} {c3 : Nat} (l3 : x.f3.length <= c3) (g3 : Kd.F zqb W ok A3 x.f3.length x.f3) {A4 : Option Addr} {c4 : Nat} (l4 : x.f4.length <= c4) (g4 : Kd.F k24 W ok A4 x.f4.length x.f4) : Kd.FK k45 W ok x [.string x.f0, .slice A1 x.f1.length c1, .slice A2 x.f2.length c2, .slice A3 x.f3.length c3, .slice A4 x.f4.length c4] := fun W2 hW => zeC W2 x l1 (g1 W2 hW) l2 (g2 W2 hW) l3 (g3 W2 hW) l4 (g4 W2 hW)
def zbw (xs : List S45) (i : Int) : S45 := xs.getD i.toNat z45
theorem zie {w : World} {A : Option Addr} {n : Nat} {xs : List S45} (h : Kd.C k45 w A n xs) (i : Int) (h0 : 0 <= i) (h1 : i < n) : ∃ ad A1 c1 A2 c2 A3 c3 A4 c4, A = some ad /\ w.cell? (ad.add (i.toNat * 5)) = some (.string (zbw xs i).f0) /\ w.cell? ⟨(ad.add (i.toNat * 5)).block, (ad.add (i.toNat * 5)).off + 1, none⟩ = some (.slice A1 (zbw xs i).f1.length c1) /\ w.cell? ⟨(ad.add (i.toNat * 5)).block, (ad.add (i.toNat * 5)).off + 2, none⟩ = some (.slice A2 (zbw xs i).f2.length c2) /\ w.cell? ⟨(ad.add (i.toNat * 5)).block, (ad.add (i.toNat * 5)).off + 3, none⟩ = some (.slice A3 (zbw xs i).f3.length c3) /\ w.cell? ⟨(ad.add (i.toNat * 5)).block, (ad.add (i.toNat * 5)).off + 4, none⟩ = some (.slice A4 (zbw xs i).f4.length c4) /\ (zbw xs i).f1.length <= c1 /\ Kd.string.C w A1 (zbw xs i).f1.length (zbw xs i).f1 /\ (zbw xs i).f2.length <= c2 /\ Kd.string.C w A2 (zbw xs i).f2.length (zbw xs i).f2 /\ (zbw xs i).f3.length <= c3 /\ Kd.string.C w A3 (zbw xs i).f3.length (zbw xs i).f3 /\ (zbw xs i).f4.length <= c4 /\ k24.C w A4 (zbw xs i).f4.length (zbw xs i).f4 := by
 obtain ⟨ad, c, e, _, hK, hc0⟩ := Kd.C_get h z45 i h0 h1; have hc : ∀ j u, c[j]? = some u -> w.cell? (ad.add (i.toNat * 5 + j)) = some u := hc0; obtain ⟨A1, c1, A2, c2, A3, c3, A4, c4, rfl, l1, g1, l2, g2, l3, g3, l4, g4⟩ := zcB hK; exact ⟨ad, A1, c1, A2, c2, A3, c3, A4, c4, e, hc 0 _ rfl, by rw [<- zca _ _ 1 (by omega)]; exact hc 1 _ rfl, by rw [<- zca _ _ 2 (by omega)]; exact hc 2 _ rfl, by rw [<- zca _ _ 3 (by omega)]; exact hc 3 _ rfl, by rw [<- zca _ _ 4 (by omega)]; exact hc 4 _ rfl, l1, g1, l2, g2, l3, g3, l4, g4⟩
structure S77 where
 f0 : ByteArray
 f1 : ByteArray
def z77 : S77 := ⟨(⟨#[]⟩ : ByteArray), (⟨#[]⟩ : ByteArray)⟩
def k77 : Kd S77 := Kd.iso (Kd.pair zqb zqb) (fun x : S77 => (x.f0, x.f1))
theorem zmY {w : World} {x : S77} {cs : List Value} (h : k77.K w x cs) : cs = [.string x.f0, .string x.f1] := by
 obtain ⟨_, _, rfl, rfl, rfl⟩ := h; exact rfl
theorem zeX (w : World) (x : S77)  : k77.K w x [.string x.f0, .string x.f1] := ⟨[.string x.f0], [.string x.f1], rfl, rfl, rfl⟩
def zeP (xs : List S77) (i : Int) : S77 := xs.getD i.toNat z77
theorem znY {w : World} {A : Option Addr} {n : Nat} {xs : List S77} (h : Kd.C k77 w A n xs) (i : Int) (h0 : 0 <= i) (h1 : i < n) : ∃ ad , A = some ad /\ w.cell? (ad.add (i.toNat * 2)) = some (.string (zeP xs i).f0) /\ w.cell? ⟨(ad.add (i.toNat * 2)).block, (ad.add (i.toNat * 2)).off + 1, none⟩ = some (.string (zeP xs i).f1) := by
 obtain ⟨ad, c, e, _, hK, hc0⟩ := Kd.C_get h z77 i h0 h1; have hc : ∀ j u, c[j]? = some u -> w.cell? (ad.add (i.toNat * 2 + j)) = some u := hc0; obtain rfl := zmY hK; exact ⟨ad, e, hc 0 _ rfl, by rw [<- zca _ _ 1 (by omega)]; exact hc 1 _ rfl⟩
end YtdpgdnpddndeoaaGreatDoor.X
namespace YtdpgdnpddndeoaaGreatDoor.X
open Go.RowKit YtdpgdnpddndeoaaGreatDoorW.PrintWords
theorem zaX {w : World} {A : Option Addr} {l : List ByteArray} (h : Kd.C zqb w A l.length l) :
 l = [] \/ ∃ b o, A = some ⟨b, o, none⟩ /\ b < w.heap.size /\ ∀ j, j < l.length -> w.cell? ⟨b, o + j, none⟩ = some (.string (l.getD j zqa)) := by
 rcases Nat.eq_zero_or_pos l.length with h0 | h0
 . exact .inl (List.eq_nil_of_length_eq_zero h0)
 . obtain ⟨ad, rfl, hc⟩ := h.2.2 h0
   have hx : ∀ j, j < l.length -> w.cell? (ad.add j) = some (.string (l.getD j zqa)) := by
    intro j hj; obtain ⟨c, _, hk, hcell⟩ := hc j _ (zpA hj); have hk' : c = [.string l[j]] := hk; subst hk'; have := hcell 0 _ rfl; have e : l.getD j zqa = l[j] := by simp [zpB, zpA hj]
    rw [e]; simpa [show Kd.string.sz = 1 from rfl] using this
   obtain ⟨b, o, sp⟩ := ad; have h00 := hx 0 h0; have hs : sp = none := by
    cases sp with
    | none => rfl
    | some s =>
     exfalso
     unfold Addr.add at h00; simp [World.cell?] at h00
     split at h00 <;> simp at h00
   subst hs; refine .inr ⟨b, o, rfl, ?_, fun j hj => ?_⟩
   . have := zpu w _ h00
     unfold Addr.add at this; simpa using this
   . have := hx j hj
     unfold Addr.add at this; by_cases e : j = 0
     . subst e; simpa using this
     . rwa [if_neg e] at this
def zd2 (g : Nat) (lb : Array Value) (p : ByteArray -> Bool) (w : World) : Prop :=
 ∀ (W : World) (x : ByteArray), Below w.heap.size w W -> Calls zp5 g (#[.string x] ++ lb) W fun e w' => e = .returned (.bool (p x)) /\ Below W.heap.size W w'
theorem ziC (g : Nat) (lb : Array Value) (eg : ∀ args w, (callFunc g args).run zp5 w = .ok (.enter g args) w) (p : ByteArray -> Bool) (A : Option Addr) (c : Nat) (l : List ByteArray) (w : World)
 (hr : Kd.C zqb w A l.length l) (hp : zd2 g lb p w) :
 Calls zp5 76 #[.slice A l.length c, .func (.func g) #[] lb] w fun e w' => ∃ i : Int, e = .returned (.int .i64 i) /\ decide (0 <= i) = l.any p /\ (i = -1 \/ 0 <= i) /\ Below w.heap.size w w' := by
 have hlen : l.length <= 9223372036854775807 := hr.2.1; rcases zaX hr with rfl | ⟨b, o, rfl, hb, hcell⟩
 . clear hr hp
   go_enter Tryz.func76, Tryz.ntmps76
   go_wp2; go_loopg [5, 8] 0 (fun _ _ s8 wr => s8 = .int .i64 0 /\ wr = w)
   case atStart => exact ⟨rfl, rfl⟩
   case round =>
    obtain ⟨rfl, rfl⟩ := hrel; go_wp2; go_ret
    exact ⟨-1, rfl, by simp, .inl rfl, zpw _ _⟩
 . clear hr
   have HP := zpt hp; clear hp; have HC := zpt hcell; clear hcell; go_enter Tryz.func76, Tryz.ntmps76
   go_wp2; go_loopg [5, 8] l.length (fun gg _ s8 wr => ∃ kk : Nat, kk <= l.length /\ l.length - kk <= gg /\ s8 = .int .i64 kk /\ Aside0 (Below w.heap.size w wr) /\ Aside0 (∀ j, j < kk -> p (l.getD j zqa) = false))
   case atStart => exact ⟨0, Nat.zero_le _, by omega, rfl, ⟨zpw _ _⟩, ⟨fun j hj => absurd hj (Nat.not_lt_zero _)⟩⟩
   case round =>
    obtain ⟨kk, hkk, hgk, rfl, HB, HA⟩ := hrel; by_cases hlt : kk < l.length
    . have hltz : (kk : Int) < (l.length : Int) := by omega
      have hx : wr.cell? ⟨b, o + kk, none⟩ = some (.string (l.getD kk zqa)) := zad HB.out (HC.out kk hlt); obtain ⟨y, hy⟩ : ∃ y, y = l.getD kk zqa := ⟨_, rfl⟩; rw [<- hy] at hx; have HY := zpt hy; clear hy; have hcall := HP.out wr y HB.out; cases hq : p y with
      | true =>
       rw [hq] at hcall; have HQ := zpt hq; clear hq; go_wp2_with (go_at_fn g; refine hcall.mono ?_; rintro e w2 ⟨rfl, hb2⟩)
       go_ret
       refine ⟨kk, rfl, ?_, .inr (by omega), zac HB.out HB.out.size hb2⟩
       have : l.any p = true := List.any_eq_true.2 ⟨y, by rw [HY.out]; simp [zpB, zpA hlt], HQ.out⟩
       rw [this]; simp
      | false =>
       rw [hq] at hcall; have HQ := zpt hq; clear hq; go_wp2_with (go_at_fn g; refine hcall.mono ?_; rintro e w2 ⟨rfl, hb2⟩)
       go_roundg (l.length - (kk + 1))
       case measure => omega
       case rel =>
        refine ⟨kk + 1, by omega, by omega, by go_num, ⟨zac HB.out HB.out.size hb2⟩, ⟨fun j hj => ?_⟩⟩
        by_cases e : j = kk
        . subst e
          rw [<- HY.out]; exact HQ.out
        . exact HA.out j (by omega)
    . have hltz : ¬ (kk : Int) < (l.length : Int) := by omega
      have : kk = l.length := by omega
      subst this; go_wp2; go_ret
      refine ⟨-1, rfl, ?_, .inl rfl, HB.out⟩; have : l.any p = false := by
       rw [Bool.eq_false_iff]; intro h; obtain ⟨x, hx, hpx⟩ := List.any_eq_true.1 h; obtain ⟨j, hj, rfl⟩ := List.getElem_of_mem hx; have := HA.out j hj; simp [zpB, zpA hj] at this
       rw [this] at hpx; cases hpx
      rw [this]; simp
theorem zdM (g : Nat) (lb : Array Value) (eg : ∀ args w, (callFunc g args).run zp5 w = .ok (.enter g args) w) (p : ByteArray -> Bool) (A : Option Addr) (c : Nat) (l : List ByteArray) (w : World)
 (hr : Kd.C zqb w A l.length l) (hp : zd2 g lb p w) :
 Calls zp5 56 #[.slice A l.length c, .func (.func g) #[] lb] w fun e w' => e = .returned (.bool (l.any p)) /\ Below w.heap.size w w' := by
 have hI := ziC g lb eg p A c l w hr hp; clear hr hp; generalize l.any p = q at *; go_enter Tryz.func56, Tryz.ntmps56
 go_wp2_with (go_at_call 76; refine hI.mono ?_; rintro e w2 ⟨i, rfl, hq, _, hb2⟩)
 go_ret
 exact ⟨by rw [<- hq]; rfl, hb2⟩
end YtdpgdnpddndeoaaGreatDoor.X
namespace YtdpgdnpddndeoaaGreatDoor.Pa
open YtdpgdnpddndeoaaGreatDoor.X
open Go.RowKit YtdpgdnpddndeoaaGreatDoorW.PrintWords YtdpgdnpddndeoaaGreatDoorW.PrintLast YtdpgdnpddndeoaaGreatDoorW.PrintMore
attribute [local go_sem] zdr zdw zdx zdE zdl zdC zdm zdD   -- for this text's walks alone
def errW : Option Int -> Value
 | none => .nilIface
 | some c => .iface 0 (.int .i64 c)
theorem zbm : errW none = .nilIface := rfl
theorem zbp (c : Int) : errW (some c) = .iface 0 (.int .i64 c) := rfl
-- the values' own types
attribute [local go_sem] zdr zdw zdx zdE zdl zdC zdm zdD   -- for this text's walks alone
def path_sign.f (a0 : Int) : Option (Bool) := some ((decide (97 <= a0) && decide (a0 <= 122)) || (decide (65 <= a0) && decide (a0 <= 90)) || (decide (48 <= a0) && decide (a0 <= 57)) || a0 == 46 || a0 == 95 || a0 == 45)
theorem path_sign.calls (a0 : Int) (r : Bool) (w : World) (_ : GOK w) (h : path_sign.f a0 = some r) :
 Calls zp5 174 #[.int .i32 a0] w fun e w' => e = .returned (.bool r) /\ Drawn0 w w' := by
 obtain rfl := zp6 h; clear h; go_enter Tryz.func174, Tryz.ntmps174
 go_wp2; all_goals
  go_ret
  exact ⟨congrArg (fun b => Ending.returned (Value.bool b)) (by first | (rw [Bool.eq_iff_iff]; done) | (rw [Bool.eq_iff_iff]; simp <;> omega)), by repeat (first | exact Drawn0.refl _ | apply Drawn0.step)⟩
def path_bad_1.f (a0 : Int) : Option (Bool) := (path_sign.f a0).bind fun t101 => (some (!t101))
theorem path_bad_1.calls (a0 : Int) (r : Bool) (w : World) (hG : GOK w) (h : path_bad_1.f a0 = some r) :
 Calls zp5 173 #[.int .i32 a0] w fun e w' => e = .returned (.bool r) /\ Drawn0 w w' := by
 have HG := Aside0.mk hG; clear hG; have H : ((path_sign.f a0).bind fun t101 => (some (!t101))) = some r := h
 clear h; replace H := Option.bind_eq_some_iff.mp H
 obtain ⟨t101, A20, H⟩ := H; replace H : (some (!t101)) = some r := H
 have A2 := Aside0.mk A20; clear A20; obtain rfl := zp6 H; go_enter Tryz.func173, Tryz.ntmps173
 go_wp2_with (first | ((with_reducible refine zbU (f := 174) rfl ?_); refine zbS (some 4) rfl rfl Tryz.func174 (by kernel_rfl) rfl #[.int .i32 a0] rfl (by (try simp only [List.map_toArray, List.map_cons, List.map_nil]); first | done | rfl | (simp only [List.length_drop, List.length_take]; rfl)) ?_; (with_reducible refine (path_sign.calls a0 t101 _ ?side99 A2.out).mono ?_); (case side99 => first | exact HG.out | exact GOK.drewN HG.out _); rintro e w' ⟨rfl, ⟨nd, rfl⟩⟩; refine ⟨_, rfl, ?_⟩))
 go_ret
 exact ⟨by first | rfl | (simp; done) | (simp [*]; done), by repeat (first | exact Drawn0.refl _ | apply Drawn0.step)⟩
def path_Join_1.f (a0 : ByteArray) : Option (Bool) := some (a0.toList == ([] : List UInt8))
theorem path_Join_1.calls (a0 : ByteArray) (r : Bool) (w : World) (hG : GOK w) (h : path_Join_1.f a0 = some r) :
 Calls zp5 224 #[.string a0] w fun e w' => e = .returned (.bool r) /\ Drawn0 w w' := by
 have HG := Aside0.mk hG; clear hG; have H : (some (a0.toList == ([] : List UInt8))) = some r := h; clear h; obtain rfl := zp6 H; go_enter Tryz.func224, Tryz.ntmps224
 go_wp2; go_ret
 exact ⟨by first | rfl | (simp; done) | (simp [*]; done), by repeat (first | exact Drawn0.refl _ | apply Drawn0.step)⟩
end YtdpgdnpddndeoaaGreatDoor.Pa
section
open Go.Shelf
def Tryz.laysM146_ren : Go.Shelf.Ren := ⟨fun | 146 => 57 | 221 => 77 | 268 => 120 | 138 => 121 | 143 => 122 | 195 => 151 | 197 => 152 | 218 => 153 | 219 => 154 | 260 => 202 | 217 => 203 | 225 => 204 | 224 => 205 | 267 => 206 | 266 => 228 | 314 => 229 | n => n, fun | 9 => 9 | 31 => 22 | 3 => 3 | 4 => 4 | 0 => 0 | 105 => 177 | 21 => 21 | 5 => 5 | 46 => 160 | 119 => 233 | 139 => 236 | 138 => 235 | 146 => 237 | 51 => 191 | n => n, fun | 1 => 0 | 3 => 1 | 4 => 2 | n => n⟩
theorem Tryz.laysM146 : Go.Proofs.LaysM.n146 zp5 Tryz.laysM146_ren := {
 mixed := by kernel_rfl
 f138 := Tryz.func121.trans (congrArg some (by kernel_rfl))
 f143 := Tryz.func122.trans (congrArg some (by kernel_rfl))
 f146 := Tryz.func57.trans (congrArg some (by kernel_rfl))
 f195 := Tryz.func151.trans (congrArg some (by kernel_rfl))
 f197 := Tryz.func152.trans (congrArg some (by kernel_rfl))
 f217 := Tryz.func203.trans (congrArg some (by kernel_rfl))
 f218 := Tryz.func153.trans (congrArg some (by kernel_rfl))
 f219 := Tryz.func154.trans (congrArg some (by kernel_rfl))
 f221 := Tryz.func77.trans (congrArg some (by kernel_rfl))
 f224 := Tryz.func205.trans (congrArg some (by kernel_rfl))
 f225 := Tryz.func204.trans (congrArg some (by kernel_rfl))
 f260 := Tryz.func202.trans (congrArg some (by kernel_rfl))
 f266 := Tryz.func228.trans (congrArg some (by kernel_rfl))
 f267 := Tryz.func206.trans (congrArg some (by kernel_rfl))
 f268 := Tryz.func120.trans (congrArg some (by kernel_rfl))
 f314 := Tryz.func229.trans (congrArg some (by kernel_rfl))
 t0 := Tryz.underlying0
 a0 := Tryz.isAgg0
 z0 := Tryz.sizeOf0
 v0 := Tryz.zeroValue0
 t3 := Tryz.underlying3
 a3 := Tryz.isAgg3
 z3 := Tryz.sizeOf3
 v3 := Tryz.zeroValue3
 t4 := Tryz.underlying4
 a4 := Tryz.isAgg4
 z4 := Tryz.sizeOf4
 v4 := Tryz.zeroValue4
 t5 := Tryz.underlying5
 a5 := Tryz.isAgg5
 z5 := Tryz.sizeOf5
 v5 := Tryz.zeroValue5
 t9 := Tryz.underlying9
 a9 := Tryz.isAgg9
 z9 := Tryz.sizeOf9
 v9 := Tryz.zeroValue9
 t21 := Tryz.underlying21
 a21 := Tryz.isAgg21
 z21 := Tryz.sizeOf21
 v21 := Tryz.zeroValue21
 t31 := Tryz.underlying22
 a31 := Tryz.isAgg22
 z31 := Tryz.sizeOf22
 v31 := Tryz.zeroValue22
 t46 := Tryz.underlying160
 a46 := Tryz.isAgg160
 z46 := Tryz.sizeOf160
 v46 := Tryz.zeroValue160
 t51 := Tryz.underlying191
 a51 := Tryz.isAgg191
 z51 := Tryz.sizeOf191
 v51 := Tryz.zeroValue191
 t105 := Tryz.underlying177
 a105 := Tryz.isAgg177
 z105 := Tryz.sizeOf177
 v105 := Tryz.zeroValue177
 t119 := Tryz.underlying233
 a119 := Tryz.isAgg233
 z119 := Tryz.sizeOf233
 t138 := Tryz.underlying235
 a138 := Tryz.isAgg235
 z138 := Tryz.sizeOf235
 v138 := Tryz.zeroValue235
 t139 := Tryz.underlying236
 a139 := Tryz.isAgg236
 z139 := Tryz.sizeOf236
 v139 := Tryz.zeroValue236
 t146 := Tryz.underlying237
 a146 := Tryz.isAgg237
 z146 := Tryz.sizeOf237
 v146 := Tryz.zeroValue237
 g1 := by kernel_rfl
 g3 := by kernel_rfl
 g4 := by kernel_rfl
 i0 := by kernel_rfl
 i3 := by kernel_rfl
 i4 := by kernel_rfl
 i5 := by kernel_rfl
 i9 := by kernel_rfl
 i21 := by kernel_rfl
 i31 := by kernel_rfl
 i46 := by kernel_rfl
 i51 := by kernel_rfl
 i105 := by kernel_rfl
 i138 := by kernel_rfl
 i139 := by kernel_rfl
 i146 := by kernel_rfl
 m1 := by kernel_rfl
 s1_3 := fun w h => Go.Proofs.cell_of_shapedOpen_int (zero := #[.int .i64 0]) (t := 3) h (of_decide_eq_true (by kernel_rfl)) (by kernel_rfl) rfl (by kernel_rfl) (by kernel_rfl) Tryz.underlying3
 m3 := by kernel_rfl
 m4 := by kernel_rfl }
def Tryz.lays145_ren : Go.Shelf.Ren := ⟨fun | 145 => 222 | 220 => 237 | 219 => 154 | 217 => 203 | 225 => 204 | 224 => 205 | 267 => 206 | 266 => 228 | 314 => 229 | n => n, fun | 9 => 9 | 4 => 4 | 59 => 228 | 3 => 3 | 5 => 5 | 46 => 160 | 146 => 237 | 51 => 191 | n => n, fun | 1 => 0 | n => n⟩
theorem Tryz.lays145 : Go.Proofs.Lays.n145 zp5 Tryz.lays145_ren := {
 mixed := by kernel_rfl
 f145 := Tryz.func222.trans (congrArg some (by kernel_rfl))
 f217 := Tryz.func203.trans (congrArg some (by kernel_rfl))
 f219 := Tryz.func154.trans (congrArg some (by kernel_rfl))
 f220 := Tryz.func237.trans (congrArg some (by kernel_rfl))
 f224 := Tryz.func205.trans (congrArg some (by kernel_rfl))
 f225 := Tryz.func204.trans (congrArg some (by kernel_rfl))
 f266 := Tryz.func228.trans (congrArg some (by kernel_rfl))
 f267 := Tryz.func206.trans (congrArg some (by kernel_rfl))
 f314 := Tryz.func229.trans (congrArg some (by kernel_rfl))
 t3 := Tryz.underlying3
 a3 := Tryz.isAgg3
 z3 := Tryz.sizeOf3
 v3 := Tryz.zeroValue3
 t4 := Tryz.underlying4
 a4 := Tryz.isAgg4
 z4 := Tryz.sizeOf4
 v4 := Tryz.zeroValue4
 t5 := Tryz.underlying5
 a5 := Tryz.isAgg5
 z5 := Tryz.sizeOf5
 v5 := Tryz.zeroValue5
 t9 := Tryz.underlying9
 a9 := Tryz.isAgg9
 z9 := Tryz.sizeOf9
 v9 := Tryz.zeroValue9
 t46 := Tryz.underlying160
 a46 := Tryz.isAgg160
 z46 := Tryz.sizeOf160
 v46 := Tryz.zeroValue160
 t51 := Tryz.underlying191
 a51 := Tryz.isAgg191
 z51 := Tryz.sizeOf191
 v51 := Tryz.zeroValue191
 t59 := Tryz.underlying228
 a59 := Tryz.isAgg228
 z59 := Tryz.sizeOf228
 v59 := Tryz.zeroValue228
 t146 := Tryz.underlying237
 a146 := Tryz.isAgg237
 z146 := Tryz.sizeOf237
 v146 := Tryz.zeroValue237
 g1 := by kernel_rfl }
def Tryz.lays156_ren : Go.Shelf.Ren := ⟨fun | 156 => 83 | 165 => 129 | 166 => 124 | 169 => 125 | 240 => 155 | 241 => 158 | 276 => 207 | 277 => 209 | n => n, fun | 31 => 22 | 9 => 9 | 3 => 3 | 4 => 4 | 0 => 0 | 20 => 20 | 72 => 150 | 76 => 153 | 70 => 148 | 37 => 90 | 75 => 152 | 127 => 180 | 164 => 214 | 5 => 5 | 80 => 155 | n => n, fun | n => n⟩
theorem Tryz.lays156 : Go.Proofs.Lays.n156 zp5 Tryz.lays156_ren := {
 mixed := by kernel_rfl
 f156 := Tryz.func83.trans (congrArg some (by kernel_rfl))
 f165 := Tryz.func129.trans (congrArg some (by kernel_rfl))
 f166 := Tryz.func124.trans (congrArg some (by kernel_rfl))
 f169 := Tryz.func125.trans (congrArg some (by kernel_rfl))
 f240 := Tryz.func155.trans (congrArg some (by kernel_rfl))
 f241 := Tryz.func158.trans (congrArg some (by kernel_rfl))
 f276 := Tryz.func207.trans (congrArg some (by kernel_rfl))
 f277 := Tryz.func209.trans (congrArg some (by kernel_rfl))
 t0 := Tryz.underlying0
 a0 := Tryz.isAgg0
 z0 := Tryz.sizeOf0
 v0 := Tryz.zeroValue0
 t3 := Tryz.underlying3
 a3 := Tryz.isAgg3
 z3 := Tryz.sizeOf3
 v3 := Tryz.zeroValue3
 t4 := Tryz.underlying4
 a4 := Tryz.isAgg4
 z4 := Tryz.sizeOf4
 v4 := Tryz.zeroValue4
 t9 := Tryz.underlying9
 a9 := Tryz.isAgg9
 z9 := Tryz.sizeOf9
 v9 := Tryz.zeroValue9
 t20 := Tryz.underlying20
 a20 := Tryz.isAgg20
 z20 := Tryz.sizeOf20
 v20 := Tryz.zeroValue20
 t31 := Tryz.underlying22
 a31 := Tryz.isAgg22
 z31 := Tryz.sizeOf22
 v31 := Tryz.zeroValue22
 t37 := Tryz.underlying90
 a37 := Tryz.isAgg90
 z37 := Tryz.sizeOf90
 v37 := Tryz.zeroValue90
 t70 := Tryz.underlying148
 a70 := Tryz.isAgg148
 z70 := Tryz.sizeOf148
 v70 := Tryz.zeroValue148
 t72 := Tryz.underlying150
 a72 := Tryz.isAgg150
 z72 := Tryz.sizeOf150
 v72 := Tryz.zeroValue150
 t75 := Tryz.underlying152
 a75 := Tryz.isAgg152
 z75 := Tryz.sizeOf152
 v75 := Tryz.zeroValue152
 t76 := Tryz.underlying153
 a76 := Tryz.isAgg153
 z76 := Tryz.sizeOf153
 v76 := Tryz.zeroValue153
 t127 := Tryz.underlying180
 a127 := Tryz.isAgg180
 z127 := Tryz.sizeOf180
 v127 := Tryz.zeroValue180
 t164 := Tryz.underlying214
 a164 := Tryz.isAgg214
 z164 := Tryz.sizeOf214
 v164 := Tryz.zeroValue214 }
def Tryz.laysM171_ren : Go.Shelf.Ren := ⟨fun | 171 => 128 | 243 => 157 | 246 => 208 | 283 => 230 | 284 => 231 | 285 => 232 | 286 => 233 | 129 => 171 | 317 => 242 | 318 => 243 | 319 => 244 | 320 => 245 | 337 => 252 | 338 => 253 | n => n, fun | 3 => 3 | 9 => 9 | 2 => 2 | 4 => 4 | 171 => 239 | 0 => 0 | 53 => 193 | 37 => 90 | 5 => 5 | 173 => 241 | 212 => 249 | 51 => 191 | 20 => 20 | 213 => 250 | 46 => 160 | 232 => 263 | 233 => 264 | n => n, fun | 17 => 3 | 18 => 6 | 19 => 7 | n => n⟩
theorem Tryz.laysM171 : Go.Proofs.LaysM.n171 zp5 Tryz.laysM171_ren := {
 mixed := by kernel_rfl
 f129 := Tryz.func171.trans (congrArg some (by kernel_rfl))
 f171 := Tryz.func128.trans (congrArg some (by kernel_rfl))
 f243 := Tryz.func157.trans (congrArg some (by kernel_rfl))
 f246 := Tryz.func208.trans (congrArg some (by kernel_rfl))
 f283 := Tryz.func230.trans (congrArg some (by kernel_rfl))
 f284 := Tryz.func231.trans (congrArg some (by kernel_rfl))
 f285 := Tryz.func232.trans (congrArg some (by kernel_rfl))
 f286 := Tryz.func233.trans (congrArg some (by kernel_rfl))
 f317 := Tryz.func242.trans (congrArg some (by kernel_rfl))
 f318 := Tryz.func243.trans (congrArg some (by kernel_rfl))
 f319 := Tryz.func244.trans (congrArg some (by kernel_rfl))
 f320 := Tryz.func245.trans (congrArg some (by kernel_rfl))
 f337 := Tryz.func252.trans (congrArg some (by kernel_rfl))
 f338 := Tryz.func253.trans (congrArg some (by kernel_rfl))
 t0 := Tryz.underlying0
 a0 := Tryz.isAgg0
 z0 := Tryz.sizeOf0
 v0 := Tryz.zeroValue0
 t2 := Tryz.underlying2
 a2 := Tryz.isAgg2
 z2 := Tryz.sizeOf2
 v2 := Tryz.zeroValue2
 t3 := Tryz.underlying3
 a3 := Tryz.isAgg3
 z3 := Tryz.sizeOf3
 v3 := Tryz.zeroValue3
 t4 := Tryz.underlying4
 a4 := Tryz.isAgg4
 z4 := Tryz.sizeOf4
 v4 := Tryz.zeroValue4
 t5 := Tryz.underlying5
 a5 := Tryz.isAgg5
 z5 := Tryz.sizeOf5
 v5 := Tryz.zeroValue5
 t9 := Tryz.underlying9
 a9 := Tryz.isAgg9
 z9 := Tryz.sizeOf9
 v9 := Tryz.zeroValue9
 t20 := Tryz.underlying20
 a20 := Tryz.isAgg20
 z20 := Tryz.sizeOf20
 v20 := Tryz.zeroValue20
 t37 := Tryz.underlying90
 a37 := Tryz.isAgg90
 z37 := Tryz.sizeOf90
 v37 := Tryz.zeroValue90
 t46 := Tryz.underlying160
 a46 := Tryz.isAgg160
 z46 := Tryz.sizeOf160
 v46 := Tryz.zeroValue160
 t51 := Tryz.underlying191
 a51 := Tryz.isAgg191
 z51 := Tryz.sizeOf191
 v51 := Tryz.zeroValue191
 t53 := Tryz.underlying193
 a53 := Tryz.isAgg193
 z53 := Tryz.sizeOf193
 v53 := Tryz.zeroValue193
 t171 := Tryz.underlying239
 a171 := Tryz.isAgg239
 z171 := Tryz.sizeOf239
 v171 := Tryz.zeroValue239
 t173 := Tryz.underlying241
 a173 := Tryz.isAgg241
 z173 := Tryz.sizeOf241
 v173 := Tryz.zeroValue241
 t212 := Tryz.underlying249
 a212 := Tryz.isAgg249
 z212 := Tryz.sizeOf249
 v212 := Tryz.zeroValue249
 t213 := Tryz.underlying250
 a213 := Tryz.isAgg250
 z213 := Tryz.sizeOf250
 t232 := Tryz.underlying263
 a232 := Tryz.isAgg263
 z232 := Tryz.sizeOf263
 v232 := Tryz.zeroValue263
 t233 := Tryz.underlying264
 a233 := Tryz.isAgg264
 z233 := Tryz.sizeOf264
 v233 := Tryz.zeroValue264
 g17 := by kernel_rfl
 g18 := by kernel_rfl
 g19 := by kernel_rfl
 i0 := by kernel_rfl
 i2 := by kernel_rfl
 i3 := by kernel_rfl
 i4 := by kernel_rfl
 i5 := by kernel_rfl
 i9 := by kernel_rfl
 i20 := by kernel_rfl
 i37 := by kernel_rfl
 i46 := by kernel_rfl
 i51 := by kernel_rfl
 i53 := by kernel_rfl
 i171 := by kernel_rfl
 i173 := by kernel_rfl
 i212 := by kernel_rfl
 i232 := by kernel_rfl
 i233 := by kernel_rfl
 m17 := by kernel_rfl
 m18 := by kernel_rfl
 m19 := by kernel_rfl }
def Tryz.laysC172_ren : Go.Shelf.Ren := ⟨fun | 172 => 223 | 244 => 238 | 245 => 239 | 247 => 246 | 279 => 247 | 280 => 248 | 281 => 249 | 282 => 250 | 287 => 254 | 316 => 255 | 171 => 128 | 205 => 256 | 321 => 257 | 322 => 258 | 243 => 157 | 246 => 208 | 283 => 230 | 284 => 231 | 285 => 232 | 286 => 233 | 129 => 171 | 317 => 242 | 318 => 243 | 319 => 244 | 320 => 245 | 337 => 252 | 338 => 253 | n => n, fun | 9 => 9 | 3 => 3 | 75 => 152 | 76 => 153 | 4 => 4 | 5 => 5 | 167 => 252 | 37 => 90 | 0 => 0 | 85 => 253 | 2 => 2 | 168 => 255 | 53 => 193 | 175 => 258 | 46 => 160 | 210 => 261 | 127 => 180 | 145 => 268 | 143 => 266 | 21 => 21 | 171 => 239 | 173 => 241 | 212 => 249 | 51 => 191 | 20 => 20 | 213 => 250 | 232 => 263 | 233 => 264 | 80 => 155 | n => n, fun | 15 => 4 | 16 => 5 | 17 => 3 | 18 => 6 | 19 => 7 | n => n⟩
theorem Tryz.laysC172 : Go.Proofs.LaysC.n172 zp5 Tryz.laysC172_ren := {
 mixed := by kernel_rfl
 f129 := Tryz.func171.trans (congrArg some (by kernel_rfl))
 f171 := Tryz.func128.trans (congrArg some (by kernel_rfl))
 f172 := Tryz.func223.trans (congrArg some (by kernel_rfl))
 f205 := Tryz.func256.trans (congrArg some (by kernel_rfl))
 f243 := Tryz.func157.trans (congrArg some (by kernel_rfl))
 f244 := Tryz.func238.trans (congrArg some (by kernel_rfl))
 f245 := Tryz.func239.trans (congrArg some (by kernel_rfl))
 f246 := Tryz.func208.trans (congrArg some (by kernel_rfl))
 f247 := Tryz.func246.trans (congrArg some (by kernel_rfl))
 f279 := Tryz.func247.trans (congrArg some (by kernel_rfl))
 f280 := Tryz.func248.trans (congrArg some (by kernel_rfl))
 f281 := Tryz.func249.trans (congrArg some (by kernel_rfl))
 f282 := Tryz.func250.trans (congrArg some (by kernel_rfl))
 f283 := Tryz.func230.trans (congrArg some (by kernel_rfl))
 f284 := Tryz.func231.trans (congrArg some (by kernel_rfl))
 f285 := Tryz.func232.trans (congrArg some (by kernel_rfl))
 f286 := Tryz.func233.trans (congrArg some (by kernel_rfl))
 f287 := Tryz.func254.trans (congrArg some (by kernel_rfl))
 f316 := Tryz.func255.trans (congrArg some (by kernel_rfl))
 f317 := Tryz.func242.trans (congrArg some (by kernel_rfl))
 f318 := Tryz.func243.trans (congrArg some (by kernel_rfl))
 f319 := Tryz.func244.trans (congrArg some (by kernel_rfl))
 f320 := Tryz.func245.trans (congrArg some (by kernel_rfl))
 f321 := Tryz.func257.trans (congrArg some (by kernel_rfl))
 f322 := Tryz.func258.trans (congrArg some (by kernel_rfl))
 f337 := Tryz.func252.trans (congrArg some (by kernel_rfl))
 f338 := Tryz.func253.trans (congrArg some (by kernel_rfl))
 t0 := Tryz.underlying0
 a0 := Tryz.isAgg0
 z0 := Tryz.sizeOf0
 v0 := Tryz.zeroValue0
 t2 := Tryz.underlying2
 a2 := Tryz.isAgg2
 z2 := Tryz.sizeOf2
 v2 := Tryz.zeroValue2
 t3 := Tryz.underlying3
 a3 := Tryz.isAgg3
 z3 := Tryz.sizeOf3
 v3 := Tryz.zeroValue3
 t4 := Tryz.underlying4
 a4 := Tryz.isAgg4
 z4 := Tryz.sizeOf4
 v4 := Tryz.zeroValue4
 t5 := Tryz.underlying5
 a5 := Tryz.isAgg5
 z5 := Tryz.sizeOf5
 v5 := Tryz.zeroValue5
 t9 := Tryz.underlying9
 a9 := Tryz.isAgg9
 z9 := Tryz.sizeOf9
 v9 := Tryz.zeroValue9
 t20 := Tryz.underlying20
 a20 := Tryz.isAgg20
 z20 := Tryz.sizeOf20
 v20 := Tryz.zeroValue20
 t21 := Tryz.underlying21
 a21 := Tryz.isAgg21
 z21 := Tryz.sizeOf21
 v21 := Tryz.zeroValue21
 t37 := Tryz.underlying90
 a37 := Tryz.isAgg90
 z37 := Tryz.sizeOf90
 v37 := Tryz.zeroValue90
 t46 := Tryz.underlying160
 a46 := Tryz.isAgg160
 z46 := Tryz.sizeOf160
 v46 := Tryz.zeroValue160
 t51 := Tryz.underlying191
 a51 := Tryz.isAgg191
 z51 := Tryz.sizeOf191
 v51 := Tryz.zeroValue191
 t53 := Tryz.underlying193
 a53 := Tryz.isAgg193
 z53 := Tryz.sizeOf193
 v53 := Tryz.zeroValue193
 t75 := Tryz.underlying152
 a75 := Tryz.isAgg152
 z75 := Tryz.sizeOf152
 v75 := Tryz.zeroValue152
 t76 := Tryz.underlying153
 a76 := Tryz.isAgg153
 z76 := Tryz.sizeOf153
 v76 := Tryz.zeroValue153
 t85 := Tryz.underlying253
 a85 := Tryz.isAgg253
 z85 := Tryz.sizeOf253
 v85 := Tryz.zeroValue253
 t127 := Tryz.underlying180
 a127 := Tryz.isAgg180
 z127 := Tryz.sizeOf180
 v127 := Tryz.zeroValue180
 t143 := Tryz.underlying266
 a143 := Tryz.isAgg266
 z143 := Tryz.sizeOf266
 v143 := Tryz.zeroValue266
 t145 := Tryz.underlying268
 a145 := Tryz.isAgg268
 z145 := Tryz.sizeOf268
 v145 := Tryz.zeroValue268
 t167 := Tryz.underlying252
 a167 := Tryz.isAgg252
 z167 := Tryz.sizeOf252
 v167 := Tryz.zeroValue252
 t168 := Tryz.underlying255
 a168 := Tryz.isAgg255
 z168 := Tryz.sizeOf255
 v168 := Tryz.zeroValue255
 t171 := Tryz.underlying239
 a171 := Tryz.isAgg239
 z171 := Tryz.sizeOf239
 v171 := Tryz.zeroValue239
 t173 := Tryz.underlying241
 a173 := Tryz.isAgg241
 z173 := Tryz.sizeOf241
 v173 := Tryz.zeroValue241
 t175 := Tryz.underlying258
 a175 := Tryz.isAgg258
 z175 := Tryz.sizeOf258
 v175 := Tryz.zeroValue258
 t210 := Tryz.underlying261
 a210 := Tryz.isAgg261
 z210 := Tryz.sizeOf261
 v210 := Tryz.zeroValue261
 t212 := Tryz.underlying249
 a212 := Tryz.isAgg249
 z212 := Tryz.sizeOf249
 v212 := Tryz.zeroValue249
 t213 := Tryz.underlying250
 a213 := Tryz.isAgg250
 z213 := Tryz.sizeOf250
 t232 := Tryz.underlying263
 a232 := Tryz.isAgg263
 z232 := Tryz.sizeOf263
 v232 := Tryz.zeroValue263
 t233 := Tryz.underlying264
 a233 := Tryz.isAgg264
 z233 := Tryz.sizeOf264
 v233 := Tryz.zeroValue264
 g15 := by kernel_rfl
 g16 := by kernel_rfl
 g17 := by kernel_rfl
 g18 := by kernel_rfl
 g19 := by kernel_rfl
 t80 := Tryz.underlying155
 a80 := Tryz.isAgg155
 z80 := Tryz.sizeOf155
 v80 := Tryz.zeroValue155
 i0 := by kernel_rfl
 i2 := by kernel_rfl
 i3 := by kernel_rfl
 i4 := by kernel_rfl
 i5 := by kernel_rfl
 i9 := by kernel_rfl
 i20 := by kernel_rfl
 i21 := by kernel_rfl
 i37 := by kernel_rfl
 i46 := by kernel_rfl
 i51 := by kernel_rfl
 i53 := by kernel_rfl
 i75 := by kernel_rfl
 i76 := by kernel_rfl
 i80 := by kernel_rfl
 i85 := by kernel_rfl
 i127 := by kernel_rfl
 i143 := by kernel_rfl
 i145 := by kernel_rfl
 i167 := by kernel_rfl
 i168 := by kernel_rfl
 i171 := by kernel_rfl
 i173 := by kernel_rfl
 i175 := by kernel_rfl
 i210 := by kernel_rfl
 i212 := by kernel_rfl
 i232 := by kernel_rfl
 i233 := by kernel_rfl
 m15 := by kernel_rfl
 m16 := by kernel_rfl
 m17 := by kernel_rfl
 m18 := by kernel_rfl
 m19 := by kernel_rfl
 c0 := by kernel_rfl
 c2 := by kernel_rfl
 c3 := by kernel_rfl
 c4 := by kernel_rfl
 c5 := by kernel_rfl
 c9 := by kernel_rfl
 c20 := by kernel_rfl
 c21 := by kernel_rfl
 c37 := by kernel_rfl
 c46 := by kernel_rfl
 c51 := by kernel_rfl
 c53 := by kernel_rfl
 c75 := by kernel_rfl
 c76 := by kernel_rfl
 c80 := by kernel_rfl
 c85 := by kernel_rfl
 c127 := by kernel_rfl
 c143 := by kernel_rfl
 c145 := by kernel_rfl
 c167 := by kernel_rfl
 c168 := by kernel_rfl
 c171 := by kernel_rfl
 c173 := by kernel_rfl
 c175 := by kernel_rfl
 c210 := by kernel_rfl
 c212 := by kernel_rfl
 c213 := by kernel_rfl
 c232 := by kernel_rfl
 c233 := by kernel_rfl }
def Tryz.laysGw17_ren : Go.Shelf.Ren := ⟨fun | 17 => 172 | 15 => 215 | 20 => 235 | n => n, fun | 9 => 9 | 23 => 195 | 4 => 4 | 3 => 3 | 0 => 0 | 21 => 21 | n => n, fun | n => n⟩
theorem Tryz.laysGw17 : Go.Proofs.LaysGw.n17 zp5 Tryz.laysGw17_ren := {
 mixed := by kernel_rfl
 f15 := Tryz.func215.trans (congrArg some (by kernel_rfl))
 f17 := Tryz.func172.trans (congrArg some (by kernel_rfl))
 f20 := Tryz.func235.trans (congrArg some (by kernel_rfl))
 t0 := Tryz.underlying0
 a0 := Tryz.isAgg0
 z0 := Tryz.sizeOf0
 v0 := Tryz.zeroValue0
 i0 := by kernel_rfl
 t3 := Tryz.underlying3
 a3 := Tryz.isAgg3
 z3 := Tryz.sizeOf3
 v3 := Tryz.zeroValue3
 i3 := by kernel_rfl
 t4 := Tryz.underlying4
 a4 := Tryz.isAgg4
 z4 := Tryz.sizeOf4
 v4 := Tryz.zeroValue4
 i4 := by kernel_rfl
 t9 := Tryz.underlying9
 a9 := Tryz.isAgg9
 z9 := Tryz.sizeOf9
 v9 := Tryz.zeroValue9
 i9 := by kernel_rfl
 t21 := Tryz.underlying21
 a21 := Tryz.isAgg21
 z21 := Tryz.sizeOf21
 v21 := Tryz.zeroValue21
 i21 := by kernel_rfl
 t23 := Tryz.underlying195
 a23 := Tryz.isAgg195
 z23 := Tryz.sizeOf195
 v23 := Tryz.zeroValue195
 i23 := by kernel_rfl }
def Tryz.laysDel_ren : Go.Shelf.Ren := ⟨fun | 10 => 86 | 6 => 76 | n => n, fun | 22 => 22 | 23 => 9 | 25 => 68 | 3 => 3 | 4 => 4 | 0 => 0 | n => n, fun | n => n⟩
theorem Tryz.laysDel : Go.Proofs.SlLaysH.n10 zp5 Tryz.laysDel_ren := {
 mixed := by kernel_rfl
 f6 := ⟨Tryz.f76.name, by decide, Tryz.func76.trans (congrArg some (by kernel_rfl))⟩
 f10 := ⟨Tryz.f86.name, by decide, Tryz.func86.trans (congrArg some (by kernel_rfl))⟩
 t0 := Tryz.underlying0
 a0 := Tryz.isAgg0
 z0 := Tryz.sizeOf0
 v0 := Tryz.zeroValue0
 t3 := Tryz.underlying3
 a3 := Tryz.isAgg3
 z3 := Tryz.sizeOf3
 v3 := Tryz.zeroValue3
 t4 := Tryz.underlying4
 a4 := Tryz.isAgg4
 z4 := Tryz.sizeOf4
 v4 := Tryz.zeroValue4
 t22 := Tryz.underlying22
 a22 := Tryz.isAgg22
 z22 := Tryz.sizeOf22
 v22 := Tryz.zeroValue22
 a23 := Tryz.isAgg9
 z23 := Tryz.sizeOf9
 t25 := Tryz.underlying68
 a25 := Tryz.isAgg68
 z25 := Tryz.sizeOf68
 v25 := Tryz.zeroValue68 }
def Tryz.laysClone_ren : Go.Shelf.Ren := ⟨fun | 16 => 99 | n => n, fun | 24 => 22 | 9 => 9 | 4 => 4 | n => n, fun | n => n⟩
theorem Tryz.laysClone : Go.Proofs.Lays2.n16 zp5 Tryz.laysClone_ren := {
 mixed := by kernel_rfl
 f16 := Tryz.func99.trans (congrArg some (by kernel_rfl))
 t4 := Tryz.underlying4
 a4 := Tryz.isAgg4
 z4 := Tryz.sizeOf4
 v4 := Tryz.zeroValue4
 t9 := Tryz.underlying9
 a9 := Tryz.isAgg9
 z9 := Tryz.sizeOf9
 v9 := Tryz.zeroValue9
 t24 := Tryz.underlying22
 a24 := Tryz.isAgg22
 z24 := Tryz.sizeOf22
 v24 := Tryz.zeroValue22
 i9 := by kernel_rfl }
def Tryz.laysKeys_ren : Go.Shelf.Ren := ⟨fun | 7 => 225 | 10 => 240 | n => n, fun | 23 => 98 | 26 => 9 | 3 => 9 | 28 => 112 | 0 => 0 | 27 => 111 | 33 => 68 | 4 => 4 | n => n, fun | n => n⟩
theorem Tryz.laysKeys : Go.Proofs.SlLaysZ.n7 zp5 Tryz.laysKeys_ren := {
 mixed := by kernel_rfl
 f7 := ⟨Tryz.f225.name, by decide, Tryz.func225.trans (congrArg some (by kernel_rfl))⟩
 f10 := ⟨Tryz.f240.name, by decide, Tryz.func240.trans (congrArg some (by kernel_rfl))⟩
 t0 := Tryz.underlying0
 a0 := Tryz.isAgg0
 z0 := Tryz.sizeOf0
 v0 := Tryz.zeroValue0
 t4 := Tryz.underlying4
 a4 := Tryz.isAgg4
 z4 := Tryz.sizeOf4
 v4 := Tryz.zeroValue4
 t23 := Tryz.underlying98
 a23 := Tryz.isAgg98
 z23 := Tryz.sizeOf98
 v23 := Tryz.zeroValue98
 t26 := Tryz.underlying9
 a26 := Tryz.isAgg9
 z26 := Tryz.sizeOf9
 v26 := Tryz.zeroValue9
 t27 := Tryz.underlying111
 a27 := Tryz.isAgg111
 z27 := Tryz.sizeOf111
 v27 := Tryz.zeroValue111
 t28 := Tryz.underlying112
 a28 := Tryz.isAgg112
 z28 := Tryz.sizeOf112
 v28 := Tryz.zeroValue112
 t33 := Tryz.underlying68
 a33 := Tryz.isAgg68
 z33 := Tryz.sizeOf68
 v33 := Tryz.zeroValue68 }
def Tryz.laysSorted_ren : Go.Shelf.Ren := ⟨fun | 6 => 80 | 8 => 126 | 9 => 93 | 11 => 156 | 13 => 133 | 12 => 132 | 23 => 170 | 24 => 171 | 14 => 161 | 15 => 162 | 16 => 163 | 17 => 164 | 18 => 165 | 19 => 166 | 20 => 167 | 21 => 168 | 22 => 169 | 25 => 210 | 26 => 211 | 27 => 212 | 28 => 213 | 29 => 214 | 30 => 201 | 31 => 234 | n => n, fun | 26 => 9 | 28 => 112 | 24 => 22 | 0 => 0 | 3 => 3 | 37 => 160 | 48 => 191 | 50 => 193 | 4 => 4 | 40 => 185 | 39 => 184 | 45 => 163 | 5 => 5 | 9 => 9 | 51 => 218 | 55 => 222 | 57 => 243 | 58 => 244 | 33 => 68 | n => n, fun | n => n⟩
theorem Tryz.laysSorted : Go.Proofs.SlLaysZ.n6 zp5 Tryz.laysSorted_ren := {
 mixed := by kernel_rfl
 f6 := ⟨Tryz.f80.name, by decide, Tryz.func80.trans (congrArg some (by kernel_rfl))⟩
 f8 := ⟨Tryz.f126.name, by decide, Tryz.func126.trans (congrArg some (by kernel_rfl))⟩
 f11 := ⟨Tryz.f156.name, by decide, Tryz.func156.trans (congrArg some (by kernel_rfl))⟩
 t0 := Tryz.underlying0
 a0 := Tryz.isAgg0
 z0 := Tryz.sizeOf0
 v0 := Tryz.zeroValue0
 t24 := Tryz.underlying22
 a24 := Tryz.isAgg22
 z24 := Tryz.sizeOf22
 v24 := Tryz.zeroValue22
 t26 := Tryz.underlying9
 a26 := Tryz.isAgg9
 z26 := Tryz.sizeOf9
 v26 := Tryz.zeroValue9
 t28 := Tryz.underlying112
 a28 := Tryz.isAgg112
 z28 := Tryz.sizeOf112
 v28 := Tryz.zeroValue112
 i26 := by kernel_rfl }
def Tryz.laysSort_ren : Go.Shelf.Ren := ⟨fun | 6 => 93 | 8 => 133 | 9 => 132 | 19 => 170 | 20 => 171 | 21 => 161 | 22 => 162 | 23 => 163 | 24 => 164 | 25 => 165 | 26 => 166 | 27 => 167 | 28 => 168 | 29 => 169 | 36 => 210 | 31 => 211 | 32 => 212 | 37 => 213 | 38 => 214 | 39 => 201 | 41 => 234 | n => n, fun | 27 => 22 | 29 => 9 | 3 => 3 | 32 => 160 | 26 => 22 | 0 => 0 | 44 => 191 | 46 => 193 | 4 => 4 | 36 => 185 | 35 => 184 | 41 => 163 | 5 => 5 | 9 => 9 | 53 => 218 | 57 => 222 | 63 => 243 | 64 => 244 | n => n, fun | n => n⟩
theorem Tryz.laysSort : Go.Proofs.SlLaysM.n6 zp5 Tryz.laysSort_ren := {
 mixed := by kernel_rfl
 f6 := ⟨Tryz.f93.name, by decide, Tryz.func93.trans (congrArg some (by kernel_rfl))⟩
 f8 := Tryz.func133.trans (congrArg some (by kernel_rfl))
 f9 := ⟨Tryz.f132.name, by decide, Tryz.func132.trans (congrArg some (by kernel_rfl))⟩
 f19 := Tryz.func170.trans (congrArg some (by kernel_rfl))
 f20 := Tryz.func171.trans (congrArg some (by kernel_rfl))
 f21 := ⟨Tryz.f161.name, by decide, Tryz.func161.trans (congrArg some (by kernel_rfl))⟩
 f22 := ⟨Tryz.f162.name, by decide, Tryz.func162.trans (congrArg some (by kernel_rfl))⟩
 f23 := ⟨Tryz.f163.name, by decide, Tryz.func163.trans (congrArg some (by kernel_rfl))⟩
 f24 := ⟨Tryz.f164.name, by decide, Tryz.func164.trans (congrArg some (by kernel_rfl))⟩
 f25 := ⟨Tryz.f165.name, by decide, Tryz.func165.trans (congrArg some (by kernel_rfl))⟩
 f26 := ⟨Tryz.f166.name, by decide, Tryz.func166.trans (congrArg some (by kernel_rfl))⟩
 f27 := ⟨Tryz.f167.name, by decide, Tryz.func167.trans (congrArg some (by kernel_rfl))⟩
 f28 := ⟨Tryz.f168.name, by decide, Tryz.func168.trans (congrArg some (by kernel_rfl))⟩
 f29 := ⟨Tryz.f169.name, by decide, Tryz.func169.trans (congrArg some (by kernel_rfl))⟩
 f31 := Tryz.func211.trans (congrArg some (by kernel_rfl))
 f32 := Tryz.func212.trans (congrArg some (by kernel_rfl))
 f36 := ⟨Tryz.f210.name, by decide, Tryz.func210.trans (congrArg some (by kernel_rfl))⟩
 f37 := ⟨Tryz.f213.name, by decide, Tryz.func213.trans (congrArg some (by kernel_rfl))⟩
 f38 := ⟨Tryz.f214.name, by decide, Tryz.func214.trans (congrArg some (by kernel_rfl))⟩
 f39 := ⟨Tryz.f201.name, by decide, Tryz.func201.trans (congrArg some (by kernel_rfl))⟩
 f41 := ⟨Tryz.f234.name, by decide, Tryz.func234.trans (congrArg some (by kernel_rfl))⟩
 t0 := Tryz.underlying0
 a0 := Tryz.isAgg0
 z0 := Tryz.sizeOf0
 v0 := Tryz.zeroValue0
 t3 := Tryz.underlying3
 a3 := Tryz.isAgg3
 z3 := Tryz.sizeOf3
 v3 := Tryz.zeroValue3
 t4 := Tryz.underlying4
 a4 := Tryz.isAgg4
 z4 := Tryz.sizeOf4
 v4 := Tryz.zeroValue4
 t5 := Tryz.underlying5
 a5 := Tryz.isAgg5
 z5 := Tryz.sizeOf5
 v5 := Tryz.zeroValue5
 t9 := Tryz.underlying9
 a9 := Tryz.isAgg9
 z9 := Tryz.sizeOf9
 v9 := Tryz.zeroValue9
 t26 := Tryz.underlying22
 a26 := Tryz.isAgg22
 z26 := Tryz.sizeOf22
 v26 := Tryz.zeroValue22
 t27 := Tryz.underlying22
 a27 := Tryz.isAgg22
 z27 := Tryz.sizeOf22
 v27 := Tryz.zeroValue22
 t29 := Tryz.underlying9
 a29 := Tryz.isAgg9
 z29 := Tryz.sizeOf9
 v29 := Tryz.zeroValue9
 t32 := Tryz.underlying160
 a32 := Tryz.isAgg160
 z32 := Tryz.sizeOf160
 v32 := Tryz.zeroValue160
 t35 := Tryz.underlying184
 a35 := Tryz.isAgg184
 z35 := Tryz.sizeOf184
 v35 := Tryz.zeroValue184
 t36 := Tryz.underlying185
 a36 := Tryz.isAgg185
 z36 := Tryz.sizeOf185
 v36 := Tryz.zeroValue185
 t41 := Tryz.underlying163
 a41 := Tryz.isAgg163
 z41 := Tryz.sizeOf163
 v41 := Tryz.zeroValue163
 t44 := Tryz.underlying191
 a44 := Tryz.isAgg191
 z44 := Tryz.sizeOf191
 v44 := Tryz.zeroValue191
 t46 := Tryz.underlying193
 a46 := Tryz.isAgg193
 z46 := Tryz.sizeOf193
 v46 := Tryz.zeroValue193
 t53 := Tryz.underlying218
 a53 := Tryz.isAgg218
 z53 := Tryz.sizeOf218
 v53 := Tryz.zeroValue218
 t57 := Tryz.underlying222
 a57 := Tryz.isAgg222
 z57 := Tryz.sizeOf222
 v57 := Tryz.zeroValue222
 t63 := Tryz.underlying243
 a63 := Tryz.isAgg243
 z63 := Tryz.sizeOf243
 v63 := Tryz.zeroValue243
 t64 := Tryz.underlying244
 a64 := Tryz.isAgg244
 z64 := Tryz.sizeOf244
 v64 := Tryz.zeroValue244 }
end
end Go.Proofs
