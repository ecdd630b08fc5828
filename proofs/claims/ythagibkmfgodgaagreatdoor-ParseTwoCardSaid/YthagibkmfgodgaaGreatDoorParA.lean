/-
  Rule files: what the parser makes of words, as plain functions of a state (the words that are left, where the first one stands that can't: -1).
-/
import Derived.Test.YthagibkmfgodgaaGreatDoorLexD
namespace Go.Proofs.YthagibkmfgodgaaGreatDoor.X
open Go.RowKit Go.Maps Go.Proofs.YthagibkmfgodgaaGreatDoorW.PrintWords Go.Proofs.YthagibkmfgodgaaGreatDoorW.PrintMore Go.Proofs.YthagibkmfgodgaaGreatDoorW.PrintLast

abbrev SStep := S62
abbrev SRule := S49
abbrev PS := List SWord × Int
def headW (l : List SWord) : SWord := l.headD ⟨4, 0, ⟨#[]⟩⟩
def failsP (s : PS) : PS := if s.2 < 0 then (s.1, (headW s.1).f1) else s
def atP (k : Int) (t : ByteArray) (s : PS) : Bool := decide ((headW s.1).f0 = k) && decide ((headW s.1).f2 = t)
def isP (k : Int) (t : ByteArray) (s : PS) : Bool := decide (s.2 < 0) && atP k t s
def takeP (k : Int) (t : ByteArray) (s : PS) : Bool × PS := if isP k t s = true then (true, (s.1.tail, s.2)) else (false, s)
def mustP (k : Int) (t : ByteArray) (s : PS) : PS := if isP k t s = true then (s.1.tail, s.2) else failsP s
def mayP (k : Int) (p : ByteArray → Bool) (s : PS) : Bool := decide (s.2 < 0) && (decide ((headW s.1).f0 = k) && p (headW s.1).f2)
def nextP (k : Int) (p : ByteArray → Bool) (s : PS) : ByteArray × PS := if mayP k p s = true then ((headW s.1).f2, (s.1.tail, s.2)) else (⟨#[]⟩, failsP s)
def nameB (t : ByteArray) : Bool := may t.data.toList
def nameP : PS → ByteArray × PS := nextP 1 nameB
def textP : PS → ByteArray × PS := nextP 2 (fun _ => true)
def comma : ByteArray := ⟨#[44]⟩
def semi : ByteArray := ⟨#[59]⟩
def moreP : Nat → PS → List ByteArray × PS
  | 0, s => ([], s)
  | n + 1, s => if isP 3 comma s = true then ((nameP (s.1.tail, s.2)).1 :: (moreP n (nameP (s.1.tail, s.2)).2).1, (moreP n (nameP (s.1.tail, s.2)).2).2) else ([], s)
def namesP (s : PS) : List ByteArray × PS := ((nameP s).1 :: (moreP (nameP s).2.1.length (nameP s).2).1, (moreP (nameP s).2.1.length (nameP s).2).2)
def listP (s : PS) : List ByteArray × PS := ((namesP s).1, mustP 3 semi (namesP s).2)
def opsL : List ByteArray := [⟨#[]⟩, ⟨#[99, 111, 112, 121]⟩, ⟨#[110, 101, 101, 100]⟩, ⟨#[115, 111, 114, 116]⟩, ⟨#[99, 111, 117, 110, 116]⟩, ⟨#[99, 111, 110, 99, 97, 116]⟩, ⟨#[108, 105, 116, 101, 114, 97, 108]⟩, ⟨#[115, 101, 108, 101, 99, 116]⟩, ⟨#[114, 101, 112, 108, 97, 99, 101]⟩, ⟨#[112, 114, 101, 102, 105, 120]⟩]
def idxF (l : List ByteArray) (t : ByteArray) : Int := match l.findIdx? (fun x => decide (x = t)) with | some i => (i : Nat) | none => -1
def opF (t : ByteArray) : Int := max (idxF opsL t) 0
def opB (t : ByteArray) : Bool := decide (0 < opF t)
def numB (t : ByteArray) : Bool := (getNumber t.data.toList 2000).2
def numV (t : ByteArray) : Int := (getNumber t.data.toList 2000).1
/-- Arguments, as long as names come. -/
def argsP : Nat → PS → List ByteArray × PS
  | 0, s => ([], s)
  | n + 1, s => if s.2 < 0 ∧ (headW s.1).f0 = 1 then ((nameP s).1 :: (argsP n (nameP s).2).1, (argsP n (nameP s).2).2) else ([], s)
/-- What a command has beside its arguments. -/
def litsP (op : Int) (s : PS) : (List ByteArray × Int) × PS :=
  if op = 6 ∨ op = 7 then (([(textP s).1], 0), (textP s).2)
  else if op = 8 then (([(textP s).1, (textP (textP s).2).1], 0), (textP (textP s).2).2)
  else if op = 9 then (([], numV (nextP 1 numB s).1), (nextP 1 numB s).2)
  else (([], 0), s)
def argP (op : Int) (s : PS) : List ByteArray × PS :=
  if op = 5 then argsP (s.1.length + 1) s else if op = 6 then ([], s) else ([(nameP s).1], (nameP s).2)
def tailP (out op : ByteArray) (s : PS) : SStep × PS :=
  (⟨out, opF op, (argP (opF op) (litsP (opF op) s).2).1, (litsP (opF op) s).1.1, (litsP (opF op) s).1.2⟩, mustP 3 semi (argP (opF op) (litsP (opF op) s).2).2)
def equals : ByteArray := ⟨#[61]⟩
def stepP (s : PS) : SStep × PS :=
  tailP (nameP s).1 (nextP 1 opB (mustP 3 equals (nameP s).2)).1 (nextP 1 opB (mustP 3 equals (nameP s).2)).2
def brace : ByteArray := ⟨#[125]⟩
def stepsP : Nat → PS → List SStep × PS
  | 0, s => ([], s)
  | n + 1, s => if s.2 < 0 ∧ atP 3 brace s = false then ((stepP s).1 :: (stepsP n (stepP s).2).1, (stepsP n (stepP s).2).2) else ([], s)
def ifP (word : ByteArray) (s : PS) : List ByteArray × PS := if isP 1 word s = true then listP (s.1.tail, s.2) else ([], s)
def ruleP (s : PS) : SRule × PS :=
  let a := nameP (mustP 1 ⟨#[114, 117, 108, 101]⟩ s)
  let i := ifP ⟨#[105, 110]⟩ (mustP 3 ⟨#[123]⟩ a.2)
  let o := listP (mustP 1 ⟨#[111, 117, 116]⟩ i.2)
  let f := ifP ⟨#[97, 102, 116, 101, 114]⟩ o.2
  let t := stepsP (f.2.1.length + 1) f.2
  (⟨a.1, i.1, o.1, f.1, t.1⟩, mustP 3 brace t.2)
def rulesP : Nat → PS → List SRule × PS
  | 0, s => ([], s)
  | n + 1, s => if s.2 < 0 ∧ (headW s.1).f0 ≠ 4 then ((ruleP s).1 :: (rulesP n (ruleP s).2).1, (rulesP n (ruleP s).2).2) else ([], s)
def fileP (l : List SWord) : List SRule × Int × Int :=
  if (rulesP (l.length + 1) (l, -1)).2.2 < 0 then ((rulesP (l.length + 1) (l, -1)).1, 0, 0) else ([], 1, (rulesP (l.length + 1) (l, -1)).2.2)
/-! ### as the reference reads -/
def stepR (s : PS) : SStep × PS :=
  let a := nameP s
  let s1 := mustP 3 equals a.2
  if s1.2 < 0 then
    if (headW s1.1).f0 = 1 ∧ opB (headW s1.1).f2 = true then
      if opF (headW s1.1).f2 = 9 ∧ ¬ ((headW s1.1.tail).f0 = 1 ∧ numB (headW s1.1.tail).f2 = true) then (⟨a.1, 9, [], [], 0⟩, failsP (s1.1.tail, s1.2))
      else tailP a.1 (headW s1.1).f2 (s1.1.tail, s1.2)
    else (⟨a.1, 0, [], [], 0⟩, failsP s1)
  else (⟨a.1, 0, [], [], 0⟩, s1)
def stepsR : Nat → PS → List SStep × PS
  | 0, s => ([], s)
  | n + 1, s => if s.2 < 0 ∧ atP 3 brace s = false then ((stepR s).1 :: (stepsR n (stepR s).2).1, (stepsR n (stepR s).2).2) else ([], s)
def okP (s : PS) : List ByteArray × PS := if s.2 < 0 then listP s else ([], s)
def ruleR (s : PS) : SRule × PS :=
  let a := nameP (mustP 1 ⟨#[114, 117, 108, 101]⟩ s)
  let i := ifP ⟨#[105, 110]⟩ (mustP 3 ⟨#[123]⟩ a.2)
  let o := okP (mustP 1 ⟨#[111, 117, 116]⟩ i.2)
  let f := ifP ⟨#[97, 102, 116, 101, 114]⟩ o.2
  let t := stepsR (f.2.1.length + 1) f.2
  (⟨a.1, i.1, o.1, f.1, t.1⟩, mustP 3 brace t.2)
def rulesR : Nat → PS → List SRule × PS
  | 0, s => ([], s)
  | n + 1, s => if s.2 < 0 ∧ (headW s.1).f0 ≠ 4 then ((ruleR s).1 :: (rulesR n (ruleR s).2).1, (rulesR n (ruleR s).2).2) else ([], s)
def fileR (l : List SWord) : List SRule × Int × Int :=
  if (rulesR (l.length + 1) (l, -1)).2.2 < 0 then ((rulesR (l.length + 1) (l, -1)).1, 0, 0) else ([], 1, (rulesR (l.length + 1) (l, -1)).2.2)
/-- A text as a rule file. -/
def fileT (s : Bytes) : List SRule × Int × Int :=
  if 20000 < s.length then ([], 4, -1) else match allF s with
  | .error p => ([], 1, (p : Nat))
  | .ok l => fileP l

/-! ### words end with an end -/
def GoodW (l : List SWord) : Prop := (∃ x, l.getLast? = some x ∧ x.f0 = 4) ∧ ∀ x ∈ l, 0 ≤ x.f1 ∧ x.f1 ≤ 100000 ∧ x.f2.size ≤ 100000
theorem GoodW.ne {l : List SWord} (h : GoodW l) : l ≠ [] := by
  rintro rfl
  obtain ⟨⟨x, hx, _⟩, _⟩ := h
  cases hx
theorem GoodW.tail {l : List SWord} (h : GoodW l) (hk : (headW l).f0 ≠ 4) : GoodW l.tail := by
  obtain ⟨⟨x, hx, hx4⟩, hb⟩ := h
  match l, hx, hk, hb with
  | [y], hx, hk, _ =>
    simp at hx
    subst hx
    exact absurd hx4 hk
  | y :: z :: r, hx, hk, hb =>
    exact ⟨⟨x, by simpa using hx, hx4⟩, fun u hu => hb u (List.mem_cons_of_mem _ hu)⟩
theorem atP_kind {k : Int} {t : ByteArray} {s : PS} (h : atP k t s = true) : (headW s.1).f0 = k := by
  unfold atP at h
  simp at h
  exact h.1
theorem isP_at {k : Int} {t : ByteArray} {s : PS} (h : isP k t s = true) : s.2 < 0 ∧ (headW s.1).f0 = k ∧ (headW s.1).f2 = t := by
  unfold isP atP at h
  simp at h
  exact h
theorem GoodW.fails {s : PS} (h : GoodW s.1) : GoodW (failsP s).1 := by
  unfold failsP
  split <;> exact h
theorem GoodW.must {s : PS} (h : GoodW s.1) {k : Int} (hk : k ≠ 4) (t : ByteArray) : GoodW (mustP k t s).1 := by
  unfold mustP
  split
  · next hi => exact h.tail (by rw [(isP_at hi).2.1]; exact hk)
  · exact h.fails
theorem mayP_at {k : Int} {p : ByteArray → Bool} {s : PS} (h : mayP k p s = true) : s.2 < 0 ∧ (headW s.1).f0 = k ∧ p (headW s.1).f2 = true := by
  unfold mayP at h
  simp at h
  exact h
theorem GoodW.next {s : PS} (h : GoodW s.1) {k : Int} (hk : k ≠ 4) (p : ByteArray → Bool) : GoodW (nextP k p s).2.1 := by
  unfold nextP
  split
  · next hi => exact h.tail (by rw [(mayP_at hi).2.1]; exact hk)
  · exact h.fails
theorem failsP_len (s : PS) : (failsP s).1 = s.1 := by
  unfold failsP
  split <;> rfl
theorem tail_len (l : List SWord) : l.tail.length ≤ l.length := by simp
theorem mustP_len (k : Int) (t : ByteArray) (s : PS) : (mustP k t s).1.length ≤ s.1.length := by
  unfold mustP
  split
  · exact tail_len _
  · rw [failsP_len]; exact Nat.le_refl _
theorem nextP_len (k : Int) (p : ByteArray → Bool) (s : PS) : (nextP k p s).2.1.length ≤ s.1.length := by
  unfold nextP
  split
  · exact tail_len _
  · rw [failsP_len]; exact Nat.le_refl _

/-! ### what each step keeps is kept -/
structure InvP (I : PS → Prop) : Prop where
  fails : ∀ s, I s → I (failsP s)
  adv : ∀ s : PS, I s → s.2 < 0 → (headW s.1).f0 ≠ 4 → I (s.1.tail, s.2)
namespace InvP
variable {I : PS → Prop} (h : InvP I)
include h
theorem must {s : PS} (hs : I s) {k : Int} (hk : k ≠ 4) (t : ByteArray) : I (mustP k t s) := by
  unfold mustP
  split
  · next hi => exact h.adv s hs (isP_at hi).1 (by rw [(isP_at hi).2.1]; exact hk)
  · exact h.fails s hs
theorem next {s : PS} (hs : I s) {k : Int} (hk : k ≠ 4) (p : ByteArray → Bool) : I (nextP k p s).2 := by
  unfold nextP
  split
  · next hi => exact h.adv s hs (mayP_at hi).1 (by rw [(mayP_at hi).2.1]; exact hk)
  · exact h.fails s hs
theorem name {s : PS} (hs : I s) : I (nameP s).2 := h.next hs (by decide) _
theorem text {s : PS} (hs : I s) : I (textP s).2 := h.next hs (by decide) _
theorem more : ∀ (n : Nat) {s : PS}, I s → I (moreP n s).2
  | 0, s, hs => hs
  | n + 1, s, hs => by
    unfold moreP
    split
    · next hi => exact more n (h.name (h.adv s hs (isP_at hi).1 (by rw [(isP_at hi).2.1]; decide)))
    · exact hs
theorem names {s : PS} (hs : I s) : I (namesP s).2 := h.more _ (h.name hs)
theorem list {s : PS} (hs : I s) : I (listP s).2 := h.must (h.names hs) (by decide) _
theorem args : ∀ (n : Nat) {s : PS}, I s → I (argsP n s).2
  | 0, s, hs => hs
  | n + 1, s, hs => by
    unfold argsP
    split
    · exact args n (h.name hs)
    · exact hs
theorem lits (op : Int) {s : PS} (hs : I s) : I (litsP op s).2 := by
  unfold litsP
  split
  · exact h.text hs
  · split
    · exact h.text (h.text hs)
    · split
      · exact h.next hs (by decide) _
      · exact hs
theorem arg (op : Int) {s : PS} (hs : I s) : I (argP op s).2 := by
  unfold argP
  split
  · exact h.args _ hs
  · split
    · exact hs
    · exact h.name hs
theorem tail (a b : ByteArray) {s : PS} (hs : I s) : I (tailP a b s).2 := h.must (h.arg _ (h.lits _ hs)) (by decide) _
theorem step {s : PS} (hs : I s) : I (stepP s).2 := h.tail _ _ (h.next (h.must (h.name hs) (by decide) _) (by decide) _)
theorem steps : ∀ (n : Nat) {s : PS}, I s → I (stepsP n s).2
  | 0, s, hs => hs
  | n + 1, s, hs => by
    unfold stepsP
    split
    · exact steps n (h.step hs)
    · exact hs
theorem if_ (t : ByteArray) {s : PS} (hs : I s) : I (ifP t s).2 := by
  unfold ifP
  split
  · next hi => exact h.list (h.adv s hs (isP_at hi).1 (by rw [(isP_at hi).2.1]; decide))
  · exact hs
theorem rule {s : PS} (hs : I s) : I (ruleP s).2 := h.must (h.steps _ (h.if_ _ (h.list (h.must (h.if_ _ (h.must (h.name (h.must hs (by decide) _)) (by decide) _)) (by decide) _)))) (by decide) _
theorem rules : ∀ (n : Nat) {s : PS}, I s → I (rulesP n s).2
  | 0, s, hs => hs
  | n + 1, s, hs => by
    unfold rulesP
    split
    · exact rules n (h.rule hs)
    · exact hs
end InvP
theorem inv_good : InvP (fun s => GoodW s.1) := ⟨fun _ h => h.fails, fun _ h _ hk => h.tail hk⟩
theorem inv_len (n : Nat) : InvP (fun s => s.1.length ≤ n) := ⟨fun s h => by rw [failsP_len]; exact h, fun s h _ _ => Nat.le_trans (tail_len _) h⟩
theorem inv_stuck (s0 : PS) (h0 : ¬ s0.2 < 0) : InvP (fun s => s = s0) := ⟨fun s h => by rw [h]; unfold failsP; rw [if_neg h0], fun s h hb _ => by rw [h] at hb; exact absurd hb h0⟩
theorem inv_stop : InvP (fun s => GoodW s.1 ∧ -1 ≤ s.2) := ⟨fun s h => ⟨h.1.fails, by
  unfold failsP
  split
  · obtain ⟨l, d⟩ := s
    match l, h.1.ne, h.1 with
    | x :: r, _, hg => have := (hg.2 x (by simp)).1; show -1 ≤ x.f1; omega
  · exact h.2⟩, fun s h _ hk => ⟨h.1.tail hk, h.2⟩⟩

end Go.Proofs.YthagibkmfgodgaaGreatDoor.X
