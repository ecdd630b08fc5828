/-
  Commands, walked by hand: what a step makes of texts.
  Commands, walked by hand: what a step makes of values.
  Maps with strings for keys in memory, whatever they hold: which key holds which value; make, look-up, store; a loop over a map whose order is open.
  Values by their names, in memory: a map of values that the call has made; programs that run, over values as they lie.
  Programs that run, walked by hand: Of.
-/
import Derived.Maps.OwnSet
import Derived.Maps.RangeWalk
import Derived.Maps.StringElems
import Derived.WalkSpells
import Derived.Test.YtdpgdnpddndeoaaGreatDoorZ7
import Derived.Test.YtdpgdnpddndeoaaGreatDoorZ0
namespace Go.Proofs.YtdpgdnpddndeoaaGreatDoor.X
open Go.RowKit Go.Maps Go.Sort Go.Proofs.YtdpgdnpddndeoaaGreatDoorW.PrintWords Go.Proofs.YtdpgdnpddndeoaaGreatDoorW.PrintMore Go.Proofs.YtdpgdnpddndeoaaGreatDoorW.PrintLast
set_option linter.unusedSimpArgs false
set_option linter.unusedVariables false
set_option maxHeartbeats 1000000 in
theorem zlF (A : Option Addr) (n c : Nat) (W : World) :
 Calls Tryz.prog 81 #[.slice A n c] W fun e W' => e = .returned (.func (.func 127) #[] #[.pointer (some ⟨W.heap.size, 0, none⟩)]) /\ W' = W.alloc (.cells #[.slice A n c] 22) := by
 go_enter Tryz.func81, Tryz.ntmps81
 go_wp2
 go_ret
 exact ⟨rfl, rfl⟩
theorem zlK (A : Option Addr) (c : Nat) (l : List ByteArray) (w : World) (hr : Kd.C Kd.string w A l.length l) (hbytes : l.length * 16 <= 140737488355328) :
 Calls Tryz.prog 80 #[.func (.func 127) #[] #[.pointer (some ⟨w.heap.size, 0, none⟩)]] (w.alloc (.cells #[.slice A l.length c] 22)) fun e W' => ∃ v, e = .returned v /\ RS W' w.heap.size v (zae l) /\ Below w.heap.size w W' := by
 have hS0 : StrsAt w.heap.size w (.slice A l.length c) l := by
  rcases zaZ hr with h0 | ⟨b, o, rfl, hb, hcell⟩
  . subst h0
    exact .inl ⟨⟨A, c, rfl⟩, rfl⟩
  . refine .inr ⟨b, o, c, rfl, hb, fun j hj => ?_⟩
    have := hcell j hj
    rwa [List.getD_eq_getElem?_getD] at this
 have hS := hS0.below ((Below.refl w.heap.size w).alloc (Nat.le_refl _) (.cells #[.slice A l.length c] 22))
 have hS1 : StrsAt (w.alloc (.cells #[.slice A l.length c] 22)).heap.size (w.alloc (.cells #[.slice A l.length c] 22)) (.slice A l.length c) l := by
  rcases hS with h | ⟨b, o, cc, h1, hb, h2⟩
  . exact .inl h
  . exact .inr ⟨b, o, cc, h1, by simp; omega, h2⟩
 have h := zhD w.heap.size _ l hbytes (w.alloc (.cells #[.slice A l.length c] 22)) (by simp) ((zab (zan w _) 0).trans rfl) hS1
 exact h.mono fun e W' ⟨v, he, ho, hb⟩ => ⟨v, he, Kd.R_lower ho (by simp), zad ((Below.refl w.heap.size w).alloc (Nat.le_refl _) _) (by simp) hb⟩
theorem zd6 (l : List ByteArray) : zac (zae l) = (zac l).mergeSort fun x y => decide (x <= y) := zdr _
theorem zl2 (s t : ByteArray) (w : World) (hG : GOK w) (hs : s.size < 4294967281) :
 Calls Tryz.prog 85 #[.string s, .string t] w fun e w' => e = .returned (.bool (Lib.contains s.data.toList t.data.toList)) /\ w = w' := by
 obtain ⟨m, hm⟩ := hG.maxLen
 have hcall := Go.Proofs.Any.strings_Contains Go.Proofs.Tryz.lays144 s t m w hs hm
 change Calls Tryz.prog 85 _ _ _ at hcall
 exact hcall.mono fun e w' ⟨he, hw⟩ => ⟨he, hw.symm⟩
theorem zld (s old : ByteArray) (h1 : 1 <= old.size) : Lib.countB s old <= s.size := by
 have h := Lib.countB_mul_le old h1 s.size s (Nat.le_refl _)
 have h2 : Lib.countB s old <= Lib.countB s old * old.size := Nat.le_mul_of_pos_right _ h1
 omega
theorem zna : Go.Proofs.Builder.Extra Tryz.prog Go.Proofs.Tryz.lays154_ren := {
 sizeBuilder := by kernel_rfl
 liesBuilder := by kernel_rfl
 t5 := Tryz.underlying5
 a5 := Tryz.isAgg5
 z5 := Tryz.sizeOf5
 v5 := Tryz.zeroValue5
 infoByte := by kernel_rfl
 cellsByte := by kernel_rfl
 sizeByte := by kernel_rfl
 neB5 := by decide }
theorem znf (s old new : ByteArray) (w : World) (hG : GOK w) (h1 : 1 <= old.size) (hs : s.size <= 16777216) (hn : new.size <= 100) :
 Calls Tryz.prog 130 #[.string s, .string old, .string new, .int .i64 (-1)] w fun e w' => e = .returned (.string (mk (Lib.replaceAll s.data.toList old.data.toList new.data.toList))) /\ Below w.heap.size w w' := by
 obtain ⟨m, hm⟩ := hG.maxLen
 by_cases he : old = new
 . have hcall := Go.Proofs.Any.strings_Replace_none Go.Proofs.Tryz.lays154 s old new (-1) w (.inl he)
   change Calls Tryz.prog 130 _ _ _ at hcall
   refine hcall.mono fun e w' ⟨he1, hw⟩ => ⟨?_, by rw [hw]; exact Below.refl _ _⟩
   have : Lib.replaceAll s.data.toList old.data.toList new.data.toList = s.data.toList := by
    unfold Lib.replaceAll Lib.replace
    rw [if_pos (by simp [he])]
   rw [this, zbi]
   exact he1
 . have hne2 : ¬ (old.data.toList == new.data.toList) = true := by
    intro h
    exact he (zbU (by simpa using h))
   have hnum : Lib.replaceNum s.data.toList old.data.toList (-1) = Lib.count s.data.toList old.data.toList := by unfold Lib.replaceNum; rw [if_pos (by omega)]
   by_cases hc : Lib.countB s old = 0
   . have hcall := Go.Proofs.Any.strings_Replace_absent Go.Proofs.Tryz.lays154 s old new (-1) m w (by omega) hm h1 he (by decide) hc
     change Calls Tryz.prog 130 _ _ _ at hcall
     refine hcall.mono fun e w' ⟨he1, hw⟩ => ⟨?_, by rw [hw]; exact Below.refl _ _⟩
     have : Lib.replaceAll s.data.toList old.data.toList new.data.toList = s.data.toList := by
      unfold Lib.replaceAll Lib.replace
      rw [if_neg (by simpa using hne2), hnum]
      have : Lib.count s.data.toList old.data.toList = 0 := hc
      rw [this]
      rfl
     rw [this, zbi]
     exact he1
   . have hle := zld s old h1
     have hmul : Lib.countB s old * new.size <= 16777216 * 100 := Nat.mul_le_mul (by omega) hn
     have hcall := Go.Proofs.Any.strings_Replace_some Go.Proofs.Tryz.lays154 zna s old new (-1) m w (by omega) hm h1 he (by decide) hc (by omega)
     change Calls Tryz.prog 130 _ _ _ at hcall
     refine hcall.mono fun e w' ⟨he1, hw⟩ => ⟨?_, hw⟩
     have : Lib.replaceAll s.data.toList old.data.toList new.data.toList = Lib.replaceK old.data.toList new.data.toList (Lib.replaceNum s.data.toList old.data.toList (-1)) s.data.toList := by
      unfold Lib.replaceAll Lib.replace
      rw [if_neg (by simpa using hne2)]
     rw [this]
     exact he1
set_option maxHeartbeats 1000000 in
theorem zmu (s old new : ByteArray) (w : World) (hG : GOK w) (h1 : 1 <= old.size) (hs : s.size <= 16777216) (hn : new.size <= 100) :
 Calls Tryz.prog 87 #[.string s, .string old, .string new] w fun e w' => e = .returned (.string (mk (Lib.replaceAll s.data.toList old.data.toList new.data.toList))) /\ Below w.heap.size w w' := by
 have hR := znf s old new w hG h1 hs hn
 generalize mk (Lib.replaceAll s.data.toList old.data.toList new.data.toList) = z at hR |-
 have HR := znM hR
 clear hR hG h1 hs hn
 go_enter Tryz.func87, Tryz.ntmps87
 go_wp2_with (first | (go_at_call 130; refine HR.out.mono ?_; rintro e w2 ⟨rfl, hb2⟩))
 go_ret
 exact ⟨rfl, hb2⟩

theorem zb6 {s : Cmd} (h : mayC s = true) : (1 <= s.op /\ s.op <= 9) /\ (s.op ≠ 5 -> s.op ≠ 6 -> s.args = 1) /\ (s.op = 5 -> s.args <= 6) /\ (s.op = 6 -> s.args = 0 /\ s.lits.length = 1) /\ (s.op = 7 -> s.lits.length = 1) /\ (s.op = 8 -> s.lits.length = 2 /\ s.lits.getD 0 [] ≠ []) /\ (0 <= s.n /\ s.n <= 2000) /\ (∀ l ∈ s.lits, l.length <= 100) := by
 obtain ⟨h1, h2, h3⟩ := zjm h
 unfold mayC at h
 rw [Bool.and_eq_true] at h
 obtain ⟨g1, g2⟩ := h
 simp only [Bool.not_eq_true', Bool.or_eq_false_iff, decide_eq_false_iff_not] at g1 g2
 obtain ⟨⟨⟨⟨⟨_, _⟩, g3⟩, g4⟩, g5⟩, g6⟩ := g1
 obtain ⟨⟨⟨_, g7⟩, g8⟩, _⟩ := g2
 have hc : zbe s.op = if s.op = 5 then (0, 6, 0) else if s.op = 6 then (0, 0, 1) else if s.op = 7 then (1, 1, 1) else if s.op = 8 then (1, 1, 2) else (1, 1, 0) := rfl
 rw [hc] at g3 g4 g5
 refine ⟨⟨h1, h2⟩, fun a b => ?_, fun a => ?_, fun a => ?_, fun a => ?_, fun a => ?_, ⟨by omega, by omega⟩, fun l hl => ?_⟩
 . rw [if_neg a, if_neg b] at g3 g4
   split at g3
   . rename_i e; rw [if_pos e] at g4; simp only at g3 g4; omega
   . rename_i e
     rw [if_neg e] at g4
     split at g3 <;> rename_i e2
     . rw [if_pos e2] at g4; simp only at g3 g4; omega
     . rw [if_neg e2] at g4; simp only at g3 g4; omega
 . rw [if_pos a] at g4; simp only at g4; omega
 . rw [if_neg (by omega), if_pos a] at g4 g5; simp only at g4 g5; omega
 . rw [if_neg (by omega), if_neg (by omega), if_pos a] at g5; simp only at g5; omega
 . rw [if_neg (by omega), if_neg (by omega), if_neg (by omega), if_pos a] at g5; simp only at g5; exact ⟨by omega, h3 a⟩
 . have := List.any_eq_false.1 g6 l hl
   simpa using this
theorem zhT (b : zaa) : (zbb b).length <= b.length := (zfD b).1
theorem zih : ∀ l : List zaa, (zaF l).length = (l.map fun x => x.length + 1).sum
 | [] => rfl
 | x :: l => by
  show ((x ++ [10]) ++ zaF l).length = _
  rw [List.length_append, zih l, List.map_cons, List.sum_cons, List.length_append]
  rfl
theorem zgp : ∀ (l : List zaa) (k : Nat), (∀ x ∈ l, x.length <= k) -> (l.map fun x => x.length + 1).sum <= l.length * (k + 1)
 | [], _, _ => by simp
 | x :: l, k, h => by
  have := zgp l k (fun y hy => h y (List.mem_cons_of_mem _ hy))
  have hx := h x List.mem_cons_self
  rw [List.map_cons, List.sum_cons, List.length_cons, Nat.add_mul, Nat.one_mul]
  omega
theorem zgc (b : zaa) (l : List zaa) (hl : l.length <= (zbb b).length) (hs : ∀ x ∈ l, x ∈ zbb b) (hb : b.length <= 4194304) : (zaF l).length <= 140737488355328 := by
 obtain ⟨h1, h2⟩ := zfD b
 rw [zih]
 have := zgp l b.length (fun x hx => h2 x (hs x hx))
 have h3 : l.length * (b.length + 1) <= 4194304 * 4194305 := Nat.mul_le_mul (by omega) (by omega)
 omega
theorem zif : ∀ (l : List zaa) (k : Nat), (∀ x ∈ l, x.length <= k) -> l.flatten.length <= l.length * k
 | [], _, _ => by simp
 | x :: l, k, h => by
  have := zif l k (fun y hy => h y (List.mem_cons_of_mem _ hy))
  have hx := h x List.mem_cons_self
  rw [List.flatten_cons, List.length_append, List.length_cons, Nat.add_mul, Nat.one_mul]
  omega
theorem zgP : ∀ l : List zaa, Lib.join l [] = l.flatten
 | [] => rfl
 | [x] => by simp [Lib.join]
 | x :: y :: l => by
  have := zgP (y :: l)
  simp [Lib.join] at this |-
  exact this
theorem zno (n : Int) : (zaW n).length <= n.toNat + 1 := by
 unfold zaW
 generalize n.toNat = u
 induction u using Nat.strongRecOn with
 | ind u ih =>
  rw [Lib.decDigits]
  split
  . simp
  . rename_i h
    have := ih (u / 10) (by omega)
    rw [List.length_append]
    simp only [List.length_singleton]
    omega
theorem zlD (y : ByteArray) (h : y.size < 4294967281) : ∀ x ∈ za6 y, x.size < 4294967281 := by
 intro x hx
 unfold za6 at hx
 obtain ⟨z, hz, rfl⟩ := List.mem_map.1 hx
 have := (zfD y.data.toList).2 z hz
 rw [<- Lib.size_eq] at this
 rw [za4]
 omega
theorem zhn (q : zaa -> Bool) (l : List ByteArray) : zac (l.filter fun x => q x.data.toList) = (zac l).filter q := by
 unfold zac
 rw [List.filter_map]
 rfl
theorem zjT {B : Nat} {w w1 : World} {row : Option Nat} (hg : w.grownBy w1 row) (hB : B <= w.heap.size) (hb : ∀ k, row = some k -> B <= k) : Below B w w1 := (Below.refl B w).grown hg hB hb
abbrev Sm := { x : ByteArray // x.size < 4294967281 }
instance : Inhabited Sm := ⟨⟨ByteArray.empty, by decide⟩⟩
def zb9 (x : Sm) : Value := .string x.1
theorem zj8 (l : List ByteArray) (h : ∀ x ∈ l, x.size < 4294967281) : ∃ k : List Sm, k.map (·.1) = l := by
 induction l with
 | nil => exact ⟨[], rfl⟩
 | cons x r ih =>
  obtain ⟨k, hk⟩ := ih (fun y hy => h y (List.mem_cons_of_mem _ hy))
  exact ⟨⟨x, h x List.mem_cons_self⟩ :: k, by rw [List.map_cons, hk]⟩
theorem zka {w : World} {g n : Nat} {os : Array Obj} {cur : Array Value} {e : TypeId} {fr : Nat × Nat} (d : Array Sm) (hb : w.heap[g]? = some (.cells cur e fr)) :
 (Sort.grow (putRow zb9 (Sort.ahead w n) g 0 d) os).heap[g]? = some (.cells (putCells zb9 0 d cur) e fr) := by
 have hg : g < w.heap.size := (Array.getElem?_eq_some_iff.1 hb).1
 rw [heap_grow_old _ _ (by simpa using hg)]
 simp [putRow, mapBlock, Sort.ahead, Array.getElem?_modify, hb, onCells]
theorem zhV {w : World} {g n : Nat} {os : Array Obj} (d : Array Sm) : w.grownBy (Sort.grow (putRow zb9 (Sort.ahead w n) g 0 d) os) (some g) := by
 refine ⟨rfl, rfl, rfl, by simp, fun k hk hne => ?_⟩
 rw [heap_grow_old _ _ (by simpa using hk)]
 have : g ≠ k := fun e => hne (by rw [e])
 simp [putRow, mapBlock, Sort.ahead, Array.getElem?_modify, this]
theorem zjO (cur : Array Value) (ts rest : List Sm) (h : ts.length + rest.length <= cur.size) : (putCells zb9 0 (ts ++ rest).toArray cur).toList.take ts.length = ts.map zb9 := by
 apply List.ext_getElem?
 intro j
 by_cases hj : j < ts.length
 . rw [List.getElem?_take_of_lt hj, Array.getElem?_toList]
   simp [putCells, hj, show j < cur.size by omega, show j < ts.length + rest.length by omega, List.getElem_append_left]
 . rw [List.getElem?_take_eq_none (by omega), List.getElem?_eq_none (by simp; omega)]
theorem zkg {w : World} {g : Nat} {cur : Array Value} {e : TypeId} {ss : List Sm} (hb : w.heap[g]? = some (.cells cur e (0, 0))) (ht : cur.toList.take ss.length = ss.map zb9) : Holds zb9 w g 0 ss.toArray := by
 intro j hj
 have hj' : j < ss.length := by simpa using hj
 refine ⟨?_, by simp [World.frozen?, hb]⟩
 have h1 : (cur.toList.take ss.length)[j]? = (ss.map zb9)[j]? := by rw [ht]
 rw [List.getElem?_take_of_lt hj'] at h1
 simp only [World.cell?, hb, Nat.zero_add]
 simp only [Option.isSome_none, Bool.false_eq_true, if_false]
 rw [<- Array.getElem?_toList, h1]
 simp [hj']
set_option maxHeartbeats 2000000 in
theorem zj2 (g : Nat) (lb : Array Value) (A : Option Addr) (c : Nat) (w : World) :
 Calls Tryz.prog 76 #[.slice A 0 c, .func (.func g) #[] lb] w fun e w' => e = .returned (.int .i64 (-1)) /\ w = w' := by
 go_enter Tryz.func76, Tryz.ntmps76
 go_wp2
 go_loopg [5, 8] 0 (fun _ _ s8 wr => s8 = .int .i64 0 /\ wr = w)
 case atStart => exact ⟨rfl, rfl⟩
 case round =>
  obtain ⟨rfl, rfl⟩ := hrel
  go_wp2
  go_ret
  exact ⟨rfl, rfl⟩
set_option maxHeartbeats 1000000 in
theorem zkl (B base g : Nat) (lb : Array Value) (eg : ∀ args w, (callFunc g args).run Tryz.prog w = .ok (.enter g args) w) (q : ByteArray -> Bool) (v : Value) (l : List ByteArray) (w : World)
 (hown : w.ownsRow base 9 1 v l.length (encs Value.string l)) (hB : B <= base) (hBw : B <= w.heap.size) (hp : ∀ (W : World) (x : ByteArray), Below B w W -> x.size < 4294967281 -> Go.Proofs.FnGives Tryz.prog g lb #[.string x] (.bool (!q x)) W) (hs : ∀ x ∈ l, x.size < 4294967281) :
 Calls Tryz.prog 86 #[v, .func (.func g) #[] lb] w fun e w' => ∃ v', e = .returned v' /\ w'.ownsRow base 9 1 v' (l.filter q).length (encs Value.string (l.filter q)) /\ v'.ownBlock = v.ownBlock /\ w.grownBy w' v.ownBlock := by
 obtain ⟨k, rfl⟩ := zj8 l hs
 have hfm : (k.map (·.1)).filter q = (k.filter fun x : Sm => q x.1).map (·.1) := by rw [List.filter_map]; rfl
 have hem : ∀ j : List Sm, encs Value.string (j.map (·.1)) = j.map zb9 := fun j => by unfold encs; rw [List.map_map]; rfl
 rw [hfm]
 rw [hem] at hown |-
 rw [List.length_map] at hown |-
 have hlen : k.length <= 9223372036854775807 := by
  rcases hown.2 with ⟨_, h0⟩ | ⟨_, cap, cur, _, _, _, h1, h2, _⟩
  . omega
  . simp only [maxLen] at h2; omega
 rcases hown.2 with ⟨rfl, h0⟩ | ⟨gb, cap, cur, rfl, hbase, hb, h1, h2, h3, h4⟩
 . obtain rfl : k = [] := List.eq_nil_of_length_eq_zero h0
   have hI := zj2 g lb none 0 w
   clear hp hown h0 hs hfm
   go_enter Tryz.func86, Tryz.ntmps86
   go_wp2_with fail
   refine hI.mono ?_
   rintro e w2 ⟨rfl, rfl⟩
   clear hI
   go_wp2
   go_ret
   exact ⟨.slice none 0 0, rfl, zcJ _ _ _ _, rfl, World.grownBy.refl _ _⟩
 . have hH : Holds zb9 w gb 0 k.toArray := zkg hb (by simpa using h4)
   have hcall := Go.Proofs.AnyE.slices_DeleteFunc Go.Proofs.Tryz.laysDel zb9 (fun _ => rfl) (fun x => !q x.1) g lb eg ⟨ByteArray.empty, by decide⟩ Tryz.zeroValue9 gb 0 cap k.toArray w
    (fun W x hb => hp W x.1 (hb.mono hBw) x.2)
    (fun n os dk x _ => hp _ x.1 (zgI (zhV dk) hBw (by omega)) x.2) hH (by simpa using hlen) (by simpa using h1)
   change Calls Tryz.prog 86 _ _ _ at hcall
   refine hcall.mono fun e w' ⟨he, n, hw⟩ => ?_
   have hff : (k.filter fun x : Sm => !(!q x.1)) = k.filter fun x : Sm => q x.1 := by congr 1; funext x; rw [Bool.not_not]
   have hf : (k.filter fun x : Sm => q x.1).length <= k.length := List.length_filter_le _ _
   have hg0 : w' = Sort.grow (putRow zb9 (Sort.ahead w n) gb 0 ((k.filter fun x : Sm => q x.1) ++ List.replicate (k.length - (k.filter fun x : Sm => q x.1).length) (⟨ByteArray.empty, by decide⟩ : Sm)).toArray) #[] := by
    rw [hw]
    simp [hff]
   refine ⟨.slice (some ⟨gb, 0, none⟩) (k.filter fun x : Sm => q x.1).length cap, by rw [he]; simp [hff], ?_, rfl, ?_⟩
   . refine ⟨by simp, .inr ⟨gb, cap, _, rfl, hbase, by rw [hg0]; exact zka _ hb, by simpa using Nat.le_trans hf h1, h2, by simp [putCells, h3], ?_⟩⟩
     simp only [Nat.mul_one]
     exact zjO cur _ _ (by rw [List.length_replicate]; omega)
   . rw [hg0]; exact zhV _
theorem ziK : ∀ args w, (callFunc 84 args).run Tryz.prog w = .ok (.enter 84 args) w := Go.Proofs.enters_of Tryz.func84 (by kernel_rfl) rfl
theorem zny (g : Nat) (c3 n : Nat) (b o : Nat) (t : ByteArray) (W : World) (hG : GOK W) (hk : W.cell? ⟨g, 3, none⟩ = some (.slice (some ⟨b, o, none⟩) n c3)) (hn : (0 : Int) < (n : Int)) (hx : W.cell? ⟨b, o, none⟩ = some (.string t)) (x : ByteArray) (hs : x.size < 4294967281) :
 Calls Tryz.prog 84 #[.string x, .pointer (some ⟨g, 0, none⟩)] W fun e w' => e = .returned (.bool (!Lib.contains x.data.toList t.data.toList)) /\ W = w' := by
 have hC := zl2 x t W hG hs
 generalize Lib.contains x.data.toList t.data.toList = q at hC |-
 have HC := znM hC
 clear hC hG hs
 go_enter Tryz.func84, Tryz.ntmps84
 go_wp2_with (first | (go_at_call 85; refine HC.out.mono ?_; rintro e w2 ⟨rfl, rfl⟩))
 go_ret
 exact ⟨rfl, rfl⟩
def IsOf (r : zaa × Bool) (w : World) (e : Ending) (w' : World) : Prop := e = .returned (.tuple #[.string (mk r.1), .bool r.2]) /\ Below w.heap.size w w'
--OF
set_option maxHeartbeats 4000000 in
set_option maxRecDepth 100000 in
theorem zk1 (x : zaA) (B2 : Option Addr) (c2 : Nat) (B3 : Option Addr) (c3 : Nat) (A : Option Addr) (c : Nat) (bs : List ByteArray) (w : World) (hG : GOK w) (h3 : Kd.C Kd.string w B3 x.f3.length x.f3) (hr : Kd.C Kd.string w A bs.length bs) (hc : bs.length <= c)
 (hm : mayC (zal x) = true) (hn : bs.length = x.f2.length) (hsz : ∀ b ∈ bs, b.size <= 4194304) (hop : x.f1 = 1) :
 Calls Tryz.prog 59 #[.agg #[.string x.f0, .int .i64 x.f1, .slice B2 x.f2.length c2, .slice B3 x.f3.length c3, .int .i64 x.f4], .slice A bs.length c] w (IsOf (zaG (zal x) (zac bs)) w) := by
 obtain ⟨fop, f1, f5, f6, f7, f8, fn, fl⟩ := zb6 hm
 have e1 : (zal x).op = 1 := hop
 have e2 : (zal x).args = bs.length := hn.symm
 rw [e1] at f1 f5 f6 f7 f8
 rw [e2] at f1 f5 f6
 have h1 : bs.length = 1 := f1 (by omega) (by omega)
 obtain ⟨y, rfl⟩ : ∃ y, bs = [y] := by
  cases bs with
  | nil => simp at h1
  | cons y r => cases r with
   | nil => exact ⟨y, rfl⟩
   | cons z s => simp at h1
 have hy := hsz y (by simp)
 rcases zaZ hr with h0 | ⟨b, o, rfl, hb, hcell⟩
 . cases h0
 have p0 := hcell 0 (by simp)
 rw [Nat.add_zero] at p0
 have p0 : w.cell? ⟨b, o, none⟩ = some (.string y) := p0
 have HP := znM p0
 clear hcell p0 h1
 have hM : zaG (zal x) (zac [y]) = (y.data.toList, true) := by unfold zaG; rw [e1]; rfl
 rw [hM]
 clear hM
 obtain ⟨f0, op, l2, l3, f4⟩ := x
 dsimp only at *
 subst hop
 have hab := (Below.refl w.heap.size w).alloc (Nat.le_refl _) (.cells #[.string f0, .int .i64 1, .slice B2 l2.length c2, .slice B3 l3.length c3, .int .i64 f4] 24)
 have HK := znM (zan w (.cells #[.string f0, .int .i64 1, .slice B2 l2.length c2, .slice B3 l3.length c3, .int .i64 f4] 24))
 have HB1 := znM hab
 have HR := znM (Kd.C_below hr hab)
 have H3 := znM (Kd.C_below h3 hab)
 have HG := znM (hG.below hab)
 clear hab
 clear hG h3 hr hm hn hsz fop f1 f5 f6 f7 f8 fn fl e1 e2
 go_enter Tryz.func59, Tryz.ntmps59
 go_upto_block 0 with fail
 generalize w.alloc (.cells #[.string f0, .int .i64 1, .slice B2 l2.length c2, .slice B3 l3.length c3, .int .i64 f4] 24) = w1 at HB1 HK HR H3 HG |-
 have k1 : w1.cell? ⟨w.heap.size, 1, none⟩ = some (.int .i64 1) := (zab HK.out 1).trans rfl
 have k3 : w1.cell? ⟨w.heap.size, 3, none⟩ = some (.slice B3 l3.length c3) := (zab HK.out 3).trans rfl
 have k4 : w1.cell? ⟨w.heap.size, 4, none⟩ = some (.int .i64 f4) := (zab HK.out 4).trans rfl
 have d1 : ((1 : Int) == 1) = true := by decide
 have p1 := zaf HB1.out HP.out
 have hl : (0 : Int) < (([y] : List ByteArray).length : Int) := by simp
 go_wp2_with fail
 go_ret2
 exact ⟨by rw [zbi]; rfl, HB1.out⟩
set_option maxHeartbeats 4000000 in
set_option maxRecDepth 100000 in
theorem zkv (x : zaA) (B2 : Option Addr) (c2 : Nat) (B3 : Option Addr) (c3 : Nat) (A : Option Addr) (c : Nat) (bs : List ByteArray) (w : World) (hG : GOK w) (h3 : Kd.C Kd.string w B3 x.f3.length x.f3) (hr : Kd.C Kd.string w A bs.length bs) (hc : bs.length <= c)
 (hm : mayC (zal x) = true) (hn : bs.length = x.f2.length) (hsz : ∀ b ∈ bs, b.size <= 4194304) (hop : x.f1 = 2) :
 Calls Tryz.prog 59 #[.agg #[.string x.f0, .int .i64 x.f1, .slice B2 x.f2.length c2, .slice B3 x.f3.length c3, .int .i64 x.f4], .slice A bs.length c] w (IsOf (zaG (zal x) (zac bs)) w) := by
 obtain ⟨fop, f1, f5, f6, f7, f8, fn, fl⟩ := zb6 hm
 have e1 : (zal x).op = 2 := hop
 have e2 : (zal x).args = bs.length := hn.symm
 rw [e1] at f1 f5 f6 f7 f8
 rw [e2] at f1 f5 f6
 have h1 : bs.length = 1 := f1 (by omega) (by omega)
 obtain ⟨y, rfl⟩ : ∃ y, bs = [y] := by
  cases bs with
  | nil => simp at h1
  | cons y r => cases r with
   | nil => exact ⟨y, rfl⟩
   | cons z s => simp at h1
 have hy := hsz y (by simp)
 rcases zaZ hr with h0 | ⟨b, o, rfl, hb, hcell⟩
 . cases h0
 have p0 := hcell 0 (by simp)
 rw [Nat.add_zero] at p0
 have p0 : w.cell? ⟨b, o, none⟩ = some (.string y) := p0
 have HP := znM p0
 clear hcell p0 h1
 have hM : zaG (zal x) (zac [y]) = (y.data.toList, !(y.data.toList == [])) := by unfold zaG; rw [e1]; rfl
 rw [hM]
 clear hM
 obtain ⟨f0, op, l2, l3, f4⟩ := x
 dsimp only at *
 subst hop
 have hab := (Below.refl w.heap.size w).alloc (Nat.le_refl _) (.cells #[.string f0, .int .i64 2, .slice B2 l2.length c2, .slice B3 l3.length c3, .int .i64 f4] 24)
 have HK := znM (zan w (.cells #[.string f0, .int .i64 2, .slice B2 l2.length c2, .slice B3 l3.length c3, .int .i64 f4] 24))
 have HB1 := znM hab
 have HR := znM (Kd.C_below hr hab)
 have H3 := znM (Kd.C_below h3 hab)
 have HG := znM (hG.below hab)
 clear hab
 clear hG h3 hr hm hn hsz fop f1 f5 f6 f7 f8 fn fl e1 e2
 go_enter Tryz.func59, Tryz.ntmps59
 go_upto_block 0 with fail
 generalize w.alloc (.cells #[.string f0, .int .i64 2, .slice B2 l2.length c2, .slice B3 l3.length c3, .int .i64 f4] 24) = w1 at HB1 HK HR H3 HG |-
 have k1 : w1.cell? ⟨w.heap.size, 1, none⟩ = some (.int .i64 2) := (zab HK.out 1).trans rfl
 have k3 : w1.cell? ⟨w.heap.size, 3, none⟩ = some (.slice B3 l3.length c3) := (zab HK.out 3).trans rfl
 have k4 : w1.cell? ⟨w.heap.size, 4, none⟩ = some (.int .i64 f4) := (zab HK.out 4).trans rfl
 have d1 : ((2 : Int) == 1) = false := by decide
 have d2 : ((2 : Int) == 2) = true := by decide
 have p1 := zaf HB1.out HP.out
 have hl : (0 : Int) < (([y] : List ByteArray).length : Int) := by simp
 have hq : (y.toList != []) = !(y.data.toList == []) := by rw [zbv]; rfl
 by_cases hy0 : y.toList = []
 . have dy : (y.toList == []) = true := by simp [hy0]
   have dz : (y.toList != []) = false := by simp [hy0]
   have hv : (y.data.toList == []) = true := by rw [<- zbv]; exact dy
   have HV := znM hv
   clear hq hv
   go_wp2_with fail
   go_quiet (fail)
   go_wp2_with fail
   go_ret2
   exact ⟨by rw [zbi, HV.out]; rfl, by first | exact HB1.out | exact zam HB1.out _⟩
 . have dy : (y.toList == []) = false := by simp [hy0]
   have dz : (y.toList != []) = true := by simp [hy0]
   have hv : (y.data.toList == []) = false := by rw [<- zbv]; exact dy
   have HV := znM hv
   clear hq hv
   go_wp2_with fail
   go_quiet (fail)
   go_wp2_with fail
   go_ret2
   exact ⟨by rw [zbi, HV.out]; rfl, by first | exact HB1.out | exact zam HB1.out _⟩
set_option maxHeartbeats 4000000 in
set_option maxRecDepth 100000 in
theorem zj6 (x : zaA) (B2 : Option Addr) (c2 : Nat) (B3 : Option Addr) (c3 : Nat) (A : Option Addr) (c : Nat) (bs : List ByteArray) (w : World) (hG : GOK w) (h3 : Kd.C Kd.string w B3 x.f3.length x.f3) (hr : Kd.C Kd.string w A bs.length bs) (hc : bs.length <= c)
 (hm : mayC (zal x) = true) (hn : bs.length = x.f2.length) (hsz : ∀ b ∈ bs, b.size <= 4194304) (hop : x.f1 = 3) :
 Calls Tryz.prog 59 #[.agg #[.string x.f0, .int .i64 x.f1, .slice B2 x.f2.length c2, .slice B3 x.f3.length c3, .int .i64 x.f4], .slice A bs.length c] w (IsOf (zaG (zal x) (zac bs)) w) := by
 obtain ⟨fop, f1, f5, f6, f7, f8, fn, fl⟩ := zb6 hm
 have e1 : (zal x).op = 3 := hop
 have e2 : (zal x).args = bs.length := hn.symm
 rw [e1] at f1 f5 f6 f7 f8
 rw [e2] at f1 f5 f6
 have h1 : bs.length = 1 := f1 (by omega) (by omega)
 obtain ⟨y, rfl⟩ : ∃ y, bs = [y] := by
  cases bs with
  | nil => simp at h1
  | cons y r => cases r with
   | nil => exact ⟨y, rfl⟩
   | cons z s => simp at h1
 have hy := hsz y (by simp)
 rcases zaZ hr with h0 | ⟨b, o, rfl, hb, hcell⟩
 . cases h0
 have p0 := hcell 0 (by simp)
 rw [Nat.add_zero] at p0
 have p0 : w.cell? ⟨b, o, none⟩ = some (.string y) := p0
 have HP := znM p0
 clear hcell p0 h1
 have hM : zaG (zal x) (zac [y]) = (zaF ((zbb y.data.toList).mergeSort fun x y => decide (x <= y)), true) := by unfold zaG; rw [e1]; rfl
 rw [hM]
 clear hM
 obtain ⟨f0, op, l2, l3, f4⟩ := x
 dsimp only at *
 subst hop
 have hab := (Below.refl w.heap.size w).alloc (Nat.le_refl _) (.cells #[.string f0, .int .i64 3, .slice B2 l2.length c2, .slice B3 l3.length c3, .int .i64 f4] 24)
 have HK := znM (zan w (.cells #[.string f0, .int .i64 3, .slice B2 l2.length c2, .slice B3 l3.length c3, .int .i64 f4] 24))
 have HB1 := znM hab
 have HR := znM (Kd.C_below hr hab)
 have H3 := znM (Kd.C_below h3 hab)
 have HG := znM (hG.below hab)
 clear hab
 clear hG h3 hr hm hn hsz fop f1 f5 f6 f7 f8 fn fl e1 e2
 go_enter Tryz.func59, Tryz.ntmps59
 go_upto_block 0 with fail
 generalize w.alloc (.cells #[.string f0, .int .i64 3, .slice B2 l2.length c2, .slice B3 l3.length c3, .int .i64 f4] 24) = w1 at HB1 HK HR H3 HG |-
 have k1 : w1.cell? ⟨w.heap.size, 1, none⟩ = some (.int .i64 3) := (zab HK.out 1).trans rfl
 have k3 : w1.cell? ⟨w.heap.size, 3, none⟩ = some (.slice B3 l3.length c3) := (zab HK.out 3).trans rfl
 have k4 : w1.cell? ⟨w.heap.size, 4, none⟩ = some (.int .i64 f4) := (zab HK.out 4).trans rfl
 have d1 : ((3 : Int) == 1) = false := by decide
 have d2 : ((3 : Int) == 2) = false := by decide
 have d3 : ((3 : Int) == 3) = true := by decide
 have p1 := zaf HB1.out HP.out
 have hl : (0 : Int) < (([y] : List ByteArray).length : Int) := by simp
 have hLi := zdH y w1 HG.out (by omega)
 have HY := znM hy
 have HLi := znM hLi
 clear hLi hy
 go_wp2_with (first
  | (go_at_call 23; refine HLi.out.mono ?_; rintro e w2 ⟨v, rfl, hR, hb2⟩; obtain ⟨A2, n2, rfl, hcap, hC2⟩ := Kd.R_reads hR; have HC2 := znM hC2; have HB2 := znM hb2; clear hcap hR hC2 hb2)
  | (go_at_call 81; refine (zlF _ _ _ _).mono ?_; rintro e w3 ⟨rfl, rfl⟩)
  | (go_at_call 80; refine (zlK A2 n2 (za6 y) w2 HC2.out (by have := zhT y.data.toList; rw [<- Lib.size_eq] at this; have h2 := HY.out; unfold za6; rw [List.length_map]; omega)).mono ?_; rintro e w4 ⟨v4, rfl, hR4, hb4⟩; obtain ⟨A4, n4, rfl, hcap4, hC4⟩ := Kd.R_reads hR4; have HC4 := znM hC4; have HB4 := znM hb4; clear hcap4 hR4 hC4 hb4)
  | (go_at_call 79; refine (zgU A4 n4 (zae (za6 y)) w4 HC4.out (by rw [zd6]; unfold za6; rw [zdr]; exact zgc y.data.toList _ (by rw [List.length_mergeSort]; exact Nat.le_refl _) (fun x hx => List.mem_mergeSort.1 hx) (by have h2 := HY.out; rw [Lib.size_eq] at h2; exact h2))).mono ?_; rintro e w5 ⟨rfl, hb5⟩; have HB5 := znM hb5; clear hb5))
 go_ret2
 refine ⟨by rw [zd6]; unfold za6; rw [zdr]; rfl, ?_⟩
 exact zad (zad (zad HB1.out HB1.out.size HB2.out) (Nat.le_trans HB1.out.size HB2.out.size) HB4.out) (Nat.le_trans (Nat.le_trans HB1.out.size HB2.out.size) HB4.out.size) HB5.out
set_option maxHeartbeats 4000000 in
set_option maxRecDepth 100000 in
theorem zjR (x : zaA) (B2 : Option Addr) (c2 : Nat) (B3 : Option Addr) (c3 : Nat) (A : Option Addr) (c : Nat) (bs : List ByteArray) (w : World) (hG : GOK w) (h3 : Kd.C Kd.string w B3 x.f3.length x.f3) (hr : Kd.C Kd.string w A bs.length bs) (hc : bs.length <= c)
 (hm : mayC (zal x) = true) (hn : bs.length = x.f2.length) (hsz : ∀ b ∈ bs, b.size <= 4194304) (hop : x.f1 = 4) :
 Calls Tryz.prog 59 #[.agg #[.string x.f0, .int .i64 x.f1, .slice B2 x.f2.length c2, .slice B3 x.f3.length c3, .int .i64 x.f4], .slice A bs.length c] w (IsOf (zaG (zal x) (zac bs)) w) := by
 obtain ⟨fop, f1, f5, f6, f7, f8, fn, fl⟩ := zb6 hm
 have e1 : (zal x).op = 4 := hop
 have e2 : (zal x).args = bs.length := hn.symm
 rw [e1] at f1 f5 f6 f7 f8
 rw [e2] at f1 f5 f6
 have h1 : bs.length = 1 := f1 (by omega) (by omega)
 obtain ⟨y, rfl⟩ : ∃ y, bs = [y] := by
  cases bs with
  | nil => simp at h1
  | cons y r => cases r with
   | nil => exact ⟨y, rfl⟩
   | cons z s => simp at h1
 have hy := hsz y (by simp)
 rcases zaZ hr with h0 | ⟨b, o, rfl, hb, hcell⟩
 . cases h0
 have p0 := hcell 0 (by simp)
 rw [Nat.add_zero] at p0
 have p0 : w.cell? ⟨b, o, none⟩ = some (.string y) := p0
 have HP := znM p0
 clear hcell p0 h1
 have hM : zaG (zal x) (zac [y]) = (zaW ((zbb y.data.toList).length : Int) ++ [10], true) := by unfold zaG; rw [e1]; rfl
 rw [hM]
 clear hM
 obtain ⟨f0, op, l2, l3, f4⟩ := x
 dsimp only at *
 subst hop
 have hab := (Below.refl w.heap.size w).alloc (Nat.le_refl _) (.cells #[.string f0, .int .i64 4, .slice B2 l2.length c2, .slice B3 l3.length c3, .int .i64 f4] 24)
 have HK := znM (zan w (.cells #[.string f0, .int .i64 4, .slice B2 l2.length c2, .slice B3 l3.length c3, .int .i64 f4] 24))
 have HB1 := znM hab
 have HR := znM (Kd.C_below hr hab)
 have H3 := znM (Kd.C_below h3 hab)
 have HG := znM (hG.below hab)
 clear hab
 clear hG h3 hr hm hn hsz fop f1 f5 f6 f7 f8 fn fl e1 e2
 go_enter Tryz.func59, Tryz.ntmps59
 go_upto_block 0 with fail
 generalize w.alloc (.cells #[.string f0, .int .i64 4, .slice B2 l2.length c2, .slice B3 l3.length c3, .int .i64 f4] 24) = w1 at HB1 HK HR H3 HG |-
 have k1 : w1.cell? ⟨w.heap.size, 1, none⟩ = some (.int .i64 4) := (zab HK.out 1).trans rfl
 have k3 : w1.cell? ⟨w.heap.size, 3, none⟩ = some (.slice B3 l3.length c3) := (zab HK.out 3).trans rfl
 have k4 : w1.cell? ⟨w.heap.size, 4, none⟩ = some (.int .i64 f4) := (zab HK.out 4).trans rfl
 have d1 : ((4 : Int) == 1) = false := by decide
 have d2 : ((4 : Int) == 2) = false := by decide
 have d3 : ((4 : Int) == 3) = false := by decide
 have d4 : ((4 : Int) == 4) = true := by decide
 have p1 := zaf HB1.out HP.out
 have hl : (0 : Int) < (([y] : List ByteArray).length : Int) := by simp
 have hLi := zdH y w1 HG.out (by omega)
 have hll : (za6 y).length = (zbb y.data.toList).length := by unfold za6; rw [List.length_map]
 have hle : (za6 y).length <= 4194304 := by rw [hll]; have := zhT y.data.toList; rw [<- Lib.size_eq] at this; omega
 rw [<- hll]
 generalize za6 y = ly at hLi hle |-
 have hN : ∀ W, GOK W -> Calls Tryz.prog 82 #[.int .i64 (ly.length : Int)] W fun e w' => e = .returned (.string (mk (zaW (ly.length : Int)))) /\ Below W.heap.size W w' := fun W h => zeV (ly.length : Int) (by omega) (by omega) W h
 have hap : mk (zaW (ly.length : Int) ++ [10]) = mk (zaW (ly.length : Int)) ++ ⟨#[10]⟩ := (zdw _ [10]).symm
 have HLi := znM hLi
 have HN := znM hN
 have HA := znM hap
 have hnz : (mk (zaW (ly.length : Int))).size <= 100000000 := by
  rw [za4]
  have := zno (ly.length : Int); omega
 generalize mk (zaW (ly.length : Int)) = nv at HN HA hnz
 clear hLi hN hap hll hy
 go_wp2_with (first
  | (go_at_call 23; refine HLi.out.mono ?_; rintro e w2 ⟨v, rfl, hR, hb2⟩; obtain ⟨A2, n2, rfl, hcap, hC2⟩ := Kd.R_reads hR; have HB2 := znM hb2; clear hcap hR hC2 hb2)
  | (go_at_call 82; refine (HN.out _ (HG.out.below HB2.out)).mono ?_; rintro e w4 ⟨rfl, hb4⟩; have HB4 := znM hb4; clear hb4))
 go_ret2
 exact ⟨by show _ = Ending.returned (.tuple #[.string (mk (zaW (ly.length : Int) ++ [10])), .bool true]); rw [HA.out]; rfl, zad (zad HB1.out HB1.out.size HB2.out) (Nat.le_trans HB1.out.size HB2.out.size) HB4.out⟩
set_option maxHeartbeats 4000000 in
set_option maxRecDepth 100000 in
theorem zlf (x : zaA) (B2 : Option Addr) (c2 : Nat) (B3 : Option Addr) (c3 : Nat) (A : Option Addr) (c : Nat) (bs : List ByteArray) (w : World) (hG : GOK w) (h3 : Kd.C Kd.string w B3 x.f3.length x.f3) (hr : Kd.C Kd.string w A bs.length bs) (hc : bs.length <= c)
 (hm : mayC (zal x) = true) (hn : bs.length = x.f2.length) (hsz : ∀ b ∈ bs, b.size <= 4194304) (hop : x.f1 = 5) :
 Calls Tryz.prog 59 #[.agg #[.string x.f0, .int .i64 x.f1, .slice B2 x.f2.length c2, .slice B3 x.f3.length c3, .int .i64 x.f4], .slice A bs.length c] w (IsOf (zaG (zal x) (zac bs)) w) := by
 obtain ⟨fop, f1, f5, f6, f7, f8, fn, fl⟩ := zb6 hm
 have e1 : (zal x).op = 5 := hop
 have e2 : (zal x).args = bs.length := hn.symm
 rw [e1] at f1 f5 f6 f7 f8
 rw [e2] at f1 f5 f6
 have hM : zaG (zal x) (zac bs) = ((zac bs).flatten, true) := by unfold zaG; rw [e1]; rfl
 rw [hM]
 clear hM
 have hfl : (zac bs).flatten.length <= 140737488355328 := by
  have := zif (zac bs) 4194304 (fun b hb => by
   obtain ⟨z, hz, rfl⟩ := List.mem_map.1 hb
   rw [<- Lib.size_eq]
   exact hsz z hz)
  rw [za1] at this
  have h6 := f5 rfl
  have : bs.length * 4194304 <= 6 * 4194304 := Nat.mul_le_mul h6 (Nat.le_refl _)
  omega
 have hJf : strings_Join.f bs ⟨#[]⟩ = some (mk (zac bs).flatten) := by
  unfold strings_Join.f
  have e : Lib.join (bs.map (·.data.toList)) (⟨#[]⟩ : ByteArray).data.toList = (zac bs).flatten := zgP _
  rw [e, if_pos ⟨by have := f5 rfl; omega, hfl⟩]
 obtain ⟨f0, op, l2, l3, f4⟩ := x
 dsimp only at *
 subst hop
 have hab := (Below.refl w.heap.size w).alloc (Nat.le_refl _) (.cells #[.string f0, .int .i64 5, .slice B2 l2.length c2, .slice B3 l3.length c3, .int .i64 f4] 24)
 have HK := znM (zan w (.cells #[.string f0, .int .i64 5, .slice B2 l2.length c2, .slice B3 l3.length c3, .int .i64 f4] 24))
 have HB1 := znM hab
 have HR := znM (Kd.C_below hr hab)
 have H3 := znM (Kd.C_below h3 hab)
 have HG := znM (hG.below hab)
 clear hab
 have hJ := strings_Join.calls A c bs ⟨#[]⟩ _ _ HG.out HR.out hc hJf
 generalize (zac bs).flatten = fl0 at hJ |-
 have HJ := znM hJ
 clear hJ hfl hJf
 clear hG h3 hr hm hn hsz fop f1 f5 f6 f7 f8 fn fl e1 e2
 go_enter Tryz.func59, Tryz.ntmps59
 go_upto_block 0 with fail
 generalize w.alloc (.cells #[.string f0, .int .i64 5, .slice B2 l2.length c2, .slice B3 l3.length c3, .int .i64 f4] 24) = w1 at HB1 HK HR H3 HG HJ |-
 have k1 : w1.cell? ⟨w.heap.size, 1, none⟩ = some (.int .i64 5) := (zab HK.out 1).trans rfl
 have k3 : w1.cell? ⟨w.heap.size, 3, none⟩ = some (.slice B3 l3.length c3) := (zab HK.out 3).trans rfl
 have k4 : w1.cell? ⟨w.heap.size, 4, none⟩ = some (.int .i64 f4) := (zab HK.out 4).trans rfl
 have d1 : ((5 : Int) == 1) = false := by decide
 have d2 : ((5 : Int) == 2) = false := by decide
 have d3 : ((5 : Int) == 3) = false := by decide
 have d4 : ((5 : Int) == 4) = false := by decide
 have d5 : ((5 : Int) == 5) = true := by decide
 go_wp2_with (first | (go_at_call 83; refine HJ.out.mono ?_; rintro e w2 ⟨rfl, hb2⟩; have HB2 := znM hb2; clear hb2))
 go_ret2
 exact ⟨rfl, zad HB1.out HB1.out.size HB2.out⟩
set_option maxHeartbeats 4000000 in
set_option maxRecDepth 100000 in
theorem zkC (x : zaA) (B2 : Option Addr) (c2 : Nat) (B3 : Option Addr) (c3 : Nat) (A : Option Addr) (c : Nat) (bs : List ByteArray) (w : World) (hG : GOK w) (h3 : Kd.C Kd.string w B3 x.f3.length x.f3) (hr : Kd.C Kd.string w A bs.length bs) (hc : bs.length <= c)
 (hm : mayC (zal x) = true) (hn : bs.length = x.f2.length) (hsz : ∀ b ∈ bs, b.size <= 4194304) (hop : x.f1 = 6) :
 Calls Tryz.prog 59 #[.agg #[.string x.f0, .int .i64 x.f1, .slice B2 x.f2.length c2, .slice B3 x.f3.length c3, .int .i64 x.f4], .slice A bs.length c] w (IsOf (zaG (zal x) (zac bs)) w) := by
 obtain ⟨fop, f1, f5, f6, f7, f8, fn, fl⟩ := zb6 hm
 have e1 : (zal x).op = 6 := hop
 have e2 : (zal x).args = bs.length := hn.symm
 rw [e1] at f1 f5 f6 f7 f8
 rw [e2] at f1 f5 f6
 have hlen3 : 0 < x.f3.length := by have := (f6 rfl).2; unfold zal at this; dsimp only at this; rw [List.length_map] at this; omega
 rcases zaZ h3 with h0 | ⟨b3, o3, hB3, hb3, hcell3⟩
 . exfalso; rw [h0] at hlen3; simp at hlen3
 have q0 := hcell3 0 hlen3
 rw [Nat.add_zero] at q0
 have hlit : (zal x).lits.getD 0 [] = (x.f3.getD 0 ByteArray.empty).data.toList := by unfold zal; dsimp only; cases x.f3 <;> rfl
 have hlz : (x.f3.getD 0 ByteArray.empty).size <= 100 := by
  have := fl ((zal x).lits.getD 0 []) (by
   have h : 0 < (zal x).lits.length := by unfold zal; dsimp only; rw [List.length_map]; exact hlen3
   rw [List.getD_eq_getElem?_getD, List.getElem?_eq_getElem h]
   exact List.getElem_mem h)
  rw [hlit, <- Lib.size_eq] at this
  exact this
 subst hB3
 have hM : zaG (zal x) (zac bs) = ((x.f3.getD 0 ByteArray.empty).data.toList, true) := by unfold zaG; rw [e1, hlit]; rfl
 rw [hM]
 clear hM hcell3 hlit
 obtain ⟨f0, op, l2, l3, f4⟩ := x
 dsimp only at *
 subst hop
 have hab := (Below.refl w.heap.size w).alloc (Nat.le_refl _) (.cells #[.string f0, .int .i64 6, .slice B2 l2.length c2, .slice (some ⟨b3, o3, none⟩) l3.length c3, .int .i64 f4] 24)
 have HK := znM (zan w (.cells #[.string f0, .int .i64 6, .slice B2 l2.length c2, .slice (some ⟨b3, o3, none⟩) l3.length c3, .int .i64 f4] 24))
 have HB1 := znM hab
 have HR := znM (Kd.C_below hr hab)
 have H3 := znM (Kd.C_below h3 hab)
 have HG := znM (hG.below hab)
 clear hab
 generalize l3.getD 0 ByteArray.empty = t at q0 hlz |-
 have HQ := znM q0
 have hl3 : (0 : Int) < (l3.length : Int) := by omega
 clear q0 hlen3
 clear hG h3 hr hm hn hsz fop f1 f5 f6 f7 f8 fn fl e1 e2
 go_enter Tryz.func59, Tryz.ntmps59
 go_upto_block 0 with fail
 generalize w.alloc (.cells #[.string f0, .int .i64 6, .slice B2 l2.length c2, .slice (some ⟨b3, o3, none⟩) l3.length c3, .int .i64 f4] 24) = w1 at HB1 HK HR H3 HG |-
 have k1 : w1.cell? ⟨w.heap.size, 1, none⟩ = some (.int .i64 6) := (zab HK.out 1).trans rfl
 have k3 : w1.cell? ⟨w.heap.size, 3, none⟩ = some (.slice (some ⟨b3, o3, none⟩) l3.length c3) := (zab HK.out 3).trans rfl
 have k4 : w1.cell? ⟨w.heap.size, 4, none⟩ = some (.int .i64 f4) := (zab HK.out 4).trans rfl
 have d1 : ((6 : Int) == 1) = false := by decide
 have d2 : ((6 : Int) == 2) = false := by decide
 have d3 : ((6 : Int) == 3) = false := by decide
 have d4 : ((6 : Int) == 4) = false := by decide
 have d5 : ((6 : Int) == 5) = false := by decide
 have d6 : ((6 : Int) == 6) = true := by decide
 have p1 := zaf HB1.out HQ.out
 go_wp2_with fail
 go_ret2
 exact ⟨by rw [zbi]; rfl, HB1.out⟩
set_option maxHeartbeats 4000000 in
set_option maxRecDepth 100000 in
theorem zjP (x : zaA) (B2 : Option Addr) (c2 : Nat) (B3 : Option Addr) (c3 : Nat) (A : Option Addr) (c : Nat) (bs : List ByteArray) (w : World) (hG : GOK w) (h3 : Kd.C Kd.string w B3 x.f3.length x.f3) (hr : Kd.C Kd.string w A bs.length bs) (hc : bs.length <= c)
 (hm : mayC (zal x) = true) (hn : bs.length = x.f2.length) (hsz : ∀ b ∈ bs, b.size <= 4194304) (hop : x.f1 = 7) :
 Calls Tryz.prog 59 #[.agg #[.string x.f0, .int .i64 x.f1, .slice B2 x.f2.length c2, .slice B3 x.f3.length c3, .int .i64 x.f4], .slice A bs.length c] w (IsOf (zaG (zal x) (zac bs)) w) := by
 obtain ⟨fop, f1, f5, f6, f7, f8, fn, fl⟩ := zb6 hm
 have e1 : (zal x).op = 7 := hop
 have e2 : (zal x).args = bs.length := hn.symm
 rw [e1] at f1 f5 f6 f7 f8
 rw [e2] at f1 f5 f6
 have h1 : bs.length = 1 := f1 (by omega) (by omega)
 obtain ⟨y, rfl⟩ : ∃ y, bs = [y] := by
  cases bs with
  | nil => simp at h1
  | cons y r => cases r with
   | nil => exact ⟨y, rfl⟩
   | cons z s => simp at h1
 have hy := hsz y (by simp)
 rcases zaZ hr with h0 | ⟨b, o, rfl, hb, hcell⟩
 . cases h0
 have p0 := hcell 0 (by simp)
 rw [Nat.add_zero] at p0
 have p0 : w.cell? ⟨b, o, none⟩ = some (.string y) := p0
 have HP := znM p0
 clear hcell p0 h1
 have hlen3 : 0 < x.f3.length := by have := f7 rfl; unfold zal at this; dsimp only at this; rw [List.length_map] at this; omega
 rcases zaZ h3 with h0 | ⟨b3, o3, hB3, hb3, hcell3⟩
 . exfalso; rw [h0] at hlen3; simp at hlen3
 have q0 := hcell3 0 hlen3
 rw [Nat.add_zero] at q0
 have hlit : (zal x).lits.getD 0 [] = (x.f3.getD 0 ByteArray.empty).data.toList := by unfold zal; dsimp only; cases x.f3 <;> rfl
 have hlz : (x.f3.getD 0 ByteArray.empty).size <= 100 := by
  have := fl ((zal x).lits.getD 0 []) (by
   have h : 0 < (zal x).lits.length := by unfold zal; dsimp only; rw [List.length_map]; exact hlen3
   rw [List.getD_eq_getElem?_getD, List.getElem?_eq_getElem h]
   exact List.getElem_mem h)
  rw [hlit, <- Lib.size_eq] at this
  exact this
 subst hB3
 have hM : zaG (zal x) (zac [y]) = (zaF ((zbb y.data.toList).filter fun z => Lib.contains z (x.f3.getD 0 ByteArray.empty).data.toList), true) := by unfold zaG; rw [e1, hlit]; rfl
 rw [hM]
 clear hM hcell3 hlit
 obtain ⟨f0, op, l2, l3, f4⟩ := x
 dsimp only at *
 subst hop
 have hab := (Below.refl w.heap.size w).alloc (Nat.le_refl _) (.cells #[.string f0, .int .i64 7, .slice B2 l2.length c2, .slice (some ⟨b3, o3, none⟩) l3.length c3, .int .i64 f4] 24)
 have HK := znM (zan w (.cells #[.string f0, .int .i64 7, .slice B2 l2.length c2, .slice (some ⟨b3, o3, none⟩) l3.length c3, .int .i64 f4] 24))
 have HB1 := znM hab
 have HR := znM (Kd.C_below hr hab)
 have H3 := znM (Kd.C_below h3 hab)
 have HG := znM (hG.below hab)
 clear hab
 generalize l3.getD 0 ByteArray.empty = t at q0 hlz |-
 have HQ := znM q0
 have hl3 : (0 : Int) < (l3.length : Int) := by omega
 clear q0 hlen3
 clear hG h3 hr hm hn hsz fop f1 f5 f6 f7 f8 fn fl e1 e2
 go_enter Tryz.func59, Tryz.ntmps59
 go_upto_block 0 with fail
 generalize w.alloc (.cells #[.string f0, .int .i64 7, .slice B2 l2.length c2, .slice (some ⟨b3, o3, none⟩) l3.length c3, .int .i64 f4] 24) = w1 at HB1 HK HR H3 HG |-
 have k1 : w1.cell? ⟨w.heap.size, 1, none⟩ = some (.int .i64 7) := (zab HK.out 1).trans rfl
 have k3 : w1.cell? ⟨w.heap.size, 3, none⟩ = some (.slice (some ⟨b3, o3, none⟩) l3.length c3) := (zab HK.out 3).trans rfl
 have k4 : w1.cell? ⟨w.heap.size, 4, none⟩ = some (.int .i64 f4) := (zab HK.out 4).trans rfl
 have d1 : ((7 : Int) == 1) = false := by decide
 have d2 : ((7 : Int) == 2) = false := by decide
 have d3 : ((7 : Int) == 3) = false := by decide
 have d4 : ((7 : Int) == 4) = false := by decide
 have d5 : ((7 : Int) == 5) = false := by decide
 have d6 : ((7 : Int) == 6) = false := by decide
 have d7 : ((7 : Int) == 7) = true := by decide
 have p1 := zaf HB1.out HP.out
 have hl : (0 : Int) < (([y] : List ByteArray).length : Int) := by simp
 have hLi := zdH y w1 HG.out (by omega)
 have HY := znM hy
 have HLi := znM hLi
 have hgw : w.heap.size < w1.heap.size := za2 HK.out
 have hP : ∀ (W : World) (x : ByteArray), Below w1.heap.size w1 W -> x.size < 4294967281 -> Go.Proofs.FnGives Tryz.prog 84 #[.pointer (some ⟨w.heap.size, 0, none⟩)] #[.string x] (.bool (!Lib.contains x.data.toList t.data.toList)) W := fun W x hW hx =>
  (zny w.heap.size c3 l3.length b3 o3 t W (HG.out.below hW) ((hW.cell (p := ⟨w.heap.size, 3, none⟩) hgw).trans k3) hl3 ((hW.cell (p := ⟨b3, o3, none⟩) (Nat.lt_of_lt_of_le hb3 HB1.out.size)).trans (zaf HB1.out HQ.out)) x hx).mono fun e w' ⟨he, hw⟩ => ⟨he, 0, hw.symm⟩
 have HPr := znM hP
 clear hLi hy hP hgw
 go_wp2_with (first
  | (go_at_call 23; refine HLi.out.mono ?_; rintro e w2 ⟨v, rfl, hR, hb2⟩; have HR2 := znM hR; have HB2 := znM hb2; clear hR hb2)
  | (go_at_call 86; refine (zkl w1.heap.size w1.heap.size 84 #[.pointer (some ⟨w.heap.size, 0, none⟩)] ziK (fun x => Lib.contains x.data.toList t.data.toList) v (za6 y) w2 (Kd.own_of_R HR2.out) (Nat.le_refl _) HB2.out.size (fun W x hW hx => HPr.out W x (HB2.out.trans hW) hx) (zlD y (by have := HY.out; omega))).mono ?_; rintro e w3 ⟨v3, rfl, hown3, hob, hgr⟩; obtain ⟨A3, n3, rfl, hcap3, hC3⟩ := Kd.R_reads (Kd.R_of_own (h1 := fun _ => rfl) (ok := fun _ => True) hown3 (fun _ _ => trivial)); have HC3 := znM hC3; have HB3 : Hid (Below w1.heap.size w2 w3) := znM (zjT hgr HB2.out.size (Kd.R_base HR2.out)); clear hcap3 hC3 hown3 hob hgr)
  | (go_at_call 79; refine (zgU A3 n3 _ w3 HC3.out (by rw [zhn fun z => Lib.contains z t.data.toList]; unfold za6; rw [zdr]; exact zgc y.data.toList _ (List.length_filter_le _ _) (fun x hx => (List.mem_filter.1 hx).1) (by have h2 := HY.out; rw [Lib.size_eq] at h2; exact h2))).mono ?_; rintro e w5 ⟨rfl, hb5⟩; have HB5 := znM hb5; clear hb5))
 go_ret2
 refine ⟨by rw [zhn fun z => Lib.contains z t.data.toList]; unfold za6; rw [zdr]; rfl, ?_⟩
 exact zad HB1.out HB1.out.size (zad (HB2.out.trans HB3.out) (HB2.out.trans HB3.out).size HB5.out)
set_option maxHeartbeats 4000000 in
set_option maxRecDepth 100000 in
theorem zmA (x : zaA) (B2 : Option Addr) (c2 : Nat) (B3 : Option Addr) (c3 : Nat) (A : Option Addr) (c : Nat) (bs : List ByteArray) (w : World) (hG : GOK w) (h3 : Kd.C Kd.string w B3 x.f3.length x.f3) (hr : Kd.C Kd.string w A bs.length bs) (hc : bs.length <= c)
 (hm : mayC (zal x) = true) (hn : bs.length = x.f2.length) (hsz : ∀ b ∈ bs, b.size <= 4194304) (hop : x.f1 = 8) :
 Calls Tryz.prog 59 #[.agg #[.string x.f0, .int .i64 x.f1, .slice B2 x.f2.length c2, .slice B3 x.f3.length c3, .int .i64 x.f4], .slice A bs.length c] w (IsOf (zaG (zal x) (zac bs)) w) := by
 obtain ⟨fop, f1, f5, f6, f7, f8, fn, fl⟩ := zb6 hm
 have e1 : (zal x).op = 8 := hop
 have e2 : (zal x).args = bs.length := hn.symm
 rw [e1] at f1 f5 f6 f7 f8
 rw [e2] at f1 f5 f6
 have h1 : bs.length = 1 := f1 (by omega) (by omega)
 obtain ⟨y, rfl⟩ : ∃ y, bs = [y] := by
  cases bs with
  | nil => simp at h1
  | cons y r => cases r with
   | nil => exact ⟨y, rfl⟩
   | cons z s => simp at h1
 have hy := hsz y (by simp)
 rcases zaZ hr with h0 | ⟨b, o, rfl, hb, hcell⟩
 . cases h0
 have p0 := hcell 0 (by simp)
 rw [Nat.add_zero] at p0
 have p0 : w.cell? ⟨b, o, none⟩ = some (.string y) := p0
 have HP := znM p0
 clear hcell p0 h1
 have hlen3 : 0 < x.f3.length := by have := (f8 rfl).1; unfold zal at this; dsimp only at this; rw [List.length_map] at this; omega
 rcases zaZ h3 with h0 | ⟨b3, o3, hB3, hb3, hcell3⟩
 . exfalso; rw [h0] at hlen3; simp at hlen3
 have q0 := hcell3 0 hlen3
 rw [Nat.add_zero] at q0
 have hlit : (zal x).lits.getD 0 [] = (x.f3.getD 0 ByteArray.empty).data.toList := by unfold zal; dsimp only; cases x.f3 <;> rfl
 have hlz : (x.f3.getD 0 ByteArray.empty).size <= 100 := by
  have := fl ((zal x).lits.getD 0 []) (by
   have h : 0 < (zal x).lits.length := by unfold zal; dsimp only; rw [List.length_map]; exact hlen3
   rw [List.getD_eq_getElem?_getD, List.getElem?_eq_getElem h]
   exact List.getElem_mem h)
  rw [hlit, <- Lib.size_eq] at this
  exact this
 subst hB3
 have hlen4 : 1 < x.f3.length := by have := (f8 rfl).1; unfold zal at this; dsimp only at this; rw [List.length_map] at this; omega
 have q1 := hcell3 1 hlen4
 have hlit2 : (zal x).lits.getD 1 [] = (x.f3.getD 1 ByteArray.empty).data.toList := by
  unfold zal; dsimp only
  rw [List.getD_eq_getElem?_getD, List.getElem?_map, List.getD_eq_getElem?_getD, List.getElem?_eq_getElem hlen4]
  rfl
 have hlz2 : (x.f3.getD 1 ByteArray.empty).size <= 100 := by
  have := fl ((zal x).lits.getD 1 []) (by
   have h : 1 < (zal x).lits.length := by unfold zal; dsimp only; rw [List.length_map]; exact hlen4
   rw [List.getD_eq_getElem?_getD, List.getElem?_eq_getElem h]
   exact List.getElem_mem h)
  rw [hlit2, <- Lib.size_eq] at this
  exact this
 have hne := (f8 rfl).2
 rw [hlit] at hne
 have hM : zaG (zal x) (zac [y]) = (Lib.replaceAll y.data.toList (x.f3.getD 0 ByteArray.empty).data.toList (x.f3.getD 1 ByteArray.empty).data.toList, true) := by unfold zaG; rw [e1, hlit, hlit2]; rfl
 rw [hM]
 clear hM hcell3 hlit hlit2
 obtain ⟨f0, op, l2, l3, f4⟩ := x
 dsimp only at *
 subst hop
 have hab := (Below.refl w.heap.size w).alloc (Nat.le_refl _) (.cells #[.string f0, .int .i64 8, .slice B2 l2.length c2, .slice (some ⟨b3, o3, none⟩) l3.length c3, .int .i64 f4] 24)
 have HK := znM (zan w (.cells #[.string f0, .int .i64 8, .slice B2 l2.length c2, .slice (some ⟨b3, o3, none⟩) l3.length c3, .int .i64 f4] 24))
 have HB1 := znM hab
 have HR := znM (Kd.C_below hr hab)
 have H3 := znM (Kd.C_below h3 hab)
 have HG := znM (hG.below hab)
 clear hab
 generalize l3.getD 0 ByteArray.empty = t at q0 hlz hne |-
 generalize l3.getD 1 ByteArray.empty = t2 at q1 hlz2 |-
 have ht1 : 1 <= t.size := by rw [Lib.size_eq]; cases h : t.data.toList with | nil => exact absurd h hne | cons _ _ => simp
 have HQ := znM q0
 have HQ1 := znM q1
 have hl3 : (0 : Int) < (l3.length : Int) := by omega
 have hl4 : (1 : Int) < (l3.length : Int) := by omega
 have HRa := znM (fun W (hW : GOK W) => zmu y t t2 W hW ht1 (by omega) hlz2)
 clear q0 q1 hlen3 hlen4 hne ht1 hlz hlz2
 clear hG h3 hr hm hn hsz fop f1 f5 f6 f7 f8 fn fl e1 e2 hy
 go_enter Tryz.func59, Tryz.ntmps59
 go_upto_block 0 with fail
 generalize w.alloc (.cells #[.string f0, .int .i64 8, .slice B2 l2.length c2, .slice (some ⟨b3, o3, none⟩) l3.length c3, .int .i64 f4] 24) = w1 at HB1 HK HR H3 HG |-
 have k1 : w1.cell? ⟨w.heap.size, 1, none⟩ = some (.int .i64 8) := (zab HK.out 1).trans rfl
 have k3 : w1.cell? ⟨w.heap.size, 3, none⟩ = some (.slice (some ⟨b3, o3, none⟩) l3.length c3) := (zab HK.out 3).trans rfl
 have k4 : w1.cell? ⟨w.heap.size, 4, none⟩ = some (.int .i64 f4) := (zab HK.out 4).trans rfl
 have d1 : ((8 : Int) == 1) = false := by decide
 have d2 : ((8 : Int) == 2) = false := by decide
 have d3 : ((8 : Int) == 3) = false := by decide
 have d4 : ((8 : Int) == 4) = false := by decide
 have d5 : ((8 : Int) == 5) = false := by decide
 have d6 : ((8 : Int) == 6) = false := by decide
 have d7 : ((8 : Int) == 7) = false := by decide
 have d8 : ((8 : Int) == 8) = true := by decide
 generalize Lib.replaceAll y.data.toList t.data.toList t2.data.toList = z at HRa |-
 have hl : (0 : Int) < (([y] : List ByteArray).length : Int) := by simp
 have hl3n : 0 < l3.length := by omega
 have hl4n : 1 < l3.length := by omega
 have Sof : ∀ W, Below w1.heap.size w1 W -> W.cell? ⟨b, o, none⟩ = some (.string y) /\ W.cell? ⟨b3, o3, none⟩ = some (.string t) /\ W.cell? ⟨b3, o3 + 1, none⟩ = some (.string t2) /\ W.cell? ⟨w.heap.size, 3, none⟩ = some (.slice (some ⟨b3, o3, none⟩) l3.length c3) := fun W hW =>
  ⟨zaf hW (zaf HB1.out HP.out), zaf hW (zaf HB1.out HQ.out), zaf hW (zaf HB1.out HQ1.out), zaf hW k3⟩
 have HSo := znM Sof
 have HBx : Hid (Below w1.heap.size w1 w1.drew) := znM (zbl (Below.refl _ _))
 have HGx := znM HG.out.drew
 clear Sof
 go_wp2_with fail
 go_region_held3 (fun W => W.cell? ⟨b, o, none⟩ = some (.string y) /\ W.cell? ⟨b3, o3, none⟩ = some (.string t) /\ W.cell? ⟨b3, o3 + 1, none⟩ = some (.string t2) /\ W.cell? ⟨w.heap.size, 3, none⟩ = some (.slice (some ⟨b3, o3, none⟩) l3.length c3))
  (exact HSo.out _ HBx.out)
  (first | (go_at_call 87; refine (HRa.out _ HGx.out).mono ?_; rintro e w2 ⟨rfl, hb2⟩; have HBx := znM (zad HBx.out HBx.out.size hb2); clear hb2))
 all_goals
  go_wp2_with fail
  go_ret2
  exact ⟨rfl, zad HB1.out HB1.out.size HBx.out⟩
set_option maxHeartbeats 4000000 in
set_option maxRecDepth 100000 in
theorem zkL (x : zaA) (B2 : Option Addr) (c2 : Nat) (B3 : Option Addr) (c3 : Nat) (A : Option Addr) (c : Nat) (bs : List ByteArray) (w : World) (hG : GOK w) (h3 : Kd.C Kd.string w B3 x.f3.length x.f3) (hr : Kd.C Kd.string w A bs.length bs) (hc : bs.length <= c)
 (hm : mayC (zal x) = true) (hn : bs.length = x.f2.length) (hsz : ∀ b ∈ bs, b.size <= 4194304) (hop : x.f1 = 9) :
 Calls Tryz.prog 59 #[.agg #[.string x.f0, .int .i64 x.f1, .slice B2 x.f2.length c2, .slice B3 x.f3.length c3, .int .i64 x.f4], .slice A bs.length c] w (IsOf (zaG (zal x) (zac bs)) w) := by
 obtain ⟨fop, f1, f5, f6, f7, f8, fn, fl⟩ := zb6 hm
 have e1 : (zal x).op = 9 := hop
 have e2 : (zal x).args = bs.length := hn.symm
 rw [e1] at f1 f5 f6 f7 f8
 rw [e2] at f1 f5 f6
 have h1 : bs.length = 1 := f1 (by omega) (by omega)
 obtain ⟨y, rfl⟩ : ∃ y, bs = [y] := by
  cases bs with
  | nil => simp at h1
  | cons y r => cases r with
   | nil => exact ⟨y, rfl⟩
   | cons z s => simp at h1
 have hy := hsz y (by simp)
 rcases zaZ hr with h0 | ⟨b, o, rfl, hb, hcell⟩
 . cases h0
 have p0 := hcell 0 (by simp)
 rw [Nat.add_zero] at p0
 have p0 : w.cell? ⟨b, o, none⟩ = some (.string y) := p0
 have HP := znM p0
 clear hcell p0 h1
 have hM : zaG (zal x) (zac [y]) = (y.data.toList.take x.f4.toNat, true) := by unfold zaG; rw [e1]; rfl
 rw [hM]
 clear hM
 have hf4 : 0 <= x.f4 /\ x.f4 <= 2000 := fn
 obtain ⟨f0, op, l2, l3, f4⟩ := x
 dsimp only at *
 subst hop
 have hab := (Below.refl w.heap.size w).alloc (Nat.le_refl _) (.cells #[.string f0, .int .i64 9, .slice B2 l2.length c2, .slice B3 l3.length c3, .int .i64 f4] 24)
 have HK := znM (zan w (.cells #[.string f0, .int .i64 9, .slice B2 l2.length c2, .slice B3 l3.length c3, .int .i64 f4] 24))
 have HB1 := znM hab
 have HR := znM (Kd.C_below hr hab)
 have H3 := znM (Kd.C_below h3 hab)
 have HG := znM (hG.below hab)
 clear hab
 clear hG h3 hr hm hn hsz fop f1 f5 f6 f7 f8 fn fl e1 e2
 go_enter Tryz.func59, Tryz.ntmps59
 go_upto_block 0 with fail
 generalize w.alloc (.cells #[.string f0, .int .i64 9, .slice B2 l2.length c2, .slice B3 l3.length c3, .int .i64 f4] 24) = w1 at HB1 HK HR H3 HG |-
 have k1 : w1.cell? ⟨w.heap.size, 1, none⟩ = some (.int .i64 9) := (zab HK.out 1).trans rfl
 have k3 : w1.cell? ⟨w.heap.size, 3, none⟩ = some (.slice B3 l3.length c3) := (zab HK.out 3).trans rfl
 have k4 : w1.cell? ⟨w.heap.size, 4, none⟩ = some (.int .i64 f4) := (zab HK.out 4).trans rfl
 have d1 : ((9 : Int) == 1) = false := by decide
 have d2 : ((9 : Int) == 2) = false := by decide
 have d3 : ((9 : Int) == 3) = false := by decide
 have d4 : ((9 : Int) == 4) = false := by decide
 have d5 : ((9 : Int) == 5) = false := by decide
 have d6 : ((9 : Int) == 6) = false := by decide
 have d7 : ((9 : Int) == 7) = false := by decide
 have d8 : ((9 : Int) == 8) = false := by decide
 have p1 := zaf HB1.out HP.out
 have hl : (0 : Int) < (([y] : List ByteArray).length : Int) := by simp
 obtain ⟨n, rfl⟩ : ∃ n : Nat, f4 = (n : Int) := ⟨f4.toNat, by omega⟩
 have hn0 : n <= 2000 := by omega
 clear hf4
 by_cases hmin : (y.size : Int) <= (n : Int)
 . have hz : min (y.size : Int) (n : Int) = (y.size : Int) := by omega
   have hv : mk (y.data.toList.take ((n : Int)).toNat) = y := by
    apply zbU
    rw [za7, Int.toNat_natCast, List.take_of_length_le (by rw [<- Lib.size_eq]; omega)]
   have HV := znM hv
   have hb0 : (0 : Int) <= (y.size : Int) := by omega
   clear hv
   go_wp2_with fail
   go_quiet (fail)
   go_wp2_with fail
   go_ret2
   exact ⟨by rw [HV.out]; rfl, by first | exact HB1.out | exact zam HB1.out _⟩
 . have hz : min (y.size : Int) (n : Int) = (n : Int) := by omega
   have hv : mk (y.data.toList.take ((n : Int)).toNat) = y.extract 0 n := by
    rw [zeA, Int.toNat_natCast, List.drop_zero, Nat.sub_zero]
   have HV := znM hv
   have hb0 : (0 : Int) <= (n : Int) := by omega
   have hb1 : (n : Int) <= (y.size : Int) := by omega
   clear hv
   go_wp2_with fail
   go_quiet (fail)
   go_wp2_with fail
   go_ret2
   exact ⟨by rw [HV.out]; rfl, by first | exact HB1.out | exact zam HB1.out _⟩

end Go.Proofs.YtdpgdnpddndeoaaGreatDoor.X

namespace Go.Proofs.YtdpgdnpddndeoaaGreatDoor.X
open Go.RowKit Go.Maps Go.Proofs.YtdpgdnpddndeoaaGreatDoorW.PrintWords Go.Proofs.YtdpgdnpddndeoaaGreatDoorW.PrintMore Go.Proofs.YtdpgdnpddndeoaaGreatDoorW.PrintLast
set_option linter.unusedSimpArgs false
abbrev SVal := S34
def valO (v : SVal) : VB := if v.f0 then some v.f1.data.toList else none
def valS (o : VB) : SVal := match o with
 | some b => ⟨true, mk b⟩
 | none => ⟨false, ⟨#[]⟩⟩
def aggV (v : SVal) : Value := .agg #[.bool v.f0, .string v.f1]
def zdu (v : SVal) (w : World) (e : Ending) (w' : World) : Prop := e = .returned (aggV v) /\ Below w.heap.size w w'
theorem zl1 (l : List SVal) (i : Nat) (h : i < l.length) : za5 l (i : Int) = l[i] := by
 unfold za5
 rw [Int.toNat_natCast, List.getD_eq_getElem?_getD, List.getElem?_eq_getElem h]
 rfl
theorem zej {w : World} {ad : Addr} {v : Value} {n : Nat} (h : w.cell? (ad.add ((0 : Int).toNat * n)) = some v) : ∃ b o, ad = ⟨b, o, none⟩ := by
 rw [show (0 : Int).toNat * n = 0 by simp] at h
 obtain ⟨b, o, sp⟩ := ad
 cases sp with
 | none => exact ⟨b, o, rfl⟩
 | some s =>
  exfalso
  unfold Addr.add at h
  simp [World.cell?] at h
  split at h <;> simp at h
theorem zdk {w : World} {A : Option Addr} {l : List SVal} (h : Kd.C k34 w A l.length l) (i : Nat) (hi : i < l.length) :
 ∃ b o, A = some ⟨b, o, none⟩ /\ w.cell? ⟨b, o + i * 2, none⟩ = some (.bool l[i].f0) /\ w.cell? ⟨b, o + i * 2 + 1, none⟩ = some (.string l[i].f1) := by
 obtain ⟨ad, rfl, p0, p1⟩ := zeg h (i : Int) (by omega) (by omega)
 rw [zl1 l i hi, Int.toNat_natCast] at p0 p1
 obtain ⟨ad0, had0, z0, _⟩ := zeg h 0 (by omega) (by omega)
 cases had0
 obtain ⟨b, o, rfl⟩ := zej z0
 have e : ((⟨b, o, none⟩ : Addr).add (i * 2)) = ⟨b, o + i * 2, none⟩ := by
  unfold Addr.add
  split
  . rename_i h0; simp [h0]
  . rfl
 rw [e] at p0 p1
 exact ⟨b, o, rfl, p0, p1⟩
theorem zkz (x : zaA) (B2 : Option Addr) (c2 : Nat) (B3 : Option Addr) (c3 : Nat) (A : Option Addr) (c : Nat) (bs : List ByteArray) (w : World) (hG : GOK w) (h3 : Kd.C Kd.string w B3 x.f3.length x.f3) (hr : Kd.C Kd.string w A bs.length bs) (hc : bs.length <= c)
 (hm : mayC (zal x) = true) (hn : bs.length = x.f2.length) (hsz : ∀ b ∈ bs, b.size <= 4194304) :
 Calls Tryz.prog 59 #[.agg #[.string x.f0, .int .i64 x.f1, .slice B2 x.f2.length c2, .slice B3 x.f3.length c3, .int .i64 x.f4], .slice A bs.length c] w (IsOf (zaG (zal x) (zac bs)) w) := by
 have h := (zb6 hm).1
 have hop : x.f1 = 1 \/ x.f1 = 2 \/ x.f1 = 3 \/ x.f1 = 4 \/ x.f1 = 5 \/ x.f1 = 6 \/ x.f1 = 7 \/ x.f1 = 8 \/ x.f1 = 9 := by
  have e : (zal x).op = x.f1 := rfl
  rw [e] at h
  omega
 rcases hop with h1 | h1 | h1 | h1 | h1 | h1 | h1 | h1 | h1
 . exact zk1 x B2 c2 B3 c3 A c bs w hG h3 hr hc hm hn hsz h1
 . exact zkv x B2 c2 B3 c3 A c bs w hG h3 hr hc hm hn hsz h1
 . exact zj6 x B2 c2 B3 c3 A c bs w hG h3 hr hc hm hn hsz h1
 . exact zjR x B2 c2 B3 c3 A c bs w hG h3 hr hc hm hn hsz h1
 . exact zlf x B2 c2 B3 c3 A c bs w hG h3 hr hc hm hn hsz h1
 . exact zkC x B2 c2 B3 c3 A c bs w hG h3 hr hc hm hn hsz h1
 . exact zjP x B2 c2 B3 c3 A c bs w hG h3 hr hc hm hn hsz h1
 . exact zmA x B2 c2 B3 c3 A c bs w hG h3 hr hc hm hn hsz h1
 . exact zkL x B2 c2 B3 c3 A c bs w hG h3 hr hc hm hn hsz h1
theorem zf4 : ∀ vs : List SVal, (vs.any fun v => !v.f0) = false -> ((vs.map valO).map fun o => o.getD []) = zac (vs.map (·.f1)) /\ ((vs.map valO).any fun o => o.isNone) = false
 | [], _ => ⟨rfl, rfl⟩
 | v :: r, h => by
  rw [List.any_cons, Bool.or_eq_false_iff] at h
  obtain ⟨h1, h2⟩ := zf4 r h.2
  have hv : valO v = some v.f1.data.toList := by unfold valO; rw [if_pos (by simpa using h.1)]
  unfold zac at *
  simp only [List.map_cons, List.any_cons, hv, h1, h2]
  exact ⟨rfl, rfl⟩
set_option maxHeartbeats 8000000 in
set_option maxRecDepth 100000 in
theorem zkp (x : zaA) (B2 : Option Addr) (c2 : Nat) (B3 : Option Addr) (c3 : Nat) (A : Option Addr) (c : Nat) (vs : List SVal) (w : World) (hG : GOK w) (h2 : Kd.C Kd.string w B2 x.f2.length x.f2) (h3 : Kd.C Kd.string w B3 x.f3.length x.f3)
 (hr : Kd.C k34 w A vs.length vs) (hsz : (vs.any fun v => !v.f0) = false -> ∀ v ∈ vs, v.f1.size <= 4194304) :
 Calls Tryz.prog 25 #[.agg #[.string x.f0, .int .i64 x.f1, .slice B2 x.f2.length c2, .slice B3 x.f3.length c3, .int .i64 x.f4], .slice A vs.length c] w (zdu (valS (doP (zal x) (vs.map valO))) w) := by
 have hlen : vs.length <= 9223372036854775807 := hr.2.1
 have hl2 : x.f2.length <= 9223372036854775807 := h2.2.1
 obtain ⟨T, hT⟩ : ∃ T, T = doP (zal x) (vs.map valO) := ⟨_, rfl⟩
 rw [<- hT]
 unfold doP zcY at hT
 rw [List.length_map] at hT
 have HT := znM hT
 have hW : Below w.heap.size w ((w.alloc (.cells #[.string x.f0, .int .i64 x.f1, .slice B2 x.f2.length c2, .slice B3 x.f3.length c3, .int .i64 x.f4] 24)).alloc (.cells #[.bool false, .string ⟨#[]⟩] 34)) :=
  ((Below.refl w.heap.size w).alloc (Nat.le_refl _) _).alloc (by simp) _
 have HK := znM (zah (zan w (.cells #[.string x.f0, .int .i64 x.f1, .slice B2 x.f2.length c2, .slice B3 x.f3.length c3, .int .i64 x.f4] 24)) ((Below.refl _ _).alloc (Nat.le_refl _) (.cells #[.bool false, .string ⟨#[]⟩] 34)))
 have HZ := znM (zan (w.alloc (.cells #[.string x.f0, .int .i64 x.f1, .slice B2 x.f2.length c2, .slice B3 x.f3.length c3, .int .i64 x.f4] 24)) (.cells #[.bool false, .string ⟨#[]⟩] 34))
 have hn1 : (w.alloc (.cells #[.string x.f0, .int .i64 x.f1, .slice B2 x.f2.length c2, .slice B3 x.f3.length c3, .int .i64 x.f4] 24)).heap.size = w.heap.size + 1 := by simp
 rw [hn1] at HZ
 have HB := znM hW
 have H2 := znM (Kd.C_below h2 hW)
 have H3 := znM (Kd.C_below h3 hW)
 have HR := znM (Kd.C_below hr hW)
 have HG := znM (hG.below hW)
 have HS := znM hsz
 have HLs := znM hlen
 clear hT hW h2 h3 hr hG hsz hn1
 go_enter Tryz.func25, Tryz.ntmps25
 go_upto_if 20 with fail
 generalize (w.alloc (.cells #[.string x.f0, .int .i64 x.f1, .slice B2 x.f2.length c2, .slice B3 x.f3.length c3, .int .i64 x.f4] 24)).alloc (.cells #[.bool false, .string ⟨#[]⟩] 34) = w1 at HB HK HZ H2 H3 HR HG |-
 have hM := ze9 x B2 c2 B3 c3 w1 H2.out H3.out
 have j0 : w1.cell? ⟨w.heap.size, 0, none⟩ = some (.string x.f0) := (zab HK.out 0).trans rfl
 have j1 : w1.cell? ⟨w.heap.size, 1, none⟩ = some (.int .i64 x.f1) := (zab HK.out 1).trans rfl
 have j2 : w1.cell? ⟨w.heap.size, 2, none⟩ = some (.slice B2 x.f2.length c2) := (zab HK.out 2).trans rfl
 have j3 : w1.cell? ⟨w.heap.size, 3, none⟩ = some (.slice B3 x.f3.length c3) := (zab HK.out 3).trans rfl
 have j4 : w1.cell? ⟨w.heap.size, 4, none⟩ = some (.int .i64 x.f4) := (zab HK.out 4).trans rfl
 have hT := HT.out
 cases hm : mayC (zal x) with
 | false =>
  rw [if_pos (.inl hm)] at hT
  rw [hm] at hM
  have HV : Hid (valS T = ⟨false, ⟨#[]⟩⟩) := by show _ = _; rw [hT]; rfl
  have HM := znM hM
  clear hT HT hM hm
  go_wp2_with (first | (go_at_call 20; refine HM.out.mono ?_; rintro e w2 ⟨rfl, hb2⟩; have HB2 := znM (zad HB.out HB.out.size hb2); have HZ2 := znM (zah HZ.out hb2); have z0 : w2.cell? ⟨w.heap.size + 1, 0, none⟩ = some (.bool false) := (zab HZ2.out 0).trans rfl; have z1 : w2.cell? ⟨w.heap.size + 1, 1, none⟩ = some (.string ⟨#[]⟩) := (zab HZ2.out 1).trans rfl; have y0 := zag HZ2.out 0; have y1 := zag HZ2.out 1; clear hb2))
  have hs := zci (.bool false) (.string ⟨#[]⟩) HZ2.out
  have hB := (HB2.out.setCell (p := ⟨w.heap.size + 1, 0, none⟩) (by show w.heap.size <= w.heap.size + 1; omega) (.bool false)).setCell (p := ⟨w.heap.size + 1, 1, none⟩) (by show w.heap.size <= w.heap.size + 1; omega) (.string ⟨#[]⟩)
  generalize (w2.setCell ⟨w.heap.size + 1, 0, none⟩ (.bool false)).setCell ⟨w.heap.size + 1, 1, none⟩ (.string ⟨#[]⟩) = w5 at hs hB |-
  have g0 := (zab hs 0).trans rfl
  have g1 := (zab hs 1).trans rfl
  exact bodyPost_ret (v := .agg #[.bool false, .string ⟨#[]⟩]) (by simp [results, Tryz.results25, go_sem, g0, g1]) rfl ⟨by rw [HV.out]; rfl, hB⟩
 | true =>
  rw [hm] at hM
  have HM := znM hM
  have HMy := znM hm
  clear hT hM hm
  by_cases hn : vs.length = x.f2.length
  . have d0 : ((vs.length : Int) != (x.f2.length : Int)) = false := by simp [hn]
    have HN := znM hn
    have HAL : Hid (vs.length <= 6) := by
     show _ <= _
     obtain ⟨g1, g2, g3, _⟩ := zb6 HMy.out
     have ha : (zal x).args = vs.length := hn.symm
     rw [ha] at g2 g3
     by_cases h5 : (zal x).op = 5
     . exact g3 h5
     . by_cases h6 : (zal x).op = 6
       . obtain ⟨_, _, _, g4, _⟩ := zb6 HMy.out
         have := (g4 h6).1
         rw [ha] at this
         omega
       . have := g2 h5 h6
         omega
    clear hn
    go_wp2_with (first | (go_at_call 20; refine HM.out.mono ?_; rintro e w2 ⟨rfl, hb2⟩; have HB2 := znM (zad HB.out HB.out.size hb2); have HK2 := znM (zah HK.out hb2); have HZ2 := znM (zah HZ.out hb2); have i2 : w2.cell? ⟨w.heap.size, 2, none⟩ = some (.slice B2 x.f2.length c2) := (zab HK2.out 2).trans rfl; have HR2 := znM (Kd.C_below HR.out hb2); have H22 := znM (Kd.C_below H2.out hb2); have H32 := znM (Kd.C_below H3.out hb2); have HG2 := znM (HG.out.below hb2); clear hb2))
    go_loopg [5, 7, 24] vs.length (fun gg s5 _ s24 wr => ∃ kk : Nat, kk <= vs.length /\ vs.length - kk <= gg /\ s24 = .int .i64 kk /\ Aside0 (RS wr w2.heap.size s5 ((vs.take kk).map (·.f1))) /\ Aside0 (((vs.take kk).any fun v => !v.f0) = false) /\ Aside0 (Below w2.heap.size w2 wr))
    case atStart => exact ⟨0, Nat.zero_le _, by omega, rfl, ⟨Kd.R_nil _ _ _ _ _⟩, ⟨rfl⟩, ⟨Below.refl _ _⟩⟩
    case round =>
     obtain ⟨kk, hkk, hgk, rfl, HO, HA, HW⟩ := hrel
     by_cases hlt : kk < vs.length
     . have hltz : (kk : Int) < (vs.length : Int) := by omega
       obtain ⟨b, o, rfl, p0, p1⟩ := zdk (Kd.C_below HR2.out HW.out) kk hlt
       have hal : vs.length <= 6 := HAL.out
       have hml : ((vs.take kk).map (·.f1)).length = kk := by rw [List.length_map, List.length_take]; omega
       have HML := znM hml
       have HSucc : Hid ((vs.take (kk + 1)).map (·.f1) = (vs.take kk).map (·.f1) ++ [vs[kk].f1]) := by show _ = _; rw [List.take_succ_eq_append_getElem hlt, List.map_append]; rfl
       have HAny : Hid (((vs.take (kk + 1)).any fun v => !v.f0) = (((vs.take kk).any fun v => !v.f0) || !vs[kk].f0)) := by show _ = _; rw [List.take_succ_eq_append_getElem hlt, List.any_append]; simp
       have HMem : Hid (vs[kk] ∈ vs) := List.getElem_mem hlt
       generalize vs[kk] = y at p0 p1 HSucc HAny HMem
       clear hml
       have hwn : Below w2.heap.size w2 (wr.alloc (.cells #[.bool y.f0, .string y.f1] 34)) := HW.out.alloc HW.out.size _
       have HWn := znM hwn
       have HOn := znM (Kd.R_below HO.out ((Below.refl _ wr).alloc (Nat.le_refl _) (.cells #[.bool y.f0, .string y.f1] 34)))
       have HYn := znM (zan wr (.cells #[.bool y.f0, .string y.f1] 34))
       clear hwn
       go_upto_region 7 with fail
       generalize hgn : wr.alloc (.cells #[.bool y.f0, .string y.f1] 34) = w3 at HWn HOn HYn |-
       have q0 : w3.cell? ⟨wr.heap.size, 0, none⟩ = some (.bool y.f0) := (zab HYn.out 0).trans rfl
       have q1 : w3.cell? ⟨wr.heap.size, 1, none⟩ = some (.string y.f1) := (zab HYn.out 1).trans rfl
       clear hgn
       cases hok : y.f0 with
       | false =>
        rw [hok] at q0
        have HV : Hid (valS T = ⟨false, ⟨#[]⟩⟩) := by
         have hany : ((vs.map valO).any fun x => x.isNone) = true := by
          rw [List.any_map]
          refine List.any_eq_true.2 ⟨y, HMem.out, ?_⟩
          show (valO y).isNone = true
          unfold valO
          rw [hok]
          rfl
         show _ = _
         rw [HT.out, if_pos (.inr (.inr hany))]
         rfl
        have HZ3 := znM (zah HZ2.out HWn.out)
        have z0 : w3.cell? ⟨w.heap.size + 1, 0, none⟩ = some (.bool false) := (zab HZ3.out 0).trans rfl
        have z1 : w3.cell? ⟨w.heap.size + 1, 1, none⟩ = some (.string ⟨#[]⟩) := (zab HZ3.out 1).trans rfl
        have y0 := zag HZ3.out 0
        have y1 := zag HZ3.out 1
        have HB3 := znM (zad HB2.out HB2.out.size HWn.out)
        clear hok
        go_wp2_with fail
        have hs := zci (.bool false) (.string ⟨#[]⟩) HZ3.out
        have hB := (HB3.out.setCell (p := ⟨w.heap.size + 1, 0, none⟩) (by show w.heap.size <= w.heap.size + 1; omega) (.bool false)).setCell (p := ⟨w.heap.size + 1, 1, none⟩) (by show w.heap.size <= w.heap.size + 1; omega) (.string ⟨#[]⟩)
        generalize (w3.setCell ⟨w.heap.size + 1, 0, none⟩ (.bool false)).setCell ⟨w.heap.size + 1, 1, none⟩ (.string ⟨#[]⟩) = w5 at hs hB |-
        have g0 := (zab hs 0).trans rfl
        have g1 := (zab hs 1).trans rfl
        exact bodyPost_ret (v := .agg #[.bool false, .string ⟨#[]⟩]) (by simp [results, Tryz.results25, go_sem, g0, g1]) rfl ⟨by rw [HV.out]; rfl, hB⟩
       | true =>
        rw [hok] at q0
        have HA2 : Hid (((vs.take (kk + 1)).any fun v => !v.f0) = false) := by show _ = _; rw [HAny.out, HA.out, hok]; rfl
        clear hok
        go_wp2_with (first | ((with_reducible refine zaO (b := .append) (xs := #[.tmp 32, .tmp 35]) rfl ?_); at_builtin; refine Kd.R_append Kd.string (w0 := w2) w2.heap.size rfl (.tmp 32) (.tmp 35) 22 9 (.string ⟨#[]⟩) 16 rfl Tryz.underlying22 zcg rfl (by decide) (by decide) u5 ((vs.take kk).map (·.f1)) y.f1 [.string y.f1] (fun _ => True) (fun k_ => True /\ some k_ ≠ u5.ownBlock) rfl rfl rfl (fun _ hk => hk) (fun _ _ => trivial) HOn.out HWn.out HWn.out.size ?aL ?_; (case aL => (have h1 := HML.out; omega)); intro v1 w4 ho hb hg hat; have HO4 : Hid (RS w4 w2.heap.size v1 ((vs.take (kk + 1)).map (·.f1))) := (by show RS _ _ _ _; rw [HSucc.out]; exact ho); have HB4 := znM hb; clear ho hb hg hat))
        go_roundg (vs.length - (kk + 1))
        case measure => omega
        case rel => exact ⟨kk + 1, by omega, by omega, by first | rfl | go_num, ⟨HO4.out⟩, ⟨HA2.out⟩, ⟨HB4.out⟩⟩
     . have hltz : ¬ (kk : Int) < (vs.length : Int) := by omega
       obtain rfl : kk = vs.length := by omega
       have hO := HO.out
       have hA := HA.out
       rw [List.take_length] at hO hA
       obtain ⟨A5, n5, rfl, hc5, hC5⟩ := Kd.R_reads hO
       have hlm : (vs.map (·.f1)).length = vs.length := List.length_map ..
       rw [hlm] at hc5
       obtain ⟨hvn, hva⟩ := zf4 vs hA
       have hOf := zkz x B2 c2 B3 c3 A5 n5 (vs.map (·.f1)) wr (HG2.out.below HW.out) (Kd.C_below H32.out HW.out) hC5 (by rw [hlm]; exact hc5) HMy.out (by rw [hlm]; exact HN.out) (fun b hb => by
        obtain ⟨v, hv, rfl⟩ := List.mem_map.1 hb
        exact HS.out hA v hv)
       have hT := HT.out
       rw [if_neg (by
        rintro (h | h | h)
        . rw [HMy.out] at h; cases h
        . exact h HN.out
        . rw [hva] at h; cases h)] at hT
       have hvn2 : (vs.map valO).map (·.getD []) = zac (vs.map (·.f1)) := hvn
       rw [hvn2] at hT
       rw [hlm] at hOf
       generalize zaG (zal x) (zac (vs.map (·.f1))) = m at hOf hT
       obtain ⟨t, ok⟩ := m
       unfold IsOf at hOf
       dsimp only at hT hOf
       have ht : (mk t).size = t.length := za4 t
       have HOf := znM hOf
       have HTt := znM hT
       have HKr := znM (zah HK2.out HW.out)
       have HZr := znM (zah HZ2.out HW.out)
       have HBr := znM (zad HB2.out HB2.out.size HW.out)
       have r0 : wr.cell? ⟨w.heap.size, 0, none⟩ = some (.string x.f0) := (zab HKr.out 0).trans rfl
       have r1 : wr.cell? ⟨w.heap.size, 1, none⟩ = some (.int .i64 x.f1) := (zab HKr.out 1).trans rfl
       have r2 : wr.cell? ⟨w.heap.size, 2, none⟩ = some (.slice B2 x.f2.length c2) := (zab HKr.out 2).trans rfl
       have r3 : wr.cell? ⟨w.heap.size, 3, none⟩ = some (.slice B3 x.f3.length c3) := (zab HKr.out 3).trans rfl
       have r4 : wr.cell? ⟨w.heap.size, 4, none⟩ = some (.int .i64 x.f4) := (zab HKr.out 4).trans rfl
       clear hO hA hC5 hvn hva hvn2 hOf hT hlm hc5
       cases ok with
       | false =>
        have HV : Hid (valS T = ⟨false, ⟨#[]⟩⟩) := by show _ = _; rw [HTt.out, if_pos (.inl rfl)]; rfl
        clear ht
        go_wp2_with (first | (go_at_call 59; refine HOf.out.mono ?_; rintro e w7 ⟨rfl, hb7⟩; have HB7 := znM (zad HBr.out HBr.out.size hb7); have HZ7 := znM (zah HZr.out hb7); have z0 : w7.cell? ⟨w.heap.size + 1, 0, none⟩ = some (.bool false) := (zab HZ7.out 0).trans rfl; have z1 : w7.cell? ⟨w.heap.size + 1, 1, none⟩ = some (.string ⟨#[]⟩) := (zab HZ7.out 1).trans rfl; have y0 := zag HZ7.out 0; have y1 := zag HZ7.out 1; clear hb7))
        have hs := zci (.bool false) (.string ⟨#[]⟩) HZ7.out
        have hB := (HB7.out.setCell (p := ⟨w.heap.size + 1, 0, none⟩) (by show w.heap.size <= w.heap.size + 1; omega) (.bool false)).setCell (p := ⟨w.heap.size + 1, 1, none⟩) (by show w.heap.size <= w.heap.size + 1; omega) (.string ⟨#[]⟩)
        generalize (w7.setCell ⟨w.heap.size + 1, 0, none⟩ (.bool false)).setCell ⟨w.heap.size + 1, 1, none⟩ (.string ⟨#[]⟩) = w5 at hs hB |-
        have g0 := (zab hs 0).trans rfl
        have g1 := (zab hs 1).trans rfl
        exact bodyPost_ret (v := .agg #[.bool false, .string ⟨#[]⟩]) (by simp [results, Tryz.results25, go_sem, g0, g1]) rfl ⟨by rw [HV.out]; rfl, hB⟩
       | true =>
        by_cases hlong : 2000 < t.length
        . have HV : Hid (valS T = ⟨false, ⟨#[]⟩⟩) := by show _ = _; rw [HTt.out, if_pos (.inr hlong)]; rfl
          have hd : decide ((2000 : Int) < ((mk t).size : Int)) = true := by rw [ht]; simp; omega
          have hd2 : (2000 : Int) < ((mk t).size : Int) := by rw [ht]; omega
          clear ht hlong
          go_wp2_with (first | (go_at_call 59; refine HOf.out.mono ?_; rintro e w7 ⟨rfl, hb7⟩; have HB7 := znM (zad HBr.out HBr.out.size hb7); have HZ7 := znM (zah HZr.out hb7); have z0 : w7.cell? ⟨w.heap.size + 1, 0, none⟩ = some (.bool false) := (zab HZ7.out 0).trans rfl; have z1 : w7.cell? ⟨w.heap.size + 1, 1, none⟩ = some (.string ⟨#[]⟩) := (zab HZ7.out 1).trans rfl; have y0 := zag HZ7.out 0; have y1 := zag HZ7.out 1; clear hb7))
          have hs := zci (.bool false) (.string ⟨#[]⟩) HZ7.out
          have hB := (HB7.out.setCell (p := ⟨w.heap.size + 1, 0, none⟩) (by show w.heap.size <= w.heap.size + 1; omega) (.bool false)).setCell (p := ⟨w.heap.size + 1, 1, none⟩) (by show w.heap.size <= w.heap.size + 1; omega) (.string ⟨#[]⟩)
          generalize (w7.setCell ⟨w.heap.size + 1, 0, none⟩ (.bool false)).setCell ⟨w.heap.size + 1, 1, none⟩ (.string ⟨#[]⟩) = w5 at hs hB |-
          have g0 := (zab hs 0).trans rfl
          have g1 := (zab hs 1).trans rfl
          exact bodyPost_ret (v := .agg #[.bool false, .string ⟨#[]⟩]) (by simp [results, Tryz.results25, go_sem, g0, g1]) rfl ⟨by rw [HV.out]; rfl, hB⟩
        . have HV : Hid (valS T = ⟨true, mk t⟩) := by
           show _ = _
           rw [HTt.out, if_neg (by rintro (h | h); cases h; exact hlong h)]
           rfl
          have hd : decide ((2000 : Int) < ((mk t).size : Int)) = false := by rw [ht]; simp; omega
          have hd2 : ¬ (2000 : Int) < ((mk t).size : Int) := by rw [ht]; omega
          have hd3 : ¬ 2000 < (mk t).size := by rw [ht]; exact hlong
          have hd4 : decide (2000 < (mk t).size) = false := by simp [hd3]
          clear ht hlong
          generalize mk t = tt at HOf HV hd hd2 hd3 hd4
          go_wp2_with (first | (go_at_call 59; refine HOf.out.mono ?_; rintro e w7 ⟨rfl, hb7⟩; have HB7 := znM (zad HBr.out HBr.out.size hb7); have HZ7 := znM (zah HZr.out hb7); have z0 : w7.cell? ⟨w.heap.size + 1, 0, none⟩ = some (.bool false) := (zab HZ7.out 0).trans rfl; have z1 : w7.cell? ⟨w.heap.size + 1, 1, none⟩ = some (.string ⟨#[]⟩) := (zab HZ7.out 1).trans rfl; have y0 := zag HZ7.out 0; have y1 := zag HZ7.out 1; clear hb7))
          have hs := zci (.bool true) (.string tt) HZ7.out
          have hB := (HB7.out.setCell (p := ⟨w.heap.size + 1, 0, none⟩) (by show w.heap.size <= w.heap.size + 1; omega) (.bool true)).setCell (p := ⟨w.heap.size + 1, 1, none⟩) (by show w.heap.size <= w.heap.size + 1; omega) (.string tt)
          generalize (w7.setCell ⟨w.heap.size + 1, 0, none⟩ (.bool true)).setCell ⟨w.heap.size + 1, 1, none⟩ (.string tt) = w5 at hs hB |-
          have g0 := (zab hs 0).trans rfl
          have g1 := (zab hs 1).trans rfl
          exact bodyPost_ret (v := .agg #[.bool true, .string tt]) (by simp [results, Tryz.results25, go_sem, g0, g1]) rfl ⟨by rw [HV.out]; rfl, hB⟩
  . have d0 : ((vs.length : Int) != (x.f2.length : Int)) = true := by simp; omega
    have HV : Hid (valS T = ⟨false, ⟨#[]⟩⟩) := by show _ = _; rw [HT.out, if_pos (.inr (.inl hn))]; rfl
    clear hn
    go_wp2_with (first | (go_at_call 20; refine HM.out.mono ?_; rintro e w2 ⟨rfl, hb2⟩; have HB2 := znM (zad HB.out HB.out.size hb2); have HK2 := znM (zah HK.out hb2); have i2 : w2.cell? ⟨w.heap.size, 2, none⟩ = some (.slice B2 x.f2.length c2) := (zab HK2.out 2).trans rfl; have HZ2 := znM (zah HZ.out hb2); have z0 : w2.cell? ⟨w.heap.size + 1, 0, none⟩ = some (.bool false) := (zab HZ2.out 0).trans rfl; have z1 : w2.cell? ⟨w.heap.size + 1, 1, none⟩ = some (.string ⟨#[]⟩) := (zab HZ2.out 1).trans rfl; have y0 := zag HZ2.out 0; have y1 := zag HZ2.out 1; clear hb2))
    have hs := zci (.bool false) (.string ⟨#[]⟩) HZ2.out
    have hB := (HB2.out.setCell (p := ⟨w.heap.size + 1, 0, none⟩) (by show w.heap.size <= w.heap.size + 1; omega) (.bool false)).setCell (p := ⟨w.heap.size + 1, 1, none⟩) (by show w.heap.size <= w.heap.size + 1; omega) (.string ⟨#[]⟩)
    generalize (w2.setCell ⟨w.heap.size + 1, 0, none⟩ (.bool false)).setCell ⟨w.heap.size + 1, 1, none⟩ (.string ⟨#[]⟩) = w5 at hs hB |-
    have g0 := (zab hs 0).trans rfl
    have g1 := (zab hs 1).trans rfl
    exact bodyPost_ret (v := .agg #[.bool false, .string ⟨#[]⟩]) (by simp [results, Tryz.results25, go_sem, g0, g1]) rfl ⟨by rw [HV.out]; rfl, hB⟩
theorem zgj (x : zaA) (B2 : Option Addr) (c2 : Nat) (B3 : Option Addr) (c3 : Nat) (A : Option Addr) (c : Nat) (vs : List SVal) (w : World) (hG : GOK w) (h2 : Kd.C Kd.string w B2 x.f2.length x.f2) (h3 : Kd.C Kd.string w B3 x.f3.length x.f3)
 (hr : Kd.C k34 w A vs.length vs) (hsz : ∀ v ∈ vs, v.f1.size <= 4194304) :
 Calls Tryz.prog 25 #[.agg #[.string x.f0, .int .i64 x.f1, .slice B2 x.f2.length c2, .slice B3 x.f3.length c3, .int .i64 x.f4], .slice A vs.length c] w (zdu (valS (doP (zal x) (vs.map valO))) w) :=
 zkp x B2 c2 B3 c3 A c vs w hG h2 h3 hr (fun _ => hsz)

end Go.Proofs.YtdpgdnpddndeoaaGreatDoor.X

namespace Go.Proofs.YtdpgdnpddndeoaaGreatDoor.X
open Go.RowKit Go.Maps
def valM (v : Value) : Option (DataW Value × List MemPlace) := some (.held v, [])
def zew (D : DataW Value) (f : zaa -> Option Value) : Prop := (∀ k, Maps.has D (.string k) = (f k).isSome) /\ ∀ k z, D.atKey (.string k) z = match f k with | some v => .held v | none => z
def MapIs (P : Program) (kt : TypeId) (w : World) (b n : Nat) (f : zaa -> Option Value) : Prop := ∃ D, w.ownsMap P kt valM b n D /\ zew D f
def setF (f : zaa -> Option Value) (k : zaa) (v : Value) : zaa -> Option Value := fun x => if x = k then some v else f x

section
variable {P : Program} {kt et t : TypeId} {w : World} {b n : Nat} {f : zaa -> Option Value}
theorem MapIs.lt (h : MapIs P kt w b n f) : b < w.heap.size := by obtain ⟨D, ho, _⟩ := h; exact ho.lt
theorem MapIs.made (w : World) : MapIs P kt (w.alloc (.map #[] 0)) w.heap.size 0 (fun _ => none) := ⟨.map [], World.ownsMap_made w P kt valM, fun _ => rfl, fun _ _ => rfl⟩
theorem MapIs.mono (h : MapIs P kt w b n f) {n' : Nat} (hn : n <= n') : MapIs P kt w b n' f := by obtain ⟨D, ho, hf⟩ := h; exact ⟨D, ho.mono hn, hf⟩
theorem MapIs.kept {w' : World} (h : MapIs P kt w b n f) (hb : w'.heap[b]? = w.heap[b]?) : MapIs P kt w' b n f := by
 obtain ⟨D, ⟨es, clock, h1, r⟩, hf⟩ := h
 exact ⟨D, ⟨es, clock, hb.trans h1, r⟩, hf⟩
theorem MapIs.below {w' : World} (h : MapIs P kt w b n f) (hb : Below w.heap.size w w') : MapIs P kt w' b n f := h.kept (hb.block b h.lt)
theorem MapIs.grown {w' : World} {row : Option Nat} (h : MapIs P kt w b n f) (hg : w.grownBy w' row) (hne : some b ≠ row) : MapIs P kt w' b n f := h.kept (hg.block b h.lt hne)
theorem MapIs.look2 (h : MapIs P kt w b n f) (hk : P.underlying kt = some .string) (ht : P.underlying t = some (.map kt et)) {z : Value} (hz : (zeroValue et).run P w = .ok z w) (k : ByteArray) (hs : k.size <= maxLen) :
 (Instr.lookup t (.map (some b)) (.string k) true).run P w = .ok (.tuple #[(f k.data.toList).getD z, .bool (f k.data.toList).isSome]) w := by
 obtain ⟨D, ho, h1, h2⟩ := h
 obtain ⟨v, ps, hrun, hv⟩ := ho.look_ok (string_keyed hk) ht hz (R := valM) (zd := .held z) rfl (Go.WideMaps.keyOf_string_mk hk hs)
 rw [h1] at hrun
 rw [h2] at hv
 have : v = (f k.data.toList).getD z := by
  unfold valM at hv
  have h0 := (Prod.mk.inj (Option.some.inj hv)).1
  cases hf : f k.data.toList with
  | none => rw [hf] at h0; simp only [DataW.held.injEq] at h0; exact h0
  | some u => rw [hf] at h0; simp only [DataW.held.injEq] at h0; exact h0
 rw [hrun, this]
theorem MapIs.look (h : MapIs P kt w b n f) (hk : P.underlying kt = some .string) (ht : P.underlying t = some (.map kt et)) {z : Value} (hz : (zeroValue et).run P w = .ok z w) (k : ByteArray) (hs : k.size <= maxLen) :
 (Instr.lookup t (.map (some b)) (.string k) false).run P w = .ok ((f k.data.toList).getD z) w := by
 obtain ⟨D, ho, h1, h2⟩ := h
 obtain ⟨v, ps, hrun, hv⟩ := ho.lookup (string_keyed hk) ht hz (R := valM) (zd := .held z) rfl (Go.WideMaps.keyOf_string_mk hk hs)
 rw [h2] at hv
 have : v = (f k.data.toList).getD z := by
  unfold valM at hv
  have h0 := (Prod.mk.inj (Option.some.inj hv)).1
  cases hf : f k.data.toList with
  | none => rw [hf] at h0; simp only [DataW.held.injEq] at h0; exact h0
  | some u => rw [hf] at h0; simp only [DataW.held.injEq] at h0; exact h0
 rw [hrun, this]
theorem zlQ {D : DataW Value} (hD : IsMap D) (h : zew D f) (k : zaa) (v : Value) : zew (D.put (.string k) (.held v)) (setF f k v) := by
 obtain ⟨h1, h2⟩ := h
 have hkl : WideAt.IsKeyLit (.string k) := by constructor
 refine ⟨fun x => ?_, fun x z => ?_⟩
 . unfold setF
   by_cases e : x = k
   . subst e
     rw [if_pos rfl, has_put_same hD hkl]
     rfl
   . rw [if_neg e, has_put_other (by intro h; exact e (by injection h)), h1]
 . unfold setF
   by_cases e : x = k
   . subst e
     rw [if_pos rfl, atKey_put_same hD hkl]
   . rw [if_neg e, atKey_put_other (by intro h; exact e (by injection h)), h2]
theorem MapIs.store (h : MapIs P kt w b n f) (hk : P.underlying kt = some .string) (ht : P.underlying t = some (.map kt et)) (hn : n < maxLen) (k : ByteArray) (hs : k.size <= maxLen) (v : Value) :
 ∃ w', (Instr.mapUpdate t (.map (some b)) (.string k) v).run P w = .ok () w' /\ MapIs P kt w' b (n + 1) (setF f k.data.toList v) /\ w.grownBy w' (some b) := by
 obtain ⟨D, ho, hf⟩ := h
 obtain ⟨w', hrun, ho', ht'⟩ := ho.store (string_keyed hk) ht hn (Go.WideMaps.keyOf_string_mk hk hs) (R := valM) (val := v) rfl
 exact ⟨w', hrun, ⟨_, ho', zlQ ho.isMap hf _ _⟩, ht'.grown⟩
def RangesIs (P : Program) (kt : TypeId) (w : World) (b r n : Nat) (f : zaa -> Option Value) (left : zaa -> Bool) (cnt : Nat) : Prop :=
 ∃ D lf, w.ranges P kt valM b r n D lf cnt /\ zew D f /\ ∀ k, lf (.string k) = left k
theorem RangesIs.map {r cnt : Nat} {left : zaa -> Bool} (h : RangesIs P kt w b r n f left cnt) : MapIs P kt w b n f := by
 obtain ⟨D, lf, h1, h2, _⟩ := h
 exact ⟨D, h1.owns, h2⟩
theorem RangesIs.kept {w' : World} {row : Option Nat} {r cnt : Nat} {left : zaa -> Bool} (h : RangesIs P kt w b r n f left cnt) (hg : w.grownBy w' row) (hb' : some b ≠ row) (hr' : some r ≠ row) : RangesIs P kt w' b r n f left cnt := by
 obtain ⟨D, lf, h1, h2, h3⟩ := h
 exact ⟨D, lf, h1.kept hg hb' hr', h2, h3⟩
theorem RangesIs.lt {r cnt : Nat} {left : zaa -> Bool} (h : RangesIs P kt w b r n f left cnt) : r < w.heap.size /\ r ≠ b := by
 obtain ⟨D, lf, h1, h2, h3⟩ := h
 exact ⟨h1.lt, h1.ne⟩
theorem MapIs.range (h : MapIs P kt w b n f) (hk : P.underlying kt = some .string) (ht : P.underlying t = some (.map kt et)) :
 ∃ w' cnt, (Instr.range t (.map (some b))).run P w = .ok (.pointer (some ⟨w.heap.size, 0, none⟩)) w' /\ RangesIs P kt w' b w.heap.size n f (fun k => (f k).isSome) cnt /\ cnt <= n /\ w.grownBy w' none /\ w'.heap.size = w.heap.size + 1 := by
 obtain ⟨D, ho, hf⟩ := h
 obtain ⟨w', hrun, hr, hg, hsz⟩ := ho.range (string_keyed hk) ht
 exact ⟨w', _, hrun, ⟨D, _, hr, hf, hf.1⟩, ho.size_le, hg, hsz⟩
theorem RangesIs.next {r cnt : Nat} {left : zaa -> Bool} (h : RangesIs P kt w b r n f left cnt) (hk : P.underlying kt = some .string) (ty : TypeId) :
 (cnt = 0 /\ (∀ k, left k = false) /\ (Instr.next (.pointer (some ⟨r, 0, none⟩)) false ty).run P w = .ok (.tuple #[.bool false]) w) \/
 ∃ (k : ByteArray) (v : Value) (w' : World) (cnt' : Nat), k.size <= maxLen /\ left k.data.toList = true /\ f k.data.toList = some v /\ (Instr.next (.pointer (some ⟨r, 0, none⟩)) false ty).run P w = .ok (.tuple #[.bool true, .string k, v]) w' /\
  RangesIs P kt w' b r n f (fun x => left x && !(x == k.data.toList)) cnt' /\ cnt' < cnt /\ w.grownBy w' (some r) /\ w'.heap.size = w.heap.size /\ (Instr.entry (.pointer (some ⟨r, 0, none⟩))).run P w' = .ok (.tuple #[.string k, v]) w' := by
 obtain ⟨D, lf, h1, h2, h3⟩ := h
 rcases h1.next (string_keyed hk) ty with ⟨h0, hl, hrun⟩ | ⟨key, v, kl, y, w', cnt', hkey, hlk, hv, hat, hrun, hrg, hlt, hgr, hsz, hen⟩
 . exact .inl ⟨h0, fun k => by rw [<- h3]; exact hl _, hrun⟩
 . have hinv : ∃ s : ByteArray, key = .string s /\ kl = .string s.data.toList /\ s.size <= maxLen := by
    cases key <;> simp [keyOf, hk, mapKey] at hkey
    obtain ⟨hs, rfl⟩ := hkey
    exact ⟨_, rfl, rfl, hs⟩
   obtain ⟨s, rfl, rfl, hs⟩ := hinv
   obtain rfl : y = (.held v, []) := (Option.some.inj hv).symm
   refine .inr ⟨s, v, w', cnt', hs, by rw [<- h3]; exact hlk, ?_, hrun, ⟨D, _, hrg, h2, fun k => ?_⟩, hlt, hgr, hsz, hen⟩
   . have := hat (.lit (.bool true))
     rw [h2.2] at this
     cases hf : f s.data.toList with
     | none => rw [hf] at this; cases this
     | some u => rw [hf] at this; simp only [DataW.held.injEq] at this; rw [this]
   . show (lf (.string k) && !Lit.sameKey (.string k) (.string s.data.toList)) = _
     rw [h3]
     rfl
end
end Go.Proofs.YtdpgdnpddndeoaaGreatDoor.X

namespace Go.Proofs.YtdpgdnpddndeoaaGreatDoor.X
open Go.RowKit Go.Maps Go.Proofs.YtdpgdnpddndeoaaGreatDoorW.PrintWords Go.Proofs.YtdpgdnpddndeoaaGreatDoorW.PrintMore Go.Proofs.YtdpgdnpddndeoaaGreatDoorW.PrintLast
def zV : SVal := ⟨false, ⟨#[]⟩⟩
def updS (e : zaa -> SVal) (k : zaa) (v : SVal) : zaa -> SVal := fun x => if x = k then v else e x
def EnvIs (w : World) (b n : Nat) (e : zaa -> SVal) : Prop := ∃ f, MapIs Tryz.prog 9 w b n f /\ ∀ k, (f k).getD (aggV zV) = aggV (e k)
theorem EnvIs.made (w : World) : EnvIs (w.alloc (.map #[] 0)) w.heap.size 0 (fun _ => zV) := ⟨_, MapIs.made w, fun _ => rfl⟩
theorem EnvIs.lt {w : World} {b n : Nat} {e : zaa -> SVal} (h : EnvIs w b n e) : b < w.heap.size := by obtain ⟨f, h, _⟩ := h; exact h.lt
theorem EnvIs.below {w w' : World} {b n : Nat} {e : zaa -> SVal} (h : EnvIs w b n e) (hb : Below w.heap.size w w') : EnvIs w' b n e := by obtain ⟨f, h, h2⟩ := h; exact ⟨f, h.below hb, h2⟩
theorem EnvIs.grown {w w' : World} {b n : Nat} {e : zaa -> SVal} {row : Option Nat} (h : EnvIs w b n e) (hg : w.grownBy w' row) (hne : some b ≠ row) : EnvIs w' b n e := by obtain ⟨f, h, h2⟩ := h; exact ⟨f, h.grown hg hne, h2⟩
theorem EnvIs.look {w : World} {b n : Nat} {e : zaa -> SVal} (h : EnvIs w b n e) (k : ByteArray) (hs : k.size <= maxLen) :
 (Instr.lookup 91 (.map (some b)) (.string k) false).run Tryz.prog w = .ok (aggV (e k.data.toList)) w := by
 obtain ⟨f, h, h2⟩ := h
 have := h.look Tryz.underlying9 Tryz.underlying91 (Tryz.zeroValue34 w) k hs
 rw [this]
 exact congrArg (fun v => Result.ok v w) (h2 k.data.toList)
theorem EnvIs.store {w : World} {b n : Nat} {e : zaa -> SVal} (h : EnvIs w b n e) (hn : n < maxLen) (k : ByteArray) (hs : k.size <= maxLen) (v : SVal) :
 ∃ w', (Instr.mapUpdate 91 (.map (some b)) (.string k) (aggV v)).run Tryz.prog w = .ok () w' /\ EnvIs w' b (n + 1) (updS e k.data.toList v) /\ w.grownBy w' (some b) := by
 obtain ⟨f, h, h2⟩ := h
 obtain ⟨w', hrun, h', hg⟩ := h.store Tryz.underlying9 Tryz.underlying91 hn k hs (aggV v)
 refine ⟨w', hrun, ⟨_, h', fun x => ?_⟩, hg⟩
 unfold setF updS
 split
 . rfl
 . exact h2 x

def envK (ins : List zaa) (vs : List SVal) (k : Nat) : zaa -> SVal := ((ins.zip vs).take k).foldl (fun e p => updS e p.1 p.2) (fun _ => zV)
def zcB (e : zaa -> SVal) (s : zb8) : zaa -> SVal := updS e s.out (valS (doP s.cmd (s.args.map fun a => valO (e a))))
def runK (r : zcX) (vs : List SVal) (k : Nat) : zaa -> SVal := (r.steps.take k).foldl zcB (envK r.ins vs r.ins.length)
def runS (r : zcX) (vs : List SVal) : List SVal := if vs.length ≠ r.ins.length then [] else r.outs.map (runK r vs r.steps.length)
theorem zmF (ins : List zaa) (vs : List SVal) (k : Nat) (h1 : k < ins.length) (h2 : k < vs.length) : envK ins vs (k + 1) = updS (envK ins vs k) ins[k] vs[k] := by
 unfold envK
 have hz : k < (ins.zip vs).length := by rw [List.length_zip]; omega
 rw [List.take_succ_eq_append_getElem hz, List.foldl_append]
 simp [List.getElem_zip]
theorem zkh (r : zcX) (vs : List SVal) (k : Nat) (h : k < r.steps.length) : runK r vs (k + 1) = zcB (runK r vs k) r.steps[k] := by
 unfold runK
 rw [List.take_succ_eq_append_getElem h, List.foldl_append]
 rfl
theorem zjF {s : Cmd} {vs : List VB} {b : zaa} (h : doP s vs = some b) : b.length <= 2000 := by
 unfold doP zcY at h
 split at h
 . cases h
 . split at h
   . cases h
   . rename_i hn
     cases h
     omega
theorem zji (s : Cmd) (vs : List VB) : (valS (doP s vs)).f1.size <= 4194304 := by
 cases h : doP s vs with
 | none => exact Nat.zero_le _
 | some b =>
  have := zjF h
  show (mk b).size <= _
  rw [za4]
  omega
def SmallE (e : zaa -> SVal) : Prop := ∀ k, (e k).f1.size <= 4194304
theorem SmallE.upd {e : zaa -> SVal} (h : SmallE e) (k : zaa) {v : SVal} (hv : v.f1.size <= 4194304) : SmallE (updS e k v) := by
 intro x
 unfold updS
 split
 . exact hv
 . exact h x
theorem znp (ins : List zaa) (vs : List SVal) (hv : ∀ v ∈ vs, v.f1.size <= 4194304) (k : Nat) : SmallE (envK ins vs k) := by
 unfold envK
 have key : ∀ (l : List (zaa × SVal)) (e : zaa -> SVal), SmallE e -> (∀ p ∈ l, p.2.f1.size <= 4194304) -> SmallE (l.foldl (fun e p => updS e p.1 p.2) e) := by
  intro l
  induction l with
  | nil => exact fun e h _ => h
  | cons p l ih => exact fun e h hp => ih _ (h.upd _ (hp p List.mem_cons_self)) (fun q hq => hp q (List.mem_cons_of_mem _ hq))
 refine key _ _ (fun _ => Nat.zero_le _) (fun p hp => hv p.2 ?_)
 exact (List.of_mem_zip (List.mem_of_mem_take hp)).2
theorem zhg (r : zcX) (vs : List SVal) (hv : ∀ v ∈ vs, v.f1.size <= 4194304) (k : Nat) : SmallE (runK r vs k) := by
 unfold runK
 have key : ∀ (l : List zb8) (e : zaa -> SVal), SmallE e -> SmallE (l.foldl zcB e) := by
  intro l
  induction l with
  | nil => exact fun e h => h
  | cons s l ih => exact fun e h => ih _ (h.upd _ (zji _ _))
 exact key _ _ (znp _ _ hv _)
end Go.Proofs.YtdpgdnpddndeoaaGreatDoor.X

namespace Go.Proofs.YtdpgdnpddndeoaaGreatDoor.X
open Go.RowKit Go.Maps Go.Proofs.YtdpgdnpddndeoaaGreatDoorW.PrintWords Go.Proofs.YtdpgdnpddndeoaaGreatDoorW.PrintMore Go.Proofs.YtdpgdnpddndeoaaGreatDoorW.PrintLast
set_option linter.unusedSimpArgs false
abbrev RVal (w : World) (base : Nat) (v : Value) (l : List SVal) : Prop := Kd.R k34 34 w base (fun _ => True) v l
structure FitR (r : zai) : Prop where
 ins : r.f1.length <= 1000
 outs : r.f2.length <= 1000
 steps : r.f4.length <= 1000
 insN : ∀ x ∈ r.f1, x.size <= maxLen
 outsN : ∀ x ∈ r.f2, x.size <= maxLen
 stepN : ∀ s ∈ r.f4, s.f0.size <= maxLen /\ s.f2.length <= 1000 /\ ∀ x ∈ s.f2, x.size <= maxLen
def zfP (l : List SVal) (w : World) (e : Ending) (w' : World) : Prop := ∃ v, e = .returned v /\ RVal w' w.heap.size v l /\ Below w.heap.size w w'
theorem zbc {w : World} {A : Option Addr} {l : List ByteArray} (h : Kd.C Kd.string w A l.length l) (k : Nat) (hk : k < l.length) : ∃ b o, A = some ⟨b, o, none⟩ /\ w.cell? ⟨b, o + k, none⟩ = some (.string l[k]) := by
 rcases zaZ h with h0 | ⟨b, o, rfl, _, hcell⟩
 . exfalso; rw [h0] at hk; simp at hk
 . refine ⟨b, o, rfl, ?_⟩
   have := hcell k hk
   rwa [show l.getD k ByteArray.empty = l[k] by simp [List.getD_eq_getElem?_getD, List.getElem?_eq_getElem hk]] at this
def zao (r : zai) (B1 : Option Addr) (c1 : Nat) (B2 : Option Addr) (c2 : Nat) (B3 : Option Addr) (c3 : Nat) (B4 : Option Addr) (c4 : Nat) : Array Value :=
 #[.string r.f0, .slice B1 r.f1.length c1, .slice B2 r.f2.length c2, .slice B3 r.f3.length c3, .slice B4 r.f4.length c4]
theorem zc7 {w : World} {A : Option Addr} {l : List zaA} (h : Kd.C k24 w A l.length l) (i : Nat) (hi : i < l.length) :
 ∃ b o B2 c2 B3 c3, A = some ⟨b, o, none⟩ /\ w.cell? ⟨b, o + i * 5, none⟩ = some (.string l[i].f0) /\ w.cell? ⟨b, o + i * 5 + 1, none⟩ = some (.int .i64 l[i].f1) /\ w.cell? ⟨b, o + i * 5 + 2, none⟩ = some (.slice B2 l[i].f2.length c2) /\
  w.cell? ⟨b, o + i * 5 + 3, none⟩ = some (.slice B3 l[i].f3.length c3) /\ w.cell? ⟨b, o + i * 5 + 4, none⟩ = some (.int .i64 l[i].f4) /\ Kd.C Kd.string w B2 l[i].f2.length l[i].f2 /\ Kd.C Kd.string w B3 l[i].f3.length l[i].f3 := by
 obtain ⟨ad, B2, c2, B3, c3, rfl, p0, p1, p2, p3, p4, q2, g2, q3, g3⟩ := zhl h (i : Int) (by omega) (by omega)
 have hx : zbX l (i : Int) = l[i] := by
  unfold zbX
  rw [Int.toNat_natCast, List.getD_eq_getElem?_getD, List.getElem?_eq_getElem hi]
  rfl
 rw [hx, Int.toNat_natCast] at p0 p1 p2 p3 p4
 rw [hx] at q2 g2 q3 g3
 obtain ⟨ad0, _, _, _, _, had0, z0, _⟩ := zhl h 0 (by omega) (by omega)
 cases had0
 obtain ⟨b, o, rfl⟩ := zej z0
 have e : ((⟨b, o, none⟩ : Addr).add (i * 5)) = ⟨b, o + i * 5, none⟩ := by
  unfold Addr.add
  split
  . rename_i h0; simp [h0]
  . rfl
 rw [e] at p0 p1 p2 p3 p4
 exact ⟨b, o, B2, c2, B3, c3, rfl, p0, p1, p2, p3, p4, g2, g3⟩
set_option maxHeartbeats 8000000 in
set_option maxRecDepth 100000 in
theorem zft (r : zai) (B1 : Option Addr) (c1 : Nat) (B2 : Option Addr) (c2 : Nat) (B3 : Option Addr) (c3 : Nat) (B4 : Option Addr) (c4 : Nat) (A : Option Addr) (c : Nat) (vs : List SVal) (w : World) (hG : GOK w)
 (h1 : Kd.C Kd.string w B1 r.f1.length r.f1) (h2 : Kd.C Kd.string w B2 r.f2.length r.f2) (h4 : Kd.C k24 w B4 r.f4.length r.f4) (hr : Kd.C k34 w A vs.length vs) (hF : FitR r) (hsz : ∀ v ∈ vs, v.f1.size <= 4194304) :
 Calls Tryz.prog 34 #[.agg (zao r B1 c1 B2 c2 B3 c3 B4 c4), .slice A vs.length c] w (zfP (runS (zax r) vs) w) := by
 have hlen : vs.length <= 9223372036854775807 := hr.2.1
 have hn1 := hF.ins
 have hn2 := hF.outs
 have hn4 := hF.steps
 have hW := (Below.refl w.heap.size w).alloc (Nat.le_refl _) (.cells (zao r B1 c1 B2 c2 B3 c3 B4 c4) 45)
 have HK := znM (zan w (.cells (zao r B1 c1 B2 c2 B3 c3 B4 c4) 45))
 have HB := znM hW
 have H1 := znM (Kd.C_below h1 hW)
 have H2 := znM (Kd.C_below h2 hW)
 have H4 := znM (Kd.C_below h4 hW)
 have HR := znM (Kd.C_below hr hW)
 have HG := znM (hG.below hW)
 have HS := znM hsz
 have HF := znM hF
 obtain ⟨T, hT⟩ : ∃ T, T = runS (zax r) vs := ⟨_, rfl⟩
 rw [<- hT]
 unfold runS at hT
 have hni : (zax r).ins.length = r.f1.length := za1 _
 rw [hni] at hT
 have HT := znM hT
 clear hT hni hW h1 h2 h4 hr hG hsz hF
 unfold zao at *
 have hmm := @run_makeMap Tryz.prog
 by_cases hne : vs.length = r.f1.length
 . have d0 : ((vs.length : Int) != (r.f1.length : Int)) = false := by simp [hne]
   have HN := znM hne
   have hT := HT.out
   rw [if_neg (by omega)] at hT
   clear HT
   have HT := znM hT
   clear hT hne
   go_enter Tryz.func34, Tryz.ntmps34
   go_upto_region 3 with fail
   generalize w.alloc (.cells #[.string r.f0, .slice B1 r.f1.length c1, .slice B2 r.f2.length c2, .slice B3 r.f3.length c3, .slice B4 r.f4.length c4] 45) = w1 at HB HK H1 H2 H4 HR HG |-
   have k1 : w1.cell? ⟨w.heap.size, 1, none⟩ = some (.slice B1 r.f1.length c1) := (zab HK.out 1).trans rfl
   have hE0 := EnvIs.made w1
   have hB0 := (Below.refl w1.heap.size w1).alloc (Nat.le_refl _) (.map #[] 0)
   have HE0 := znM hE0
   have HB0 := znM hB0
   have HM0 : Hid (w1.heap.size < (w1.alloc (.map #[] 0)).heap.size) := znM hE0.lt
   have HK2 := znM (zah HK.out hB0)
   have k1' : (w1.alloc (.map #[] 0)).cell? ⟨w.heap.size, 1, none⟩ = some (.slice B1 r.f1.length c1) := (zab HK2.out 1).trans rfl
   clear hE0 hB0
   go_upto_region 4 with fail
   generalize w1.alloc (.map #[] 0) = w2 at HE0 HB0 HM0 HK2 k1' |-
   go_wp2_with fail
   go_loopg [6, 7, 26] r.f1.length (fun gg _ _ s26 wr => ∃ kk : Nat, kk <= r.f1.length /\ r.f1.length - kk <= gg /\ s26 = .int .i64 kk /\ Aside0 (EnvIs wr w1.heap.size kk (envK (zac r.f1) vs kk)) /\ Aside0 (Below w1.heap.size w1 wr))
   case atStart => exact ⟨0, Nat.zero_le _, by omega, rfl, ⟨HE0.out⟩, ⟨HB0.out⟩⟩
   case round =>
    obtain ⟨kk, hkk, hgk, rfl, HE, HW⟩ := hrel
    by_cases hlt : kk < r.f1.length
    . have hltz : (kk : Int) < (r.f1.length : Int) := by omega
      have hlv : kk < vs.length := by have := HN.out; omega
      have hlvz : (kk : Int) < (vs.length : Int) := by omega
      obtain ⟨b, o, rfl, p0⟩ := zbc (Kd.C_below H1.out HW.out) kk hlt
      obtain ⟨b2, o2, rfl, v0, v1⟩ := zdk (Kd.C_below HR.out HW.out) kk hlv
      have hst := zmF (zac r.f1) vs kk (by rw [za1]; exact hlt) hlv
      rw [zcK r.f1 kk hlt] at hst
      have hsz := HF.out.insN _ (List.getElem_mem hlt)
      obtain ⟨w3, hrun, hE3, hg3⟩ := HE.out.store (by unfold maxLen; omega) r.f1[kk] hsz vs[kk]
      rw [<- hst] at hE3
      unfold aggV at hrun
      have HE3 := znM hE3
      have HW3 : Hid (Below w1.heap.size w1 w3) := znM (HW.out.grown hg3 HW.out.size (fun k hk => by cases hk; exact Nat.le_refl _))
      generalize r.f1[kk] = n at p0 hrun
      generalize vs[kk] = v at v0 v1 hrun
      clear hst hsz hE3 hg3
      go_wp2_with fail
      go_roundg (r.f1.length - (kk + 1))
      case measure => omega
      case rel => exact ⟨kk + 1, by omega, by omega, by go_num, ⟨HE3.out⟩, ⟨HW3.out⟩⟩
    . have hltz : ¬ (kk : Int) < (r.f1.length : Int) := by omega
      obtain rfl : kk = r.f1.length := by omega
      have HE1 : Hid (EnvIs wr w1.heap.size (r.f1.length + 0) (runK (zax r) vs 0)) := by
       have h := HE.out
       have e : runK (zax r) vs 0 = envK (zac r.f1) vs r.f1.length := by
        show envK (zac r.f1) vs (zac r.f1).length = _
        rw [za1]
       show EnvIs _ _ _ _
       rw [e]
       exact h
      have HK3 := znM (zah HK.out HW.out)
      have k4 : wr.cell? ⟨w.heap.size, 4, none⟩ = some (.slice B4 r.f4.length c4) := (zab HK3.out 4).trans rfl
      go_upto_region 9 with fail
      clear HE HE0 HB0 HM0 HK2 k1'
      go_wp2_with fail
      go_loopg [9, 10, 12, 41] r.f4.length (fun gg _ _ _ s41 wq => ∃ jj : Nat, jj <= r.f4.length /\ r.f4.length - jj <= gg /\ s41 = .int .i64 jj /\ Aside0 (EnvIs wq w1.heap.size (r.f1.length + jj) (runK (zax r) vs jj)) /\ Aside0 (Below w1.heap.size w1 wq))
      case atStart => exact ⟨0, Nat.zero_le _, by omega, rfl, ⟨HE1.out⟩, ⟨HW.out⟩⟩
      case round =>
       obtain ⟨jj, hjj, hgj, rfl, HEq, HWq⟩ := hrel
       obtain ⟨wq, rfl⟩ : ∃ wq, wq = wr := ⟨wr, rfl⟩
       by_cases hlj : jj < r.f4.length
       . have hljz : (jj : Int) < (r.f4.length : Int) := by omega
         obtain ⟨b, o, C2, d2, C3, d3, rfl, p0, p1, p2, p3, p4, g2, g3⟩ := zc7 (Kd.C_below H4.out HWq.out) jj hlj
         have hst := zkh (zax r) vs jj (by show jj < (r.f4.map zaM).length; rw [List.length_map]; exact hlj)
         have hsx : (zax r).steps[jj]'(by show jj < (r.f4.map zaM).length; rw [List.length_map]; exact hlj) = zaM r.f4[jj] := List.getElem_map ..
         rw [hsx] at hst
         have hsm := zhg (zax r) vs HS.out jj
         obtain ⟨hxo, hxl, hxn⟩ := HF.out.stepN _ (List.getElem_mem hlj)
         have HEr : Hid (EnvIs (wq) w1.heap.size (r.f1.length + jj) (runK (zax r) vs jj)) := znM HEq.out
         have HSt : Hid (runK (zax r) vs (jj + 1) = zcB (runK (zax r) vs jj) (zaM r.f4[jj])) := znM hst
         have HXo := znM hxo
         have HXn := znM hxn
         have HSm := znM hsm
         generalize hx : r.f4[jj] = x at p0 p1 p2 p3 p4 g2 g3 HSt HXo HXn hxl
         clear hx hst hsx hxo hxn hsm
         generalize runK (zax r) vs jj = e at HEr HSt HSm
         have hb3 := (Below.refl wq.heap.size wq).alloc (Nat.le_refl _) (.cells #[.string x.f0, .int .i64 x.f1, .slice C2 x.f2.length d2, .slice C3 x.f3.length d3, .int .i64 x.f4] 24)
         have HX3 := znM (zan wq (.cells #[.string x.f0, .int .i64 x.f1, .slice C2 x.f2.length d2, .slice C3 x.f3.length d3, .int .i64 x.f4] 24))
         have HB3 := znM hb3
         have HG2 := znM (Kd.C_below g2 hb3)
         have HG3 := znM (Kd.C_below g3 hb3)
         have HE3 := znM (HEr.out.below hb3)
         have HWz := znM HWq.out.size
         clear g2 g3 hb3
         go_upto_region 12 with fail
         generalize wq.alloc (.cells #[.string x.f0, .int .i64 x.f1, .slice C2 x.f2.length d2, .slice C3 x.f3.length d3, .int .i64 x.f4] 24) = w3 at HX3 HB3 HG2 HG3 HE3 |-
         have x2 : w3.cell? ⟨wq.heap.size, 2, none⟩ = some (.slice C2 x.f2.length d2) := (zab HX3.out 2).trans rfl
         go_wp2_with fail
         go_loopg [10, 12, 48] x.f2.length (fun gg s10 _ s48 wi => ∃ j : Nat, j <= x.f2.length /\ x.f2.length - j <= gg /\ s48 = .int .i64 j /\ Aside0 (RVal wi w3.heap.size s10 ((x.f2.take j).map fun a => e a.data.toList)) /\ Aside0 (Below w3.heap.size w3 wi))
         case atStart => exact ⟨0, Nat.zero_le _, by omega, rfl, ⟨Kd.R_nil _ _ _ _ _⟩, ⟨Below.refl _ _⟩⟩
         case round =>
          obtain ⟨j, hj, hgj2, rfl, HO, HWi⟩ := hrel
          by_cases hl2 : j < x.f2.length
          . have hl2z : (j : Int) < (x.f2.length : Int) := by omega
            obtain ⟨b5, o5, rfl, q0⟩ := zbc (Kd.C_below HG2.out HWi.out) j hl2
            have hlk := (HE3.out.below HWi.out).look x.f2[j] (HXn.out _ (List.getElem_mem hl2))
            have HSucc : Hid ((x.f2.take (j + 1)).map (fun a => e a.data.toList) = (x.f2.take j).map (fun a => e a.data.toList) ++ [e x.f2[j].data.toList]) := by show _ = _; rw [List.take_succ_eq_append_getElem hl2, List.map_append]; rfl
            have hml : ((x.f2.take j).map (fun a => e a.data.toList)).length = j := by rw [List.length_map, List.length_take]; omega
            have HML := znM hml
            have HWs := znM HWi.out.size
            generalize e x.f2[j].data.toList = v at hlk HSucc
            generalize x.f2[j] = n at q0 hlk
            unfold aggV at hlk
            clear hml
            go_wp2_with (first | ((with_reducible refine zaO (b := .append) (xs := #[.tmp 52, .tmp 56]) rfl ?_); at_builtin; refine Kd.R_append k34 (w0 := w3) w3.heap.size rfl (.tmp 52) (.tmp 56) 25 34 (.agg #[.bool false, .string ⟨#[]⟩]) 24 rfl Tryz.underlying25 zcP rfl (by decide) (by decide) u10 ((x.f2.take j).map (fun a => e a.data.toList)) v [.bool v.f0, .string v.f1] (fun _ => True) (fun k_ => True /\ some k_ ≠ u10.ownBlock) rfl rfl (zcA _ _ _ v) (fun _ hk => hk) (fun _ _ => trivial) HO.out HWi.out HWs.out ?aL ?_; (case aL => (have h1 := HML.out; omega)); intro v1 w4 ho hb hg hat; have HO4 : Hid (RVal w4 w3.heap.size v1 ((x.f2.take (j + 1)).map (fun a => e a.data.toList))) := (by show RVal _ _ _ _; rw [HSucc.out]; exact ho); have HB4 := znM hb; clear ho hb hg hat))
            go_roundg (x.f2.length - (j + 1))
            case measure => omega
            case rel => exact ⟨j + 1, by omega, by omega, by first | rfl | go_num, ⟨HO4.out⟩, ⟨HB4.out⟩⟩
          . have hl2z : ¬ (j : Int) < (x.f2.length : Int) := by omega
            obtain rfl : j = x.f2.length := by omega
            have hO := HO.out
            rw [List.take_length] at hO
            obtain ⟨A5, n5, rfl, hc5, hC5⟩ := Kd.R_reads hO
            have hlm : (x.f2.map fun a => e a.data.toList).length = x.f2.length := List.length_map ..
            have HC5 : Hid (Kd.C k34 wr A5 (x.f2.map fun a => e a.data.toList).length (x.f2.map fun a => e a.data.toList)) := znM hC5
            have HWi2 : Hid (Below w1.heap.size w1 wr) := znM ((HWq.out.trans (HB3.out.mono HWz.out)).trans (HWi.out.mono (Nat.le_trans HWz.out HB3.out.size)))
            have hDo := fun (W : World) (hW : Below wr.heap.size wr W) => zgj x C2 d2 C3 d3 A5 n5 (x.f2.map fun a => e a.data.toList) W (HG.out.below (HWi2.out.trans (hW.mono HWi2.out.size))) (Kd.C_below HG2.out (HWi.out.trans (hW.mono HWi.out.size))) (Kd.C_below HG3.out (HWi.out.trans (hW.mono HWi.out.size))) (Kd.C_below HC5.out hW) (fun v hv => by
             obtain ⟨a, _, rfl⟩ := List.mem_map.1 hv
             exact HSm.out _)
            rw [hlm] at hDo |-
            have hse : zcB e (zaM x) = updS e x.f0.data.toList (valS (doP (zal x) ((x.f2.map fun a => e a.data.toList).map valO))) := by
             unfold zcB zaM zac
             dsimp only
             rw [List.map_map, List.map_map]
             rfl
            have HSt2 : Hid (runK (zax r) vs (jj + 1) = updS e x.f0.data.toList (valS (doP (zal x) ((x.f2.map fun a => e a.data.toList).map valO)))) := HSt.out.trans hse
            generalize valS (doP (zal x) ((x.f2.map fun a => e a.data.toList).map valO)) = vx at hDo HSt2
            have HDo := znM hDo
            have HX5 := znM (zah HX3.out HWi.out)
            have Sof : ∀ W : World, W.heap[wq.heap.size]? = some (.cells #[.string x.f0, .int .i64 x.f1, .slice C2 x.f2.length d2, .slice C3 x.f3.length d3, .int .i64 x.f4] 24 (0, 0)) -> W.cell? ⟨wq.heap.size, 0, none⟩ = some (.string x.f0) /\ W.cell? ⟨wq.heap.size, 1, none⟩ = some (.int .i64 x.f1) /\ W.cell? ⟨wq.heap.size, 2, none⟩ = some (.slice C2 x.f2.length d2) /\ W.cell? ⟨wq.heap.size, 3, none⟩ = some (.slice C3 x.f3.length d3) /\ W.cell? ⟨wq.heap.size, 4, none⟩ = some (.int .i64 x.f4) := fun W hW =>
             ⟨(zab hW 0).trans rfl, (zab hW 1).trans rfl, (zab hW 2).trans rfl, (zab hW 3).trans rfl, (zab hW 4).trans rfl⟩
            have HNe : Hid (w1.heap.size < wq.heap.size) := HEr.out.lt
            have HSo := znM Sof
            have HBx : Hid (Below wr.heap.size wr wr.drew) := znM (zbl (Below.refl _ _))
            have HEs : Hid (∀ W, Below wr.heap.size wr W -> ∃ w6, (Instr.mapUpdate 91 (.map (some w1.heap.size)) (.string x.f0) (aggV vx)).run Tryz.prog W = .ok () w6 /\ EnvIs w6 w1.heap.size (r.f1.length + jj + 1) (updS e x.f0.data.toList vx) /\ W.grownBy w6 (some w1.heap.size)) :=
             znM (fun W hW => ((HE3.out.below HWi.out).below hW).store (by unfold maxLen; omega) x.f0 HXo.out vx)
            clear hDo hse hC5 hO Sof hc5 hlm x2
            go_wp2_with fail
            go_region_held3 (fun W => W.cell? ⟨wq.heap.size, 0, none⟩ = some (.string x.f0) /\ W.cell? ⟨wq.heap.size, 1, none⟩ = some (.int .i64 x.f1) /\ W.cell? ⟨wq.heap.size, 2, none⟩ = some (.slice C2 x.f2.length d2) /\ W.cell? ⟨wq.heap.size, 3, none⟩ = some (.slice C3 x.f3.length d3) /\ W.cell? ⟨wq.heap.size, 4, none⟩ = some (.int .i64 x.f4))
             (first | exact HSo.out _ (zah HX5.out HBx.out) | exact HSo.out _ HX6.out)
             (first | (go_at_call 25; refine (HDo.out _ HBx.out).mono ?_; rintro e5 w5 ⟨rfl, hb5⟩; have HBx := znM (zad HBx.out HBx.out.size hb5); obtain ⟨w6, hrun, hE6, hg6⟩ := HEs.out _ HBx.out; have HE6 := znM hE6; have HG6 := znM hg6; have HX6 := znM ((hg6.block wq.heap.size (za2 (zah HX5.out HBx.out)) (by have h := HNe.out; intro he; injection he; omega)).trans (zah HX5.out HBx.out)); clear hb5 hE6 hg6))
            all_goals
             have hW6 : Below w1.heap.size w1 w6 := (HWi2.out.trans (HBx.out.mono HWi2.out.size)).grown HG6.out (Nat.le_trans HWi2.out.size HBx.out.size) (fun k hk => by cases hk; exact Nat.le_refl _)
             have HW6 := znM hW6
             have HE7 : Hid (EnvIs w6 w1.heap.size (r.f1.length + (jj + 1)) (runK (zax r) vs (jj + 1))) := by
              show EnvIs _ _ _ _
              rw [HSt2.out]
              exact HE6.out
             clear hW6
             go_wp2_with fail
             go_roundg (r.f4.length - (jj + 1))
             case measure => omega
             case rel => exact ⟨jj + 1, by omega, by omega, by first | rfl | go_num, ⟨HE7.out⟩, ⟨HW6.out⟩⟩
       . have hljz : ¬ (jj : Int) < (r.f4.length : Int) := by omega
         obtain rfl : jj = r.f4.length := by omega
         have HK4 := znM (zah HK.out HWq.out)
         have k2 : wq.cell? ⟨w.heap.size, 2, none⟩ = some (.slice B2 r.f2.length c2) := (zab HK4.out 2).trans rfl
         have hkl : (zax r).steps.length = r.f4.length := List.length_map ..
         have hT2 := HT.out
         rw [hkl] at hT2
         have HT2 : Hid (T = (zac r.f2).map (runK (zax r) vs r.f4.length)) := znM hT2
         have HEf : Hid (EnvIs wq w1.heap.size (r.f1.length + r.f4.length) (runK (zax r) vs r.f4.length)) := znM HEq.out
         clear hkl hT2
         generalize runK (zax r) vs r.f4.length = e at HEf HT2
         go_upto_region 21 with fail
         go_wp2_with fail
         go_loopg [13, 15, 69] r.f2.length (fun gg s13 _ s69 wi => ∃ j : Nat, j <= r.f2.length /\ r.f2.length - j <= gg /\ s69 = .int .i64 j /\ Aside0 (RVal wi wq.heap.size s13 ((r.f2.take j).map fun a => e a.data.toList)) /\ Aside0 (Below wq.heap.size wq wi))
         case atStart => exact ⟨0, Nat.zero_le _, by omega, rfl, ⟨Kd.R_nil _ _ _ _ _⟩, ⟨Below.refl _ _⟩⟩
         case round =>
          obtain ⟨j, hj, hgj2, rfl, HO, HWi⟩ := hrel
          by_cases hl2 : j < r.f2.length
          . have hl2z : (j : Int) < (r.f2.length : Int) := by omega
            obtain ⟨b5, o5, rfl, q0⟩ := zbc (Kd.C_below H2.out (HWq.out.trans (HWi.out.mono HWq.out.size))) j hl2
            have hlk := (HEf.out.below HWi.out).look r.f2[j] (HF.out.outsN _ (List.getElem_mem hl2))
            have HSucc : Hid ((r.f2.take (j + 1)).map (fun a => e a.data.toList) = (r.f2.take j).map (fun a => e a.data.toList) ++ [e r.f2[j].data.toList]) := by show _ = _; rw [List.take_succ_eq_append_getElem hl2, List.map_append]; rfl
            have hml : ((r.f2.take j).map (fun a => e a.data.toList)).length = j := by rw [List.length_map, List.length_take]; omega
            have HML := znM hml
            have HWs := znM HWi.out.size
            generalize e r.f2[j].data.toList = v at hlk HSucc
            generalize r.f2[j] = n at q0 hlk
            unfold aggV at hlk
            clear hml
            go_wp2_with (first | ((with_reducible refine zaO (b := .append) (xs := #[.tmp 73, .tmp 77]) rfl ?_); at_builtin; refine Kd.R_append k34 (w0 := wq) wq.heap.size rfl (.tmp 73) (.tmp 77) 25 34 (.agg #[.bool false, .string ⟨#[]⟩]) 24 rfl Tryz.underlying25 zcP rfl (by decide) (by decide) u13 ((r.f2.take j).map (fun a => e a.data.toList)) v [.bool v.f0, .string v.f1] (fun _ => True) (fun k_ => True /\ some k_ ≠ u13.ownBlock) rfl rfl (zcA _ _ _ v) (fun _ hk => hk) (fun _ _ => trivial) HO.out HWi.out HWs.out ?aL ?_; (case aL => (have h1 := HML.out; omega)); intro v1 w4 ho hb hg hat; have HO4 : Hid (RVal w4 wq.heap.size v1 ((r.f2.take (j + 1)).map (fun a => e a.data.toList))) := (by show RVal _ _ _ _; rw [HSucc.out]; exact ho); have HB4 := znM hb; clear ho hb hg hat))
            go_roundg (r.f2.length - (j + 1))
            case measure => omega
            case rel => exact ⟨j + 1, by omega, by omega, by first | rfl | go_num, ⟨HO4.out⟩, ⟨HB4.out⟩⟩
          . have hl2z : ¬ (j : Int) < (r.f2.length : Int) := by omega
            obtain rfl : j = r.f2.length := by omega
            have hO := HO.out
            rw [List.take_length] at hO
            have hte : T = r.f2.map fun a => e a.data.toList := by rw [HT2.out]; unfold zac; rw [List.map_map]; rfl
            have HTe := znM hte
            have HOf := znM hO
            clear hte hO
            go_wp2_with fail
            go_ret
            exact ⟨_, rfl, by rw [HTe.out]; exact Kd.R_lower HOf.out (Nat.le_trans HB.out.size HWq.out.size), (HB.out.trans (HWq.out.mono HB.out.size)).trans (HWi.out.mono (Nat.le_trans HB.out.size HWq.out.size))⟩
 . have d0 : ((vs.length : Int) != (r.f1.length : Int)) = true := by simp; omega
   have hT := HT.out
   rw [if_pos (by omega)] at hT
   clear HT
   have HT := znM hT
   clear hT hne
   go_enter Tryz.func34, Tryz.ntmps34
   go_upto_if 21 with fail
   generalize w.alloc (.cells #[.string r.f0, .slice B1 r.f1.length c1, .slice B2 r.f2.length c2, .slice B3 r.f3.length c3, .slice B4 r.f4.length c4] 45) = w1 at HB HK H1 H2 H4 HR HG |-
   have k1 : w1.cell? ⟨w.heap.size, 1, none⟩ = some (.slice B1 r.f1.length c1) := (zab HK.out 1).trans rfl
   go_wp2_with fail
   go_ret
   exact ⟨_, rfl, by rw [HT.out]; exact Kd.R_nil _ _ _ _ _, HB.out⟩

end Go.Proofs.YtdpgdnpddndeoaaGreatDoor.X
