/-
  What the cards lean on (part Y11): contracts of functions, by hand, and plain laws; what is printed by the kit's print for this seat is among them. What is not reached is left out.
-/
import Derived.Test.YtdpgdnpddndeoaaGreatDoorY10
import Derived.Test.YtdpgdnpddndeoaaGreatDoorY9
import Derived.Test.YtdpgdnpddndeoaaGreatDoorY3
set_option maxHeartbeats 16000000
set_option maxRecDepth 100000
set_option linter.unusedSimpArgs false
set_option linter.unusedVariables false
open Go.RowKit.Below renaming refl -> zpt
open Nat renaming le_refl -> zpu, le_trans -> zpA, le_of_lt -> zqs, zero_le -> zqf, le_succ -> zq4
open Go.World.grownBy renaming trans -> zpC
open List renaming length_map -> zp6, take_length -> zqa, map_cons -> zpU, take_succ_eq_append_getElem -> zpW, mem_singleton -> zqR, mem_append -> zqW, length_cons -> zqc, map_append -> zqj, take_append_drop -> zqX, mem_of_find?_eq_some -> zq0, getElem_mem -> zqD, map_congr_left -> zq1, any_eq_false -> zq2, sum_cons -> zq3, mem_map -> zqN, find?_eq_none -> zqV
open Option.some renaming inj -> zp2
open Option renaming isSome_none -> zqh, getD_none -> zqY, isSome_some -> zqZ, getD_some -> zqk

namespace Go.Proofs.YtdpgdnpddndeoaaGreatDoor.X
open Go.RowKit Go.Maps Go.Proofs.YtdpgdnpddndeoaaGreatDoorW.PrintWords Go.Proofs.YtdpgdnpddndeoaaGreatDoorW.PrintMore Go.Proofs.YtdpgdnpddndeoaaGreatDoorW.PrintLast
theorem zfG (f g : zaa -> Nat) (h : ∀ y, f y <= g y) : ∀ l : List zaa, (l.map f).sum <= (l.map g).sum
 | [] => zpu _
 | x :: r => by
  rw [zpU, zpU, zq3, zq3]; exact Nat.add_le_add (h x) (zfG f g h r)
theorem zeQ (f g : zaa -> Nat) (h : ∀ y, f y <= g y) : ∀ (l : List zaa) (x : zaa), x ∈ l -> f x < g x -> (l.map f).sum < (l.map g).sum
 | y :: r, x, hx, hlt => by
  rw [zpU, zpU, zq3, zq3]; rcases List.mem_cons.1 hx with rfl | hx
  . have := zfG f g h r
    omega
  . have := zeQ f g h r x hx hlt
    have := h y; omega
theorem zfK (f : zaa -> Nat) (c : Nat) : ∀ l : List zaa, (∀ y, f y <= c) -> (l.map f).sum <= l.length * c
 | [], _ => zqf _
 | x :: r, h => by
  rw [zpU, zq3, zqc, Nat.succ_mul]; have := zfK f c r h; have := h x; omega
def zcF (nodes : List zaa) (fd : zaa -> Option Nat) : Nat := (nodes.map fun x => if (fd x).isSome then 1 else 0).sum
def phiN (nodes : List zaa) (fd : zaa -> Option Nat) : Nat := (nodes.map fun x => (fd x).getD nodes.length).sum
theorem zhC (nodes : List zaa) (fd : zaa -> Option Nat) : zcF nodes fd <= nodes.length := by
 have := zfK (fun x => if (fd x).isSome then 1 else 0) 1 nodes (fun y => by split <;> omega)
 unfold zcF; omega
structure FarInv (G : zaa -> List zaa) (nodes : List zaa) (t : zaa) (fd : zaa -> Option Nat) : Prop where
 self : fd t = some 0
 sound : ∀ x d, fd x = some d -> goes G t d x
 low : ∀ x d, fd x = some d -> d < zcF nodes fd
theorem FarInv.init (G : zaa -> List zaa) {nodes : List zaa} {t : zaa} (ht : t ∈ nodes) : FarInv G nodes t (setG (fun _ => none) t 0) := by
 have e : ∀ x d, setG (fun _ => none) t 0 x = some d -> x = t /\ d = 0 := by
  intro x d h; unfold setG at h; split at h
  . cases h; exact ⟨by assumption, rfl⟩
  . cases h
 refine ⟨by unfold setG; rw [if_pos rfl], fun x d h => ?_, fun x d h => ?_⟩
 . obtain ⟨rfl, rfl⟩ := e x d h
   exact rfl
 . obtain ⟨rfl, rfl⟩ := e x d h
   have := zeQ (fun _ => 0) (fun y => if (setG (fun _ => none) x 0 y).isSome then 1 else 0) (fun y => zqf _) nodes x ht (by unfold setG; rw [if_pos rfl]; exact Nat.zero_lt_one)
   unfold zcF; omega
theorem FarInv.lt {G : zaa -> List zaa} {nodes : List zaa} {t x : zaa} {fd : zaa -> Option Nat} {d : Nat} (h : FarInv G nodes t fd) (hx : fd x = some d) : d < nodes.length := Nat.lt_of_lt_of_le (h.low x d hx) (zhC nodes fd)
theorem FarInv.phi {G : zaa -> List zaa} {nodes : List zaa} {t : zaa} {fd : zaa -> Option Nat} (h : FarInv G nodes t fd) : phiN nodes fd <= nodes.length * nodes.length := by
 refine zfK _ _ nodes fun y => ?_
 cases hy : fd y with
 | none => exact zpu _
 | some d => exact zqs (h.lt hy)
theorem FarInv.put {G : zaa -> List zaa} {nodes : List zaa} {t x y : zaa} {fd : zaa -> Option Nat} {d : Nat} (h : FarInv G nodes t fd) (hx : x ∈ nodes) (hy : y ∈ G x) (hd : fd y = some d) (hn : ∀ e, fd x = some e -> d + 1 < e) :
 FarInv G nodes t (setG fd x (d + 1)) /\ phiN nodes (setG fd x (d + 1)) < phiN nodes fd := by
 have hs : setG fd x (d + 1) x = some (d + 1) := by unfold setG; rw [if_pos rfl]
 have hne : ∀ z, z ≠ x -> setG fd x (d + 1) z = fd z := fun z hz => by unfold setG; rw [if_neg hz]
 have hkle : ∀ z, (if (fd z).isSome then 1 else 0 : Nat) <= if (setG fd x (d + 1) z).isSome then 1 else 0 := by
  intro z; by_cases hz : z = x
  . rw [hz, hs]
    split <;> simp
  . rw [hne z hz]
    exact zpu _
 have hk : zcF nodes fd <= zcF nodes (setG fd x (d + 1)) := zfG _ _ hkle nodes; have hdk : d + 1 < zcF nodes (setG fd x (d + 1)) := by
  cases hfx : fd x with
  | some e =>
   have := hn e hfx; have := h.low x e hfx; omega
  | none =>
   have h1 := h.low y d hd; have h2 : zcF nodes fd < zcF nodes (setG fd x (d + 1)) := zeQ _ _ hkle nodes x hx (by rw [hs, hfx]; simp)
   omega
 have hN := zhC nodes (setG fd x (d + 1)); refine ⟨⟨?_, fun z e hz => ?_, fun z e hz => ?_⟩, ?_⟩
 . have : t ≠ x := by
    rintro rfl; have := hn 0 h.self; omega
   rw [hne t this, h.self]
 . by_cases hzx : z = x
   . subst hzx
     rw [hs] at hz; cases hz
     exact ⟨y, hy, h.sound y d hd⟩
   . rw [hne z hzx] at hz
     exact h.sound z e hz
 . by_cases hzx : z = x
   . subst hzx
     rw [hs] at hz; cases hz
     exact hdk
   . rw [hne z hzx] at hz
     have := h.low z e hz; omega
 . refine zeQ _ _ (fun z => ?_) nodes x hx ?_
   . by_cases hz : z = x
     . rw [hz, hs]
       cases hfx : fd x with
       | some e => exact zqs (hn e hfx)
       | none => show d + 1 <= nodes.length; omega
     . rw [hne z hz]
       exact zpu _
   . show (setG fd x (d + 1) x).getD nodes.length < (fd x).getD nodes.length
     rw [hs]; cases hfx : fd x with
     | some e => exact hn e hfx
     | none => show d + 1 < nodes.length; omega
def zcX (G : zaa -> List zaa) (fd : zaa -> Option Nat) (x : zaa) : Prop := ∀ y ∈ G x, ∀ d, fd y = some d -> ∃ e, fd x = some e /\ e <= d + 1
theorem FarInv.is {G : zaa -> List zaa} {nodes : List zaa} {t : zaa} {fd : zaa -> Option Nat} (h : FarInv G nodes t fd) (hc : ∀ x, zcX G fd x) : IsFar G t fd := zmo h.self h.sound fun x y d hy hd => hc x y hy d hd

def IntIs (w : World) (b n : Nat) (fd : zaa -> Option Nat) : Prop := ∃ f, MapIs Tryz.prog 9 w b n f /\ ∀ k, f k = (fd k).map fun d => Value.int .i64 (d : Int)
theorem IntIs.made (w : World) : IntIs (w.alloc (.map #[] 0)) w.heap.size 0 (fun _ => none) := ⟨_, MapIs.made w, fun _ => rfl⟩
theorem IntIs.lt {w : World} {b n : Nat} {g : zaa -> Option Nat} (h : IntIs w b n g) : b < w.heap.size := by obtain ⟨f, h, _⟩ := h; exact h.lt
theorem IntIs.below {w w' : World} {b n : Nat} {g : zaa -> Option Nat} (h : IntIs w b n g) (hb : Below w.heap.size w w') : IntIs w' b n g := by obtain ⟨f, h, h2⟩ := h; exact ⟨f, h.below hb, h2⟩
theorem IntIs.grown {w w' : World} {b n : Nat} {g : zaa -> Option Nat} {row : Option Nat} (h : IntIs w b n g) (hg : w.grownBy w' row) (hne : some b ≠ row) : IntIs w' b n g := by obtain ⟨f, h, h2⟩ := h; exact ⟨f, h.grown hg hne, h2⟩
theorem IntIs.ne_cells {w : World} {b n : Nat} {g : zaa -> Option Nat} (h : IntIs w b n g) {a t : Nat} {cs : Array Value} {fr : Nat × Nat} (hg : w.heap[a]? = some (.cells cs t fr)) : b ≠ a := by obtain ⟨f, h, _⟩ := h; exact h.ne_cells hg
theorem IntIs.look2 {w : World} {b n : Nat} {g : zaa -> Option Nat} (h : IntIs w b n g) (k : ByteArray) (hs : k.size <= maxLen) :
 (Instr.lookup 162 (.map (some b)) (.string k) true).run Tryz.prog w = .ok (.tuple #[.int .i64 (((g k.data.toList).getD 0 : Nat) : Int), .bool (g k.data.toList).isSome]) w := by
 obtain ⟨f, h, h2⟩ := h; rw [h.look2 Tryz.underlying9 Tryz.underlying162 (Tryz.zeroValue3 w) k hs, h2]; cases g k.data.toList <;> rfl
theorem IntIs.put {w : World} {b n : Nat} {g : zaa -> Option Nat} (h : IntIs w b n g) (hn : n < maxLen) (k : ByteArray) (hs : k.size <= maxLen) (v : Nat) :
 ∃ w', (Instr.mapUpdate 162 (.map (some b)) (.string k) (.int .i64 (v : Int))).run Tryz.prog w = .ok () w' /\ IntIs w' b (n + 1) (setG g k.data.toList v) /\ w.grownBy w' (some b) := by
 obtain ⟨f, h, h2⟩ := h; obtain ⟨w', hrun, h', hg⟩ := h.store Tryz.underlying9 Tryz.underlying162 hn k hs (.int .i64 (v : Int)); refine ⟨w', hrun, ⟨_, h', fun x => ?_⟩, hg⟩
 unfold setF setG; split
 . rfl
 . exact h2 x
structure FSt (w : World) (K m n : Nat) (fd : zaa -> Option Nat) : Prop where
 c : w.heap[K]? = some (.cells #[.map (some m)] 162 (0, 0))
 e : IntIs w m n fd
theorem FSt.below {w w' : World} {K m n : Nat} {fd : zaa -> Option Nat} (h : FSt w K m n fd) (hb : Below w.heap.size w w') : FSt w' K m n fd := ⟨zah h.c hb, h.e.below hb⟩
theorem FSt.grown {w w' : World} {K m n : Nat} {fd : zaa -> Option Nat} {row : Option Nat} (h : FSt w K m n fd) (hg : w.grownBy w' row) (h1 : some K ≠ row) (h2 : some m ≠ row) : FSt w' K m n fd := ⟨zaT h.c hg h1, h.e.grown hg h2⟩
theorem FSt.cell {w : World} {K m n : Nat} {fd : zaa -> Option Nat} (h : FSt w K m n fd) : w.cell? ⟨K, 0, none⟩ = some (.map (some m)) := (zab h.c 0).trans rfl
theorem FSt.put {w : World} {K m n : Nat} {fd : zaa -> Option Nat} (h : FSt w K m n fd) (hn : n < maxLen) (k : ByteArray) (hs : k.size <= maxLen) (v : Nat) :
 ∃ w', (Instr.mapUpdate 162 (.map (some m)) (.string k) (.int .i64 (v : Int))).run Tryz.prog w = .ok () w' /\ FSt w' K m (n + 1) (setG fd k.data.toList v) /\ w.grownBy w' (some m) := by
 obtain ⟨w', hrun, he, hg⟩ := h.e.put hn k hs v; exact ⟨w', hrun, ⟨zaT h.c hg (by intro e; injection e with e; exact h.e.ne_cells h.c e.symm), he⟩, hg⟩

section
variable {P : Program} {kt et t : TypeId} {w : World} {b n : Nat} {f : zaa -> Option Value} {ops : Array Oper} {rest : List Oper} {o : Oper} {a : Act} {Q : Exit -> Act -> World -> Prop}
theorem zjY (hg : o.guard = none) (m : Operand) (hop : o.op = Op.range t m) (hk : P.underlying kt = some .string) (ht : P.underlying t = some (.map kt et)) (hm : a.eval m = .map (some b)) (h : MapIs P kt w b n f)
 (hK : ∀ w' cnt, RangesIs P kt w' b w.heap.size n f (fun k => (f k).isSome) cnt -> cnt <= n -> w.grownBy w' none -> w'.heap.size = w.heap.size + 1 -> wpList P ops Q rest (a.put o.dst (.pointer (some ⟨w.heap.size, 0, none⟩))) w') :
 wpList P ops Q (o :: rest) a w := by
 refine wpList_plain hg fun K' hK' => ?_
 obtain ⟨w', cnt, hrun, r1, r0, r2, r3⟩ := h.range hk ht; unfold Oper.wp; simp [execOp, hop, hm, hrun, Result.andThen]
 exact hK' _ _ (hK w' cnt r1 r0 r2 r3)
theorem zmV (hg : o.guard = none) (it : Operand) (hop : o.op = Op.next it false) (hk : P.underlying kt = some .string) {r cnt : Nat} {left : zaa -> Bool} (hit : a.eval it = .pointer (some ⟨r, 0, none⟩)) (h : RangesIs P kt w b r n f left cnt)
 (hDone : cnt = 0 -> (∀ k, left k = false) -> wpList P ops Q rest (a.put o.dst (.tuple #[.bool false])) w)
 (hMore : ∀ (k : ByteArray) (v : Value) (w' : World) (cnt' : Nat), k.size <= maxLen -> left k.data.toList = true -> f k.data.toList = some v -> RangesIs P kt w' b r n f (fun x => left x && !(x == k.data.toList)) cnt' -> cnt' < cnt -> w.grownBy w' (some r) -> w'.heap.size = w.heap.size ->
  (Instr.entry (.pointer (some ⟨r, 0, none⟩))).run P w' = .ok (.tuple #[.string k, v]) w' -> wpList P ops Q rest (a.put o.dst (.tuple #[.bool true, .string k, v])) w') :
 wpList P ops Q (o :: rest) a w := by
 refine wpList_plain hg fun K' hK' => ?_
 unfold Oper.wp; rcases h.next hk o.type with ⟨h0, hl, hrun⟩ | ⟨k, v, w', cnt', hks, hlk, hf, hrun, hrg, hlt, hgr, hsz, hen⟩
 . simp [execOp, hop, hit, hrun, Result.andThen]
   exact hK' _ _ (hDone h0 hl)
 . simp [execOp, hop, hit, hrun, Result.andThen]
   exact hK' _ _ (hMore k v w' cnt' hks hlk hf hrg hlt hgr hsz hen)
end

theorem zlB : ∀ args w, (callFunc 137 args).run Tryz.prog w = .ok (.enter 137 args) w := Go.Proofs.enters_of Tryz.func137 (by kernel_rfl) rfl
theorem znk (K m n J k : Nat) (fd : zaa -> Option Nat) (x : ByteArray) (w : World) (h : FSt w K m n fd) (hJ : w.cell? ⟨J, 0, none⟩ = some (.int .i64 (k : Int))) (hx : x.size <= maxLen) :
 Calls Tryz.prog 137 #[.string x, .pointer (some ⟨K, 0, none⟩), .pointer (some ⟨J, 0, none⟩)] w fun e w' => e = .returned (.bool (fd x.data.toList == some k)) /\ w = w' := by
 have hl := h.e.look2 x hx; have hc := h.cell; clear h; generalize fd x.data.toList = q at hl |-; go_enter Tryz.func137, Tryz.ntmps137
 cases q with
 | none =>
  simp only [zqY, zqh] at hl; go_wp2_with fail; go_ret
  exact ⟨rfl, rfl⟩
 | some d =>
  simp only [zqk, zqZ] at hl; by_cases hd : d = k
  . subst hd
    go_wp2_with fail; go_ret
    exact ⟨by simp, rfl⟩
  . have hdz : ¬ (d : Int) = (k : Int) := by omega
    go_wp2_with fail; go_ret
    have e1 : ((d : Int) == (k : Int)) = false := by simpa using hdz
    have e2 : (d == k) = false := by simpa using hd
    exact ⟨by simp [e1, e2], rfl⟩

theorem zlR (g : Nat) (lb : Array Value) (eg : ∀ args w, (callFunc g args).run Tryz.prog w = .ok (.enter g args) w) (p : ByteArray -> Bool) (A : Option Addr) (c : Nat) (l : List ByteArray) (w : World) (hl0 : l.length <= 9223372036854775807)
 (hr : Kd.C Kd.string w A l.length l) (hp : ∀ (W : World), Below w.heap.size w W -> ∀ x ∈ l, Calls Tryz.prog g (#[.string x] ++ lb) W fun e w' => e = .returned (.bool (p x)) /\ Below W.heap.size W w') :
 Calls Tryz.prog 76 #[.slice A l.length c, .func (.func g) #[] lb] w fun e w' => ((l.any p = false /\ e = .returned (.int .i64 (-1))) \/ ∃ (i : Nat) (h : i < l.length), e = .returned (.int .i64 i) /\ l.find? p = some l[i]) /\ Below w.heap.size w w' := by
 have hlen : l.length <= 9223372036854775807 := hr.2.1; have HP := zpq hp; have HR := zpq hr; clear hp hr; go_enter Tryz.func76, Tryz.ntmps76
 go_wp2_with fail; go_loopg [5, 8] l.length (fun gg _ s8 wr => ∃ kk : Nat, kk <= l.length /\ l.length - kk <= gg /\ s8 = .int .i64 kk /\ Aside0 (Below w.heap.size w wr) /\ Aside0 ((l.take kk).any p = false))
 case atStart => exact ⟨0, zqf _, by omega, rfl, ⟨zpt _ _⟩, ⟨rfl⟩⟩
 case round =>
  obtain ⟨kk, hkk, hgk, rfl, HB, HA⟩ := hrel; by_cases hlt : kk < l.length
  . have hltz : (kk : Int) < (l.length : Int) := by omega
    obtain ⟨b, o, rfl, p0⟩ := zbi (Kd.C_below HR.out HB.out) kk hlt; have hS : (l.take (kk + 1)).any p = ((l.take kk).any p || p l[kk]) := by rw [zpW hlt, List.any_append]; simp
    rw [HA.out, Bool.false_or] at hS; have hfind : p l[kk] = true -> l.find? p = some l[kk] := fun h => by
     have e : l = l.take kk ++ (l[kk] :: l.drop (kk + 1)) := by rw [<- List.drop_eq_getElem_cons hlt, zqX]
     have h0 : (l.take kk).find? p = none := by
      rw [zqV]; intro x hx hpx; have := HA.out; rw [zq2] at this; exact this x hx hpx
     have e2 : l.find? p = (l.take kk ++ (l[kk] :: l.drop (kk + 1))).find? p := congrArg (List.find? p) e; rw [e2, List.find?_append, h0, List.find?_cons, h]; rfl
    have hcall := HP.out wr HB.out l[kk] (zqD hlt); have HS := zpq hS; have HFi := zpq hfind; generalize hpk : p l[kk] = q at hcall HS HFi; generalize hxk : l[kk] = x at p0 hcall; clear hS hfind hpk; cases q with
    | true =>
     have HFi2 := zpq (HFi.out rfl); have HX2 := zpq hxk; clear hxk; go_wp2_with (first | (go_at_fn g; refine hcall.mono ?_; rintro e w2 ⟨rfl, hb2⟩; have HB2 := zpq (zad HB.out HB.out.size hb2); clear hb2))
     go_ret
     exact ⟨.inr ⟨kk, hlt, rfl, HFi2.out⟩, HB2.out⟩
    | false =>
     clear hxk; go_wp2_with (first | (go_at_fn g; refine hcall.mono ?_; rintro e w2 ⟨rfl, hb2⟩; have HB2 := zpq (zad HB.out HB.out.size hb2); clear hb2))
     go_roundg (l.length - (kk + 1))
     case measure => omega
     case rel => exact ⟨kk + 1, by omega, by omega, by first | rfl | go_num, ⟨HB2.out⟩, ⟨HS.out⟩⟩
  . have hltz : ¬ (kk : Int) < (l.length : Int) := by omega
    obtain rfl : kk = l.length := by omega
    have hA := HA.out; rw [zqa] at hA; have HA2 := zpq hA; clear hA; go_wp2_with fail; go_ret
    exact ⟨.inl ⟨by first | exact HA2.out | (intro x hx; simpa using zq2.1 HA2.out x hx), rfl⟩, HB.out⟩

def zaW (g : zaa -> Option (List ByteArray)) : zaa -> List zaa := fun x => zac ((g x).getD [])
def zdF (b : Option Nat) : Int := match b with
 | none => -1
 | some k => k
def zfl (o : Option (List zaa)) (w : World) (e : Ending) (w' : World) : Prop := ∃ v, e = .returned v /\ (match o with
 | none => v = .slice none 0 0
 | some l => ∃ r, zac r = l /\ RS w' w.heap.size v r) /\ Below w.heap.size w w'
structure NeedsAt (w : World) (b n : Nat) (g : zaa -> Option (List ByteArray)) (nodes : List zaa) (f : zaa -> Option Value) : Prop where
 m : MapIs Tryz.prog 9 w b n f
 same : ∀ k, (f k).isSome = (g k).isSome
 row : ∀ k v l, f k = some v -> g k = some l -> zhR w v l
 inN : ∀ k l, g k = some l -> k ∈ nodes /\ l.length <= 2000 /\ ∀ y ∈ l, y.size <= maxLen
 few : nodes.length <= 1000
theorem NeedsAt.get {w : World} {b n : Nat} {g : zaa -> Option (List ByteArray)} {nodes : List zaa} {f : zaa -> Option Value} (h : NeedsAt w b n g nodes f) {k : zaa} {v : Value} (hv : f k = some v) : ∃ l A c, g k = some l /\ v = .slice A l.length c /\ Kd.C Kd.string w A l.length l /\ k ∈ nodes /\ l.length <= 2000 /\ ∀ y ∈ l, y.size <= maxLen := by
 have := h.same k; rw [hv] at this; cases hg : g k with
 | none => rw [hg] at this; cases this
 | some l =>
  obtain ⟨A, c, e, hC⟩ := h.row k v l hv hg; obtain ⟨i1, i2, i3⟩ := h.inN k l hg; exact ⟨l, A, c, rfl, e, hC, i1, i2, i3⟩
theorem NeedsAt.getG {w : World} {b n : Nat} {g : zaa -> Option (List ByteArray)} {nodes : List zaa} {f : zaa -> Option Value} (h : NeedsAt w b n g nodes f) {k : zaa} {l : List ByteArray} (hv : g k = some l) : ∃ A c, f k = some (.slice A l.length c) /\ Kd.C Kd.string w A l.length l := by
 have := h.same k; rw [hv] at this; cases hf : f k with
 | none => rw [hf] at this; cases this
 | some v =>
  obtain ⟨A, c, e, hC⟩ := h.row k v l hf hv; exact ⟨A, c, by rw [e], hC⟩
structure BSt (g : zaa -> Option (List ByteArray)) (nodes : List zaa) (t : zaa) (w : World) (K m : Nat) (fd : zaa -> Option Nat) (w0 : World) : Prop where
 inv : FarInv (zaW g) nodes t fd
 st : ∃ n, FSt w K m n fd /\ n + phiN nodes fd <= 1000001
 b : Below w0.heap.size w0 w
theorem BSt.below {g : zaa -> Option (List ByteArray)} {nodes : List zaa} {t : zaa} {w w' : World} {K m : Nat} {fd : zaa -> Option Nat} {w0 : World} (h : BSt g nodes t w K m fd w0) (hb : Below w.heap.size w w') : BSt g nodes t w' K m fd w0 := by
 obtain ⟨n, hs, hn⟩ := h.st; exact ⟨h.inv, ⟨n, hs.below hb, hn⟩, zad h.b h.b.size hb⟩
theorem BSt.grown {g : zaa -> Option (List ByteArray)} {nodes : List zaa} {t : zaa} {w w' : World} {K m r : Nat} {fd : zaa -> Option Nat} {w0 : World} (h : BSt g nodes t w K m fd w0) (hg : w.grownBy w' (some r)) (h1 : K ≠ r) (h2 : m ≠ r) (h3 : w0.heap.size <= r) : BSt g nodes t w' K m fd w0 := by
 obtain ⟨n, hs, hn⟩ := h.st; exact ⟨h.inv, ⟨n, hs.grown hg (by intro e; injection e with e; exact h1 e) (by intro e; injection e with e; exact h2 e), hn⟩, h.b.grown hg h.b.size (fun k hk => by cases hk; exact h3)⟩
theorem BSt.put {g : zaa -> Option (List ByteArray)} {nodes : List zaa} {t y : zaa} {w : World} {K m d : Nat} {fd : zaa -> Option Nat} {w0 : World} (h : BSt g nodes t w K m fd w0) (hm : w0.heap.size <= m) (x : ByteArray) (hs : x.size <= maxLen) (hx : x.data.toList ∈ nodes) (hy : y ∈ zaW g x.data.toList) (hd : fd y = some d) (hn : ∀ e, fd x.data.toList = some e -> d + 1 < e) :
 ∃ w', (Instr.mapUpdate 162 (.map (some m)) (.string x) (.int .i64 ((d : Int) + 1))).run Tryz.prog w = .ok () w' /\ BSt g nodes t w' K m (setG fd x.data.toList (d + 1)) w0 /\ phiN nodes (setG fd x.data.toList (d + 1)) < phiN nodes fd /\ w.grownBy w' (some m) := by
 obtain ⟨n, hst, hsn⟩ := h.st; obtain ⟨hi, hphi⟩ := h.inv.put hx hy hd hn; obtain ⟨w', hrun, hst', hg⟩ := hst.put (by unfold maxLen; omega) x hs (d + 1)
 exact ⟨w', hrun, ⟨hi, ⟨n + 1, hst', by omega⟩, h.b.grown hg h.b.size (fun k hk => by cases hk; exact hm)⟩, hphi, hg⟩
theorem BSt.grownL {g : zaa -> Option (List ByteArray)} {nodes : List zaa} {t : zaa} {w w' : World} {K m L : Nat} {row : Option Nat} {fd : zaa -> Option Nat} {w0 : World} (h : BSt g nodes t w K m fd w0) (hg : w.grownBy w' row) (hr : ∀ k, row = some k -> L <= k) (h1 : K < L) (h2 : m < L) (h3 : w0.heap.size <= L) : BSt g nodes t w' K m fd w0 := by
 obtain ⟨n, hs, hn⟩ := h.st; exact ⟨h.inv, ⟨n, hs.grown hg (fun e => by have := hr K e.symm; omega) (fun e => by have := hr m e.symm; omega), hn⟩, h.b.grown hg h.b.size (fun k hk => by have := hr k hk; omega)⟩
def JAt (w : World) (J : Nat) (v : Int) : Prop := w.heap[J]? = some (.cells #[.int .i64 v] 3 (0, 0))
theorem BSt.set {g : zaa -> Option (List ByteArray)} {nodes : List zaa} {t : zaa} {w : World} {K m J : Nat} {v : Int} {fd : zaa -> Option Nat} {w0 : World} (h : BSt g nodes t w K m fd w0) (hJ : JAt w J v) (hne : K < J) (h3 : w0.heap.size <= J) (u : Value) : BSt g nodes t (w.setCell ⟨J, 0, none⟩ u) K m fd w0 := by
 obtain ⟨n, ⟨hc, f, hM, hf⟩, hn⟩ := h.st; exact ⟨h.inv, ⟨n, ⟨zaS hc (p := ⟨J, 0, none⟩) (show K ≠ J by omega) u, f, hM.kept (Below.heap_setCell w ⟨J, 0, none⟩ u m (hM.ne_cells hJ)), hf⟩, hn⟩, h.b.setCell (p := ⟨J, 0, none⟩) h3 u⟩
theorem JAt.set {w : World} {J : Nat} {v : Int} (h : JAt w J v) (v' : Int) : JAt (w.setCell ⟨J, 0, none⟩ (.int .i64 v')) J v' := zat h 0 _ rfl
theorem JAt.cell {w : World} {J : Nat} {v : Int} (h : JAt w J v) : w.cell? ⟨J, 0, none⟩ = some (.int .i64 v) := (zab h 0).trans rfl
theorem zoU (far : zaa -> Option Nat) (l : List zaa) (y : zaa) : zbM far (l ++ [y]) = zbD (zbM far l) (far y) := by
 unfold zbM; rw [List.foldl_append]; rfl
theorem NeedsAt.look {w W : World} {b n : Nat} {g : zaa -> Option (List ByteArray)} {nodes : List zaa} {f : zaa -> Option Value} (h : NeedsAt w b n g nodes f) (hB : Below w.heap.size w W) (k : ByteArray) (hs : k.size <= maxLen) {v : Value} (hf : f k.data.toList = some v) :
 (Instr.lookup 125 (.map (some b)) (.string k) false).run Tryz.prog W = .ok v W := by
 rw [(h.m.below hB).look Tryz.underlying9 Tryz.underlying125 (Tryz.zeroValue22 W) k hs, hf]; rfl
def ClosedTo (fd : zaa -> Option Nat) (x : zaa) (l : List zaa) : Prop := ∀ y ∈ l, ∀ d, fd y = some d -> ∃ e, fd x = some e /\ e <= d + 1
theorem ClosedTo.snoc {fd : zaa -> Option Nat} {x y : zaa} {l : List zaa} (h : ClosedTo fd x l) (hy : ∀ d, fd y = some d -> ∃ e, fd x = some e /\ e <= d + 1) : ClosedTo fd x (l ++ [y]) := by
 intro z hz; rcases zqW.1 hz with hz | hz
 . exact h z hz
 . rw [zqR.1 hz]
   exact hy
theorem zjc (l : List ByteArray) (j : Nat) (h : j < l.length) : zac (l.take (j + 1)) = zac (l.take j) ++ [l[j].data.toList] := by
 rw [zpW h]; unfold zac; rw [zqj]; rfl
theorem zlU (b n : Nat) (g : zaa -> Option (List ByteArray)) (nodes : List zaa) (f : zaa -> Option Value) (t : ByteArray) (w : World) (hA : NeedsAt w b n g nodes f) (ht : (g t.data.toList).isSome = true) (hts : t.size <= maxLen) :
 Calls Tryz.prog 106 #[.map (some b), .string t] w fun e w' => ∃ far, IsFar (zaW g) t.data.toList far /\ zfl (wayF (zaW g) far t.data.toList) w e w' := by
 obtain ⟨l0, hl0⟩ := Option.isSome_iff_exists.1 ht; obtain ⟨htn, h0n, h0s⟩ := hA.inN _ _ hl0; have hmm := @run_makeMap Tryz.prog; obtain ⟨w1, hrun', hI1, hg1⟩ := (IntIs.made w).put (by unfold maxLen; omega) t hts 0
 have hrun : (Instr.mapUpdate 162 (.map (some w.heap.size)) (.string t) (.int .i64 0)).run Tryz.prog (w.alloc (.map #[] 0)) = .ok () w1 := hrun'; have hB1 := ((zpt w.heap.size w).alloc (zpu _) (.map #[] 0)).grown hg1 ((zpt w.heap.size w).alloc (zpu _) (.map #[] 0)).size (fun k hk => by cases hk; exact zpu _)
 have hlt1 : w.heap.size < w1.heap.size := hI1.lt; have HB2 := zpq (hB1.alloc hB1.size (.cells #[.map (some w.heap.size)] 162)); have hb2 := (zpt w1.heap.size w1).alloc (zpu _) (.cells #[.map (some w.heap.size)] 162); have HF2 : Hid (FSt (w1.alloc (.cells #[.map (some w.heap.size)] 162)) w1.heap.size w.heap.size 1 (setG (fun _ => none) t.data.toList 0)) := zpq ⟨zal w1 _, hI1.below hb2⟩
 have HI := zpq (FarInv.init (zaW g) htn); have HA := zpq hA; have HTS := zpq hts; have HBm := zpq hA.m.lt; have H00 := zpq hl0; have H0s := zpq h0s; have HP0 : Hid (1 + phiN nodes (setG (fun _ => none) t.data.toList 0) <= 1000001) := zpq (by
  have h1 := HI.out.phi; have h2 : nodes.length * nodes.length <= 1000 * 1000 := Nat.mul_le_mul hA.few hA.few; omega)
 clear hrun' hI1 hg1 hB1 hb2 hA hts hl0 h0s ht htn; go_enter Tryz.func106, Tryz.ntmps106
 go_upto_region 2 with fail; generalize hK : w1.heap.size = K at hlt1 HF2 |-; generalize w1.alloc (.cells #[.map (some w.heap.size)] 162) = w2 at HB2 HF2 |-; clear hK hrun; go_wp2_with fail; go_loopg [6, 7, 8, 10, 11, 12, 13, 14] (phiN nodes (setG (fun _ => none) t.data.toList 0) + 1) (fun gg s6 _ _ _ _ _ _ _ wr => ∃ fd td, s6 = .bool td /\ (td = true -> phiN nodes fd + 1 <= gg) /\ Aside0 (BSt g nodes t.data.toList wr K w.heap.size fd w) /\ Aside0 (td = false -> ∀ x, zcX (zaW g) fd x))
 case atStart => exact ⟨_, true, rfl, fun _ => zpu _, ⟨⟨HI.out, ⟨1, HF2.out, HP0.out⟩, HB2.out⟩⟩, ⟨fun h => by cases h⟩⟩
 case round =>
  obtain ⟨fd, td, rfl, hgk, HS, HC⟩ := hrel; obtain ⟨wq, rfl⟩ : ∃ wq, wq = wr := ⟨wr, rfl⟩; cases td with
  | true =>
   have hgk := hgk rfl; have HMb := zpq (HA.out.m.below HS.out.b); have HKq : Hid (K < wq.heap.size) := by obtain ⟨_, h, _⟩ := HS.out.st; exact zpq (zaQ h.c)
   clear hmm; go_wp2_with (first | (at_range; refine zjY rfl _ rfl Tryz.underlying9 Tryz.underlying125 rfl HMb.out ?_; intro w3 cnt hrg hcn hg3 hs3; have HRg := zpq hrg; have HG3 := zpq hg3; clear hrg hg3))
   go_loopg [6, 7, 8, 10, 11, 12, 13, 14] cnt (fun gg s6 _ _ _ _ _ _ _ wr => ∃ fd' td left cn, cn <= gg /\ s6 = .bool td /\ phiN nodes fd' <= phiN nodes fd /\ (td = true -> phiN nodes fd' + 1 <= phiN nodes fd) /\ Aside0 (RangesIs Tryz.prog 9 wr b wq.heap.size n f left cn) /\ Aside0 (BSt g nodes t.data.toList wr K w.heap.size fd' w) /\ Aside0 (td = false -> ∀ x, left x = false -> zcX (zaW g) fd' x))
   case atStart => exact ⟨fd, false, _, cnt, zpu _, rfl, zpu _, (fun h => by cases h), ⟨HRg.out⟩, ⟨HS.out.below ((zpt wq.heap.size wq).grown HG3.out (zpu _) (fun k hk => by cases hk))⟩, ⟨fun _ x hx y hy => by
    exfalso
    have h1 := HA.out.same x; cases hgx : g x with
    | none => unfold zaW at hy; rw [hgx] at hy; exact absurd hy (by simp [zac])
    | some l => rw [hgx, hx] at h1; cases h1⟩⟩
   case round =>
    obtain ⟨fd2, td2, left, cn, hcn2, rfl, hph, hpt, HR, HS2, HC2⟩ := hrel; obtain ⟨wp, rfl⟩ : ∃ wp, wp = wr := ⟨wr, rfl⟩; go_wp2_with (first | (at_next; refine zmV rfl _ rfl Tryz.underlying9 rfl HR.out ?_ ?_ <;> first | (intro hc0 hl0; have HL0 : Hid (∀ k, left k = false) := zpq hl0; clear hl0) | (intro kx vx w4 cn4 hks hlk hfv hrg4 hlt4 hg4 hs4 hen; obtain ⟨l, A, c, hgl, rfl, hC, hxn, hln, hls⟩ := HA.out.get hfv; have HR4 := zpq hrg4; have HG4 := zpq hg4; have HC4 := zpq hC; have HXn := zpq hxn; have HLs := zpq hls; have HGl := zpq hgl; have HLk := zpq hlk; clear hlk hfv hrg4 hg4 hC hxn hls hgl)))
    . go_roundg (if td2 = true then phiN nodes fd2 + 1 else 0)
      case measure => cases td2 with
       | true => have := hpt rfl; simp; omega
       | false => simp; omega
      case rel => exact ⟨fd2, td2, rfl, (fun h => by rw [h, if_pos rfl]; exact zpu _), ⟨HS2.out⟩, ⟨fun h x => HC2.out h x (HL0.out x)⟩⟩
    . have HS4 := zpq (HS2.out.grown HG4.out (by have := HKq.out; omega) (by have := HKq.out; omega) (by have := HKq.out; omega))
      have HC40 := zpq (Kd.C_below HC4.out HS4.out.b); clear HS2 HR; go_wp2_with fail; go_loopg [6, 10, 11, 12, 13, 14, 36] l.length (fun gg s6 _ _ _ _ _ s36 wi => ∃ (j : Nat) (fd3 : zaa -> Option Nat) (td3 : Bool), j <= l.length /\ l.length - j <= gg /\ s36 = .int .i64 j /\ s6 = .bool td3 /\ phiN nodes fd3 <= phiN nodes fd /\ (td3 = true -> phiN nodes fd3 + 1 <= phiN nodes fd) /\ Aside0 (RangesIs Tryz.prog 9 wi b wq.heap.size n f (fun x => left x && !x == kx.data.toList) cn4) /\ Aside0 (BSt g nodes t.data.toList wi K w.heap.size fd3 w) /\ Aside0 (td3 = false -> (∀ x, left x = false -> zcX (zaW g) fd3 x) /\ ClosedTo fd3 kx.data.toList (zac (l.take j))))
      case atStart => exact ⟨0, fd2, td2, zqf _, by omega, rfl, rfl, hph, hpt, ⟨HR4.out⟩, ⟨HS4.out⟩, ⟨fun h => ⟨HC2.out h, fun y hy => by cases hy⟩⟩⟩
      case round =>
       obtain ⟨j, fd3, td3, hj, hgj, rfl, rfl, hph3, hpt3, HRi, HSi, HCi⟩ := hrel; by_cases hlj : j < l.length
       . have hljz : (j : Int) < (l.length : Int) := by omega
         obtain ⟨b5, o5, rfl, n0⟩ := zbi (Kd.C_below HC4.out HSi.out.b) j hlj; obtain ⟨n5, hst5, hn5⟩ := HSi.out.st; have hcell := hst5.cell; have hly := hst5.e.look2 l[j] (HLs.out _ (zqD hlj)); have hlx := hst5.e.look2 kx hks; have HSn := zpq (zjc l j hlj); have HGx : Hid (zaW g kx.data.toList = zac l) := zpq (by unfold zaW; rw [HGl.out]; rfl)
         have HMy : Hid (l[j].data.toList ∈ zaW g kx.data.toList) := zpq (by rw [HGx.out, <- zcd l j hlj]; exact zqD _)
         have HTo : Hid ((∀ d, fd3 l[j].data.toList = some d -> ∃ e, fd3 kx.data.toList = some e /\ e <= d + 1) -> td3 = false -> (∀ x, left x = false -> zcX (zaW g) fd3 x) /\ ClosedTo fd3 kx.data.toList (zac (l.take (j + 1)))) := zpq (fun h htd => ⟨(HCi.out htd).1, by rw [HSn.out]; exact (HCi.out htd).2.snoc h⟩)
         have hew : @Below w.heap.size w wr := HSi.out.b; clear hst5 hn5; generalize hyy : l[j] = y at n0 hly HMy HTo; clear hyy; cases hfy : fd3 y.data.toList with
         | none =>
          have HTo2 := zpq (HTo.out (fun d h => by rw [hfy] at h; cases h))
          rw [hfy] at hly; simp only [zqY, zqh] at hly; generalize (fd3 kx.data.toList).getD 0 = dx at hlx; generalize (fd3 kx.data.toList).isSome = ix at hlx; clear hfy HTo; go_wp2_with fail; go_roundg (l.length - (j + 1))
          case measure => omega
          case rel => exact ⟨j + 1, fd3, td3, by omega, by omega, by first | rfl | go_num, rfl, hph3, hpt3, ⟨HRi.out⟩, ⟨HSi.out⟩, ⟨HTo2.out⟩⟩
         | some d =>
          have hdl := HSi.out.inv.lt hfy; have hfew := HA.out.few; have hd1 : d <= 1000 := by omega
          rw [hfy] at hly; simp only [zqk, zqZ] at hly; cases hfx : fd3 kx.data.toList with
          | none =>
           obtain ⟨w6, hrun, hS6, hph6, hg6⟩ := HSi.out.put (zpu _) kx hks HXn.out HMy.out hfy (fun e he => by rw [hfx] at he; cases he)
           rw [hfx] at hlx; simp only [zqY, zqh] at hlx; have hne := HKq.out; have HR6 := zpq (HRi.out.kept hg6 (by have := HBm.out; intro e; injection e with e; omega) (by intro e; injection e with e; omega))
           have HS6 := zpq hS6; have hph6' : phiN nodes (setG fd3 kx.data.toList (d + 1)) + 1 <= phiN nodes fd := by omega
           have HP6 := zpq hph6'; clear hfx hfy hS6 hg6 hph6 hph6' hne; go_wp2_with fail; go_roundg (l.length - (j + 1))
           case measure => omega
           case rel => exact ⟨j + 1, _, true, by omega, by omega, by first | rfl | go_num, rfl, by have := HP6.out; omega, fun _ => HP6.out, ⟨HR6.out⟩, ⟨HS6.out⟩, ⟨fun h => by cases h⟩⟩
          | some e =>
           have hel := HSi.out.inv.lt hfx; have he1 : e <= 1000 := by omega
           rw [hfx] at hlx; simp only [zqk, zqZ] at hlx; by_cases hde : d + 1 < e
           . have hdez : (d : Int) + 1 < (e : Int) := by omega
             obtain ⟨w6, hrun, hS6, hph6, hg6⟩ := HSi.out.put (zpu _) kx hks HXn.out HMy.out hfy (fun e2 he => by rw [hfx] at he; cases he; exact hde)
             have hne := HKq.out; have HR6 := zpq (HRi.out.kept hg6 (by have := HBm.out; intro e; injection e with e; omega) (by intro e; injection e with e; omega))
             have HS6 := zpq hS6; have hph6' : phiN nodes (setG fd3 kx.data.toList (d + 1)) + 1 <= phiN nodes fd := by omega
             have HP6 := zpq hph6'; clear hfx hfy hS6 hg6 hph6 hph6' hne; go_wp2_with fail; go_roundg (l.length - (j + 1))
             case measure => omega
             case rel => exact ⟨j + 1, _, true, by omega, by omega, by first | rfl | go_num, rfl, by have := HP6.out; omega, fun _ => HP6.out, ⟨HR6.out⟩, ⟨HS6.out⟩, ⟨fun h => by cases h⟩⟩
           . have hdez : ¬ (d : Int) + 1 < (e : Int) := by omega
             have HTo2 := zpq (HTo.out (fun d2 h => by rw [hfy] at h; cases h; exact ⟨e, hfx, by omega⟩))
             clear hfx hfy HTo; go_wp2_with fail; go_roundg (l.length - (j + 1))
             case measure => omega
             case rel => exact ⟨j + 1, fd3, td3, by omega, by omega, by first | rfl | go_num, rfl, hph3, hpt3, ⟨HRi.out⟩, ⟨HSi.out⟩, ⟨HTo2.out⟩⟩
       . have hljz : ¬ (j : Int) < (l.length : Int) := by omega
         obtain rfl : j = l.length := by omega
         have HCx : Hid (td3 = false -> ∀ x, (left x && !x == kx.data.toList) = false -> zcX (zaW g) fd3 x) := zpq (fun htd x hx => by
          obtain ⟨h1, h2⟩ := HCi.out htd; rw [zqa] at h2; by_cases hxk : x = kx.data.toList
          . rw [hxk]
            unfold zcX zaW; rw [HGl.out]; exact h2
          . exact h1 x (by simpa [hxk] using hx))
         go_wp2_with fail; go_roundg cn4
         case measure => omega
         case rel => exact ⟨fd3, td3, _, cn4, zpu _, rfl, hph3, hpt3, ⟨HRi.out⟩, ⟨HSi.out⟩, ⟨HCx.out⟩⟩
  | false =>
   obtain ⟨A0, c0, hf0, hC0⟩ := HA.out.getG H00.out; have HFar := zpq (HS.out.inv.is (HC.out rfl)); have HC00 := zpq hC0; have hlen0 : l0.length <= 2000 := h0n; have hKq : K < wq.heap.size := by obtain ⟨_, h, _⟩ := HS.out.st; exact zaQ h.c
   have hb4 := (zpt wq.heap.size wq).alloc (zpu _) (.cells #[.int .i64 (-1)] 3); have HS4 := zpq (HS.out.below hb4); have HJ4 : Hid (JAt (wq.alloc (.cells #[.int .i64 (-1)] 3)) wq.heap.size (-1)) := zpq (zal wq _); have hlk := HA.out.look HS4.out.b t HTS.out hf0; have hsq := HS.out.b.size; clear hC0 hb4 hmm; go_upto_region 18 with fail; generalize hJ : wq.heap.size = J at HJ4 hKq hsq |-; generalize wq.alloc (.cells #[.int .i64 (-1)] 3) = w4 at HS4 HJ4 hlk |-; clear hJ; go_wp2_with fail; go_loopg [17, 18, 19, 72] l0.length (fun gg _ _ _ s72 wi => ∃ j : Nat, j <= l0.length /\ l0.length - j <= gg /\ s72 = .int .i64 j /\ Aside0 (BSt g nodes t.data.toList wi K w.heap.size fd w) /\ Aside0 (JAt wi J (zdF (zbM fd (zac (l0.take j))))))
   case atStart => exact ⟨0, zqf _, by omega, rfl, ⟨HS4.out⟩, ⟨HJ4.out⟩⟩
   case round =>
    obtain ⟨j, hj, hgj, rfl, HSi, HJi⟩ := hrel; by_cases hlj : j < l0.length
    . have hljz : (j : Int) < (l0.length : Int) := by omega
      obtain ⟨b5, o5, rfl, n0⟩ := zbi (Kd.C_below HC00.out HSi.out.b) j hlj; obtain ⟨n5, hst5, hn5⟩ := HSi.out.st; have hcell := hst5.cell; have hly := hst5.e.look2 l0[j] (H0s.out _ (zqD hlj)); have hsn := zoU fd (zac (l0.take j)) l0[j].data.toList; rw [<- zjc l0 j hlj] at hsn; have HSn := zpq hsn; have hjc := HJi.out.cell; have hjf := zai HJi.out 0; clear hst5 hn5 hsn; generalize zbM fd (zac (l0.take j)) = bo at HSn hjc HJi; generalize l0[j] = y at n0 hly HSn; cases hfy : fd y.data.toList with
      | none =>
       rw [hfy] at hly HSn; simp only [zqY, zqh] at hly; have HJn : Hid (JAt wr J (zdF (zbM fd (zac (l0.take (j + 1)))))) := zpq (by rw [HSn.out]; cases bo <;> exact HJi.out)
       generalize zdF bo = bi at hjc; clear hfy; go_wp2_with fail; go_roundg (l0.length - (j + 1))
       case measure => omega
       case rel => exact ⟨j + 1, by omega, by omega, by first | rfl | go_num, ⟨HSi.out⟩, ⟨HJn.out⟩⟩
      | some d =>
       have hdl := HSi.out.inv.lt hfy; have hfew := HA.out.few; have hd1 : d <= 1000 := by omega
       rw [hfy] at hly HSn; simp only [zqk, zqZ] at hly; clear hfy; cases bo with
       | none =>
        replace hjc : wr.cell? ⟨J, 0, none⟩ = some (.int .i64 (-1)) := hjc
        have HSx := zpq (HSi.out.set HJi.out hKq hsq (.int .i64 (d : Int))); have HJx : Hid (JAt (wr.setCell ⟨J, 0, none⟩ (.int .i64 (d : Int))) J (zdF (zbM fd (zac (l0.take (j + 1)))))) := zpq (by have h := HJi.out.set (d : Int); rw [HSn.out]; exact h)
        go_wp2_with fail; generalize wr.setCell ⟨J, 0, none⟩ (.int .i64 (d : Int)) = w6 at HSx HJx |-; go_roundg (l0.length - (j + 1))
        case measure => omega
        case rel => exact ⟨j + 1, by omega, by omega, by first | rfl | go_num, ⟨HSx.out⟩, ⟨HJx.out⟩⟩
       | some e =>
        replace hjc : wr.cell? ⟨J, 0, none⟩ = some (.int .i64 (e : Int)) := hjc
        have he0 : ¬ (e : Int) < 0 := by omega
        by_cases hde : d < e
        . have hdez : (d : Int) < (e : Int) := by omega
          have hbo : zbD (some e) (some d) = some d := by unfold zbD; dsimp only; rw [if_pos hde]
          rw [hbo] at HSn; clear hbo; have HSx := zpq (HSi.out.set HJi.out hKq hsq (.int .i64 (d : Int))); have HJx : Hid (JAt (wr.setCell ⟨J, 0, none⟩ (.int .i64 (d : Int))) J (zdF (zbM fd (zac (l0.take (j + 1)))))) := zpq (by have h := HJi.out.set (d : Int); rw [HSn.out]; exact h)
          go_wp2_with fail; generalize wr.setCell ⟨J, 0, none⟩ (.int .i64 (d : Int)) = w6 at HSx HJx |-; go_roundg (l0.length - (j + 1))
          case measure => omega
          case rel => exact ⟨j + 1, by omega, by omega, by first | rfl | go_num, ⟨HSx.out⟩, ⟨HJx.out⟩⟩
        . have hdez : ¬ (d : Int) < (e : Int) := by omega
          have hbo : zbD (some e) (some d) = some e := by unfold zbD; dsimp only; rw [if_neg hde]
          rw [hbo] at HSn; have HJn : Hid (JAt wr J (zdF (zbM fd (zac (l0.take (j + 1)))))) := zpq (by rw [HSn.out]; exact HJi.out)
          clear hbo; go_wp2_with fail; go_roundg (l0.length - (j + 1))
          case measure => omega
          case rel => exact ⟨j + 1, by omega, by omega, by first | rfl | go_num, ⟨HSi.out⟩, ⟨HJn.out⟩⟩
    . have hljz : ¬ (j : Int) < (l0.length : Int) := by omega
      obtain rfl : j = l0.length := by omega
      have hJi := HJi.out; rw [zqa] at hJi; have HBo : Hid (zbM fd (zaW g t.data.toList) = zbM fd (zac l0)) := zpq (by unfold zaW; rw [H00.out]; rfl)
      cases hbo : zbM fd (zac l0) with
      | none =>
       rw [hbo] at hJi HBo; have hjc : wr.cell? ⟨J, 0, none⟩ = some (.int .i64 (-1)) := hJi.cell; have HW : Hid (wayF (zaW g) fd t.data.toList = none) := zpq (by unfold wayF; rw [HBo.out])
       clear hbo; go_wp2_with fail; go_ret
       exact ⟨fd, HFar.out, _, rfl, by rw [HW.out]; rfl, HSi.out.b⟩
      | some k =>
       rw [hbo] at hJi HBo; obtain ⟨⟨yb, hyb, hkb⟩, _⟩ := zg4 hbo; have hkl := HSi.out.inv.lt hkb; have hfew := HA.out.few; have hk1 : k <= 1000 := by omega
       have hjc : wr.cell? ⟨J, 0, none⟩ = some (.int .i64 (k : Int)) := hJi.cell; have hk0 : ¬ (k : Int) < 0 := by omega
       have HW : Hid (wayF (zaW g) fd t.data.toList = some (t.data.toList :: zcl (zaW g) fd k t.data.toList)) := zpq (by unfold wayF; rw [HBo.out])
       have hb5 := (zpt wr.heap.size wr).alloc (zpu _) (.cells #[.string t] 9); have HR5 := zpq (zg5 wr wr.heap.size t (zpu _)); have HS5 := zpq (HSi.out.below hb5); have HJ5 : Hid (JAt (wr.alloc (.cells #[.string t] 9)) J k) := zpq (zah hJi hb5); have hJL : J < wr.heap.size := zaQ hJi; have hL5 := hb5.size; clear hbo hyb hkb hb5 hlk hJi; go_upto_region 28 with fail; generalize hL : wr.heap.size = L at HR5 hJL hL5 |-; generalize wr.alloc (.cells #[.string t] 9) = w5 at HR5 HS5 HJ5 hL5 |-; clear hL hjc hk0; go_wp2_with fail; go_loopg [20, 21, 22] k (fun gg s20 s21 _ wi => ∃ (kk : Nat) (y : ByteArray) (r : List ByteArray), kk <= gg /\ kk <= 1000 /\ r.length + kk <= 1001 /\ s21 = .string y /\ L <= wi.heap.size /\ Aside0 (RS wi L s20 r) /\ Aside0 (BSt g nodes t.data.toList wi K w.heap.size fd w) /\ Aside0 (JAt wi J kk) /\ Aside0 (zf8 (zaW g) fd t.data.toList kk y.data.toList) /\ Aside0 (y.size <= maxLen) /\ Aside0 (zac r ++ zcl (zaW g) fd kk y.data.toList = t.data.toList :: zcl (zaW g) fd k t.data.toList))
       case atStart => exact ⟨k, t, [t], zpu _, hk1, by simp; omega, rfl, hL5, ⟨HR5.out⟩, ⟨HS5.out⟩, ⟨HJ5.out⟩, ⟨.inl ⟨rfl, HBo.out⟩⟩, ⟨HTS.out⟩, ⟨rfl⟩⟩
       case round =>
        obtain ⟨kk, y, r, hkg, hkk, hrk, rfl, hLi, HR, HSj, HJj, HOn, HYs, HE⟩ := hrel; cases kk with
        | zero =>
         have hjc : wr.cell? ⟨J, 0, none⟩ = some (.int .i64 0) := HJj.out.cell; go_wp2_with fail; go_ret
         exact ⟨fd, HFar.out, _, rfl, by
          rw [HW.out]; refine ⟨r, ?_, Kd.R_lower HR.out (by have := HS5.out.b.size; omega)⟩
          have h := HE.out; rw [show zcl (zaW g) fd 0 y.data.toList = [] from rfl, List.append_nil] at h
          exact h, HSj.out.b⟩
        | succ kk =>
         obtain ⟨y2, hfi, hy2, hk2, hst, hon2⟩ := zmZ HFar.out HOn.out; have hgy : ∃ l, g y.data.toList = some l := by
          cases h : g y.data.toList with
          | some l => exact ⟨l, rfl⟩
          | none => unfold zaW at hy2; rw [h] at hy2; exact absurd hy2 (by simp [zac])
         obtain ⟨l, hgl⟩ := hgy; obtain ⟨A, c, hf, hC⟩ := HA.out.getG hgl; obtain ⟨_, hln, hls⟩ := HA.out.inN _ _ hgl; have hGy : zaW g y.data.toList = zac l := by unfold zaW; rw [hgl]; rfl
         have hC5 := Kd.C_below hC HSj.out.b; have hk1i : ((kk + 1 : Nat) : Int) = (kk : Int) + 1 := by omega
         have hIx := zlR 137 #[.pointer (some ⟨K, 0, none⟩), .pointer (some ⟨J, 0, none⟩)] zlB (fun x => fd x.data.toList == some (kk + 1)) A c l wr (by omega) hC5 (fun W hW x hxm => by
          obtain ⟨n6, hst6, _⟩ := (HSj.out.below hW).st; exact (znk K w.heap.size n6 J (kk + 1) fd x W hst6 (JAt.cell (zah HJj.out hW)) (hls x hxm)).mono fun e w' ⟨he, hw⟩ => ⟨he, by rw [<- hw]; exact zpt _ _⟩)
         have hfil : ∀ (i : Nat) (h : i < l.length), l.find? (fun x => fd x.data.toList == some (kk + 1)) = some l[i] -> l[i].data.toList = y2 := fun i h he => by
          have e1 : (zac l).find? (fun x => fd x == some (kk + 1)) = (l.find? (fun x => fd x.data.toList == some (kk + 1))).map fun x => x.data.toList := by
           unfold zac; rw [List.find?_map]; rfl
          rw [hGy, e1, he] at hfi; exact zp2 hfi
         have hany : l.any (fun x => fd x.data.toList == some (kk + 1)) = true := by
          rw [hGy] at hy2; unfold zac at hy2; obtain ⟨x, hx, rfl⟩ := zqN.1 hy2; exact List.any_eq_true.2 ⟨x, hx, by rw [hk2]; simp⟩
         have hlk := HA.out.look HSj.out.b y HYs.out hf; have HIx := zpq (hIx.mono (R' := fun e w' => ∃ (i : Nat) (h : i < l.length), e = .returned (.int .i64 i) /\ l.find? (fun x => fd x.data.toList == some (kk + 1)) = some l[i] /\ Below wr.heap.size wr w') (fun e w' ⟨h, hb⟩ => by
          rcases h with h | ⟨i, hi, he, hf⟩
          . rw [h.1] at hany; cases hany
          . exact ⟨i, hi, he, hf, hb⟩))
         have HFil := zpq hfil; have HOn2 := zpq hon2; have HSt := zpq hst; have HLs := zpq hls; have HC5 := zpq hC5; have HF := zpq hf; have hjc : wr.cell? ⟨J, 0, none⟩ = some (.int .i64 ((kk : Int) + 1)) := by have := HJj.out.cell; rw [hk1i] at this; exact this
         have hpos : (kk : Int) + 1 > 0 := by omega
         obtain ⟨wq, rfl⟩ : ∃ wq, wq = wr := ⟨wr, rfl⟩; clear hIx hfil hany hon2 hst hls hC5 hfi hy2 hk2 hgl hGy hC hf; go_upto_region 32 with (first | (go_at_call 76; refine HIx.out.mono ?_; rintro e w6 ⟨i, hi, rfl, hfi, hb6⟩; have HY2 := zpq (HFil.out i hi hfi); have HB6 := zpq hb6; clear hfi hb6))
         have HS6 := zpq (HSj.out.below HB6.out); have HJ6 : Hid (JAt w6 J ((kk : Int) + 1)) := zpq (by have h := zah HJj.out HB6.out; rw [hk1i] at h; exact h)
         have HR6 := zpq (Kd.R_below HR.out HB6.out); have HB6L := zpq (HB6.out.mono hLi); have HL6 : Hid (L <= w6.heap.size) := zpq (zpA hLi HB6.out.size); have hlk6 := HA.out.look HS6.out.b y HYs.out HF.out; obtain ⟨b5, o5, rfl, n0⟩ := zbi (Kd.C_below HC5.out HB6.out) i hi; have hiz : (i : Int) < (l.length : Int) := by omega
         have hxs := HLs.out _ (zqD hi); have HXs := zpq hxs; generalize l[i] = x at n0 HY2 HXs; have hKL : K < L := by omega
         have hmL : w.heap.size < L := by omega
         clear hxs hlk hjc; go_wp2_with (first | ((with_reducible refine zaG (b := .append) (xs := #[.tmp 114, .tmp 116]) rfl ?_); at_builtin; refine Kd.R_append Kd.string (w0 := wq) L rfl (.tmp 114) (.tmp 116) 22 9 (.string ⟨#[]⟩) 16 rfl Tryz.underlying22 zbg rfl (by decide) (by decide) u20 r x [.string x] (fun _ => True) (fun k_ => True /\ some k_ ≠ u20.ownBlock) rfl rfl rfl (fun _ hk => hk) (fun _ _ => trivial) HR6.out HB6L.out HL6.out ?aL ?_; (case aL => omega); intro v1 w8 ho hb hg hat; have HR8 := zpq ho; have HL8 : Hid (L <= w8.heap.size) := zpq (zpA HL6.out hg.size); have HS8 := zpq (HS6.out.grownL hg (fun k hk => Kd.R_base HR6.out k hk) hKL hmL (zqs hmL)); have HJ8 : Hid (JAt w8 J ((kk : Int) + 1)) := zpq (zaT HJ6.out hg (fun e => by have := Kd.R_base HR6.out J e.symm; omega)); have jc8 := JAt.cell HJ8.out; have f8 := zai HJ8.out 0; clear ho hb hg hat))
         have HS9 := zpq (HS8.out.set HJ8.out hKq hsq (.int .i64 (kk : Int))); have HJ9 := zpq (HJ8.out.set (kk : Int)); have HR9 := zpq (Kd.R_set HR8.out HJ8.out (by decide) 0 (.int .i64 (kk : Int)))
         have HL9 := zpq (zpA HL8.out ((zpt J w8).setCell (p := ⟨J, 0, none⟩) (zpu _) (.int .i64 (kk : Int))).size); have HE9 : Hid (zac (r ++ [x]) ++ zcl (zaW g) fd kk x.data.toList = t.data.toList :: zcl (zaW g) fd k t.data.toList) := zpq (by
          rw [<- HE.out, HSt.out, HY2.out]; unfold zac; rw [zqj, List.append_assoc, List.map_singleton, HY2.out, List.singleton_append])
         generalize w8.setCell ⟨J, 0, none⟩ (.int .i64 (kk : Int)) = w9 at HS9 HJ9 HR9 HL9 |-; have hrl : (r ++ [x]).length + kk <= 1001 := by rw [List.length_append, List.length_singleton]; omega
         go_roundg kk
         case measure => omega
         case rel => exact ⟨kk, x, r ++ [x], zpu _, by omega, hrl, rfl, HL9.out, ⟨HR9.out⟩, ⟨HS9.out⟩, ⟨HJ9.out⟩, ⟨by rw [HY2.out]; exact HOn2.out⟩, ⟨HXs.out⟩, ⟨HE9.out⟩⟩

theorem zmz (l : List ByteArray) (x : zaa) : x ∈ zac (zae l) ↔ x ∈ zac l := by
 rw [zer]; exact List.mem_mergeSort
theorem zgj (l : List ByteArray) (x : ByteArray) : x ∈ zae l ↔ x ∈ l := by
 have h := zmz l x.data.toList; unfold zac at h; rw [zqN, zqN] at h; constructor
 . intro hx
   obtain ⟨y, hy, he⟩ := h.1 ⟨x, hx, rfl⟩; rw [<- zbX he]; exact hy
 . intro hx
   obtain ⟨y, hy, he⟩ := h.2 ⟨x, hx, rfl⟩; rw [<- zbX he]; exact hy
theorem zin (l : List ByteArray) (x : ByteArray) (h : x ∈ zbN l) : x ∈ l := by
 unfold zbN at h; obtain ⟨y, hy, rfl⟩ := zqN.1 h; have := (zgm (zac l) y).1 hy; unfold zac at this; obtain ⟨z, hz, rfl⟩ := zqN.1 this; rw [zbh]; exact hz
def zbA (rs : List zaj) : List zaa := rs.map fun q => q.f0.data.toList
def zcM (rs : List zaj) : zaa -> List zaa := zaW (zbw rs rs)
theorem zo8 {rs : List zaj} {o : zaa} {n : ByteArray} (h : za6 rs o = some n) : ∃ r ∈ rs, r.f0 = n := by
 unfold za6 at h; cases hf : rs.reverse.find? (fun r => (zac r.f2).contains o) with
 | none => rw [hf] at h; cases h
 | some r =>
  rw [hf] at h; exact ⟨r, List.mem_reverse.1 (zq0 hf), zp2 h⟩
theorem zi7 {all rs : List zaj} {k : zaa} {l : List ByteArray} (h : zbw all rs k = some l) : ∃ r ∈ rs, r.f0.data.toList = k /\ l = zbN (zae (zbY all r)) := by
 unfold zbw at h; cases hf : rs.reverse.find? (fun r => r.f0.data.toList == k) with
 | none => rw [hf] at h; cases h
 | some r =>
  rw [hf] at h; exact ⟨r, List.mem_reverse.1 (zq0 hf), by simpa using List.find?_some hf, (zp2 h).symm⟩
theorem zlk {all rs : List zaj} {k : zaa} (h : k ∈ zbA rs) : (zbw all rs k).isSome = true := by
 unfold zbA at h; obtain ⟨r, hr, rfl⟩ := zqN.1 h; unfold zbw; rw [Option.isSome_map, List.find?_isSome]; exact ⟨r, List.mem_reverse.2 hr, by simp⟩
theorem zhT {all : List zaj} {r : zaj} {y : ByteArray} (h : y ∈ zbY all r) : y ∈ r.f3 \/ ∃ q ∈ all, q.f0 = y := by
 unfold zbY at h; rcases zqW.1 h with h | h
 . exact .inl h
 . obtain ⟨i, _, hi⟩ := List.mem_filterMap.1 h
   exact .inr (zo8 hi)
theorem znP {w : World} {b n : Nat} {rs : List zaj} (hF : zci rs) (h : AllIs w b n (zbw rs rs)) : ∃ f, NeedsAt w b n (zbw rs rs) (zbA rs) f := by
 obtain ⟨f, hM, hs, hr⟩ := h; refine ⟨f, hM, hs, hr, fun k l hl => ?_, by unfold zbA; rw [zp6]; exact hF.len⟩
 obtain ⟨r, hr, rfl, rfl⟩ := zi7 hl; refine ⟨zqN.2 ⟨r, hr, rfl⟩, ?_, fun y hy => ?_⟩
 . have h1 := zha rs r
   have h2 := (hF.fit r hr).1.ins; have h3 := (hF.fit r hr).2.1; have h4 := zeZ (zac (zae (zbY rs r))); unfold zbN; rw [zp6]; rw [zaM, zfD] at h4; omega
 . have hm := (zgj _ _).1 (zin _ _ hy)
   rcases zhT hm with hm | ⟨q, hq, rfl⟩
   . exact (hF.fit r hr).2.2.2 y hm
   . exact (hF.fit q hq).2.2.1
theorem NeedsAt.below {w w' : World} {b n : Nat} {g : zaa -> Option (List ByteArray)} {nodes : List zaa} {f : zaa -> Option Value} (h : NeedsAt w b n g nodes f) (hb : Below w.heap.size w w') : NeedsAt w' b n g nodes f :=
 ⟨h.m.below hb, h.same, fun k v l hv hl => by obtain ⟨A, c, e, hC⟩ := h.row k v l hv hl; exact ⟨A, c, e, Kd.C_below hC hb⟩, h.inN, h.few⟩
theorem zhZ : ∀ (rs : List zaj) (N O : List zaa), dupS rs N O = none -> N.Nodup -> (N ++ zbA rs).Nodup
 | [], N, O, _, hN => by simpa [zbA] using hN
 | r :: rs, N, O, h, hN => by
  unfold dupS at h; split at h
  . cases h
  . rename_i hc
    have hc1 : r.f0.data.toList ∉ N := by
     intro hm; apply hc
     rw [Bool.or_eq_true]; exact .inl (by simpa using hm)
    have := zhZ rs (N ++ [r.f0.data.toList]) (O ++ zac r.f2) h (by
     rw [List.nodup_append]; exact ⟨hN, by simp, fun a ha b hb e => by rw [zqR] at hb; subst hb; subst e; exact hc1 ha⟩)
    rw [List.append_assoc] at this; exact this
theorem zhJ {o : Option zaj} {d : Int × ByteArray} (h : (whoV 2 o d).1 = 0) : o = none /\ d.1 = 0 := by
 cases o with
 | none => exact ⟨rfl, h⟩
 | some r => exact absurd (show (2 : Int) = 0 from h) (by decide)
theorem zmh {rs : List zaj} (h : (zbF rs).1 = 0) : dupS rs [] [] = none /\ zda rs = none /\ rs.length <= 40 := by
 unfold zbF at h; cases hf : rs.find? (fun r => zbZ r != 0) with
 | some r =>
  rw [hf] at h; have := List.find?_some hf; dsimp only at h; rw [h] at this; cases this
 | none =>
  rw [hf] at h; dsimp only at h; split at h
  . cases h
  . obtain ⟨h1, h2⟩ := zhJ h
    exact ⟨h1, (zhJ h2).1, by omega⟩
theorem zmm {rs : List zaj} (h : (zbF rs).1 = 0) : zeO (zcM rs) (zbA rs) := by
 obtain ⟨h1, h2, _⟩ := zmh h; refine ⟨fun x y hy => ?_, by simpa using zhZ rs [] [] h1 List.nodup_nil⟩
 unfold zcM zaW at hy; cases hg : zbw rs rs x with
 | none => rw [hg] at hy; exact absurd hy (by simp [zac])
 | some l =>
  rw [hg] at hy; obtain ⟨r, hr, rfl, rfl⟩ := zi7 hg; refine ⟨zqN.2 ⟨r, hr, rfl⟩, ?_⟩; unfold zac at hy; obtain ⟨z, hz, rfl⟩ := zqN.1 hy; have hm := (zgj _ _).1 (zin _ _ hz); rcases zhT hm with hm | ⟨q, hq, rfl⟩
  . unfold zda at h2
    have h3 := zqV.1 h2 r hr; have h4 : ((zac r.f3).any fun a => !(zbA rs).contains a) = false := by
     cases hb : (zac r.f3).any fun a => !(zbA rs).contains a with
     | false => rfl
     | true => exact absurd hb h3
    rw [zq2] at h4; have h5 := h4 z.data.toList (zqN.2 ⟨z, hm, rfl⟩); simpa using h5
  . exact zqN.2 ⟨q, hq, rfl⟩
def wayV (rs : List zaj) (t : zaa) : Option (List zaa) := wayF (zcM rs) (farK (zcM rs) (zbA rs) t (zbA rs).length) t
def zcb (rs : List zaj) : List ByteArray := zae (rs.map fun q => q.f0)
def cycV (rs : List zaj) : Option (List zaa) := if (zbF rs).1 = 0 then (zcb rs).findSome? fun t => wayV rs t.data.toList else none
def allV (rs : List zaj) : Int × ByteArray := if (zbF rs).1 = 0 then match cycV rs with
 | some l => (3, mk (l.headD []))
 | none => (0, ⟨#[]⟩)
 else zbF rs
theorem ziz {rs : List zaj} {t : zaa} {l : List zaa} (h : wayV rs t = some l) : l ≠ [] := by
 unfold wayV wayF at h; split at h
 . cases h
 . cases h
   exact List.cons_ne_nil _ _
theorem zk7 (b n : Nat) (rs : List zaj) (f : zaa -> Option Value) (t : ByteArray) (w : World) (hF : zci rs) (hp : (zbF rs).1 = 0) (hA : NeedsAt w b n (zbw rs rs) (zbA rs) f) (ht : t.data.toList ∈ zbA rs) :
 Calls Tryz.prog 106 #[.map (some b), .string t] w (zfl (wayV rs t.data.toList) w) := by
 have hts : t.size <= maxLen := by
  unfold zbA at ht; obtain ⟨r, hr, he⟩ := zqN.1 ht; rw [<- zbX he]; exact (hF.fit r hr).2.2.1
 refine (zlU b n _ _ f t w hA (zlk ht) hts).mono fun e w' ⟨far, hfar, h⟩ => ?_
 have e1 : far = farK (zcM rs) (zbA rs) t.data.toList (zbA rs).length := hfar.unique (zm3 (zcM rs) (zbA rs) t.data.toList (zmm hp) ht _ (by omega))
 unfold wayV; rw [<- e1]; exact h

theorem zid {α β : Type} (F : α -> Option β) (l : List α) (j : Nat) (h : j < l.length) (hn : (l.take j).findSome? F = none) : (l.take (j + 1)).findSome? F = F l[j] := by
 rw [zpW h, List.findSome?_append, hn]; simp
theorem zpl {α β : Type} (F : α -> Option β) (l : List α) (j : Nat) (v : β) (h : j < l.length) (hn : (l.take j).findSome? F = none) (hv : F l[j] = some v) : l.findSome? F = some v := by
 have e : l = l.take (j + 1) ++ l.drop (j + 1) := (zqX _ _).symm; have h1 := zid F l j h hn; rw [hv] at h1; rw [e, List.findSome?_append, h1]; rfl
theorem zn8 (A : Option Addr) (c : Nat) (rs : List zaj) (w : World) (hG : GOK w) (hr : Kd.C k45 w A rs.length rs) (hF : zci rs) :
 Calls Tryz.prog 73 #[.slice A rs.length c] w (zfl (cycV rs) w) := by
 have hP := zg1 A c rs w hG hr hF; have hn := hF.len; have HR := zpq hr; have HF := zpq hF; obtain ⟨T, hT⟩ : ∃ T, T = cycV rs := ⟨_, rfl⟩; rw [<- hT]; have HT := zpq hT; have HZ := zpq (fun h : (zbF rs).1 = 0 => h)
 obtain ⟨pe, hpe⟩ : ∃ pe, pe = zbF rs := ⟨_, rfl⟩; rw [<- hpe] at hP; have HPe := zpq hpe; clear hr hG hF hT hpe HZ; obtain ⟨p1, p2⟩ := pe; unfold zdY at hP; dsimp only at hP; go_enter Tryz.func73, Tryz.ntmps73
 by_cases hp : p1 = 0
 . subst hp
   have HP0 : Hid ((zbF rs).1 = 0) := zpq (by rw [<- HPe.out])
   go_upto_region 4 with (first | (go_at_call 72; refine hP.mono ?_; rintro e w1 ⟨rfl, hb1⟩; have HB1 := zpq hb1; clear hb1))
   have hNe := zmF A c rs w1 (Kd.C_below HR.out HB1.out) HF.out; have HNe := zpq hNe; clear hNe hP; go_upto_region 6 with (first | (go_at_call 105; refine HNe.out.mono ?_; rintro e w2 ⟨b, rfl, _, hA2, hb2⟩; have HA2 := zpq (znP HF.out hA2); have HB2 := zpq (zad HB1.out HB1.out.size hb2); clear hA2 hb2))
   obtain ⟨f, hA⟩ := HA2.out; have HA := zpq hA; have HR2 := zpq (Kd.C_below HR.out HB2.out); clear hA HA2 HNe; go_wp2_with fail; go_loopg [6, 8, 23] rs.length (fun gg s6 _ s23 wr => ∃ kk : Nat, kk <= rs.length /\ rs.length - kk <= gg /\ s23 = .int .i64 kk /\ Aside0 (RS wr w2.heap.size s6 ((rs.take kk).map fun q => q.f0)) /\ Aside0 (Below w2.heap.size w2 wr))
   case atStart => exact ⟨0, zqf _, by omega, rfl, ⟨Kd.R_nil _ _ _ _ _⟩, ⟨zpt _ _⟩⟩
   case round =>
    obtain ⟨kk, hkk, hgk, rfl, HO, HW⟩ := hrel; obtain ⟨wq, rfl⟩ : ∃ wq, wq = wr := ⟨wr, rfl⟩; by_cases hlt : kk < rs.length
    . have hltz : (kk : Int) < (rs.length : Int) := by omega
      obtain ⟨b9, o, B1, c1, B2, c2, B3, c3, B4, c4, rfl, q0, q1, q2, q3, q4, hA4, hC4⟩ := zcV HR2.out kk hlt; replace q0 := zaf HW.out q0
      replace q1 := zaf HW.out q1
      replace q2 := zaf HW.out q2
      replace q3 := zaf HW.out q3
      replace q4 := zaf HW.out q4
      have hsn : ((rs.take (kk + 1)).map fun q => q.f0) = ((rs.take kk).map fun q => q.f0) ++ [rs[kk].f0] := by rw [zpW hlt, zqj]; rfl
      have hln : ((rs.take kk).map fun q => q.f0).length = kk := by rw [zp6, List.length_take]; omega
      have HSn := zpq hsn; have HLn := zpq hln; generalize rs[kk] = x at q0 q1 q2 q3 q4 HSn; have hb3 := (zpt wq.heap.size wq).alloc (zpu _) (.cells (zaq x B1 c1 B2 c2 B3 c3 B4 c4) 45); have HX3 := zpq (zal wq (.cells (zaq x B1 c1 B2 c2 B3 c3 B4 c4) 45)); have HB3 := zpq (HW.out.alloc HW.out.size (.cells (zaq x B1 c1 B2 c2 B3 c3 B4 c4) 45)); have HO3 := zpq (Kd.R_below HO.out hb3); clear hA4 hC4 hb3 hsn hln; unfold zaq at HX3 HB3 HO3; go_upto_region 9 with fail; generalize wq.alloc (.cells #[.string x.f0, .slice B1 x.f1.length c1, .slice B2 x.f2.length c2, .slice B3 x.f3.length c3, .slice B4 x.f4.length c4] 45) = w3 at HX3 HB3 HO3 |-; have x0 : w3.cell? ⟨wq.heap.size, 0, none⟩ = some (.string x.f0) := (zab HX3.out 0).trans rfl; have HWs := zpq HB3.out.size; generalize x.f0 = nm at x0 HSn; go_wp2_with (first | ((with_reducible refine zaG (b := .append) (xs := #[.tmp 27, .tmp 30]) rfl ?_); at_builtin; refine Kd.R_append Kd.string (w0 := w2) w2.heap.size rfl (.tmp 27) (.tmp 30) 22 9 (.string ⟨#[]⟩) 16 rfl Tryz.underlying22 zbg rfl (by decide) (by decide) u6 ((rs.take kk).map fun q => q.f0) nm [.string nm] (fun _ => True) (fun k_ => True /\ some k_ ≠ u6.ownBlock) rfl rfl rfl (fun _ hk => hk) (fun _ _ => trivial) HO3.out HB3.out HWs.out ?aL ?_; (case aL => (have h1 := HLn.out; omega)); intro v1 w5 ho hb hg hat; have HO5 : Hid (RS w5 w2.heap.size v1 ((rs.take (kk + 1)).map fun q => q.f0)) := (by show RS _ _ _ _; rw [HSn.out]; exact ho); have HB5 := zpq hb; clear ho hb hg hat))
      go_roundg (rs.length - (kk + 1))
      case measure => omega
      case rel => exact ⟨kk + 1, by omega, by omega, by first | rfl | go_num, ⟨HO5.out⟩, ⟨HB5.out⟩⟩
    . have hltz : ¬ (kk : Int) < (rs.length : Int) := by omega
      obtain rfl : kk = rs.length := by omega
      have hO := HO.out; rw [zqa] at hO; have hSort := zfQ w2.heap.size u6 _ wq hO (by rw [zp6]; omega)
      have HSort := zpq hSort; have HBs := zpq (Kd.R_base hO); clear hO hSort HO; go_upto_region 12 with (first
       | (go_at_call 93; refine HSort.out.mono ?_; rintro e w5 ⟨rfl, hR5, hg5⟩; have HR5 := zpq hR5; have HW5 := zpq (HW.out.grown hg5 HW.out.size (fun k hk => HBs.out k hk)); clear hR5 hg5))
      obtain ⟨A5, c5, rfl, _, hC5⟩ := Kd.R_reads HR5.out; have HC5 := zpq hC5; have hnl : (zcb rs).length <= 1000 := by unfold zcb; rw [zfD, zp6]; exact hn
      have hmem : ∀ x ∈ zcb rs, x.data.toList ∈ zbA rs := fun x hx => by
       have := (zgj _ _).1 hx; obtain ⟨r, hr, rfl⟩ := zqN.1 this; exact zqN.2 ⟨r, hr, rfl⟩
      have HMem := zpq hmem; have HTn : Hid (T = (zcb rs).findSome? fun t => wayV rs t.data.toList) := zpq (by rw [HT.out]; unfold cycV; rw [if_pos HP0.out])
      have HNV : Hid (zcb rs = zae (rs.map fun q => q.f0)) := zpq rfl
      have HC6 : Hid (Kd.C Kd.string w5 A5 (zcb rs).length (zcb rs)) := zpq HC5.out; have hl5 : (zae (rs.map fun q => q.f0)).length = (zcb rs).length := rfl
      generalize zcb rs = nv at hnl HMem HTn HNV HC6 hl5; clear hC5 hmem HC5; rw [hl5]; have HWC : Hid (w.heap.size <= w2.heap.size) := zpq HB2.out.size; clear hl5; go_wp2_with fail; go_loopg [10, 11, 37] nv.length (fun gg _ _ s37 wi => ∃ j : Nat, j <= nv.length /\ nv.length - j <= gg /\ s37 = .int .i64 j /\ Aside0 (Below w5.heap.size w5 wi) /\ Aside0 ((nv.take j).findSome? (fun t => wayV rs t.data.toList) = none))
      case atStart => exact ⟨0, zqf _, by omega, rfl, ⟨zpt _ _⟩, ⟨rfl⟩⟩
      case round =>
       obtain ⟨j, hj, hgj, rfl, HWi, HN⟩ := hrel; obtain ⟨wi, rfl⟩ : ∃ wi, wi = wr := ⟨wr, rfl⟩; have HB0 : Hid (Below w.heap.size w wi) := zpq ((HB2.out.trans (HW5.out.mono HWC.out)).trans (HWi.out.mono (zpA HWC.out HW5.out.size))); by_cases hlj : j < nv.length
       . have hljz : (j : Int) < (nv.length : Int) := by omega
         obtain ⟨b5, o5, rfl, n0⟩ := zbi (Kd.C_below HC6.out HWi.out) j hlj; have hway := zk7 b rs.length rs f nv[j] wi HF.out HP0.out ((HA.out.below HW5.out).below HWi.out) (HMem.out _ (zqD hlj)); have hsn := zid (fun t : ByteArray => wayV rs t.data.toList) nv j hlj HN.out
         have hat := fun v => zpl (fun t : ByteArray => wayV rs t.data.toList) nv j v hlj HN.out
         have hcons := fun l => @ziz rs nv[j].data.toList l
         have HSn := zpq hsn; have HAt := zpq hat; generalize wayV rs nv[j].data.toList = wo at hway HSn HAt hcons; generalize nv[j] = nm at n0 hway; clear hsn hat; cases wo with
         | none =>
          go_wp2_with (first | (go_at_call 106; refine hway.mono ?_; rintro e w7 ⟨v7, rfl, rfl, hb7⟩; have HW7 := zpq (zad HWi.out HWi.out.size hb7); clear hb7))
          go_roundg (nv.length - (j + 1))
          case measure => omega
          case rel => exact ⟨j + 1, by omega, by omega, by first | rfl | go_num, ⟨HW7.out⟩, ⟨HSn.out⟩⟩
         | some l =>
          have HCo := zpq (hcons l rfl); have HTl : Hid (T = some l) := zpq (by rw [HTn.out]; exact HAt.out l rfl)
          clear hcons; replace hway := hway.mono (R' := fun e w' => ∃ b7 o7 c7 r7, e = .returned (.slice (some ⟨b7, o7, none⟩) (List.length r7) c7) /\ zac r7 = l /\ RS w' wi.heap.size (.slice (some ⟨b7, o7, none⟩) r7.length c7) r7 /\ Below wi.heap.size wi w') (fun e w' ⟨v, he, ⟨r7, hr7, hR7⟩, hb⟩ => by
           obtain ⟨A7, c7, rfl, _, hC7⟩ := Kd.R_reads hR7; have hpos : 0 < r7.length := by
            have h := HCo.out; rw [<- hr7] at h; cases r7 with
            | nil => exact absurd rfl h
            | cons a r => exact Nat.succ_pos _
           obtain ⟨b7, o7, rfl, _⟩ := zbi hC7 0 hpos; exact ⟨b7, o7, c7, r7, he, hr7, hR7, hb⟩)
          have HWs := zpq HB0.out.size; go_wp2_with (first | (go_at_call 106; refine hway.mono ?_; rintro e w7 ⟨b7, o7, c7, r7, rfl, hr7, hR7, hb7⟩; have HB7 := zpq (zad HB0.out HB0.out.size hb7); have HR7 := zpq hR7; have HN7 := zpq hr7; clear hb7 hR7 hr7))
          go_ret
          exact ⟨_, rfl, by rw [HTl.out]; exact ⟨r7, HN7.out, Kd.R_lower HR7.out HWs.out⟩, HB7.out⟩
       . have hljz : ¬ (j : Int) < (nv.length : Int) := by omega
         obtain rfl : j = nv.length := by omega
         have hN := HN.out; rw [zqa, <- HTn.out] at hN; have HTl := zpq hN; clear hN; go_wp2_with fail; go_ret
         exact ⟨_, rfl, by rw [HTl.out]; rfl, HB0.out⟩
 . have HTl : Hid (T = none) := zpq (by rw [HT.out]; unfold cycV; rw [if_neg (by rw [<- HPe.out]; exact hp)])
   go_wp2_with (first | (go_at_call 72; refine hP.mono ?_; rintro e w1 ⟨rfl, hb1⟩; have HB1 := zpq hb1; clear hb1))
   go_ret
   exact ⟨_, rfl, by rw [HTl.out]; rfl, HB1.out⟩

theorem zfc (A : Option Addr) (c : Nat) (rs : List zaj) (w : World) (hG : GOK w) (hr : Kd.C k45 w A rs.length rs) (hF : zci rs) :
 Calls Tryz.prog 49 #[.slice A rs.length c] w (zdY (allV rs) w) := by
 have hP := zg1 A c rs w hG hr hF; have hn := hF.len; have HCy := zpq (fun (W : World) (hB : Below w.heap.size w W) => zn8 A c rs W (hG.below hB) (Kd.C_below hr hB) hF)
 have HT : Hid (allV rs = if (zbF rs).1 = 0 then match cycV rs with
 | some l => (3, mk (l.headD []))
 | none => (0, ⟨#[]⟩)
 else zbF rs) := zpq rfl
 have HCn : Hid (∀ l, cycV rs = some l -> l ≠ []) := zpq (fun l h => by
  unfold cycV at h; split at h
  . obtain ⟨t, _, ht⟩ := List.exists_of_findSome?_eq_some h
    exact ziz ht
  . cases h)
 generalize allV rs = T at HT |-; generalize cycV rs = cy at HCy HT HCn; generalize zbF rs = pe at hP HT; clear hr hF hG; obtain ⟨p1, p2⟩ := pe; unfold zdY at hP; dsimp only at hP; go_enter Tryz.func49, Tryz.ntmps49
 by_cases hp : p1 = 0
 . subst hp
   cases cy with
   | none =>
    have HTl : Hid (T = (0, ⟨#[]⟩)) := zpq (by rw [HT.out]; rfl)
    go_wp2_with (first | (go_at_call 72; refine hP.mono ?_; rintro e w1 ⟨rfl, hb1⟩; have HB1 := zpq hb1; clear hb1) | (go_at_call 73; refine (HCy.out _ HB1.out).mono ?_; rintro e w2 ⟨v2, rfl, rfl, hb2⟩; have HB2 := zpq (zad HB1.out HB1.out.size hb2); clear hb2))
    go_ret2
    exact ⟨by rw [HTl.out]; rfl, HB2.out⟩
   | some l =>
    have HTl : Hid (T = (3, mk (l.headD []))) := zpq (by rw [HT.out]; rfl)
    have HCo := zpq (HCn.out l rfl); have HCy2 := zpq (fun (W : World) (hB : Below w.heap.size w W) => (HCy.out W hB).mono (R' := fun e w' => ∃ b7 o7 c7 n, ∃ x : ByteArray, e = .returned (.slice (some ⟨b7, o7, none⟩) (n + 1) c7) /\ (n : Int) <= 9223372036854775806 /\ l.headD [] = x.data.toList /\ w'.cell? ⟨b7, o7, none⟩ = some (.string x) /\ Below W.heap.size W w') (fun e w' ⟨v, he, ⟨r7, hr7, hR7⟩, hb⟩ => by
     obtain ⟨A7, c7, rfl, _, hC7⟩ := Kd.R_reads hR7; have hlim := hC7.2.1; cases r7 with
     | nil => exact absurd hr7.symm (HCo.out)
     | cons a r =>
      obtain ⟨b7, o7, rfl, hc⟩ := zbi hC7 0 (Nat.succ_pos _); refine ⟨b7, o7, c7, r.length, a, he, ?_, by rw [<- hr7]; rfl, hc, hb⟩
      rw [zqc] at hlim; omega))
    go_wp2_with (first | (go_at_call 72; refine hP.mono ?_; rintro e w1 ⟨rfl, hb1⟩; have HB1 := zpq hb1; clear hb1) | (go_at_call 73; refine (HCy2.out _ HB1.out).mono ?_; rintro e w2 ⟨b7, o7, c7, n, x, rfl, hnl, hx, hc7, hb2⟩; have HB2 := zpq (zad HB1.out HB1.out.size hb2); have HX := zpq hx; clear hb2 hx))

    go_quiet (fail)
    go_wp2_with fail; go_ret2
    exact ⟨by rw [HTl.out, HX.out, zbh]; rfl, zak HB2.out _⟩
 . have HTl : Hid (T = (p1, p2)) := zpq (by rw [HT.out]; exact if_neg hp)
   go_wp2_with (first | (go_at_call 72; refine hP.mono ?_; rintro e w1 ⟨rfl, hb1⟩; have HB1 := zpq hb1; clear hb1))
   go_ret2
   exact ⟨by rw [HTl.out]; rfl, HB1.out⟩

end Go.Proofs.YtdpgdnpddndeoaaGreatDoor.X

namespace Go.Proofs.YtdpgdnpddndeoaaGreatDoor.X
open Go.RowKit Go.Maps Go.Proofs.YtdpgdnpddndeoaaGreatDoorW.PrintWords Go.Proofs.YtdpgdnpddndeoaaGreatDoorW.PrintMore Go.Proofs.YtdpgdnpddndeoaaGreatDoorW.PrintLast
open Go.ChangeMaps Go.MapKept
def strOf : Lit -> zaa
 | .string s => s
 | _ => []
theorem MapIs.tight {P : Program} {kt : TypeId} {w : World} {b n : Nat} {f : zaa -> Option Value} (h : MapIs P kt w b n f) (hk : P.underlying kt = some .string) (L : List zaa) (hL : ∀ k, (f k).isSome = true -> k ∈ L) : MapIs P kt w b L.length f := by
 obtain ⟨D, ho, hf⟩ := h; have ht := ho.tidy (string_keyed hk); obtain ⟨es, clock, hb, F, hs, rfl⟩ := ho; obtain ⟨es0, he, hp⟩ := ht; cases he
 have hlen : ((es.toList.map (WideElems.rg P kt valM)).foldr DataW.insert []).length = es.size := length_read es; have hstr : ∀ p ∈ (es.toList.map (WideElems.rg P kt valM)).foldr DataW.insert [], ∃ s, p.1 = Lit.string s := by
  intro p hpm; have h1 := (WideShapes.sorted_perm _).mem_iff.1 hpm; obtain ⟨x, hx, rfl⟩ := zqN.1 h1; obtain ⟨y, hy⟩ := F.reads x hx; have hr : WideElems.rg P kt valM x = y := by unfold WideElems.rg; rw [hy]; rfl
  have hkey := WideElems.rd_key hy; rw [hr]; generalize x.key = key at hkey; cases key <;> simp [keyOf, hk, mapKey] at hkey
  exact ⟨_, hkey.2.symm⟩
 have hf' := hf; have key : es.size <= L.length := by
  generalize (es.toList.map (WideElems.rg P kt valM)).foldr DataW.insert [] = S at hp hf' hlen hstr; have hmem : ∀ p ∈ S, strOf p.1 ∈ L := by
   intro p hpm; obtain ⟨s, hs1⟩ := hstr p hpm; refine hL _ ?_; rw [<- hf'.1]; rw [hs1]; show S.any (fun q => q.1.sameKey (.string s)) = true
   exact List.any_eq_true.2 ⟨p, hpm, by rw [hs1]; simp [Lit.sameKey]⟩
  have hnd : (S.map fun p => strOf p.1).Nodup := by
   unfold List.Nodup; rw [List.pairwise_map]; refine hp.imp_of_mem fun {p q} h1 h2 hne he => ?_
   obtain ⟨s, e1⟩ := hstr p h1; obtain ⟨s', e2⟩ := hstr q h2; rw [e1, e2] at he hne; exact hne (by rw [show s = s' from he])
  have hle := zgi _ L hnd (fun x hx => by obtain ⟨p, hpm, rfl⟩ := zqN.1 hx; exact hmem p hpm)
  rw [zp6, hlen] at hle; exact hle
 exact ⟨_, ⟨es, clock, hb, F, key, rfl⟩, hf⟩

def zck (rs : List zaj) (name : zaa) : Option zaj := rs.find? fun r => (zac r.f2).contains name
def zbJ (rs : List zaj) (rd : zaa -> Option zaa) : Nat -> zaa -> SVal
 | 0, _ => zV
 | n + 1, name => match zck rs name with
  | none => ⟨(rd name).isSome, mk ((rd name).getD [])⟩
  | some r => runK (zav r) (r.f1.map fun i => zbJ rs rd n i.data.toList) r.f4.length name
structure Mean (rs : List zaj) (rank : zaa -> Nat) : Prop where
 fit : zci rs
 uniq : ∀ r ∈ rs, ∀ o ∈ r.f2, zck rs o.data.toList = some r
 rank : ∀ r ∈ rs, ∀ o ∈ r.f2, ∀ i ∈ r.f1, rank i.data.toList < rank o.data.toList
theorem zhg {rs : List zaj} {name : zaa} {r : zaj} (h : zck rs name = some r) : r ∈ rs /\ ∃ o ∈ r.f2, o.data.toList = name := by
 unfold zck at h; refine ⟨zq0 h, ?_⟩; have := List.find?_some h; have hm : name ∈ zac r.f2 := by simpa using this
 unfold zac at hm; obtain ⟨o, ho, he⟩ := zqN.1 hm; exact ⟨o, ho, he⟩
theorem Mean.lower {rs : List zaj} {rank : zaa -> Nat} (h : Mean rs rank) {name : zaa} {r : zaj} (hp : zck rs name = some r) {i : ByteArray} (hi : i ∈ r.f1) : rank i.data.toList < rank name := by
 obtain ⟨hr, o, ho, rfl⟩ := zhg hp; exact h.rank r hr o ho i hi
theorem zhQ {rs : List zaj} {rank : zaa -> Nat} (h : Mean rs rank) (rd : zaa -> Option zaa) : ∀ (n m : Nat) (name : zaa), rank name < n -> rank name < m -> zbJ rs rd n name = zbJ rs rd m name
 | n + 1, m + 1, name, h1, h2 => by
  unfold zbJ; cases hp : zck rs name with
  | none => rfl
  | some r =>
   dsimp only; have e : (r.f1.map fun i => zbJ rs rd n i.data.toList) = r.f1.map fun i => zbJ rs rd m i.data.toList := by
    refine zq1 fun i hi => ?_
    have := h.lower hp hi; exact zhQ h rd n m i.data.toList (by omega) (by omega)
   rw [e]
def valF (rs : List zaj) (rank : zaa -> Nat) (rd : zaa -> Option zaa) (name : zaa) : SVal := zbJ rs rd (rank name + 1) name
theorem zli {rs : List zaj} {rank : zaa -> Nat} {rd : zaa -> Option zaa} {name : zaa} (hp : zck rs name = none) : valF rs rank rd name = ⟨(rd name).isSome, mk ((rd name).getD [])⟩ := by
 unfold valF zbJ; rw [hp]
theorem zlT {rs : List zaj} {rank : zaa -> Nat} (h : Mean rs rank) {rd : zaa -> Option zaa} {name : zaa} {r : zaj} (hp : zck rs name = some r) : valF rs rank rd name = runK (zav r) (r.f1.map fun i => valF rs rank rd i.data.toList) r.f4.length name := by
 have e : (r.f1.map fun i => zbJ rs rd (rank name) i.data.toList) = r.f1.map fun i => valF rs rank rd i.data.toList := by
  refine zq1 fun i hi => ?_
  have := h.lower hp hi; exact zhQ h rd _ _ i.data.toList (by omega) (by omega)
 unfold valF; conv => lhs; unfold zbJ
 rw [hp]; dsimp only; rw [e]; rfl
theorem zgy {rs : List zaj} {rd : zaa -> Option zaa} (hrd : ∀ k v, rd k = some v -> v.length <= 4194304) : ∀ (n : Nat) (name : zaa), (zbJ rs rd n name).f1.size <= 4194304
 | 0, _ => zqf _
 | n + 1, name => by
  unfold zbJ; split
  . show (mk ((rd name).getD [])).size <= _
    rw [zaZ]; cases hr : rd name with
    | none => exact zqf _
    | some v => exact hrd name v hr
  . rename_i r _
    refine zhn (zav r) _ (fun v hv => ?_) _ _
    obtain ⟨i, _, rfl⟩ := zqN.1 hv; exact zgy hrd n _
theorem zl7 {rs : List zaj} {rank : zaa -> Nat} {rd : zaa -> Option zaa} (hrd : ∀ k v, rd k = some v -> v.length <= 4194304) (name : zaa) : (valF rs rank rd name).f1.size <= 4194304 := zgy hrd _ _
theorem znm {rs : List zaj} {rank : zaa -> Nat} (h : Mean rs rank) {rd : zaa -> Option zaa} {r : zaj} (hr : r ∈ rs) : runS (zav r) (r.f1.map fun i => valF rs rank rd i.data.toList) = r.f2.map fun o => valF rs rank rd o.data.toList := by
 unfold runS; have h1 : (zav r).ins.length = r.f1.length := zaM _; have h2 : (zav r).steps.length = r.f4.length := zp6 ..; rw [zp6, h1, if_neg (by simp), h2]
 show (zac r.f2).map _ = _
 unfold zac; rw [List.map_map]; refine zq1 fun o ho => ?_
 exact (zlT h (h.uniq r hr o ho)).symm

def DoneIs (w : World) (b n : Nat) (st : zaa -> Option SVal) : Prop := ∃ f, MapIs Tryz.prog 9 w b n f /\ ∀ k, f k = (st k).map aggV
theorem DoneIs.made (w : World) : DoneIs (w.alloc (.map #[] 0)) w.heap.size 0 (fun _ => none) := ⟨_, MapIs.made w, fun _ => rfl⟩
theorem DoneIs.lt {w : World} {b n : Nat} {st : zaa -> Option SVal} (h : DoneIs w b n st) : b < w.heap.size := by obtain ⟨f, h, _⟩ := h; exact h.lt
theorem DoneIs.mono {w : World} {b n n' : Nat} {st : zaa -> Option SVal} (h : DoneIs w b n st) (hn : n <= n') : DoneIs w b n' st := by obtain ⟨f, h, h2⟩ := h; exact ⟨f, h.mono hn, h2⟩
theorem DoneIs.below {w w' : World} {b n : Nat} {st : zaa -> Option SVal} (h : DoneIs w b n st) (hb : Below w.heap.size w w') : DoneIs w' b n st := by obtain ⟨f, h, h2⟩ := h; exact ⟨f, h.below hb, h2⟩
theorem DoneIs.grown {w w' : World} {b n : Nat} {st : zaa -> Option SVal} {row : Option Nat} (h : DoneIs w b n st) (hg : w.grownBy w' row) (hne : some b ≠ row) : DoneIs w' b n st := by obtain ⟨f, h, h2⟩ := h; exact ⟨f, h.grown hg hne, h2⟩
theorem DoneIs.ne_cells {w : World} {b n : Nat} {st : zaa -> Option SVal} (h : DoneIs w b n st) {a t : Nat} {cs : Array Value} {fr : Nat × Nat} (hg : w.heap[a]? = some (.cells cs t fr)) : b ≠ a := by obtain ⟨f, h, _⟩ := h; exact h.ne_cells hg
theorem DoneIs.tight {w : World} {b n : Nat} {st : zaa -> Option SVal} (h : DoneIs w b n st) (L : List zaa) (hL : ∀ k, (st k).isSome = true -> k ∈ L) : DoneIs w b L.length st := by
 obtain ⟨f, h, h2⟩ := h; exact ⟨f, h.tight Tryz.underlying9 L (fun k hk => hL k (by rw [h2] at hk; simpa using hk)), h2⟩
theorem DoneIs.look2 {w : World} {b n : Nat} {st : zaa -> Option SVal} (h : DoneIs w b n st) (k : ByteArray) (hs : k.size <= maxLen) :
 (Instr.lookup 91 (.map (some b)) (.string k) true).run Tryz.prog w = .ok (.tuple #[aggV ((st k.data.toList).getD zV), .bool (st k.data.toList).isSome]) w := by
 obtain ⟨f, h, h2⟩ := h; have := h.look2 Tryz.underlying9 Tryz.underlying91 (Tryz.zeroValue34 w) k hs; rw [this, h2]; cases st k.data.toList <;> rfl
theorem DoneIs.look {w : World} {b n : Nat} {st : zaa -> Option SVal} (h : DoneIs w b n st) (k : ByteArray) (hs : k.size <= maxLen) :
 (Instr.lookup 91 (.map (some b)) (.string k) false).run Tryz.prog w = .ok (aggV ((st k.data.toList).getD zV)) w := by
 obtain ⟨f, h, h2⟩ := h; have := h.look Tryz.underlying9 Tryz.underlying91 (Tryz.zeroValue34 w) k hs; rw [this, h2]; cases st k.data.toList <;> rfl
theorem DoneIs.put {w : World} {b n : Nat} {st : zaa -> Option SVal} (h : DoneIs w b n st) (hn : n < maxLen) (k : ByteArray) (hs : k.size <= maxLen) (v : SVal) :
 ∃ w', (Instr.mapUpdate 91 (.map (some b)) (.string k) (aggV v)).run Tryz.prog w = .ok () w' /\ DoneIs w' b (n + 1) (setG st k.data.toList v) /\ w.grownBy w' (some b) := by
 obtain ⟨f, h, h2⟩ := h; obtain ⟨w', hrun, h', hg⟩ := h.store Tryz.underlying9 Tryz.underlying91 hn k hs (aggV v); refine ⟨w', hrun, ⟨_, h', fun x => ?_⟩, hg⟩
 unfold setF setG; split
 . rfl
 . exact h2 x
def zb1 (rs : List zaj) : List zaa := rs.flatMap fun r => zac r.f2
theorem zkK {rs : List zaj} {r : zaj} {o : ByteArray} (hr : r ∈ rs) (ho : o ∈ r.f2) : o.data.toList ∈ zb1 rs := List.mem_flatMap.2 ⟨r, hr, zqN.2 ⟨o, ho, rfl⟩⟩
structure DSt (rs : List zaj) (rank : zaa -> Nat) (m : TM) (w0 : World) (A : Option Addr) (c gt bt M D : Nat) (w : World) (st : zaa -> Option SVal) : Prop where
 c : w.heap[M]? = some (.cells #[.slice A rs.length c, .pointer (some ⟨gt, 0, none⟩), .map (some D)] 105 (0, 0))
 d : DoneIs w D (zb1 rs).length st
 ok : ∀ k v, st k = some v -> v = valF rs rank (getT m) k /\ k ∈ zb1 rs
 b : Below w0.heap.size w0 w
 lo : w0.heap.size <= D

end Go.Proofs.YtdpgdnpddndeoaaGreatDoor.X

namespace Go.Proofs.YtdpgdnpddndeoaaGreatDoor.X
open Go.RowKit Go.Maps Go.Proofs.YtdpgdnpddndeoaaGreatDoorW.PrintWords Go.Proofs.YtdpgdnpddndeoaaGreatDoorW.PrintMore Go.Proofs.YtdpgdnpddndeoaaGreatDoorW.PrintLast
def zjg (a b : SVal) : Bool := a.f0 == b.f0 && (!a.f0 || a.f1.toList == b.f1.toList)
theorem znh (a b : SVal) (w : World) : Calls Tryz.prog 52 #[aggV a, aggV b] w fun e w' => e = .returned (.bool (zjg a b)) /\ Below w.heap.size w w' := by
 obtain ⟨a0, a1⟩ := a; obtain ⟨b0, b1⟩ := b; have hW := ((zpt w.heap.size w).alloc (zpu _) (.cells #[.bool a0, .string a1] 34)).alloc ((zpt w.heap.size w).alloc (zpu _) (.cells #[.bool a0, .string a1] 34)).size (.cells #[.bool b0, .string b1] 34); have HW := zpq hW; clear hW; unfold aggV; cases a0 <;> cases b0 <;> (
  go_enter Tryz.func52, Tryz.ntmps52
  go_wp2_with fail; go_ret
  exact ⟨by unfold zjg; rfl, HW.out⟩)

theorem zkz : ∀ args w, (callFunc 108 args).run Tryz.prog w = .ok (.enter 108 args) w := Go.Proofs.enters_of Tryz.func108 (by kernel_rfl) rfl
theorem zkW (K : Nat) (name : ByteArray) (r : zaj) (B1 : Option Addr) (c1 : Nat) (B2 : Option Addr) (c2 : Nat) (B3 : Option Addr) (c3 : Nat) (B4 : Option Addr) (c4 : Nat) (w : World) (hk : w.cell? ⟨K, 0, none⟩ = some (.string name)) (h2 : Kd.C Kd.string w B2 r.f2.length r.f2) :
 Calls Tryz.prog 108 #[.agg (zaq r B1 c1 B2 c2 B3 c3 B4 c4), .pointer (some ⟨K, 0, none⟩)] w fun e w' => e = .returned (.bool ((zac r.f2).contains name.data.toList)) /\ Below w.heap.size w w' := by
 have hb3 := (zpt w.heap.size w).alloc (zpu _) (.cells (zaq r B1 c1 B2 c2 B3 c3 B4 c4) 45); have HX3 := zpq (zal w (.cells (zaq r B1 c1 B2 c2 B3 c3 B4 c4) 45)); have HB3 := zpq hb3; have hct := zc8 B2 c2 r.f2 name _ (Kd.C_below h2 hb3); replace hk := zaf hb3 hk
 unfold zaq at *; clear hb3 h2; generalize (zac r.f2).contains name.data.toList = q at hct |-; go_enter Tryz.func108, Tryz.ntmps108
 go_upto_region 1 with fail; generalize w.alloc (.cells #[.string r.f0, .slice B1 r.f1.length c1, .slice B2 r.f2.length c2, .slice B3 r.f3.length c3, .slice B4 r.f4.length c4] 45) = w3 at HX3 HB3 hct hk |-; have x2 : w3.cell? ⟨w.heap.size, 2, none⟩ = some (.slice B2 r.f2.length c2) := (zab HX3.out 2).trans rfl; go_wp2_with (first | (go_at_call 92; refine hct.mono ?_; rintro e w6 ⟨rfl, rfl⟩))
 go_ret
 exact ⟨rfl, HB3.out⟩
theorem znu (K : Nat) (name : ByteArray) (A : Option Addr) (c : Nat) (rs : List zaj) (w : World) (hl0 : rs.length <= 1000) (hr : Kd.C k45 w A rs.length rs) (hk : w.cell? ⟨K, 0, none⟩ = some (.string name)) :
 Calls Tryz.prog 107 #[.slice A rs.length c, .func (.func 108) #[] #[.pointer (some ⟨K, 0, none⟩)]] w fun e w' => ((zck rs name.data.toList = none /\ e = .returned (.int .i64 (-1))) \/ ∃ (i : Nat) (h : i < rs.length), e = .returned (.int .i64 i) /\ zck rs name.data.toList = some rs[i]) /\ Below w.heap.size w w' := by
 have HR := zpq hr; have HK := zpq hk; have eg := zkz; obtain ⟨p, hp⟩ : ∃ p : zaj -> Bool, p = fun r => (zac r.f2).contains name.data.toList := ⟨_, rfl⟩
 have hpf : zck rs name.data.toList = rs.find? p := by rw [hp]; rfl
 rw [hpf]; have HPd := zpq hp; clear hr hk hp hpf; go_enter Tryz.func107, Tryz.ntmps107
 go_wp2_with fail; go_loopg [5, 8] rs.length (fun gg _ s8 wr => ∃ kk : Nat, kk <= rs.length /\ rs.length - kk <= gg /\ s8 = .int .i64 kk /\ Aside0 (Below w.heap.size w wr) /\ Aside0 ((rs.take kk).any p = false))
 case atStart => exact ⟨0, zqf _, by omega, rfl, ⟨zpt _ _⟩, ⟨rfl⟩⟩
 case round =>
  obtain ⟨kk, hkk, hgk, rfl, HB, HN⟩ := hrel; by_cases hlt : kk < rs.length
  . have hltz : (kk : Int) < (rs.length : Int) := by omega
    obtain ⟨b, o, B1, c1, B2, c2, B3, c3, B4, c4, rfl, p0, p1, p2, p3, p4, hA, hC⟩ := zcV (Kd.C_below HR.out HB.out) kk hlt; have hst := zfO p rs kk hlt; rw [HN.out, Bool.false_or] at hst; have hfd := ze2 p rs kk hlt HN.out; have hcall := zkW K name rs[kk] B1 c1 B2 c2 B3 c3 B4 c4 wr (zaf HB.out HK.out) hA.h2; have hpk : (zac rs[kk].f2).contains name.data.toList = p rs[kk] := by rw [HPd.out]
    rw [hpk] at hcall; have HSt := zpq hst; have HFd := zpq hfd; obtain ⟨q, hq⟩ : ∃ q, q = p rs[kk] := ⟨_, rfl⟩; rw [<- hq] at hcall; have HQ := zpq hq; generalize rs[kk] = x at p0 p1 p2 p3 p4 hcall; unfold zaq at hcall; clear hst hfd hA hC hpk hq; cases q with
    | true =>
     have HF2 := zpq (HFd.out HQ.out.symm); go_wp2_with (first | (go_at_fn 108; refine hcall.mono ?_; rintro e w2 ⟨rfl, hb2⟩; have HB2 := zpq (zad HB.out HB.out.size hb2); clear hb2))
     go_ret
     exact ⟨.inr ⟨kk, hlt, rfl, HF2.out⟩, HB2.out⟩
    | false =>
     have HN2 : Hid ((rs.take (kk + 1)).any p = false) := zpq (by rw [HSt.out]; exact HQ.out.symm)
     go_wp2_with (first | (go_at_fn 108; refine hcall.mono ?_; rintro e w2 ⟨rfl, hb2⟩; have HB2 := zpq (zad HB.out HB.out.size hb2); clear hb2))
     go_roundg (rs.length - (kk + 1))
     case measure => omega
     case rel => exact ⟨kk + 1, by omega, by omega, by first | rfl | go_num, ⟨HB2.out⟩, ⟨HN2.out⟩⟩
  . have hltz : ¬ (kk : Int) < (rs.length : Int) := by omega
    obtain rfl : kk = rs.length := by omega
    have hN := HN.out; rw [zqa] at hN; have HF2 := zpq (zfo p rs hN); clear hN; go_wp2_with fail; go_ret
    exact ⟨.inl ⟨by first | exact HF2.out | (intro x hx; simpa using zqV.1 HF2.out x hx), rfl⟩, HB.out⟩

section
variable {rs : List zaj} {rank : zaa -> Nat} {m : TM} {w0 : World} {A : Option Addr} {c gt bt M D : Nat} {w : World} {st : zaa -> Option SVal}
theorem DSt.below {w' : World} (h : DSt rs rank m w0 A c gt bt M D w st) (hb : Below w.heap.size w w') : DSt rs rank m w0 A c gt bt M D w' st :=
 ⟨zah h.c hb, h.d.below hb, h.ok, zad h.b h.b.size hb, h.lo⟩
theorem DSt.belowL {w' : World} {L : Nat} (h : DSt rs rank m w0 A c gt bt M D w st) (hb : Below L w w') (h1 : M < L) (h2 : D < L) (h3 : w0.heap.size <= L) : DSt rs rank m w0 A c gt bt M D w' st := by
 obtain ⟨f, ⟨Dm, ho, hf⟩, h4⟩ := h.d; exact ⟨(hb.block M h1).trans h.c, ⟨f, MapIs.kept ⟨Dm, ho, hf⟩ (hb.block D h2), h4⟩, h.ok, h.b.trans (hb.mono h3), h.lo⟩
theorem zeI {a b c : World} {row : Option Nat} (h : a.grownBy b row) (k : Below a.heap.size b c) : a.grownBy c row := ⟨k.os.trans h.os, k.tape.trans h.tape, k.output.trans h.output, zpA h.size k.size, fun i hi hne => (k.block i hi).trans (h.block i hi hne)⟩
theorem zcP {a b : World} {D : Nat} {p : Addr} {v : Value} (h : a.cell? p = some v) (hg : a.grownBy b (some D)) (hD : ∀ (g t : Nat) (cs : Array Value) (fr : Nat × Nat), a.heap[g]? = some (Obj.cells cs t fr) -> D ≠ g) : b.cell? p = some v := by
 obtain ⟨cs, t, fr, hb⟩ := ziC h; have h5 := hg.block _ (Array.getElem?_eq_some_iff.1 hb).1 (by intro e; injection e with e; exact hD _ _ _ _ hb e.symm)
 unfold World.cell? at h |-; rw [h5]; exact h
theorem zod {a b : World} {D base : Nat} {v : Value} {l : List SVal} (h : RVal a base v l) (hg : a.grownBy b (some D)) (hD : D < base) : RVal b base v l :=
 Kd.R_mono (Kd.R_grown (Kd.R_bound h) hg (fun k hk e => by injection e with e; have := hk.2.1; omega)) (fun _ _ => trivial)
theorem DSt.cells (h : DSt rs rank m w0 A c gt bt M D w st) : w.cell? ⟨M, 0, none⟩ = some (.slice A rs.length c) /\ w.cell? ⟨M, 1, none⟩ = some (.pointer (some ⟨gt, 0, none⟩)) /\ w.cell? ⟨M, 2, none⟩ = some (.map (some D)) := ⟨(zab h.c 0).trans rfl, (zab h.c 1).trans rfl, (zab h.c 2).trans rfl⟩
theorem zjw {rs : List zaj} (hF : zci rs) : (zb1 rs).length <= 1000000 := by
 have key : ∀ l : List zaj, (∀ r ∈ l, r.f2.length <= 1000) -> (zb1 l).length <= l.length * 1000 := by
  intro l; induction l with
  | nil => intro _; exact zqf _
  | cons r l ih =>
   intro h; have h1 := ih (fun q hq => h q (List.mem_cons_of_mem _ hq))
   have h2 := h r List.mem_cons_self; have e : (zb1 (r :: l)).length = r.f2.length + (zb1 l).length := by
    unfold zb1; rw [List.flatMap_cons, List.length_append, zaM]
   rw [e, zqc, Nat.succ_mul]; omega
 have h1 := key rs (fun r hr => (hF.fit r hr).1.outs)
 have h2 : rs.length * 1000 <= 1000 * 1000 := Nat.mul_le_mul_right _ hF.len; omega
theorem DSt.put (h : DSt rs rank m w0 A c gt bt M D w st) (hF : zci rs) (k : ByteArray) (hs : k.size <= maxLen) (hk : k.data.toList ∈ zb1 rs) :
 ∃ w', (Instr.mapUpdate 91 (.map (some D)) (.string k) (aggV (valF rs rank (getT m) k.data.toList))).run Tryz.prog w = .ok () w' /\ DSt rs rank m w0 A c gt bt M D w' (setG st k.data.toList (valF rs rank (getT m) k.data.toList)) /\ w.grownBy w' (some D) := by
 have hl := zjw hF; obtain ⟨w', hrun, hd, hg⟩ := h.d.put (by unfold maxLen; omega) k hs (valF rs rank (getT m) k.data.toList)
 have hok : ∀ x v, setG st k.data.toList (valF rs rank (getT m) k.data.toList) x = some v -> v = valF rs rank (getT m) x /\ x ∈ zb1 rs := by
  intro x v hx; unfold setG at hx; split at hx
  . rename_i e
    cases hx
    rw [e]; exact ⟨rfl, hk⟩
  . exact h.ok x v hx
 refine ⟨w', hrun, ⟨zaT h.c hg (by intro e; injection e with e; exact h.d.ne_cells h.c e.symm), hd.tight (zb1 rs) (fun x hx => ?_), hok, h.b.grown hg h.b.size (fun j hj => by cases hj; exact h.lo), h.lo⟩, hg⟩
 obtain ⟨v, hv⟩ := Option.isSome_iff_exists.1 hx; exact (hok x v hv).2
end
theorem zfp {fn : Func} {t : Tmp} {ty : TypeId} (h : fn.results = #[.cell t ty]) (tmps : Array Value) (P : Program) (w : World) {a : Addr} {v : Value} (ha : tmps.getD t undef = .pointer (some a)) (hv : (loadVar ty a).run P w = .ok v w) : (results fn tmps).run P w = .ok v w := by
 have ha' : tmps[t]?.getD undef = .pointer (some a) := by simpa using ha
 simp [results, h, ha', asAddr, hv, Result.andThen]
theorem zfF {w : World} {R : Nat} {a : Bool} {b : ByteArray} (h : w.heap[R]? = some (.cells #[.bool a, .string b] 34 (0, 0))) : (loadVar 34 ⟨R, 0, none⟩).run Tryz.prog w = .ok (.agg #[.bool a, .string b]) w := by
 exact run_loadVar_row w R _ 34 _ _ _ h Tryz.underlying34 rfl (by kernel_rfl)
def zdR (rs : List zaj) (rank : zaa -> Nat) (m : TM) (w0 : World) (A : Option Addr) (c gt bt M D : Nat) (v : SVal) (w : World) (e : Ending) (w' : World) : Prop := e = .returned (aggV v) /\ (∃ st', DSt rs rank m w0 A c gt bt M D w' st') /\ w.grownBy w' (some D)
theorem zkQ (rs : List zaj) (rank : zaa -> Nat) (m : TM) (w0 : World) (A : Option Addr) (c gt bt M D : Nat) (hM : Mean rs rank) (hrd : ∀ k v, getT m k = some v -> v.length <= 4194304) (hr0 : Kd.C k45 w0 A rs.length rs) (hT : IsTree w0 gt bt m) (hG : GOK w0) (N : Nat)
 (hN : ∀ (name : ByteArray) (w : World) (st : zaa -> Option SVal), rank name.data.toList < N -> name.size <= maxLen -> DSt rs rank m w0 A c gt bt M D w st -> Calls Tryz.prog 74 #[.pointer (some ⟨M, 0, none⟩), .string name] w (zdR rs rank m w0 A c gt bt M D (valF rs rank (getT m) name.data.toList) w))
 (name : ByteArray) (w : World) (st : zaa -> Option SVal) (hrk : rank name.data.toList < N + 1) (hns : name.size <= maxLen) (hD : DSt rs rank m w0 A c gt bt M D w st) :
 Calls Tryz.prog 74 #[.pointer (some ⟨M, 0, none⟩), .string name] w (zdR rs rank m w0 A c gt bt M D (valF rs rank (getT m) name.data.toList) w) := by
 have hF := hM.fit; have hn := hF.len; have hb1 := ((zpt w.heap.size w).alloc (zpu _) (.cells #[.string name] 9)); have hb2 := hb1.alloc hb1.size (.cells #[.bool false, .string ⟨#[]⟩] 34); have hs1 : (w.alloc (.cells #[.string name] 9)).heap.size = w.heap.size + 1 := by simp
 have hx1 := zaB (zal w (.cells #[.string name] 9)) (.cells #[.bool false, .string ⟨#[]⟩] 34); have hx2 := zal (w.alloc (.cells #[.string name] 9)) (.cells #[.bool false, .string ⟨#[]⟩] 34); rw [hs1] at hx2; have HX1 := zpq hx1; have HX2 := zpq hx2; have HD2 := zpq (hD.below hb2); have HD0 := zpq hD; have HB2 := zpq hb2; have HNs := zpq hns; have HRk := zpq hrk; have HNr := zpq hN; have HR0 := zpq hr0; have HT0 := zpq hT; have HG0 := zpq hG; have HF := zpq hF; have HM := zpq hM; have HDn : Hid (D < w.heap.size) := zpq hD.d.lt; clear hb1 hb2 hs1 hx1 hx2 hD hns hrk hN hr0 hT hG hF; go_enter Tryz.func74, Tryz.ntmps74
 go_upto_region 1 with fail; generalize (w.alloc (.cells #[.string name] 9)).alloc (.cells #[.bool false, .string ⟨#[]⟩] 34) = w2 at HX1 HX2 HD2 HB2 |-; have hlk := HD2.out.d.look2 name HNs.out; obtain ⟨m0, m1, m2⟩ := HD2.out.cells; have n0 : w2.cell? ⟨w.heap.size, 0, none⟩ = some (.string name) := (zab HX1.out 0).trans rfl; obtain ⟨lv, hlv⟩ : ∃ lv, lv = aggV ((st name.data.toList).getD zV) := ⟨_, rfl⟩; obtain ⟨li, hli⟩ : ∃ li, li = (st name.data.toList).isSome := ⟨_, rfl⟩; have HSo : Hid (∀ W, Below w2.heap.size w2 W -> W.cell? ⟨M, 2, none⟩ = some (.map (some D)) /\ W.cell? ⟨w.heap.size, 0, none⟩ = some (.string name) /\ (Instr.lookup 91 (.map (some D)) (.string name) true).run Tryz.prog W = .ok (.tuple #[lv, .bool li]) W) := zpq (fun W hW => by
  have hd := HD2.out.below hW; exact ⟨hd.cells.2.2, (zab (zah HX1.out hW) 0).trans rfl, by rw [hlv, hli]; exact hd.d.look2 name HNs.out⟩)
 have HLv := zpq hlv; have HLi := zpq hli; have HBx : Hid (Below w2.heap.size w2 w2.drew) := zpq (zaV (zpt _ _)); obtain ⟨q0, q1, hq⟩ : ∃ q0 q1, lv = .agg #[.bool q0, .string q1] := ⟨_, _, hlv⟩; have HQ := zpq hq; rw [<- hlv, <- hli] at hlk; clear hlv hli; subst hq; go_region_held3 (fun W => W.cell? ⟨M, 2, none⟩ = some (.map (some D)) /\ W.cell? ⟨w.heap.size, 0, none⟩ = some (.string name) /\ (Instr.lookup 91 (.map (some D)) (.string name) true).run Tryz.prog W = .ok (.tuple #[.agg #[.bool q0, .string q1], .bool li]) W)
  (first | exact HSo.out _ (zpt _ _) | exact HSo.out _ HBx.out | exact HSo.out _ (HBx.out.alloc HBx.out.size _))
  (fail)
 all_goals
  have hb3 := ((zpt w2.heap.size w2).alloc (zpu _) (.cells #[.bool q0, .string q1] 34)); have HX3 : Hid (((w2.alloc (.cells #[.bool q0, .string q1] 34)).drew).heap[w2.heap.size]? = some (.cells #[.bool q0, .string q1] 34 (0, 0))) := zpq (zax (zal w2 _)); have HB3 : Hid (Below w2.heap.size w2 ((w2.alloc (.cells #[.bool q0, .string q1] 34)).drew)) := zpq (zaV hb3); clear hb3; generalize (w2.alloc (.cells #[.bool q0, .string q1] 34)).drew = w3 at HX3 HB3 |-; have HN3 := zpq (zah HX1.out HB3.out); have HR3 := zpq (zah HX2.out HB3.out); have HD3 := zpq (HD2.out.below HB3.out); have HW3 := zpq (zad HB2.out HB2.out.size HB3.out); clear hlk m0 m1 m2 n0 HSo HBx HX1 HX2 HD2; cases hst : st name.data.toList with
  | some v =>
   have HV := zpq (HD3.out.ok _ _ hst).1; have hq := HQ.out; have hl := HLi.out; have hlv := HLv.out; rw [hst] at hl hlv; simp only [zqZ] at hl; subst hl; have HE : Hid (aggV (valF rs rank (getT m) name.data.toList) = .agg #[.bool q0, .string q1]) := zpq (by rw [<- HV.out]; exact hlv.symm)
   have v0 : w3.cell? ⟨w2.heap.size, 0, none⟩ = some (.bool q0) := (zab HX3.out 0).trans rfl; have v1 : w3.cell? ⟨w2.heap.size, 1, none⟩ = some (.string q1) := (zab HX3.out 1).trans rfl; have r0 : w3.cell? ⟨w.heap.size + 1, 0, none⟩ = some (.bool false) := (zab HR3.out 0).trans rfl; have r1 : w3.cell? ⟨w.heap.size + 1, 1, none⟩ = some (.string ⟨#[]⟩) := (zab HR3.out 1).trans rfl; have f0 := zai HR3.out 0; have f1 := zai HR3.out 1; clear hq hlv hst; go_wp2_with fail; have HY3 : Hid (((w3.setCell ⟨w.heap.size + 1, 0, none⟩ (.bool q0)).setCell ⟨w.heap.size + 1, 1, none⟩ (.string q1)).heap[w.heap.size + 1]? = some (.cells #[.bool q0, .string q1] 34 (0, 0))) := zpq (zat (zat HR3.out 0 _ rfl) 1 _ rfl); have HB4 := zpq ((HW3.out.setCell (p := ⟨w.heap.size + 1, 0, none⟩) (zq4 _) (.bool q0)).setCell (p := ⟨w.heap.size + 1, 1, none⟩) (zq4 _) (.string q1)); generalize (w3.setCell ⟨w.heap.size + 1, 0, none⟩ (.bool q0)).setCell ⟨w.heap.size + 1, 1, none⟩ (.string q1) = w4 at HY3 HB4 |-; try simp only [Exit.inBlock, Exit.then]
   refine bodyPost_ret (zfp rfl _ _ _ rfl (zfF HY3.out)) rfl ?_; exact ⟨by rw [HE.out], ⟨st, HD0.out.below HB4.out⟩, zb6 HB4.out _⟩
  | none =>
   have hl := HLi.out; rw [hst] at hl; simp only [zqh] at hl; subst hl; have hIx := znu w.heap.size name A c rs w3 hn (Kd.C_below HR0.out HD3.out.b) ((zab HN3.out 0).trans rfl); obtain ⟨m0, m1, m2⟩ := HD3.out.cells; have HIx := zpq hIx; clear hIx HLi HLv HQ HX3; cases hp : zck rs name.data.toList with
   | none =>
    have HIx2 := zpq (HIx.out.mono (R' := fun e w' => e = .returned (.int .i64 (-1)) /\ Below w3.heap.size w3 w') (fun e w' ⟨h, hb⟩ => by
     rcases h with ⟨_, he⟩ | ⟨i, hi, _, hf⟩
     . exact ⟨he, hb⟩
     . rw [hp] at hf; cases hf))
    have HV := zpq (zli (rank := rank) (rd := getT m) hp); clear HIx hp hst; go_upto_region 6 with (first | (go_at_call 107; refine HIx2.out.mono ?_; rintro e w5 ⟨rfl, hb5⟩; have HB5 := zpq hb5; clear hb5))
    have HSo : Hid (∀ W, Below w3.heap.size w3 W -> W.cell? ⟨M, 1, none⟩ = some (.pointer (some ⟨gt, 0, none⟩)) /\ W.cell? ⟨w.heap.size, 0, none⟩ = some (.string name)) := zpq (fun W hW => ⟨(HD3.out.below hW).cells.2.1, (zab (zah HN3.out hW) 0).trans rfl⟩)
    have HTr : Hid (∀ W, Below w3.heap.size w3 W -> Calls Tryz.prog 109 #[.pointer (some ⟨gt, 0, none⟩), .string name] W fun e w' => e = .returned (.tuple #[.string (mk ((getT m name.data.toList).getD [])), .bool (getT m name.data.toList).isSome]) /\ Drawn0 W w') := zpq (fun W hW => tree_Read.calls W gt bt m (HT0.out.below (HD3.out.below hW).b) name HNs.out)
    have HBx : Hid (Below w3.heap.size w3 w5.drew) := zpq (zaV HB5.out); clear m0 m1 m2 HIx2; generalize mk ((getT m name.data.toList).getD []) = q2 at HTr HV; generalize (getT m name.data.toList).isSome = q3 at HTr HV; go_region_held3 (fun W => W.cell? ⟨M, 1, none⟩ = some (.pointer (some ⟨gt, 0, none⟩)) /\ W.cell? ⟨w.heap.size, 0, none⟩ = some (.string name))
     (first | exact HSo.out _ HB5.out | exact HSo.out _ HBx.out)
     (first | (go_at_call 109; refine (HTr.out _ HBx.out).mono ?_; rintro e w6 ⟨rfl, hd6⟩; have HBx := zpq (zad HBx.out HBx.out.size hd6.below); clear hd6))
    all_goals
     have HR6 := zpq (zah HR3.out HBx.out); have r0 : w6.cell? ⟨w.heap.size + 1, 0, none⟩ = some (.bool false) := (zab HR6.out 0).trans rfl; have r1 : w6.cell? ⟨w.heap.size + 1, 1, none⟩ = some (.string ⟨#[]⟩) := (zab HR6.out 1).trans rfl; have f0 := zai HR6.out 0; have f1 := zai HR6.out 1; go_wp2_with fail; have HY7 : Hid (((w6.setCell ⟨w.heap.size + 1, 0, none⟩ (.bool q3)).setCell ⟨w.heap.size + 1, 1, none⟩ (.string q2)).heap[w.heap.size + 1]? = some (.cells #[.bool q3, .string q2] 34 (0, 0))) := zpq (zat (zat HR6.out 0 _ rfl) 1 _ rfl); have HB7 := zpq (((HW3.out.trans (HBx.out.mono HW3.out.size)).setCell (p := ⟨w.heap.size + 1, 0, none⟩) (zq4 _) (.bool q3)).setCell (p := ⟨w.heap.size + 1, 1, none⟩) (zq4 _) (.string q2)); generalize (w6.setCell ⟨w.heap.size + 1, 0, none⟩ (.bool q3)).setCell ⟨w.heap.size + 1, 1, none⟩ (.string q2) = w7 at HY7 HB7 |-; try simp only [Exit.inBlock, Exit.then]
     refine bodyPost_ret (zfp rfl _ _ _ rfl (zfF HY7.out)) rfl ?_; exact ⟨by rw [HV.out]; rfl, ⟨st, HD0.out.below HB7.out⟩, zb6 HB7.out _⟩
   | some r =>
    have HIx2 := zpq (HIx.out.mono (R' := fun e w' => ∃ (i : Nat) (h : i < rs.length), e = .returned (.int .i64 i) /\ rs[i] = r /\ Below w3.heap.size w3 w') (fun e w' ⟨h, hb⟩ => by
     rcases h with ⟨hf, _⟩ | ⟨i, hi, he, hf⟩
     . rw [hp] at hf; cases hf
     . exact ⟨i, hi, he, (zp2 (hp.symm.trans hf)).symm, hb⟩))
    obtain ⟨hrm, on, hon, hone⟩ := zhg hp; obtain ⟨hfr, _, _, _⟩ := HF.out.fit r hrm; have HFr := zpq hfr; have HLow : Hid (∀ i ∈ r.f1, rank i.data.toList < N /\ i.size <= maxLen) := zpq (fun i hi => ⟨by have := hM.lower hp hi; have := HRk.out; omega, hfr.insN i hi⟩)
    have HRS := zpq (znm (rank := rank) hM (rd := getT m) hrm); have HOn : Hid (∃ o ∈ r.f2, o.data.toList = name.data.toList) := zpq ⟨on, hon, hone⟩; have HOv : Hid (∀ o ∈ r.f2, o.data.toList ∈ zb1 rs /\ o.size <= maxLen) := zpq (fun o ho => ⟨zkK hrm ho, hfr.outsN o ho⟩)
    have hl1 := hfr.ins; have hl2 := hfr.outs; clear HIx hp hst hrm hon hone hfr; go_upto_region 8 with (first | (go_at_call 107; refine HIx2.out.mono ?_; rintro e w5 ⟨i, hi, rfl, hir, hb5⟩; have HB5 := zpq hb5; have HIr := zpq hir; clear hb5 hir))
    have hiz : (i : Int) < (rs.length : Int) := by omega
    have HD5 := zpq (HD3.out.below HB5.out); obtain ⟨b, o, B1, c1, B2, c2, B3, c3, B4, c4, rfl, p0, p1, p2, p3, p4, hA, hC⟩ := zcV HR0.out i hi; replace p0 := zaf HD5.out.b p0
    replace p1 := zaf HD5.out.b p1
    replace p2 := zaf HD5.out.b p2
    replace p3 := zaf HD5.out.b p3
    replace p4 := zaf HD5.out.b p4
    rw [HIr.out] at p0 p1 p2 p3 p4 hA; obtain ⟨n0, n1, n2⟩ := HD5.out.cells; have hb6 := (zpt w5.heap.size w5).alloc (zpu _) (.cells (zaq r B1 c1 B2 c2 B3 c3 B4 c4) 45); have HX6 := zpq (zal w5 (.cells (zaq r B1 c1 B2 c2 B3 c3 B4 c4) 45)); have HA0 := zpq hA; have HD6 := zpq (HD5.out.below hb6); have HB6 : Hid (Below w3.heap.size w3 _) := zpq (zad HB5.out HB5.out.size hb6); clear hb6 hA hC m0 m1 m2; unfold zaq at HX6 HD6 HB6; go_upto_region 10 with fail; generalize hxb : w5.heap.size = XB at HX6 |-; generalize w5.alloc (.cells #[.string r.f0, .slice B1 r.f1.length c1, .slice B2 r.f2.length c2, .slice B3 r.f3.length c3, .slice B4 r.f4.length c4] 45) = w6 at HX6 HD6 HB6 |-; clear hxb p0 p1 p2 p3 p4 n0 n1 n2; have x1 : w6.cell? ⟨XB, 1, none⟩ = some (.slice B1 r.f1.length c1) := (zab HX6.out 1).trans rfl; have HW6 := zpq (HW3.out.trans (HB6.out.mono HW3.out.size)); have HM6 : Hid (M < w6.heap.size) := zpq (zaQ HD6.out.c); have HDl6 : Hid (D < w6.heap.size) := zpq HD6.out.d.lt; go_wp2_with fail; go_loopg [11, 13, 57] r.f1.length (fun gg s11 _ s57 wi => ∃ j : Nat, j <= r.f1.length /\ r.f1.length - j <= gg /\ s57 = .int .i64 j /\ Aside0 (RVal wi w6.heap.size s11 ((r.f1.take j).map fun i => valF rs rank (getT m) i.data.toList)) /\ Aside0 (∃ st', DSt rs rank m w0 (some ⟨b, o, none⟩) c gt bt M D wi st') /\ Aside0 (w6.grownBy wi (some D)))
    case atStart => exact ⟨0, zqf _, by omega, rfl, ⟨Kd.R_nil _ _ _ _ _⟩, ⟨st, HD6.out⟩, ⟨World.grownBy.refl _ _⟩⟩
    case round =>
     obtain ⟨j, hj, hgj, rfl, HO, HDi, HGi⟩ := hrel; obtain ⟨st2, hD2⟩ := HDi.out; have HD2 := zpq hD2; have HW0 : Hid (w0.heap.size <= w6.heap.size) := zpq HD6.out.b.size; by_cases hlj : j < r.f1.length
     . have hljz : (j : Int) < (r.f1.length : Int) := by omega
       obtain ⟨b5, o5, rfl, n0⟩ := zbi (Kd.C_below HA0.out.h1 hD2.b) j hlj; have hlo := HLow.out _ (zqD hlj); have hcall := HNr.out r.f1[j] wr st2 hlo.1 hlo.2 hD2; have hsu : (r.f1.take (j + 1)).map (fun i => valF rs rank (getT m) i.data.toList) = (r.f1.take j).map (fun i => valF rs rank (getT m) i.data.toList) ++ [valF rs rank (getT m) r.f1[j].data.toList] := by rw [zpW hlj, zqj]; rfl
       have hml : ((r.f1.take j).map (fun i => valF rs rank (getT m) i.data.toList)).length = j := by rw [zp6, List.length_take]; omega
       have HML := zpq hml; have HSu := zpq hsu; generalize valF rs rank (getT m) r.f1[j].data.toList = v at hcall HSu; generalize r.f1[j] = nm at n0 hcall; unfold zdR aggV at hcall; clear hD2 hlo hsu hml; go_wp2_with (first
        | (go_at_call 74; refine hcall.mono ?_; rintro e w7 ⟨rfl, ⟨st7, hD7⟩, hg7⟩; have HD7 := zpq hD7; have HG7 := zpq (zpC HGi.out hg7); have HO7 := zpq (zod HO.out hg7 HDl6.out); have HS7 := zpq HG7.out.size; have HBr := zpq (zpt w6.heap.size w7); clear hD7 hg7)
        | ((with_reducible refine zaG (b := .append) (xs := #[.tmp 61, .tmp 65]) rfl ?_); at_builtin; refine Kd.R_append k34 (w0 := w7) w6.heap.size rfl (.tmp 61) (.tmp 65) 25 34 (.agg #[.bool false, .string ⟨#[]⟩]) 24 rfl Tryz.underlying25 zcH rfl (by decide) (by decide) u11 ((r.f1.take j).map (fun i => valF rs rank (getT m) i.data.toList)) v [.bool v.f0, .string v.f1] (fun _ => True) (fun k_ => True /\ some k_ ≠ u11.ownBlock) rfl rfl (zco _ _ _ v) (fun _ hk => hk) (fun _ _ => trivial) HO7.out HBr.out HS7.out ?aL ?_; (case aL => (have h1 := HML.out; omega)); intro v1 w8 ho hb hg hat; have HO8 : Hid (RVal w8 w6.heap.size v1 ((r.f1.take (j + 1)).map (fun i => valF rs rank (getT m) i.data.toList))) := (by show RVal _ _ _ _; rw [HSu.out]; exact ho); have HB8 := zpq hb; clear ho hb hg hat))
       go_roundg (r.f1.length - (j + 1))
       case measure => omega
       case rel => exact ⟨j + 1, by omega, by omega, by first | rfl | go_num, ⟨HO8.out⟩, ⟨st7, HD7.out.belowL HB8.out HM6.out HDl6.out HW0.out⟩, ⟨zeI HG7.out HB8.out⟩⟩
     . have hljz : ¬ (j : Int) < (r.f1.length : Int) := by omega
       obtain rfl : j = r.f1.length := by omega
       have hO := HO.out; rw [zqa] at hO; obtain ⟨A5, n5, rfl, _, hC5⟩ := Kd.R_reads hO; have hOf := zga r B1 c1 B2 c2 B3 c3 B4 c4 A5 n5 _ wr (HG0.out.below hD2.b) (Kd.C_below HA0.out.h1 hD2.b) (Kd.C_below HA0.out.h2 hD2.b) (Kd.C_below HA0.out.h4 hD2.b) hC5 HFr.out (fun v hv => by
        obtain ⟨i, _, rfl⟩ := zqN.1 hv; exact zl7 hrd _)
       rw [HRS.out, zp6] at hOf; rw [zp6]; have hX := zaT HX6.out HGi.out (by intro e; injection e with e; exact HD6.out.d.ne_cells HX6.out e.symm)
       have HXr := zpq hX; have y0 : wr.cell? ⟨XB, 0, none⟩ = some (.string r.f0) := (zab hX 0).trans rfl; have y1 : wr.cell? ⟨XB, 1, none⟩ = some (.slice B1 r.f1.length c1) := (zab hX 1).trans rfl; have y2 : wr.cell? ⟨XB, 2, none⟩ = some (.slice B2 r.f2.length c2) := (zab hX 2).trans rfl; have y3 : wr.cell? ⟨XB, 3, none⟩ = some (.slice B3 r.f3.length c3) := (zab hX 3).trans rfl; have y4 : wr.cell? ⟨XB, 4, none⟩ = some (.slice B4 r.f4.length c4) := (zab hX 4).trans rfl; unfold zaq at hOf; clear hO hC5 hX hD2; go_upto_region 16 with (first | (go_at_call 34; refine hOf.mono ?_; rintro e w9 ⟨v9, rfl, hR9, hb9⟩; have HR9 := zpq hR9; have HB9 := zpq hb9; obtain ⟨A9, c9, rfl, _, hC9⟩ := Kd.R_reads hR9; have HC9 := zpq hC9; clear hR9 hb9 hC9))
       have hlm : (r.f2.map fun o => valF rs rank (getT m) o.data.toList).length = r.f2.length := zp6 ..
       have HC9 : Hid (Kd.C k34 w9 A9 (r.f2.map fun o => valF rs rank (getT m) o.data.toList).length (r.f2.map fun o => valF rs rank (getT m) o.data.toList)) := zpq HC9.out
       try rw [hlm]
       have HD9 := zpq (HD2.out.below HB9.out); have HG9 := zpq (zeI HGi.out (HB9.out.mono HGi.out.size)); have HX9 := zpq (zah HXr.out HB9.out); clear hlm y0 y1 y2 y3 y4 hOf; go_wp2_with fail; go_loopg [14, 15, 72] r.f2.length (fun gg _ _ s72 wi => ∃ k : Nat, k <= r.f2.length /\ r.f2.length - k <= gg /\ s72 = .int .i64 k /\ Aside0 (∃ st', DSt rs rank m w0 (some ⟨b, o, none⟩) c gt bt M D wi st' /\ ∀ x ∈ r.f2.take k, (st' x.data.toList).isSome = true) /\ Aside0 (w9.grownBy wi (some D)))
       case atStart => exact ⟨0, zqf _, by omega, rfl, ⟨st2, HD9.out, fun x hx => by simp at hx⟩, ⟨World.grownBy.refl _ _⟩⟩
       case round =>
        obtain ⟨k, hk, hgk2, rfl, HDk, HGk⟩ := hrel; obtain ⟨st3, hD3, hall⟩ := HDk.out; have HAll := zpq hall; have HD3 := zpq hD3; have hXk := zaT HX9.out HGk.out (by intro e; injection e with e; exact HD9.out.d.ne_cells HX9.out e.symm)
        have HXk := zpq hXk; by_cases hlk : k < r.f2.length
        . have hlkz : (k : Int) < (r.f2.length : Int) := by omega
          have hlk2 : k < (r.f2.map fun o => valF rs rank (getT m) o.data.toList).length := by rw [zp6]; exact hlk
          obtain ⟨b7, o7, rfl, v0, v1⟩ := zc6 HC9.out k hlk2; replace v0 := zcP v0 HGk.out (fun g t cs fr h => HD9.out.d.ne_cells h)
          replace v1 := zcP v1 HGk.out (fun g t cs fr h => HD9.out.d.ne_cells h)
          have hge : (r.f2.map fun o => valF rs rank (getT m) o.data.toList)[k] = valF rs rank (getT m) r.f2[k].data.toList := List.getElem_map ..
          rw [hge] at v0 v1; obtain ⟨b8, o8, rfl, q8⟩ := zbi (Kd.C_below HA0.out.h2 hD3.b) k hlk; obtain ⟨hov, hos⟩ := HOv.out _ (zqD hlk); have hb10 := (zpt wr.heap.size wr).alloc (zpu _) (.cells #[.bool (valF rs rank (getT m) r.f2[k].data.toList).f0, .string (valF rs rank (getT m) r.f2[k].data.toList).f1] 34); have HV10 := zpq (zal wr (.cells #[.bool (valF rs rank (getT m) r.f2[k].data.toList).f0, .string (valF rs rank (getT m) r.f2[k].data.toList).f1] 34)); have HB10 := zpq hb10; have hD10 := hD3.below hb10; have HBx : Hid (Below _ _ _) := zpq (zaV (zpt (wr.alloc (.cells #[.bool (valF rs rank (getT m) r.f2[k].data.toList).f0, .string (valF rs rank (getT m) r.f2[k].data.toList).f1] 34)).heap.size (wr.alloc (.cells #[.bool (valF rs rank (getT m) r.f2[k].data.toList).f0, .string (valF rs rank (getT m) r.f2[k].data.toList).f1] 34)))); obtain ⟨w11, hrun, hD11, hg11⟩ := (hD10.below HBx.out).put HF.out r.f2[k] hos hov; have HAll2 : Hid (∀ x ∈ r.f2.take (k + 1), (setG st3 r.f2[k].data.toList (valF rs rank (getT m) r.f2[k].data.toList) x.data.toList).isSome = true) := zpq (fun x hx => by
           rw [zpW hlk] at hx; unfold setG; split
           . rfl
           . rename_i hne
             rcases zqW.1 hx with hx | hx
             . exact hall x hx
             . rw [zqR.1 hx] at hne
               exact absurd rfl hne)
          have HD11 := zpq hD11; have HG11 := zpq hg11; have HXx := zpq (zah hXk hb10); have HQ10 := zpq (zaf hb10 q8); have HNe := zpq (fun (g t : Nat) (cs : Array Value) (fr : Nat × Nat) h => hD10.d.ne_cells (a := g) (t := t) (cs := cs) (fr := fr) h)
          have HD10 := zpq hD10; unfold aggV at hrun; generalize valF rs rank (getT m) r.f2[k].data.toList = v at v0 v1 HV10 HB10 HBx hrun HAll2 HD11 HG11 HXx HQ10 HNe HD10; generalize r.f2[k] = nm at q8 hrun HAll2 HD11 HQ10; clear hb10 hD10 hD11 hg11 hge hlk2 hov hos hall hD3 hXk; go_upto_region 18 with fail; generalize wr.alloc (.cells #[.bool v.f0, .string v.f1] 34) = w10 at HV10 HB10 HBx hrun HD11 HG11 HXx HQ10 HNe HD10 |-; have HSo : Hid (∀ W, Below w10.heap.size w10 W -> W.cell? ⟨M, 2, none⟩ = some (.map (some D)) /\ W.cell? ⟨XB, 2, none⟩ = some (.slice (some ⟨b8, o8, none⟩) r.f2.length c2) /\ W.cell? ⟨b8, o8 + k, none⟩ = some (.string nm) /\ W.cell? ⟨wr.heap.size, 0, none⟩ = some (.bool v.f0) /\ W.cell? ⟨wr.heap.size, 1, none⟩ = some (.string v.f1)) := zpq (fun W hW => ⟨(HD10.out.below hW).cells.2.2, (zab (zah HXx.out hW) 2).trans rfl, zaf hW HQ10.out, (zab (zah HV10.out hW) 0).trans rfl, (zab (zah HV10.out hW) 1).trans rfl⟩)
          have HS11 : Hid (w11.cell? ⟨M, 2, none⟩ = some (.map (some D)) /\ w11.cell? ⟨XB, 2, none⟩ = some (.slice (some ⟨b8, o8, none⟩) r.f2.length c2) /\ w11.cell? ⟨b8, o8 + k, none⟩ = some (.string nm) /\ w11.cell? ⟨wr.heap.size, 0, none⟩ = some (.bool v.f0) /\ w11.cell? ⟨wr.heap.size, 1, none⟩ = some (.string v.f1)) := zpq (by
           obtain ⟨a1, a2, a3, a4, a5⟩ := HSo.out _ HBx.out; have hne : ∀ (g t : Nat) (cs : Array Value) (fr : Nat × Nat), w10.drew.heap[g]? = some (Obj.cells cs t fr) -> D ≠ g := fun g t cs fr h => HNe.out g t cs fr h
           exact ⟨zcP a1 HG11.out hne, zcP a2 HG11.out hne, zcP a3 HG11.out hne, zcP a4 HG11.out hne, zcP a5 HG11.out hne⟩)
          clear v0 v1 q8; go_region_held3 (fun W => W.cell? ⟨M, 2, none⟩ = some (.map (some D)) /\ W.cell? ⟨XB, 2, none⟩ = some (.slice (some ⟨b8, o8, none⟩) r.f2.length c2) /\ W.cell? ⟨b8, o8 + k, none⟩ = some (.string nm) /\ W.cell? ⟨wr.heap.size, 0, none⟩ = some (.bool v.f0) /\ W.cell? ⟨wr.heap.size, 1, none⟩ = some (.string v.f1))
           (first | exact HSo.out _ (zpt _ _) | exact HSo.out _ HBx.out | exact HS11.out)
           (fail)
          all_goals
           have HG12 := zpq (zpC (zeI HGk.out ((HB10.out.trans (HBx.out.mono HB10.out.size)).mono HGk.out.size)) HG11.out); go_wp2_with fail; go_roundg (r.f2.length - (k + 1))
           case measure => omega
           case rel => exact ⟨k + 1, by omega, by omega, by first | rfl | go_num, ⟨_, HD11.out, HAll2.out⟩, ⟨HG12.out⟩⟩
        . have hlkz : ¬ (k : Int) < (r.f2.length : Int) := by omega
          obtain rfl : k = r.f2.length := by omega
          obtain ⟨on, hon, hone⟩ := HOn.out; have hsome := hall on (by rw [zqa]; exact hon)
          rw [hone] at hsome; obtain ⟨vn, hvn⟩ := Option.isSome_iff_exists.1 hsome; obtain ⟨hv, _⟩ := hD3.ok _ _ hvn; have HVn := zpq hv; have hM0 : M < w.heap.size := zaQ HD0.out.c; have hlo := HD0.out.b.size; have HG6 := zpq (zpC HG9.out HGk.out); have HNk := zpq (zaT (zah HN3.out HB6.out) HG6.out (by have h := HDn.out; intro e; injection e with e; omega))
          have HRk := zpq (zaT (zah HR3.out HB6.out) HG6.out (by have h := HDn.out; intro e; injection e with e; omega))
          have HSo : Hid (∀ W, Below w.heap.size wr W -> W.heap[w.heap.size]? = some (.cells #[.string name] 9 (0, 0)) -> W.cell? ⟨M, 2, none⟩ = some (.map (some D)) /\ W.cell? ⟨w.heap.size, 0, none⟩ = some (.string name) /\ (Instr.lookup 91 (.map (some D)) (.string name) false).run Tryz.prog W = .ok (aggV vn) W) := zpq (fun W hW hN => by
           have hd := hD3.belowL hW hM0 HDn.out hlo; have hl := hd.d.look name HNs.out; rw [hvn] at hl; exact ⟨hd.cells.2.2, (zab hN 0).trans rfl, hl⟩)
          have HBw : Hid (Below w.heap.size wr wr.drew) := zpq (zaV (zpt _ _)); have HB12 := zpq ((HBw.out.setCell (p := ⟨w.heap.size + 1, 0, none⟩) (zq4 _) (.bool vn.f0)).setCell (p := ⟨w.heap.size + 1, 1, none⟩) (zq4 _) (.string vn.f1)); have HN12 : Hid (((wr.drew.setCell ⟨w.heap.size + 1, 0, none⟩ (.bool vn.f0)).setCell ⟨w.heap.size + 1, 1, none⟩ (.string vn.f1)).heap[w.heap.size]? = some (.cells #[.string name] 9 (0, 0))) := zpq (zaS (zaS (zax HNk.out) (p := ⟨w.heap.size + 1, 0, none⟩) (show w.heap.size ≠ w.heap.size + 1 by omega) _) (p := ⟨w.heap.size + 1, 1, none⟩) (show w.heap.size ≠ w.heap.size + 1 by omega) _)
          have HR12 : Hid (((wr.drew.setCell ⟨w.heap.size + 1, 0, none⟩ (.bool vn.f0)).setCell ⟨w.heap.size + 1, 1, none⟩ (.string vn.f1)).heap[w.heap.size + 1]? = some (.cells #[.bool vn.f0, .string vn.f1] 34 (0, 0))) := zpq (zat (zat (zax HRk.out) 0 _ rfl) 1 _ rfl); have r0 : wr.drew.cell? ⟨w.heap.size + 1, 0, none⟩ = some (.bool false) := (zab (zax HRk.out) 0).trans rfl; have r1 : wr.drew.cell? ⟨w.heap.size + 1, 1, none⟩ = some (.string ⟨#[]⟩) := (zab (zax HRk.out) 1).trans rfl; have f0 : wr.drew.frozen? ⟨w.heap.size + 1, 0, none⟩ = false := zai (zax HRk.out) 0; have f1 : wr.drew.frozen? ⟨w.heap.size + 1, 1, none⟩ = false := zai (zax HRk.out) 1; have r0w : wr.cell? ⟨w.heap.size + 1, 0, none⟩ = some (.bool false) := (zab HRk.out 0).trans rfl; have r1w : wr.cell? ⟨w.heap.size + 1, 1, none⟩ = some (.string ⟨#[]⟩) := (zab HRk.out 1).trans rfl; have f0w : wr.frozen? ⟨w.heap.size + 1, 0, none⟩ = false := zai HRk.out 0; have f1w : wr.frozen? ⟨w.heap.size + 1, 1, none⟩ = false := zai HRk.out 1; have HS1 := zpq (HSo.out wr (zpt _ _) HNk.out); have HS2 := zpq (HSo.out wr.drew HBw.out (zax HNk.out)); have HS3 := zpq (HSo.out _ HB12.out HN12.out); have HDk2 := zpq hD3; unfold aggV at HS1 HS2 HS3; clear hon hone hsome hvn hv hD3 hall hXk; go_upto_region 20 with fail; go_region_held3 (fun W => W.cell? ⟨M, 2, none⟩ = some (.map (some D)) /\ W.cell? ⟨w.heap.size, 0, none⟩ = some (.string name) /\ (Instr.lookup 91 (.map (some D)) (.string name) false).run Tryz.prog W = .ok (.agg #[.bool vn.f0, .string vn.f1]) W)
           (first | exact HS1.out | exact HS2.out | exact HS3.out)
           (fail)
          all_goals
           have HR13 : Hid ((((wr.setCell ⟨w.heap.size + 1, 0, none⟩ (.bool vn.f0)).setCell ⟨w.heap.size + 1, 1, none⟩ (.string vn.f1)).drew).heap[w.heap.size + 1]? = some (.cells #[.bool vn.f0, .string vn.f1] 34 (0, 0))) := zpq (zax (zat (zat HRk.out 0 _ rfl) 1 _ rfl)); have HB13 := zpq (zaV (((zpt w.heap.size wr).setCell (p := ⟨w.heap.size + 1, 0, none⟩) (zq4 _) (.bool vn.f0)).setCell (p := ⟨w.heap.size + 1, 1, none⟩) (zq4 _) (.string vn.f1))); generalize ((wr.setCell ⟨w.heap.size + 1, 0, none⟩ (.bool vn.f0)).setCell ⟨w.heap.size + 1, 1, none⟩ (.string vn.f1)).drew = w13 at HR13 HB13 |-; go_wp2_with fail; try simp only [Exit.inBlock, Exit.then]
           refine bodyPost_ret (zfp rfl _ _ _ rfl (zfF HR13.out)) rfl ?_; exact ⟨by rw [<- HVn.out]; rfl, ⟨st3, HDk2.out.belowL HB13.out hM0 HDn.out hlo⟩, zeI (zpC (zb6 HW6.out (some D)) HG6.out) HB13.out⟩

theorem zhy (rs : List zaj) (rank : zaa -> Nat) (m : TM) (w0 : World) (A : Option Addr) (c gt bt M D : Nat) (hM : Mean rs rank) (hrd : ∀ k v, getT m k = some v -> v.length <= 4194304) (hr0 : Kd.C k45 w0 A rs.length rs) (hT : IsTree w0 gt bt m) (hG : GOK w0) :
 ∀ (N : Nat) (name : ByteArray) (w : World) (st : zaa -> Option SVal), rank name.data.toList < N -> name.size <= maxLen -> DSt rs rank m w0 A c gt bt M D w st -> Calls Tryz.prog 74 #[.pointer (some ⟨M, 0, none⟩), .string name] w (zdR rs rank m w0 A c gt bt M D (valF rs rank (getT m) name.data.toList) w)
 | 0, _, _, _, h, _, _ => absurd h (Nat.not_lt_zero _)
 | N + 1, name, w, st, h, hs, hD => zkQ rs rank m w0 A c gt bt M D hM hrd hr0 hT hG N (zhy rs rank m w0 A c gt bt M D hM hrd hr0 hT hG N) name w st h hs hD

end Go.Proofs.YtdpgdnpddndeoaaGreatDoor.X
