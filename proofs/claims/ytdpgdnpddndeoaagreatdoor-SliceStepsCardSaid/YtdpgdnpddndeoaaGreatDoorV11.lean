/-
  What the cards lean on (part V11): contracts of functions, by hand, and plain laws; what is printed by the kit's print for this seat is among them. What is not reached is left out.
-/
import Derived.Test.YtdpgdnpddndeoaaGreatDoorV10
import Derived.Test.YtdpgdnpddndeoaaGreatDoorV2
set_option maxHeartbeats 16000000
set_option maxRecDepth 100000
set_option linter.unusedSimpArgs false
set_option linter.unusedVariables false
open Go.RowKit.Below renaming refl -> zpw
open Nat renaming le_refl -> zpx, le_trans -> zpD, zero_le -> zqk, le_succ -> zrd
open Go.World.grownBy renaming trans -> zpF
open List renaming length_map -> zqe, length_take -> zpI, length_append -> zpK, take_length -> zqf, take_succ_eq_append_getElem -> zpZ, mem_singleton -> zq6, mem_append -> zq7, append_assoc -> zq8, map_append -> zqo, mem_of_find?_eq_some -> zrb, getElem_mem -> zqQ, map_congr_left -> zrc, mem_map -> zqR
open Option.some renaming inj -> zp6
open Int renaming toNat_natCast -> zqN
open Option renaming isSome_none -> zqm, getD_none -> zq9, isSome_some -> zra, getD_some -> zqp
open Go.Proofs.Tryz renaming prog -> zp5
open Go.Proofs.YtdpgdnpddndeoaaGreatDoorW.PrintWords.Kd renaming C_below -> zqS, string -> zqb, R_reads -> zqq, R_below -> zqu
namespace Go.Proofs.YtdpgdnpddndeoaaGreatDoor
namespace X
open Go.RowKit Go.Maps YtdpgdnpddndeoaaGreatDoorW.PrintWords YtdpgdnpddndeoaaGreatDoorW.PrintMore YtdpgdnpddndeoaaGreatDoorW.PrintLast
def zaW (g : zaa -> Option (List ByteArray)) : zaa -> List zaa := fun x => zab ((g x).getD [])
def zdH (b : Option Nat) : Int := match b with
 | none => -1
 | some k => k
def zgp (o : Option (List zaa)) (w : World) (e : Ending) (w' : World) : Prop := ∃ v, e = .returned v /\ (match o with
 | none => v = .slice none 0 0
 | some l => ∃ r, zab r = l /\ RS w' w.heap.size v r) /\ Below w.heap.size w w'
structure NeedsAt (w : World) (b n : Nat) (g : zaa -> Option (List ByteArray)) (nodes : List zaa) (f : zaa -> Option Value) : Prop where
 m : MapIs zp5 9 w b n f
 same : ∀ k, (f k).isSome = (g k).isSome
 row : ∀ k v l, f k = some v -> g k = some l -> zgx w v l
 inN : ∀ k l, g k = some l -> k ∈ nodes /\ l.length <= 2000 /\ ∀ y ∈ l, y.size <= maxLen
 few : nodes.length <= 1000
theorem NeedsAt.get {w : World} {b n : Nat} {g : zaa -> Option (List ByteArray)} {nodes : List zaa} {f : zaa -> Option Value} (h : NeedsAt w b n g nodes f) {k : zaa} {v : Value} (hv : f k = some v) : ∃ l A c, g k = some l /\ v = .slice A l.length c /\ Kd.C zqb w A l.length l /\ k ∈ nodes /\ l.length <= 2000 /\ ∀ y ∈ l, y.size <= maxLen := by
 have := h.same k; rw [hv] at this; cases hg : g k with
 | none => rw [hg] at this; cases this
 | some l =>
  obtain ⟨A, c, e, hC⟩ := h.row k v l hv hg; obtain ⟨i1, i2, i3⟩ := h.inN k l hg; exact ⟨l, A, c, rfl, e, hC, i1, i2, i3⟩
theorem NeedsAt.getG {w : World} {b n : Nat} {g : zaa -> Option (List ByteArray)} {nodes : List zaa} {f : zaa -> Option Value} (h : NeedsAt w b n g nodes f) {k : zaa} {l : List ByteArray} (hv : g k = some l) : ∃ A c, f k = some (.slice A l.length c) /\ Kd.C zqb w A l.length l := by
 have := h.same k; rw [hv] at this; cases hf : f k with
 | none => rw [hf] at this; cases this
 | some v =>
  obtain ⟨A, c, e, hC⟩ := h.row k v l hf hv; exact ⟨A, c, by rw [e], hC⟩
structure BSt (g : zaa -> Option (List ByteArray)) (nodes : List zaa) (t : zaa) (w : World) (K m : Nat) (fd : zaa -> Option Nat) (w0 : World) : Prop where
 inv : FarInv (zaW g) nodes t fd
 st : ∃ n, FSt w K m n fd /\ n + phiN nodes fd <= 1000001
 b : Below w0.heap.size w0 w
theorem BSt.below {g : zaa -> Option (List ByteArray)} {nodes : List zaa} {t : zaa} {w w' : World} {K m : Nat} {fd : zaa -> Option Nat} {w0 : World} (h : BSt g nodes t w K m fd w0) (hb : Below w.heap.size w w') : BSt g nodes t w' K m fd w0 := by
 obtain ⟨n, hs, hn⟩ := h.st; exact ⟨h.inv, ⟨n, hs.below hb, hn⟩, zac h.b h.b.size hb⟩
theorem BSt.grown {g : zaa -> Option (List ByteArray)} {nodes : List zaa} {t : zaa} {w w' : World} {K m r : Nat} {fd : zaa -> Option Nat} {w0 : World} (h : BSt g nodes t w K m fd w0) (hg : w.grownBy w' (some r)) (h1 : K ≠ r) (h2 : m ≠ r) (h3 : w0.heap.size <= r) : BSt g nodes t w' K m fd w0 := by
 obtain ⟨n, hs, hn⟩ := h.st; exact ⟨h.inv, ⟨n, hs.grown hg (by intro e; injection e with e; exact h1 e) (by intro e; injection e with e; exact h2 e), hn⟩, h.b.grown hg h.b.size (fun k hk => by cases hk; exact h3)⟩
theorem BSt.put {g : zaa -> Option (List ByteArray)} {nodes : List zaa} {t y : zaa} {w : World} {K m d : Nat} {fd : zaa -> Option Nat} {w0 : World} (h : BSt g nodes t w K m fd w0) (hm : w0.heap.size <= m) (x : ByteArray) (hs : x.size <= maxLen) (hx : x.data.toList ∈ nodes) (hy : y ∈ zaW g x.data.toList) (hd : fd y = some d) (hn : ∀ e, fd x.data.toList = some e -> d + 1 < e) :
 ∃ w', (Instr.mapUpdate 162 (.map (some m)) (.string x) (.int .i64 ((d : Int) + 1))).run zp5 w = .ok () w' /\ BSt g nodes t w' K m (setG fd x.data.toList (d + 1)) w0 /\ phiN nodes (setG fd x.data.toList (d + 1)) < phiN nodes fd /\ w.grownBy w' (some m) := by
 obtain ⟨n, hst, hsn⟩ := h.st; obtain ⟨hi, hphi⟩ := h.inv.put hx hy hd hn; obtain ⟨w', hrun, hst', hg⟩ := hst.put (by unfold maxLen; omega) x hs (d + 1)
 exact ⟨w', hrun, ⟨hi, ⟨n + 1, hst', by omega⟩, h.b.grown hg h.b.size (fun k hk => by cases hk; exact hm)⟩, hphi, hg⟩
theorem BSt.grownL {g : zaa -> Option (List ByteArray)} {nodes : List zaa} {t : zaa} {w w' : World} {K m L : Nat} {row : Option Nat} {fd : zaa -> Option Nat} {w0 : World} (h : BSt g nodes t w K m fd w0) (hg : w.grownBy w' row) (hr : ∀ k, row = some k -> L <= k) (h1 : K < L) (h2 : m < L) (h3 : w0.heap.size <= L) : BSt g nodes t w' K m fd w0 := by
 obtain ⟨n, hs, hn⟩ := h.st; exact ⟨h.inv, ⟨n, hs.grown hg (fun e => by have := hr K e.symm; omega) (fun e => by have := hr m e.symm; omega), hn⟩, h.b.grown hg h.b.size (fun k hk => by have := hr k hk; omega)⟩
def JAt (w : World) (J : Nat) (v : Int) : Prop := w.heap[J]? = some (.cells #[.int .i64 v] 3 (0, 0))
theorem BSt.set {g : zaa -> Option (List ByteArray)} {nodes : List zaa} {t : zaa} {w : World} {K m J : Nat} {v : Int} {fd : zaa -> Option Nat} {w0 : World} (h : BSt g nodes t w K m fd w0) (hJ : JAt w J v) (hne : K < J) (h3 : w0.heap.size <= J) (u : Value) : BSt g nodes t (w.setCell ⟨J, 0, none⟩ u) K m fd w0 := by
 obtain ⟨n, ⟨hc, f, hM, hf⟩, hn⟩ := h.st; exact ⟨h.inv, ⟨n, ⟨zaP hc (p := ⟨J, 0, none⟩) (show K ≠ J by omega) u, f, hM.kept (Below.heap_setCell w ⟨J, 0, none⟩ u m (hM.ne_cells hJ)), hf⟩, hn⟩, h.b.setCell (p := ⟨J, 0, none⟩) h3 u⟩
theorem JAt.set {w : World} {J : Nat} {v : Int} (h : JAt w J v) (v' : Int) : JAt (w.setCell ⟨J, 0, none⟩ (.int .i64 v')) J v' := zav h 0 _ rfl
theorem JAt.cell {w : World} {J : Nat} {v : Int} (h : JAt w J v) : w.cell? ⟨J, 0, none⟩ = some (.int .i64 v) := (zah h 0).trans rfl
theorem zjU (far : zaa -> Option Nat) (l : List zaa) (y : zaa) : zbI far (l ++ [y]) = zbG (zbI far l) (far y) := by
 unfold zbI; rw [List.foldl_append]; rfl
theorem NeedsAt.look {w W : World} {b n : Nat} {g : zaa -> Option (List ByteArray)} {nodes : List zaa} {f : zaa -> Option Value} (h : NeedsAt w b n g nodes f) (hB : Below w.heap.size w W) (k : ByteArray) (hs : k.size <= maxLen) {v : Value} (hf : f k.data.toList = some v) :
 (Instr.lookup 125 (.map (some b)) (.string k) false).run zp5 W = .ok v W := by
 rw [(h.m.below hB).look Tryz.underlying9 Tryz.underlying125 (Tryz.zeroValue22 W) k hs, hf]; rfl
def ClosedTo (fd : zaa -> Option Nat) (x : zaa) (l : List zaa) : Prop := ∀ y ∈ l, ∀ d, fd y = some d -> ∃ e, fd x = some e /\ e <= d + 1
theorem ClosedTo.snoc {fd : zaa -> Option Nat} {x y : zaa} {l : List zaa} (h : ClosedTo fd x l) (hy : ∀ d, fd y = some d -> ∃ e, fd x = some e /\ e <= d + 1) : ClosedTo fd x (l ++ [y]) := by
 intro z hz; rcases zq7.1 hz with hz | hz
 . exact h z hz
 . rw [zq6.1 hz]
   exact hy
theorem zh2 (l : List ByteArray) (j : Nat) (h : j < l.length) : zab (l.take (j + 1)) = zab (l.take j) ++ [l[j].data.toList] := by
 rw [zpZ h]; unfold zab; rw [zqo]; rfl
theorem zkL (b n : Nat) (g : zaa -> Option (List ByteArray)) (nodes : List zaa) (f : zaa -> Option Value) (t : ByteArray) (w : World) (hA : NeedsAt w b n g nodes f) (ht : (g t.data.toList).isSome = true) (hts : t.size <= maxLen) :
 Calls zp5 106 #[.map (some b), .string t] w fun e w' => ∃ far, IsFar (zaW g) t.data.toList far /\ zgp (wayF (zaW g) far t.data.toList) w e w' := by
 obtain ⟨l0, hl0⟩ := Option.isSome_iff_exists.1 ht; obtain ⟨htn, h0n, h0s⟩ := hA.inN _ _ hl0; have hmm := @run_makeMap zp5; obtain ⟨w1, hrun', hI1, hg1⟩ := (IntIs.made w).put (by unfold maxLen; omega) t hts 0
 have hrun : (Instr.mapUpdate 162 (.map (some w.heap.size)) (.string t) (.int .i64 0)).run zp5 (w.alloc (.map #[] 0)) = .ok () w1 := hrun'; have hB1 := ((zpw w.heap.size w).alloc (zpx _) (.map #[] 0)).grown hg1 ((zpw w.heap.size w).alloc (zpx _) (.map #[] 0)).size (fun k hk => by cases hk; exact zpx _)
 have hlt1 : w.heap.size < w1.heap.size := hI1.lt; have HB2 := zpt (hB1.alloc hB1.size (.cells #[.map (some w.heap.size)] 162)); have hb2 := (zpw w1.heap.size w1).alloc (zpx _) (.cells #[.map (some w.heap.size)] 162); have HF2 : Hid (FSt (w1.alloc (.cells #[.map (some w.heap.size)] 162)) w1.heap.size w.heap.size 1 (setG (fun _ => none) t.data.toList 0)) := zpt ⟨zap w1 _, hI1.below hb2⟩
 have HI := zpt (FarInv.init (zaW g) htn); have HA := zpt hA; have HTS := zpt hts; have HBm := zpt hA.m.lt; have H00 := zpt hl0; have H0s := zpt h0s; have HP0 : Hid (1 + phiN nodes (setG (fun _ => none) t.data.toList 0) <= 1000001) := zpt (by
  have h1 := HI.out.phi; have h2 : nodes.length * nodes.length <= 1000 * 1000 := Nat.mul_le_mul hA.few hA.few; omega)
 clear hrun' hI1 hg1 hB1 hb2 hA hts hl0 h0s ht htn; go_enter Tryz.func106, Tryz.ntmps106
 go_upto_region 2 with fail; generalize hK : w1.heap.size = K at hlt1 HF2 |-; generalize w1.alloc (.cells #[.map (some w.heap.size)] 162) = w2 at HB2 HF2 |-; clear hK hrun; go_wp2_with fail; go_loopg [6, 7, 8, 10, 11, 12, 13, 14] (phiN nodes (setG (fun _ => none) t.data.toList 0) + 1) (fun gg s6 _ _ _ _ _ _ _ wr => ∃ fd td, s6 = .bool td /\ (td = true -> phiN nodes fd + 1 <= gg) /\ Aside0 (BSt g nodes t.data.toList wr K w.heap.size fd w) /\ Aside0 (td = false -> ∀ x, zc3 (zaW g) fd x))
 case atStart => exact ⟨_, true, rfl, fun _ => zpx _, ⟨⟨HI.out, ⟨1, HF2.out, HP0.out⟩, HB2.out⟩⟩, ⟨fun h => by cases h⟩⟩
 case round =>
  obtain ⟨fd, td, rfl, hgk, HS, HC⟩ := hrel; obtain ⟨wq, rfl⟩ : ∃ wq, wq = wr := ⟨wr, rfl⟩; cases td with
  | true =>
   have hgk := hgk rfl; have HMb := zpt (HA.out.m.below HS.out.b); have HKq : Hid (K < wq.heap.size) := by obtain ⟨_, h, _⟩ := HS.out.st; exact zpt (za1 h.c)
   clear hmm; go_wp2_with (first | (at_range; refine zkm rfl _ rfl Tryz.underlying9 Tryz.underlying125 rfl HMb.out ?_; intro w3 cnt hrg hcn hg3 hs3; have HRg := zpt hrg; have HG3 := zpt hg3; clear hrg hg3))
   go_loopg [6, 7, 8, 10, 11, 12, 13, 14] cnt (fun gg s6 _ _ _ _ _ _ _ wr => ∃ fd' td left cn, cn <= gg /\ s6 = .bool td /\ phiN nodes fd' <= phiN nodes fd /\ (td = true -> phiN nodes fd' + 1 <= phiN nodes fd) /\ Aside0 (RangesIs zp5 9 wr b wq.heap.size n f left cn) /\ Aside0 (BSt g nodes t.data.toList wr K w.heap.size fd' w) /\ Aside0 (td = false -> ∀ x, left x = false -> zc3 (zaW g) fd' x))
   case atStart => exact ⟨fd, false, _, cnt, zpx _, rfl, zpx _, (fun h => by cases h), ⟨HRg.out⟩, ⟨HS.out.below ((zpw wq.heap.size wq).grown HG3.out (zpx _) (fun k hk => by cases hk))⟩, ⟨fun _ x hx y hy => by
    exfalso
    have h1 := HA.out.same x; cases hgx : g x with
    | none => unfold zaW at hy; rw [hgx] at hy; exact absurd hy (by simp [zab])
    | some l => rw [hgx, hx] at h1; cases h1⟩⟩
   case round =>
    obtain ⟨fd2, td2, left, cn, hcn2, rfl, hph, hpt, HR, HS2, HC2⟩ := hrel; obtain ⟨wp, rfl⟩ : ∃ wp, wp = wr := ⟨wr, rfl⟩; go_wp2_with (first | (at_next; refine zou rfl _ rfl Tryz.underlying9 rfl HR.out ?_ ?_ <;> first | (intro hc0 hl0; have HL0 : Hid (∀ k, left k = false) := zpt hl0; clear hl0) | (intro kx vx w4 cn4 hks hlk hfv hrg4 hlt4 hg4 hs4 hen; obtain ⟨l, A, c, hgl, rfl, hC, hxn, hln, hls⟩ := HA.out.get hfv; have HR4 := zpt hrg4; have HG4 := zpt hg4; have HC4 := zpt hC; have HXn := zpt hxn; have HLs := zpt hls; have HGl := zpt hgl; have HLk := zpt hlk; clear hlk hfv hrg4 hg4 hC hxn hls hgl)))
    . go_roundg (if td2 = true then phiN nodes fd2 + 1 else 0)
      case measure => cases td2 with
       | true => have := hpt rfl; simp; omega
       | false => simp; omega
      case rel => exact ⟨fd2, td2, rfl, (fun h => by rw [h, if_pos rfl]; exact zpx _), ⟨HS2.out⟩, ⟨fun h x => HC2.out h x (HL0.out x)⟩⟩
    . have HS4 := zpt (HS2.out.grown HG4.out (by have := HKq.out; omega) (by have := HKq.out; omega) (by have := HKq.out; omega))
      have HC40 := zpt (zqS HC4.out HS4.out.b); clear HS2 HR; go_wp2_with fail; go_loopg [6, 10, 11, 12, 13, 14, 36] l.length (fun gg s6 _ _ _ _ _ s36 wi => ∃ (j : Nat) (fd3 : zaa -> Option Nat) (td3 : Bool), j <= l.length /\ l.length - j <= gg /\ s36 = .int .i64 j /\ s6 = .bool td3 /\ phiN nodes fd3 <= phiN nodes fd /\ (td3 = true -> phiN nodes fd3 + 1 <= phiN nodes fd) /\ Aside0 (RangesIs zp5 9 wi b wq.heap.size n f (fun x => left x && !x == kx.data.toList) cn4) /\ Aside0 (BSt g nodes t.data.toList wi K w.heap.size fd3 w) /\ Aside0 (td3 = false -> (∀ x, left x = false -> zc3 (zaW g) fd3 x) /\ ClosedTo fd3 kx.data.toList (zab (l.take j))))
      case atStart => exact ⟨0, fd2, td2, zqk _, by omega, rfl, rfl, hph, hpt, ⟨HR4.out⟩, ⟨HS4.out⟩, ⟨fun h => ⟨HC2.out h, fun y hy => by cases hy⟩⟩⟩
      case round =>
       obtain ⟨j, fd3, td3, hj, hgj, rfl, rfl, hph3, hpt3, HRi, HSi, HCi⟩ := hrel; by_cases hlj : j < l.length
       . have hljz : (j : Int) < (l.length : Int) := by omega
         obtain ⟨b5, o5, rfl, n0⟩ := za4 (zqS HC4.out HSi.out.b) j hlj; obtain ⟨n5, hst5, hn5⟩ := HSi.out.st; have hcell := hst5.cell; have hly := hst5.e.look2 l[j] (HLs.out _ (zqQ hlj)); have hlx := hst5.e.look2 kx hks; have HSn := zpt (zh2 l j hlj); have HGx : Hid (zaW g kx.data.toList = zab l) := zpt (by unfold zaW; rw [HGl.out]; rfl)
         have HMy : Hid (l[j].data.toList ∈ zaW g kx.data.toList) := zpt (by rw [HGx.out, <- zco l j hlj]; exact zqQ _)
         have HTo : Hid ((∀ d, fd3 l[j].data.toList = some d -> ∃ e, fd3 kx.data.toList = some e /\ e <= d + 1) -> td3 = false -> (∀ x, left x = false -> zc3 (zaW g) fd3 x) /\ ClosedTo fd3 kx.data.toList (zab (l.take (j + 1)))) := zpt (fun h htd => ⟨(HCi.out htd).1, by rw [HSn.out]; exact (HCi.out htd).2.snoc h⟩)
         have hew : @Below w.heap.size w wr := HSi.out.b; clear hst5 hn5; generalize hyy : l[j] = y at n0 hly HMy HTo; clear hyy; cases hfy : fd3 y.data.toList with
         | none =>
          have HTo2 := zpt (HTo.out (fun d h => by rw [hfy] at h; cases h))
          rw [hfy] at hly; simp only [zq9, zqm] at hly; generalize (fd3 kx.data.toList).getD 0 = dx at hlx; generalize (fd3 kx.data.toList).isSome = ix at hlx; clear hfy HTo; go_wp2_with fail; go_roundg (l.length - (j + 1))
          case measure => omega
          case rel => exact ⟨j + 1, fd3, td3, by omega, by omega, by first | rfl | go_num, rfl, hph3, hpt3, ⟨HRi.out⟩, ⟨HSi.out⟩, ⟨HTo2.out⟩⟩
         | some d =>
          have hdl := HSi.out.inv.lt hfy; have hfew := HA.out.few; have hd1 : d <= 1000 := by omega
          rw [hfy] at hly; simp only [zqp, zra] at hly; cases hfx : fd3 kx.data.toList with
          | none =>
           obtain ⟨w6, hrun, hS6, hph6, hg6⟩ := HSi.out.put (zpx _) kx hks HXn.out HMy.out hfy (fun e he => by rw [hfx] at he; cases he)
           rw [hfx] at hlx; simp only [zq9, zqm] at hlx; have hne := HKq.out; have HR6 := zpt (HRi.out.kept hg6 (by have := HBm.out; intro e; injection e with e; omega) (by intro e; injection e with e; omega))
           have HS6 := zpt hS6; have hph6' : phiN nodes (setG fd3 kx.data.toList (d + 1)) + 1 <= phiN nodes fd := by omega
           have HP6 := zpt hph6'; clear hfx hfy hS6 hg6 hph6 hph6' hne; go_wp2_with fail; go_roundg (l.length - (j + 1))
           case measure => omega
           case rel => exact ⟨j + 1, _, true, by omega, by omega, by first | rfl | go_num, rfl, by have := HP6.out; omega, fun _ => HP6.out, ⟨HR6.out⟩, ⟨HS6.out⟩, ⟨fun h => by cases h⟩⟩
          | some e =>
           have hel := HSi.out.inv.lt hfx; have he1 : e <= 1000 := by omega
           rw [hfx] at hlx; simp only [zqp, zra] at hlx; by_cases hde : d + 1 < e
           . have hdez : (d : Int) + 1 < (e : Int) := by omega
             obtain ⟨w6, hrun, hS6, hph6, hg6⟩ := HSi.out.put (zpx _) kx hks HXn.out HMy.out hfy (fun e2 he => by rw [hfx] at he; cases he; exact hde)
             have hne := HKq.out; have HR6 := zpt (HRi.out.kept hg6 (by have := HBm.out; intro e; injection e with e; omega) (by intro e; injection e with e; omega))
             have HS6 := zpt hS6; have hph6' : phiN nodes (setG fd3 kx.data.toList (d + 1)) + 1 <= phiN nodes fd := by omega
             have HP6 := zpt hph6'; clear hfx hfy hS6 hg6 hph6 hph6' hne; go_wp2_with fail; go_roundg (l.length - (j + 1))
             case measure => omega
             case rel => exact ⟨j + 1, _, true, by omega, by omega, by first | rfl | go_num, rfl, by have := HP6.out; omega, fun _ => HP6.out, ⟨HR6.out⟩, ⟨HS6.out⟩, ⟨fun h => by cases h⟩⟩
           . have hdez : ¬ (d : Int) + 1 < (e : Int) := by omega
             have HTo2 := zpt (HTo.out (fun d2 h => by rw [hfy] at h; cases h; exact ⟨e, hfx, by omega⟩))
             clear hfx hfy HTo; go_wp2_with fail; go_roundg (l.length - (j + 1))
             case measure => omega
             case rel => exact ⟨j + 1, fd3, td3, by omega, by omega, by first | rfl | go_num, rfl, hph3, hpt3, ⟨HRi.out⟩, ⟨HSi.out⟩, ⟨HTo2.out⟩⟩
       . have hljz : ¬ (j : Int) < (l.length : Int) := by omega
         obtain rfl : j = l.length := by omega
         have HCx : Hid (td3 = false -> ∀ x, (left x && !x == kx.data.toList) = false -> zc3 (zaW g) fd3 x) := zpt (fun htd x hx => by
          obtain ⟨h1, h2⟩ := HCi.out htd; rw [zqf] at h2; by_cases hxk : x = kx.data.toList
          . rw [hxk]
            unfold zc3 zaW; rw [HGl.out]; exact h2
          . exact h1 x (by simpa [hxk] using hx))
         go_wp2_with fail; go_roundg cn4
         case measure => omega
         case rel => exact ⟨fd3, td3, _, cn4, zpx _, rfl, hph3, hpt3, ⟨HRi.out⟩, ⟨HSi.out⟩, ⟨HCx.out⟩⟩
  | false =>
   obtain ⟨A0, c0, hf0, hC0⟩ := HA.out.getG H00.out; have HFar := zpt (HS.out.inv.is (HC.out rfl)); have HC00 := zpt hC0; have hlen0 : l0.length <= 2000 := h0n; have hKq : K < wq.heap.size := by obtain ⟨_, h, _⟩ := HS.out.st; exact za1 h.c
   have hb4 := (zpw wq.heap.size wq).alloc (zpx _) (.cells #[.int .i64 (-1)] 3); have HS4 := zpt (HS.out.below hb4); have HJ4 : Hid (JAt (wq.alloc (.cells #[.int .i64 (-1)] 3)) wq.heap.size (-1)) := zpt (zap wq _); have hlk := HA.out.look HS4.out.b t HTS.out hf0; have hsq := HS.out.b.size; clear hC0 hb4 hmm; go_upto_region 18 with fail; generalize hJ : wq.heap.size = J at HJ4 hKq hsq |-; generalize wq.alloc (.cells #[.int .i64 (-1)] 3) = w4 at HS4 HJ4 hlk |-; clear hJ; go_wp2_with fail; go_loopg [17, 18, 19, 72] l0.length (fun gg _ _ _ s72 wi => ∃ j : Nat, j <= l0.length /\ l0.length - j <= gg /\ s72 = .int .i64 j /\ Aside0 (BSt g nodes t.data.toList wi K w.heap.size fd w) /\ Aside0 (JAt wi J (zdH (zbI fd (zab (l0.take j))))))
   case atStart => exact ⟨0, zqk _, by omega, rfl, ⟨HS4.out⟩, ⟨HJ4.out⟩⟩
   case round =>
    obtain ⟨j, hj, hgj, rfl, HSi, HJi⟩ := hrel; by_cases hlj : j < l0.length
    . have hljz : (j : Int) < (l0.length : Int) := by omega
      obtain ⟨b5, o5, rfl, n0⟩ := za4 (zqS HC00.out HSi.out.b) j hlj; obtain ⟨n5, hst5, hn5⟩ := HSi.out.st; have hcell := hst5.cell; have hly := hst5.e.look2 l0[j] (H0s.out _ (zqQ hlj)); have hsn := zjU fd (zab (l0.take j)) l0[j].data.toList; rw [<- zh2 l0 j hlj] at hsn; have HSn := zpt hsn; have hjc := HJi.out.cell; have hjf := zak HJi.out 0; clear hst5 hn5 hsn; generalize zbI fd (zab (l0.take j)) = bo at HSn hjc HJi; generalize l0[j] = y at n0 hly HSn; cases hfy : fd y.data.toList with
      | none =>
       rw [hfy] at hly HSn; simp only [zq9, zqm] at hly; have HJn : Hid (JAt wr J (zdH (zbI fd (zab (l0.take (j + 1)))))) := zpt (by rw [HSn.out]; cases bo <;> exact HJi.out)
       generalize zdH bo = bi at hjc; clear hfy; go_wp2_with fail; go_roundg (l0.length - (j + 1))
       case measure => omega
       case rel => exact ⟨j + 1, by omega, by omega, by first | rfl | go_num, ⟨HSi.out⟩, ⟨HJn.out⟩⟩
      | some d =>
       have hdl := HSi.out.inv.lt hfy; have hfew := HA.out.few; have hd1 : d <= 1000 := by omega
       rw [hfy] at hly HSn; simp only [zqp, zra] at hly; clear hfy; cases bo with
       | none =>
        replace hjc : wr.cell? ⟨J, 0, none⟩ = some (.int .i64 (-1)) := hjc
        have HSx := zpt (HSi.out.set HJi.out hKq hsq (.int .i64 (d : Int))); have HJx : Hid (JAt (wr.setCell ⟨J, 0, none⟩ (.int .i64 (d : Int))) J (zdH (zbI fd (zab (l0.take (j + 1)))))) := zpt (by have h := HJi.out.set (d : Int); rw [HSn.out]; exact h)
        go_wp2_with fail; generalize wr.setCell ⟨J, 0, none⟩ (.int .i64 (d : Int)) = w6 at HSx HJx |-; go_roundg (l0.length - (j + 1))
        case measure => omega
        case rel => exact ⟨j + 1, by omega, by omega, by first | rfl | go_num, ⟨HSx.out⟩, ⟨HJx.out⟩⟩
       | some e =>
        replace hjc : wr.cell? ⟨J, 0, none⟩ = some (.int .i64 (e : Int)) := hjc
        have he0 : ¬ (e : Int) < 0 := by omega
        by_cases hde : d < e
        . have hdez : (d : Int) < (e : Int) := by omega
          have hbo : zbG (some e) (some d) = some d := by unfold zbG; dsimp only; rw [if_pos hde]
          rw [hbo] at HSn; clear hbo; have HSx := zpt (HSi.out.set HJi.out hKq hsq (.int .i64 (d : Int))); have HJx : Hid (JAt (wr.setCell ⟨J, 0, none⟩ (.int .i64 (d : Int))) J (zdH (zbI fd (zab (l0.take (j + 1)))))) := zpt (by have h := HJi.out.set (d : Int); rw [HSn.out]; exact h)
          go_wp2_with fail; generalize wr.setCell ⟨J, 0, none⟩ (.int .i64 (d : Int)) = w6 at HSx HJx |-; go_roundg (l0.length - (j + 1))
          case measure => omega
          case rel => exact ⟨j + 1, by omega, by omega, by first | rfl | go_num, ⟨HSx.out⟩, ⟨HJx.out⟩⟩
        . have hdez : ¬ (d : Int) < (e : Int) := by omega
          have hbo : zbG (some e) (some d) = some e := by unfold zbG; dsimp only; rw [if_neg hde]
          rw [hbo] at HSn; have HJn : Hid (JAt wr J (zdH (zbI fd (zab (l0.take (j + 1)))))) := zpt (by rw [HSn.out]; exact HJi.out)
          clear hbo; go_wp2_with fail; go_roundg (l0.length - (j + 1))
          case measure => omega
          case rel => exact ⟨j + 1, by omega, by omega, by first | rfl | go_num, ⟨HSi.out⟩, ⟨HJn.out⟩⟩
    . have hljz : ¬ (j : Int) < (l0.length : Int) := by omega
      obtain rfl : j = l0.length := by omega
      have hJi := HJi.out; rw [zqf] at hJi; have HBo : Hid (zbI fd (zaW g t.data.toList) = zbI fd (zab l0)) := zpt (by unfold zaW; rw [H00.out]; rfl)
      cases hbo : zbI fd (zab l0) with
      | none =>
       rw [hbo] at hJi HBo; have hjc : wr.cell? ⟨J, 0, none⟩ = some (.int .i64 (-1)) := hJi.cell; have HW : Hid (wayF (zaW g) fd t.data.toList = none) := zpt (by unfold wayF; rw [HBo.out])
       clear hbo; go_wp2_with fail; go_ret
       exact ⟨fd, HFar.out, _, rfl, by rw [HW.out]; rfl, HSi.out.b⟩
      | some k =>
       rw [hbo] at hJi HBo; obtain ⟨⟨yb, hyb, hkb⟩, _⟩ := zgI hbo; have hkl := HSi.out.inv.lt hkb; have hfew := HA.out.few; have hk1 : k <= 1000 := by omega
       have hjc : wr.cell? ⟨J, 0, none⟩ = some (.int .i64 (k : Int)) := hJi.cell; have hk0 : ¬ (k : Int) < 0 := by omega
       have HW : Hid (wayF (zaW g) fd t.data.toList = some (t.data.toList :: zcr (zaW g) fd k t.data.toList)) := zpt (by unfold wayF; rw [HBo.out])
       have hb5 := (zpw wr.heap.size wr).alloc (zpx _) (.cells #[.string t] 9); have HR5 := zpt (zeN wr wr.heap.size t (zpx _)); have HS5 := zpt (HSi.out.below hb5); have HJ5 : Hid (JAt (wr.alloc (.cells #[.string t] 9)) J k) := zpt (zai hJi hb5); have hJL : J < wr.heap.size := za1 hJi; have hL5 := hb5.size; clear hbo hyb hkb hb5 hlk hJi; go_upto_region 28 with fail; generalize hL : wr.heap.size = L at HR5 hJL hL5 |-; generalize wr.alloc (.cells #[.string t] 9) = w5 at HR5 HS5 HJ5 hL5 |-; clear hL hjc hk0; go_wp2_with fail; go_loopg [20, 21, 22] k (fun gg s20 s21 _ wi => ∃ (kk : Nat) (y : ByteArray) (r : List ByteArray), kk <= gg /\ kk <= 1000 /\ r.length + kk <= 1001 /\ s21 = .string y /\ L <= wi.heap.size /\ Aside0 (RS wi L s20 r) /\ Aside0 (BSt g nodes t.data.toList wi K w.heap.size fd w) /\ Aside0 (JAt wi J kk) /\ Aside0 (zfa (zaW g) fd t.data.toList kk y.data.toList) /\ Aside0 (y.size <= maxLen) /\ Aside0 (zab r ++ zcr (zaW g) fd kk y.data.toList = t.data.toList :: zcr (zaW g) fd k t.data.toList))
       case atStart => exact ⟨k, t, [t], zpx _, hk1, by simp; omega, rfl, hL5, ⟨HR5.out⟩, ⟨HS5.out⟩, ⟨HJ5.out⟩, ⟨.inl ⟨rfl, HBo.out⟩⟩, ⟨HTS.out⟩, ⟨rfl⟩⟩
       case round =>
        obtain ⟨kk, y, r, hkg, hkk, hrk, rfl, hLi, HR, HSj, HJj, HOn, HYs, HE⟩ := hrel; cases kk with
        | zero =>
         have hjc : wr.cell? ⟨J, 0, none⟩ = some (.int .i64 0) := HJj.out.cell; go_wp2_with fail; go_ret
         exact ⟨fd, HFar.out, _, rfl, by
          rw [HW.out]; refine ⟨r, ?_, Kd.R_lower HR.out (by have := HS5.out.b.size; omega)⟩
          have h := HE.out; rw [show zcr (zaW g) fd 0 y.data.toList = [] from rfl, List.append_nil] at h
          exact h, HSj.out.b⟩
        | succ kk =>
         obtain ⟨y2, hfi, hy2, hk2, hst, hon2⟩ := zjA HFar.out HOn.out; have hgy : ∃ l, g y.data.toList = some l := by
          cases h : g y.data.toList with
          | some l => exact ⟨l, rfl⟩
          | none => unfold zaW at hy2; rw [h] at hy2; exact absurd hy2 (by simp [zab])
         obtain ⟨l, hgl⟩ := hgy; obtain ⟨A, c, hf, hC⟩ := HA.out.getG hgl; obtain ⟨_, hln, hls⟩ := HA.out.inN _ _ hgl; have hGy : zaW g y.data.toList = zab l := by unfold zaW; rw [hgl]; rfl
         have hC5 := zqS hC HSj.out.b; have hk1i : ((kk + 1 : Nat) : Int) = (kk : Int) + 1 := by omega
         have hIx := zlb 137 #[.pointer (some ⟨K, 0, none⟩), .pointer (some ⟨J, 0, none⟩)] zoL (fun x => fd x.data.toList == some (kk + 1)) A c l wr (by omega) hC5 (fun W hW x hxm => by
          obtain ⟨n6, hst6, _⟩ := (HSj.out.below hW).st; exact (zj6 K w.heap.size n6 J (kk + 1) fd x W hst6 (JAt.cell (zai HJj.out hW)) (hls x hxm)).mono fun e w' ⟨he, hw⟩ => ⟨he, by rw [<- hw]; exact zpw _ _⟩)
         have hfil : ∀ (i : Nat) (h : i < l.length), l.find? (fun x => fd x.data.toList == some (kk + 1)) = some l[i] -> l[i].data.toList = y2 := fun i h he => by
          have e1 : (zab l).find? (fun x => fd x == some (kk + 1)) = (l.find? (fun x => fd x.data.toList == some (kk + 1))).map fun x => x.data.toList := by
           unfold zab; rw [List.find?_map]; rfl
          rw [hGy, e1, he] at hfi; exact zp6 hfi
         have hany : l.any (fun x => fd x.data.toList == some (kk + 1)) = true := by
          rw [hGy] at hy2; unfold zab at hy2; obtain ⟨x, hx, rfl⟩ := zqR.1 hy2; exact List.any_eq_true.2 ⟨x, hx, by rw [hk2]; simp⟩
         have hlk := HA.out.look HSj.out.b y HYs.out hf; have HIx := zpt (hIx.mono (R' := fun e w' => ∃ (i : Nat) (h : i < l.length), e = .returned (.int .i64 i) /\ l.find? (fun x => fd x.data.toList == some (kk + 1)) = some l[i] /\ Below wr.heap.size wr w') (fun e w' ⟨h, hb⟩ => by
          rcases h with h | ⟨i, hi, he, hf⟩
          . rw [h.1] at hany; cases hany
          . exact ⟨i, hi, he, hf, hb⟩))
         have HFil := zpt hfil; have HOn2 := zpt hon2; have HSt := zpt hst; have HLs := zpt hls; have HC5 := zpt hC5; have HF := zpt hf; have hjc : wr.cell? ⟨J, 0, none⟩ = some (.int .i64 ((kk : Int) + 1)) := by have := HJj.out.cell; rw [hk1i] at this; exact this
         have hpos : (kk : Int) + 1 > 0 := by omega
         obtain ⟨wq, rfl⟩ : ∃ wq, wq = wr := ⟨wr, rfl⟩; clear hIx hfil hany hon2 hst hls hC5 hfi hy2 hk2 hgl hGy hC hf; go_upto_region 32 with (first | (go_at_call 76; refine HIx.out.mono ?_; rintro e w6 ⟨i, hi, rfl, hfi, hb6⟩; have HY2 := zpt (HFil.out i hi hfi); have HB6 := zpt hb6; clear hfi hb6))
         have HS6 := zpt (HSj.out.below HB6.out); have HJ6 : Hid (JAt w6 J ((kk : Int) + 1)) := zpt (by have h := zai HJj.out HB6.out; rw [hk1i] at h; exact h)
         have HR6 := zpt (zqu HR.out HB6.out); have HB6L := zpt (HB6.out.mono hLi); have HL6 : Hid (L <= w6.heap.size) := zpt (zpD hLi HB6.out.size); have hlk6 := HA.out.look HS6.out.b y HYs.out HF.out; obtain ⟨b5, o5, rfl, n0⟩ := za4 (zqS HC5.out HB6.out) i hi; have hiz : (i : Int) < (l.length : Int) := by omega
         have hxs := HLs.out _ (zqQ hi); have HXs := zpt hxs; generalize l[i] = x at n0 HY2 HXs; have hKL : K < L := by omega
         have hmL : w.heap.size < L := by omega
         clear hxs hlk hjc; go_wp2_with (first | ((with_reducible refine zaG (b := .append) (xs := #[.tmp 114, .tmp 116]) rfl ?_); at_builtin; refine Kd.R_append zqb (w0 := wq) L rfl (.tmp 114) (.tmp 116) 22 9 (.string ⟨#[]⟩) 16 rfl Tryz.underlying22 zbi rfl (by decide) (by decide) u20 r x [.string x] (fun _ => True) (fun k_ => True /\ some k_ ≠ u20.ownBlock) rfl rfl rfl (fun _ hk => hk) (fun _ _ => trivial) HR6.out HB6L.out HL6.out ?aL ?_; (case aL => omega); intro v1 w8 ho hb hg hat; have HR8 := zpt ho; have HL8 : Hid (L <= w8.heap.size) := zpt (zpD HL6.out hg.size); have HS8 := zpt (HS6.out.grownL hg (fun k hk => Kd.R_base HR6.out k hk) hKL hmL (Nat.le_of_lt hmL)); have HJ8 : Hid (JAt w8 J ((kk : Int) + 1)) := zpt (zaY HJ6.out hg (fun e => by have := Kd.R_base HR6.out J e.symm; omega)); have jc8 := JAt.cell HJ8.out; have f8 := zak HJ8.out 0; clear ho hb hg hat))
         have HS9 := zpt (HS8.out.set HJ8.out hKq hsq (.int .i64 (kk : Int))); have HJ9 := zpt (HJ8.out.set (kk : Int)); have HR9 := zpt (Kd.R_set HR8.out HJ8.out (by decide) 0 (.int .i64 (kk : Int)))
         have HL9 := zpt (zpD HL8.out ((zpw J w8).setCell (p := ⟨J, 0, none⟩) (zpx _) (.int .i64 (kk : Int))).size); have HE9 : Hid (zab (r ++ [x]) ++ zcr (zaW g) fd kk x.data.toList = t.data.toList :: zcr (zaW g) fd k t.data.toList) := zpt (by
          rw [<- HE.out, HSt.out, HY2.out]; unfold zab; rw [zqo, zq8, List.map_singleton, HY2.out, List.singleton_append])
         generalize w8.setCell ⟨J, 0, none⟩ (.int .i64 (kk : Int)) = w9 at HS9 HJ9 HR9 HL9 |-; have hrl : (r ++ [x]).length + kk <= 1001 := by rw [zpK, List.length_singleton]; omega
         go_roundg kk
         case measure => omega
         case rel => exact ⟨kk, x, r ++ [x], zpx _, by omega, hrl, rfl, HL9.out, ⟨HR9.out⟩, ⟨HS9.out⟩, ⟨HJ9.out⟩, ⟨by rw [HY2.out]; exact HOn2.out⟩, ⟨HXs.out⟩, ⟨HE9.out⟩⟩
theorem zoq (l : List ByteArray) (x : zaa) : x ∈ zab (zae l) ↔ x ∈ zab l := by
 rw [zeE]; exact List.mem_mergeSort
theorem zf6 (l : List ByteArray) (x : ByteArray) : x ∈ zae l ↔ x ∈ l := by
 have h := zoq l x.data.toList; unfold zab at h; rw [zqR, zqR] at h; constructor
 . intro hx
   obtain ⟨y, hy, he⟩ := h.1 ⟨x, hx, rfl⟩; rw [<- zcn he]; exact hy
 . intro hx
   obtain ⟨y, hy, he⟩ := h.2 ⟨x, hx, rfl⟩; rw [<- zcn he]; exact hy
theorem zgE (l : List ByteArray) (x : ByteArray) (h : x ∈ zbR l) : x ∈ l := by
 unfold zbR at h; obtain ⟨y, hy, rfl⟩ := zqR.1 h; have := (zeK (zab l) y).1 hy; unfold zab at this; obtain ⟨z, hz, rfl⟩ := zqR.1 this; rw [zbY]; exact hz
def zby (rs : List zaj) : List zaa := rs.map fun q => q.f0.data.toList
def zcV (rs : List zaj) : zaa -> List zaa := zaW (zbz rs rs)
theorem zoc {rs : List zaj} {o : zaa} {n : ByteArray} (h : za3 rs o = some n) : ∃ r ∈ rs, r.f0 = n := by
 unfold za3 at h; cases hf : rs.reverse.find? (fun r => (zab r.f2).contains o) with
 | none => rw [hf] at h; cases h
 | some r =>
  rw [hf] at h; exact ⟨r, List.mem_reverse.1 (zrb hf), zp6 h⟩
theorem ziz {all rs : List zaj} {k : zaa} {l : List ByteArray} (h : zbz all rs k = some l) : ∃ r ∈ rs, r.f0.data.toList = k /\ l = zbR (zae (zb3 all r)) := by
 unfold zbz at h; cases hf : rs.reverse.find? (fun r => r.f0.data.toList == k) with
 | none => rw [hf] at h; cases h
 | some r =>
  rw [hf] at h; exact ⟨r, List.mem_reverse.1 (zrb hf), by simpa using List.find?_some hf, (zp6 h).symm⟩
theorem zka {all rs : List zaj} {k : zaa} (h : k ∈ zby rs) : (zbz all rs k).isSome = true := by
 unfold zby at h; obtain ⟨r, hr, rfl⟩ := zqR.1 h; unfold zbz; rw [Option.isSome_map, List.find?_isSome]; exact ⟨r, List.mem_reverse.2 hr, by simp⟩
theorem zjf {all : List zaj} {r : zaj} {y : ByteArray} (h : y ∈ zb3 all r) : y ∈ r.f3 \/ ∃ q ∈ all, q.f0 = y := by
 unfold zb3 at h; rcases zq7.1 h with h | h
 . exact .inl h
 . obtain ⟨i, _, hi⟩ := List.mem_filterMap.1 h
   exact .inr (zoc hi)
theorem zmC {w : World} {b n : Nat} {rs : List zaj} (hF : zcj rs) (h : AllIs w b n (zbz rs rs)) : ∃ f, NeedsAt w b n (zbz rs rs) (zby rs) f := by
 obtain ⟨f, hM, hs, hr⟩ := h; refine ⟨f, hM, hs, hr, fun k l hl => ?_, by unfold zby; rw [zqe]; exact hF.len⟩
 obtain ⟨r, hr, rfl, rfl⟩ := ziz hl; refine ⟨zqR.2 ⟨r, hr, rfl⟩, ?_, fun y hy => ?_⟩
 . have h1 := zix rs r
   have h2 := (hF.fit r hr).1.ins; have h3 := (hF.fit r hr).2.1; have h4 := zfi (zab (zae (zb3 rs r))); unfold zbR; rw [zqe]; rw [zaT, zfN] at h4; omega
 . have hm := (zf6 _ _).1 (zgE _ _ hy)
   rcases zjf hm with hm | ⟨q, hq, rfl⟩
   . exact (hF.fit r hr).2.2.2 y hm
   . exact (hF.fit q hq).2.2.1
theorem NeedsAt.below {w w' : World} {b n : Nat} {g : zaa -> Option (List ByteArray)} {nodes : List zaa} {f : zaa -> Option Value} (h : NeedsAt w b n g nodes f) (hb : Below w.heap.size w w') : NeedsAt w' b n g nodes f :=
 ⟨h.m.below hb, h.same, fun k v l hv hl => by obtain ⟨A, c, e, hC⟩ := h.row k v l hv hl; exact ⟨A, c, e, zqS hC hb⟩, h.inN, h.few⟩
theorem zhn : ∀ (rs : List zaj) (N O : List zaa), dupS rs N O = none -> N.Nodup -> (N ++ zby rs).Nodup
 | [], N, O, _, hN => by simpa [zby] using hN
 | r :: rs, N, O, h, hN => by
  unfold dupS at h; split at h
  . cases h
  . rename_i hc
    have hc1 : r.f0.data.toList ∉ N := by
     intro hm; apply hc
     rw [Bool.or_eq_true]; exact .inl (by simpa using hm)
    have := zhn rs (N ++ [r.f0.data.toList]) (O ++ zab r.f2) h (by
     rw [List.nodup_append]; exact ⟨hN, by simp, fun a ha b hb e => by rw [zq6] at hb; subst hb; subst e; exact hc1 ha⟩)
    rw [zq8] at this; exact this
theorem zjk {o : Option zaj} {d : Int × ByteArray} (h : (whoV 2 o d).1 = 0) : o = none /\ d.1 = 0 := by
 cases o with
 | none => exact ⟨rfl, h⟩
 | some r => exact absurd (show (2 : Int) = 0 from h) (by decide)
theorem znO {rs : List zaj} (h : (zbE rs).1 = 0) : dupS rs [] [] = none /\ zdc rs = none /\ rs.length <= 40 := by
 unfold zbE at h; cases hf : rs.find? (fun r => zbn r != 0) with
 | some r =>
  rw [hf] at h; have := List.find?_some hf; dsimp only at h; rw [h] at this; cases this
 | none =>
  rw [hf] at h; dsimp only at h; split at h
  . cases h
  . obtain ⟨h1, h2⟩ := zjk h
    exact ⟨h1, (zjk h2).1, by omega⟩
theorem zmF {rs : List zaj} (h : (zbE rs).1 = 0) : zeq (zcV rs) (zby rs) := by
 obtain ⟨h1, h2, _⟩ := znO h; refine ⟨fun x y hy => ?_, by simpa using zhn rs [] [] h1 List.nodup_nil⟩
 unfold zcV zaW at hy; cases hg : zbz rs rs x with
 | none => rw [hg] at hy; exact absurd hy (by simp [zab])
 | some l =>
  rw [hg] at hy; obtain ⟨r, hr, rfl, rfl⟩ := ziz hg; refine ⟨zqR.2 ⟨r, hr, rfl⟩, ?_⟩; unfold zab at hy; obtain ⟨z, hz, rfl⟩ := zqR.1 hy; have hm := (zf6 _ _).1 (zgE _ _ hz); rcases zjf hm with hm | ⟨q, hq, rfl⟩
  . unfold zdc at h2
    have h3 := List.find?_eq_none.1 h2 r hr; have h4 : ((zab r.f3).any fun a => !(zby rs).contains a) = false := by
     cases hb : (zab r.f3).any fun a => !(zby rs).contains a with
     | false => rfl
     | true => exact absurd hb h3
    rw [List.any_eq_false] at h4; have h5 := h4 z.data.toList (zqR.2 ⟨z, hm, rfl⟩); simpa using h5
  . exact zqR.2 ⟨q, hq, rfl⟩
def wayV (rs : List zaj) (t : zaa) : Option (List zaa) := wayF (zcV rs) (farK (zcV rs) (zby rs) t (zby rs).length) t
def zcg (rs : List zaj) : List ByteArray := zae (rs.map fun q => q.f0)
def cycV (rs : List zaj) : Option (List zaa) := if (zbE rs).1 = 0 then (zcg rs).findSome? fun t => wayV rs t.data.toList else none
def allV (rs : List zaj) : Int × ByteArray := if (zbE rs).1 = 0 then match cycV rs with
 | some l => (3, mk (l.headD []))
 | none => (0, ⟨#[]⟩)
 else zbE rs
theorem zi9 {rs : List zaj} {t : zaa} {l : List zaa} (h : wayV rs t = some l) : l ≠ [] := by
 unfold wayV wayF at h; split at h
 . cases h
 . cases h
   exact List.cons_ne_nil _ _
theorem zk8 (b n : Nat) (rs : List zaj) (f : zaa -> Option Value) (t : ByteArray) (w : World) (hF : zcj rs) (hp : (zbE rs).1 = 0) (hA : NeedsAt w b n (zbz rs rs) (zby rs) f) (ht : t.data.toList ∈ zby rs) :
 Calls zp5 106 #[.map (some b), .string t] w (zgp (wayV rs t.data.toList) w) := by
 have hts : t.size <= maxLen := by
  unfold zby at ht; obtain ⟨r, hr, he⟩ := zqR.1 ht; rw [<- zcn he]; exact (hF.fit r hr).2.2.1
 refine (zkL b n _ _ f t w hA (zka ht) hts).mono fun e w' ⟨far, hfar, h⟩ => ?_
 have e1 : far = farK (zcV rs) (zby rs) t.data.toList (zby rs).length := hfar.unique (zke (zcV rs) (zby rs) t.data.toList (zmF hp) ht _ (by omega))
 unfold wayV; rw [<- e1]; exact h
theorem zhP {α β : Type} (F : α -> Option β) (l : List α) (j : Nat) (h : j < l.length) (hn : (l.take j).findSome? F = none) : (l.take (j + 1)).findSome? F = F l[j] := by
 rw [zpZ h, List.findSome?_append, hn]; simp
theorem zmI {α β : Type} (F : α -> Option β) (l : List α) (j : Nat) (v : β) (h : j < l.length) (hn : (l.take j).findSome? F = none) (hv : F l[j] = some v) : l.findSome? F = some v := by
 have e : l = l.take (j + 1) ++ l.drop (j + 1) := (List.take_append_drop _ _).symm; have h1 := zhP F l j h hn; rw [hv] at h1; rw [e, List.findSome?_append, h1]; rfl
theorem znb (A : Option Addr) (c : Nat) (rs : List zaj) (w : World) (hG : GOK w) (hr : Kd.C k45 w A rs.length rs) (hF : zcj rs) :
 Calls zp5 73 #[.slice A rs.length c] w (zgp (cycV rs) w) := by
 have hP := zg4 A c rs w hG hr hF; have hn := hF.len; have HR := zpt hr; have HF := zpt hF; obtain ⟨T, hT⟩ : ∃ T, T = cycV rs := ⟨_, rfl⟩; rw [<- hT]; have HT := zpt hT; have HZ := zpt (fun h : (zbE rs).1 = 0 => h)
 obtain ⟨pe, hpe⟩ : ∃ pe, pe = zbE rs := ⟨_, rfl⟩; rw [<- hpe] at hP; have HPe := zpt hpe; clear hr hG hF hT hpe HZ; obtain ⟨p1, p2⟩ := pe; unfold zdY at hP; dsimp only at hP; go_enter Tryz.func73, Tryz.ntmps73
 by_cases hp : p1 = 0
 . subst hp
   have HP0 : Hid ((zbE rs).1 = 0) := zpt (by rw [<- HPe.out])
   go_upto_region 4 with (first | (go_at_call 72; refine hP.mono ?_; rintro e w1 ⟨rfl, hb1⟩; have HB1 := zpt hb1; clear hb1))
   have hNe := zmf A c rs w1 (zqS HR.out HB1.out) HF.out; have HNe := zpt hNe; clear hNe hP; go_upto_region 6 with (first | (go_at_call 105; refine HNe.out.mono ?_; rintro e w2 ⟨b, rfl, _, hA2, hb2⟩; have HA2 := zpt (zmC HF.out hA2); have HB2 := zpt (zac HB1.out HB1.out.size hb2); clear hA2 hb2))
   obtain ⟨f, hA⟩ := HA2.out; have HA := zpt hA; have HR2 := zpt (zqS HR.out HB2.out); clear hA HA2 HNe; go_wp2_with fail; go_loopg [6, 8, 23] rs.length (fun gg s6 _ s23 wr => ∃ kk : Nat, kk <= rs.length /\ rs.length - kk <= gg /\ s23 = .int .i64 kk /\ Aside0 (RS wr w2.heap.size s6 ((rs.take kk).map fun q => q.f0)) /\ Aside0 (Below w2.heap.size w2 wr))
   case atStart => exact ⟨0, zqk _, by omega, rfl, ⟨Kd.R_nil _ _ _ _ _⟩, ⟨zpw _ _⟩⟩
   case round =>
    obtain ⟨kk, hkk, hgk, rfl, HO, HW⟩ := hrel; obtain ⟨wq, rfl⟩ : ∃ wq, wq = wr := ⟨wr, rfl⟩; by_cases hlt : kk < rs.length
    . have hltz : (kk : Int) < (rs.length : Int) := by omega
      obtain ⟨b9, o, B1, c1, B2, c2, B3, c3, B4, c4, rfl, q0, q1, q2, q3, q4, hA4, hC4⟩ := zc0 HR2.out kk hlt; replace q0 := zad HW.out q0
      replace q1 := zad HW.out q1
      replace q2 := zad HW.out q2
      replace q3 := zad HW.out q3
      replace q4 := zad HW.out q4
      have hsn : ((rs.take (kk + 1)).map fun q => q.f0) = ((rs.take kk).map fun q => q.f0) ++ [rs[kk].f0] := by rw [zpZ hlt, zqo]; rfl
      have hln : ((rs.take kk).map fun q => q.f0).length = kk := by rw [zqe, zpI]; omega
      have HSn := zpt hsn; have HLn := zpt hln; generalize rs[kk] = x at q0 q1 q2 q3 q4 HSn; have hb3 := (zpw wq.heap.size wq).alloc (zpx _) (.cells (zal x B1 c1 B2 c2 B3 c3 B4 c4) 45); have HX3 := zpt (zap wq (.cells (zal x B1 c1 B2 c2 B3 c3 B4 c4) 45)); have HB3 := zpt (HW.out.alloc HW.out.size (.cells (zal x B1 c1 B2 c2 B3 c3 B4 c4) 45)); have HO3 := zpt (zqu HO.out hb3); clear hA4 hC4 hb3 hsn hln; unfold zal at HX3 HB3 HO3; go_upto_region 9 with fail; generalize wq.alloc (.cells #[.string x.f0, .slice B1 x.f1.length c1, .slice B2 x.f2.length c2, .slice B3 x.f3.length c3, .slice B4 x.f4.length c4] 45) = w3 at HX3 HB3 HO3 |-; have x0 := bc0 HX3.out; have HWs := zpt HB3.out.size; generalize x.f0 = nm at x0 HSn; go_wp2_with (first | ((with_reducible refine zaG (b := .append) (xs := #[.tmp 27, .tmp 30]) rfl ?_); at_builtin; refine Kd.R_append zqb (w0 := w2) w2.heap.size rfl (.tmp 27) (.tmp 30) 22 9 (.string ⟨#[]⟩) 16 rfl Tryz.underlying22 zbi rfl (by decide) (by decide) u6 ((rs.take kk).map fun q => q.f0) nm [.string nm] (fun _ => True) (fun k_ => True /\ some k_ ≠ u6.ownBlock) rfl rfl rfl (fun _ hk => hk) (fun _ _ => trivial) HO3.out HB3.out HWs.out ?aL ?_; (case aL => (have h1 := HLn.out; omega)); intro v1 w5 ho hb hg hat; have HO5 : Hid (RS w5 w2.heap.size v1 ((rs.take (kk + 1)).map fun q => q.f0)) := (by show RS _ _ _ _; rw [HSn.out]; exact ho); have HB5 := zpt hb; clear ho hb hg hat))
      go_roundg (rs.length - (kk + 1))
      case measure => omega
      case rel => exact ⟨kk + 1, by omega, by omega, by first | rfl | go_num, ⟨HO5.out⟩, ⟨HB5.out⟩⟩
    . have hltz : ¬ (kk : Int) < (rs.length : Int) := by omega
      obtain rfl : kk = rs.length := by omega
      have hO := HO.out; rw [zqf] at hO; have hSort := zfF w2.heap.size u6 _ wq hO (by rw [zqe]; omega)
      have HSort := zpt hSort; have HBs := zpt (Kd.R_base hO); clear hO hSort HO; go_upto_region 12 with (first
       | (go_at_call 93; refine HSort.out.mono ?_; rintro e w5 ⟨rfl, hR5, hg5⟩; have HR5 := zpt hR5; have HW5 := zpt (HW.out.grown hg5 HW.out.size (fun k hk => HBs.out k hk)); clear hR5 hg5))
      obtain ⟨A5, c5, rfl, _, hC5⟩ := zqq HR5.out; have HC5 := zpt hC5; have hnl : (zcg rs).length <= 1000 := by unfold zcg; rw [zfN, zqe]; exact hn
      have hmem : ∀ x ∈ zcg rs, x.data.toList ∈ zby rs := fun x hx => by
       have := (zf6 _ _).1 hx; obtain ⟨r, hr, rfl⟩ := zqR.1 this; exact zqR.2 ⟨r, hr, rfl⟩
      have HMem := zpt hmem; have HTn : Hid (T = (zcg rs).findSome? fun t => wayV rs t.data.toList) := zpt (by rw [HT.out]; unfold cycV; rw [if_pos HP0.out])
      have HNV : Hid (zcg rs = zae (rs.map fun q => q.f0)) := zpt rfl
      have HC6 : Hid (Kd.C zqb w5 A5 (zcg rs).length (zcg rs)) := zpt HC5.out; have hl5 : (zae (rs.map fun q => q.f0)).length = (zcg rs).length := rfl
      generalize zcg rs = nv at hnl HMem HTn HNV HC6 hl5; clear hC5 hmem HC5; rw [hl5]; have HWC : Hid (w.heap.size <= w2.heap.size) := zpt HB2.out.size; clear hl5; go_wp2_with fail; go_loopg [10, 11, 37] nv.length (fun gg _ _ s37 wi => ∃ j : Nat, j <= nv.length /\ nv.length - j <= gg /\ s37 = .int .i64 j /\ Aside0 (Below w5.heap.size w5 wi) /\ Aside0 ((nv.take j).findSome? (fun t => wayV rs t.data.toList) = none))
      case atStart => exact ⟨0, zqk _, by omega, rfl, ⟨zpw _ _⟩, ⟨rfl⟩⟩
      case round =>
       obtain ⟨j, hj, hgj, rfl, HWi, HN⟩ := hrel; obtain ⟨wi, rfl⟩ : ∃ wi, wi = wr := ⟨wr, rfl⟩; have HB0 : Hid (Below w.heap.size w wi) := zpt ((HB2.out.trans (HW5.out.mono HWC.out)).trans (HWi.out.mono (zpD HWC.out HW5.out.size))); by_cases hlj : j < nv.length
       . have hljz : (j : Int) < (nv.length : Int) := by omega
         obtain ⟨b5, o5, rfl, n0⟩ := za4 (zqS HC6.out HWi.out) j hlj; have hway := zk8 b rs.length rs f nv[j] wi HF.out HP0.out ((HA.out.below HW5.out).below HWi.out) (HMem.out _ (zqQ hlj)); have hsn := zhP (fun t : ByteArray => wayV rs t.data.toList) nv j hlj HN.out
         have hat := fun v => zmI (fun t : ByteArray => wayV rs t.data.toList) nv j v hlj HN.out
         have hcons := fun l => @zi9 rs nv[j].data.toList l
         have HSn := zpt hsn; have HAt := zpt hat; generalize wayV rs nv[j].data.toList = wo at hway HSn HAt hcons; generalize nv[j] = nm at n0 hway; clear hsn hat; cases wo with
         | none =>
          go_wp2_with (first | (go_at_call 106; refine hway.mono ?_; rintro e w7 ⟨v7, rfl, rfl, hb7⟩; have HW7 := zpt (zac HWi.out HWi.out.size hb7); clear hb7))
          go_roundg (nv.length - (j + 1))
          case measure => omega
          case rel => exact ⟨j + 1, by omega, by omega, by first | rfl | go_num, ⟨HW7.out⟩, ⟨HSn.out⟩⟩
         | some l =>
          have HCo := zpt (hcons l rfl); have HTl : Hid (T = some l) := zpt (by rw [HTn.out]; exact HAt.out l rfl)
          clear hcons; replace hway := hway.mono (R' := fun e w' => ∃ b7 o7 c7 r7, e = .returned (.slice (some ⟨b7, o7, none⟩) (List.length r7) c7) /\ zab r7 = l /\ RS w' wi.heap.size (.slice (some ⟨b7, o7, none⟩) r7.length c7) r7 /\ Below wi.heap.size wi w') (fun e w' ⟨v, he, ⟨r7, hr7, hR7⟩, hb⟩ => by
           obtain ⟨A7, c7, rfl, _, hC7⟩ := zqq hR7; have hpos : 0 < r7.length := by
            have h := HCo.out; rw [<- hr7] at h; cases r7 with
            | nil => exact absurd rfl h
            | cons a r => exact Nat.succ_pos _
           obtain ⟨b7, o7, rfl, _⟩ := za4 hC7 0 hpos; exact ⟨b7, o7, c7, r7, he, hr7, hR7, hb⟩)
          have HWs := zpt HB0.out.size; go_wp2_with (first | (go_at_call 106; refine hway.mono ?_; rintro e w7 ⟨b7, o7, c7, r7, rfl, hr7, hR7, hb7⟩; have HB7 := zpt (zac HB0.out HB0.out.size hb7); have HR7 := zpt hR7; have HN7 := zpt hr7; clear hb7 hR7 hr7))
          go_ret
          exact ⟨_, rfl, by rw [HTl.out]; exact ⟨r7, HN7.out, Kd.R_lower HR7.out HWs.out⟩, HB7.out⟩
       . have hljz : ¬ (j : Int) < (nv.length : Int) := by omega
         obtain rfl : j = nv.length := by omega
         have hN := HN.out; rw [zqf, <- HTn.out] at hN; have HTl := zpt hN; clear hN; go_wp2_with fail; go_ret
         exact ⟨_, rfl, by rw [HTl.out]; rfl, HB0.out⟩
 . have HTl : Hid (T = none) := zpt (by rw [HT.out]; unfold cycV; rw [if_neg (by rw [<- HPe.out]; exact hp)])
   go_wp2_with (first | (go_at_call 72; refine hP.mono ?_; rintro e w1 ⟨rfl, hb1⟩; have HB1 := zpt hb1; clear hb1))
   go_ret
   exact ⟨_, rfl, by rw [HTl.out]; rfl, HB1.out⟩
theorem zfr (A : Option Addr) (c : Nat) (rs : List zaj) (w : World) (hG : GOK w) (hr : Kd.C k45 w A rs.length rs) (hF : zcj rs) :
 Calls zp5 49 #[.slice A rs.length c] w (zdY (allV rs) w) := by
 have hP := zg4 A c rs w hG hr hF; have hn := hF.len; have HCy := zpt (fun (W : World) (hB : Below w.heap.size w W) => znb A c rs W (hG.below hB) (zqS hr hB) hF)
 have HT : Hid (allV rs = if (zbE rs).1 = 0 then match cycV rs with
 | some l => (3, mk (l.headD []))
 | none => (0, ⟨#[]⟩)
 else zbE rs) := zpt rfl
 have HCn : Hid (∀ l, cycV rs = some l -> l ≠ []) := zpt (fun l h => by
  unfold cycV at h; split at h
  . obtain ⟨t, _, ht⟩ := List.exists_of_findSome?_eq_some h
    exact zi9 ht
  . cases h)
 generalize allV rs = T at HT |-; generalize cycV rs = cy at HCy HT HCn; generalize zbE rs = pe at hP HT; clear hr hF hG; obtain ⟨p1, p2⟩ := pe; unfold zdY at hP; dsimp only at hP; go_enter Tryz.func49, Tryz.ntmps49
 by_cases hp : p1 = 0
 . subst hp
   cases cy with
   | none =>
    have HTl : Hid (T = (0, ⟨#[]⟩)) := zpt (by rw [HT.out]; rfl)
    go_wp2_with (first | (go_at_call 72; refine hP.mono ?_; rintro e w1 ⟨rfl, hb1⟩; have HB1 := zpt hb1; clear hb1) | (go_at_call 73; refine (HCy.out _ HB1.out).mono ?_; rintro e w2 ⟨v2, rfl, rfl, hb2⟩; have HB2 := zpt (zac HB1.out HB1.out.size hb2); clear hb2))
    go_ret2
    exact ⟨by rw [HTl.out]; rfl, HB2.out⟩
   | some l =>
    have HTl : Hid (T = (3, mk (l.headD []))) := zpt (by rw [HT.out]; rfl)
    have HCo := zpt (HCn.out l rfl); have HCy2 := zpt (fun (W : World) (hB : Below w.heap.size w W) => (HCy.out W hB).mono (R' := fun e w' => ∃ b7 o7 c7 n, ∃ x : ByteArray, e = .returned (.slice (some ⟨b7, o7, none⟩) (n + 1) c7) /\ (n : Int) <= 9223372036854775806 /\ l.headD [] = x.data.toList /\ w'.cell? ⟨b7, o7, none⟩ = some (.string x) /\ Below W.heap.size W w') (fun e w' ⟨v, he, ⟨r7, hr7, hR7⟩, hb⟩ => by
     obtain ⟨A7, c7, rfl, _, hC7⟩ := zqq hR7; have hlim := hC7.2.1; cases r7 with
     | nil => exact absurd hr7.symm (HCo.out)
     | cons a r =>
      obtain ⟨b7, o7, rfl, hc⟩ := za4 hC7 0 (Nat.succ_pos _); refine ⟨b7, o7, c7, r.length, a, he, ?_, by rw [<- hr7]; rfl, hc, hb⟩
      rw [List.length_cons] at hlim; omega))
    go_wp2_with (first | (go_at_call 72; refine hP.mono ?_; rintro e w1 ⟨rfl, hb1⟩; have HB1 := zpt hb1; clear hb1) | (go_at_call 73; refine (HCy2.out _ HB1.out).mono ?_; rintro e w2 ⟨b7, o7, c7, n, x, rfl, hnl, hx, hc7, hb2⟩; have HB2 := zpt (zac HB1.out HB1.out.size hb2); have HX := zpt hx; clear hb2 hx))
    go_quiet (fail)
    go_wp2_with fail; go_ret2
    exact ⟨by rw [HTl.out, HX.out, zbY]; rfl, zaq HB2.out _⟩
 . have HTl : Hid (T = (p1, p2)) := zpt (by rw [HT.out]; exact if_neg hp)
   go_wp2_with (first | (go_at_call 72; refine hP.mono ?_; rintro e w1 ⟨rfl, hb1⟩; have HB1 := zpt hb1; clear hb1))
   go_ret2
   exact ⟨by rw [HTl.out]; rfl, HB1.out⟩
end X
namespace X
open Go.RowKit Go.Maps YtdpgdnpddndeoaaGreatDoorW.PrintWords YtdpgdnpddndeoaaGreatDoorW.PrintMore YtdpgdnpddndeoaaGreatDoorW.PrintLast
open Go.ChangeMaps Go.MapKept
def strOf : Lit -> zaa
 | .string s => s
 | _ => []
theorem MapIs.tight {P : Program} {kt : TypeId} {w : World} {b n : Nat} {f : zaa -> Option Value} (h : MapIs P kt w b n f) (hk : P.underlying kt = some .string) (L : List zaa) (hL : ∀ k, (f k).isSome = true -> k ∈ L) : MapIs P kt w b L.length f := by
 obtain ⟨D, ho, hf⟩ := h; have ht := ho.tidy (string_keyed hk); obtain ⟨es, clock, hb, F, hs, rfl⟩ := ho; obtain ⟨es0, he, hp⟩ := ht; cases he
 have hlen : ((es.toList.map (WideElems.rg P kt valM)).foldr DataW.insert []).length = es.size := length_read es; have hstr : ∀ p ∈ (es.toList.map (WideElems.rg P kt valM)).foldr DataW.insert [], ∃ s, p.1 = Lit.string s := by
  intro p hpm; have h1 := (WideShapes.sorted_perm _).mem_iff.1 hpm; obtain ⟨x, hx, rfl⟩ := zqR.1 h1; obtain ⟨y, hy⟩ := F.reads x hx; have hr : WideElems.rg P kt valM x = y := by unfold WideElems.rg; rw [hy]; rfl
  have hkey := WideElems.rd_key hy; rw [hr]; generalize x.key = key at hkey; cases key <;> simp [keyOf, hk, mapKey] at hkey
  exact ⟨_, hkey.2.symm⟩
 have hf' := hf; have key : es.size <= L.length := by
  generalize (es.toList.map (WideElems.rg P kt valM)).foldr DataW.insert [] = S at hp hf' hlen hstr; have hmem : ∀ p ∈ S, strOf p.1 ∈ L := by
   intro p hpm; obtain ⟨s, hs1⟩ := hstr p hpm; refine hL _ ?_; rw [<- hf'.1]; rw [hs1]; show S.any (fun q => q.1.sameKey (.string s)) = true
   exact List.any_eq_true.2 ⟨p, hpm, by rw [hs1]; simp [Lit.sameKey]⟩
  have hnd : (S.map fun p => strOf p.1).Nodup := by
   unfold List.Nodup; rw [List.pairwise_map]; refine hp.imp_of_mem fun {p q} h1 h2 hne he => ?_
   obtain ⟨s, e1⟩ := hstr p h1; obtain ⟨s', e2⟩ := hstr q h2; rw [e1, e2] at he hne; exact hne (by rw [show s = s' from he])
  have hle := zf5 _ L hnd (fun x hx => by obtain ⟨p, hpm, rfl⟩ := zqR.1 hx; exact hmem p hpm)
  rw [zqe, hlen] at hle; exact hle
 exact ⟨_, ⟨es, clock, hb, F, key, rfl⟩, hf⟩
def zcb (rs : List zaj) (name : zaa) : Option zaj := rs.find? fun r => (zab r.f2).contains name
def zbJ (rs : List zaj) (rd : zaa -> Option zaa) : Nat -> zaa -> SVal
 | 0, _ => zV
 | n + 1, name => match zcb rs name with
  | none => ⟨(rd name).isSome, mk ((rd name).getD [])⟩
  | some r => runK (zao r) (r.f1.map fun i => zbJ rs rd n i.data.toList) r.f4.length name
structure Mean (rs : List zaj) (rank : zaa -> Nat) : Prop where
 fit : zcj rs
 uniq : ∀ r ∈ rs, ∀ o ∈ r.f2, zcb rs o.data.toList = some r
 rank : ∀ r ∈ rs, ∀ o ∈ r.f2, ∀ i ∈ r.f1, rank i.data.toList < rank o.data.toList
theorem zhR {rs : List zaj} {name : zaa} {r : zaj} (h : zcb rs name = some r) : r ∈ rs /\ ∃ o ∈ r.f2, o.data.toList = name := by
 unfold zcb at h; refine ⟨zrb h, ?_⟩; have := List.find?_some h; have hm : name ∈ zab r.f2 := by simpa using this
 unfold zab at hm; obtain ⟨o, ho, he⟩ := zqR.1 hm; exact ⟨o, ho, he⟩
theorem Mean.lower {rs : List zaj} {rank : zaa -> Nat} (h : Mean rs rank) {name : zaa} {r : zaj} (hp : zcb rs name = some r) {i : ByteArray} (hi : i ∈ r.f1) : rank i.data.toList < rank name := by
 obtain ⟨hr, o, ho, rfl⟩ := zhR hp; exact h.rank r hr o ho i hi
theorem ziM {rs : List zaj} {rank : zaa -> Nat} (h : Mean rs rank) (rd : zaa -> Option zaa) : ∀ (n m : Nat) (name : zaa), rank name < n -> rank name < m -> zbJ rs rd n name = zbJ rs rd m name
 | n + 1, m + 1, name, h1, h2 => by
  unfold zbJ; cases hp : zcb rs name with
  | none => rfl
  | some r =>
   dsimp only; have e : (r.f1.map fun i => zbJ rs rd n i.data.toList) = r.f1.map fun i => zbJ rs rd m i.data.toList := by
    refine zrc fun i hi => ?_
    have := h.lower hp hi; exact ziM h rd n m i.data.toList (by omega) (by omega)
   rw [e]
def valF (rs : List zaj) (rank : zaa -> Nat) (rd : zaa -> Option zaa) (name : zaa) : SVal := zbJ rs rd (rank name + 1) name
theorem zmS {rs : List zaj} {rank : zaa -> Nat} {rd : zaa -> Option zaa} {name : zaa} (hp : zcb rs name = none) : valF rs rank rd name = ⟨(rd name).isSome, mk ((rd name).getD [])⟩ := by
 unfold valF zbJ; rw [hp]
theorem zlC {rs : List zaj} {rank : zaa -> Nat} (h : Mean rs rank) {rd : zaa -> Option zaa} {name : zaa} {r : zaj} (hp : zcb rs name = some r) : valF rs rank rd name = runK (zao r) (r.f1.map fun i => valF rs rank rd i.data.toList) r.f4.length name := by
 have e : (r.f1.map fun i => zbJ rs rd (rank name) i.data.toList) = r.f1.map fun i => valF rs rank rd i.data.toList := by
  refine zrc fun i hi => ?_
  have := h.lower hp hi; exact ziM h rd _ _ i.data.toList (by omega) (by omega)
 unfold valF; conv => lhs; unfold zbJ
 rw [hp]; dsimp only; rw [e]; rfl
theorem zgv {rs : List zaj} {rd : zaa -> Option zaa} (hrd : ∀ k v, rd k = some v -> v.length <= 4194304) : ∀ (n : Nat) (name : zaa), (zbJ rs rd n name).f1.size <= 4194304
 | 0, _ => zqk _
 | n + 1, name => by
  unfold zbJ; split
  . show (mk ((rd name).getD [])).size <= _
    rw [zbb]; cases hr : rd name with
    | none => exact zqk _
    | some v => exact hrd name v hr
  . rename_i r _
    refine zjm (zao r) _ (fun v hv => ?_) _ _
    obtain ⟨i, _, rfl⟩ := zqR.1 hv; exact zgv hrd n _
theorem zoZ {rs : List zaj} {rank : zaa -> Nat} {rd : zaa -> Option zaa} (hrd : ∀ k v, rd k = some v -> v.length <= 4194304) (name : zaa) : (valF rs rank rd name).f1.size <= 4194304 := zgv hrd _ _
theorem zj7 {rs : List zaj} {rank : zaa -> Nat} (h : Mean rs rank) {rd : zaa -> Option zaa} {r : zaj} (hr : r ∈ rs) : runS (zao r) (r.f1.map fun i => valF rs rank rd i.data.toList) = r.f2.map fun o => valF rs rank rd o.data.toList := by
 unfold runS; have h1 : (zao r).ins.length = r.f1.length := zaT _; have h2 : (zao r).steps.length = r.f4.length := zqe ..; rw [zqe, h1, if_neg (by simp), h2]
 show (zab r.f2).map _ = _
 unfold zab; rw [List.map_map]; refine zrc fun o ho => ?_
 exact (zlC h (h.uniq r hr o ho)).symm
def DoneIs (w : World) (b n : Nat) (st : zaa -> Option SVal) : Prop := ∃ f, MapIs zp5 9 w b n f /\ ∀ k, f k = (st k).map aggV
theorem DoneIs.made (w : World) : DoneIs (w.alloc (.map #[] 0)) w.heap.size 0 (fun _ => none) := ⟨_, MapIs.made w, fun _ => rfl⟩
theorem DoneIs.lt {w : World} {b n : Nat} {st : zaa -> Option SVal} (h : DoneIs w b n st) : b < w.heap.size := by obtain ⟨f, h, _⟩ := h; exact h.lt
theorem DoneIs.mono {w : World} {b n n' : Nat} {st : zaa -> Option SVal} (h : DoneIs w b n st) (hn : n <= n') : DoneIs w b n' st := by obtain ⟨f, h, h2⟩ := h; exact ⟨f, h.mono hn, h2⟩
theorem DoneIs.below {w w' : World} {b n : Nat} {st : zaa -> Option SVal} (h : DoneIs w b n st) (hb : Below w.heap.size w w') : DoneIs w' b n st := by obtain ⟨f, h, h2⟩ := h; exact ⟨f, h.below hb, h2⟩
theorem DoneIs.grown {w w' : World} {b n : Nat} {st : zaa -> Option SVal} {row : Option Nat} (h : DoneIs w b n st) (hg : w.grownBy w' row) (hne : some b ≠ row) : DoneIs w' b n st := by obtain ⟨f, h, h2⟩ := h; exact ⟨f, h.grown hg hne, h2⟩
theorem DoneIs.ne_cells {w : World} {b n : Nat} {st : zaa -> Option SVal} (h : DoneIs w b n st) {a t : Nat} {cs : Array Value} {fr : Nat × Nat} (hg : w.heap[a]? = some (.cells cs t fr)) : b ≠ a := by obtain ⟨f, h, _⟩ := h; exact h.ne_cells hg
theorem DoneIs.tight {w : World} {b n : Nat} {st : zaa -> Option SVal} (h : DoneIs w b n st) (L : List zaa) (hL : ∀ k, (st k).isSome = true -> k ∈ L) : DoneIs w b L.length st := by
 obtain ⟨f, h, h2⟩ := h; exact ⟨f, h.tight Tryz.underlying9 L (fun k hk => hL k (by rw [h2] at hk; simpa using hk)), h2⟩
theorem DoneIs.look2 {w : World} {b n : Nat} {st : zaa -> Option SVal} (h : DoneIs w b n st) (k : ByteArray) (hs : k.size <= maxLen) :
 (Instr.lookup 91 (.map (some b)) (.string k) true).run zp5 w = .ok (.tuple #[aggV ((st k.data.toList).getD zV), .bool (st k.data.toList).isSome]) w := by
 obtain ⟨f, h, h2⟩ := h; have := h.look2 Tryz.underlying9 Tryz.underlying91 (Tryz.zeroValue34 w) k hs; rw [this, h2]; cases st k.data.toList <;> rfl
theorem DoneIs.look {w : World} {b n : Nat} {st : zaa -> Option SVal} (h : DoneIs w b n st) (k : ByteArray) (hs : k.size <= maxLen) :
 (Instr.lookup 91 (.map (some b)) (.string k) false).run zp5 w = .ok (aggV ((st k.data.toList).getD zV)) w := by
 obtain ⟨f, h, h2⟩ := h; have := h.look Tryz.underlying9 Tryz.underlying91 (Tryz.zeroValue34 w) k hs; rw [this, h2]; cases st k.data.toList <;> rfl
theorem DoneIs.put {w : World} {b n : Nat} {st : zaa -> Option SVal} (h : DoneIs w b n st) (hn : n < maxLen) (k : ByteArray) (hs : k.size <= maxLen) (v : SVal) :
 ∃ w', (Instr.mapUpdate 91 (.map (some b)) (.string k) (aggV v)).run zp5 w = .ok () w' /\ DoneIs w' b (n + 1) (setG st k.data.toList v) /\ w.grownBy w' (some b) := by
 obtain ⟨f, h, h2⟩ := h; obtain ⟨w', hrun, h', hg⟩ := h.store Tryz.underlying9 Tryz.underlying91 hn k hs (aggV v); refine ⟨w', hrun, ⟨_, h', fun x => ?_⟩, hg⟩
 unfold setF setG; split
 . rfl
 . exact h2 x
def zb6 (rs : List zaj) : List zaa := rs.flatMap fun r => zab r.f2
theorem zkN {rs : List zaj} {r : zaj} {o : ByteArray} (hr : r ∈ rs) (ho : o ∈ r.f2) : o.data.toList ∈ zb6 rs := List.mem_flatMap.2 ⟨r, hr, zqR.2 ⟨o, ho, rfl⟩⟩
structure DSt (rs : List zaj) (rank : zaa -> Nat) (m : TM) (w0 : World) (A : Option Addr) (c gt bt M D : Nat) (w : World) (st : zaa -> Option SVal) : Prop where
 c : w.heap[M]? = some (.cells #[.slice A rs.length c, .pointer (some ⟨gt, 0, none⟩), .map (some D)] 105 (0, 0))
 d : DoneIs w D (zb6 rs).length st
 ok : ∀ k v, st k = some v -> v = valF rs rank (getT m) k /\ k ∈ zb6 rs
 b : Below w0.heap.size w0 w
 lo : w0.heap.size <= D
end X
namespace X
open Go.RowKit Go.Maps YtdpgdnpddndeoaaGreatDoorW.PrintWords YtdpgdnpddndeoaaGreatDoorW.PrintMore YtdpgdnpddndeoaaGreatDoorW.PrintLast
def ziD (a b : SVal) : Bool := a.f0 == b.f0 && (!a.f0 || a.f1.toList == b.f1.toList)
theorem zkF (a b : SVal) (w : World) : Calls zp5 52 #[aggV a, aggV b] w fun e w' => e = .returned (.bool (ziD a b)) /\ Below w.heap.size w w' := by
 obtain ⟨a0, a1⟩ := a; obtain ⟨b0, b1⟩ := b; have hW := ((zpw w.heap.size w).alloc (zpx _) (.cells #[.bool a0, .string a1] 34)).alloc ((zpw w.heap.size w).alloc (zpx _) (.cells #[.bool a0, .string a1] 34)).size (.cells #[.bool b0, .string b1] 34); have HW := zpt hW; clear hW; unfold aggV; cases a0 <;> cases b0 <;> (
  go_enter Tryz.func52, Tryz.ntmps52
  go_wp2_with fail; go_ret
  exact ⟨by unfold ziD; rfl, HW.out⟩)
theorem zm4 : ∀ args w, (callFunc 108 args).run zp5 w = .ok (.enter 108 args) w := Go.Proofs.enters_of Tryz.func108 (by kernel_rfl) rfl
theorem zoG (K : Nat) (name : ByteArray) (r : zaj) (B1 : Option Addr) (c1 : Nat) (B2 : Option Addr) (c2 : Nat) (B3 : Option Addr) (c3 : Nat) (B4 : Option Addr) (c4 : Nat) (w : World) (hk : w.cell? ⟨K, 0, none⟩ = some (.string name)) (h2 : Kd.C zqb w B2 r.f2.length r.f2) :
 Calls zp5 108 #[.agg (zal r B1 c1 B2 c2 B3 c3 B4 c4), .pointer (some ⟨K, 0, none⟩)] w fun e w' => e = .returned (.bool ((zab r.f2).contains name.data.toList)) /\ Below w.heap.size w w' := by
 have hb3 := (zpw w.heap.size w).alloc (zpx _) (.cells (zal r B1 c1 B2 c2 B3 c3 B4 c4) 45); have HX3 := zpt (zap w (.cells (zal r B1 c1 B2 c2 B3 c3 B4 c4) 45)); have HB3 := zpt hb3; have hct := zdg B2 c2 r.f2 name _ (zqS h2 hb3); replace hk := zad hb3 hk
 unfold zal at *; clear hb3 h2; generalize (zab r.f2).contains name.data.toList = q at hct |-; go_enter Tryz.func108, Tryz.ntmps108
 go_upto_region 1 with fail; generalize w.alloc (.cells #[.string r.f0, .slice B1 r.f1.length c1, .slice B2 r.f2.length c2, .slice B3 r.f3.length c3, .slice B4 r.f4.length c4] 45) = w3 at HX3 HB3 hct hk |-; have x2 := bc2 HX3.out; go_wp2_with (first | (go_at_call 92; refine hct.mono ?_; rintro e w6 ⟨rfl, rfl⟩))
 go_ret
 exact ⟨rfl, HB3.out⟩
theorem znh (K : Nat) (name : ByteArray) (A : Option Addr) (c : Nat) (rs : List zaj) (w : World) (hl0 : rs.length <= 1000) (hr : Kd.C k45 w A rs.length rs) (hk : w.cell? ⟨K, 0, none⟩ = some (.string name)) :
 Calls zp5 107 #[.slice A rs.length c, .func (.func 108) #[] #[.pointer (some ⟨K, 0, none⟩)]] w fun e w' => ((zcb rs name.data.toList = none /\ e = .returned (.int .i64 (-1))) \/ ∃ (i : Nat) (h : i < rs.length), e = .returned (.int .i64 i) /\ zcb rs name.data.toList = some rs[i]) /\ Below w.heap.size w w' := by
 have HR := zpt hr; have HK := zpt hk; have eg := zm4; obtain ⟨p, hp⟩ : ∃ p : zaj -> Bool, p = fun r => (zab r.f2).contains name.data.toList := ⟨_, rfl⟩
 have hpf : zcb rs name.data.toList = rs.find? p := by rw [hp]; rfl
 rw [hpf]; have HPd := zpt hp; clear hr hk hp hpf; go_enter Tryz.func107, Tryz.ntmps107
 go_wp2_with fail; go_loopg [5, 8] rs.length (fun gg _ s8 wr => ∃ kk : Nat, kk <= rs.length /\ rs.length - kk <= gg /\ s8 = .int .i64 kk /\ Aside0 (Below w.heap.size w wr) /\ Aside0 ((rs.take kk).any p = false))
 case atStart => exact ⟨0, zqk _, by omega, rfl, ⟨zpw _ _⟩, ⟨rfl⟩⟩
 case round =>
  obtain ⟨kk, hkk, hgk, rfl, HB, HN⟩ := hrel; by_cases hlt : kk < rs.length
  . have hltz : (kk : Int) < (rs.length : Int) := by omega
    obtain ⟨b, o, B1, c1, B2, c2, B3, c3, B4, c4, rfl, p0, p1, p2, p3, p4, hA, hC⟩ := zc0 (zqS HR.out HB.out) kk hlt; have hst := ze8 p rs kk hlt; rw [HN.out, Bool.false_or] at hst; have hfd := zgb p rs kk hlt HN.out; have hcall := zoG K name rs[kk] B1 c1 B2 c2 B3 c3 B4 c4 wr (zad HB.out HK.out) hA.h2; have hpk : (zab rs[kk].f2).contains name.data.toList = p rs[kk] := by rw [HPd.out]
    rw [hpk] at hcall; have HSt := zpt hst; have HFd := zpt hfd; obtain ⟨q, hq⟩ : ∃ q, q = p rs[kk] := ⟨_, rfl⟩; rw [<- hq] at hcall; have HQ := zpt hq; generalize rs[kk] = x at p0 p1 p2 p3 p4 hcall; unfold zal at hcall; clear hst hfd hA hC hpk hq; cases q with
    | true =>
     have HF2 := zpt (HFd.out HQ.out.symm); go_wp2_with (first | (go_at_fn 108; refine hcall.mono ?_; rintro e w2 ⟨rfl, hb2⟩; have HB2 := zpt (zac HB.out HB.out.size hb2); clear hb2))
     go_ret
     exact ⟨.inr ⟨kk, hlt, rfl, HF2.out⟩, HB2.out⟩
    | false =>
     have HN2 : Hid ((rs.take (kk + 1)).any p = false) := zpt (by rw [HSt.out]; exact HQ.out.symm)
     go_wp2_with (first | (go_at_fn 108; refine hcall.mono ?_; rintro e w2 ⟨rfl, hb2⟩; have HB2 := zpt (zac HB.out HB.out.size hb2); clear hb2))
     go_roundg (rs.length - (kk + 1))
     case measure => omega
     case rel => exact ⟨kk + 1, by omega, by omega, by first | rfl | go_num, ⟨HB2.out⟩, ⟨HN2.out⟩⟩
  . have hltz : ¬ (kk : Int) < (rs.length : Int) := by omega
    obtain rfl : kk = rs.length := by omega
    have hN := HN.out; rw [zqf] at hN; have HF2 := zpt (zfh p rs hN); clear hN; go_wp2_with fail; go_ret
    exact ⟨.inl ⟨by first | exact HF2.out | (intro x hx; simpa using List.find?_eq_none.1 HF2.out x hx), rfl⟩, HB.out⟩
section
variable {rs : List zaj} {rank : zaa -> Nat} {m : TM} {w0 : World} {A : Option Addr} {c gt bt M D : Nat} {w : World} {st : zaa -> Option SVal}
theorem DSt.below {w' : World} (h : DSt rs rank m w0 A c gt bt M D w st) (hb : Below w.heap.size w w') : DSt rs rank m w0 A c gt bt M D w' st :=
 ⟨zai h.c hb, h.d.below hb, h.ok, zac h.b h.b.size hb, h.lo⟩
theorem DSt.belowL {w' : World} {L : Nat} (h : DSt rs rank m w0 A c gt bt M D w st) (hb : Below L w w') (h1 : M < L) (h2 : D < L) (h3 : w0.heap.size <= L) : DSt rs rank m w0 A c gt bt M D w' st := by
 obtain ⟨f, ⟨Dm, ho, hf⟩, h4⟩ := h.d; exact ⟨(hb.block M h1).trans h.c, ⟨f, MapIs.kept ⟨Dm, ho, hf⟩ (hb.block D h2), h4⟩, h.ok, h.b.trans (hb.mono h3), h.lo⟩
theorem zeB {a b c : World} {row : Option Nat} (h : a.grownBy b row) (k : Below a.heap.size b c) : a.grownBy c row := ⟨k.os.trans h.os, k.tape.trans h.tape, k.output.trans h.output, zpD h.size k.size, fun i hi hne => (k.block i hi).trans (h.block i hi hne)⟩
theorem zc2 {a b : World} {D : Nat} {p : Addr} {v : Value} (h : a.cell? p = some v) (hg : a.grownBy b (some D)) (hD : ∀ (g t : Nat) (cs : Array Value) (fr : Nat × Nat), a.heap[g]? = some (Obj.cells cs t fr) -> D ≠ g) : b.cell? p = some v := by
 obtain ⟨cs, t, fr, hb⟩ := zgw h; have h5 := hg.block _ (Array.getElem?_eq_some_iff.1 hb).1 (by intro e; injection e with e; exact hD _ _ _ _ hb e.symm)
 unfold World.cell? at h |-; rw [h5]; exact h
theorem zmb {a b : World} {D base : Nat} {v : Value} {l : List SVal} (h : RVal a base v l) (hg : a.grownBy b (some D)) (hD : D < base) : RVal b base v l :=
 Kd.R_mono (Kd.R_grown (Kd.R_bound h) hg (fun k hk e => by injection e with e; have := hk.2.1; omega)) (fun _ _ => trivial)
theorem DSt.cells (h : DSt rs rank m w0 A c gt bt M D w st) : w.cell? ⟨M, 0, none⟩ = some (.slice A rs.length c) /\ w.cell? ⟨M, 1, none⟩ = some (.pointer (some ⟨gt, 0, none⟩)) /\ w.cell? ⟨M, 2, none⟩ = some (.map (some D)) := ⟨(zah h.c 0).trans rfl, (zah h.c 1).trans rfl, (zah h.c 2).trans rfl⟩
theorem zoS {rs : List zaj} (hF : zcj rs) : (zb6 rs).length <= 1000000 := by
 have key : ∀ l : List zaj, (∀ r ∈ l, r.f2.length <= 1000) -> (zb6 l).length <= l.length * 1000 := by
  intro l; induction l with
  | nil => intro _; exact zqk _
  | cons r l ih =>
   intro h; have h1 := ih (fun q hq => h q (List.mem_cons_of_mem _ hq))
   have h2 := h r List.mem_cons_self; have e : (zb6 (r :: l)).length = r.f2.length + (zb6 l).length := by
    unfold zb6; rw [List.flatMap_cons, zpK, zaT]
   rw [e, List.length_cons, Nat.succ_mul]; omega
 have h1 := key rs (fun r hr => (hF.fit r hr).1.outs)
 have h2 : rs.length * 1000 <= 1000 * 1000 := Nat.mul_le_mul_right _ hF.len; omega
theorem DSt.put (h : DSt rs rank m w0 A c gt bt M D w st) (hF : zcj rs) (k : ByteArray) (hs : k.size <= maxLen) (hk : k.data.toList ∈ zb6 rs) :
 ∃ w', (Instr.mapUpdate 91 (.map (some D)) (.string k) (aggV (valF rs rank (getT m) k.data.toList))).run zp5 w = .ok () w' /\ DSt rs rank m w0 A c gt bt M D w' (setG st k.data.toList (valF rs rank (getT m) k.data.toList)) /\ w.grownBy w' (some D) := by
 have hl := zoS hF; obtain ⟨w', hrun, hd, hg⟩ := h.d.put (by unfold maxLen; omega) k hs (valF rs rank (getT m) k.data.toList)
 have hok : ∀ x v, setG st k.data.toList (valF rs rank (getT m) k.data.toList) x = some v -> v = valF rs rank (getT m) x /\ x ∈ zb6 rs := by
  intro x v hx; unfold setG at hx; split at hx
  . rename_i e
    cases hx
    rw [e]; exact ⟨rfl, hk⟩
  . exact h.ok x v hx
 refine ⟨w', hrun, ⟨zaY h.c hg (by intro e; injection e with e; exact h.d.ne_cells h.c e.symm), hd.tight (zb6 rs) (fun x hx => ?_), hok, h.b.grown hg h.b.size (fun j hj => by cases hj; exact h.lo), h.lo⟩, hg⟩
 obtain ⟨v, hv⟩ := Option.isSome_iff_exists.1 hx; exact (hok x v hv).2
end
theorem zgf {fn : Func} {t : Tmp} {ty : TypeId} (h : fn.results = #[.cell t ty]) (tmps : Array Value) (P : Program) (w : World) {a : Addr} {v : Value} (ha : tmps.getD t undef = .pointer (some a)) (hv : (loadVar ty a).run P w = .ok v w) : (results fn tmps).run P w = .ok v w := by
 have ha' : tmps[t]?.getD undef = .pointer (some a) := by simpa using ha
 simp [results, h, ha', asAddr, hv, Result.andThen]
theorem zfX {w : World} {R : Nat} {a : Bool} {b : ByteArray} (h : w.heap[R]? = some (.cells #[.bool a, .string b] 34 (0, 0))) : (loadVar 34 ⟨R, 0, none⟩).run zp5 w = .ok (.agg #[.bool a, .string b]) w := by
 exact run_loadVar_row w R _ 34 _ _ _ h Tryz.underlying34 rfl (by kernel_rfl)
def zd0 (rs : List zaj) (rank : zaa -> Nat) (m : TM) (w0 : World) (A : Option Addr) (c gt bt M D : Nat) (v : SVal) (w : World) (e : Ending) (w' : World) : Prop := e = .returned (aggV v) /\ (∃ st', DSt rs rank m w0 A c gt bt M D w' st') /\ w.grownBy w' (some D)
theorem zl8 (rs : List zaj) (rank : zaa -> Nat) (m : TM) (w0 : World) (A : Option Addr) (c gt bt M D : Nat) (hM : Mean rs rank) (hrd : ∀ k v, getT m k = some v -> v.length <= 4194304) (hr0 : Kd.C k45 w0 A rs.length rs) (hT : IsTree w0 gt bt m) (hG : GOK w0) (N : Nat)
 (hN : ∀ (name : ByteArray) (w : World) (st : zaa -> Option SVal), rank name.data.toList < N -> name.size <= maxLen -> DSt rs rank m w0 A c gt bt M D w st -> Calls zp5 74 #[.pointer (some ⟨M, 0, none⟩), .string name] w (zd0 rs rank m w0 A c gt bt M D (valF rs rank (getT m) name.data.toList) w))
 (name : ByteArray) (w : World) (st : zaa -> Option SVal) (hrk : rank name.data.toList < N + 1) (hns : name.size <= maxLen) (hD : DSt rs rank m w0 A c gt bt M D w st) :
 Calls zp5 74 #[.pointer (some ⟨M, 0, none⟩), .string name] w (zd0 rs rank m w0 A c gt bt M D (valF rs rank (getT m) name.data.toList) w) := by
 have hF := hM.fit; have hn := hF.len; have hb1 := ((zpw w.heap.size w).alloc (zpx _) (.cells #[.string name] 9)); have hb2 := hb1.alloc hb1.size (.cells #[.bool false, .string ⟨#[]⟩] 34); have hs1 : (w.alloc (.cells #[.string name] 9)).heap.size = w.heap.size + 1 := by simp
 have hx1 := zaQ (zap w (.cells #[.string name] 9)) (.cells #[.bool false, .string ⟨#[]⟩] 34); have hx2 := zap (w.alloc (.cells #[.string name] 9)) (.cells #[.bool false, .string ⟨#[]⟩] 34); rw [hs1] at hx2; have HX1 := zpt hx1; have HX2 := zpt hx2; have HD2 := zpt (hD.below hb2); have HD0 := zpt hD; have HB2 := zpt hb2; have HNs := zpt hns; have HRk := zpt hrk; have HNr := zpt hN; have HR0 := zpt hr0; have HT0 := zpt hT; have HG0 := zpt hG; have HF := zpt hF; have HM := zpt hM; have HDn : Hid (D < w.heap.size) := zpt hD.d.lt; clear hb1 hb2 hs1 hx1 hx2 hD hns hrk hN hr0 hT hG hF; go_enter Tryz.func74, Tryz.ntmps74
 go_upto_region 1 with fail; generalize (w.alloc (.cells #[.string name] 9)).alloc (.cells #[.bool false, .string ⟨#[]⟩] 34) = w2 at HX1 HX2 HD2 HB2 |-; have hlk := HD2.out.d.look2 name HNs.out; obtain ⟨m0, m1, m2⟩ := HD2.out.cells; have n0 := bc0 HX1.out; obtain ⟨lv, hlv⟩ : ∃ lv, lv = aggV ((st name.data.toList).getD zV) := ⟨_, rfl⟩; obtain ⟨li, hli⟩ : ∃ li, li = (st name.data.toList).isSome := ⟨_, rfl⟩; have HSo : Hid (∀ W, Below w2.heap.size w2 W -> W.cell? ⟨M, 2, none⟩ = some (.map (some D)) /\ W.cell? ⟨w.heap.size, 0, none⟩ = some (.string name) /\ (Instr.lookup 91 (.map (some D)) (.string name) true).run zp5 W = .ok (.tuple #[lv, .bool li]) W) := zpt (fun W hW => by
  have hd := HD2.out.below hW; exact ⟨hd.cells.2.2, (zah (zai HX1.out hW) 0).trans rfl, by rw [hlv, hli]; exact hd.d.look2 name HNs.out⟩)
 have HLv := zpt hlv; have HLi := zpt hli; have HBx : Hid (Below w2.heap.size w2 w2.drew) := zpt (zaM (zpw _ _)); obtain ⟨q0, q1, hq⟩ : ∃ q0 q1, lv = .agg #[.bool q0, .string q1] := ⟨_, _, hlv⟩; have HQ := zpt hq; rw [<- hlv, <- hli] at hlk; clear hlv hli; subst hq; go_region_held3 (fun W => W.cell? ⟨M, 2, none⟩ = some (.map (some D)) /\ W.cell? ⟨w.heap.size, 0, none⟩ = some (.string name) /\ (Instr.lookup 91 (.map (some D)) (.string name) true).run zp5 W = .ok (.tuple #[.agg #[.bool q0, .string q1], .bool li]) W)
  (first | exact HSo.out _ (zpw _ _) | exact HSo.out _ HBx.out | exact HSo.out _ (HBx.out.alloc HBx.out.size _))
  (fail)
 all_goals
  have hb3 := ((zpw w2.heap.size w2).alloc (zpx _) (.cells #[.bool q0, .string q1] 34)); have HX3 : Hid (((w2.alloc (.cells #[.bool q0, .string q1] 34)).drew).heap[w2.heap.size]? = some (.cells #[.bool q0, .string q1] 34 (0, 0))) := zpt (zaH (zap w2 _)); have HB3 : Hid (Below w2.heap.size w2 ((w2.alloc (.cells #[.bool q0, .string q1] 34)).drew)) := zpt (zaM hb3); clear hb3; generalize (w2.alloc (.cells #[.bool q0, .string q1] 34)).drew = w3 at HX3 HB3 |-; have HN3 := zpt (zai HX1.out HB3.out); have HR3 := zpt (zai HX2.out HB3.out); have HD3 := zpt (HD2.out.below HB3.out); have HW3 := zpt (zac HB2.out HB2.out.size HB3.out); clear hlk m0 m1 m2 n0 HSo HBx HX1 HX2 HD2; cases hst : st name.data.toList with
  | some v =>
   have HV := zpt (HD3.out.ok _ _ hst).1; have hq := HQ.out; have hl := HLi.out; have hlv := HLv.out; rw [hst] at hl hlv; simp only [zra] at hl; subst hl; have HE : Hid (aggV (valF rs rank (getT m) name.data.toList) = .agg #[.bool q0, .string q1]) := zpt (by rw [<- HV.out]; exact hlv.symm)
   have v0 := bc0 HX3.out; have v1 := bc1 HX3.out; have r0 := bc0 HR3.out; have r1 := bc1 HR3.out; have f0 := zak HR3.out 0; have f1 := zak HR3.out 1; clear hq hlv hst; go_wp2_with fail; have HY3 : Hid (((w3.setCell ⟨w.heap.size + 1, 0, none⟩ (.bool q0)).setCell ⟨w.heap.size + 1, 1, none⟩ (.string q1)).heap[w.heap.size + 1]? = some (.cells #[.bool q0, .string q1] 34 (0, 0))) := zpt (zav (zav HR3.out 0 _ rfl) 1 _ rfl); have HB4 := zpt ((HW3.out.setCell (p := ⟨w.heap.size + 1, 0, none⟩) (zrd _) (.bool q0)).setCell (p := ⟨w.heap.size + 1, 1, none⟩) (zrd _) (.string q1)); generalize (w3.setCell ⟨w.heap.size + 1, 0, none⟩ (.bool q0)).setCell ⟨w.heap.size + 1, 1, none⟩ (.string q1) = w4 at HY3 HB4 |-; try simp only [Exit.inBlock, Exit.then]
   refine bodyPost_ret (zgf rfl _ _ _ rfl (zfX HY3.out)) rfl ?_; exact ⟨by rw [HE.out], ⟨st, HD0.out.below HB4.out⟩, zb0 HB4.out _⟩
  | none =>
   have hl := HLi.out; rw [hst] at hl; simp only [zqm] at hl; subst hl; have hIx := znh w.heap.size name A c rs w3 hn (zqS HR0.out HD3.out.b) ((zah HN3.out 0).trans rfl); obtain ⟨m0, m1, m2⟩ := HD3.out.cells; have HIx := zpt hIx; clear hIx HLi HLv HQ HX3; cases hp : zcb rs name.data.toList with
   | none =>
    have HIx2 := zpt (HIx.out.mono (R' := fun e w' => e = .returned (.int .i64 (-1)) /\ Below w3.heap.size w3 w') (fun e w' ⟨h, hb⟩ => by
     rcases h with ⟨_, he⟩ | ⟨i, hi, _, hf⟩
     . exact ⟨he, hb⟩
     . rw [hp] at hf; cases hf))
    have HV := zpt (zmS (rank := rank) (rd := getT m) hp); clear HIx hp hst; go_upto_region 6 with (first | (go_at_call 107; refine HIx2.out.mono ?_; rintro e w5 ⟨rfl, hb5⟩; have HB5 := zpt hb5; clear hb5))
    have HSo : Hid (∀ W, Below w3.heap.size w3 W -> W.cell? ⟨M, 1, none⟩ = some (.pointer (some ⟨gt, 0, none⟩)) /\ W.cell? ⟨w.heap.size, 0, none⟩ = some (.string name)) := zpt (fun W hW => ⟨(HD3.out.below hW).cells.2.1, (zah (zai HN3.out hW) 0).trans rfl⟩)
    have HTr : Hid (∀ W, Below w3.heap.size w3 W -> Calls zp5 109 #[.pointer (some ⟨gt, 0, none⟩), .string name] W fun e w' => e = .returned (.tuple #[.string (mk ((getT m name.data.toList).getD [])), .bool (getT m name.data.toList).isSome]) /\ Drawn0 W w') := zpt (fun W hW => tree_Read.calls W gt bt m (HT0.out.below (HD3.out.below hW).b) name HNs.out)
    have HBx : Hid (Below w3.heap.size w3 w5.drew) := zpt (zaM HB5.out); clear m0 m1 m2 HIx2; generalize mk ((getT m name.data.toList).getD []) = q2 at HTr HV; generalize (getT m name.data.toList).isSome = q3 at HTr HV; go_region_held3 (fun W => W.cell? ⟨M, 1, none⟩ = some (.pointer (some ⟨gt, 0, none⟩)) /\ W.cell? ⟨w.heap.size, 0, none⟩ = some (.string name))
     (first | exact HSo.out _ HB5.out | exact HSo.out _ HBx.out)
     (first | (go_at_call 109; refine (HTr.out _ HBx.out).mono ?_; rintro e w6 ⟨rfl, hd6⟩; have HBx := zpt (zac HBx.out HBx.out.size hd6.below); clear hd6))
    all_goals
     have HR6 := zpt (zai HR3.out HBx.out); have r0 := bc0 HR6.out; have r1 := bc1 HR6.out; have f0 := zak HR6.out 0; have f1 := zak HR6.out 1; go_wp2_with fail; have HY7 : Hid (((w6.setCell ⟨w.heap.size + 1, 0, none⟩ (.bool q3)).setCell ⟨w.heap.size + 1, 1, none⟩ (.string q2)).heap[w.heap.size + 1]? = some (.cells #[.bool q3, .string q2] 34 (0, 0))) := zpt (zav (zav HR6.out 0 _ rfl) 1 _ rfl); have HB7 := zpt (((HW3.out.trans (HBx.out.mono HW3.out.size)).setCell (p := ⟨w.heap.size + 1, 0, none⟩) (zrd _) (.bool q3)).setCell (p := ⟨w.heap.size + 1, 1, none⟩) (zrd _) (.string q2)); generalize (w6.setCell ⟨w.heap.size + 1, 0, none⟩ (.bool q3)).setCell ⟨w.heap.size + 1, 1, none⟩ (.string q2) = w7 at HY7 HB7 |-; try simp only [Exit.inBlock, Exit.then]
     refine bodyPost_ret (zgf rfl _ _ _ rfl (zfX HY7.out)) rfl ?_; exact ⟨by rw [HV.out]; rfl, ⟨st, HD0.out.below HB7.out⟩, zb0 HB7.out _⟩
   | some r =>
    have HIx2 := zpt (HIx.out.mono (R' := fun e w' => ∃ (i : Nat) (h : i < rs.length), e = .returned (.int .i64 i) /\ rs[i] = r /\ Below w3.heap.size w3 w') (fun e w' ⟨h, hb⟩ => by
     rcases h with ⟨hf, _⟩ | ⟨i, hi, he, hf⟩
     . rw [hp] at hf; cases hf
     . exact ⟨i, hi, he, (zp6 (hp.symm.trans hf)).symm, hb⟩))
    obtain ⟨hrm, on, hon, hone⟩ := zhR hp; obtain ⟨hfr, _, _, _⟩ := HF.out.fit r hrm; have HFr := zpt hfr; have HLow : Hid (∀ i ∈ r.f1, rank i.data.toList < N /\ i.size <= maxLen) := zpt (fun i hi => ⟨by have := hM.lower hp hi; have := HRk.out; omega, hfr.insN i hi⟩)
    have HRS := zpt (zj7 (rank := rank) hM (rd := getT m) hrm); have HOn : Hid (∃ o ∈ r.f2, o.data.toList = name.data.toList) := zpt ⟨on, hon, hone⟩; have HOv : Hid (∀ o ∈ r.f2, o.data.toList ∈ zb6 rs /\ o.size <= maxLen) := zpt (fun o ho => ⟨zkN hrm ho, hfr.outsN o ho⟩)
    have hl1 := hfr.ins; have hl2 := hfr.outs; clear HIx hp hst hrm hon hone hfr; go_upto_region 8 with (first | (go_at_call 107; refine HIx2.out.mono ?_; rintro e w5 ⟨i, hi, rfl, hir, hb5⟩; have HB5 := zpt hb5; have HIr := zpt hir; clear hb5 hir))
    have hiz : (i : Int) < (rs.length : Int) := by omega
    have HD5 := zpt (HD3.out.below HB5.out); obtain ⟨b, o, B1, c1, B2, c2, B3, c3, B4, c4, rfl, p0, p1, p2, p3, p4, hA, hC⟩ := zc0 HR0.out i hi; replace p0 := zad HD5.out.b p0
    replace p1 := zad HD5.out.b p1
    replace p2 := zad HD5.out.b p2
    replace p3 := zad HD5.out.b p3
    replace p4 := zad HD5.out.b p4
    rw [HIr.out] at p0 p1 p2 p3 p4 hA; obtain ⟨n0, n1, n2⟩ := HD5.out.cells; have hb6 := (zpw w5.heap.size w5).alloc (zpx _) (.cells (zal r B1 c1 B2 c2 B3 c3 B4 c4) 45); have HX6 := zpt (zap w5 (.cells (zal r B1 c1 B2 c2 B3 c3 B4 c4) 45)); have HA0 := zpt hA; have HD6 := zpt (HD5.out.below hb6); have HB6 : Hid (Below w3.heap.size w3 _) := zpt (zac HB5.out HB5.out.size hb6); clear hb6 hA hC m0 m1 m2; unfold zal at HX6 HD6 HB6; go_upto_region 10 with fail; generalize hxb : w5.heap.size = XB at HX6 |-; generalize w5.alloc (.cells #[.string r.f0, .slice B1 r.f1.length c1, .slice B2 r.f2.length c2, .slice B3 r.f3.length c3, .slice B4 r.f4.length c4] 45) = w6 at HX6 HD6 HB6 |-; clear hxb p0 p1 p2 p3 p4 n0 n1 n2; have x1 := bc1 HX6.out; have HW6 := zpt (HW3.out.trans (HB6.out.mono HW3.out.size)); have HM6 : Hid (M < w6.heap.size) := zpt (za1 HD6.out.c); have HDl6 : Hid (D < w6.heap.size) := zpt HD6.out.d.lt; go_wp2_with fail; go_loopg [11, 13, 57] r.f1.length (fun gg s11 _ s57 wi => ∃ j : Nat, j <= r.f1.length /\ r.f1.length - j <= gg /\ s57 = .int .i64 j /\ Aside0 (RVal wi w6.heap.size s11 ((r.f1.take j).map fun i => valF rs rank (getT m) i.data.toList)) /\ Aside0 (∃ st', DSt rs rank m w0 (some ⟨b, o, none⟩) c gt bt M D wi st') /\ Aside0 (w6.grownBy wi (some D)))
    case atStart => exact ⟨0, zqk _, by omega, rfl, ⟨Kd.R_nil _ _ _ _ _⟩, ⟨st, HD6.out⟩, ⟨World.grownBy.refl _ _⟩⟩
    case round =>
     obtain ⟨j, hj, hgj, rfl, HO, HDi, HGi⟩ := hrel; obtain ⟨st2, hD2⟩ := HDi.out; have HD2 := zpt hD2; have HW0 : Hid (w0.heap.size <= w6.heap.size) := zpt HD6.out.b.size; by_cases hlj : j < r.f1.length
     . have hljz : (j : Int) < (r.f1.length : Int) := by omega
       obtain ⟨b5, o5, rfl, n0⟩ := za4 (zqS HA0.out.h1 hD2.b) j hlj; have hlo := HLow.out _ (zqQ hlj); have hcall := HNr.out r.f1[j] wr st2 hlo.1 hlo.2 hD2; have hsu : (r.f1.take (j + 1)).map (fun i => valF rs rank (getT m) i.data.toList) = (r.f1.take j).map (fun i => valF rs rank (getT m) i.data.toList) ++ [valF rs rank (getT m) r.f1[j].data.toList] := by rw [zpZ hlj, zqo]; rfl
       have hml : ((r.f1.take j).map (fun i => valF rs rank (getT m) i.data.toList)).length = j := by rw [zqe, zpI]; omega
       have HML := zpt hml; have HSu := zpt hsu; generalize valF rs rank (getT m) r.f1[j].data.toList = v at hcall HSu; generalize r.f1[j] = nm at n0 hcall; unfold zd0 aggV at hcall; clear hD2 hlo hsu hml; go_wp2_with (first
        | (go_at_call 74; refine hcall.mono ?_; rintro e w7 ⟨rfl, ⟨st7, hD7⟩, hg7⟩; have HD7 := zpt hD7; have HG7 := zpt (zpF HGi.out hg7); have HO7 := zpt (zmb HO.out hg7 HDl6.out); have HS7 := zpt HG7.out.size; have HBr := zpt (zpw w6.heap.size w7); clear hD7 hg7)
        | ((with_reducible refine zaG (b := .append) (xs := #[.tmp 61, .tmp 65]) rfl ?_); at_builtin; refine Kd.R_append k34 (w0 := w7) w6.heap.size rfl (.tmp 61) (.tmp 65) 25 34 (.agg #[.bool false, .string ⟨#[]⟩]) 24 rfl Tryz.underlying25 zc4 rfl (by decide) (by decide) u11 ((r.f1.take j).map (fun i => valF rs rank (getT m) i.data.toList)) v [.bool v.f0, .string v.f1] (fun _ => True) (fun k_ => True /\ some k_ ≠ u11.ownBlock) rfl rfl (zcY _ _ _ v) (fun _ hk => hk) (fun _ _ => trivial) HO7.out HBr.out HS7.out ?aL ?_; (case aL => (have h1 := HML.out; omega)); intro v1 w8 ho hb hg hat; have HO8 : Hid (RVal w8 w6.heap.size v1 ((r.f1.take (j + 1)).map (fun i => valF rs rank (getT m) i.data.toList))) := (by show RVal _ _ _ _; rw [HSu.out]; exact ho); have HB8 := zpt hb; clear ho hb hg hat))
       go_roundg (r.f1.length - (j + 1))
       case measure => omega
       case rel => exact ⟨j + 1, by omega, by omega, by first | rfl | go_num, ⟨HO8.out⟩, ⟨st7, HD7.out.belowL HB8.out HM6.out HDl6.out HW0.out⟩, ⟨zeB HG7.out HB8.out⟩⟩
     . have hljz : ¬ (j : Int) < (r.f1.length : Int) := by omega
       obtain rfl : j = r.f1.length := by omega
       have hO := HO.out; rw [zqf] at hO; obtain ⟨A5, n5, rfl, _, hC5⟩ := zqq hO; have hOf := zf9 r B1 c1 B2 c2 B3 c3 B4 c4 A5 n5 _ wr (HG0.out.below hD2.b) (zqS HA0.out.h1 hD2.b) (zqS HA0.out.h2 hD2.b) (zqS HA0.out.h4 hD2.b) hC5 HFr.out (fun v hv => by
        obtain ⟨i, _, rfl⟩ := zqR.1 hv; exact zoZ hrd _)
       rw [HRS.out, zqe] at hOf; rw [zqe]; have hX := zaY HX6.out HGi.out (by intro e; injection e with e; exact HD6.out.d.ne_cells HX6.out e.symm)
       have HXr := zpt hX; have y0 := bc0 hX; have y1 := bc1 hX; have y2 := bc2 hX; have y3 := bc3 hX; have y4 := bc4 hX; unfold zal at hOf; clear hO hC5 hX hD2; go_upto_region 16 with (first | (go_at_call 34; refine hOf.mono ?_; rintro e w9 ⟨v9, rfl, hR9, hb9⟩; have HR9 := zpt hR9; have HB9 := zpt hb9; obtain ⟨A9, c9, rfl, _, hC9⟩ := zqq hR9; have HC9 := zpt hC9; clear hR9 hb9 hC9))
       have hlm : (r.f2.map fun o => valF rs rank (getT m) o.data.toList).length = r.f2.length := zqe ..
       have HC9 : Hid (Kd.C k34 w9 A9 (r.f2.map fun o => valF rs rank (getT m) o.data.toList).length (r.f2.map fun o => valF rs rank (getT m) o.data.toList)) := zpt HC9.out
       try rw [hlm]
       have HD9 := zpt (HD2.out.below HB9.out); have HG9 := zpt (zeB HGi.out (HB9.out.mono HGi.out.size)); have HX9 := zpt (zai HXr.out HB9.out); clear hlm y0 y1 y2 y3 y4 hOf; go_wp2_with fail; go_loopg [14, 15, 72] r.f2.length (fun gg _ _ s72 wi => ∃ k : Nat, k <= r.f2.length /\ r.f2.length - k <= gg /\ s72 = .int .i64 k /\ Aside0 (∃ st', DSt rs rank m w0 (some ⟨b, o, none⟩) c gt bt M D wi st' /\ ∀ x ∈ r.f2.take k, (st' x.data.toList).isSome = true) /\ Aside0 (w9.grownBy wi (some D)))
       case atStart => exact ⟨0, zqk _, by omega, rfl, ⟨st2, HD9.out, fun x hx => by simp at hx⟩, ⟨World.grownBy.refl _ _⟩⟩
       case round =>
        obtain ⟨k, hk, hgk2, rfl, HDk, HGk⟩ := hrel; obtain ⟨st3, hD3, hall⟩ := HDk.out; have HAll := zpt hall; have HD3 := zpt hD3; have hXk := zaY HX9.out HGk.out (by intro e; injection e with e; exact HD9.out.d.ne_cells HX9.out e.symm)
        have HXk := zpt hXk; by_cases hlk : k < r.f2.length
        . have hlkz : (k : Int) < (r.f2.length : Int) := by omega
          have hlk2 : k < (r.f2.map fun o => valF rs rank (getT m) o.data.toList).length := by rw [zqe]; exact hlk
          obtain ⟨b7, o7, rfl, v0, v1⟩ := zdn HC9.out k hlk2; replace v0 := zc2 v0 HGk.out (fun g t cs fr h => HD9.out.d.ne_cells h)
          replace v1 := zc2 v1 HGk.out (fun g t cs fr h => HD9.out.d.ne_cells h)
          have hge : (r.f2.map fun o => valF rs rank (getT m) o.data.toList)[k] = valF rs rank (getT m) r.f2[k].data.toList := List.getElem_map ..
          rw [hge] at v0 v1; obtain ⟨b8, o8, rfl, q8⟩ := za4 (zqS HA0.out.h2 hD3.b) k hlk; obtain ⟨hov, hos⟩ := HOv.out _ (zqQ hlk); have hb10 := (zpw wr.heap.size wr).alloc (zpx _) (.cells #[.bool (valF rs rank (getT m) r.f2[k].data.toList).f0, .string (valF rs rank (getT m) r.f2[k].data.toList).f1] 34); have HV10 := zpt (zap wr (.cells #[.bool (valF rs rank (getT m) r.f2[k].data.toList).f0, .string (valF rs rank (getT m) r.f2[k].data.toList).f1] 34)); have HB10 := zpt hb10; have hD10 := hD3.below hb10; have HBx : Hid (Below _ _ _) := zpt (zaM (zpw (wr.alloc (.cells #[.bool (valF rs rank (getT m) r.f2[k].data.toList).f0, .string (valF rs rank (getT m) r.f2[k].data.toList).f1] 34)).heap.size (wr.alloc (.cells #[.bool (valF rs rank (getT m) r.f2[k].data.toList).f0, .string (valF rs rank (getT m) r.f2[k].data.toList).f1] 34)))); obtain ⟨w11, hrun, hD11, hg11⟩ := (hD10.below HBx.out).put HF.out r.f2[k] hos hov; have HAll2 : Hid (∀ x ∈ r.f2.take (k + 1), (setG st3 r.f2[k].data.toList (valF rs rank (getT m) r.f2[k].data.toList) x.data.toList).isSome = true) := zpt (fun x hx => by
           rw [zpZ hlk] at hx; unfold setG; split
           . rfl
           . rename_i hne
             rcases zq7.1 hx with hx | hx
             . exact hall x hx
             . rw [zq6.1 hx] at hne
               exact absurd rfl hne)
          have HD11 := zpt hD11; have HG11 := zpt hg11; have HXx := zpt (zai hXk hb10); have HQ10 := zpt (zad hb10 q8); have HNe := zpt (fun (g t : Nat) (cs : Array Value) (fr : Nat × Nat) h => hD10.d.ne_cells (a := g) (t := t) (cs := cs) (fr := fr) h)
          have HD10 := zpt hD10; unfold aggV at hrun; generalize valF rs rank (getT m) r.f2[k].data.toList = v at v0 v1 HV10 HB10 HBx hrun HAll2 HD11 HG11 HXx HQ10 HNe HD10; generalize r.f2[k] = nm at q8 hrun HAll2 HD11 HQ10; clear hb10 hD10 hD11 hg11 hge hlk2 hov hos hall hD3 hXk; go_upto_region 18 with fail; generalize wr.alloc (.cells #[.bool v.f0, .string v.f1] 34) = w10 at HV10 HB10 HBx hrun HD11 HG11 HXx HQ10 HNe HD10 |-; have HSo : Hid (∀ W, Below w10.heap.size w10 W -> W.cell? ⟨M, 2, none⟩ = some (.map (some D)) /\ W.cell? ⟨XB, 2, none⟩ = some (.slice (some ⟨b8, o8, none⟩) r.f2.length c2) /\ W.cell? ⟨b8, o8 + k, none⟩ = some (.string nm) /\ W.cell? ⟨wr.heap.size, 0, none⟩ = some (.bool v.f0) /\ W.cell? ⟨wr.heap.size, 1, none⟩ = some (.string v.f1)) := zpt (fun W hW => ⟨(HD10.out.below hW).cells.2.2, (zah (zai HXx.out hW) 2).trans rfl, zad hW HQ10.out, (zah (zai HV10.out hW) 0).trans rfl, (zah (zai HV10.out hW) 1).trans rfl⟩)
          have HS11 : Hid (w11.cell? ⟨M, 2, none⟩ = some (.map (some D)) /\ w11.cell? ⟨XB, 2, none⟩ = some (.slice (some ⟨b8, o8, none⟩) r.f2.length c2) /\ w11.cell? ⟨b8, o8 + k, none⟩ = some (.string nm) /\ w11.cell? ⟨wr.heap.size, 0, none⟩ = some (.bool v.f0) /\ w11.cell? ⟨wr.heap.size, 1, none⟩ = some (.string v.f1)) := zpt (by
           obtain ⟨a1, a2, a3, a4, a5⟩ := HSo.out _ HBx.out; have hne : ∀ (g t : Nat) (cs : Array Value) (fr : Nat × Nat), w10.drew.heap[g]? = some (Obj.cells cs t fr) -> D ≠ g := fun g t cs fr h => HNe.out g t cs fr h
           exact ⟨zc2 a1 HG11.out hne, zc2 a2 HG11.out hne, zc2 a3 HG11.out hne, zc2 a4 HG11.out hne, zc2 a5 HG11.out hne⟩)
          clear v0 v1 q8; go_region_held3 (fun W => W.cell? ⟨M, 2, none⟩ = some (.map (some D)) /\ W.cell? ⟨XB, 2, none⟩ = some (.slice (some ⟨b8, o8, none⟩) r.f2.length c2) /\ W.cell? ⟨b8, o8 + k, none⟩ = some (.string nm) /\ W.cell? ⟨wr.heap.size, 0, none⟩ = some (.bool v.f0) /\ W.cell? ⟨wr.heap.size, 1, none⟩ = some (.string v.f1))
           (first | exact HSo.out _ (zpw _ _) | exact HSo.out _ HBx.out | exact HS11.out)
           (fail)
          all_goals
           have HG12 := zpt (zpF (zeB HGk.out ((HB10.out.trans (HBx.out.mono HB10.out.size)).mono HGk.out.size)) HG11.out); go_wp2_with fail; go_roundg (r.f2.length - (k + 1))
           case measure => omega
           case rel => exact ⟨k + 1, by omega, by omega, by first | rfl | go_num, ⟨_, HD11.out, HAll2.out⟩, ⟨HG12.out⟩⟩
        . have hlkz : ¬ (k : Int) < (r.f2.length : Int) := by omega
          obtain rfl : k = r.f2.length := by omega
          obtain ⟨on, hon, hone⟩ := HOn.out; have hsome := hall on (by rw [zqf]; exact hon)
          rw [hone] at hsome; obtain ⟨vn, hvn⟩ := Option.isSome_iff_exists.1 hsome; obtain ⟨hv, _⟩ := hD3.ok _ _ hvn; have HVn := zpt hv; have hM0 : M < w.heap.size := za1 HD0.out.c; have hlo := HD0.out.b.size; have HG6 := zpt (zpF HG9.out HGk.out); have HNk := zpt (zaY (zai HN3.out HB6.out) HG6.out (by have h := HDn.out; intro e; injection e with e; omega))
          have HRk := zpt (zaY (zai HR3.out HB6.out) HG6.out (by have h := HDn.out; intro e; injection e with e; omega))
          have HSo : Hid (∀ W, Below w.heap.size wr W -> W.heap[w.heap.size]? = some (.cells #[.string name] 9 (0, 0)) -> W.cell? ⟨M, 2, none⟩ = some (.map (some D)) /\ W.cell? ⟨w.heap.size, 0, none⟩ = some (.string name) /\ (Instr.lookup 91 (.map (some D)) (.string name) false).run zp5 W = .ok (aggV vn) W) := zpt (fun W hW hN => by
           have hd := hD3.belowL hW hM0 HDn.out hlo; have hl := hd.d.look name HNs.out; rw [hvn] at hl; exact ⟨hd.cells.2.2, (zah hN 0).trans rfl, hl⟩)
          have HBw : Hid (Below w.heap.size wr wr.drew) := zpt (zaM (zpw _ _)); have HB12 := zpt ((HBw.out.setCell (p := ⟨w.heap.size + 1, 0, none⟩) (zrd _) (.bool vn.f0)).setCell (p := ⟨w.heap.size + 1, 1, none⟩) (zrd _) (.string vn.f1)); have HN12 : Hid (((wr.drew.setCell ⟨w.heap.size + 1, 0, none⟩ (.bool vn.f0)).setCell ⟨w.heap.size + 1, 1, none⟩ (.string vn.f1)).heap[w.heap.size]? = some (.cells #[.string name] 9 (0, 0))) := zpt (zaP (zaP (zaH HNk.out) (p := ⟨w.heap.size + 1, 0, none⟩) (show w.heap.size ≠ w.heap.size + 1 by omega) _) (p := ⟨w.heap.size + 1, 1, none⟩) (show w.heap.size ≠ w.heap.size + 1 by omega) _)
          have HR12 : Hid (((wr.drew.setCell ⟨w.heap.size + 1, 0, none⟩ (.bool vn.f0)).setCell ⟨w.heap.size + 1, 1, none⟩ (.string vn.f1)).heap[w.heap.size + 1]? = some (.cells #[.bool vn.f0, .string vn.f1] 34 (0, 0))) := zpt (zav (zav (zaH HRk.out) 0 _ rfl) 1 _ rfl); have r0 := bc0 (zaH HRk.out); have r1 := bc1 (zaH HRk.out); have f0 : wr.drew.frozen? ⟨w.heap.size + 1, 0, none⟩ = false := zak (zaH HRk.out) 0; have f1 : wr.drew.frozen? ⟨w.heap.size + 1, 1, none⟩ = false := zak (zaH HRk.out) 1; have r0w := bc0 HRk.out; have r1w := bc1 HRk.out; have f0w : wr.frozen? ⟨w.heap.size + 1, 0, none⟩ = false := zak HRk.out 0; have f1w : wr.frozen? ⟨w.heap.size + 1, 1, none⟩ = false := zak HRk.out 1; have HS1 := zpt (HSo.out wr (zpw _ _) HNk.out); have HS2 := zpt (HSo.out wr.drew HBw.out (zaH HNk.out)); have HS3 := zpt (HSo.out _ HB12.out HN12.out); have HDk2 := zpt hD3; unfold aggV at HS1 HS2 HS3; clear hon hone hsome hvn hv hD3 hall hXk; go_upto_region 20 with fail; go_region_held3 (fun W => W.cell? ⟨M, 2, none⟩ = some (.map (some D)) /\ W.cell? ⟨w.heap.size, 0, none⟩ = some (.string name) /\ (Instr.lookup 91 (.map (some D)) (.string name) false).run zp5 W = .ok (.agg #[.bool vn.f0, .string vn.f1]) W)
           (first | exact HS1.out | exact HS2.out | exact HS3.out)
           (fail)
          all_goals
           have HR13 : Hid ((((wr.setCell ⟨w.heap.size + 1, 0, none⟩ (.bool vn.f0)).setCell ⟨w.heap.size + 1, 1, none⟩ (.string vn.f1)).drew).heap[w.heap.size + 1]? = some (.cells #[.bool vn.f0, .string vn.f1] 34 (0, 0))) := zpt (zaH (zav (zav HRk.out 0 _ rfl) 1 _ rfl)); have HB13 := zpt (zaM (((zpw w.heap.size wr).setCell (p := ⟨w.heap.size + 1, 0, none⟩) (zrd _) (.bool vn.f0)).setCell (p := ⟨w.heap.size + 1, 1, none⟩) (zrd _) (.string vn.f1))); generalize ((wr.setCell ⟨w.heap.size + 1, 0, none⟩ (.bool vn.f0)).setCell ⟨w.heap.size + 1, 1, none⟩ (.string vn.f1)).drew = w13 at HR13 HB13 |-; go_wp2_with fail; try simp only [Exit.inBlock, Exit.then]
           refine bodyPost_ret (zgf rfl _ _ _ rfl (zfX HR13.out)) rfl ?_; exact ⟨by rw [<- HVn.out]; rfl, ⟨st3, HDk2.out.belowL HB13.out hM0 HDn.out hlo⟩, zeB (zpF (zb0 HW6.out (some D)) HG6.out) HB13.out⟩
theorem ziT (rs : List zaj) (rank : zaa -> Nat) (m : TM) (w0 : World) (A : Option Addr) (c gt bt M D : Nat) (hM : Mean rs rank) (hrd : ∀ k v, getT m k = some v -> v.length <= 4194304) (hr0 : Kd.C k45 w0 A rs.length rs) (hT : IsTree w0 gt bt m) (hG : GOK w0) :
 ∀ (N : Nat) (name : ByteArray) (w : World) (st : zaa -> Option SVal), rank name.data.toList < N -> name.size <= maxLen -> DSt rs rank m w0 A c gt bt M D w st -> Calls zp5 74 #[.pointer (some ⟨M, 0, none⟩), .string name] w (zd0 rs rank m w0 A c gt bt M D (valF rs rank (getT m) name.data.toList) w)
 | 0, _, _, _, h, _, _ => absurd h (Nat.not_lt_zero _)
 | N + 1, name, w, st, h, hs, hD => zl8 rs rank m w0 A c gt bt M D hM hrd hr0 hT hG N (ziT rs rank m w0 A c gt bt M D hM hrd hr0 hT hG N) name w st h hs hD
theorem zk5 {a b : World} {D base : Nat} {v : Value} {l : List SVal} (h : RVal a base v l) (hg : a.grownBy b (some D)) (hD : ∀ (g t : Nat) (cs : Array Value) (fr : Nat × Nat), a.heap[g]? = some (Obj.cells cs t fr) -> D ≠ g) : RVal b base v l :=
 Kd.R_mono (Kd.R_step (Kd.R_mono (Kd.R_bound h) (fun k hk => hk)) (fun k hk hlt => hg.block k hlt (fun e => by
  cases e
  obtain ⟨_, _, _, q, _, cells, hc⟩ := hk; exact hD _ _ _ _ hc rfl))) (fun _ _ => trivial)
theorem DSt.row {rs : List zaj} {rank : zaa -> Nat} {m : TM} {w0 : World} {A : Option Addr} {c gt bt M D : Nat} {w w' : World} {st : zaa -> Option SVal} (h : DSt rs rank m w0 A c gt bt M D w st) {g : Nat} (hg : w.grownBy w' (some g)) (h1 : M ≠ g) (h2 : D ≠ g) (hb : Below w0.heap.size w0 w') : DSt rs rank m w0 A c gt bt M D w' st :=
 ⟨zaY h.c hg (by intro e; injection e with e; exact h1 e), h.d.grown hg (by intro e; injection e with e; exact h2 e), h.ok, hb, h.lo⟩
def zdq (rs : List zaj) (rank : zaa -> Nat) (m : TM) (nm : List ByteArray) : List SVal := if (allV rs).1 = 0 then nm.map fun n => valF rs rank (getT m) n.data.toList else List.replicate nm.length zV
theorem zk4 {α β : Type} (f : α -> β) (z : β) (l : List α) (k : Nat) (h : k < l.length) : ((l.take k).map f ++ List.replicate (l.length - k) z).set k (f l[k]) = (l.take (k + 1)).map f ++ List.replicate (l.length - (k + 1)) z := by
 have e : l.length - k = (l.length - (k + 1)) + 1 := by omega
 rw [e, List.replicate_succ, zpZ h, zqo, zq8]; have hl : ((l.take k).map f).length = k := by rw [zqe, zpI]; omega
 rw [List.set_append_right _ _ (by omega), hl, Nat.sub_self]
 rfl
theorem zoO (rs : List zaj) (rank : zaa -> Nat) (m : TM) (A : Option Addr) (c gt bt : Nat) (B : Option Addr) (d : Nat) (nm : List ByteArray) (w : World) (hG : GOK w) (hr : Kd.C k45 w A rs.length rs) (hT : IsTree w gt bt m) (hn : Kd.C zqb w B nm.length nm)
 (hF : zcj rs) (hM : (allV rs).1 = 0 -> Mean rs rank) (hrd : ∀ k v, getT m k = some v -> v.length <= 4194304) (hl : nm.length <= 1000) (hs : ∀ x ∈ nm, x.size <= maxLen) :
 Calls zp5 50 #[.slice A rs.length c, .pointer (some ⟨gt, 0, none⟩), .slice B nm.length d] w (zfC (zdq rs rank m nm) w) := by
 have HG := zpt hG; have HR := zpt hr; have HT := zpt hT; have HN := zpt hn; have HF := zpt hF; have HM := zpt hM; have HRd := zpt hrd; have HS := zpt hs; have hrn := hF.len; obtain ⟨T, hTd⟩ : ∃ T, T = zdq rs rank m nm := ⟨_, rfl⟩; rw [<- hTd]; have HTd := zpt hTd; clear hG hr hT hn hF hM hrd hs hTd; have hmm := @run_makeMap zp5; have hz0 : (0 : Int) <= (nm.length : Int) := by omega
 go_enter Tryz.func50, Tryz.ntmps50
 go_upto_region 2 with (first | (at_make; refine Kd.R_make k34 (w0 := w) w.heap.size 34 rfl rfl 25 (.tmp 14) (.tmp 14) rfl (nm.length : Int) rfl rfl Tryz.underlying25 (.agg #[.bool false, .string ⟨#[]⟩]) 24 zc4 rfl (by decide) (by decide) zV (okp := fun _ => True) (ok := fun _ => True) (zcY _ _ _ zV) (fun _ h => h) trivial hz0 (by omega) (zpw _ _) (zpx _) ?_; intro v1 w2 ho hb hg hv; have HO2 := zpt ho; have HB2 := zpt hb; clear ho hb hg hv))
 rw [zqN] at HO2; have hal := zfr A c rs w2 (HG.out.below HB2.out) (zqS HR.out HB2.out) HF.out; obtain ⟨pe, hpe⟩ : ∃ pe, pe = allV rs := ⟨_, rfl⟩; rw [<- hpe] at hal; have HPe := zpt hpe; obtain ⟨p1, p2⟩ := pe; unfold zdY at hal; dsimp only at hal; clear hpe; by_cases hp : p1 = 0
 . subst hp
   have HP0 : Hid ((allV rs).1 = 0) := zpt (by rw [<- HPe.out])
   have HTn : Hid (T = nm.map fun n => valF rs rank (getT m) n.data.toList) := zpt (by rw [HTd.out]; unfold zdq; rw [if_pos HP0.out])
   have HMe := zpt (HM.out HP0.out); go_upto_region 5 with (first | (go_at_call 49; refine hal.mono ?_; rintro e w3 ⟨rfl, hb3⟩; have HB3 := zpt (zac HB2.out HB2.out.size hb3); have HO3 := zpt (zqu HO2.out hb3); clear hb3))
   have hb4 := (zpw w3.heap.size w3).alloc (zpx _) (.map #[] 0); have hs4 : (w3.alloc (.map #[] 0)).heap.size = w3.heap.size + 1 := by simp
   have hb5 := hb4.alloc hb4.size (.cells #[.slice A rs.length c, .pointer (some ⟨gt, 0, none⟩), .map (some w3.heap.size)] 105); have hd5 := ((DoneIs.made w3).below ((zpw _ _).alloc (zpx _) (.cells #[.slice A rs.length c, .pointer (some ⟨gt, 0, none⟩), .map (some w3.heap.size)] 105))).mono (zqk (zb6 rs).length); have hc5 := zap (w3.alloc (.map #[] 0)) (.cells #[.slice A rs.length c, .pointer (some ⟨gt, 0, none⟩), .map (some w3.heap.size)] 105); rw [hs4] at hc5; have HD5 : Hid (DSt rs rank m w A c gt bt (w3.heap.size + 1) w3.heap.size _ (fun _ => none)) := zpt ⟨hc5, hd5, (fun k v h => by cases h), zac HB3.out HB3.out.size hb5, HB3.out.size⟩
   have HO5 := zpt (zqu HO3.out hb5); have HB5 := zpt (zac HB3.out HB3.out.size hb5); have HFi := zpt (ziT rs rank m w A c gt bt (w3.heap.size + 1) w3.heap.size HMe.out HRd.out HR.out HT.out HG.out); have HDlo : Hid (w.heap.size <= w3.heap.size) := zpt HB3.out.size; have HRt : Hid (∀ k, v1.ownBlock = some k -> k < w3.heap.size) := zpt (Kd.R_lt HO3.out); clear hb4 hs4 hb5 hd5 hc5 hal HO2; go_upto_region 6 with fail; generalize w3.heap.size = D at HDlo HRt HFi HD5 HO5 HB5 |-; generalize (w3.alloc (.map #[] 0)).alloc (.cells #[.slice A rs.length c, .pointer (some ⟨gt, 0, none⟩), .map (some D)] 105) = w5 at HD5 HO5 HB5 |-; clear hmm; go_wp2_with fail; go_loopg [11, 12, 31] nm.length (fun gg _ _ s31 wi => ∃ j : Nat, j <= nm.length /\ nm.length - j <= gg /\ s31 = .int .i64 j /\ Aside0 (RVal wi w.heap.size v1 ((nm.take j).map (fun n => valF rs rank (getT m) n.data.toList) ++ List.replicate (nm.length - j) zV)) /\ Aside0 (∃ st', DSt rs rank m w A c gt bt (D + 1) D wi st') /\ Aside0 (Below w.heap.size w wi))
   case atStart => exact ⟨0, zqk _, by omega, rfl, ⟨by simpa using HO5.out⟩, ⟨_, HD5.out⟩, ⟨HB5.out⟩⟩
   case round =>
    obtain ⟨j, hj, hgj, rfl, HO, HDi, HW⟩ := hrel; obtain ⟨st2, hD2⟩ := HDi.out; have hlen : ((nm.take j).map (fun n => valF rs rank (getT m) n.data.toList) ++ List.replicate (nm.length - j) zV).length = nm.length := by rw [zpK, zqe, zpI, List.length_replicate]; omega
    by_cases hlj : j < nm.length
    . have hljz : (j : Int) < (nm.length : Int) := by omega
      obtain ⟨b5, o5, rfl, n0⟩ := za4 (zqS HN.out HW.out) j hlj; have hcall := HFi.out (rank nm[j].data.toList + 1) nm[j] wr st2 (Nat.lt_succ_self _) (HS.out _ (zqQ hlj)) hD2; obtain ⟨g, cap, hv1, hbg, hgl, _⟩ := Kd.R_form HO.out (by rw [hlen]; omega)
      rw [hlen] at hv1; subst hv1; have hfs := zk4 (fun n : ByteArray => valF rs rank (getT m) n.data.toList) zV nm j hlj
      have HNe := zpt (fun (g t : Nat) (cs : Array Value) (fr : Nat × Nat) h => hD2.d.ne_cells (a := g) (t := t) (cs := cs) (fr := fr) h)
      have HFs := zpt hfs; have HLen := zpt hlen; have hjt : (j : Int).toNat = j := zqN j; generalize (nm.take j).map (fun n => valF rs rank (getT m) n.data.toList) ++ List.replicate (nm.length - j) zV = xs at HO HFs HLen
      generalize hvv : valF rs rank (getT m) nm[j].data.toList = v at hcall HFs; generalize nm[j] = x at n0 hcall hvv; unfold zd0 aggV at hcall; clear hfs hlen hD2 hvv; go_wp2_with (first
       | (go_at_call 74; refine hcall.mono ?_; rintro e w7 ⟨rfl, ⟨st7, hD7⟩, hg7⟩; have HD7 := zpt hD7; have HG7 := zpt hg7; have HO7 := zpt (zk5 HO.out hg7 HNe.out); have HB7 := zpt (HW.out.grown hg7 HW.out.size (fun k hk => by cases hk; exact HDlo.out)); clear hD7 hg7)
       | (refine gate_ (.store 34 (.tmp 41) (.tmp 40)) rfl ?_; obtain ⟨cc, hc1, _, hc3, _⟩ := Kd.R_elem HO7.out zV (j : Int) (by omega) hljz; refine Kd.R_store k34 (w0 := w) w.heap.size rfl rfl 34 (.tmp 41) (.tmp 40) rfl 34 (g := g) (n := nm.length) (cap := cap) (j : Int) 0 xs v (.agg #[.bool v.f0, .string v.f1]) [.bool v.f0, .string v.f1] cc (fun _ => True) (fun _ => False) (haddr := rfl) (hoff := by show _ = (j : Int).toNat * 2 + 0; rw [zqN]; first | rfl | omega | simp) (hx := rfl) (hu := rfl) (ht := by kernel_rfl) (h1 := by simp [Value.oneCell']) (HO := HO7.out) (h0 := by omega) (hi := hljz) (hcl := hc1) (hcc := hc3) (hj := by show 0 + 2 <= 2; omega) (hM := by have e : cc.drop 2 = [] := List.drop_eq_nil_of_le (Nat.le_of_eq hc1); show Kd.M k34 _ _ _ v ([] ++ [.bool v.f0, .string v.f1] ++ cc.drop 2); rw [e]; exact zcY _ _ _ v) (hokp := fun _ h => h.elim) (HB := HB7.out) ?_; intro w8 ho hb hg8; have HO8 := zpt ho; have HB8 := zpt hb; have HG8 := zpt hg8; clear ho hb hg8 hc1 hc3))
      have HD8 : Hid (DSt rs rank m w A c gt bt (D + 1) D w8 st7) := zpt (by
       have hgD := HRt.out g (by simp [Value.ownBlock])
       exact HD7.out.row HG8.out (by omega) (by omega) HB8.out)
      have HO9 : Hid (RVal w8 w.heap.size (.slice (some ⟨g, 0, none⟩) nm.length cap) ((nm.take (j + 1)).map (fun n => valF rs rank (getT m) n.data.toList) ++ List.replicate (nm.length - (j + 1)) zV)) := zpt (by rw [<- HFs.out]; have h := HO8.out; rw [hjt] at h; exact h)
      go_roundg (nm.length - (j + 1))
      case measure => omega
      case rel => exact ⟨j + 1, by omega, by omega, by first | rfl | go_num, ⟨HO9.out⟩, ⟨_, HD8.out⟩, ⟨HB8.out⟩⟩
    . have hljz : ¬ (j : Int) < (nm.length : Int) := by omega
      obtain rfl : j = nm.length := by omega
      have hO := HO.out; rw [zqf, Nat.sub_self, List.replicate_zero, List.append_nil, <- HTn.out] at hO; have HOf := zpt hO; clear hO hlen hD2; go_wp2_with fail; go_ret
      exact ⟨_, rfl, HOf.out, HW.out⟩
 . have HTn : Hid (T = List.replicate nm.length zV) := zpt (by rw [HTd.out]; unfold zdq; rw [if_neg (by rw [<- HPe.out]; exact hp)])
   go_wp2_with (first | (go_at_call 49; refine hal.mono ?_; rintro e w3 ⟨rfl, hb3⟩; have HB3 := zpt (zac HB2.out HB2.out.size hb3); have HO3 := zpt (zqu HO2.out hb3); clear hb3))
   go_ret
   exact ⟨_, rfl, by rw [HTn.out]; exact HO3.out, HB3.out⟩
end X
namespace X
def R7 : zaj := ⟨⟨#[114]⟩, [⟨#[97]⟩, ⟨#[98]⟩], [⟨#[120]⟩, ⟨#[121]⟩], [], [⟨⟨#[116]⟩, 3, [⟨#[97]⟩], [], 0⟩, ⟨⟨#[120]⟩, 4, [⟨#[116]⟩], [], 0⟩, ⟨⟨#[121]⟩, 2, [⟨#[98]⟩], [], 0⟩]⟩
def S7 : zaj := ⟨⟨#[115]⟩, [⟨#[120]⟩], [⟨#[97]⟩], [], [⟨⟨#[97]⟩, 1, [⟨#[120]⟩], [], 0⟩]⟩
theorem zlN : runS (zao R7) (R7.f1.map (zbr [⟨#[98]⟩] [⟨true, ⟨#[122]⟩⟩])) = [⟨false, ⟨#[]⟩⟩, ⟨true, ⟨#[122]⟩⟩] := by rfl
theorem zoH : zbn R7 = 0 := by rfl
theorem zjG : mayC (zam ⟨⟨#[116]⟩, 3, [⟨#[97]⟩], [], 0⟩) = true := by rfl
theorem znm : (zbo ⟨#[97, 10, 10, 98]⟩).length = 3 := by rfl
theorem zo2 : (zaR (zau (za2 [⟨#[120]⟩]) (zao R7).steps).1 true).length = 2 := by rfl
theorem zo8 : (zaR (zau (za2 R7.f2) (zao R7).steps).1 false).length = 0 := by rfl
theorem zoJ : newT [([97], [50, 10, 49])] = [([97], [50, 10, 49])] := by rfl
theorem zmh : (zbq (zao R7) (zau (za2 [⟨#[120]⟩]) (zao R7).steps).1) = [[97]] := by
 unfold zbq; rw [<- zeR]; rfl
theorem zfn (l : List ByteArray) : zae l = ((l.map fun x => x.data.toList).foldl putS []).map mk := by unfold zae; rw [zeR]
theorem zl4 : (zbq (zao R7) (zau (za2 R7.f2) (zao R7).steps).1) = [[97],[98]] := by
 unfold zbq; rw [<- zeR]; rfl
theorem zg3 (all rs : List zaj) : zbz all rs = fun n => (rs.reverse.find? fun r => r.f0.data.toList == n).map fun r => zbR ((((zb3 all r).map fun x => x.data.toList).foldl putS []).map mk) := by
 funext n
 unfold zbz; congr 1
 funext r
 rw [zfn]
theorem zok : allV [S7, R7] = (3, ⟨#[114]⟩) := by
 unfold allV cycV zcg wayV zcV; rw [zg3, zfn]; rfl
theorem zhU : allV [R7] = (0, ⟨#[]⟩) := by
 unfold allV cycV zcg wayV zcV; rw [zg3, zfn]; rfl
def zgT (s : Cmd) (bs : List zaa) : zaa × Bool := if s.op = 3 then (zba ((zbA (bs.getD 0 [])).foldl putS []), true) else zaS s bs
theorem zhr : zaS = zgT := by
 funext s bs
 unfold zgT; split
 . rename_i h
   unfold zaS; rw [if_neg (by omega), if_neg (by omega), if_pos h, zeR]
 . rfl
theorem sv_of : runS (zao R7) [⟨true, ⟨#[113, 10, 112]⟩⟩, ⟨true, ⟨#[]⟩⟩] = [⟨true, ⟨#[50, 10]⟩⟩, ⟨false, ⟨#[]⟩⟩] := by
 unfold runS runK zcZ doP; rw [zhr]; kernel_rfl
def rk7 : zaa -> Nat := fun n => if n = [120] \/ n = [121] then 1 else 0
theorem zjB : zdq [R7] rk7 [([97], [50, 10, 49])] [⟨#[120]⟩, ⟨#[97]⟩, ⟨#[121]⟩] = [⟨true, ⟨#[50, 10]⟩⟩, ⟨true, ⟨#[50, 10, 49]⟩⟩, ⟨false, ⟨#[]⟩⟩] := by
 unfold zdq; rw [zhU]; unfold valF; show [zbJ _ _ 2 [120], zbJ _ _ 1 [97], zbJ _ _ 2 [121]] = _
 unfold zbJ runK zcZ doP; rw [zhr]; kernel_rfl
end X
end Go.Proofs.YtdpgdnpddndeoaaGreatDoor
