/-
  Programs that run, walked by hand: run.Named.
  Sets of names, in memory: a map of bools that the call has made.
  What an output reads, plainly: the steps that are needed, the inputs that are read; a program without the rest tells the same (SliceAll, SliceTurn, SliceSteps, RunPart).
  What an output reads, walked by hand: needed.
  Rows of names of the call's own: sorted in place, and each name once.
  Rules that may be, walked by hand: names, form.
  What an output reads, walked by hand: places, reads; Steps, Reads, All, Dead.
  Rules that may be, walked by hand: form, twice.
  Rules that may be, walked by hand: names.
-/
import Derived.Test.YtdpgdnpddndeoaaGreatDoorZ8
import Derived.Test.YtdpgdnpddndeoaaGreatDoorZ7
namespace Go.Proofs.YtdpgdnpddndeoaaGreatDoor.X
open Go.RowKit Go.Maps Go.Proofs.YtdpgdnpddndeoaaGreatDoorW.PrintWords Go.Proofs.YtdpgdnpddndeoaaGreatDoorW.PrintMore Go.Proofs.YtdpgdnpddndeoaaGreatDoorW.PrintLast
set_option linter.unusedSimpArgs false
set_option maxHeartbeats 1000000 in
theorem zlT (A : Option Addr) (c : Nat) (l : List ByteArray) (t : ByteArray) (w : World) (hr : Kd.C Kd.string w A l.length l) :
 Calls Tryz.prog 64 #[.slice A l.length c, .string t] w fun e w' => e = .returned (.int .i64 (idxF l t)) /\ w = w' := by
 cases l with
 | cons a r => exact zgG A c (a :: r) t w hr (Nat.succ_pos _)
 | nil =>
  have he : idxF [] t = -1 := by unfold idxF; simp
  rw [he]
  clear hr he
  show Calls Tryz.prog _ #[.slice A 0 c, .string t] w _
  go_enter Tryz.func64, Tryz.ntmps64
  go_wp2_with fail
  go_loopg [5, 8] 0 (fun gg _ s8 wr => s8 = .int .i64 0 /\ wr = w)
  case atStart => exact ⟨rfl, rfl⟩
  case round =>
   obtain ⟨rfl, rfl⟩ := hrel
   go_wp2_with fail
   go_ret
   exact ⟨rfl, rfl⟩

def zbn (ins : List ByteArray) (vs : List SVal) (n : ByteArray) : SVal := if 0 <= idxF ins n /\ idxF ins n < vs.length then vs.getD (idxF ins n).toNat zV else zV
set_option maxHeartbeats 8000000 in
set_option maxRecDepth 100000 in
theorem znt (r : zai) (B1 : Option Addr) (c1 : Nat) (B2 : Option Addr) (c2 : Nat) (B3 : Option Addr) (c3 : Nat) (B4 : Option Addr) (c4 : Nat) (Ai : Option Addr) (ci : Nat) (ins : List ByteArray) (A : Option Addr) (c : Nat) (vs : List SVal) (w : World) (hG : GOK w)
 (h1 : Kd.C Kd.string w B1 r.f1.length r.f1) (h2 : Kd.C Kd.string w B2 r.f2.length r.f2) (h4 : Kd.C k24 w B4 r.f4.length r.f4) (hi : Kd.C Kd.string w Ai ins.length ins) (hr : Kd.C k34 w A vs.length vs) (hF : FitR r) (hsz : ∀ v ∈ vs, v.f1.size <= 4194304) :
 Calls Tryz.prog 36 #[.agg (zao r B1 c1 B2 c2 B3 c3 B4 c4), .slice Ai ins.length ci, .slice A vs.length c] w (zfP (runS (zax r) (r.f1.map (zbn ins vs))) w) := by
 have hlen : vs.length <= 9223372036854775807 := hr.2.1
 have hn1 := hF.ins
 have hW := (Below.refl w.heap.size w).alloc (Nat.le_refl _) (.cells (zao r B1 c1 B2 c2 B3 c3 B4 c4) 45)
 have HK := znM (zan w (.cells (zao r B1 c1 B2 c2 B3 c3 B4 c4) 45))
 have HB := znM hW
 have H1 := znM (Kd.C_below h1 hW)
 have H2 := znM (Kd.C_below h2 hW)
 have H4 := znM (Kd.C_below h4 hW)
 have HI := znM (Kd.C_below hi hW)
 have HR := znM (Kd.C_below hr hW)
 have HG := znM (hG.below hW)
 have HS := znM hsz
 have HF := znM hF
 have hOf := fun (W : World) (hW : Below w.heap.size w W) (A5 : Option Addr) (n5 : Nat) (hr5 : Kd.C k34 W A5 (r.f1.map (zbn ins vs)).length (r.f1.map (zbn ins vs))) => zft r B1 c1 B2 c2 B3 c3 B4 c4 A5 n5 (r.f1.map (zbn ins vs)) W (hG.below hW) (Kd.C_below h1 hW) (Kd.C_below h2 hW) (Kd.C_below h4 hW) hr5 hF (fun v hv => by
  obtain ⟨n, _, rfl⟩ := List.mem_map.1 hv
  unfold zbn
  split
  . rename_i hc
    rw [List.getD_eq_getElem?_getD, List.getElem?_eq_getElem (show (idxF ins n).toNat < vs.length by omega)]
    exact hsz _ (List.getElem_mem _)
  . exact Nat.zero_le _)
 rw [List.length_map] at hOf
 have HOf := znM hOf
 obtain ⟨T, hT⟩ : ∃ T, T = runS (zax r) (r.f1.map (zbn ins vs)) := ⟨_, rfl⟩
 rw [<- hT] at HOf |-
 clear hT hW h1 h2 h4 hi hr hG hsz hF hOf
 unfold zao at *
 go_enter Tryz.func36, Tryz.ntmps36
 go_upto_region 2 with fail
 generalize w.alloc (.cells #[.string r.f0, .slice B1 r.f1.length c1, .slice B2 r.f2.length c2, .slice B3 r.f3.length c3, .slice B4 r.f4.length c4] 45) = w1 at HB HK H1 H2 H4 HI HR HG |-
 have k1 : w1.cell? ⟨w.heap.size, 1, none⟩ = some (.slice B1 r.f1.length c1) := (zab HK.out 1).trans rfl
 go_wp2_with fail
 go_loopg [7, 9, 10, 11, 15] r.f1.length (fun gg s7 _ _ _ s15 wr => ∃ kk : Nat, kk <= r.f1.length /\ r.f1.length - kk <= gg /\ s15 = .int .i64 kk /\ Aside0 (RVal wr w1.heap.size s7 ((r.f1.take kk).map (zbn ins vs))) /\ Aside0 (Below w1.heap.size w1 wr))
 case atStart => exact ⟨0, Nat.zero_le _, by omega, rfl, ⟨Kd.R_nil _ _ _ _ _⟩, ⟨Below.refl _ _⟩⟩
 case round =>
  obtain ⟨kk, hkk, hgk, rfl, HO, HW⟩ := hrel
  obtain ⟨wq, rfl⟩ : ∃ wq, wq = wr := ⟨wr, rfl⟩
  by_cases hlt : kk < r.f1.length
  . have hltz : (kk : Int) < (r.f1.length : Int) := by omega
    obtain ⟨b, o, rfl, p0⟩ := zbc (Kd.C_below H1.out HW.out) kk hlt
    have hb3 := (Below.refl wq.heap.size wq).alloc (Nat.le_refl _) (.cells #[.bool false, .string ⟨#[]⟩] 34)
    have HX3 := znM (zan wq (.cells #[.bool false, .string ⟨#[]⟩] 34))
    have HB3 := znM hb3
    have hix := zlT Ai ci ins r.f1[kk] (wq.alloc (.cells #[.bool false, .string ⟨#[]⟩] 34)) (Kd.C_below HI.out (HW.out.alloc HW.out.size _))
    have hsu : (r.f1.take (kk + 1)).map (zbn ins vs) = (r.f1.take kk).map (zbn ins vs) ++ [zbn ins vs r.f1[kk]] := by rw [List.take_succ_eq_append_getElem hlt, List.map_append]; rfl
    have hml : ((r.f1.take kk).map (zbn ins vs)).length = kk := by rw [List.length_map, List.length_take]; omega
    have HML := znM hml
    have hpv : zbn ins vs r.f1[kk] = if 0 <= idxF ins r.f1[kk] /\ idxF ins r.f1[kk] < vs.length then vs.getD (idxF ins r.f1[kk]).toNat zV else zV := rfl
    have HSu := znM hsu
    have HPv := znM hpv
    generalize zbn ins vs r.f1[kk] = v at HSu HPv
    generalize idxF ins r.f1[kk] = i at hix HPv
    generalize r.f1[kk] = n at p0 hix
    clear hb3 hsu hml hpv
    go_upto_region 6 with fail
    generalize wq.alloc (.cells #[.bool false, .string ⟨#[]⟩] 34) = w3 at HX3 HB3 hix |-
    have HBl := znM (zad HW.out HW.out.size HB3.out)
    by_cases hi : 0 <= i /\ i < vs.length
    . have hP := HPv.out
      rw [if_pos hi] at hP
      obtain ⟨hi1, hi2⟩ := hi
      obtain ⟨m, rfl⟩ := Int.eq_ofNat_of_zero_le hi1
      have hm : m < vs.length := by omega
      obtain ⟨bv, ov, rfl, v0, v1⟩ := zdk (Kd.C_below HR.out HBl.out) m hm
      have hP2 : v = vs[m] := by rw [hP, Int.toNat_natCast, List.getD_eq_getElem?_getD, List.getElem?_eq_getElem hm]; rfl
      rw [<- hP2] at v0 v1
      have HPv2 : Hid (v = ⟨v.f0, v.f1⟩) := znM rfl
      have y0 : w3.cell? ⟨wq.heap.size, 0, none⟩ = some (.bool false) := (zab HX3.out 0).trans rfl
      have y1 : w3.cell? ⟨wq.heap.size, 1, none⟩ = some (.string ⟨#[]⟩) := (zab HX3.out 1).trans rfl
      have hfr0 := zag HX3.out 0
      have hfr1 := zag HX3.out 1
      clear hP hP2 HPv
      go_upto_region 9 with (first | (go_at_call 64; refine hix.mono ?_; rintro e w4 ⟨rfl, rfl⟩))
      have HX5 : Hid (((w3.setCell ⟨wq.heap.size, 0, none⟩ (.bool v.f0)).setCell ⟨wq.heap.size, 1, none⟩ (.string v.f1)).heap[wq.heap.size]? = some (.cells #[.bool v.f0, .string v.f1] 34 (0, 0))) := znM (zap (zap HX3.out 0 _ rfl) 1 _ rfl)
      have HBx := znM ((HB3.out.setCell (p := ⟨wq.heap.size, 0, none⟩) (Nat.le_refl _) (.bool v.f0)).setCell (p := ⟨wq.heap.size, 1, none⟩) (Nat.le_refl _) (.string v.f1))
      generalize (w3.setCell ⟨wq.heap.size, 0, none⟩ (.bool v.f0)).setCell ⟨wq.heap.size, 1, none⟩ (.string v.f1) = w5 at HX5 HBx |-
      clear y0 y1 hfr0 hfr1 v0 v1
      have z0 : w5.cell? ⟨wq.heap.size, 0, none⟩ = some (.bool v.f0) := (zab HX5.out 0).trans rfl
      have z1 : w5.cell? ⟨wq.heap.size, 1, none⟩ = some (.string v.f1) := (zab HX5.out 1).trans rfl
      have HO5 := znM (Kd.R_below HO.out HBx.out)
      have HB5 := znM (zad HW.out HW.out.size HBx.out)
      have HWs := znM HB5.out.size
      go_wp2_with (first | ((with_reducible refine zaO (b := .append) (xs := #[.tmp 35, .tmp 37]) rfl ?_); at_builtin; refine Kd.R_append k34 (w0 := w1) w1.heap.size rfl (.tmp 35) (.tmp 37) 25 34 (.agg #[.bool false, .string ⟨#[]⟩]) 24 rfl Tryz.underlying25 zcP rfl (by decide) (by decide) u7 ((r.f1.take kk).map (zbn ins vs)) ⟨v.f0, v.f1⟩ [.bool v.f0, .string v.f1] (fun _ => True) (fun k_ => True /\ some k_ ≠ u7.ownBlock) rfl rfl (zcA _ _ _ ⟨v.f0, v.f1⟩) (fun _ hk => hk) (fun _ _ => trivial) HO5.out HB5.out HWs.out ?aL ?_; (case aL => (have h1 := HML.out; omega)); intro v1 w6 ho hb hg hat; have HO6 : Hid (RVal w6 w1.heap.size v1 ((r.f1.take (kk + 1)).map (zbn ins vs))) := (by show RVal _ _ _ _; rw [HSu.out]; exact ho); have HB6 := znM hb; clear ho hb hg hat))
      go_roundg (r.f1.length - (kk + 1))
      case measure => omega
      case rel => exact ⟨kk + 1, by omega, by omega, by first | rfl | go_num, ⟨HO6.out⟩, ⟨HB6.out⟩⟩
    . have hP := HPv.out
      rw [if_neg hi] at hP
      have HPv2 : Hid (v = ⟨false, ⟨#[]⟩⟩) := znM hP
      clear hP HPv
      by_cases hi1 : 0 <= i
      . have hi2 : ¬ i < (vs.length : Int) := fun h => hi ⟨hi1, h⟩
        clear hi
        go_upto_region 9 with (first | (go_at_call 64; refine hix.mono ?_; rintro e w4 ⟨rfl, rfl⟩))
        have z0 : w3.cell? ⟨wq.heap.size, 0, none⟩ = some (.bool false) := (zab HX3.out 0).trans rfl
        have z1 : w3.cell? ⟨wq.heap.size, 1, none⟩ = some (.string ⟨#[]⟩) := (zab HX3.out 1).trans rfl
        have HO5 := znM (Kd.R_below HO.out HB3.out)
        have HB5 := znM (zad HW.out HW.out.size HB3.out)
        have HWs := znM HB5.out.size
        go_wp2_with (first | ((with_reducible refine zaO (b := .append) (xs := #[.tmp 35, .tmp 37]) rfl ?_); at_builtin; refine Kd.R_append k34 (w0 := w1) w1.heap.size rfl (.tmp 35) (.tmp 37) 25 34 (.agg #[.bool false, .string ⟨#[]⟩]) 24 rfl Tryz.underlying25 zcP rfl (by decide) (by decide) u7 ((r.f1.take kk).map (zbn ins vs)) ⟨false, ⟨#[]⟩⟩ [.bool false, .string ⟨#[]⟩] (fun _ => True) (fun k_ => True /\ some k_ ≠ u7.ownBlock) rfl rfl (zcA _ _ _ ⟨false, ⟨#[]⟩⟩) (fun _ hk => hk) (fun _ _ => trivial) HO5.out HB5.out HWs.out ?aL ?_; (case aL => (have h1 := HML.out; omega)); intro v1 w6 ho hb hg hat; have HO6 : Hid (RVal w6 w1.heap.size v1 ((r.f1.take (kk + 1)).map (zbn ins vs))) := (by show RVal _ _ _ _; rw [HSu.out, HPv2.out]; exact ho); have HB6 := znM hb; clear ho hb hg hat))
        go_roundg (r.f1.length - (kk + 1))
        case measure => omega
        case rel => exact ⟨kk + 1, by omega, by omega, by first | rfl | go_num, ⟨HO6.out⟩, ⟨HB6.out⟩⟩
      . clear hi
        go_upto_region 9 with (first | (go_at_call 64; refine hix.mono ?_; rintro e w4 ⟨rfl, rfl⟩))
        have z0 : w3.cell? ⟨wq.heap.size, 0, none⟩ = some (.bool false) := (zab HX3.out 0).trans rfl
        have z1 : w3.cell? ⟨wq.heap.size, 1, none⟩ = some (.string ⟨#[]⟩) := (zab HX3.out 1).trans rfl
        have HO5 := znM (Kd.R_below HO.out HB3.out)
        have HB5 := znM (zad HW.out HW.out.size HB3.out)
        have HWs := znM HB5.out.size
        go_wp2_with (first | ((with_reducible refine zaO (b := .append) (xs := #[.tmp 35, .tmp 37]) rfl ?_); at_builtin; refine Kd.R_append k34 (w0 := w1) w1.heap.size rfl (.tmp 35) (.tmp 37) 25 34 (.agg #[.bool false, .string ⟨#[]⟩]) 24 rfl Tryz.underlying25 zcP rfl (by decide) (by decide) u7 ((r.f1.take kk).map (zbn ins vs)) ⟨false, ⟨#[]⟩⟩ [.bool false, .string ⟨#[]⟩] (fun _ => True) (fun k_ => True /\ some k_ ≠ u7.ownBlock) rfl rfl (zcA _ _ _ ⟨false, ⟨#[]⟩⟩) (fun _ hk => hk) (fun _ _ => trivial) HO5.out HB5.out HWs.out ?aL ?_; (case aL => (have h1 := HML.out; omega)); intro v1 w6 ho hb hg hat; have HO6 : Hid (RVal w6 w1.heap.size v1 ((r.f1.take (kk + 1)).map (zbn ins vs))) := (by show RVal _ _ _ _; rw [HSu.out, HPv2.out]; exact ho); have HB6 := znM hb; clear ho hb hg hat))
        go_roundg (r.f1.length - (kk + 1))
        case measure => omega
        case rel => exact ⟨kk + 1, by omega, by omega, by first | rfl | go_num, ⟨HO6.out⟩, ⟨HB6.out⟩⟩
  . have hltz : ¬ (kk : Int) < (r.f1.length : Int) := by omega
    obtain rfl : kk = r.f1.length := by omega
    have hO := HO.out
    rw [List.take_length] at hO
    obtain ⟨A5, n5, rfl, _, hC5⟩ := Kd.R_reads hO
    rw [List.length_map] at hC5 |-
    have hB := HB.out.trans (HW.out.mono HB.out.size)
    have hX := zah HK.out HW.out
    have hcall := HOf.out wq hB A5 n5 hC5
    have HBa := znM hB
    have x0 : wq.cell? ⟨w.heap.size, 0, none⟩ = some (.string r.f0) := (zab hX 0).trans rfl
    have x1 : wq.cell? ⟨w.heap.size, 1, none⟩ = some (.slice B1 r.f1.length c1) := (zab hX 1).trans rfl
    have x2 : wq.cell? ⟨w.heap.size, 2, none⟩ = some (.slice B2 r.f2.length c2) := (zab hX 2).trans rfl
    have x3 : wq.cell? ⟨w.heap.size, 3, none⟩ = some (.slice B3 r.f3.length c3) := (zab hX 3).trans rfl
    have x4 : wq.cell? ⟨w.heap.size, 4, none⟩ = some (.slice B4 r.f4.length c4) := (zab hX 4).trans rfl
    clear hO hC5 hB hX
    go_wp2_with (first | (go_at_call 34; refine hcall.mono ?_; rintro e w7 ⟨v7, rfl, hR7, hb7⟩; have HR7 := znM (Kd.R_lower hR7 HBa.out.size); have HB7 := znM (zad HBa.out HBa.out.size hb7); clear hR7 hb7))
    go_ret
    exact ⟨_, rfl, HR7.out, HB7.out⟩

def SetIs (w : World) (b n : Nat) (s : zaa -> Bool) : Prop := ∃ f, MapIs Tryz.prog 9 w b n f /\ ∀ k, (f k).getD (.bool false) = .bool (s k)
theorem SetIs.made (w : World) : SetIs (w.alloc (.map #[] 0)) w.heap.size 0 (fun _ => false) := ⟨_, MapIs.made w, fun _ => rfl⟩
theorem SetIs.lt {w : World} {b n : Nat} {s : zaa -> Bool} (h : SetIs w b n s) : b < w.heap.size := by obtain ⟨f, h, _⟩ := h; exact h.lt
theorem SetIs.mono {w : World} {b n n' : Nat} {s : zaa -> Bool} (h : SetIs w b n s) (hn : n <= n') : SetIs w b n' s := by obtain ⟨f, h, h2⟩ := h; exact ⟨f, h.mono hn, h2⟩
theorem SetIs.below {w w' : World} {b n : Nat} {s : zaa -> Bool} (h : SetIs w b n s) (hb : Below w.heap.size w w') : SetIs w' b n s := by obtain ⟨f, h, h2⟩ := h; exact ⟨f, h.below hb, h2⟩
theorem SetIs.grown {w w' : World} {b n : Nat} {s : zaa -> Bool} {row : Option Nat} (h : SetIs w b n s) (hg : w.grownBy w' row) (hne : some b ≠ row) : SetIs w' b n s := by obtain ⟨f, h, h2⟩ := h; exact ⟨f, h.grown hg hne, h2⟩
theorem MapIs.ne_cells {w : World} {kt b n : Nat} {f : zaa -> Option Value} (h : MapIs Tryz.prog kt w b n f) {g t : Nat} {cs : Array Value} {fr : Nat × Nat} (hg : w.heap[g]? = some (.cells cs t fr)) : b ≠ g := by
 rintro rfl
 obtain ⟨D, ⟨es, clock, hb, _⟩, _⟩ := h
 rw [hb] at hg
 cases hg
theorem SetIs.ne_cells {w : World} {b n : Nat} {s : zaa -> Bool} (h : SetIs w b n s) {g t : Nat} {cs : Array Value} {fr : Nat × Nat} (hg : w.heap[g]? = some (.cells cs t fr)) : b ≠ g := by obtain ⟨f, h, _⟩ := h; exact h.ne_cells hg
theorem SetIs.look {w : World} {b n : Nat} {s : zaa -> Bool} (h : SetIs w b n s) (k : ByteArray) (hs : k.size <= maxLen) :
 (Instr.lookup 119 (.map (some b)) (.string k) false).run Tryz.prog w = .ok (.bool (s k.data.toList)) w := by
 obtain ⟨f, h, h2⟩ := h
 rw [h.look Tryz.underlying9 Tryz.underlying119 (Tryz.zeroValue4 w) k hs]
 exact congrArg (fun v => Result.ok v w) (h2 k.data.toList)
def addS (s : zaa -> Bool) (k : zaa) : zaa -> Bool := fun x => s x || x == k
theorem SetIs.put {w : World} {b n : Nat} {s : zaa -> Bool} (h : SetIs w b n s) (hn : n < maxLen) (k : ByteArray) (hs : k.size <= maxLen) :
 ∃ w', (Instr.mapUpdate 119 (.map (some b)) (.string k) (.bool true)).run Tryz.prog w = .ok () w' /\ SetIs w' b (n + 1) (addS s k.data.toList) /\ w.grownBy w' (some b) := by
 obtain ⟨f, h, h2⟩ := h
 obtain ⟨w', hrun, h', hg⟩ := h.store Tryz.underlying9 Tryz.underlying119 hn k hs (.bool true)
 refine ⟨w', hrun, ⟨_, h', fun x => ?_⟩, hg⟩
 unfold setF addS
 by_cases e : x = k.data.toList
 . rw [if_pos e]
   simp [e]
 . rw [if_neg e, h2 x]
   simp [e]
def addL (s : zaa -> Bool) (l : List zaa) : zaa -> Bool := fun x => s x || l.contains x
theorem zfN (s : zaa -> Bool) : addL s [] = s := by funext x; simp [addL]
theorem zec (s : zaa -> Bool) (l : List zaa) (k : zaa) : addL s (l ++ [k]) = addS (addL s l) k := by
 funext x
 unfold addL addS
 rw [Bool.or_assoc]
 congr 1
 rw [Bool.eq_iff_iff]
 simp

end Go.Proofs.YtdpgdnpddndeoaaGreatDoor.X

namespace Go.Proofs.YtdpgdnpddndeoaaGreatDoor.X
def zaz (w : zaa -> Bool) : List zb8 -> List Bool × (zaa -> Bool)
 | [] => ([], w)
 | s :: r => ((zaz w r).2 s.out :: (zaz w r).1, fun x => (zaz w r).2 x || ((zaz w r).2 s.out && s.args.contains x))
def zcl (outs : List zaa) : List zb8 -> List Bool
 | [] => []
 | s :: r => (outs.contains s.out || (r.zip (zcl outs r)).any fun p => p.2 && p.1.args.contains s.out) :: zcl outs r
theorem zmS (outs : List zaa) : ∀ L : List zb8, (zaz (fun x => outs.contains x) L).1 = zcl outs L /\ ∀ x, (zaz (fun x => outs.contains x) L).2 x = (outs.contains x || (L.zip (zcl outs L)).any fun p => p.2 && p.1.args.contains x)
 | [] => ⟨rfl, fun x => by simp [zaz, zcl]⟩
 | s :: r => by
  obtain ⟨h1, h2⟩ := zmS outs r
  have hd : (zaz (fun x => outs.contains x) r).2 s.out = (outs.contains s.out || (r.zip (zcl outs r)).any fun p => p.2 && p.1.args.contains s.out) := h2 s.out
  refine ⟨?_, fun x => ?_⟩
  . show (zaz (fun x => outs.contains x) r).2 s.out :: (zaz (fun x => outs.contains x) r).1 = _
    rw [h1, hd]
    rfl
  . show ((zaz (fun x => outs.contains x) r).2 x || ((zaz (fun x => outs.contains x) r).2 s.out && s.args.contains x)) = _
    rw [h2 x, hd]
    show _ = (outs.contains x || ((((outs.contains s.out || (r.zip (zcl outs r)).any fun p => p.2 && p.1.args.contains s.out)) && s.args.contains x) || (r.zip (zcl outs r)).any fun p => p.2 && p.1.args.contains x))
    generalize (r.zip (zcl outs r)).any (fun p => p.2 && p.1.args.contains x) = u
    generalize ((outs.contains s.out || (r.zip (zcl outs r)).any fun p => p.2 && p.1.args.contains s.out) && s.args.contains x) = v
    cases outs.contains x <;> cases u <;> cases v <;> rfl
theorem zfy (w : zaa -> Bool) : ∀ L : List zb8, (zaz w L).1.length = L.length
 | [] => rfl
 | s :: r => by show (zaz w r).1.length + 1 = _; rw [zfy w r]; rfl
def zaS : List zaa -> List zaa
 | [] => []
 | [x] => [x]
 | x :: y :: r => if x = y then zaS (y :: r) else x :: zaS (y :: r)
theorem zfj : ∀ (l : List zaa) (x : zaa), x ∈ zaS l ↔ x ∈ l
 | [], x => Iff.rfl
 | [y], x => Iff.rfl
 | y :: z :: r, x => by
  unfold zaS
  split
  . rename_i h
    rw [zfj (z :: r) x, h]
    simp
  . rw [List.mem_cons, zfj (z :: r) x, List.mem_cons, List.mem_cons]
    simp only [List.mem_cons]
def zck (r : zcX) (m : List Bool) : List zaa := zaS (((r.steps.zip m).flatMap fun p => p.1.args.filter fun a => p.2 && r.ins.contains a).mergeSort fun x y => decide (x <= y))
end Go.Proofs.YtdpgdnpddndeoaaGreatDoor.X

namespace Go.Proofs.YtdpgdnpddndeoaaGreatDoor.X
open Go.RowKit Go.Maps Go.Proofs.YtdpgdnpddndeoaaGreatDoorW.PrintWords Go.Proofs.YtdpgdnpddndeoaaGreatDoorW.PrintMore Go.Proofs.YtdpgdnpddndeoaaGreatDoorW.PrintLast
set_option linter.unusedSimpArgs false
abbrev zcj (w : World) (base : Nat) (v : Value) (l : List Bool) : Prop := Kd.R Kd.bool 4 w base (fun _ => True) v l
def zlV (l : List Bool) (w : World) (e : Ending) (w' : World) : Prop := ∃ v, e = .returned v /\ zcj w' w.heap.size v l /\ Below w.heap.size w w'
theorem zjr (w : zaa -> Bool) (L : List zb8) (j : Nat) (h : j < L.length) : zaz w (L.drop j) = ((zaz w (L.drop (j + 1))).2 L[j].out :: (zaz w (L.drop (j + 1))).1, fun x => (zaz w (L.drop (j + 1))).2 x || ((zaz w (L.drop (j + 1))).2 L[j].out && L[j].args.contains x)) := by
 rw [List.drop_eq_getElem_cons h]
 rfl
theorem ziM (j : Nat) (b : Bool) (M : List Bool) : (List.replicate (j + 1) false ++ M).set j b = List.replicate j false ++ b :: M := by
 rw [List.set_append_left _ _ (by simp), List.replicate_succ', List.set_append_right _ _ (by simp)]
 simp
set_option maxHeartbeats 8000000 in
set_option maxRecDepth 100000 in
theorem zdY (r : zai) (B1 : Option Addr) (c1 : Nat) (B2 : Option Addr) (c2 : Nat) (B3 : Option Addr) (c3 : Nat) (B4 : Option Addr) (c4 : Nat) (A : Option Addr) (c : Nat) (fs : List ByteArray) (w : World)
 (h4 : Kd.C k24 w B4 r.f4.length r.f4) (hr : Kd.C Kd.string w A fs.length fs) (hF : FitR r) (hl : fs.length <= 1000) (hsz : ∀ x ∈ fs, x.size <= maxLen) :
 Calls Tryz.prog 66 #[.agg (zao r B1 c1 B2 c2 B3 c3 B4 c4), .slice A fs.length c] w (zlV (zaz (fun x => (zac fs).contains x) (zax r).steps).1 w) := by
 have hn4 := hF.steps
 have hW := (Below.refl w.heap.size w).alloc (Nat.le_refl _) (.cells (zao r B1 c1 B2 c2 B3 c3 B4 c4) 45)
 have HK := znM (zan w (.cells (zao r B1 c1 B2 c2 B3 c3 B4 c4) 45))
 have HB := znM hW
 have H4 := znM (Kd.C_below h4 hW)
 have HR := znM (Kd.C_below hr hW)
 have HF := znM hF
 have HS := znM hsz
 obtain ⟨st, hst⟩ : ∃ st, st = (zax r).steps := ⟨_, rfl⟩
 have hsl : st.length = r.f4.length := by rw [hst]; exact List.length_map ..
 have HSl := znM hsl
 have HSt := znM hst
 rw [<- hst]
 obtain ⟨w0, hw0⟩ : ∃ w0 : zaa -> Bool, w0 = fun x => (zac fs).contains x := ⟨_, rfl⟩
 rw [<- hw0]
 have HW0 := znM hw0
 clear hw0
 clear hW h4 hr hF hsz hst hsl
 unfold zao at *
 have hmm := @run_makeMap Tryz.prog
 go_enter Tryz.func66, Tryz.ntmps66
 go_upto_region 1 with fail
 generalize w.alloc (.cells #[.string r.f0, .slice B1 r.f1.length c1, .slice B2 r.f2.length c2, .slice B3 r.f3.length c3, .slice B4 r.f4.length c4] 45) = w1 at HB HK H4 HR |-
 have k4 : w1.cell? ⟨w.heap.size, 4, none⟩ = some (.slice B4 r.f4.length c4) := (zab HK.out 4).trans rfl
 have hz0 : (0 : Int) <= (r.f4.length : Int) := by omega
 go_upto_region 2 with (first | (at_make; refine Kd.R_make Kd.bool (w0 := w1) w1.heap.size 4 rfl rfl 55 (.tmp 15) (.tmp 15) rfl (r.f4.length : Int) rfl rfl Tryz.underlying55 (.bool false) 1 info4 rfl (by decide) (by decide) false (okp := fun _ => True) (ok := fun _ => True) rfl (fun _ h => h) trivial hz0 (by omega) (Below.refl _ _) (Nat.le_refl _) ?_; intro v1 w2 ho hb hg hv; have HO2 := znM ho; have HB2 := znM hb; clear ho hb hg hv))
 rw [Int.toNat_natCast] at HO2
 have HO3 := znM (Kd.R_below HO2.out ((Below.refl w2.heap.size w2).alloc (Nat.le_refl _) (.map #[] 0)))
 have HB3 : Hid (Below w1.heap.size w1 (w2.alloc (.map #[] 0))) := znM (HB2.out.alloc HB2.out.size _)
 have HE3 := znM (SetIs.made w2)
 have HZ2 := znM HB2.out.size
 have HRt := znM (Kd.R_lt HO2.out)
 clear HO2 HB2
 go_upto_region 3 with fail
 generalize w2.heap.size = m at HE3 HZ2 HRt |-
 generalize w2.alloc (.map #[] 0) = w3 at HO3 HB3 HE3 |-
 go_wp2_with fail
 go_loopg [8, 20] fs.length (fun gg _ s20 wr => ∃ kk : Nat, kk <= fs.length /\ fs.length - kk <= gg /\ s20 = .int .i64 kk /\ Aside0 (SetIs wr m kk (addL (fun _ => false) ((zac fs).take kk))) /\ Aside0 (zcj wr w1.heap.size v1 (List.replicate r.f4.length false)) /\ Aside0 (Below w1.heap.size w1 wr))
 case atStart => exact ⟨0, Nat.zero_le _, by omega, rfl, ⟨by rw [List.take_zero, zfN]; exact HE3.out⟩, ⟨HO3.out⟩, ⟨HB3.out⟩⟩
 case round =>
  obtain ⟨kk, hkk, hgk, rfl, HE, HO, HW⟩ := hrel
  by_cases hlt : kk < fs.length
  . have hltz : (kk : Int) < (fs.length : Int) := by omega
    obtain ⟨b, o, rfl, p0⟩ := zbc (Kd.C_below HR.out HW.out) kk hlt
    obtain ⟨w4, hrun, hE4, hg4⟩ := HE.out.put (by unfold maxLen; omega) fs[kk] (HS.out _ (List.getElem_mem hlt))
    have hst : (zac fs).take (kk + 1) = (zac fs).take kk ++ [fs[kk].data.toList] := by rw [List.take_succ_eq_append_getElem (by rw [za1]; exact hlt), zcK fs kk hlt]
    rw [<- zec, <- hst] at hE4
    have HE4 := znM hE4
    have HW4 : Hid (Below w1.heap.size w1 w4) := znM (HW.out.grown hg4 HW.out.size (fun k hk => by cases hk; exact HZ2.out))
    have HO4 : Hid (zcj w4 w1.heap.size v1 (List.replicate r.f4.length false)) := znM (Kd.R_mono (Kd.R_step (Kd.R_mono (Kd.R_bound HO.out) (fun k hk => hk)) (fun k hk hlt => hg4.block k hlt (fun e => by
     cases e
     obtain ⟨_, _, _, q, _, cells, hc⟩ := hk
     exact HE.out.ne_cells hc rfl))) (fun _ _ => trivial))
    generalize fs[kk] = n at p0 hrun
    clear hst hE4 hg4
    go_wp2_with fail
    go_roundg (fs.length - (kk + 1))
    case measure => omega
    case rel => exact ⟨kk + 1, by omega, by omega, by go_num, ⟨HE4.out⟩, ⟨HO4.out⟩, ⟨HW4.out⟩⟩
  . have hltz : ¬ (kk : Int) < (fs.length : Int) := by omega
    obtain rfl : kk = fs.length := by omega
    have HE1 : Hid (SetIs wr m (fs.length + 0) (zaz w0 (st.drop r.f4.length)).2) := by
     have h := HE.out
     have e : (zaz w0 (st.drop r.f4.length)).2 = addL (fun _ => false) ((zac fs).take fs.length) := by
      rw [List.drop_eq_nil_of_le (by rw [HSl.out]; exact Nat.le_refl _), List.take_of_length_le (by rw [za1]; exact Nat.le_refl _), HW0.out]
      funext x
      simp [zaz, addL]
     show SetIs _ _ _ _
     rw [e]
     exact h
    have HO1 : Hid (zcj wr w1.heap.size v1 (List.replicate r.f4.length false ++ (zaz w0 (st.drop r.f4.length)).1)) := by
     have e : (zaz w0 (st.drop r.f4.length)).1 = [] := by rw [List.drop_eq_nil_of_le (by rw [HSl.out]; exact Nat.le_refl _)]; rfl
     show zcj _ _ _ _
     rw [e, List.append_nil]
     exact HO.out
    have k4' := zaf HW.out k4
    go_upto_region 8 with fail
    clear HE HO HE3 HO3 HB3
    go_wp2_with fail
    go_loopg [9, 10, 12] r.f4.length (fun gg s9 _ _ wr => ∃ jj : Nat, jj <= r.f4.length /\ jj <= gg /\ s9 = .int .i64 ((jj : Int) - 1) /\ Aside0 (SetIs wr m (fs.length + (r.f4.length - jj) * 1000) (zaz w0 (st.drop jj)).2) /\ Aside0 (zcj wr w1.heap.size v1 (List.replicate jj false ++ (zaz w0 (st.drop jj)).1)) /\ Aside0 (Below w1.heap.size w1 wr))
    case atStart => exact ⟨r.f4.length, Nat.le_refl _, Nat.le_refl _, rfl, ⟨by rw [Nat.sub_self, Nat.zero_mul]; exact HE1.out⟩, ⟨HO1.out⟩, ⟨HW.out⟩⟩
    case round =>
     obtain ⟨jj, hjj, hgj, rfl, HE, HO, HW5⟩ := hrel
     obtain ⟨wq, rfl⟩ : ∃ wq, wq = wr := ⟨wr, rfl⟩
     cases jj with
     | zero =>
      have hO := HO.out
      rw [List.drop_zero, List.replicate_zero, List.nil_append] at hO
      have HOf := znM hO
      clear hO
      go_wp2_with fail
      go_ret
      exact ⟨_, rfl, Kd.R_lower HOf.out HB.out.size, HB.out.trans (HW5.out.mono HB.out.size)⟩
     | succ j =>
      have ej : (((j + 1 : Nat) : Int) - 1) = (j : Int) := by omega
      rw [ej]
      have hlj : j < r.f4.length := by omega
      have hljz : (j : Int) < (r.f4.length : Int) := by omega
      have hj0 : (0 : Int) <= (j : Int) := by omega
      clear ej
      have k4q := zaf HW5.out k4
      obtain ⟨b, o, C2, d2, C3, d3, rfl, p0, p1, p2, p3, p4, g2, g3⟩ := zc7 H4.out j hlj
      replace p0 := zaf HW5.out p0
      replace p1 := zaf HW5.out p1
      replace p2 := zaf HW5.out p2
      replace p3 := zaf HW5.out p3
      replace p4 := zaf HW5.out p4
      have hdr := zjr w0 st j (by rw [HSl.out]; exact hlj)
      have hsx : st[j]'(by rw [HSl.out]; exact hlj) = zaM r.f4[j] := by
       have h := HSt.out
       subst h
       exact List.getElem_map ..
      rw [hsx] at hdr
      obtain ⟨hxo, hxl, hxn⟩ := HF.out.stepN _ (List.getElem_mem hlj)
      have hml : (List.replicate (j + 1) false ++ (zaz w0 (st.drop (j + 1))).1).length = r.f4.length := by
       rw [List.length_append, List.length_replicate, zfy, List.length_drop, HSl.out]; omega
      have HDr := znM hdr
      have HXo := znM hxo
      have HXn := znM hxn
      have HSm := znM (ziM j ((zaz w0 (st.drop (j + 1))).2 (zaM r.f4[j]).out) (zaz w0 (st.drop (j + 1))).1)
      have HEq : Hid (SetIs wq m (fs.length + (r.f4.length - (j + 1)) * 1000) (zaz w0 (st.drop (j + 1))).2) := znM HE.out
      have HOq : Hid (zcj wq w1.heap.size v1 (List.replicate (j + 1) false ++ (zaz w0 (st.drop (j + 1))).1)) := znM HO.out
      generalize hx : r.f4[j] = x at p0 p1 p2 p3 p4 g2 g3 HDr HXo HXn hxl HSm
      generalize (zaz w0 (st.drop (j + 1))).1 = M at hml HDr HSm HOq
      generalize (zaz w0 (st.drop (j + 1))).2 = s at HDr HSm HEq
      clear hx hdr hsx hxo hxn HE HO
      obtain ⟨g, cap, hv1, hbg, hgl, _⟩ := Kd.R_form HOq.out (by rw [hml]; omega)
      rw [hml] at hv1
      subst hv1
      have hgz : (g : Nat) < wq.heap.size := hgl
      have HGb : Hid (w1.heap.size <= g) := znM hbg
      have HGz := znM hgz
      have hb3 := (Below.refl wq.heap.size wq).alloc (Nat.le_refl _) (.cells #[.string x.f0, .int .i64 x.f1, .slice C2 x.f2.length d2, .slice C3 x.f3.length d3, .int .i64 x.f4] 24)
      have HX3 := znM (zan wq (.cells #[.string x.f0, .int .i64 x.f1, .slice C2 x.f2.length d2, .slice C3 x.f3.length d3, .int .i64 x.f4] 24))
      have HB3 : Hid (Below w1.heap.size w1 (wq.alloc (.cells #[.string x.f0, .int .i64 x.f1, .slice C2 x.f2.length d2, .slice C3 x.f3.length d3, .int .i64 x.f4] 24))) := znM (HW5.out.alloc HW5.out.size _)
      have HG2 := znM g2
      have HE3 := znM (HEq.out.below hb3)
      have HO3 := znM (Kd.R_below HOq.out hb3)
      clear g2 g3 hb3 hbg hgl hgz hml
      go_upto_region 12 with fail
      generalize wq.alloc (.cells #[.string x.f0, .int .i64 x.f1, .slice C2 x.f2.length d2, .slice C3 x.f3.length d3, .int .i64 x.f4] 24) = w3 at HX3 HB3 HE3 HO3 |-
      have x0 : w3.cell? ⟨wq.heap.size, 0, none⟩ = some (.string x.f0) := (zab HX3.out 0).trans rfl
      have hlk := HE3.out.look x.f0 HXo.out
      obtain ⟨hc0, hf0⟩ := Kd.R_celln false HO3.out (j : Int) hj0 (by omega)
      have hP := Kd.R_putn HO3.out (j : Int) (s x.f0.data.toList)
      rw [Int.toNat_natCast] at hc0 hf0 hP
      have hrep : rdOf false (List.replicate (j + 1) false ++ M) (j : Int) = false := by
       unfold rdOf
       rw [Int.toNat_natCast, List.getD_eq_getElem?_getD, List.getElem?_append_left (by simp), List.getElem?_replicate]
       simp
      rw [hrep] at hc0
      have hSm2 := HSm.out
      have hso : (zaM x).out = x.f0.data.toList := rfl
      rw [hso] at hSm2
      rw [hSm2] at hP
      have HDr2 : Hid (zaz w0 (st.drop j) = (s x.f0.data.toList :: M, fun y => s y || (s x.f0.data.toList && (zac x.f2).contains y))) := znM HDr.out
      have HX4 : Hid ((w3.setCell ⟨g, j, none⟩ (.bool (s x.f0.data.toList))).heap[wq.heap.size]? = some (.cells #[.string x.f0, .int .i64 x.f1, .slice C2 x.f2.length d2, .slice C3 x.f3.length d3, .int .i64 x.f4] 24 (0, 0))) :=
       znM ((Below.heap_setCell w3 ⟨g, j, none⟩ (.bool (s x.f0.data.toList)) wq.heap.size (by have := HGz.out; show wq.heap.size ≠ g; omega)).trans HX3.out)
      have HP4 := znM hP
      have HB4 : Hid (Below w1.heap.size w1 (w3.setCell ⟨g, j, none⟩ (.bool (s x.f0.data.toList)))) := znM (HB3.out.setCell (p := ⟨g, j, none⟩) HGb.out _)
      have hng : m ≠ g := by
       obtain ⟨cells, hcc⟩ := Kd.R_typed HO3.out g (by simp [Value.ownBlock])
       exact HE3.out.ne_cells hcc
      have HE4 : Hid (SetIs (w3.setCell ⟨g, j, none⟩ (.bool (s x.f0.data.toList))) m (fs.length + (r.f4.length - (j + 1)) * 1000) s) := znM (HE3.out.grown (zd9 w3 g j _) (by intro e; injection e; omega))
      have HNg := znM hng
      generalize s x.f0.data.toList = b0 at hlk HP4 HDr2 HX4 HB4 HE4
      clear hP hSm2 hso HSm HDr hrep hng
      go_upto_region 13 with fail
      generalize w3.setCell ⟨g, j, none⟩ (.bool b0) = w4 at HP4 HX4 HB4 HE4 |-
      obtain ⟨hc1, _⟩ := Kd.R_celln false HP4.out (j : Int) hj0 (by omega)
      rw [Int.toNat_natCast] at hc1
      have hrd : rdOf false (List.replicate j false ++ b0 :: M) (j : Int) = b0 := by unfold rdOf; simp [List.getD_eq_getElem?_getD]
      rw [hrd] at hc1
      have HOj : Hid (zcj w4 w1.heap.size (.slice (some ⟨g, 0, none⟩) r.f4.length cap) (List.replicate j false ++ (zaz w0 (st.drop j)).1)) := by
       show zcj _ _ _ _
       rw [HDr2.out]
       exact HP4.out
      have x2 : w4.cell? ⟨wq.heap.size, 2, none⟩ = some (.slice C2 x.f2.length d2) := (zab HX4.out 2).trans rfl
      clear hrd hc0 hf0 hlk x0
      cases b0 with
      | false =>
       have HEj : Hid (SetIs w4 m (fs.length + (r.f4.length - j) * 1000) (zaz w0 (st.drop j)).2) := by
        show SetIs _ _ _ _
        rw [HDr2.out]
        have e : (fun y => s y || (false && (zac x.f2).contains y)) = s := by funext y; simp
        dsimp only
        rw [e]
        exact HE4.out.mono (Nat.add_le_add_left (Nat.mul_le_mul_right _ (by omega)) _)
       go_wp2_with fail
       go_roundg j
       case measure => omega
       case rel => exact ⟨j, by omega, Nat.le_refl _, by first | rfl | go_num, ⟨HEj.out⟩, ⟨HOj.out⟩, ⟨HB4.out⟩⟩
      | true =>
       go_wp2_with fail
       go_loopg [12, 54] x.f2.length (fun gg _ s54 wi => ∃ k : Nat, k <= x.f2.length /\ x.f2.length - k <= gg /\ s54 = .int .i64 k /\ Aside0 (SetIs wi m (fs.length + (r.f4.length - (j + 1)) * 1000 + k) (addL s ((zac x.f2).take k))) /\ Aside0 (zcj wi w1.heap.size (.slice (some ⟨g, 0, none⟩) r.f4.length cap) (List.replicate j false ++ (zaz w0 (st.drop j)).1)) /\ Aside0 (Below w1.heap.size w1 wi))
       case atStart => exact ⟨0, Nat.zero_le _, by omega, rfl, ⟨by rw [List.take_zero, zfN]; exact HE4.out⟩, ⟨HOj.out⟩, ⟨HB4.out⟩⟩
       case round =>
        obtain ⟨k, hk, hgk2, rfl, HEk, HOk, HBk⟩ := hrel
        by_cases hlk2 : k < x.f2.length
        . have hlkz : (k : Int) < (x.f2.length : Int) := by omega
          obtain ⟨b5, o5, rfl, q0⟩ := zbc (Kd.C_below HG2.out HBk.out) k hlk2
          have hbound : fs.length + (r.f4.length - (j + 1)) * 1000 + k < maxLen := by
           have : (r.f4.length - (j + 1)) * 1000 <= 1000 * 1000 := Nat.mul_le_mul_right _ (by omega)
           unfold maxLen
           omega
          obtain ⟨w6, hrun, hE6, hg6⟩ := HEk.out.put hbound x.f2[k] (HXn.out _ (List.getElem_mem hlk2))
          have hst2 : (zac x.f2).take (k + 1) = (zac x.f2).take k ++ [x.f2[k].data.toList] := by rw [List.take_succ_eq_append_getElem (by rw [za1]; exact hlk2), zcK x.f2 k hlk2]
          rw [<- zec, <- hst2] at hE6
          have HE6 := znM hE6
          have HW6 : Hid (Below w1.heap.size w1 w6) := znM (HBk.out.grown hg6 HBk.out.size (fun k hk => by cases hk; exact HZ2.out))
          have HO6 : Hid (zcj w6 w1.heap.size (.slice (some ⟨g, 0, none⟩) r.f4.length cap) (List.replicate j false ++ (zaz w0 (st.drop j)).1)) := znM (Kd.R_mono (Kd.R_step (Kd.R_bound HOk.out) (fun k hk hlt => hg6.block k hlt (fun e => by
           cases e
           obtain ⟨_, _, _, q, _, cells, hc⟩ := hk
           exact HEk.out.ne_cells hc rfl))) (fun _ _ => trivial))
          generalize x.f2[k] = n at q0 hrun
          clear hst2 hE6 hg6 hbound
          go_wp2_with fail
          go_roundg (x.f2.length - (k + 1))
          case measure => omega
          case rel => exact ⟨k + 1, by omega, by omega, by first | rfl | go_num, ⟨HE6.out⟩, ⟨HO6.out⟩, ⟨HW6.out⟩⟩
        . have hlkz : ¬ (k : Int) < (x.f2.length : Int) := by omega
          obtain rfl : k = x.f2.length := by omega
          have HEj : Hid (SetIs wr m (fs.length + (r.f4.length - j) * 1000) (zaz w0 (st.drop j)).2) := by
           have h := HEk.out
           rw [List.take_of_length_le (by rw [za1]; exact Nat.le_refl _)] at h
           show SetIs _ _ _ _
           rw [HDr2.out]
           have e : (fun y => s y || (true && (zac x.f2).contains y)) = addL s (zac x.f2) := by funext y; simp [addL]
           dsimp only
           rw [e]
           refine h.mono ?_
           have : (r.f4.length - j) * 1000 = (r.f4.length - (j + 1)) * 1000 + 1000 := by
            have e2 : r.f4.length - j = (r.f4.length - (j + 1)) + 1 := by omega
            rw [e2, Nat.add_mul]
           omega
          go_wp2_with fail
          go_roundg j
          case measure => omega
          case rel => exact ⟨j, by omega, Nat.le_refl _, by first | rfl | go_num, ⟨HEj.out⟩, ⟨HOk.out⟩, ⟨HBk.out⟩⟩

end Go.Proofs.YtdpgdnpddndeoaaGreatDoor.X

namespace Go.Proofs.YtdpgdnpddndeoaaGreatDoor.X
open Go.RowKit Go.Maps Go.Sort Go.Proofs.YtdpgdnpddndeoaaGreatDoorW.PrintWords Go.Proofs.YtdpgdnpddndeoaaGreatDoorW.PrintMore Go.Proofs.YtdpgdnpddndeoaaGreatDoorW.PrintLast
set_option linter.unusedSimpArgs false
theorem zfs : ∀ l : List zaa, (zaS l).length <= l.length
 | [] => Nat.le_refl _
 | [_] => Nat.le_refl _
 | y :: z :: r => by
  have := zfs (z :: r)
  unfold zaS
  split
  . simp only [List.length_cons] at this |-; omega
  . simp only [List.length_cons] at this |-; omega
theorem zib : ∀ (l : List zaa) (x : zaa), zaS (l ++ [x]) = zaS l ++ if l.getLast? = some x then [] else [x]
 | [], x => rfl
 | [y], x => by
  show zaS [y, x] = _
  unfold zaS
  by_cases h : y = x
  . rw [if_pos h, if_pos (by rw [h]; rfl), h]
    rfl
  . rw [if_neg h, if_neg (by simpa using h)]
    rfl
 | y :: z :: r, x => by
  have ih := zib (z :: r) x
  have hl : (y :: z :: r).getLast? = (z :: r).getLast? := List.getLast?_cons_cons ..
  rw [hl]
  show zaS (y :: z :: (r ++ [x])) = _
  unfold zaS
  split
  . exact ih
  . rw [show z :: (r ++ [x]) = (z :: r) ++ [x] from rfl, ih]
    rfl
theorem zfO (l : List zaa) (j : Nat) (h : j < l.length) : l.toArray[j]! = l[j] := by
 rw [getElem!_pos l.toArray j (by simpa using h)]
 simp
theorem zh1 (l : List zaa) (x : zaa) : ∀ m, m <= l.length -> Lib.compactUpTo (l ++ [x]).toArray m = Lib.compactUpTo l.toArray m
 | 0, _ => rfl
 | m + 1, h => by
  have e : ∀ j, j < l.length -> (l ++ [x]).toArray[j]! = l.toArray[j]! := by
   intro j hj
   rw [zfO _ _ (by simp; omega), zfO _ _ hj, List.getElem_append_left hj]
  rw [Lib.compactUpTo_succ, Lib.compactUpTo_succ, zh1 l x m (by omega), e m (by omega)]
  have hk : Lib.keeps (l ++ [x]).toArray m = Lib.keeps l.toArray m := by
   unfold Lib.keeps
   rw [e m (by omega), e (m - 1) (by omega)]
  rw [hk]
theorem zmb (l : List zaa) : Lib.compact l = zaS l := by
 have key : ∀ (n : Nat) (l : List zaa), l.length = n -> Lib.compact l = zaS l := by
  intro n
  induction n with
  | zero =>
   intro l h
   have := List.eq_nil_of_length_eq_zero h
   subst this
   rfl
  | succ n ih =>
   intro l h
   rcases List.eq_nil_or_concat l with h0 | ⟨k, x, hk⟩
   . rw [h0] at h; simp at h
   . rw [List.concat_eq_append] at hk
     subst hk
     have hkl : k.length = n := by simpa using h
     rw [zib, <- ih k hkl]
     unfold Lib.compact
     rw [List.length_append, List.length_singleton, Lib.compactUpTo_succ, zh1 k x k.length (Nat.le_refl _)]
     congr 1
     have hx : (k ++ [x]).toArray[k.length]! = x := by simp
     rw [hx]
     cases hkn : k.length with
     | zero =>
      have := List.eq_nil_of_length_eq_zero hkn
      subst this
      rfl
     | succ m =>
      have hlast : (k ++ [x]).toArray[m + 1 - 1]! = k[m] := by
       rw [Nat.add_sub_cancel, zfO _ m (by simp; omega), List.getElem_append_left (by omega)]
      have hgl : k.getLast? = some k[m] := by
       have e : k.length - 1 = m := by omega
       rw [List.getLast?_eq_getElem?, e, List.getElem?_eq_getElem (by omega)]
      have hx2 : (k ++ [x]).toArray[m + 1]! = x := by rw [<- hkn]; exact hx
      unfold Lib.keeps
      rw [hlast, hx2, hgl]
      by_cases he : x = k[m]
      . rw [if_neg (by simp [<- he]), if_pos (by rw [<- he])]
      . rw [if_pos (by simp [he]), if_neg (by simpa using Ne.symm he)]
 exact key l.length l rfl
def zbO (l : List ByteArray) : List ByteArray := (zaS (zac l)).map mk
theorem zfL (l : List ByteArray) : (zae l).length = l.length := by unfold zae; rw [List.length_map, List.length_mergeSort, List.length_map]
theorem zfM (base : Nat) (v : Value) (l : List ByteArray) (w : World) (hO : RS w base v l) (hbytes : l.length * 16 <= 140737488355328) :
 Calls Tryz.prog 93 #[v] w fun e w' => e = .returned (.tuple #[]) /\ RS w' base v (zae l) /\ w.grownBy w' v.ownBlock := by
 have hown := Kd.own_of_R hO
 rcases hown.2 with ⟨rfl, hz⟩ | ⟨gb, cap, cur, rfl, hbase, hgb, r1, r2, r3, r4⟩
 . have hss : l = [] := List.eq_nil_of_length_eq_zero hz
   subst hss
   have cS := Go.Proofs.AnyM.slices_Sort_string_none Go.Proofs.Tryz.laysSort none 0 w
   change Calls Tryz.prog 93 _ _ _ at cS
   refine cS.mono fun e w' ⟨he, hw⟩ => ⟨he, ?_, ?_⟩
   . rw [hw, show zae [] = [] by simp [zae]]
     exact Kd.R_nil _ _ _ _ _
   . rw [hw]; exact World.grownBy.refl _ _
 . have r4' : cur.toList.take l.length = (l.map fun x => x.data.toList).map encStr := by
    rw [<- zfU]
    have h := r4
    rw [Nat.mul_one] at h
    exact h
   have hH : Holds encStr w gb 0 (l.map fun x => x.data.toList).toArray := Go.holds_of_block hgb (by simpa using r4')
   have hgl : gb < w.heap.size := (Array.getElem?_eq_some_iff.1 hgb).1
   have hsz : (l.map fun x => x.data.toList).length < 4611686018427387904 := by rw [List.length_map]; omega
   have cS := Go.Proofs.AnyM.slices_Sort_string Go.Proofs.Tryz.laysSort gb 0 cap (l.map fun x => x.data.toList) w hH hgl hsz
   change Calls Tryz.prog 93 _ _ _ at cS
   rw [List.length_map] at cS
   refine cS.mono fun e w' ⟨he, nn, os, hw⟩ => ⟨he, ?_, ?_⟩
   . rw [hw]
     refine Kd.R_of_own (h1 := fun _ => rfl) ?_ (fun _ _ => trivial)
     have hos := ownsRow_sorted (n := nn) (os := os) (ss := l.map fun x => x.data.toList) (ts := (l.map fun x => x.data.toList).mergeSort fun x y => decide (x <= y)) (by simp) hbase hgb (by rw [List.length_map]; exact r1) r2 r3
     rw [List.length_map] at hos
     rw [zfL]
     have hrs : encs Value.string (zae l) = ((l.map fun x => x.data.toList).mergeSort fun x y => decide (x <= y)).map encStr := by
      unfold zae encs
      rw [List.map_map]
      rfl
     rw [hrs]
     exact hos
   . rw [hw]; exact grownBy_sorted _
theorem zio (base : Nat) (v : Value) (l : List ByteArray) (w : World) (hO : RS w base v l) :
 Calls Tryz.prog 94 #[v] w fun e w' => ∃ v', e = .returned v' /\ RS w' base v' (zbO l) /\ w.grownBy w' v.ownBlock := by
 have hown := Kd.own_of_R hO
 rcases hown.2 with ⟨rfl, hz⟩ | ⟨gb, cap, cur, rfl, hbase, hgb, r1, r2, r3, r4⟩
 . have hss : l = [] := List.eq_nil_of_length_eq_zero hz
   subst hss
   have cS := Go.Proofs.Any.slices_Compact_string_empty Go.Proofs.Tryz.lays194 none 0 w
   change Calls Tryz.prog 94 _ _ _ at cS
   refine cS.mono fun e w' ⟨he, hw⟩ => ⟨_, he, ?_, ?_⟩
   . exact Kd.R_nil _ _ _ _ _
   . rw [hw]; exact World.grownBy.refl _ _
 . have r4' : cur.toList.take l.length = (l.map fun x => x.data.toList).map encStr := by
    rw [<- zfU]
    have h := r4
    rw [Nat.mul_one] at h
    exact h
   have hH : Holds encStr w gb 0 (l.map fun x => x.data.toList).toArray := Go.holds_of_block hgb (by simpa using r4')
   have cS := Go.Proofs.Any.slices_Compact_string Go.Proofs.Tryz.lays194 gb 0 cap (l.map fun x => x.data.toList) w hH (by rw [List.length_map]; simp only [maxLen] at r2; omega) (by rw [List.length_map]; exact r1)
   change Calls Tryz.prog 94 _ _ _ at cS
   rw [zmb, List.length_map] at cS
   have hle : (zaS (zac l)).length <= l.length := by
    have := zfs (zac l)
    rw [za1] at this
    exact this
   change Calls Tryz.prog 94 _ _ (fun e w' => e = .returned (.slice (some ⟨gb, 0, none⟩) (zaS (zac l)).length cap) /\ ∃ q, w' = putRow encStr (Sort.ahead w q) gb 0 (zaS (zac l) ++ List.replicate (l.length - (zaS (zac l)).length) []).toArray) at cS
   refine cS.mono fun e w' ⟨he, q, hw⟩ => ⟨_, he, ?_, ?_⟩
   . have hg0 : w' = grow (putRow encStr (Sort.ahead w q) gb 0 (zaS (zac l) ++ List.replicate (l.length - (zaS (zac l)).length) []).toArray) #[] := by rw [hw]; simp
     rw [hg0]
     have hcl : (zbO l).length = (zaS (zac l)).length := by unfold zbO; rw [List.length_map]
     have hen : encs Value.string (zbO l) = (zaS (zac l)).map encStr := by
      unfold zbO encs
      rw [List.map_map]
      rfl
     rw [<- hcl]
     refine Kd.R_of_own (h1 := fun _ => rfl) ?_ (fun _ _ => trivial)
     rw [hen]
     have hos := ownsRow_sorted (n := q) (os := #[]) (ss := zac l) (ts := zaS (zac l) ++ List.replicate (l.length - (zaS (zac l)).length) []) (by rw [List.length_append, List.length_replicate, za1]; omega) hbase hgb (by rw [za1]; exact r1) r2 r3
     rw [hcl]
     have h2 := hos.2
     refine ⟨by rw [List.length_map]; omega, ?_⟩
     rcases h2 with ⟨h3, _⟩ | ⟨g2, cap2, cur2, he2, hb2, hh2, s1, s2, s3, s4⟩
     . cases h3
     . injection he2 with e1 e2 e3
       injection e1 with e1
       injection e1 with e1
       subst e1
       subst e3
       refine .inr ⟨gb, cap, cur2, rfl, hb2, hh2, by omega, s2, s3, ?_⟩
       rw [Nat.mul_one] at s4 |-
       have h5 := congrArg (List.take (zaS (zac l)).length) s4
       rw [List.take_take, za1, Nat.min_eq_left hle, List.map_append, List.take_append_of_le_length (by rw [List.length_map]; exact Nat.le_refl _)] at h5
       exact h5.trans (List.take_of_length_le (by rw [List.length_map]; exact Nat.le_refl _))
   . rw [hw]
     have hg0 : putRow encStr (Sort.ahead w q) gb 0 (zaS (zac l) ++ List.replicate (l.length - (zaS (zac l)).length) []).toArray = grow (putRow encStr (Sort.ahead w q) gb 0 (zaS (zac l) ++ List.replicate (l.length - (zaS (zac l)).length) []).toArray) #[] := by simp
     rw [hg0]
     exact grownBy_sorted _

end Go.Proofs.YtdpgdnpddndeoaaGreatDoor.X

namespace Go.Proofs.YtdpgdnpddndeoaaGreatDoor.X
open Go.RowKit Go.Maps Go.Proofs.YtdpgdnpddndeoaaGreatDoorW.PrintWords Go.Proofs.YtdpgdnpddndeoaaGreatDoorW.PrintMore Go.Proofs.YtdpgdnpddndeoaaGreatDoorW.PrintLast
set_option linter.unusedSimpArgs false
set_option maxHeartbeats 1000000 in
theorem zfE (s : ByteArray) (w : World) (hG : GOK w) :
 Calls Tryz.prog 95 #[.string s] w fun e w' => e = .returned (.bool (!may s.data.toList)) /\ Below w.heap.size w w' := by
 have hM := path_May.calls s (may s.data.toList) w hG rfl
 generalize may s.data.toList = q at hM |-
 have HM := znM hM
 clear hM hG
 go_enter Tryz.func95, Tryz.ntmps95
 go_wp2_with (first | (go_at_call 102; refine HM.out.mono ?_; rintro e w2 ⟨rfl, hb2⟩))
 go_ret
 exact ⟨rfl, hb2⟩
theorem zkH : ∀ args w, (callFunc 95 args).run Tryz.prog w = .ok (.enter 95 args) w := Go.Proofs.enters_of Tryz.func95 (by kernel_rfl) rfl
theorem zjw (w : World) (hG : GOK w) : zdK 95 #[] (fun x => !may x.data.toList) w := fun W x hb => zfE x W (hG.below hb)
theorem zed (A : Option Addr) (c : Nat) (l : List ByteArray) (w : World) (hG : GOK w) (hr : Kd.C Kd.string w A l.length l) :
 Calls Tryz.prog 56 #[.slice A l.length c, .func (.func 95) #[] #[]] w fun e w' => e = .returned (.bool (!(zac l).all may)) /\ Below w.heap.size w w' := by
 have h := zdG 95 #[] zkH (fun x => !may x.data.toList) A c l w hr (zjw w hG)
 have e : l.any (fun x => !may x.data.toList) = !(zac l).all may := by
  unfold zac
  rw [List.all_map, List.not_all_eq_any_not]
  rfl
 rw [e] at h
 exact h
theorem zcQ (A : Option Addr) (c : Nat) (l : List ByteArray) (s : ByteArray) (w : World) (hr : Kd.C Kd.string w A l.length l) :
 Calls Tryz.prog 92 #[.slice A l.length c, .string s] w fun e w' => e = .returned (.bool ((zac l).contains s.data.toList)) /\ w = w' := by
 have hlen : l.length <= 9223372036854775807 := hr.2.1
 have hc : Lib.containsS l s = (zac l).contains s.data.toList := by
  rw [Bool.eq_iff_iff, Lib.containsS_iff]
  unfold zac
  rw [List.contains_iff_mem, List.mem_map]
  constructor
  . intro h; exact ⟨s, h, rfl⟩
  . rintro ⟨x, hx, he⟩; rw [<- zbU he]; exact hx
 rcases zaZ hr with h0 | ⟨b, o, rfl, hb, hcell⟩
 . subst h0
   have hcall := Go.Proofs.Any.slices_Contains_string_empty Go.Proofs.Tryz.lays110 A c s w
   change Calls Tryz.prog 92 _ _ _ at hcall
   exact hcall.mono fun e w' ⟨he, hw⟩ => ⟨he, hw.symm⟩
 . have hcall := Go.Proofs.Any.slices_Contains_string Go.Proofs.Tryz.lays110 b o l.length c l s w (Nat.le_refl _) hlen hcell
   change Calls Tryz.prog 92 _ _ _ at hcall
   rw [List.take_length, hc] at hcall
   exact hcall.mono fun e w' ⟨he, hw⟩ => ⟨he, hw.symm⟩

def zfB (x : zaA) (B2 : Option Addr) (c2 : Nat) (B3 : Option Addr) (c3 : Nat) : Value := .agg #[.string x.f0, .int .i64 x.f1, .slice B2 x.f2.length c2, .slice B3 x.f3.length c3, .int .i64 x.f4]
def zbI (s : zb8) : Bool := !(may s.out && s.args.all may && mayC s.cmd)
set_option maxHeartbeats 4000000 in
set_option maxRecDepth 100000 in
theorem zje (x : zaA) (B2 : Option Addr) (c2 : Nat) (B3 : Option Addr) (c3 : Nat) (w : World) (hG : GOK w) (h2 : Kd.C Kd.string w B2 x.f2.length x.f2) (h3 : Kd.C Kd.string w B3 x.f3.length x.f3) :
 Calls Tryz.prog 97 #[zfB x B2 c2 B3 c3] w fun e w' => e = .returned (.bool (zbI (zaM x))) /\ Below w.heap.size w w' := by
 have hab := (Below.refl w.heap.size w).alloc (Nat.le_refl _) (.cells #[.string x.f0, .int .i64 x.f1, .slice B2 x.f2.length c2, .slice B3 x.f3.length c3, .int .i64 x.f4] 24)
 have HK := znM (zan w (.cells #[.string x.f0, .int .i64 x.f1, .slice B2 x.f2.length c2, .slice B3 x.f3.length c3, .int .i64 x.f4] 24))
 have HB1 := znM hab
 have H2 := znM (Kd.C_below h2 hab)
 have H3 := znM (Kd.C_below h3 hab)
 have HG := znM (hG.below hab)
 have hT : zbI (zaM x) = !(may x.f0.data.toList && (zac x.f2).all may && mayC (zal x)) := rfl
 rw [hT]
 have HM := znM (fun W (h2 : Kd.C Kd.string W B2 x.f2.length x.f2) (h3 : Kd.C Kd.string W B3 x.f3.length x.f3) => ze9 x B2 c2 B3 c3 W h2 h3)
 have HN := znM (fun W (hG : GOK W) => zfE x.f0 W hG)
 have HA := znM (fun W (hG : GOK W) (h : Kd.C Kd.string W B2 x.f2.length x.f2) => zed B2 c2 x.f2 W hG h)
 generalize may x.f0.data.toList = q1 at HN |-
 generalize (zac x.f2).all may = q2 at HA |-
 generalize mayC (zal x) = q3 at HM |-
 clear hab h2 h3 hG hT
 unfold zfB
 go_enter Tryz.func97, Tryz.ntmps97
 go_upto_region 1 with fail
 generalize w.alloc (.cells #[.string x.f0, .int .i64 x.f1, .slice B2 x.f2.length c2, .slice B3 x.f3.length c3, .int .i64 x.f4] 24) = w1 at HB1 HK H2 H3 HG |-
 have k0 : w1.cell? ⟨w.heap.size, 0, none⟩ = some (.string x.f0) := (zab HK.out 0).trans rfl
 cases q1
 . go_wp2_with (first | (go_at_call 95; refine (HN.out _ HG.out).mono ?_; rintro e w2 ⟨rfl, hb2⟩))
   go_ret
   exact ⟨rfl, zad HB1.out HB1.out.size hb2⟩
 . cases q2
   . go_wp2_with (first
      | (go_at_call 95; refine (HN.out _ HG.out).mono ?_; rintro e w2 ⟨rfl, hb2⟩; have HB2 := znM (zad HB1.out HB1.out.size hb2); have HK2 := znM (zah HK.out hb2); have k2 : w2.cell? ⟨w.heap.size, 2, none⟩ = some (.slice B2 x.f2.length c2) := (zab HK2.out 2).trans rfl; have H2' := znM (Kd.C_below H2.out hb2); have HG2 := znM (HG.out.below hb2); clear hb2)
      | (go_at_call 56; refine (HA.out _ HG2.out H2'.out).mono ?_; rintro e w3 ⟨rfl, hb3⟩; have HB3 := znM (zad HB2.out HB2.out.size hb3); clear hb3))
     go_ret
     exact ⟨rfl, HB3.out⟩
   . go_wp2_with (first
      | (go_at_call 95; refine (HN.out _ HG.out).mono ?_; rintro e w2 ⟨rfl, hb2⟩; have HB2 := znM (zad HB1.out HB1.out.size hb2); have HK2 := znM (zah HK.out hb2); have k2 : w2.cell? ⟨w.heap.size, 2, none⟩ = some (.slice B2 x.f2.length c2) := (zab HK2.out 2).trans rfl; have H2' := znM (Kd.C_below H2.out hb2); have H3' := znM (Kd.C_below H3.out hb2); have HG2 := znM (HG.out.below hb2); clear hb2)
      | (go_at_call 56; refine (HA.out _ HG2.out H2'.out).mono ?_; rintro e w3 ⟨rfl, hb3⟩; have HB3 := znM (zad HB2.out HB2.out.size hb3); have HK3 := znM (zah HK2.out hb3); have j0 : w3.cell? ⟨w.heap.size, 0, none⟩ = some (.string x.f0) := (zab HK3.out 0).trans rfl; have j1 : w3.cell? ⟨w.heap.size, 1, none⟩ = some (.int .i64 x.f1) := (zab HK3.out 1).trans rfl; have j2 : w3.cell? ⟨w.heap.size, 2, none⟩ = some (.slice B2 x.f2.length c2) := (zab HK3.out 2).trans rfl; have j3 : w3.cell? ⟨w.heap.size, 3, none⟩ = some (.slice B3 x.f3.length c3) := (zab HK3.out 3).trans rfl; have j4 : w3.cell? ⟨w.heap.size, 4, none⟩ = some (.int .i64 x.f4) := (zab HK3.out 4).trans rfl; have H2'' := znM (Kd.C_below H2'.out hb3); have H3'' := znM (Kd.C_below H3'.out hb3); clear hb3)
      | (go_at_call 20; refine (HM.out _ H2''.out H3''.out).mono ?_; rintro e w4 ⟨rfl, hb4⟩; have HB4 := znM (zad HB3.out HB3.out.size hb4); clear hb4))
     go_ret
     exact ⟨by cases q3 <;> rfl, HB4.out⟩
theorem zjM : ∀ args w, (callFunc 97 args).run Tryz.prog w = .ok (.enter 97 args) w := Go.Proofs.enters_of Tryz.func97 (by kernel_rfl) rfl

abbrev RInt (w : World) (base : Nat) (v : Value) (l : List Int) : Prop := Kd.R (Kd.int .i64) 3 w base (fun _ => True) v l
def zfv (l : List Int) (w : World) (e : Ending) (w' : World) : Prop := ∃ v, e = .returned v /\ RInt w' w.heap.size v l /\ Below w.heap.size w w'
def zfF (l : List ByteArray) (w : World) (e : Ending) (w' : World) : Prop := ∃ v, e = .returned v /\ RS w' w.heap.size v l /\ Below w.heap.size w w'
def zbk (m : List Bool) (is : Bool) : List Int := (m.zipIdx.filter fun p => p.1 == is).map fun p => (p.2 : Int)
theorem zlj (m : List Bool) (is : Bool) (k : Nat) (h : k < m.length) : zbk (m.take (k + 1)) is = zbk (m.take k) is ++ if m[k] == is then [(k : Int)] else [] := by
 unfold zbk
 rw [List.take_succ_eq_append_getElem h, List.zipIdx_append, List.filter_append, List.map_append]
 congr 1
 have hl : (m.take k).length = k := by rw [List.length_take]; omega
 cases hb : (m[k] == is) <;> simp [hl, hb]
theorem zk2 (m : List Bool) (is : Bool) : (zbk m is).length <= m.length := by
 unfold zbk
 rw [List.length_map]
 refine Nat.le_trans (List.length_filter_le _ _) ?_
 rw [List.length_zipIdx]
 exact Nat.le_refl _
theorem zgh {w : World} {A : Option Addr} {l : List Bool} (h : Kd.C Kd.bool w A l.length l) (k : Nat) (hk : k < l.length) : ∃ b o, A = some ⟨b, o, none⟩ /\ w.cell? ⟨b, o + k, none⟩ = some (.bool l[k]) := by
 obtain ⟨ad, rfl, hc⟩ := h.2.2 (by omega)
 obtain ⟨cs, _, h1, h2⟩ := hc k l[k] (List.getElem?_eq_getElem hk)
 have h1' : cs = [.bool l[k]] := h1
 subst h1'
 have h3 := h2 0 _ rfl
 obtain ⟨cs0, _, h4, h5⟩ := hc 0 l[0] (List.getElem?_eq_getElem (by omega))
 have h4' : cs0 = [.bool l[0]] := h4
 rw [h4'] at h5
 have h6 := h5 0 _ rfl
 have e1 : Kd.bool.sz = 1 := rfl
 rw [e1] at h3 h6
 obtain ⟨b, o, rfl⟩ := zej (n := 1) (ad := ad) (by simpa using h6)
 refine ⟨b, o, rfl, ?_⟩
 have e : ((⟨b, o, none⟩ : Addr).add (k * 1 + 0)) = ⟨b, o + k, none⟩ := by
  rw [Nat.mul_one, Nat.add_zero]
  unfold Addr.add
  split
  . rename_i h0; simp [h0]
  . rfl
 rw [e] at h3
 exact h3
set_option maxHeartbeats 4000000 in
set_option maxRecDepth 100000 in
theorem zhh (A : Option Addr) (c : Nat) (m : List Bool) (is : Bool) (w : World) (hr : Kd.C Kd.bool w A m.length m) (hl : m.length <= 1000) :
 Calls Tryz.prog 65 #[.slice A m.length c, .bool is] w (zfv (zbk m is) w) := by
 have HR := znM hr
 obtain ⟨T, hT⟩ : ∃ T, T = zbk m is := ⟨_, rfl⟩
 rw [<- hT]
 have HT := znM hT
 clear hr hT
 go_enter Tryz.func65, Tryz.ntmps65
 go_wp2_with fail
 go_loopg [5, 6, 7, 10] m.length (fun gg s5 _ _ s10 wr => ∃ kk : Nat, kk <= m.length /\ m.length - kk <= gg /\ s10 = .int .i64 kk /\ Aside0 (RInt wr w.heap.size s5 (zbk (m.take kk) is)) /\ Aside0 (Below w.heap.size w wr))
 case atStart => exact ⟨0, Nat.zero_le _, by omega, rfl, ⟨Kd.R_nil _ _ _ _ _⟩, ⟨Below.refl _ _⟩⟩
 case round =>
  obtain ⟨kk, hkk, hgk, rfl, HO, HW⟩ := hrel
  by_cases hlt : kk < m.length
  . have hltz : (kk : Int) < (m.length : Int) := by omega
    obtain ⟨b, o, rfl, p0⟩ := zgh (Kd.C_below HR.out HW.out) kk hlt
    have HSt := znM (zlj m is kk hlt)
    have hpl := zk2 (m.take kk) is
    have hpl2 : (zbk (m.take kk) is).length <= 1000 := by
     have : (m.take kk).length = kk := by rw [List.length_take]; omega
     omega
    have HPl := znM hpl2
    have HWs := znM HW.out.size
    clear hpl hpl2
    generalize m[kk] = y at p0 HSt
    cases hy : (y == is) with
    | true =>
     have HN : Hid (zbk (m.take (kk + 1)) is = zbk (m.take kk) is ++ [(kk : Int)]) := by show _ = _; rw [HSt.out, hy]; rfl
     have hdy : (is == y) = true := by rw [<- hy]; cases is <;> cases y <;> rfl
     go_wp2_with (first | ((with_reducible refine zaO (b := .append) (xs := #[.tmp 18, .tmp 20]) rfl ?_); at_builtin; refine Kd.R_append (Kd.int .i64) (w0 := w) w.heap.size rfl (.tmp 18) (.tmp 20) 54 3 (.int .i64 0) 8 rfl Tryz.underlying54 info3 rfl (by decide) (by decide) u5 (zbk (m.take kk) is) (kk : Int) [.int .i64 (kk : Int)] (fun _ => True) (fun k_ => True /\ some k_ ≠ u5.ownBlock) rfl rfl rfl (fun _ hk => hk) (fun _ _ => trivial) HO.out HW.out HWs.out ?aL ?_; (case aL => (have h1 := HPl.out; omega)); intro v1 w4 ho hb hg hat; have HO4 : Hid (RInt w4 w.heap.size v1 (zbk (m.take (kk + 1)) is)) := (by show RInt _ _ _ _; rw [HN.out]; exact ho); have HB4 := znM hb; clear ho hb hg hat))
     go_roundg (m.length - (kk + 1))
     case measure => omega
     case rel => exact ⟨kk + 1, by omega, by omega, by first | rfl | go_num, ⟨HO4.out⟩, ⟨HB4.out⟩⟩
    | false =>
     have HN : Hid (RInt wr w.heap.size u5 (zbk (m.take (kk + 1)) is)) := by show RInt _ _ _ _; rw [HSt.out, hy, if_neg (by simp), List.append_nil]; exact HO.out
     go_wp2_with fail
     go_roundg (m.length - (kk + 1))
     case measure => omega
     case rel => exact ⟨kk + 1, by omega, by omega, by first | rfl | go_num, ⟨HN.out⟩, ⟨HW.out⟩⟩
  . have hltz : ¬ (kk : Int) < (m.length : Int) := by omega
    obtain rfl : kk = m.length := by omega
    have hO := HO.out
    rw [List.take_length] at hO
    have HOf := znM hO
    clear hO
    go_wp2_with fail
    go_ret
    exact ⟨_, rfl, by rw [HT.out]; exact HOf.out, HW.out⟩

def zbQ (ins : List ByteArray) (b : Bool) (l : List ByteArray) : List ByteArray := l.filter fun a => b && (zac ins).contains a.data.toList
def outK (r : zai) (m : List Bool) (k : Nat) : List ByteArray := ((r.f4.zip m).take k).flatMap fun p => zbQ r.f1 p.2 p.1.f2
theorem zgt (r : zai) (m : List Bool) (k : Nat) (h1 : k < r.f4.length) (h2 : k < m.length) : outK r m (k + 1) = outK r m k ++ zbQ r.f1 m[k] r.f4[k].f2 := by
 unfold outK
 have hz : k < (r.f4.zip m).length := by rw [List.length_zip]; omega
 rw [List.take_succ_eq_append_getElem hz, List.flatMap_append]
 simp [List.getElem_zip]
theorem zg9 (r : zai) (m : List Bool) (c : Nat) (hF : ∀ s ∈ r.f4, s.f2.length <= c) : ∀ k, (outK r m k).length <= k * c
 | 0 => by simp [outK]
 | k + 1 => by
  have ih := zg9 r m c hF k
  have e2 : (k + 1) * c = k * c + c := Nat.succ_mul k c
  by_cases h : k < r.f4.length /\ k < m.length
  . rw [zgt r m k h.1 h.2, List.length_append]
    have h1 : (zbQ r.f1 m[k] r.f4[k].f2).length <= c := Nat.le_trans (List.length_filter_le _ _) (hF _ (List.getElem_mem h.1))
    omega
  . have hl : (r.f4.zip m).length <= k := by rw [List.length_zip]; omega
    have e : outK r m (k + 1) = outK r m k := by
     unfold outK
     rw [List.take_of_length_le (Nat.le_succ_of_le hl), List.take_of_length_le hl]
    rw [e]
    omega
theorem zj7 (ins : List ByteArray) (b : Bool) (l : List ByteArray) (k : Nat) (h : k < l.length) : zbQ ins b (l.take (k + 1)) = zbQ ins b (l.take k) ++ if b && (zac ins).contains l[k].data.toList then [l[k]] else [] := by
 unfold zbQ
 rw [List.take_succ_eq_append_getElem h, List.filter_append]
 congr 1
 cases h2 : (b && (zac ins).contains l[k].data.toList) with
 | true => simp only [List.filter, h2, if_true]
 | false => simp only [List.filter, h2]; rfl
theorem zlk (r : zai) (m : List Bool) (hm : m.length = r.f4.length) : zbO (zae (outK r m r.f4.length)) = (zck (zax r) m).map mk := by
 unfold zbO zck
 rw [zd6]
 congr 3
 unfold outK
 rw [List.take_of_length_le (by rw [List.length_zip]; omega)]
 have e : (zax r).steps.zip m = (r.f4.zip m).map fun p => (zaM p.1, p.2) := by
  show (r.f4.map zaM).zip m = _
  rw [List.zip_map_left]
  rfl
 rw [e, List.flatMap_map]
 unfold zac
 rw [List.map_flatMap]
 congr 1
 funext p
 unfold zbQ zaM zac
 dsimp only
 rw [List.filter_map]
 rfl
set_option maxHeartbeats 8000000 in
set_option maxRecDepth 100000 in
theorem zhA (r : zai) (B1 : Option Addr) (c1 : Nat) (B2 : Option Addr) (c2 : Nat) (B3 : Option Addr) (c3 : Nat) (B4 : Option Addr) (c4 : Nat) (A : Option Addr) (c : Nat) (m : List Bool) (w : World)
 (h1 : Kd.C Kd.string w B1 r.f1.length r.f1) (h4 : Kd.C k24 w B4 r.f4.length r.f4) (hr : Kd.C Kd.bool w A m.length m) (hml : m.length = r.f4.length) (hF : FitR r) :
 Calls Tryz.prog 67 #[.agg (zao r B1 c1 B2 c2 B3 c3 B4 c4), .slice A m.length c] w (zfF ((zck (zax r) m).map mk) w) := by
 have hn4 := hF.steps
 have hW := (Below.refl w.heap.size w).alloc (Nat.le_refl _) (.cells (zao r B1 c1 B2 c2 B3 c3 B4 c4) 45)
 have HK := znM (zan w (.cells (zao r B1 c1 B2 c2 B3 c3 B4 c4) 45))
 have HB := znM hW
 have H1 := znM (Kd.C_below h1 hW)
 have H4 := znM (Kd.C_below h4 hW)
 have HR := znM (Kd.C_below hr hW)
 have HF := znM hF
 have HML := znM hml
 have HOl := znM (zg9 r m 1000 (fun s hs => (hF.stepN s hs).2.1))
 rw [<- zlk r m hml]
 obtain ⟨T, hT⟩ : ∃ T, T = zbO (zae (outK r m r.f4.length)) := ⟨_, rfl⟩
 rw [<- hT]
 have HT := znM hT
 clear hW h1 h4 hr hF hml hT
 unfold zao at *
 go_enter Tryz.func67, Tryz.ntmps67
 go_upto_region 1 with fail
 generalize w.alloc (.cells #[.string r.f0, .slice B1 r.f1.length c1, .slice B2 r.f2.length c2, .slice B3 r.f3.length c3, .slice B4 r.f4.length c4] 45) = w1 at HB HK H1 H4 HR |-
 have k4 : w1.cell? ⟨w.heap.size, 4, none⟩ = some (.slice B4 r.f4.length c4) := (zab HK.out 4).trans rfl
 have k1 : w1.cell? ⟨w.heap.size, 1, none⟩ = some (.slice B1 r.f1.length c1) := (zab HK.out 1).trans rfl
 go_wp2_with fail
 go_loopg [5, 6, 7, 9, 13] r.f4.length (fun gg s5 _ _ _ s13 wr => ∃ kk : Nat, kk <= r.f4.length /\ r.f4.length - kk <= gg /\ s13 = .int .i64 kk /\ Aside0 (RS wr w1.heap.size s5 (outK r m kk)) /\ Aside0 (Below w1.heap.size w1 wr))
 case atStart => exact ⟨0, Nat.zero_le _, by omega, rfl, ⟨Kd.R_nil _ _ _ _ _⟩, ⟨Below.refl _ _⟩⟩
 case round =>
  obtain ⟨kk, hkk, hgk, rfl, HO, HW⟩ := hrel
  obtain ⟨wq, rfl⟩ : ∃ wq, wq = wr := ⟨wr, rfl⟩
  by_cases hlt : kk < r.f4.length
  . have hltz : (kk : Int) < (r.f4.length : Int) := by omega
    have hlm : kk < m.length := by have := HML.out; omega
    have hlmz : (kk : Int) < (m.length : Int) := by omega
    obtain ⟨b, o, C2, d2, C3, d3, rfl, p0, p1, p2, p3, p4, g2, g3⟩ := zc7 H4.out kk hlt
    replace p0 := zaf HW.out p0
    replace p1 := zaf HW.out p1
    replace p2 := zaf HW.out p2
    replace p3 := zaf HW.out p3
    replace p4 := zaf HW.out p4
    obtain ⟨bm, om, rfl, q0⟩ := zgh HR.out kk hlm
    have HSt := znM (zgt r m kk hlt hlm)
    obtain ⟨hxo, hxl, hxn⟩ := HF.out.stepN _ (List.getElem_mem hlt)
    have hOl := HOl.out kk
    have hOl2 : (outK r m kk).length <= 1000000 := by
     have : kk * 1000 <= 1000 * 1000 := Nat.mul_le_mul_right _ (by omega)
     omega
    have HOk := znM hOl2
    generalize hx : r.f4[kk] = x at p0 p1 p2 p3 p4 g2 g3 HSt hxl
    generalize m[kk] = bk at q0 HSt
    clear hx hxo hxn hOl hOl2
    have HB3 : Hid (Below w1.heap.size w1 (wq.alloc (.cells #[.string x.f0, .int .i64 x.f1, .slice C2 x.f2.length d2, .slice C3 x.f3.length d3, .int .i64 x.f4] 24))) := znM (HW.out.alloc HW.out.size _)
    have HX3 := znM (zan wq (.cells #[.string x.f0, .int .i64 x.f1, .slice C2 x.f2.length d2, .slice C3 x.f3.length d3, .int .i64 x.f4] 24))
    have HG2 := znM g2
    have HQ0 := znM q0
    have HO3 := znM (Kd.R_below HO.out ((Below.refl wq.heap.size wq).alloc (Nat.le_refl _) (.cells #[.string x.f0, .int .i64 x.f1, .slice C2 x.f2.length d2, .slice C3 x.f3.length d3, .int .i64 x.f4] 24)))
    clear g2 g3 q0
    go_upto_region 5 with fail
    generalize wq.alloc (.cells #[.string x.f0, .int .i64 x.f1, .slice C2 x.f2.length d2, .slice C3 x.f3.length d3, .int .i64 x.f4] 24) = w3 at HX3 HB3 HO3 |-
    have x2 : w3.cell? ⟨wq.heap.size, 2, none⟩ = some (.slice C2 x.f2.length d2) := (zab HX3.out 2).trans rfl
    go_wp2_with fail
    go_loopg [5, 9, 21] x.f2.length (fun gg s5 _ s21 wi => ∃ k : Nat, k <= x.f2.length /\ x.f2.length - k <= gg /\ s21 = .int .i64 k /\ Aside0 (RS wi w1.heap.size s5 (outK r m kk ++ zbQ r.f1 bk (x.f2.take k))) /\ Aside0 (Below w1.heap.size w1 wi))
    case atStart => exact ⟨0, Nat.zero_le _, by omega, rfl, ⟨by rw [List.take_zero]; exact (by simpa [zbQ] using HO3.out)⟩, ⟨HB3.out⟩⟩
    case round =>
     obtain ⟨k, hk, hgk2, rfl, HOi, HWi⟩ := hrel
     by_cases hl2 : k < x.f2.length
     . have hl2z : (k : Int) < (x.f2.length : Int) := by omega
       obtain ⟨b5, o5, rfl, n0⟩ := zbc (Kd.C_below HG2.out HWi.out) k hl2
       have m0 := zaf HWi.out HQ0.out
       have j1 := zaf HWi.out k1
       have HRs := znM (zj7 r.f1 bk x.f2 k hl2)
       have HRl : Hid ((zbQ r.f1 bk (x.f2.take k)).length <= 1000) := znM (Nat.le_trans (List.length_filter_le _ _) (by rw [List.length_take]; omega))
       have HWs := znM HWi.out.size
       have HCt := znM (zcQ B1 c1 r.f1 x.f2[k] wr (Kd.C_below H1.out HWi.out))
       generalize x.f2[k] = n at n0 HRs HCt
       cases bk with
       | false =>
        have HN : Hid (RS wr w1.heap.size u5 (outK r m kk ++ zbQ r.f1 false (x.f2.take (k + 1)))) := by show RS _ _ _ _; rw [HRs.out]; simpa using HOi.out
        go_wp2_with fail
        go_roundg (x.f2.length - (k + 1))
        case measure => omega
        case rel => exact ⟨k + 1, by omega, by omega, by first | rfl | go_num, ⟨HN.out⟩, ⟨HWi.out⟩⟩
       | true =>
        have hRs := HRs.out
        rw [Bool.true_and] at hRs
        generalize (zac r.f1).contains n.data.toList = q at HCt hRs
        have HRs2 := znM hRs
        clear hRs HRs
        cases q with
        | false =>
         have HN : Hid (RS wr w1.heap.size u5 (outK r m kk ++ zbQ r.f1 true (x.f2.take (k + 1)))) := by show RS _ _ _ _; rw [HRs2.out]; simpa using HOi.out
         go_wp2_with (first | (go_at_call 92; refine HCt.out.mono ?_; rintro e w2 ⟨rfl, rfl⟩))
         go_roundg (x.f2.length - (k + 1))
         case measure => omega
         case rel => exact ⟨k + 1, by omega, by omega, by first | rfl | go_num, ⟨HN.out⟩, ⟨HWi.out⟩⟩
        | true =>
         go_wp2_with (first | (go_at_call 92; refine HCt.out.mono ?_; rintro e w2 ⟨rfl, rfl⟩) | ((with_reducible refine zaO (b := .append) (xs := #[.tmp 35, .tmp 37]) rfl ?_); at_builtin; refine Kd.R_append Kd.string (w0 := w1) w1.heap.size rfl (.tmp 35) (.tmp 37) 22 9 (.string ⟨#[]⟩) 16 rfl Tryz.underlying22 zcg rfl (by decide) (by decide) u5 (outK r m kk ++ zbQ r.f1 true (x.f2.take k)) n [.string n] (fun _ => True) (fun k_ => True /\ some k_ ≠ u5.ownBlock) rfl rfl rfl (fun _ hk => hk) (fun _ _ => trivial) HOi.out HWi.out HWs.out ?aL ?_; (case aL => (have h1 := HRl.out; have h2 := HOk.out; rw [List.length_append]; omega)); intro v1 w4 ho hb hg hat; have HO4 : Hid (RS w4 w1.heap.size v1 (outK r m kk ++ zbQ r.f1 true (x.f2.take (k + 1)))) := (by show RS _ _ _ _; rw [HRs2.out]; (rw [if_pos trivial, <- List.append_assoc]); exact ho); have HB4 := znM hb; clear ho hb hg hat))
         go_roundg (x.f2.length - (k + 1))
         case measure => omega
         case rel => exact ⟨k + 1, by omega, by omega, by first | rfl | go_num, ⟨HO4.out⟩, ⟨HB4.out⟩⟩
     . have hl2z : ¬ (k : Int) < (x.f2.length : Int) := by omega
       obtain rfl : k = x.f2.length := by omega
       have HN : Hid (RS wr w1.heap.size u5 (outK r m (kk + 1))) := by
        have h := HOi.out
        rw [List.take_length] at h
        show RS _ _ _ _
        rw [HSt.out]
        exact h
       go_wp2_with fail
       go_roundg (r.f4.length - (kk + 1))
       case measure => omega
       case rel => exact ⟨kk + 1, by omega, by omega, by first | rfl | go_num, ⟨HN.out⟩, ⟨HWi.out⟩⟩
  . have hltz : ¬ (kk : Int) < (r.f4.length : Int) := by omega
    obtain rfl : kk = r.f4.length := by omega
    have hol := HOl.out r.f4.length
    have hol2 : (outK r m r.f4.length).length * 16 <= 140737488355328 := by
     have : r.f4.length * 1000 <= 1000 * 1000 := Nat.mul_le_mul_right _ (by omega)
     omega
    have hSort := zfM w1.heap.size u5 (outK r m r.f4.length) wq HO.out hol2
    have HSort := znM hSort
    have HBs := znM (Kd.R_base HO.out)
    clear hol hol2 hSort
    go_wp2_with (first
     | (go_at_call 93; refine HSort.out.mono ?_; rintro e w5 ⟨rfl, hR5, hg5⟩; have HR5 := znM hR5; have HW5 := znM (HW.out.grown hg5 HW.out.size (fun k hk => HBs.out k hk)); clear hR5 hg5)
     | (go_at_call 94; refine (zio w1.heap.size u5 _ _ HR5.out).mono ?_; rintro e w6 ⟨v6, rfl, hR6, hg6⟩; have HR6 := znM hR6; have HW6 := znM (HW5.out.grown hg6 HW5.out.size (fun k hk => HBs.out k hk)); clear hR6 hg6))
    go_ret
    exact ⟨_, rfl, by rw [HT.out]; exact Kd.R_lower HR6.out HB.out.size, HB.out.trans (HW6.out.mono HB.out.size)⟩

theorem zeh (w : zaa -> Bool) (r : zai) : (zaz w (zax r).steps).1.length = r.f4.length := by rw [zfy]; exact List.length_map ..
def zbm (fs : List ByteArray) : zaa -> Bool := fun x => (zac fs).contains x
structure RuleAt (r : zai) (B1 : Option Addr) (B2 : Option Addr) (B3 : Option Addr) (B4 : Option Addr) (w : World) : Prop where
 h1 : Kd.C Kd.string w B1 r.f1.length r.f1
 h2 : Kd.C Kd.string w B2 r.f2.length r.f2
 h3 : Kd.C Kd.string w B3 r.f3.length r.f3
 h4 : Kd.C k24 w B4 r.f4.length r.f4
theorem RuleAt.below {r : zai} {B1 B2 B3 B4 : Option Addr} {w w' : World} (h : RuleAt r B1 B2 B3 B4 w) (hb : Below w.heap.size w w') : RuleAt r B1 B2 B3 B4 w' := ⟨Kd.C_below h.h1 hb, Kd.C_below h.h2 hb, Kd.C_below h.h3 hb, Kd.C_below h.h4 hb⟩
set_option maxHeartbeats 4000000 in
set_option maxRecDepth 100000 in
theorem zlw (r : zai) (B1 : Option Addr) (c1 : Nat) (B2 : Option Addr) (c2 : Nat) (B3 : Option Addr) (c3 : Nat) (B4 : Option Addr) (c4 : Nat) (o : ByteArray) (w : World) (hA : RuleAt r B1 B2 B3 B4 w) (hF : FitR r) (ho : o.size <= maxLen) :
 Calls Tryz.prog 39 #[.agg (zao r B1 c1 B2 c2 B3 c3 B4 c4), .string o] w (zfv (zbk (zaz (zbm [o]) (zax r).steps).1 true) w) := by
 have hW := (Below.refl w.heap.size w).alloc (Nat.le_refl _) (.cells (zao r B1 c1 B2 c2 B3 c3 B4 c4) 45)
 have HK := znM (zan w (.cells (zao r B1 c1 B2 c2 B3 c3 B4 c4) 45))
 have HB := znM hW
 have HA := znM (hA.below hW)
 have HL := znM (zeh (zbm [o]) r)
 have HF := znM hF
 have HN := znM (fun (X : Option Addr) (c : Nat) (W : World) (h : RuleAt r B1 B2 B3 B4 W) (hr : Kd.C Kd.string W X 1 [o]) => zdY r B1 c1 B2 c2 B3 c3 B4 c4 X c [o] W h.h4 hr hF (by simp) (fun x hx => by rw [List.mem_singleton.1 hx]; exact ho))
 have hn4 := hF.steps
 have e : (fun x => (zac [o]).contains x) = zbm [o] := rfl
 rw [e] at HN
 generalize (zaz (zbm [o]) (zax r).steps).1 = m at HL HN |-
 obtain ⟨T, hT⟩ : ∃ T, T = zbk m true := ⟨_, rfl⟩
 rw [<- hT]
 have HT := znM hT
 clear hW hA hF ho e hT
 unfold zao at *
 go_enter Tryz.func39, Tryz.ntmps39
 go_upto_region 1 with fail
 generalize w.alloc (.cells #[.string r.f0, .slice B1 r.f1.length c1, .slice B2 r.f2.length c2, .slice B3 r.f3.length c3, .slice B4 r.f4.length c4] 45) = w1 at HB HK HA |-
 have k0 : w1.cell? ⟨w.heap.size, 0, none⟩ = some (.string r.f0) := (zab HK.out 0).trans rfl
 have k1 : w1.cell? ⟨w.heap.size, 1, none⟩ = some (.slice B1 r.f1.length c1) := (zab HK.out 1).trans rfl
 have k2 : w1.cell? ⟨w.heap.size, 2, none⟩ = some (.slice B2 r.f2.length c2) := (zab HK.out 2).trans rfl
 have k3 : w1.cell? ⟨w.heap.size, 3, none⟩ = some (.slice B3 r.f3.length c3) := (zab HK.out 3).trans rfl
 have k4 : w1.cell? ⟨w.heap.size, 4, none⟩ = some (.slice B4 r.f4.length c4) := (zab HK.out 4).trans rfl
 have HX := znM ((Below.refl w1.heap.size w1).alloc (Nat.le_refl _) (.cells #[.string o] 9))
 have HS := znM (zbJ Kd.string w1 9 [o] [.string o] (Kd.reps_scalar _) (by simp))
 go_wp2_with (first
  | (go_at_call 66; refine (HN.out _ _ _ (HA.out.below HX.out) HS.out).mono ?_; rintro e w2 ⟨v2, rfl, hR2, hb2⟩; obtain ⟨A2, n2, rfl, _, hC2⟩ := Kd.R_reads hR2; have HC2 := znM hC2; have HB2 := znM (zad HX.out HX.out.size hb2); clear hR2 hC2 hb2)
  | (go_at_call 65; refine (zhh A2 n2 m true w2 HC2.out (by have h := HL.out; omega)).mono ?_; rintro e w3 ⟨v3, rfl, hR3, hb3⟩; have HR3 := znM hR3; have HB3 := znM (zad HB2.out HB2.out.size hb3); have HZ3 := znM HB2.out.size; clear hR3 hb3))
 go_ret
 exact ⟨_, rfl, by rw [HT.out]; exact Kd.R_lower HR3.out (Nat.le_trans HB.out.size HZ3.out), zad HB.out HB.out.size HB3.out⟩

set_option maxHeartbeats 4000000 in
set_option maxRecDepth 100000 in
theorem zjy (r : zai) (B1 : Option Addr) (c1 : Nat) (B2 : Option Addr) (c2 : Nat) (B3 : Option Addr) (c3 : Nat) (B4 : Option Addr) (c4 : Nat) (w : World) (hA : RuleAt r B1 B2 B3 B4 w) (hF : FitR r) :
 Calls Tryz.prog 44 #[.agg (zao r B1 c1 B2 c2 B3 c3 B4 c4)] w (zfv (zbk (zaz (zbm r.f2) (zax r).steps).1 false) w) := by
 have hW := (Below.refl w.heap.size w).alloc (Nat.le_refl _) (.cells (zao r B1 c1 B2 c2 B3 c3 B4 c4) 45)
 have HK := znM (zan w (.cells (zao r B1 c1 B2 c2 B3 c3 B4 c4) 45))
 have HB := znM hW
 have HA := znM (hA.below hW)
 have HL := znM (zeh (zbm r.f2) r)
 have HF := znM hF
 have HN := znM (fun (X : Option Addr) (c : Nat) (W : World) (h : RuleAt r B1 B2 B3 B4 W) (hr : Kd.C Kd.string W X r.f2.length r.f2) => zdY r B1 c1 B2 c2 B3 c3 B4 c4 X c r.f2 W h.h4 hr hF hF.outs hF.outsN)
 have hn4 := hF.steps
 have e : (fun x => (zac r.f2).contains x) = zbm r.f2 := rfl
 rw [e] at HN
 generalize (zaz (zbm r.f2) (zax r).steps).1 = m at HL HN |-
 obtain ⟨T, hT⟩ : ∃ T, T = zbk m false := ⟨_, rfl⟩
 rw [<- hT]
 have HT := znM hT
 clear hW hA hF e hT
 unfold zao at *
 go_enter Tryz.func44, Tryz.ntmps44
 go_upto_region 1 with fail
 generalize w.alloc (.cells #[.string r.f0, .slice B1 r.f1.length c1, .slice B2 r.f2.length c2, .slice B3 r.f3.length c3, .slice B4 r.f4.length c4] 45) = w1 at HB HK HA |-
 have k0 : w1.cell? ⟨w.heap.size, 0, none⟩ = some (.string r.f0) := (zab HK.out 0).trans rfl
 have k1 : w1.cell? ⟨w.heap.size, 1, none⟩ = some (.slice B1 r.f1.length c1) := (zab HK.out 1).trans rfl
 have k2 : w1.cell? ⟨w.heap.size, 2, none⟩ = some (.slice B2 r.f2.length c2) := (zab HK.out 2).trans rfl
 have k3 : w1.cell? ⟨w.heap.size, 3, none⟩ = some (.slice B3 r.f3.length c3) := (zab HK.out 3).trans rfl
 have k4 : w1.cell? ⟨w.heap.size, 4, none⟩ = some (.slice B4 r.f4.length c4) := (zab HK.out 4).trans rfl
 go_wp2_with (first
  | (go_at_call 66; refine (HN.out _ _ _ HA.out HA.out.h2).mono ?_; rintro e w2 ⟨v2, rfl, hR2, hb2⟩; obtain ⟨A2, n2, rfl, _, hC2⟩ := Kd.R_reads hR2; have HC2 := znM hC2; have HB2 := znM hb2; clear hR2 hC2 hb2)
  | (go_at_call 65; refine (zhh A2 n2 m false w2 HC2.out (by have h := HL.out; omega)).mono ?_; rintro e w3 ⟨v3, rfl, hR3, hb3⟩; have HR3 := znM hR3; have HB3 := znM (zad HB2.out HB2.out.size hb3); have HZ3 := znM HB2.out.size; clear hR3 hb3))
 go_ret
 exact ⟨_, rfl, by rw [HT.out]; exact Kd.R_lower HR3.out (Nat.le_trans HB.out.size HZ3.out), zad HB.out HB.out.size HB3.out⟩

set_option maxHeartbeats 4000000 in
set_option maxRecDepth 100000 in
theorem zmE (r : zai) (B1 : Option Addr) (c1 : Nat) (B2 : Option Addr) (c2 : Nat) (B3 : Option Addr) (c3 : Nat) (B4 : Option Addr) (c4 : Nat) (w : World) (hA : RuleAt r B1 B2 B3 B4 w) (hF : FitR r) :
 Calls Tryz.prog 43 #[.agg (zao r B1 c1 B2 c2 B3 c3 B4 c4)] w (zfF ((zck (zax r) (zaz (zbm r.f2) (zax r).steps).1).map mk) w) := by
 have hW := (Below.refl w.heap.size w).alloc (Nat.le_refl _) (.cells (zao r B1 c1 B2 c2 B3 c3 B4 c4) 45)
 have HK := znM (zan w (.cells (zao r B1 c1 B2 c2 B3 c3 B4 c4) 45))
 have HB := znM hW
 have HA := znM (hA.below hW)
 have HL := znM (zeh (zbm r.f2) r)
 have HF := znM hF
 have HN := znM (fun (X : Option Addr) (c : Nat) (W : World) (h : RuleAt r B1 B2 B3 B4 W) (hr : Kd.C Kd.string W X r.f2.length r.f2) => zdY r B1 c1 B2 c2 B3 c3 B4 c4 X c r.f2 W h.h4 hr hF hF.outs hF.outsN)
 have hn4 := hF.steps
 have e : (fun x => (zac r.f2).contains x) = zbm r.f2 := rfl
 rw [e] at HN
 generalize (zaz (zbm r.f2) (zax r).steps).1 = m at HL HN |-
 obtain ⟨T, hT⟩ : ∃ T, T = (zck (zax r) m).map mk := ⟨_, rfl⟩
 rw [<- hT]
 have HRd := znM (fun (X : Option Addr) (c : Nat) (W : World) (h : RuleAt r B1 B2 B3 B4 W) (hr : Kd.C Kd.bool W X m.length m) => zhA r B1 c1 B2 c2 B3 c3 B4 c4 X c m W h.h1 h.h4 hr HL.out hF)
 have HT := znM hT
 clear hW hA hF e hT
 unfold zao at *
 go_enter Tryz.func43, Tryz.ntmps43
 go_upto_region 1 with fail
 generalize w.alloc (.cells #[.string r.f0, .slice B1 r.f1.length c1, .slice B2 r.f2.length c2, .slice B3 r.f3.length c3, .slice B4 r.f4.length c4] 45) = w1 at HB HK HA |-
 have Sof : ∀ W, Below w1.heap.size w1 W -> W.cell? ⟨w.heap.size, 0, none⟩ = some (.string r.f0) /\ W.cell? ⟨w.heap.size, 1, none⟩ = some (.slice B1 r.f1.length c1) /\ W.cell? ⟨w.heap.size, 2, none⟩ = some (.slice B2 r.f2.length c2) /\ W.cell? ⟨w.heap.size, 3, none⟩ = some (.slice B3 r.f3.length c3) /\ W.cell? ⟨w.heap.size, 4, none⟩ = some (.slice B4 r.f4.length c4) := fun W hW =>
  ⟨(zab (zah HK.out hW) 0).trans rfl, (zab (zah HK.out hW) 1).trans rfl, (zab (zah HK.out hW) 2).trans rfl, (zab (zah HK.out hW) 3).trans rfl, (zab (zah HK.out hW) 4).trans rfl⟩
 have HSo := znM Sof
 have HBx : Hid (Below w1.heap.size w1 w1.drew) := znM (zbl (Below.refl _ _))
 clear Sof
 go_region_held3 (fun W => W.cell? ⟨w.heap.size, 0, none⟩ = some (.string r.f0) /\ W.cell? ⟨w.heap.size, 1, none⟩ = some (.slice B1 r.f1.length c1) /\ W.cell? ⟨w.heap.size, 2, none⟩ = some (.slice B2 r.f2.length c2) /\ W.cell? ⟨w.heap.size, 3, none⟩ = some (.slice B3 r.f3.length c3) /\ W.cell? ⟨w.heap.size, 4, none⟩ = some (.slice B4 r.f4.length c4))
  (exact HSo.out _ HBx.out)
  (first
   | (go_at_call 66; refine (HN.out _ _ _ (HA.out.below HBx.out) (HA.out.below HBx.out).h2).mono ?_; rintro e w2 ⟨v2, rfl, hR2, hb2⟩; obtain ⟨A2, n2, rfl, _, hC2⟩ := Kd.R_reads hR2; have HC2 := znM hC2; have HBx := znM (zad HBx.out (HBx.out).size hb2); clear hR2 hC2 hb2)
   | (go_at_call 67; refine (HRd.out _ _ _ (HA.out.below HBx.out) HC2.out).mono ?_; rintro e w3 ⟨v3, rfl, hR3, hb3⟩; have HR3 := znM hR3; have HZ3 := znM HBx.out.size; have HBx := znM (zad HBx.out HBx.out.size hb3); clear hR3 hb3))
 all_goals
  go_wp2_with fail
  go_ret
  exact ⟨_, rfl, by rw [HT.out]; exact Kd.R_lower HR3.out (Nat.le_trans HB.out.size HZ3.out), zad HB.out HB.out.size HBx.out⟩

set_option maxHeartbeats 4000000 in
set_option maxRecDepth 100000 in
theorem zj5 (r : zai) (B1 : Option Addr) (c1 : Nat) (B2 : Option Addr) (c2 : Nat) (B3 : Option Addr) (c3 : Nat) (B4 : Option Addr) (c4 : Nat) (o : ByteArray) (w : World) (hA : RuleAt r B1 B2 B3 B4 w) (hF : FitR r) (ho : o.size <= maxLen) :
 Calls Tryz.prog 41 #[.agg (zao r B1 c1 B2 c2 B3 c3 B4 c4), .string o] w (zfF ((zck (zax r) (zaz (zbm [o]) (zax r).steps).1).map mk) w) := by
 have hW := (Below.refl w.heap.size w).alloc (Nat.le_refl _) (.cells (zao r B1 c1 B2 c2 B3 c3 B4 c4) 45)
 have HK := znM (zan w (.cells (zao r B1 c1 B2 c2 B3 c3 B4 c4) 45))
 have HB := znM hW
 have HA := znM (hA.below hW)
 have HL := znM (zeh (zbm [o]) r)
 have HF := znM hF
 have HN := znM (fun (X : Option Addr) (c : Nat) (W : World) (h : RuleAt r B1 B2 B3 B4 W) (hr : Kd.C Kd.string W X [o].length [o]) => zdY r B1 c1 B2 c2 B3 c3 B4 c4 X c [o] W h.h4 hr hF (by simp) (fun x hx => by rw [List.mem_singleton.1 hx]; exact ho))
 have hn4 := hF.steps
 have e : (fun x => (zac [o]).contains x) = zbm [o] := rfl
 rw [e] at HN
 generalize (zaz (zbm [o]) (zax r).steps).1 = m at HL HN |-
 obtain ⟨T, hT⟩ : ∃ T, T = (zck (zax r) m).map mk := ⟨_, rfl⟩
 rw [<- hT]
 have HRd := znM (fun (X : Option Addr) (c : Nat) (W : World) (h : RuleAt r B1 B2 B3 B4 W) (hr : Kd.C Kd.bool W X m.length m) => zhA r B1 c1 B2 c2 B3 c3 B4 c4 X c m W h.h1 h.h4 hr HL.out hF)
 have HT := znM hT
 clear hW hA hF e hT ho
 unfold zao at *
 go_enter Tryz.func41, Tryz.ntmps41
 go_upto_region 1 with fail
 generalize w.alloc (.cells #[.string r.f0, .slice B1 r.f1.length c1, .slice B2 r.f2.length c2, .slice B3 r.f3.length c3, .slice B4 r.f4.length c4] 45) = w1 at HB HK HA |-
 have Sof : ∀ W, Below w1.heap.size w1 W -> W.cell? ⟨w.heap.size, 0, none⟩ = some (.string r.f0) /\ W.cell? ⟨w.heap.size, 1, none⟩ = some (.slice B1 r.f1.length c1) /\ W.cell? ⟨w.heap.size, 2, none⟩ = some (.slice B2 r.f2.length c2) /\ W.cell? ⟨w.heap.size, 3, none⟩ = some (.slice B3 r.f3.length c3) /\ W.cell? ⟨w.heap.size, 4, none⟩ = some (.slice B4 r.f4.length c4) := fun W hW =>
  ⟨(zab (zah HK.out hW) 0).trans rfl, (zab (zah HK.out hW) 1).trans rfl, (zab (zah HK.out hW) 2).trans rfl, (zab (zah HK.out hW) 3).trans rfl, (zab (zah HK.out hW) 4).trans rfl⟩
 have HSo := znM Sof
 have HBx : Hid (Below w1.heap.size w1 w1.drew) := znM (zbl (Below.refl _ _))
 have HBa : Hid (Below w1.heap.size w1 (w1.drew.alloc (.cells #[.string o] 9))) := znM (HBx.out.alloc HBx.out.size _)
 have HS := znM (zbJ Kd.string w1.drew 9 [o] [.string o] (Kd.reps_scalar _) (by simp))
 clear Sof
 go_region_held3 (fun W => W.cell? ⟨w.heap.size, 0, none⟩ = some (.string r.f0) /\ W.cell? ⟨w.heap.size, 1, none⟩ = some (.slice B1 r.f1.length c1) /\ W.cell? ⟨w.heap.size, 2, none⟩ = some (.slice B2 r.f2.length c2) /\ W.cell? ⟨w.heap.size, 3, none⟩ = some (.slice B3 r.f3.length c3) /\ W.cell? ⟨w.heap.size, 4, none⟩ = some (.slice B4 r.f4.length c4))
  (exact HSo.out _ (by first | exact HBx.out | exact HBa.out))
  (first
   | (go_at_call 66; refine (HN.out _ _ _ (HA.out.below HBa.out) HS.out).mono ?_; rintro e w2 ⟨v2, rfl, hR2, hb2⟩; obtain ⟨A2, n2, rfl, _, hC2⟩ := Kd.R_reads hR2; have HC2 := znM hC2; have HBx := znM (zad HBa.out (HBa.out).size hb2); clear hR2 hC2 hb2)
   | (go_at_call 67; refine (HRd.out _ _ _ (HA.out.below HBx.out) HC2.out).mono ?_; rintro e w3 ⟨v3, rfl, hR3, hb3⟩; have HR3 := znM hR3; have HZ3 := znM HBx.out.size; have HBx := znM (zad HBx.out HBx.out.size hb3); clear hR3 hb3))
 all_goals
  go_wp2_with fail
  go_ret
  exact ⟨_, rfl, by rw [HT.out]; exact Kd.R_lower HR3.out (Nat.le_trans HB.out.size HZ3.out), zad HB.out HB.out.size HBx.out⟩

set_option maxHeartbeats 4000000 in
set_option maxRecDepth 100000 in
theorem zjn (A : Option Addr) (c : Nat) (l : List zaA) (w : World) (hG : GOK w) (hr : Kd.C k24 w A l.length l) (hl : l.length <= 1000) :
 Calls Tryz.prog 134 #[.slice A l.length c, .func (.func 97) #[] #[]] w fun e w' => ∃ i : Int, e = .returned (.int .i64 i) /\ decide (0 <= i) = l.any (fun x => zbI (zaM x)) /\ Below w.heap.size w w' := by
 have HR := znM hr
 have HG := znM hG
 have eg := zjM
 clear hr hG
 go_enter Tryz.func134, Tryz.ntmps134
 go_wp2_with fail
 go_loopg [5, 8] l.length (fun gg _ s8 wr => ∃ kk : Nat, kk <= l.length /\ l.length - kk <= gg /\ s8 = .int .i64 kk /\ Aside0 (Below w.heap.size w wr) /\ Aside0 (((l.take kk).any fun x => zbI (zaM x)) = false))
 case atStart => exact ⟨0, Nat.zero_le _, by omega, rfl, ⟨Below.refl _ _⟩, ⟨rfl⟩⟩
 case round =>
  obtain ⟨kk, hkk, hgk, rfl, HB, HA⟩ := hrel
  by_cases hlt : kk < l.length
  . have hltz : (kk : Int) < (l.length : Int) := by omega
    obtain ⟨b, o, C2, d2, C3, d3, rfl, p0, p1, p2, p3, p4, g2, g3⟩ := zc7 (Kd.C_below HR.out HB.out) kk hlt
    have hS : ((l.take (kk + 1)).any fun x => zbI (zaM x)) = (((l.take kk).any fun x => zbI (zaM x)) || zbI (zaM l[kk])) := by rw [List.take_succ_eq_append_getElem hlt, List.any_append]; simp
    rw [HA.out, Bool.false_or] at hS
    have hmem : zbI (zaM l[kk]) = true -> (l.any fun x => zbI (zaM x)) = true := fun h => List.any_eq_true.2 ⟨_, List.getElem_mem hlt, h⟩
    have hcall := zje l[kk] C2 d2 C3 d3 wr (HG.out.below HB.out) g2 g3
    have HS := znM hS
    have HM := znM hmem
    generalize zbI (zaM l[kk]) = q at hcall HS HM
    generalize l[kk] = x at p0 p1 p2 p3 p4 hcall
    unfold zfB at hcall
    clear hS hmem g2 g3
    cases q with
    | true =>
     go_wp2_with (first | (go_at_fn 97; refine hcall.mono ?_; rintro e w2 ⟨rfl, hb2⟩; have HB2 := znM (zad HB.out HB.out.size hb2); clear hb2))
     go_ret
     exact ⟨kk, rfl, by rw [HM.out trivial]; simp, HB2.out⟩
    | false =>
     go_wp2_with (first | (go_at_fn 97; refine hcall.mono ?_; rintro e w2 ⟨rfl, hb2⟩; have HB2 := znM (zad HB.out HB.out.size hb2); clear hb2))
     go_roundg (l.length - (kk + 1))
     case measure => omega
     case rel => exact ⟨kk + 1, by omega, by omega, by first | rfl | go_num, ⟨HB2.out⟩, ⟨HS.out⟩⟩
  . have hltz : ¬ (kk : Int) < (l.length : Int) := by omega
    obtain rfl : kk = l.length := by omega
    have hA := HA.out
    rw [List.take_length] at hA
    have HA2 := znM hA
    clear hA
    go_wp2_with fail
    go_ret
    exact ⟨-1, rfl, by rw [HA2.out]; rfl, HB.out⟩
set_option maxHeartbeats 1000000 in
theorem zi6 (A : Option Addr) (c : Nat) (l : List zaA) (w : World) (hG : GOK w) (hr : Kd.C k24 w A l.length l) (hl : l.length <= 1000) :
 Calls Tryz.prog 96 #[.slice A l.length c, .func (.func 97) #[] #[]] w fun e w' => e = .returned (.bool (l.any (fun x => zbI (zaM x)))) /\ Below w.heap.size w w' := by
 have hI := zjn A c l w hG hr hl
 generalize l.any (fun x => zbI (zaM x)) = q at hI |-
 clear hG hr
 go_enter Tryz.func96, Tryz.ntmps96
 go_wp2_with (go_at_call 134; refine hI.mono ?_; rintro e w2 ⟨i, rfl, hq, hb2⟩)
 go_ret
 exact ⟨by rw [<- hq]; rfl, hb2⟩
theorem zmd (r : zai) : zc4 (zcc r) = (may r.f0.data.toList && !(decide (r.f2.length = 0)) && ((zac r.f1).all may && (zac r.f2).all may && (zac r.f3).all may) && !(r.f4.any fun x => zbI (zaM x))) := by
 unfold zc4 zcc zax
 dsimp only
 have h1 : (zac r.f2).isEmpty = decide (r.f2.length = 0) := by
  cases h : r.f2 with
  | nil => rfl
  | cons a l => simp [zac]
 have h2 : ((r.f4.map zaM).all fun s => may s.out && s.args.all may && mayC s.cmd) = !(r.f4.any fun x => zbI (zaM x)) := by
  rw [List.all_map, List.not_any_eq_all_not]
  congr 1
  funext x
  unfold zbI
  simp
 rw [h1, h2]
set_option maxHeartbeats 8000000 in
set_option maxRecDepth 100000 in
theorem zlX (r : zai) (B1 : Option Addr) (c1 : Nat) (B2 : Option Addr) (c2 : Nat) (B3 : Option Addr) (c3 : Nat) (B4 : Option Addr) (c4 : Nat) (w : World) (hG : GOK w) (hA : RuleAt r B1 B2 B3 B4 w) (hl : r.f4.length <= 1000) :
 Calls Tryz.prog 69 #[.agg (zao r B1 c1 B2 c2 B3 c3 B4 c4)] w fun e w' => e = .returned (.bool (zc4 (zcc r))) /\ Below w.heap.size w w' := by
 have hW := (Below.refl w.heap.size w).alloc (Nat.le_refl _) (.cells (zao r B1 c1 B2 c2 B3 c3 B4 c4) 45)
 have HK := znM (zan w (.cells (zao r B1 c1 B2 c2 B3 c3 B4 c4) 45))
 have HB := znM hW
 have HA := znM (hA.below hW)
 have HG := znM (hG.below hW)
 have hln : r.f2.length <= 9223372036854775807 := hA.h2.2.1
 rw [zmd]
 have HN := znM (fun W (hG : GOK W) => zfE r.f0 W hG)
 have H1 := znM (fun W (hG : GOK W) (h : Kd.C Kd.string W B1 r.f1.length r.f1) => zed B1 c1 r.f1 W hG h)
 have H2 := znM (fun W (hG : GOK W) (h : Kd.C Kd.string W B2 r.f2.length r.f2) => zed B2 c2 r.f2 W hG h)
 have H3 := znM (fun W (hG : GOK W) (h : Kd.C Kd.string W B3 r.f3.length r.f3) => zed B3 c3 r.f3 W hG h)
 have H4 := znM (fun W (hG : GOK W) (h : Kd.C k24 W B4 r.f4.length r.f4) => zi6 B4 c4 r.f4 W hG h hl)
 generalize may r.f0.data.toList = q0 at HN |-
 generalize (zac r.f1).all may = q1 at H1 |-
 generalize (zac r.f2).all may = q2 at H2 |-
 generalize (zac r.f3).all may = q3 at H3 |-
 generalize r.f4.any (fun x => zbI (zaM x)) = q4 at H4 |-
 clear hW hA hG hl
 unfold zao at *
 go_enter Tryz.func69, Tryz.ntmps69
 go_upto_if 13 with fail
 generalize w.alloc (.cells #[.string r.f0, .slice B1 r.f1.length c1, .slice B2 r.f2.length c2, .slice B3 r.f3.length c3, .slice B4 r.f4.length c4] 45) = w1 at HB HK HA HG |-
 have k0 : w1.cell? ⟨w.heap.size, 0, none⟩ = some (.string r.f0) := (zab HK.out 0).trans rfl
 cases q0 with
 | false =>
  go_wp2_with (first | (go_at_call 95; refine (HN.out _ HG.out).mono ?_; rintro e w2 ⟨rfl, hb2⟩))
  go_ret
  exact ⟨rfl, zad HB.out HB.out.size hb2⟩
 | true =>
  by_cases hz : r.f2.length = 0
  . have d0 : ((r.f2.length : Int) == 0) = true := by simp [hz]
    have hF : (true && !(decide (r.f2.length = 0)) && (q1 && q2 && q3) && !q4) = false := by simp [hz]
    have HF := znM hF
    have HZ := znM hz
    clear hz hF
    go_wp2_with (first | (go_at_call 95; refine (HN.out _ HG.out).mono ?_; rintro e w2 ⟨rfl, hb2⟩; have HK2 := znM (zah HK.out hb2); have j2 : w2.cell? ⟨w.heap.size, 2, none⟩ = some (.slice B2 r.f2.length c2) := (zab HK2.out 2).trans rfl))
    go_ret
    exact ⟨by rw [HF.out]; rfl, zad HB.out HB.out.size hb2⟩
  . have d0 : ((r.f2.length : Int) == 0) = false := by simpa using hz
    have hF : (true && !(decide (r.f2.length = 0)) && (q1 && q2 && q3) && !q4) = ((q1 && q2 && q3) && !q4) := by simp [hz]
    have HF := znM hF
    clear hz hF
    go_upto_region 3 with (first | (go_at_call 95; refine (HN.out _ HG.out).mono ?_; rintro e w2 ⟨rfl, hb2⟩; have HK2 := znM (zah HK.out hb2); have j2 : w2.cell? ⟨w.heap.size, 2, none⟩ = some (.slice B2 r.f2.length c2) := (zab HK2.out 2).trans rfl))
    have HB2 := znM (zad HB.out HB.out.size hb2)
    have HA2 := znM (HA.out.below hb2)
    have HG2 := znM (HG.out.below hb2)
    have hb3 := (Below.refl w2.heap.size w2).alloc (Nat.le_refl _) (.cells #[.slice B1 r.f1.length c1, .slice B2 r.f2.length c2, .slice B3 r.f3.length c3] 22)
    have HX3 := znM (zan w2 (.cells #[.slice B1 r.f1.length c1, .slice B2 r.f2.length c2, .slice B3 r.f3.length c3] 22))
    have HB3 := znM (zad HB2.out HB2.out.size hb3)
    have HA3 := znM (HA2.out.below hb3)
    have HG3 := znM (HG2.out.below hb3)
    have HK3 := znM (zah HK2.out hb3)
    have j1 : w2.cell? ⟨w.heap.size, 1, none⟩ = some (.slice B1 r.f1.length c1) := (zab HK2.out 1).trans rfl
    have j3 : w2.cell? ⟨w.heap.size, 3, none⟩ = some (.slice B3 r.f3.length c3) := (zab HK2.out 3).trans rfl
    clear hb2 hb3
    go_upto_block 0 with fail
    generalize hg2 : w2.heap.size = g at HX3 |-
    generalize w2.alloc (.cells #[.slice B1 r.f1.length c1, .slice B2 r.f2.length c2, .slice B3 r.f3.length c3] 22) = w3 at HX3 HB3 HA3 HG3 HK3 |-
    clear hg2 j1 j2 j3 k0
    go_wp2_with fail
    go_loopg [4, 22] 3 (fun gg _ s22 wr => ∃ kk : Nat, kk <= 3 /\ 3 - kk <= gg /\ s22 = .int .i64 kk /\ Aside0 ((0 < kk -> q1 = true) /\ (1 < kk -> q2 = true) /\ (2 < kk -> q3 = true)) /\ Aside0 (Below w3.heap.size w3 wr))
    case atStart => exact ⟨0, by omega, by omega, rfl, ⟨fun h => absurd h (by omega), fun h => absurd h (by omega), fun h => absurd h (by omega)⟩, ⟨Below.refl _ _⟩⟩
    case round =>
     obtain ⟨kk, hkk, hgk, rfl, HQ, HW⟩ := hrel
     have HXr := znM (zah HX3.out HW.out)
     have x0 : wr.cell? ⟨g, 0, none⟩ = some (.slice B1 r.f1.length c1) := (zab HXr.out 0).trans rfl
     have x1 : wr.cell? ⟨g, 1, none⟩ = some (.slice B2 r.f2.length c2) := (zab HXr.out 1).trans rfl
     have x2 : wr.cell? ⟨g, 2, none⟩ = some (.slice B3 r.f3.length c3) := (zab HXr.out 2).trans rfl
     have HAr := znM (HA3.out.below HW.out)
     have HGr := znM (HG3.out.below HW.out)
     have HBr := znM (zad HB3.out HB3.out.size HW.out)
     have hkc : kk = 0 \/ kk = 1 \/ kk = 2 \/ kk = 3 := by omega
     rcases hkc with rfl | rfl | rfl | rfl
     . cases q1 with
       | false =>
        go_wp2_with (first | (go_at_call 56; refine (H1.out _ HGr.out HAr.out.h1).mono ?_; rintro e w4 ⟨rfl, hb4⟩))
        go_ret
        exact ⟨by rw [HF.out]; rfl, zad HBr.out HBr.out.size hb4⟩
       | true =>
        go_wp2_with (first | (go_at_call 56; refine (H1.out _ HGr.out HAr.out.h1).mono ?_; rintro e w4 ⟨rfl, hb4⟩))
        go_roundg 2
        case measure => omega
        case rel => exact ⟨1, by omega, by omega, by first | rfl | go_num, ⟨fun _ => by trivial, fun h => absurd h (by omega), fun h => absurd h (by omega)⟩, ⟨zad HW.out HW.out.size hb4⟩⟩
     . cases q2 with
       | false =>
        have hF2 := HF.out
        go_wp2_with (first | (go_at_call 56; refine (H2.out _ HGr.out HAr.out.h2).mono ?_; rintro e w4 ⟨rfl, hb4⟩))
        go_ret
        exact ⟨by rw [HF.out]; simp, zad HBr.out HBr.out.size hb4⟩
       | true =>
        go_wp2_with (first | (go_at_call 56; refine (H2.out _ HGr.out HAr.out.h2).mono ?_; rintro e w4 ⟨rfl, hb4⟩))
        go_roundg 1
        case measure => omega
        case rel => exact ⟨2, by omega, by omega, by first | rfl | go_num, ⟨fun _ => HQ.out.1 (by omega), fun _ => by trivial, fun h => absurd h (by omega)⟩, ⟨zad HW.out HW.out.size hb4⟩⟩
     . cases q3 with
       | false =>
        go_wp2_with (first | (go_at_call 56; refine (H3.out _ HGr.out HAr.out.h3).mono ?_; rintro e w4 ⟨rfl, hb4⟩))
        go_ret
        exact ⟨by rw [HF.out]; simp, zad HBr.out HBr.out.size hb4⟩
       | true =>
        go_wp2_with (first | (go_at_call 56; refine (H3.out _ HGr.out HAr.out.h3).mono ?_; rintro e w4 ⟨rfl, hb4⟩))
        go_roundg 0
        case measure => omega
        case rel => exact ⟨3, by omega, by omega, by first | rfl | go_num, ⟨fun _ => HQ.out.1 (by omega), fun _ => HQ.out.2.1 (by omega), fun _ => by trivial⟩, ⟨zad HW.out HW.out.size hb4⟩⟩
     . have hq : (q1 && q2 && q3) = true := by rw [HQ.out.1 (by omega), HQ.out.2.1 (by omega), HQ.out.2.2 (by omega)]; rfl
       have hF3 : (true && !(decide (r.f2.length = 0)) && (q1 && q2 && q3) && !q4) = !q4 := by rw [HF.out, hq, Bool.true_and]
       have HF3 := znM hF3
       have HKr := znM (zah HK3.out HW.out)
       have i4 : wr.cell? ⟨w.heap.size, 4, none⟩ = some (.slice B4 r.f4.length c4) := (zab HKr.out 4).trans rfl
       clear hq hF3
       go_wp2_with (first | (go_at_call 96; refine (H4.out _ HGr.out HAr.out.h4).mono ?_; rintro e w4 ⟨rfl, hb4⟩))
       go_ret
       exact ⟨by rw [HF3.out]; rfl, zad HBr.out HBr.out.size hb4⟩

theorem zkX {w : World} {A : Option Addr} {l : List ByteArray} (h : Kd.C Kd.string w A l.length l) {k : Nat} (hk : k <= l.length) : Kd.C Kd.string w A k (l.take k) := by
 refine ⟨by rw [List.length_take]; omega, by have := h.2.1; omega, fun hp => ?_⟩
 obtain ⟨ad, rfl, hc⟩ := h.2.2 (by omega)
 refine ⟨ad, rfl, fun j x hx => hc j x ?_⟩
 rw [List.getElem?_take] at hx
 split at hx
 . exact hx
 . cases hx
theorem zjY (l : List ByteArray) (k : Nat) : zac (l.take k) = (zac l).take k := by unfold zac; rw [List.map_take]
theorem zmH {l : List zaa} {k : Nat} (h : k < l.length) : (l.take (k + 1)).Nodup ↔ (l.take k).Nodup /\ l[k] ∉ l.take k := by
 rw [List.take_succ_eq_append_getElem h, List.nodup_append]
 simp only [List.nodup_cons, List.not_mem_nil, not_false_eq_true, List.nodup_nil, and_self, List.mem_singleton, true_and]
 constructor
 . rintro ⟨h1, h2⟩
   exact ⟨h1, fun hm => h2 _ hm _ rfl rfl⟩
 . rintro ⟨h1, h2⟩
   exact ⟨h1, fun a ha b hb e => h2 (by rw [<- hb, <- e]; exact ha)⟩
set_option maxHeartbeats 4000000 in
set_option maxRecDepth 100000 in
theorem zfg (A : Option Addr) (c : Nat) (l : List ByteArray) (w : World) (hr : Kd.C Kd.string w A l.length l) (hc : l.length <= c) :
 Calls Tryz.prog 98 #[.slice A l.length c] w fun e w' => e = .returned (.bool (zb0 (zac l))) /\ w = w' := by
 have hlen : l.length <= 9223372036854775807 := hr.2.1
 have HR := znM hr
 obtain ⟨T, hT⟩ : ∃ T, T = zb0 (zac l) := ⟨_, rfl⟩
 rw [<- hT]
 have HT := znM hT
 clear hr hT
 go_enter Tryz.func98, Tryz.ntmps98
 go_wp2_with fail
 go_loopg [3, 4, 7] l.length (fun gg _ _ s7 wr => ∃ kk : Nat, kk <= l.length /\ l.length - kk <= gg /\ s7 = .int .i64 kk /\ Aside0 (((zac l).take kk).Nodup) /\ wr = w)
 case atStart => exact ⟨0, Nat.zero_le _, by omega, rfl, ⟨List.nodup_nil⟩, rfl⟩
 case round =>
  obtain ⟨kk, hkk, hgk, rfl, HN, rfl⟩ := hrel
  by_cases hlt : kk < l.length
  . have hltz : (kk : Int) < (l.length : Int) := by omega
    obtain ⟨b, o, rfl, p0⟩ := zbc HR.out kk hlt
    have hl2 : (l.take kk).length = kk := by rw [List.length_take]; omega
    have hct := zcQ (some ⟨b, o, none⟩) c (l.take kk) l[kk] wr (by rw [hl2]; exact zkX HR.out (by omega))
    rw [hl2, zjY] at hct
    have hnd := zmH (l := zac l) (k := kk) (by rw [za1]; exact hlt)
    rw [zcK l kk hlt] at hnd
    have hTt : ((zac l).take kk).contains l[kk].data.toList = true -> T = true := by
     intro h
     rw [HT.out]
     unfold zb0
     have : ¬ (zac l).Nodup := by
      intro hn
      have h2 : ((zac l).take (kk + 1)).Nodup := (List.take_sublist _ _).nodup hn
      exact (hnd.1 h2).2 (by simpa using h)
     simp [this]
    have hTf : ((zac l).take kk).contains l[kk].data.toList = false -> ((zac l).take (kk + 1)).Nodup := fun h => hnd.2 ⟨HN.out, by simpa using h⟩
    have HTt := znM hTt
    have HTf := znM hTf
    have hb1 : (kk : Int) <= (l.length : Int) := by omega
    have hb2 : (l.length : Int) <= (c : Int) := by omega
    have hb3 : (kk : Int) <= (c : Int) := by omega
    have hb0 : (0 : Int) <= (kk : Int) := by omega
    generalize ((zac l).take kk).contains l[kk].data.toList = q at hct HTt HTf
    generalize l[kk] = y at p0 hct
    have HCt := znM hct
    clear hnd hTt hTf hct hl2
    cases q with
    | true =>
     have HF : Hid (T = true) := znM (HTt.out (by trivial))
     go_wp2_with (first | (go_at_call 92; refine HCt.out.mono ?_; rintro e w2 ⟨rfl, rfl⟩))
     go_ret
     exact ⟨by rw [HF.out]; rfl, rfl⟩
    | false =>
     have HF := znM (HTf.out (by trivial))
     go_wp2_with (first | (go_at_call 92; refine HCt.out.mono ?_; rintro e w2 ⟨rfl, rfl⟩))
     go_roundg (l.length - (kk + 1))
     case measure => omega
     case rel => exact ⟨kk + 1, by omega, by omega, by first | rfl | go_num, ⟨HF.out⟩, rfl⟩
  . have hltz : ¬ (kk : Int) < (l.length : Int) := by omega
    obtain rfl : kk = l.length := by omega
    have hF : T = false := by
     rw [HT.out]
     unfold zb0
     have h := HN.out
     rw [List.take_of_length_le (by rw [za1]; exact Nat.le_refl _)] at h
     simp [h]
    have HF := znM hF
    clear hF
    go_wp2_with fail
    go_ret
    exact ⟨by rw [HF.out]; rfl, rfl⟩

structure CapR (r : zai) (c1 c2 c3 c4 : Nat) : Prop where
 l1 : r.f1.length <= c1
 l2 : r.f2.length <= c2
 l3 : r.f3.length <= c3
 l4 : r.f4.length <= c4
theorem zm9 : ∀ args w, (callFunc 100 args).run Tryz.prog w = .ok (.enter 100 args) w := Go.Proofs.enters_of Tryz.func100 (by kernel_rfl) rfl
theorem zkP : ∀ args w, (callFunc 101 args).run Tryz.prog w = .ok (.enter 101 args) w := Go.Proofs.enters_of Tryz.func101 (by kernel_rfl) rfl
set_option maxHeartbeats 1000000 in
theorem znK (K : Nat) (A : Option Addr) (c : Nat) (l : List ByteArray) (x : ByteArray) (w : World) (hk : w.cell? ⟨K, 0, none⟩ = some (.slice A l.length c)) (hr : Kd.C Kd.string w A l.length l) :
 Calls Tryz.prog 100 #[.string x, .pointer (some ⟨K, 0, none⟩)] w fun e w' => e = .returned (.bool (!(zac l).contains x.data.toList)) /\ w = w' := by
 have hC := zcQ A c l x w hr
 generalize (zac l).contains x.data.toList = q at hC |-
 have HC := znM hC
 clear hC hr
 go_enter Tryz.func100, Tryz.ntmps100
 go_wp2_with (first | (go_at_call 92; refine HC.out.mono ?_; rintro e w2 ⟨rfl, rfl⟩))
 go_ret
 exact ⟨rfl, rfl⟩
set_option maxHeartbeats 1000000 in
theorem zlh (K : Nat) (A : Option Addr) (c : Nat) (l : List ByteArray) (x : ByteArray) (w : World) (hk : w.cell? ⟨K, 1, none⟩ = some (.slice A l.length c)) (hr : Kd.C Kd.string w A l.length l) :
 Calls Tryz.prog 101 #[.string x, .pointer (some ⟨K, 0, none⟩)] w fun e w' => e = .returned (.bool ((zac l).contains x.data.toList)) /\ w = w' := by
 have hC := zcQ A c l x w hr
 generalize (zac l).contains x.data.toList = q at hC |-
 have HC := znM hC
 clear hC hr
 go_enter Tryz.func101, Tryz.ntmps101
 go_wp2_with (first | (go_at_call 92; refine HC.out.mono ?_; rintro e w2 ⟨rfl, rfl⟩))
 go_ret
 exact ⟨rfl, rfl⟩
theorem zgv (K : Nat) (A : Option Addr) (c : Nat) (l : List ByteArray) (B : Option Addr) (d : Nat) (k : List ByteArray) (w : World) (hk : w.cell? ⟨K, 0, none⟩ = some (.slice A l.length c)) (hr : Kd.C Kd.string w A l.length l) (hx : Kd.C Kd.string w B k.length k) :
 Calls Tryz.prog 56 #[.slice B k.length d, .func (.func 100) #[] #[.pointer (some ⟨K, 0, none⟩)]] w fun e w' => e = .returned (.bool ((zac k).any fun a => !(zac l).contains a)) /\ Below w.heap.size w w' := by
 have h := zdG 100 #[.pointer (some ⟨K, 0, none⟩)] zm9 (fun x => !(zac l).contains x.data.toList) B d k w hx (fun W x hW => (znK K A c l x W (zaf hW hk) (Kd.C_below hr hW)).mono fun e w' ⟨he, hw⟩ => ⟨he, by rw [<- hw]; exact Below.refl _ _⟩)
 have e : k.any (fun x => !(zac l).contains x.data.toList) = (zac k).any fun a => !(zac l).contains a := by
  conv => rhs; unfold zac
  rw [List.any_map]
  rfl
 rw [e] at h
 exact h
theorem zlG (K : Nat) (A : Option Addr) (c : Nat) (l : List ByteArray) (B : Option Addr) (d : Nat) (k : List ByteArray) (w : World) (hk : w.cell? ⟨K, 1, none⟩ = some (.slice A l.length c)) (hr : Kd.C Kd.string w A l.length l) (hx : Kd.C Kd.string w B k.length k) :
 Calls Tryz.prog 56 #[.slice B k.length d, .func (.func 101) #[] #[.pointer (some ⟨K, 0, none⟩)]] w fun e w' => e = .returned (.bool ((zac k).any fun a => (zac l).contains a)) /\ Below w.heap.size w w' := by
 have h := zdG 101 #[.pointer (some ⟨K, 0, none⟩)] zkP (fun x => (zac l).contains x.data.toList) B d k w hx (fun W x hW => (zlh K A c l x W (zaf hW hk) (Kd.C_below hr hW)).mono fun e w' ⟨he, hw⟩ => ⟨he, by rw [<- hw]; exact Below.refl _ _⟩)
 have e : k.any (fun x => (zac l).contains x.data.toList) = (zac k).any fun a => (zac l).contains a := by
  conv => rhs; unfold zac
  rw [List.any_map]
  rfl
 rw [e] at h
 exact h
def endP (outs : List zaa) : Option (List zaa) -> Bool
 | none => false
 | some known => !(outs.any fun o => !known.contains o)
theorem zkR (L : List zb8) (known : List zaa) (k : Nat) (h : k < L.length) : zcs (L.drop k) known = if known.contains L[k].out || L[k].args.any (fun a => !known.contains a) then none else zcs (L.drop (k + 1)) (known ++ [L[k].out]) := by
 rw [List.drop_eq_getElem_cons h]
 rfl
set_option maxHeartbeats 8000000 in
set_option maxRecDepth 100000 in
theorem zmw (r : zai) (B1 : Option Addr) (c1 : Nat) (B2 : Option Addr) (c2 : Nat) (B3 : Option Addr) (c3 : Nat) (B4 : Option Addr) (c4 : Nat) (w : World) (hA : RuleAt r B1 B2 B3 B4 w) (hC : CapR r c1 c2 c3 c4) (hl : r.f4.length <= 1000) (hl1 : r.f1.length <= 1000) :
 Calls Tryz.prog 70 #[.agg (zao r B1 c1 B2 c2 B3 c3 B4 c4)] w fun e w' => e = .returned (.bool (zdj (zcc r))) /\ Below w.heap.size w w' := by
 have hW := (Below.refl w.heap.size w).alloc (Nat.le_refl _) (.cells (zao r B1 c1 B2 c2 B3 c3 B4 c4) 45)
 have HK := znM (zan w (.cells (zao r B1 c1 B2 c2 B3 c3 B4 c4) 45))
 have HB := znM hW
 have HA := znM (hA.below hW)
 have hT : zdj (zcc r) = (!(zb0 (zac r.f1) || zb0 (zac r.f2) || zb0 (zac r.f3) || (zac r.f3).contains r.f0.data.toList) && !((zac r.f2).any fun a => (zac r.f1).contains a) && endP (zac r.f2) (zcs (r.f4.map zaM) (zac r.f1))) := rfl
 have H1 := znM (fun W (h : Kd.C Kd.string W B1 r.f1.length r.f1) => zfg B1 c1 r.f1 W h hC.l1)
 have H2 := znM (fun W (h : Kd.C Kd.string W B2 r.f2.length r.f2) => zfg B2 c2 r.f2 W h hC.l2)
 have H3 := znM (fun W (h : Kd.C Kd.string W B3 r.f3.length r.f3) => zfg B3 c3 r.f3 W h hC.l3)
 have H4 := znM (fun W (h : Kd.C Kd.string W B3 r.f3.length r.f3) => zcQ B3 c3 r.f3 r.f0 W h)
 obtain ⟨T, hT0⟩ : ∃ T, T = zdj (zcc r) := ⟨_, rfl⟩
 rw [<- hT0]
 rw [<- hT0] at hT
 generalize zb0 (zac r.f1) = q1 at H1 hT
 generalize zb0 (zac r.f2) = q2 at H2 hT
 generalize zb0 (zac r.f3) = q3 at H3 hT
 generalize (zac r.f3).contains r.f0.data.toList = q4 at H4 hT
 have HT := znM hT
 clear hW hA hT hT0
 unfold zao at *
 go_enter Tryz.func70, Tryz.ntmps70
 go_upto_if 26 with fail
 generalize w.alloc (.cells #[.string r.f0, .slice B1 r.f1.length c1, .slice B2 r.f2.length c2, .slice B3 r.f3.length c3, .slice B4 r.f4.length c4] 45) = w1 at HB HK HA |-
 have k0 : w1.cell? ⟨w.heap.size, 0, none⟩ = some (.string r.f0) := (zab HK.out 0).trans rfl
 have k1 : w1.cell? ⟨w.heap.size, 1, none⟩ = some (.slice B1 r.f1.length c1) := (zab HK.out 1).trans rfl
 have k2 : w1.cell? ⟨w.heap.size, 2, none⟩ = some (.slice B2 r.f2.length c2) := (zab HK.out 2).trans rfl
 have k3 : w1.cell? ⟨w.heap.size, 3, none⟩ = some (.slice B3 r.f3.length c3) := (zab HK.out 3).trans rfl
 have k4 : w1.cell? ⟨w.heap.size, 4, none⟩ = some (.slice B4 r.f4.length c4) := (zab HK.out 4).trans rfl
 have h1 := H1.out w1 HA.out.h1
 have h2 := H2.out w1 HA.out.h2
 have h3 := H3.out w1 HA.out.h3
 have h4 := H4.out w1 HA.out.h3
 have J1 := znM h1
 have J2 := znM h2
 have J3 := znM h3
 have J4 := znM h4
 clear h1 h2 h3 h4
 by_cases hq : (q1 || q2 || q3 || q4) = true
 . have HF : Hid (T = false) := by show _ = _; rw [HT.out, hq]; rfl
   clear HT
   cases q1 with
   | true =>
    clear hq
    go_wp2_with (first
     | (go_at_call 98; first | ((with_reducible refine J1.out.mono ?_); rintro e w2 ⟨rfl, rfl⟩) | ((with_reducible refine J2.out.mono ?_); rintro e w2 ⟨rfl, rfl⟩) | ((with_reducible refine J3.out.mono ?_); rintro e w2 ⟨rfl, rfl⟩))
     | (go_at_call 92; refine J4.out.mono ?_; rintro e w2 ⟨rfl, rfl⟩))
    go_ret
    exact ⟨by rw [HF.out]; rfl, HB.out⟩
   | false =>
    cases q2 with
    | true =>
     clear hq
     go_wp2_with (first
      | (go_at_call 98; first | ((with_reducible refine J1.out.mono ?_); rintro e w2 ⟨rfl, rfl⟩) | ((with_reducible refine J2.out.mono ?_); rintro e w2 ⟨rfl, rfl⟩) | ((with_reducible refine J3.out.mono ?_); rintro e w2 ⟨rfl, rfl⟩))
      | (go_at_call 92; refine J4.out.mono ?_; rintro e w2 ⟨rfl, rfl⟩))
     go_ret
     exact ⟨by rw [HF.out]; rfl, HB.out⟩
    | false =>
     cases q3 with
     | true =>
      clear hq
      go_wp2_with (first
       | (go_at_call 98; first | ((with_reducible refine J1.out.mono ?_); rintro e w2 ⟨rfl, rfl⟩) | ((with_reducible refine J2.out.mono ?_); rintro e w2 ⟨rfl, rfl⟩) | ((with_reducible refine J3.out.mono ?_); rintro e w2 ⟨rfl, rfl⟩))
       | (go_at_call 92; refine J4.out.mono ?_; rintro e w2 ⟨rfl, rfl⟩))
      go_ret
      exact ⟨by rw [HF.out]; rfl, HB.out⟩
     | false =>
      cases q4 with
      | true =>
       clear hq
       go_wp2_with (first
        | (go_at_call 98; first | ((with_reducible refine J1.out.mono ?_); rintro e w2 ⟨rfl, rfl⟩) | ((with_reducible refine J2.out.mono ?_); rintro e w2 ⟨rfl, rfl⟩) | ((with_reducible refine J3.out.mono ?_); rintro e w2 ⟨rfl, rfl⟩))
        | (go_at_call 92; refine J4.out.mono ?_; rintro e w2 ⟨rfl, rfl⟩))
       go_ret
       exact ⟨by rw [HF.out]; rfl, HB.out⟩
      | false => exact absurd hq (by decide)
 . have hq1 : q1 = false := by cases q1 with | false => rfl | true => exact absurd rfl hq
   subst hq1
   have hq2 : q2 = false := by cases q2 with | false => rfl | true => exact absurd rfl hq
   subst hq2
   have hq3 : q3 = false := by cases q3 with | false => rfl | true => exact absurd rfl hq
   subst hq3
   have hq4 : q4 = false := by cases q4 with | false => rfl | true => exact absurd rfl hq
   subst hq4
   clear hq
   go_upto_region 3 with (first
    | (go_at_call 98; first | ((with_reducible refine J1.out.mono ?_); rintro e w2 ⟨rfl, rfl⟩) | ((with_reducible refine J2.out.mono ?_); rintro e w2 ⟨rfl, rfl⟩) | ((with_reducible refine J3.out.mono ?_); rintro e w2 ⟨rfl, rfl⟩))
    | (go_at_call 92; refine J4.out.mono ?_; rintro e w2 ⟨rfl, rfl⟩))
   have hcl := zcW B1 c1 r.f1 w1 HA.out.h1 (by omega)
   go_upto_region 4 with (first | (go_at_call 99; refine hcl.mono ?_; rintro e w2 ⟨v, rfl, hown, hb2⟩; obtain ⟨A2, n2, rfl, hc2, _⟩ := Kd.R_reads (Kd.R_of_own (h1 := fun _ => rfl) (ok := fun _ => True) hown (fun _ _ => trivial)); have HO2 : Hid (RS w2 w1.heap.size (.slice A2 r.f1.length n2) r.f1) := znM (Kd.R_of_own (h1 := fun _ => rfl) hown (fun _ _ => trivial)); have HB2 := znM hb2; clear hown hb2 hc2))
   clear hcl
   have hb3 := (Below.refl w2.heap.size w2).alloc (Nat.le_refl _) (.cells #[.slice A2 r.f1.length n2] 22)
   have HX3 := znM (zan w2 (.cells #[.slice A2 r.f1.length n2] 22))
   have HB3 := znM (zad HB2.out HB2.out.size hb3)
   have HO3 := znM (Kd.R_below HO2.out hb3)
   have HKw := znM HB2.out.size
   clear hb3 HO2
   generalize hK : w2.heap.size = K at HX3 HKw |-
   generalize w2.alloc (.cells #[.slice A2 r.f1.length n2] 22) = w3 at HX3 HB3 HO3 |-
   clear hK
   have l2 := zaf HB3.out k2
   have l1 := zaf HB3.out k1
   have HAi := znM (zlG w.heap.size B1 c1 r.f1 B2 c2 r.f2 w3 l1 (HA.out.below HB3.out).h1 (HA.out.below HB3.out).h2)
   have hT := HT.out
   generalize ((zac r.f2).any fun a => (zac r.f1).contains a) = q5 at HAi hT
   have HT5 := znM hT
   clear hT HT
   cases q5 with
   | true =>
    have HF : Hid (T = false) := by show _ = _; rw [HT5.out]; rfl
    go_wp2_with (first | (go_at_call 56; refine HAi.out.mono ?_; rintro e w4 ⟨rfl, hb4⟩; have HB4 := znM (zad HB3.out HB3.out.size hb4); clear hb4))
    go_ret
    exact ⟨by rw [HF.out]; rfl, HB.out.trans (HB4.out.mono HB.out.size)⟩
   | false =>
    obtain ⟨wp, hwp⟩ : ∃ wp, wp = zcs (r.f4.map zaM) (zac r.f1) := ⟨_, rfl⟩
    have hT := HT5.out
    rw [<- hwp] at hT
    have HT6 : Hid (T = endP (zac r.f2) wp) := znM (by rw [hT]; rfl)
    have HWp := znM hwp
    clear hT hwp HT5
    go_upto_region 7 with (first | (go_at_call 56; refine HAi.out.mono ?_; rintro e w4 ⟨rfl, hb4⟩; have HX4 := znM (zah HX3.out hb4); have HO4 := znM (Kd.R_below HO3.out hb4); have HB4 := znM (zad HB3.out HB3.out.size hb4); clear hb4))
    have m4 := zaf HB4.out k4
    go_wp2_with fail
    go_loopg [6, 38] r.f4.length (fun gg _ s38 wr => ∃ (kk : Nat) (X : Option Addr) (n : Nat), kk <= r.f4.length /\ r.f4.length - kk <= gg /\ s38 = .int .i64 kk /\ Aside0 (wr.heap[K]? = some (.cells #[.slice X (r.f1 ++ (r.f4.take kk).map (·.f0)).length n] 22 (0, 0))) /\ Aside0 (RS wr w1.heap.size (.slice X (r.f1 ++ (r.f4.take kk).map (·.f0)).length n) (r.f1 ++ (r.f4.take kk).map (·.f0))) /\ Aside0 (zcs ((r.f4.map zaM).drop kk) (zac (r.f1 ++ (r.f4.take kk).map (·.f0))) = wp) /\ Aside0 (Below w1.heap.size w1 wr))
    case atStart =>
     refine ⟨0, A2, n2, Nat.zero_le _, by omega, rfl, ⟨?_⟩, ⟨?_⟩, ⟨?_⟩, ⟨HB4.out⟩⟩
     . rw [List.take_zero, List.map_nil, List.append_nil]; exact HX4.out
     . rw [List.take_zero, List.map_nil, List.append_nil]; exact HO4.out
     . rw [List.take_zero, List.map_nil, List.append_nil, List.drop_zero]; exact HWp.out.symm
    case round =>
     obtain ⟨kk, X, n, hkk, hgk, rfl, HXr, HOr, HWr, HBr⟩ := hrel
     obtain ⟨wq, rfl⟩ : ∃ wq, wq = wr := ⟨wr, rfl⟩
     by_cases hlt : kk < r.f4.length
     . have hltz : (kk : Int) < (r.f4.length : Int) := by omega
       obtain ⟨b, o, C2, d2, C3, d3, rfl, p0, p1, p2, p3, p4, g2, g3⟩ := zc7 HA.out.h4 kk hlt
       replace p0 := zaf HBr.out p0
       replace p1 := zaf HBr.out p1
       replace p2 := zaf HBr.out p2
       replace p3 := zaf HBr.out p3
       replace p4 := zaf HBr.out p4
       have hdr := zkR (r.f4.map zaM) (zac (r.f1 ++ (r.f4.take kk).map (·.f0))) kk (by rw [List.length_map]; exact hlt)
       rw [HWr.out, List.getElem_map] at hdr
       have hsn : r.f1 ++ (r.f4.take (kk + 1)).map (·.f0) = (r.f1 ++ (r.f4.take kk).map (·.f0)) ++ [r.f4[kk].f0] := by rw [List.take_succ_eq_append_getElem hlt, List.map_append, List.append_assoc]; rfl
       have hln : (r.f1 ++ (r.f4.take kk).map (·.f0)).length <= 2000 := by rw [List.length_append, List.length_map, List.length_take]; omega
       have HSn := znM hsn
       have HLn := znM hln
       generalize r.f1 ++ (r.f4.take kk).map (·.f0) = kn at HXr HOr hdr HSn HLn
       generalize hx : r.f4[kk] = x at p0 p1 p2 p3 p4 g2 g3 hdr HSn
       have HDr : Hid (wp = if (zac kn).contains x.f0.data.toList || (zac x.f2).any (fun a => !(zac kn).contains a) then none else zcs ((r.f4.map zaM).drop (kk + 1)) (zac kn ++ [x.f0.data.toList])) := znM hdr
       clear hx hdr hsn hln
       have hb5 := (Below.refl wq.heap.size wq).alloc (Nat.le_refl _) (.cells #[.string x.f0, .int .i64 x.f1, .slice C2 x.f2.length d2, .slice C3 x.f3.length d3, .int .i64 x.f4] 24)
       have HY5 := znM (zan wq (.cells #[.string x.f0, .int .i64 x.f1, .slice C2 x.f2.length d2, .slice C3 x.f3.length d3, .int .i64 x.f4] 24))
       have HB5 := znM (zad HBr.out HBr.out.size hb5)
       have HX5 := znM (zah HXr.out hb5)
       have HO5 := znM (Kd.R_below HOr.out hb5)
       have HG2 := znM g2
       clear g2 g3 hb5
       have m4q := zaf HBr.out k4
       go_upto_region 10 with fail
       generalize wq.alloc (.cells #[.string x.f0, .int .i64 x.f1, .slice C2 x.f2.length d2, .slice C3 x.f3.length d3, .int .i64 x.f4] 24) = w5 at HY5 HB5 HX5 HO5 |-
       have y0 : w5.cell? ⟨wq.heap.size, 0, none⟩ = some (.string x.f0) := (zab HY5.out 0).trans rfl
       have y2 : w5.cell? ⟨wq.heap.size, 2, none⟩ = some (.slice C2 x.f2.length d2) := (zab HY5.out 2).trans rfl
       have kK : w5.cell? ⟨K, 0, none⟩ = some (.slice X kn.length n) := (zab HX5.out 0).trans rfl
       have hCkn : Kd.C Kd.string w5 X kn.length kn := by
        obtain ⟨X', n', he, _, hC⟩ := Kd.R_reads HO5.out
        cases he
        exact hC
       have HCt := znM (zcQ X n kn x.f0 w5 hCkn)
       have HSt := znM (zgv K X n kn C2 d2 x.f2 w5 kK hCkn (Kd.C_below HG2.out HB5.out))
       have hDr := HDr.out
       generalize (zac kn).contains x.f0.data.toList = q6 at HCt hDr
       generalize (zac x.f2).any (fun a => !(zac kn).contains a) = q7 at HSt hDr
       have HDr2 := znM hDr
       clear hDr HDr hCkn
       cases q6 with
       | true =>
        have HF : Hid (T = false) := by show _ = _; rw [HT6.out, HDr2.out]; rfl
        go_wp2_with (first | (go_at_call 92; refine HCt.out.mono ?_; rintro e w6 ⟨rfl, rfl⟩))
        go_ret
        exact ⟨by rw [HF.out]; rfl, HB.out.trans (HB5.out.mono HB.out.size)⟩
       | false =>
        cases q7 with
        | true =>
         have HF : Hid (T = false) := by show _ = _; rw [HT6.out, HDr2.out]; rfl
         go_wp2_with (first | (go_at_call 92; refine HCt.out.mono ?_; rintro e w6 ⟨rfl, rfl⟩) | (go_at_call 56; refine HSt.out.mono ?_; rintro e w6 ⟨rfl, hb6⟩; have HB6 := znM (zad HB5.out HB5.out.size hb6); clear hb6))
         go_ret
         exact ⟨by rw [HF.out]; rfl, HB.out.trans (HB6.out.mono HB.out.size)⟩
        | false =>
         have HWn : Hid (zcs ((r.f4.map zaM).drop (kk + 1)) (zac (r.f1 ++ (r.f4.take (kk + 1)).map (·.f0))) = wp) := by
          show _ = _
          rw [HSn.out, HDr2.out]
          unfold zac
          rw [List.map_append]
          rfl
         go_upto_region 12 with (first | (go_at_call 92; refine HCt.out.mono ?_; rintro e w6 ⟨rfl, rfl⟩) | (go_at_call 56; refine HSt.out.mono ?_; rintro e w6 ⟨rfl, hb6⟩; have HB6 := znM (zad HB5.out HB5.out.size hb6); have HX6 := znM (zah HX5.out hb6); have HO6 := znM (Kd.R_below HO5.out hb6); have HY6 := znM (zah HY5.out hb6); clear hb6))
         have z0 : w6.cell? ⟨wq.heap.size, 0, none⟩ = some (.string x.f0) := (zab HY6.out 0).trans rfl
         have kK6 : w6.cell? ⟨K, 0, none⟩ = some (.slice X kn.length n) := (zab HX6.out 0).trans rfl
         have hb7 := (Below.refl w6.heap.size w6).alloc (Nat.le_refl _) (.cells #[.string x.f0] 9)
         have HWs := znM HB6.out.size
         clear kK y0 y2 hb7
         go_wp2_with (first | ((with_reducible refine zaO (b := .append) (xs := #[.tmp 52, .tmp 55]) rfl ?_); at_builtin; refine Kd.R_append Kd.string (w0 := w1) w1.heap.size rfl (.tmp 52) (.tmp 55) 22 9 (.string ⟨#[]⟩) 16 rfl Tryz.underlying22 zcg rfl (by decide) (by decide) (.slice X kn.length n) kn x.f0 [.string x.f0] (fun _ => True) (fun k_ => True /\ some k_ ≠ (Value.slice X kn.length n).ownBlock) rfl rfl rfl (fun _ hk => hk) (fun _ _ => trivial) HO6.out HB6.out HWs.out ?aL ?_; (case aL => (have h1 := HLn.out; omega)); intro v1 w8 ho hb hg hat; obtain ⟨X8, n8, rfl, _, _⟩ := Kd.R_reads ho; obtain ⟨ln, hln⟩ : ∃ ln, ln = (kn ++ [x.f0]).length := ⟨_, rfl⟩; rw [<- hln] at ho |-; have HLn2 : Hid (ln = (r.f1 ++ (r.f4.take (kk + 1)).map (·.f0)).length) := (by show _ = _; rw [HSn.out]; exact hln); have HO8 : Hid (RS w8 w1.heap.size (.slice X8 ln n8) (r.f1 ++ (r.f4.take (kk + 1)).map (·.f0))) := (by show RS _ _ _ _; rw [HSn.out]; exact ho); have HB8 := znM hb; have HX8 := znM (zaK HX6.out hg (Kd.R_ne HO6.out HX6.out (by decide))); have f8 := zag HX8.out 0; have k8 : w8.cell? ⟨K, 0, none⟩ = some (.slice X kn.length n) := (zab HX8.out 0).trans rfl; clear ho hb hg hat hln))
         have HX9 : Hid ((w8.setCell ⟨K, 0, none⟩ (.slice X8 ln n8)).heap[K]? = some (.cells #[.slice X8 ln n8] 22 (0, 0))) := znM (zap HX8.out 0 _ rfl)
         have HO9 := znM (Kd.R_set HO8.out HX8.out (by decide) 0 (.slice X8 ln n8))
         have HB9 := znM (HB8.out.setCell (p := ⟨K, 0, none⟩) HKw.out (.slice X8 ln n8))
         generalize w8.setCell ⟨K, 0, none⟩ (.slice X8 ln n8) = w9 at HX9 HO9 HB9 |-
         go_roundg (r.f4.length - (kk + 1))
         case measure => omega
         case rel => exact ⟨kk + 1, X8, n8, by omega, by omega, by first | rfl | go_num, ⟨by rw [<- HLn2.out]; exact HX9.out⟩, ⟨by rw [<- HLn2.out]; exact HO9.out⟩, ⟨HWn.out⟩, ⟨HB9.out⟩⟩
     . have hltz : ¬ (kk : Int) < (r.f4.length : Int) := by omega
       obtain rfl : kk = r.f4.length := by omega
       have hW := HWr.out
       rw [List.drop_eq_nil_of_le (by rw [List.length_map]; exact Nat.le_refl _)] at hW
       generalize r.f1 ++ (r.f4.take r.f4.length).map (·.f0) = kn at HXr HOr hW
       have hT := HT6.out
       rw [<- hW] at hT
       have hT' : T = !((zac r.f2).any fun o => !(zac kn).contains o) := hT
       have kK : wq.cell? ⟨K, 0, none⟩ = some (.slice X kn.length n) := (zab HXr.out 0).trans rfl
       have hCkn : Kd.C Kd.string wq X kn.length kn := by
        obtain ⟨X', n', he, _, hC⟩ := Kd.R_reads HOr.out
        cases he
        exact hC
       have HSt := znM (zgv K X n kn B2 c2 r.f2 wq kK hCkn (HA.out.below HBr.out).h2)
       generalize ((zac r.f2).any fun o => !(zac kn).contains o) = q8 at HSt hT'
       have HT8 := znM hT'
       have i2 := zaf HBr.out k2
       clear hT hT' hW hCkn
       go_wp2_with (first | (go_at_call 56; refine HSt.out.mono ?_; rintro e w6 ⟨rfl, hb6⟩; have HB6 := znM (zad HBr.out HBr.out.size hb6); clear hb6))
       go_ret
       exact ⟨by rw [HT8.out]; rfl, HB.out.trans (HB6.out.mono HB.out.size)⟩

end Go.Proofs.YtdpgdnpddndeoaaGreatDoor.X
