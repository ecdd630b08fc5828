/-
  What the cards lean on (part Y6): contracts of functions, by hand, and plain laws; what is printed by the kit's print for this seat is among them. What is not reached is left out.
-/
import Derived.Test.YtdpgdnpddndeoaaGreatDoorY5
import Derived.Test.YtdpgdnpddndeoaaGreatDoorY4
set_option maxHeartbeats 8000000
set_option maxRecDepth 100000
set_option linter.unusedSimpArgs false
open Go.RowKit.Below renaming refl -> zno
open Nat renaming le_refl -> znp, le_trans -> znv, le_of_lt -> zom, ne_of_lt -> zon, add_le_add_right -> zor
open Go.Lib renaming size_eq -> znY
open Option renaming map_eq_some_iff -> znu
open List renaming length_append -> znC, length_singleton -> znD, length_drop -> znJ, drop_zero -> zoo, length_cons -> zn5, nil_append -> zop, append_nil -> zoq, length_pos_iff -> zol, drop_succ_cons -> zos

namespace Go.Proofs.YtdpgdnpddndeoaaGreatDoor.X
open Go.RowKit Go.Maps Go.Proofs.YtdpgdnpddndeoaaGreatDoorW.PrintWords Go.Proofs.YtdpgdnpddndeoaaGreatDoorW.PrintMore Go.Proofs.YtdpgdnpddndeoaaGreatDoorW.PrintLast
abbrev zcS : ByteArray := ⟨#[114, 117, 108, 101]⟩
abbrev wIn : ByteArray := ⟨#[105, 110]⟩
abbrev wOut : ByteArray := ⟨#[111, 117, 116]⟩
abbrev zbH : ByteArray := ⟨#[97, 102, 116, 101, 114]⟩
abbrev zfJ : ByteArray := ⟨#[123]⟩
def zdN (a : ByteArray) (i o f : List ByteArray) (s : PS) : zai × PS := (⟨a, i, o, f, (zas (s.1.length + 1) s).1⟩, zaC 3 zaW (zas (s.1.length + 1) s).2)
def zfI (a : ByteArray) (i o : List ByteArray) (s : PS) : zai × PS := zdN a i o (ifP zbH s).1 (ifP zbH s).2
def zdz (a : ByteArray) (i : List ByteArray) (s : PS) : zai × PS := zfI a i (zbf (zaC 1 wOut s)).1 (zbf (zaC 1 wOut s)).2
def zhf (a : ByteArray) (s : PS) : zai × PS := zdz a (ifP wIn s).1 (ifP wIn s).2
abbrev RUz : Array Value := #[.string ⟨#[]⟩, .slice none 0 0, .slice none 0 0, .slice none 0 0, .slice none 0 0]
theorem zen (n : Nat) : InvP (fun s => mS s <= n) := by
 refine ⟨fun s h => ?_, fun s h hs _ => ?_⟩
 . unfold zbv
   split
   . next hs =>
     have h1 : mS s = s.1.length + 1 := by unfold mS; rw [if_pos hs]
     have h2 := zbL (s.1, (zaB s.1).f1); have h3 : (s.1, (zaB s.1).f1).1.length = s.1.length := rfl; omega
   . exact h
 . have h1 : mS s = s.1.length + 1 := by unfold mS; rw [if_pos hs]
   have h2 := zbL (s.1.tail, s.2); have h3 : (s.1.tail, s.2).1.length <= s.1.length := zfO _; omega
theorem zdE {s : PS} (hg : GoodW s.1) (hs : s.2 < 0) : mS (zaz s).2 < mS s := by
 have h1 := zeW hg hs; have h2 : mS (zaz s).2 <= mS (zaj s).2 := (zen _).tail _ _ ((zen _).next ((zen _).must (znp _) (by decide) _) (by decide) _)
 omega
theorem zcu : ∀ (n m : Nat) (s : PS), GoodW s.1 -> mS s <= n -> mS s <= m -> zas n s = zas m s
 | 0, 0, _, _, _, _ => rfl
 | 0, m + 1, s, hg, h, _ => by
  unfold zas; rw [if_neg (fun hc => by have := zol.2 hg.ne; unfold mS at h; omega)]
 | n + 1, 0, s, hg, _, h => by
  unfold zas; rw [if_neg (fun hc => by have := zol.2 hg.ne; unfold mS at h; omega)]
 | n + 1, m + 1, s, hg, h1, h2 => by
  unfold zas; by_cases hc : s.2 < 0 /\ atP 3 zaW s = false
  . rw [if_pos hc, if_pos hc]
    have := zdE hg hc.1; rw [zcu n m _ (inv_good.step hg) (by omega) (by omega)]
  . rw [if_neg hc, if_neg hc]
theorem zcF {α β : Type} {d : Kd α} {d' : Kd β} {e e' base base' : Nat} {v v' : Value} {xs : List α} {ys : List β} {W W1 : World} (h : d.R e W base (fun _ => True) v xs) (h' : d'.R e' W base' (fun _ => True) v' ys) (hE : ∀ q, q ∈ e :: d.E -> q ≠ e') (hg : W.grownBy W1 v'.ownBlock) : d.R e W1 base (fun _ => True) v xs := by
 refine Kd.R_mono (Kd.R_grown (Kd.R_bound h) hg (fun k hk he => ?_)) (fun _ _ => trivial)
 obtain ⟨_, _, _, q, hq, cells, hc⟩ := hk; obtain ⟨inner, ho⟩ := Kd.R_own h'; obtain ⟨cells', hc'⟩ := zdr ho k he.symm; rw [hc] at hc'; injection hc' with h1; injection h1 with _ h1; exact hE q hq h1

theorem zmJ (g : Nat) (s : PS) (w : World) (h : PAR w g s) :
 Calls Tryz.prog 141 #[.pointer (some ⟨g, 0, none⟩)] w fun e w' => ∃ v1 v2 v3 v4, e = .returned (.agg #[.string (za8 s).1.f0, v1, v2, v3, v4]) /\
  RS w' w.heap.size v1 (za8 s).1.f1 /\ RS w' w.heap.size v2 (za8 s).1.f2 /\ RS w' w.heap.size v3 (za8 s).1.f3 /\ Kd.R k24 24 w' w.heap.size (fun _ => True) v4 (za8 s).1.f4 /\ PAR w' g (za8 s).2 /\ w.grownBy w' (some g) := by
 have hF0 := (Fly.start h).alloc (.cells RUz 45); have hlt := h.has.lt; have HL := znl hlt; have HT : Hid (za8 s = zhf (zaj (zaC 1 zcS s)).1 (zaC 3 zfJ (zaj (zaC 1 zcS s)).2)) := rfl; have HF0 := znl hF0; have HR0 : Hid ((w.alloc (.cells RUz 45)).heap[w.heap.size]? = some (.cells RUz 45 (0, 0))) := zao w _; clear hF0 hlt h; go_enter Tryz.func141, Tryz.ntmps141
 go_wp2_with fail; refine (zbg g 1 (by decide) zcS s _ HF0.out.par).mono ?_
 rintro e w1 ⟨rfl, hp1, hg1⟩; generalize zaC 1 zcS s = s1 at HT hp1; have HR1 := znl (HF0.out.keeps (znp _) HR0.out hg1); have HF1 := znl (HF0.out.call hp1 hg1); clear hp1 hg1 HF0 HR0; go_wp2_with fail; refine (zct g s1 w1 HF1.out.par).mono ?_; rintro e w2 ⟨rfl, hp2, hg2⟩; generalize (zaj s1).1 = a at HT |-; generalize (zaj s1).2 = s2 at HT hp2; have HR2 := znl (HF1.out.keeps (znp _) HR1.out hg2); have HF2 := znl (HF1.out.call hp2 hg2); have hS : w.heap.size < w2.heap.size := za1 HR2.out; clear hp2 hg2 HF1 HR1; have HF3 := znl (HF2.out.alloc (.cells #[.string a, .slice none 0 0, .slice none 0 0, .slice none 0 0, .slice none 0 0] 45)); have HR3 := znl (zav HR2.out (.cells #[.string a, .slice none 0 0, .slice none 0 0, .slice none 0 0, .slice none 0 0] 45)); have HS3 := znl (zao w2 (.cells #[.string a, .slice none 0 0, .slice none 0 0, .slice none 0 0, .slice none 0 0] 45)); go_wp2_with fail; generalize w2.alloc (.cells #[.string a, .slice none 0 0, .slice none 0 0, .slice none 0 0, .slice none 0 0] 45) = w3 at HF3 HR3 HS3 |-; generalize w2.heap.size = S at HS3 hS |-; clear HF2 HR2; refine (zbg g 3 (by decide) zfJ s2 w3 HF3.out.par).mono ?_
 rintro e w6 ⟨rfl, hp6, hg6⟩; generalize zaC 3 zfJ s2 = s4 at HT hp6; have HF6 := znl (HF3.out.call hp6 hg6); have HR6 := znl (HF3.out.keeps (znp _) HR3.out hg6); have HS6 := znl (HF3.out.keeps (zom hS) HS3.out hg6); clear hp6 hg6 HF3 HR3 HS3; go_wp2_with fail; unfold zhf at HT; have hTk := zek g 1 (by decide) wIn s4 w6 HF6.out.par
 by_cases hi : isP 1 wIn s4 = true
 . have htk : zaU 1 wIn s4 = (true, ((s4).1.tail, (s4).2)) := by unfold zaU; rw [if_pos hi]
   rw [hi, htk] at hTk; have hIf : ifP wIn s4 = zbf ((s4).1.tail, (s4).2) := by unfold ifP; rw [if_pos hi]
   rw [hIf] at HT; try dsimp only at HT
   clear hIf htk hi; refine hTk.mono ?_; rintro e w7 ⟨rfl, hp7, hg7⟩; clear hTk; have HF7 := znl (HF6.out.call hp7 hg7); have HR7 := znl (HF6.out.keeps (znp _) HR6.out hg7); have HS7 := znl (HF6.out.keeps (zom hS) HS6.out hg7); clear hp7 hg7 HF6 HR6 HS6; go_wp2_with fail; refine (zdp g ((s4).1.tail, (s4).2) w7 HF7.out.par).mono ?_; rintro e w8 ⟨v8, rfl, hr8, hp8, hg8⟩; generalize (zbf ((s4).1.tail, (s4).2)).1 = n1 at HT hr8; generalize (zbf ((s4).1.tail, (s4).2)).2 = q1 at HT hp8; have hr := Kd.R_lower hr8 HF7.out.grown.size; obtain ⟨A1, c1, rfl, _, _⟩ := Kd.R_reads hr; have HN1 := znl hr; clear hr hr8; have HF8 := znl (HF7.out.call hp8 hg8); have HR8 := znl (HF7.out.keeps (znp _) HR7.out hg8); have HS8 := znl (HF7.out.keeps (zom hS) HS7.out hg8); clear hp8 hg8 HF7 HR7 HS7; have hSx := HS8.out; have cx : w8.cell? ⟨S, 1, none⟩ = some (.slice none 0 0) := (zaa hSx 1).trans rfl; have fx := zag hSx 1; clear hSx; go_wp2_with fail; clear cx fx; have HF9 := znl (HF8.out.set (zom hS) HS8.out (by decide) (by decide) 1 (.slice A1 n1.length c1))
   have HR9 := znl (zaI HR8.out (p := ⟨S, 1, none⟩) (zon hS) (.slice A1 n1.length c1)); have HS9 : Hid ((w8.setCell ⟨S, 1, none⟩ (.slice A1 n1.length c1)).heap[S]? = some (.cells #[.string a, .slice A1 n1.length c1, .slice none 0 0, .slice none 0 0, .slice none 0 0] 45 (0, 0))) := zar HS8.out 1 _ rfl; have HN1_9 := znl (Kd.R_set HN1.out HS8.out (by decide) 1 (.slice A1 n1.length c1))
   clear HF8 HR8 HS8 HN1; generalize w8.setCell ⟨S, 1, none⟩ (.slice A1 n1.length c1) = w9 at HF9 HR9 HS9 HN1_9 |-; have HTo : Hid (za8 s = zdz a n1 q1) := HT.out; clear HT; unfold zdz at HTo; try dsimp only at HTo
   have HT := HTo; clear HTo; refine (zbg g 1 (by decide) wOut q1 w9 HF9.out.par).mono ?_
   rintro e w10 ⟨rfl, hp10, hg10⟩; have HF10 := znl (HF9.out.call hp10 hg10); have HR10 := znl (HF9.out.keeps (znp _) HR9.out hg10); have HS10 := znl (HF9.out.keeps (zom hS) HS9.out hg10); have HN1_10 := znl (zaw HN1_9.out hg10 HL.out); clear hp10 hg10 HF9 HR9 HS9 HN1_9; generalize zaC 1 wOut q1 = q0 at HT HF10; go_wp2_with fail; refine (zdp g q0 w10 HF10.out.par).mono ?_; rintro e w11 ⟨v11, rfl, hr11, hp11, hg11⟩; generalize (zbf q0).1 = n2 at HT hr11; generalize (zbf q0).2 = q2 at HT hp11; have hr := Kd.R_lower hr11 HF10.out.grown.size; obtain ⟨A2, c2, rfl, _, _⟩ := Kd.R_reads hr; have HN2 := znl hr; clear hr hr11; have HF11 := znl (HF10.out.call hp11 hg11); have HR11 := znl (HF10.out.keeps (znp _) HR10.out hg11); have HS11 := znl (HF10.out.keeps (zom hS) HS10.out hg11); have HN1_11 := znl (zaw HN1_10.out hg11 HL.out); clear hp11 hg11 HF10 HR10 HS10 HN1_10; have hSx := HS11.out; have cx : w11.cell? ⟨S, 2, none⟩ = some (.slice none 0 0) := (zaa hSx 2).trans rfl; have fx := zag hSx 2; clear hSx; go_wp2_with fail; clear cx fx; have HF12 := znl (HF11.out.set (zom hS) HS11.out (by decide) (by decide) 2 (.slice A2 n2.length c2))
   have HR12 := znl (zaI HR11.out (p := ⟨S, 2, none⟩) (zon hS) (.slice A2 n2.length c2)); have HS12 : Hid ((w11.setCell ⟨S, 2, none⟩ (.slice A2 n2.length c2)).heap[S]? = some (.cells #[.string a, .slice A1 n1.length c1, .slice A2 n2.length c2, .slice none 0 0, .slice none 0 0] 45 (0, 0))) := zar HS11.out 2 _ rfl; have HN1_12 := znl (Kd.R_set HN1_11.out HS11.out (by decide) 2 (.slice A2 n2.length c2))
   have HN2_12 := znl (Kd.R_set HN2.out HS11.out (by decide) 2 (.slice A2 n2.length c2))
   clear HF11 HR11 HS11 HN1_11 HN2; generalize w11.setCell ⟨S, 2, none⟩ (.slice A2 n2.length c2) = w12 at HF12 HR12 HS12 HN1_12 HN2_12 |-; unfold zfI at HT; try dsimp only at HT
   have hTk := zek g 1 (by decide) zbH q2 w12 HF12.out.par
   by_cases hi : isP 1 zbH q2 = true
   . have htk : zaU 1 zbH q2 = (true, ((q2).1.tail, (q2).2)) := by unfold zaU; rw [if_pos hi]
     rw [hi, htk] at hTk; have hIf : ifP zbH q2 = zbf ((q2).1.tail, (q2).2) := by unfold ifP; rw [if_pos hi]
     rw [hIf] at HT; try dsimp only at HT
     clear hIf htk hi; refine hTk.mono ?_; rintro e w13 ⟨rfl, hp13, hg13⟩; clear hTk; have HF13 := znl (HF12.out.call hp13 hg13); have HR13 := znl (HF12.out.keeps (znp _) HR12.out hg13); have HS13 := znl (HF12.out.keeps (zom hS) HS12.out hg13); have HN1_13 := znl (zaw HN1_12.out hg13 HL.out); have HN2_13 := znl (zaw HN2_12.out hg13 HL.out); clear hp13 hg13 HF12 HR12 HS12 HN1_12 HN2_12; go_wp2_with fail; refine (zdp g ((q2).1.tail, (q2).2) w13 HF13.out.par).mono ?_; rintro e w14 ⟨v14, rfl, hr14, hp14, hg14⟩; generalize (zbf ((q2).1.tail, (q2).2)).1 = n3 at HT hr14; generalize (zbf ((q2).1.tail, (q2).2)).2 = q3 at HT hp14; have hr := Kd.R_lower hr14 HF13.out.grown.size; obtain ⟨A3, c3, rfl, _, _⟩ := Kd.R_reads hr; have HN3 := znl hr; clear hr hr14; have HF14 := znl (HF13.out.call hp14 hg14); have HR14 := znl (HF13.out.keeps (znp _) HR13.out hg14); have HS14 := znl (HF13.out.keeps (zom hS) HS13.out hg14); have HN1_14 := znl (zaw HN1_13.out hg14 HL.out); have HN2_14 := znl (zaw HN2_13.out hg14 HL.out); clear hp14 hg14 HF13 HR13 HS13 HN1_13 HN2_13; have hSx := HS14.out; have cx : w14.cell? ⟨S, 3, none⟩ = some (.slice none 0 0) := (zaa hSx 3).trans rfl; have fx := zag hSx 3; clear hSx; go_wp2_with fail; clear cx fx; have HF15 := znl (HF14.out.set (zom hS) HS14.out (by decide) (by decide) 3 (.slice A3 n3.length c3))
     have HR15 := znl (zaI HR14.out (p := ⟨S, 3, none⟩) (zon hS) (.slice A3 n3.length c3)); have HS15 : Hid ((w14.setCell ⟨S, 3, none⟩ (.slice A3 n3.length c3)).heap[S]? = some (.cells #[.string a, .slice A1 n1.length c1, .slice A2 n2.length c2, .slice A3 n3.length c3, .slice none 0 0] 45 (0, 0))) := zar HS14.out 3 _ rfl; have HN1_15 := znl (Kd.R_set HN1_14.out HS14.out (by decide) 3 (.slice A3 n3.length c3))
     have HN2_15 := znl (Kd.R_set HN2_14.out HS14.out (by decide) 3 (.slice A3 n3.length c3))
     have HN3_15 := znl (Kd.R_set HN3.out HS14.out (by decide) 3 (.slice A3 n3.length c3))
     clear HF14 HR14 HS14 HN1_14 HN2_14 HN3; generalize w14.setCell ⟨S, 3, none⟩ (.slice A3 n3.length c3) = w15 at HF15 HR15 HS15 HN1_15 HN2_15 HN3_15 |-; unfold zdN at HT; try dsimp only at HT
     have HTA : Hid ((zas ((q3).1.length + 1) (q3)).1 = (zas (mS (q3)) (q3)).1 /\ (zas ((q3).1.length + 1) (q3)).2 = (zas (mS (q3)) (q3)).2) := by
      rw [zcu ((q3).1.length + 1) (mS (q3)) (q3) HF15.out.par.good (zbL _) (znp _)]; exact ⟨rfl, rfl⟩
     generalize (zas ((q3).1.length + 1) (q3)).1 = T1 at HT HTA; generalize (zas ((q3).1.length + 1) (q3)).2 = T2 at HT HTA; have hm4 : mS (q3) <= 100001 := znv (zbL _) (zor HF15.out.par.len 1); generalize q3 = sL at HTA hm4 HF15; go_loopg [] (mS sL) (fun gg wr => ∃ (acc : List zay) (s2 : PS) (A : Option Addr) (c : Nat), mS s2 <= gg /\ acc.length + mS s2 <= mS sL /\ Aside0 (acc ++ (zas (mS s2) s2).1 = T1 /\ (zas (mS s2) s2).2 = T2) /\
      Aside0 (Kd.R k24 24 wr w.heap.size (fun _ => True) (.slice A acc.length c) acc) /\ Aside0 (Fly w g wr s2) /\ Aside0 (wr.heap[w.heap.size]? = some (.cells RUz 45 (0, 0))) /\ Aside0 (wr.heap[S]? = some (.cells #[.string a, .slice A1 n1.length c1, .slice A2 n2.length c2, .slice A3 n3.length c3, .slice A acc.length c] 45 (0, 0))) /\ Aside0 (RS wr w.heap.size (.slice A1 n1.length c1) n1) /\ Aside0 (RS wr w.heap.size (.slice A2 n2.length c2) n2) /\ Aside0 (RS wr w.heap.size (.slice A3 n3.length c3) n3))
     case atStart => exact ⟨[], sL, none, 0, znp _, by simp, ⟨by rw [zop]; exact ⟨HTA.out.1.symm, HTA.out.2.symm⟩⟩, ⟨Kd.R_nil _ _ _ _ _⟩, ⟨HF15.out⟩, ⟨HR15.out⟩, ⟨HS15.out⟩, ⟨HN1_15.out⟩, ⟨HN2_15.out⟩, ⟨HN3_15.out⟩⟩
     case round =>
      obtain ⟨acc, s2, A, c, hgk, hal, HK, HA7, HF7, HR7, HS7, HN1_7, HN2_7, HN3_7⟩ := hrel; have hO := zcL g s2 wr HF7.out.par.has; have hIs := zdL g 3 zaW s2 wr HF7.out.par.has HF7.out.par.good.ne; by_cases hb : s2.2 < 0
      . have hbd : decide (s2.2 < 0) = true := by simpa using hb
        rw [hbd] at hO; by_cases hk : atP 3 zaW s2 = false
        . have hib : isP 3 zaW s2 = false := by unfold isP; rw [hk]; simp
          rw [hib] at hIs; have hN := fun W hW => zeo g s2 W hW
          have hmn := zdE HF7.out.par.good hb; have HKn : Hid (((acc ++ [(zaz s2).1]) ++ (zas (mS (zaz s2).2) (zaz s2).2).1 = T1 /\ (zas (mS (zaz s2).2) (zaz s2).2).2 = T2)) := by
           have hK := HK.out; obtain ⟨n, hn⟩ : ∃ n, mS s2 = n + 1 := ⟨mS s2 - 1, by omega⟩
           rw [hn, zas, if_pos ⟨hb, hk⟩, zcu n (mS (zaz s2).2) (zaz s2).2 (inv_good.step HF7.out.par.good) (by omega) (znp _)] at hK
           exact ⟨by rw [<- hK.1]; simp, hK.2⟩
          generalize (zaz s2).1 = x at HKn hN; generalize (zaz s2).2 = s3 at HKn hN hmn; have hld : wr.cell? ⟨S, 4, none⟩ = some (.slice A acc.length c) := (zaa HS7.out 4).trans rfl; have hal2 : acc.length <= 200000 := by omega
          clear hbd hb hk hib; go_wp2_with (first | (go_at_call 140; refine hO.mono ?_; rintro e w' ⟨rfl, rfl⟩) | (go_at_call 182; refine hIs.mono ?_; rintro e w' ⟨rfl, rfl⟩))
          have HFd := znl (HF7.out.below (W1 := wr.drew) ⟨rfl, rfl, rfl, znp _, fun _ _ => rfl⟩)
          have HAd : Hid (Kd.R k24 24 wr.drew w.heap.size (fun _ => True) (.slice A acc.length c) acc) := Kd.R_below HA7.out ⟨rfl, rfl, rfl, znp _, fun _ _ => rfl⟩
          have HN1_d : Hid (RS wr.drew w.heap.size (.slice A1 n1.length c1) n1) := Kd.R_below HN1_7.out ⟨rfl, rfl, rfl, znp _, fun _ _ => rfl⟩
          have HN2_d : Hid (RS wr.drew w.heap.size (.slice A2 n2.length c2) n2) := Kd.R_below HN2_7.out ⟨rfl, rfl, rfl, znp _, fun _ _ => rfl⟩
          have HN3_d : Hid (RS wr.drew w.heap.size (.slice A3 n3.length c3) n3) := Kd.R_below HN3_7.out ⟨rfl, rfl, rfl, znp _, fun _ _ => rfl⟩
          have HRd := znl (zaN HR7.out); have HSd := znl (zaN HS7.out); clear hO hIs; go_region_law (first
           | (refine Kd.R_append_step k24 (w0 := w8) w.heap.size (by rfl) (.tmp 34) (.tmp 37) 43 24 (.agg #[.string ⟨#[]⟩, .int .i64 0, .slice none 0 0, .slice none 0 0, .int .i64 0]) 80 rfl Tryz.underlying43 zdG rfl (by decide) (by decide) (.slice A acc.length c) acc x [.string x.f0, .int .i64 x.f1, .slice AX x.f2.length cX, .slice AY x.f3.length cY, .int .i64 x.f4] (fun _ => True) (fun k_ => True /\ some k_ ≠ (Value.slice A acc.length c).ownBlock) (by rfl) (by rfl) (zdR _ _ _ x HX8.out HY8.out) (fun _ hk => hk) (fun _ _ => trivial) HA8.out (zno _ _) HF8.out.grown.size ?aL ?_; (case aL => omega); intro v1 w9 ho hb hg hat; obtain ⟨AN, cN, rfl, _, _⟩ := Kd.R_reads ho; have HA9 := znl ho; have HF9 := znl (HF8.out.row (Kd.R_own HA8.out).choose_spec (by decide) (by decide) (znp _) hb hg); have HR9 := znl (zaK HR8.out hg (Kd.R_ne HA8.out HR8.out (by decide))); have HS9 := znl (zaK HS8.out hg (Kd.R_ne HA8.out HS8.out (by decide))); have HN1_9 := znl (zcF HN1_8.out HA8.out (by decide) hg); have HN2_9 := znl (zcF HN2_8.out HA8.out (by decide) hg); have HN3_9 := znl (zcF HN3_8.out HA8.out (by decide) hg); have hst : w9.cell? ⟨S, 4, none⟩ = some (.slice A acc.length c) := (zaa HS9.out 4).trans rfl; have hfr : w9.frozen? ⟨S, 4, none⟩ = false := zag HS9.out 4; clear ho hb hg hat)
           | (go_simp; go_at_call 183; refine (hN _ HFd.out.par).mono ?_; rintro e w8 ⟨vx, vy, rfl, hx, hy, hp8, hg8⟩; obtain ⟨AX, cX, rfl, _, _⟩ := Kd.R_reads hx; obtain ⟨AY, cY, rfl, _, _⟩ := Kd.R_reads hy; have HX8 := znl (Kd.R_lower (Kd.R_new hx (Kd.R_own HAd.out).choose_spec) HFd.out.grown.size); have HY8 := znl (Kd.R_lower (Kd.R_new hy (Kd.R_own HAd.out).choose_spec) HFd.out.grown.size); have HF8 := znl (HFd.out.call hp8 hg8); have HR8 := znl (HFd.out.keeps (znp _) HRd.out hg8); have HS8 := znl (HFd.out.keeps (zom hS) HSd.out hg8); have HA8 := znl (zaw HAd.out hg8 HL.out); have HN1_8 := znl (zaw HN1_d.out hg8 HL.out); have HN2_8 := znl (zaw HN2_d.out hg8 HL.out); have HN3_8 := znl (zaw HN3_d.out hg8 HL.out); have hl8 : w8.cell? ⟨S, 4, none⟩ = some (.slice A acc.length c) := (zaa HS8.out 4).trans rfl; have hl8a : ∀ ob : Obj, (w8.alloc ob).cell? ⟨S, 4, none⟩ = some (.slice A acc.length c) := fun ob => (zaa (zav HS8.out ob) 4).trans rfl; clear hx hy hp8 hg8))
          all_goals
           go_wp2; go_roundg (mS s3)
           case measure => omega
           case rel =>
            have hlen : acc.length + 1 = (acc ++ [x]).length := by simp
            simp only [hlen]; refine ⟨acc ++ [x], s3, AN, cN, znp _, ?_, ⟨HKn.out⟩, ⟨Kd.R_set HA9.out HS9.out (by decide) 4 _⟩, ⟨HF9.out.set (zom hS) HS9.out (by decide) (by decide) 4 _⟩, ⟨zaI HR9.out (p := ⟨S, 4, none⟩) (zon hS) _⟩, ⟨?_⟩, ⟨Kd.R_set HN1_9.out HS9.out (by decide) 4 _⟩, ⟨Kd.R_set HN2_9.out HS9.out (by decide) 4 _⟩, ⟨Kd.R_set HN3_9.out HS9.out (by decide) 4 _⟩⟩
            . rw [znC, znD]; omega
            . exact zar HS9.out 4 _ rfl
        . have hib : isP 3 zaW s2 = true := by
           unfold isP; rw [hbd]; simp at hk
           rw [hk]; rfl
          rw [hib] at hIs; have HKn : acc = T1 /\ s2 = T2 := by
           have hK := HK.out; have h0 : zas (mS s2) s2 = ([], s2) := by
            generalize mS s2 = n; cases n with
            | zero => rfl
            | succ n => unfold zas; rw [if_neg (fun h => hk h.2)]
           rw [h0, zoq] at hK; exact hK
          obtain ⟨rfl, rfl⟩ := HKn; clear hbd hb hk hib HK; go_wp2_with (first | (go_at_call 140; refine hO.mono ?_; rintro e w' ⟨rfl, rfl⟩) | (go_at_call 182; refine hIs.mono ?_; rintro e w' ⟨rfl, rfl⟩))
          clear hO hIs; have HN4_7 := HA7; refine (zbg g 3 (by decide) zaW s2 wr HF7.out.par).mono ?_
          rintro e w8 ⟨rfl, hp8, hg8⟩; have HF8 := znl (HF7.out.call hp8 hg8); have HR8 := znl (HF7.out.keeps (znp _) HR7.out hg8); have HS8 := znl (HF7.out.keeps (zom hS) HS7.out hg8); have HN1_8 := znl (zaw HN1_7.out hg8 HL.out); have HN2_8 := znl (zaw HN2_7.out hg8 HL.out); have HN3_8 := znl (zaw HN3_7.out hg8 HL.out); have HN4_8 := znl (zaw HN4_7.out hg8 HL.out); clear hp8 hg8 HF7 HR7 HS7 HN1_7 HN2_7 HN3_7 HN4_7; have hSe := HS8.out; have k0 : w8.cell? ⟨S, 0, none⟩ = some (.string a) := (zaa hSe 0).trans rfl; have k1 : w8.cell? ⟨S, 1, none⟩ = some (.slice A1 n1.length c1) := (zaa hSe 1).trans rfl; have k2 : w8.cell? ⟨S, 2, none⟩ = some (.slice A2 n2.length c2) := (zaa hSe 2).trans rfl; have k3 : w8.cell? ⟨S, 3, none⟩ = some (.slice A3 n3.length c3) := (zaa hSe 3).trans rfl; have k4 : w8.cell? ⟨S, 4, none⟩ = some (.slice A acc.length c) := (zaa hSe 4).trans rfl; have hRe := HR8.out; have r0 : w8.cell? ⟨w.heap.size, 0, none⟩ = some (.string ⟨#[]⟩) := (zaa hRe 0).trans rfl; have z0 := zag hRe 0; have r1 : w8.cell? ⟨w.heap.size, 1, none⟩ = some (.slice none 0 0) := (zaa hRe 1).trans rfl; have z1 := zag hRe 1; have r2 : w8.cell? ⟨w.heap.size, 2, none⟩ = some (.slice none 0 0) := (zaa hRe 2).trans rfl; have z2 := zag hRe 2; have r3 : w8.cell? ⟨w.heap.size, 3, none⟩ = some (.slice none 0 0) := (zaa hRe 3).trans rfl; have z3 := zag hRe 3; have r4 : w8.cell? ⟨w.heap.size, 4, none⟩ = some (.slice none 0 0) := (zaa hRe 4).trans rfl; have z4 := zag hRe 4; clear hSe hRe; go_wp2; have hs := zby (.string a) (.slice A1 n1.length c1) (.slice A2 n2.length c2) (.slice A3 n3.length c3) (.slice A acc.length c) HR8.out; have hF := HF8.out.set5 (znp _) (.string a) (.slice A1 n1.length c1) (.slice A2 n2.length c2) (.slice A3 n3.length c3) (.slice A acc.length c) HR8.out (by decide) (by decide)
          have hA := RS.set5 HN1_8.out (.string a) (.slice A1 n1.length c1) (.slice A2 n2.length c2) (.slice A3 n3.length c3) (.slice A acc.length c) HR8.out (by decide)
          have hB := RS.set5 HN2_8.out (.string a) (.slice A1 n1.length c1) (.slice A2 n2.length c2) (.slice A3 n3.length c3) (.slice A acc.length c) HR8.out (by decide)
          have hC := RS.set5 HN3_8.out (.string a) (.slice A1 n1.length c1) (.slice A2 n2.length c2) (.slice A3 n3.length c3) (.slice A acc.length c) HR8.out (by decide)
          have hD := zcn HN4_8.out (.string a) (.slice A1 n1.length c1) (.slice A2 n2.length c2) (.slice A3 n3.length c3) (.slice A acc.length c) HR8.out (by decide)
          clear k0 k1 k2 k3 k4 r0 r1 r2 r3 r4 z0 z1 z2 z3 z4; unfold set5 at hs hF hA hB hC hD; generalize (((((w8.setCell ⟨w.heap.size, 0, none⟩ (.string a)).setCell ⟨w.heap.size, 1, none⟩ (.slice A1 n1.length c1)).setCell ⟨w.heap.size, 2, none⟩ (.slice A2 n2.length c2)).setCell ⟨w.heap.size, 3, none⟩ (.slice A3 n3.length c3)).setCell ⟨w.heap.size, 4, none⟩ (.slice A acc.length c)) = wE at hs hF hA hB hC hD |-; have g0 := (zaa hs 0).trans rfl; have g1 := (zaa hs 1).trans rfl; have g2 := (zaa hs 2).trans rfl; have g3 := (zaa hs 3).trans rfl; have g4 := (zaa hs 4).trans rfl; exact bodyPost_ret (v := .agg #[.string a, .slice A1 n1.length c1, .slice A2 n2.length c2, .slice A3 n3.length c3, .slice A acc.length c]) (by simp [results, Tryz.results141, go_sem, g0, g1, g2, g3, g4]) rfl (by
           rw [HT.out]; exact ⟨_, _, _, _, rfl, hA, hB, hC, hD, hF.par, hF.grown⟩)
      . have hbd : decide (s2.2 < 0) = false := by simpa using hb
        rw [hbd] at hO; have HKn : acc = T1 /\ s2 = T2 := by
         have hK := HK.out; have h0 : zas (mS s2) s2 = ([], s2) := by
          generalize mS s2 = n; cases n with
          | zero => rfl
          | succ n => unfold zas; rw [if_neg (fun h => hb h.1)]
         rw [h0, zoq] at hK; exact hK
        obtain ⟨rfl, rfl⟩ := HKn; clear hbd hb HK hIs; go_wp2_with (go_at_call 140; refine hO.mono ?_; rintro e w' ⟨rfl, rfl⟩)
        clear hO; have HN4_7 := HA7; refine (zbg g 3 (by decide) zaW s2 wr HF7.out.par).mono ?_
        rintro e w8 ⟨rfl, hp8, hg8⟩; have HF8 := znl (HF7.out.call hp8 hg8); have HR8 := znl (HF7.out.keeps (znp _) HR7.out hg8); have HS8 := znl (HF7.out.keeps (zom hS) HS7.out hg8); have HN1_8 := znl (zaw HN1_7.out hg8 HL.out); have HN2_8 := znl (zaw HN2_7.out hg8 HL.out); have HN3_8 := znl (zaw HN3_7.out hg8 HL.out); have HN4_8 := znl (zaw HN4_7.out hg8 HL.out); clear hp8 hg8 HF7 HR7 HS7 HN1_7 HN2_7 HN3_7 HN4_7; have hSe := HS8.out; have k0 : w8.cell? ⟨S, 0, none⟩ = some (.string a) := (zaa hSe 0).trans rfl; have k1 : w8.cell? ⟨S, 1, none⟩ = some (.slice A1 n1.length c1) := (zaa hSe 1).trans rfl; have k2 : w8.cell? ⟨S, 2, none⟩ = some (.slice A2 n2.length c2) := (zaa hSe 2).trans rfl; have k3 : w8.cell? ⟨S, 3, none⟩ = some (.slice A3 n3.length c3) := (zaa hSe 3).trans rfl; have k4 : w8.cell? ⟨S, 4, none⟩ = some (.slice A acc.length c) := (zaa hSe 4).trans rfl; have hRe := HR8.out; have r0 : w8.cell? ⟨w.heap.size, 0, none⟩ = some (.string ⟨#[]⟩) := (zaa hRe 0).trans rfl; have z0 := zag hRe 0; have r1 : w8.cell? ⟨w.heap.size, 1, none⟩ = some (.slice none 0 0) := (zaa hRe 1).trans rfl; have z1 := zag hRe 1; have r2 : w8.cell? ⟨w.heap.size, 2, none⟩ = some (.slice none 0 0) := (zaa hRe 2).trans rfl; have z2 := zag hRe 2; have r3 : w8.cell? ⟨w.heap.size, 3, none⟩ = some (.slice none 0 0) := (zaa hRe 3).trans rfl; have z3 := zag hRe 3; have r4 : w8.cell? ⟨w.heap.size, 4, none⟩ = some (.slice none 0 0) := (zaa hRe 4).trans rfl; have z4 := zag hRe 4; clear hSe hRe; go_wp2; have hs := zby (.string a) (.slice A1 n1.length c1) (.slice A2 n2.length c2) (.slice A3 n3.length c3) (.slice A acc.length c) HR8.out; have hF := HF8.out.set5 (znp _) (.string a) (.slice A1 n1.length c1) (.slice A2 n2.length c2) (.slice A3 n3.length c3) (.slice A acc.length c) HR8.out (by decide) (by decide)
        have hA := RS.set5 HN1_8.out (.string a) (.slice A1 n1.length c1) (.slice A2 n2.length c2) (.slice A3 n3.length c3) (.slice A acc.length c) HR8.out (by decide)
        have hB := RS.set5 HN2_8.out (.string a) (.slice A1 n1.length c1) (.slice A2 n2.length c2) (.slice A3 n3.length c3) (.slice A acc.length c) HR8.out (by decide)
        have hC := RS.set5 HN3_8.out (.string a) (.slice A1 n1.length c1) (.slice A2 n2.length c2) (.slice A3 n3.length c3) (.slice A acc.length c) HR8.out (by decide)
        have hD := zcn HN4_8.out (.string a) (.slice A1 n1.length c1) (.slice A2 n2.length c2) (.slice A3 n3.length c3) (.slice A acc.length c) HR8.out (by decide)
        clear k0 k1 k2 k3 k4 r0 r1 r2 r3 r4 z0 z1 z2 z3 z4; unfold set5 at hs hF hA hB hC hD; generalize (((((w8.setCell ⟨w.heap.size, 0, none⟩ (.string a)).setCell ⟨w.heap.size, 1, none⟩ (.slice A1 n1.length c1)).setCell ⟨w.heap.size, 2, none⟩ (.slice A2 n2.length c2)).setCell ⟨w.heap.size, 3, none⟩ (.slice A3 n3.length c3)).setCell ⟨w.heap.size, 4, none⟩ (.slice A acc.length c)) = wE at hs hF hA hB hC hD |-; have g0 := (zaa hs 0).trans rfl; have g1 := (zaa hs 1).trans rfl; have g2 := (zaa hs 2).trans rfl; have g3 := (zaa hs 3).trans rfl; have g4 := (zaa hs 4).trans rfl; exact bodyPost_ret (v := .agg #[.string a, .slice A1 n1.length c1, .slice A2 n2.length c2, .slice A3 n3.length c3, .slice A acc.length c]) (by simp [results, Tryz.results141, go_sem, g0, g1, g2, g3, g4]) rfl (by
         rw [HT.out]; exact ⟨_, _, _, _, rfl, hA, hB, hC, hD, hF.par, hF.grown⟩)
   . have hi' : isP 1 zbH q2 = false := by simpa using hi
     have htk : zaU 1 zbH q2 = (false, q2) := by unfold zaU; rw [if_neg hi]
     rw [hi', htk] at hTk; have hIf : ifP zbH q2 = ([], q2) := by unfold ifP; rw [if_neg hi]
     rw [hIf] at HT; try dsimp only at HT
     clear hIf htk hi hi'; refine hTk.mono ?_; rintro e w13 ⟨rfl, hp13, hg13⟩; clear hTk; have HF13 := znl (HF12.out.call hp13 hg13); have HR13 := znl (HF12.out.keeps (znp _) HR12.out hg13); have HS13 := znl (HF12.out.keeps (zom hS) HS12.out hg13); have HN1_13 := znl (zaw HN1_12.out hg13 HL.out); have HN2_13 := znl (zaw HN2_12.out hg13 HL.out); clear hp13 hg13 HF12 HR12 HS12 HN1_12 HN2_12; go_wp2_with fail; unfold zdN at HT; try dsimp only at HT
     have HTA : Hid ((zas ((q2).1.length + 1) (q2)).1 = (zas (mS (q2)) (q2)).1 /\ (zas ((q2).1.length + 1) (q2)).2 = (zas (mS (q2)) (q2)).2) := by
      rw [zcu ((q2).1.length + 1) (mS (q2)) (q2) HF13.out.par.good (zbL _) (znp _)]; exact ⟨rfl, rfl⟩
     generalize (zas ((q2).1.length + 1) (q2)).1 = T1 at HT HTA; generalize (zas ((q2).1.length + 1) (q2)).2 = T2 at HT HTA; have hm4 : mS (q2) <= 100001 := znv (zbL _) (zor HF13.out.par.len 1); generalize q2 = sL at HTA hm4 HF13; go_loopg [] (mS sL) (fun gg wr => ∃ (acc : List zay) (s2 : PS) (A : Option Addr) (c : Nat), mS s2 <= gg /\ acc.length + mS s2 <= mS sL /\ Aside0 (acc ++ (zas (mS s2) s2).1 = T1 /\ (zas (mS s2) s2).2 = T2) /\
      Aside0 (Kd.R k24 24 wr w.heap.size (fun _ => True) (.slice A acc.length c) acc) /\ Aside0 (Fly w g wr s2) /\ Aside0 (wr.heap[w.heap.size]? = some (.cells RUz 45 (0, 0))) /\ Aside0 (wr.heap[S]? = some (.cells #[.string a, .slice A1 n1.length c1, .slice A2 n2.length c2, .slice none 0 0, .slice A acc.length c] 45 (0, 0))) /\ Aside0 (RS wr w.heap.size (.slice A1 n1.length c1) n1) /\ Aside0 (RS wr w.heap.size (.slice A2 n2.length c2) n2))
     case atStart => exact ⟨[], sL, none, 0, znp _, by simp, ⟨by rw [zop]; exact ⟨HTA.out.1.symm, HTA.out.2.symm⟩⟩, ⟨Kd.R_nil _ _ _ _ _⟩, ⟨HF13.out⟩, ⟨HR13.out⟩, ⟨HS13.out⟩, ⟨HN1_13.out⟩, ⟨HN2_13.out⟩⟩
     case round =>
      obtain ⟨acc, s2, A, c, hgk, hal, HK, HA7, HF7, HR7, HS7, HN1_7, HN2_7⟩ := hrel; have hO := zcL g s2 wr HF7.out.par.has; have hIs := zdL g 3 zaW s2 wr HF7.out.par.has HF7.out.par.good.ne; by_cases hb : s2.2 < 0
      . have hbd : decide (s2.2 < 0) = true := by simpa using hb
        rw [hbd] at hO; by_cases hk : atP 3 zaW s2 = false
        . have hib : isP 3 zaW s2 = false := by unfold isP; rw [hk]; simp
          rw [hib] at hIs; have hN := fun W hW => zeo g s2 W hW
          have hmn := zdE HF7.out.par.good hb; have HKn : Hid (((acc ++ [(zaz s2).1]) ++ (zas (mS (zaz s2).2) (zaz s2).2).1 = T1 /\ (zas (mS (zaz s2).2) (zaz s2).2).2 = T2)) := by
           have hK := HK.out; obtain ⟨n, hn⟩ : ∃ n, mS s2 = n + 1 := ⟨mS s2 - 1, by omega⟩
           rw [hn, zas, if_pos ⟨hb, hk⟩, zcu n (mS (zaz s2).2) (zaz s2).2 (inv_good.step HF7.out.par.good) (by omega) (znp _)] at hK
           exact ⟨by rw [<- hK.1]; simp, hK.2⟩
          generalize (zaz s2).1 = x at HKn hN; generalize (zaz s2).2 = s3 at HKn hN hmn; have hld : wr.cell? ⟨S, 4, none⟩ = some (.slice A acc.length c) := (zaa HS7.out 4).trans rfl; have hal2 : acc.length <= 200000 := by omega
          clear hbd hb hk hib; go_wp2_with (first | (go_at_call 140; refine hO.mono ?_; rintro e w' ⟨rfl, rfl⟩) | (go_at_call 182; refine hIs.mono ?_; rintro e w' ⟨rfl, rfl⟩))
          have HFd := znl (HF7.out.below (W1 := wr.drew) ⟨rfl, rfl, rfl, znp _, fun _ _ => rfl⟩)
          have HAd : Hid (Kd.R k24 24 wr.drew w.heap.size (fun _ => True) (.slice A acc.length c) acc) := Kd.R_below HA7.out ⟨rfl, rfl, rfl, znp _, fun _ _ => rfl⟩
          have HN1_d : Hid (RS wr.drew w.heap.size (.slice A1 n1.length c1) n1) := Kd.R_below HN1_7.out ⟨rfl, rfl, rfl, znp _, fun _ _ => rfl⟩
          have HN2_d : Hid (RS wr.drew w.heap.size (.slice A2 n2.length c2) n2) := Kd.R_below HN2_7.out ⟨rfl, rfl, rfl, znp _, fun _ _ => rfl⟩
          have HRd := znl (zaN HR7.out); have HSd := znl (zaN HS7.out); clear hO hIs; go_region_law (first
           | (refine Kd.R_append_step k24 (w0 := w8) w.heap.size (by rfl) (.tmp 34) (.tmp 37) 43 24 (.agg #[.string ⟨#[]⟩, .int .i64 0, .slice none 0 0, .slice none 0 0, .int .i64 0]) 80 rfl Tryz.underlying43 zdG rfl (by decide) (by decide) (.slice A acc.length c) acc x [.string x.f0, .int .i64 x.f1, .slice AX x.f2.length cX, .slice AY x.f3.length cY, .int .i64 x.f4] (fun _ => True) (fun k_ => True /\ some k_ ≠ (Value.slice A acc.length c).ownBlock) (by rfl) (by rfl) (zdR _ _ _ x HX8.out HY8.out) (fun _ hk => hk) (fun _ _ => trivial) HA8.out (zno _ _) HF8.out.grown.size ?aL ?_; (case aL => omega); intro v1 w9 ho hb hg hat; obtain ⟨AN, cN, rfl, _, _⟩ := Kd.R_reads ho; have HA9 := znl ho; have HF9 := znl (HF8.out.row (Kd.R_own HA8.out).choose_spec (by decide) (by decide) (znp _) hb hg); have HR9 := znl (zaK HR8.out hg (Kd.R_ne HA8.out HR8.out (by decide))); have HS9 := znl (zaK HS8.out hg (Kd.R_ne HA8.out HS8.out (by decide))); have HN1_9 := znl (zcF HN1_8.out HA8.out (by decide) hg); have HN2_9 := znl (zcF HN2_8.out HA8.out (by decide) hg); have hst : w9.cell? ⟨S, 4, none⟩ = some (.slice A acc.length c) := (zaa HS9.out 4).trans rfl; have hfr : w9.frozen? ⟨S, 4, none⟩ = false := zag HS9.out 4; clear ho hb hg hat)
           | (go_simp; go_at_call 183; refine (hN _ HFd.out.par).mono ?_; rintro e w8 ⟨vx, vy, rfl, hx, hy, hp8, hg8⟩; obtain ⟨AX, cX, rfl, _, _⟩ := Kd.R_reads hx; obtain ⟨AY, cY, rfl, _, _⟩ := Kd.R_reads hy; have HX8 := znl (Kd.R_lower (Kd.R_new hx (Kd.R_own HAd.out).choose_spec) HFd.out.grown.size); have HY8 := znl (Kd.R_lower (Kd.R_new hy (Kd.R_own HAd.out).choose_spec) HFd.out.grown.size); have HF8 := znl (HFd.out.call hp8 hg8); have HR8 := znl (HFd.out.keeps (znp _) HRd.out hg8); have HS8 := znl (HFd.out.keeps (zom hS) HSd.out hg8); have HA8 := znl (zaw HAd.out hg8 HL.out); have HN1_8 := znl (zaw HN1_d.out hg8 HL.out); have HN2_8 := znl (zaw HN2_d.out hg8 HL.out); have hl8 : w8.cell? ⟨S, 4, none⟩ = some (.slice A acc.length c) := (zaa HS8.out 4).trans rfl; have hl8a : ∀ ob : Obj, (w8.alloc ob).cell? ⟨S, 4, none⟩ = some (.slice A acc.length c) := fun ob => (zaa (zav HS8.out ob) 4).trans rfl; clear hx hy hp8 hg8))
          all_goals
           go_wp2; go_roundg (mS s3)
           case measure => omega
           case rel =>
            have hlen : acc.length + 1 = (acc ++ [x]).length := by simp
            simp only [hlen]; refine ⟨acc ++ [x], s3, AN, cN, znp _, ?_, ⟨HKn.out⟩, ⟨Kd.R_set HA9.out HS9.out (by decide) 4 _⟩, ⟨HF9.out.set (zom hS) HS9.out (by decide) (by decide) 4 _⟩, ⟨zaI HR9.out (p := ⟨S, 4, none⟩) (zon hS) _⟩, ⟨?_⟩, ⟨Kd.R_set HN1_9.out HS9.out (by decide) 4 _⟩, ⟨Kd.R_set HN2_9.out HS9.out (by decide) 4 _⟩⟩
            . rw [znC, znD]; omega
            . exact zar HS9.out 4 _ rfl
        . have hib : isP 3 zaW s2 = true := by
           unfold isP; rw [hbd]; simp at hk
           rw [hk]; rfl
          rw [hib] at hIs; have HKn : acc = T1 /\ s2 = T2 := by
           have hK := HK.out; have h0 : zas (mS s2) s2 = ([], s2) := by
            generalize mS s2 = n; cases n with
            | zero => rfl
            | succ n => unfold zas; rw [if_neg (fun h => hk h.2)]
           rw [h0, zoq] at hK; exact hK
          obtain ⟨rfl, rfl⟩ := HKn; clear hbd hb hk hib HK; go_wp2_with (first | (go_at_call 140; refine hO.mono ?_; rintro e w' ⟨rfl, rfl⟩) | (go_at_call 182; refine hIs.mono ?_; rintro e w' ⟨rfl, rfl⟩))
          clear hO hIs; have HN4_7 := HA7; refine (zbg g 3 (by decide) zaW s2 wr HF7.out.par).mono ?_
          rintro e w8 ⟨rfl, hp8, hg8⟩; have HF8 := znl (HF7.out.call hp8 hg8); have HR8 := znl (HF7.out.keeps (znp _) HR7.out hg8); have HS8 := znl (HF7.out.keeps (zom hS) HS7.out hg8); have HN1_8 := znl (zaw HN1_7.out hg8 HL.out); have HN2_8 := znl (zaw HN2_7.out hg8 HL.out); have HN4_8 := znl (zaw HN4_7.out hg8 HL.out); clear hp8 hg8 HF7 HR7 HS7 HN1_7 HN2_7 HN4_7; have hSe := HS8.out; have k0 : w8.cell? ⟨S, 0, none⟩ = some (.string a) := (zaa hSe 0).trans rfl; have k1 : w8.cell? ⟨S, 1, none⟩ = some (.slice A1 n1.length c1) := (zaa hSe 1).trans rfl; have k2 : w8.cell? ⟨S, 2, none⟩ = some (.slice A2 n2.length c2) := (zaa hSe 2).trans rfl; have k3 : w8.cell? ⟨S, 3, none⟩ = some (.slice none 0 0) := (zaa hSe 3).trans rfl; have k4 : w8.cell? ⟨S, 4, none⟩ = some (.slice A acc.length c) := (zaa hSe 4).trans rfl; have hRe := HR8.out; have r0 : w8.cell? ⟨w.heap.size, 0, none⟩ = some (.string ⟨#[]⟩) := (zaa hRe 0).trans rfl; have z0 := zag hRe 0; have r1 : w8.cell? ⟨w.heap.size, 1, none⟩ = some (.slice none 0 0) := (zaa hRe 1).trans rfl; have z1 := zag hRe 1; have r2 : w8.cell? ⟨w.heap.size, 2, none⟩ = some (.slice none 0 0) := (zaa hRe 2).trans rfl; have z2 := zag hRe 2; have r3 : w8.cell? ⟨w.heap.size, 3, none⟩ = some (.slice none 0 0) := (zaa hRe 3).trans rfl; have z3 := zag hRe 3; have r4 : w8.cell? ⟨w.heap.size, 4, none⟩ = some (.slice none 0 0) := (zaa hRe 4).trans rfl; have z4 := zag hRe 4; clear hSe hRe; go_wp2; have hs := zby (.string a) (.slice A1 n1.length c1) (.slice A2 n2.length c2) (.slice none 0 0) (.slice A acc.length c) HR8.out; have hF := HF8.out.set5 (znp _) (.string a) (.slice A1 n1.length c1) (.slice A2 n2.length c2) (.slice none 0 0) (.slice A acc.length c) HR8.out (by decide) (by decide)
          have hA := RS.set5 HN1_8.out (.string a) (.slice A1 n1.length c1) (.slice A2 n2.length c2) (.slice none 0 0) (.slice A acc.length c) HR8.out (by decide)
          have hB := RS.set5 HN2_8.out (.string a) (.slice A1 n1.length c1) (.slice A2 n2.length c2) (.slice none 0 0) (.slice A acc.length c) HR8.out (by decide)
          have hC := RS.set5 (Kd.R_nil _ _ _ _ _ : RS w8 w.heap.size (.slice none 0 0) []) (.string a) (.slice A1 n1.length c1) (.slice A2 n2.length c2) (.slice none 0 0) (.slice A acc.length c) HR8.out (by decide)
          have hD := zcn HN4_8.out (.string a) (.slice A1 n1.length c1) (.slice A2 n2.length c2) (.slice none 0 0) (.slice A acc.length c) HR8.out (by decide)
          clear k0 k1 k2 k3 k4 r0 r1 r2 r3 r4 z0 z1 z2 z3 z4; unfold set5 at hs hF hA hB hC hD; generalize (((((w8.setCell ⟨w.heap.size, 0, none⟩ (.string a)).setCell ⟨w.heap.size, 1, none⟩ (.slice A1 n1.length c1)).setCell ⟨w.heap.size, 2, none⟩ (.slice A2 n2.length c2)).setCell ⟨w.heap.size, 3, none⟩ (.slice none 0 0)).setCell ⟨w.heap.size, 4, none⟩ (.slice A acc.length c)) = wE at hs hF hA hB hC hD |-; have g0 := (zaa hs 0).trans rfl; have g1 := (zaa hs 1).trans rfl; have g2 := (zaa hs 2).trans rfl; have g3 := (zaa hs 3).trans rfl; have g4 := (zaa hs 4).trans rfl; exact bodyPost_ret (v := .agg #[.string a, .slice A1 n1.length c1, .slice A2 n2.length c2, .slice none 0 0, .slice A acc.length c]) (by simp [results, Tryz.results141, go_sem, g0, g1, g2, g3, g4]) rfl (by
           rw [HT.out]; exact ⟨_, _, _, _, rfl, hA, hB, hC, hD, hF.par, hF.grown⟩)
      . have hbd : decide (s2.2 < 0) = false := by simpa using hb
        rw [hbd] at hO; have HKn : acc = T1 /\ s2 = T2 := by
         have hK := HK.out; have h0 : zas (mS s2) s2 = ([], s2) := by
          generalize mS s2 = n; cases n with
          | zero => rfl
          | succ n => unfold zas; rw [if_neg (fun h => hb h.1)]
         rw [h0, zoq] at hK; exact hK
        obtain ⟨rfl, rfl⟩ := HKn; clear hbd hb HK hIs; go_wp2_with (go_at_call 140; refine hO.mono ?_; rintro e w' ⟨rfl, rfl⟩)
        clear hO; have HN4_7 := HA7; refine (zbg g 3 (by decide) zaW s2 wr HF7.out.par).mono ?_
        rintro e w8 ⟨rfl, hp8, hg8⟩; have HF8 := znl (HF7.out.call hp8 hg8); have HR8 := znl (HF7.out.keeps (znp _) HR7.out hg8); have HS8 := znl (HF7.out.keeps (zom hS) HS7.out hg8); have HN1_8 := znl (zaw HN1_7.out hg8 HL.out); have HN2_8 := znl (zaw HN2_7.out hg8 HL.out); have HN4_8 := znl (zaw HN4_7.out hg8 HL.out); clear hp8 hg8 HF7 HR7 HS7 HN1_7 HN2_7 HN4_7; have hSe := HS8.out; have k0 : w8.cell? ⟨S, 0, none⟩ = some (.string a) := (zaa hSe 0).trans rfl; have k1 : w8.cell? ⟨S, 1, none⟩ = some (.slice A1 n1.length c1) := (zaa hSe 1).trans rfl; have k2 : w8.cell? ⟨S, 2, none⟩ = some (.slice A2 n2.length c2) := (zaa hSe 2).trans rfl; have k3 : w8.cell? ⟨S, 3, none⟩ = some (.slice none 0 0) := (zaa hSe 3).trans rfl; have k4 : w8.cell? ⟨S, 4, none⟩ = some (.slice A acc.length c) := (zaa hSe 4).trans rfl; have hRe := HR8.out; have r0 : w8.cell? ⟨w.heap.size, 0, none⟩ = some (.string ⟨#[]⟩) := (zaa hRe 0).trans rfl; have z0 := zag hRe 0; have r1 : w8.cell? ⟨w.heap.size, 1, none⟩ = some (.slice none 0 0) := (zaa hRe 1).trans rfl; have z1 := zag hRe 1; have r2 : w8.cell? ⟨w.heap.size, 2, none⟩ = some (.slice none 0 0) := (zaa hRe 2).trans rfl; have z2 := zag hRe 2; have r3 : w8.cell? ⟨w.heap.size, 3, none⟩ = some (.slice none 0 0) := (zaa hRe 3).trans rfl; have z3 := zag hRe 3; have r4 : w8.cell? ⟨w.heap.size, 4, none⟩ = some (.slice none 0 0) := (zaa hRe 4).trans rfl; have z4 := zag hRe 4; clear hSe hRe; go_wp2; have hs := zby (.string a) (.slice A1 n1.length c1) (.slice A2 n2.length c2) (.slice none 0 0) (.slice A acc.length c) HR8.out; have hF := HF8.out.set5 (znp _) (.string a) (.slice A1 n1.length c1) (.slice A2 n2.length c2) (.slice none 0 0) (.slice A acc.length c) HR8.out (by decide) (by decide)
        have hA := RS.set5 HN1_8.out (.string a) (.slice A1 n1.length c1) (.slice A2 n2.length c2) (.slice none 0 0) (.slice A acc.length c) HR8.out (by decide)
        have hB := RS.set5 HN2_8.out (.string a) (.slice A1 n1.length c1) (.slice A2 n2.length c2) (.slice none 0 0) (.slice A acc.length c) HR8.out (by decide)
        have hC := RS.set5 (Kd.R_nil _ _ _ _ _ : RS w8 w.heap.size (.slice none 0 0) []) (.string a) (.slice A1 n1.length c1) (.slice A2 n2.length c2) (.slice none 0 0) (.slice A acc.length c) HR8.out (by decide)
        have hD := zcn HN4_8.out (.string a) (.slice A1 n1.length c1) (.slice A2 n2.length c2) (.slice none 0 0) (.slice A acc.length c) HR8.out (by decide)
        clear k0 k1 k2 k3 k4 r0 r1 r2 r3 r4 z0 z1 z2 z3 z4; unfold set5 at hs hF hA hB hC hD; generalize (((((w8.setCell ⟨w.heap.size, 0, none⟩ (.string a)).setCell ⟨w.heap.size, 1, none⟩ (.slice A1 n1.length c1)).setCell ⟨w.heap.size, 2, none⟩ (.slice A2 n2.length c2)).setCell ⟨w.heap.size, 3, none⟩ (.slice none 0 0)).setCell ⟨w.heap.size, 4, none⟩ (.slice A acc.length c)) = wE at hs hF hA hB hC hD |-; have g0 := (zaa hs 0).trans rfl; have g1 := (zaa hs 1).trans rfl; have g2 := (zaa hs 2).trans rfl; have g3 := (zaa hs 3).trans rfl; have g4 := (zaa hs 4).trans rfl; exact bodyPost_ret (v := .agg #[.string a, .slice A1 n1.length c1, .slice A2 n2.length c2, .slice none 0 0, .slice A acc.length c]) (by simp [results, Tryz.results141, go_sem, g0, g1, g2, g3, g4]) rfl (by
         rw [HT.out]; exact ⟨_, _, _, _, rfl, hA, hB, hC, hD, hF.par, hF.grown⟩)
 . have hi' : isP 1 wIn s4 = false := by simpa using hi
   have htk : zaU 1 wIn s4 = (false, s4) := by unfold zaU; rw [if_neg hi]
   rw [hi', htk] at hTk; have hIf : ifP wIn s4 = ([], s4) := by unfold ifP; rw [if_neg hi]
   rw [hIf] at HT; try dsimp only at HT
   clear hIf htk hi hi'; refine hTk.mono ?_; rintro e w7 ⟨rfl, hp7, hg7⟩; clear hTk; have HF7 := znl (HF6.out.call hp7 hg7); have HR7 := znl (HF6.out.keeps (znp _) HR6.out hg7); have HS7 := znl (HF6.out.keeps (zom hS) HS6.out hg7); clear hp7 hg7 HF6 HR6 HS6; have HTo : Hid (za8 s = zdz a [] s4) := HT.out; clear HT; unfold zdz at HTo; try dsimp only at HTo
   have HT := HTo; clear HTo; go_wp2_with fail; refine (zbg g 1 (by decide) wOut s4 w7 HF7.out.par).mono ?_
   rintro e w8 ⟨rfl, hp8, hg8⟩; have HF8 := znl (HF7.out.call hp8 hg8); have HR8 := znl (HF7.out.keeps (znp _) HR7.out hg8); have HS8 := znl (HF7.out.keeps (zom hS) HS7.out hg8); clear hp8 hg8 HF7 HR7 HS7; generalize zaC 1 wOut s4 = q0 at HT HF8; go_wp2_with fail; refine (zdp g q0 w8 HF8.out.par).mono ?_; rintro e w9 ⟨v9, rfl, hr9, hp9, hg9⟩; generalize (zbf q0).1 = n2 at HT hr9; generalize (zbf q0).2 = q2 at HT hp9; have hr := Kd.R_lower hr9 HF8.out.grown.size; obtain ⟨A2, c2, rfl, _, _⟩ := Kd.R_reads hr; have HN2 := znl hr; clear hr hr9; have HF9 := znl (HF8.out.call hp9 hg9); have HR9 := znl (HF8.out.keeps (znp _) HR8.out hg9); have HS9 := znl (HF8.out.keeps (zom hS) HS8.out hg9); clear hp9 hg9 HF8 HR8 HS8; have hSx := HS9.out; have cx : w9.cell? ⟨S, 2, none⟩ = some (.slice none 0 0) := (zaa hSx 2).trans rfl; have fx := zag hSx 2; clear hSx; go_wp2_with fail; clear cx fx; have HF10 := znl (HF9.out.set (zom hS) HS9.out (by decide) (by decide) 2 (.slice A2 n2.length c2))
   have HR10 := znl (zaI HR9.out (p := ⟨S, 2, none⟩) (zon hS) (.slice A2 n2.length c2)); have HS10 : Hid ((w9.setCell ⟨S, 2, none⟩ (.slice A2 n2.length c2)).heap[S]? = some (.cells #[.string a, .slice none 0 0, .slice A2 n2.length c2, .slice none 0 0, .slice none 0 0] 45 (0, 0))) := zar HS9.out 2 _ rfl; have HN2_10 := znl (Kd.R_set HN2.out HS9.out (by decide) 2 (.slice A2 n2.length c2))
   clear HF9 HR9 HS9 HN2; generalize w9.setCell ⟨S, 2, none⟩ (.slice A2 n2.length c2) = w10 at HF10 HR10 HS10 HN2_10 |-; unfold zfI at HT; try dsimp only at HT
   have hTk := zek g 1 (by decide) zbH q2 w10 HF10.out.par
   by_cases hi : isP 1 zbH q2 = true
   . have htk : zaU 1 zbH q2 = (true, ((q2).1.tail, (q2).2)) := by unfold zaU; rw [if_pos hi]
     rw [hi, htk] at hTk; have hIf : ifP zbH q2 = zbf ((q2).1.tail, (q2).2) := by unfold ifP; rw [if_pos hi]
     rw [hIf] at HT; try dsimp only at HT
     clear hIf htk hi; refine hTk.mono ?_; rintro e w11 ⟨rfl, hp11, hg11⟩; clear hTk; have HF11 := znl (HF10.out.call hp11 hg11); have HR11 := znl (HF10.out.keeps (znp _) HR10.out hg11); have HS11 := znl (HF10.out.keeps (zom hS) HS10.out hg11); have HN2_11 := znl (zaw HN2_10.out hg11 HL.out); clear hp11 hg11 HF10 HR10 HS10 HN2_10; go_wp2_with fail; refine (zdp g ((q2).1.tail, (q2).2) w11 HF11.out.par).mono ?_; rintro e w12 ⟨v12, rfl, hr12, hp12, hg12⟩; generalize (zbf ((q2).1.tail, (q2).2)).1 = n3 at HT hr12; generalize (zbf ((q2).1.tail, (q2).2)).2 = q3 at HT hp12; have hr := Kd.R_lower hr12 HF11.out.grown.size; obtain ⟨A3, c3, rfl, _, _⟩ := Kd.R_reads hr; have HN3 := znl hr; clear hr hr12; have HF12 := znl (HF11.out.call hp12 hg12); have HR12 := znl (HF11.out.keeps (znp _) HR11.out hg12); have HS12 := znl (HF11.out.keeps (zom hS) HS11.out hg12); have HN2_12 := znl (zaw HN2_11.out hg12 HL.out); clear hp12 hg12 HF11 HR11 HS11 HN2_11; have hSx := HS12.out; have cx : w12.cell? ⟨S, 3, none⟩ = some (.slice none 0 0) := (zaa hSx 3).trans rfl; have fx := zag hSx 3; clear hSx; go_wp2_with fail; clear cx fx; have HF13 := znl (HF12.out.set (zom hS) HS12.out (by decide) (by decide) 3 (.slice A3 n3.length c3))
     have HR13 := znl (zaI HR12.out (p := ⟨S, 3, none⟩) (zon hS) (.slice A3 n3.length c3)); have HS13 : Hid ((w12.setCell ⟨S, 3, none⟩ (.slice A3 n3.length c3)).heap[S]? = some (.cells #[.string a, .slice none 0 0, .slice A2 n2.length c2, .slice A3 n3.length c3, .slice none 0 0] 45 (0, 0))) := zar HS12.out 3 _ rfl; have HN2_13 := znl (Kd.R_set HN2_12.out HS12.out (by decide) 3 (.slice A3 n3.length c3))
     have HN3_13 := znl (Kd.R_set HN3.out HS12.out (by decide) 3 (.slice A3 n3.length c3))
     clear HF12 HR12 HS12 HN2_12 HN3; generalize w12.setCell ⟨S, 3, none⟩ (.slice A3 n3.length c3) = w13 at HF13 HR13 HS13 HN2_13 HN3_13 |-; unfold zdN at HT; try dsimp only at HT
     have HTA : Hid ((zas ((q3).1.length + 1) (q3)).1 = (zas (mS (q3)) (q3)).1 /\ (zas ((q3).1.length + 1) (q3)).2 = (zas (mS (q3)) (q3)).2) := by
      rw [zcu ((q3).1.length + 1) (mS (q3)) (q3) HF13.out.par.good (zbL _) (znp _)]; exact ⟨rfl, rfl⟩
     generalize (zas ((q3).1.length + 1) (q3)).1 = T1 at HT HTA; generalize (zas ((q3).1.length + 1) (q3)).2 = T2 at HT HTA; have hm4 : mS (q3) <= 100001 := znv (zbL _) (zor HF13.out.par.len 1); generalize q3 = sL at HTA hm4 HF13; go_loopg [] (mS sL) (fun gg wr => ∃ (acc : List zay) (s2 : PS) (A : Option Addr) (c : Nat), mS s2 <= gg /\ acc.length + mS s2 <= mS sL /\ Aside0 (acc ++ (zas (mS s2) s2).1 = T1 /\ (zas (mS s2) s2).2 = T2) /\
      Aside0 (Kd.R k24 24 wr w.heap.size (fun _ => True) (.slice A acc.length c) acc) /\ Aside0 (Fly w g wr s2) /\ Aside0 (wr.heap[w.heap.size]? = some (.cells RUz 45 (0, 0))) /\ Aside0 (wr.heap[S]? = some (.cells #[.string a, .slice none 0 0, .slice A2 n2.length c2, .slice A3 n3.length c3, .slice A acc.length c] 45 (0, 0))) /\ Aside0 (RS wr w.heap.size (.slice A2 n2.length c2) n2) /\ Aside0 (RS wr w.heap.size (.slice A3 n3.length c3) n3))
     case atStart => exact ⟨[], sL, none, 0, znp _, by simp, ⟨by rw [zop]; exact ⟨HTA.out.1.symm, HTA.out.2.symm⟩⟩, ⟨Kd.R_nil _ _ _ _ _⟩, ⟨HF13.out⟩, ⟨HR13.out⟩, ⟨HS13.out⟩, ⟨HN2_13.out⟩, ⟨HN3_13.out⟩⟩
     case round =>
      obtain ⟨acc, s2, A, c, hgk, hal, HK, HA7, HF7, HR7, HS7, HN2_7, HN3_7⟩ := hrel; have hO := zcL g s2 wr HF7.out.par.has; have hIs := zdL g 3 zaW s2 wr HF7.out.par.has HF7.out.par.good.ne; by_cases hb : s2.2 < 0
      . have hbd : decide (s2.2 < 0) = true := by simpa using hb
        rw [hbd] at hO; by_cases hk : atP 3 zaW s2 = false
        . have hib : isP 3 zaW s2 = false := by unfold isP; rw [hk]; simp
          rw [hib] at hIs; have hN := fun W hW => zeo g s2 W hW
          have hmn := zdE HF7.out.par.good hb; have HKn : Hid (((acc ++ [(zaz s2).1]) ++ (zas (mS (zaz s2).2) (zaz s2).2).1 = T1 /\ (zas (mS (zaz s2).2) (zaz s2).2).2 = T2)) := by
           have hK := HK.out; obtain ⟨n, hn⟩ : ∃ n, mS s2 = n + 1 := ⟨mS s2 - 1, by omega⟩
           rw [hn, zas, if_pos ⟨hb, hk⟩, zcu n (mS (zaz s2).2) (zaz s2).2 (inv_good.step HF7.out.par.good) (by omega) (znp _)] at hK
           exact ⟨by rw [<- hK.1]; simp, hK.2⟩
          generalize (zaz s2).1 = x at HKn hN; generalize (zaz s2).2 = s3 at HKn hN hmn; have hld : wr.cell? ⟨S, 4, none⟩ = some (.slice A acc.length c) := (zaa HS7.out 4).trans rfl; have hal2 : acc.length <= 200000 := by omega
          clear hbd hb hk hib; go_wp2_with (first | (go_at_call 140; refine hO.mono ?_; rintro e w' ⟨rfl, rfl⟩) | (go_at_call 182; refine hIs.mono ?_; rintro e w' ⟨rfl, rfl⟩))
          have HFd := znl (HF7.out.below (W1 := wr.drew) ⟨rfl, rfl, rfl, znp _, fun _ _ => rfl⟩)
          have HAd : Hid (Kd.R k24 24 wr.drew w.heap.size (fun _ => True) (.slice A acc.length c) acc) := Kd.R_below HA7.out ⟨rfl, rfl, rfl, znp _, fun _ _ => rfl⟩
          have HN2_d : Hid (RS wr.drew w.heap.size (.slice A2 n2.length c2) n2) := Kd.R_below HN2_7.out ⟨rfl, rfl, rfl, znp _, fun _ _ => rfl⟩
          have HN3_d : Hid (RS wr.drew w.heap.size (.slice A3 n3.length c3) n3) := Kd.R_below HN3_7.out ⟨rfl, rfl, rfl, znp _, fun _ _ => rfl⟩
          have HRd := znl (zaN HR7.out); have HSd := znl (zaN HS7.out); clear hO hIs; go_region_law (first
           | (refine Kd.R_append_step k24 (w0 := w8) w.heap.size (by rfl) (.tmp 34) (.tmp 37) 43 24 (.agg #[.string ⟨#[]⟩, .int .i64 0, .slice none 0 0, .slice none 0 0, .int .i64 0]) 80 rfl Tryz.underlying43 zdG rfl (by decide) (by decide) (.slice A acc.length c) acc x [.string x.f0, .int .i64 x.f1, .slice AX x.f2.length cX, .slice AY x.f3.length cY, .int .i64 x.f4] (fun _ => True) (fun k_ => True /\ some k_ ≠ (Value.slice A acc.length c).ownBlock) (by rfl) (by rfl) (zdR _ _ _ x HX8.out HY8.out) (fun _ hk => hk) (fun _ _ => trivial) HA8.out (zno _ _) HF8.out.grown.size ?aL ?_; (case aL => omega); intro v1 w9 ho hb hg hat; obtain ⟨AN, cN, rfl, _, _⟩ := Kd.R_reads ho; have HA9 := znl ho; have HF9 := znl (HF8.out.row (Kd.R_own HA8.out).choose_spec (by decide) (by decide) (znp _) hb hg); have HR9 := znl (zaK HR8.out hg (Kd.R_ne HA8.out HR8.out (by decide))); have HS9 := znl (zaK HS8.out hg (Kd.R_ne HA8.out HS8.out (by decide))); have HN2_9 := znl (zcF HN2_8.out HA8.out (by decide) hg); have HN3_9 := znl (zcF HN3_8.out HA8.out (by decide) hg); have hst : w9.cell? ⟨S, 4, none⟩ = some (.slice A acc.length c) := (zaa HS9.out 4).trans rfl; have hfr : w9.frozen? ⟨S, 4, none⟩ = false := zag HS9.out 4; clear ho hb hg hat)
           | (go_simp; go_at_call 183; refine (hN _ HFd.out.par).mono ?_; rintro e w8 ⟨vx, vy, rfl, hx, hy, hp8, hg8⟩; obtain ⟨AX, cX, rfl, _, _⟩ := Kd.R_reads hx; obtain ⟨AY, cY, rfl, _, _⟩ := Kd.R_reads hy; have HX8 := znl (Kd.R_lower (Kd.R_new hx (Kd.R_own HAd.out).choose_spec) HFd.out.grown.size); have HY8 := znl (Kd.R_lower (Kd.R_new hy (Kd.R_own HAd.out).choose_spec) HFd.out.grown.size); have HF8 := znl (HFd.out.call hp8 hg8); have HR8 := znl (HFd.out.keeps (znp _) HRd.out hg8); have HS8 := znl (HFd.out.keeps (zom hS) HSd.out hg8); have HA8 := znl (zaw HAd.out hg8 HL.out); have HN2_8 := znl (zaw HN2_d.out hg8 HL.out); have HN3_8 := znl (zaw HN3_d.out hg8 HL.out); have hl8 : w8.cell? ⟨S, 4, none⟩ = some (.slice A acc.length c) := (zaa HS8.out 4).trans rfl; have hl8a : ∀ ob : Obj, (w8.alloc ob).cell? ⟨S, 4, none⟩ = some (.slice A acc.length c) := fun ob => (zaa (zav HS8.out ob) 4).trans rfl; clear hx hy hp8 hg8))
          all_goals
           go_wp2; go_roundg (mS s3)
           case measure => omega
           case rel =>
            have hlen : acc.length + 1 = (acc ++ [x]).length := by simp
            simp only [hlen]; refine ⟨acc ++ [x], s3, AN, cN, znp _, ?_, ⟨HKn.out⟩, ⟨Kd.R_set HA9.out HS9.out (by decide) 4 _⟩, ⟨HF9.out.set (zom hS) HS9.out (by decide) (by decide) 4 _⟩, ⟨zaI HR9.out (p := ⟨S, 4, none⟩) (zon hS) _⟩, ⟨?_⟩, ⟨Kd.R_set HN2_9.out HS9.out (by decide) 4 _⟩, ⟨Kd.R_set HN3_9.out HS9.out (by decide) 4 _⟩⟩
            . rw [znC, znD]; omega
            . exact zar HS9.out 4 _ rfl
        . have hib : isP 3 zaW s2 = true := by
           unfold isP; rw [hbd]; simp at hk
           rw [hk]; rfl
          rw [hib] at hIs; have HKn : acc = T1 /\ s2 = T2 := by
           have hK := HK.out; have h0 : zas (mS s2) s2 = ([], s2) := by
            generalize mS s2 = n; cases n with
            | zero => rfl
            | succ n => unfold zas; rw [if_neg (fun h => hk h.2)]
           rw [h0, zoq] at hK; exact hK
          obtain ⟨rfl, rfl⟩ := HKn; clear hbd hb hk hib HK; go_wp2_with (first | (go_at_call 140; refine hO.mono ?_; rintro e w' ⟨rfl, rfl⟩) | (go_at_call 182; refine hIs.mono ?_; rintro e w' ⟨rfl, rfl⟩))
          clear hO hIs; have HN4_7 := HA7; refine (zbg g 3 (by decide) zaW s2 wr HF7.out.par).mono ?_
          rintro e w8 ⟨rfl, hp8, hg8⟩; have HF8 := znl (HF7.out.call hp8 hg8); have HR8 := znl (HF7.out.keeps (znp _) HR7.out hg8); have HS8 := znl (HF7.out.keeps (zom hS) HS7.out hg8); have HN2_8 := znl (zaw HN2_7.out hg8 HL.out); have HN3_8 := znl (zaw HN3_7.out hg8 HL.out); have HN4_8 := znl (zaw HN4_7.out hg8 HL.out); clear hp8 hg8 HF7 HR7 HS7 HN2_7 HN3_7 HN4_7; have hSe := HS8.out; have k0 : w8.cell? ⟨S, 0, none⟩ = some (.string a) := (zaa hSe 0).trans rfl; have k1 : w8.cell? ⟨S, 1, none⟩ = some (.slice none 0 0) := (zaa hSe 1).trans rfl; have k2 : w8.cell? ⟨S, 2, none⟩ = some (.slice A2 n2.length c2) := (zaa hSe 2).trans rfl; have k3 : w8.cell? ⟨S, 3, none⟩ = some (.slice A3 n3.length c3) := (zaa hSe 3).trans rfl; have k4 : w8.cell? ⟨S, 4, none⟩ = some (.slice A acc.length c) := (zaa hSe 4).trans rfl; have hRe := HR8.out; have r0 : w8.cell? ⟨w.heap.size, 0, none⟩ = some (.string ⟨#[]⟩) := (zaa hRe 0).trans rfl; have z0 := zag hRe 0; have r1 : w8.cell? ⟨w.heap.size, 1, none⟩ = some (.slice none 0 0) := (zaa hRe 1).trans rfl; have z1 := zag hRe 1; have r2 : w8.cell? ⟨w.heap.size, 2, none⟩ = some (.slice none 0 0) := (zaa hRe 2).trans rfl; have z2 := zag hRe 2; have r3 : w8.cell? ⟨w.heap.size, 3, none⟩ = some (.slice none 0 0) := (zaa hRe 3).trans rfl; have z3 := zag hRe 3; have r4 : w8.cell? ⟨w.heap.size, 4, none⟩ = some (.slice none 0 0) := (zaa hRe 4).trans rfl; have z4 := zag hRe 4; clear hSe hRe; go_wp2; have hs := zby (.string a) (.slice none 0 0) (.slice A2 n2.length c2) (.slice A3 n3.length c3) (.slice A acc.length c) HR8.out; have hF := HF8.out.set5 (znp _) (.string a) (.slice none 0 0) (.slice A2 n2.length c2) (.slice A3 n3.length c3) (.slice A acc.length c) HR8.out (by decide) (by decide)
          have hA := RS.set5 (Kd.R_nil _ _ _ _ _ : RS w8 w.heap.size (.slice none 0 0) []) (.string a) (.slice none 0 0) (.slice A2 n2.length c2) (.slice A3 n3.length c3) (.slice A acc.length c) HR8.out (by decide)
          have hB := RS.set5 HN2_8.out (.string a) (.slice none 0 0) (.slice A2 n2.length c2) (.slice A3 n3.length c3) (.slice A acc.length c) HR8.out (by decide)
          have hC := RS.set5 HN3_8.out (.string a) (.slice none 0 0) (.slice A2 n2.length c2) (.slice A3 n3.length c3) (.slice A acc.length c) HR8.out (by decide)
          have hD := zcn HN4_8.out (.string a) (.slice none 0 0) (.slice A2 n2.length c2) (.slice A3 n3.length c3) (.slice A acc.length c) HR8.out (by decide)
          clear k0 k1 k2 k3 k4 r0 r1 r2 r3 r4 z0 z1 z2 z3 z4; unfold set5 at hs hF hA hB hC hD; generalize (((((w8.setCell ⟨w.heap.size, 0, none⟩ (.string a)).setCell ⟨w.heap.size, 1, none⟩ (.slice none 0 0)).setCell ⟨w.heap.size, 2, none⟩ (.slice A2 n2.length c2)).setCell ⟨w.heap.size, 3, none⟩ (.slice A3 n3.length c3)).setCell ⟨w.heap.size, 4, none⟩ (.slice A acc.length c)) = wE at hs hF hA hB hC hD |-; have g0 := (zaa hs 0).trans rfl; have g1 := (zaa hs 1).trans rfl; have g2 := (zaa hs 2).trans rfl; have g3 := (zaa hs 3).trans rfl; have g4 := (zaa hs 4).trans rfl; exact bodyPost_ret (v := .agg #[.string a, .slice none 0 0, .slice A2 n2.length c2, .slice A3 n3.length c3, .slice A acc.length c]) (by simp [results, Tryz.results141, go_sem, g0, g1, g2, g3, g4]) rfl (by
           rw [HT.out]; exact ⟨_, _, _, _, rfl, hA, hB, hC, hD, hF.par, hF.grown⟩)
      . have hbd : decide (s2.2 < 0) = false := by simpa using hb
        rw [hbd] at hO; have HKn : acc = T1 /\ s2 = T2 := by
         have hK := HK.out; have h0 : zas (mS s2) s2 = ([], s2) := by
          generalize mS s2 = n; cases n with
          | zero => rfl
          | succ n => unfold zas; rw [if_neg (fun h => hb h.1)]
         rw [h0, zoq] at hK; exact hK
        obtain ⟨rfl, rfl⟩ := HKn; clear hbd hb HK hIs; go_wp2_with (go_at_call 140; refine hO.mono ?_; rintro e w' ⟨rfl, rfl⟩)
        clear hO; have HN4_7 := HA7; refine (zbg g 3 (by decide) zaW s2 wr HF7.out.par).mono ?_
        rintro e w8 ⟨rfl, hp8, hg8⟩; have HF8 := znl (HF7.out.call hp8 hg8); have HR8 := znl (HF7.out.keeps (znp _) HR7.out hg8); have HS8 := znl (HF7.out.keeps (zom hS) HS7.out hg8); have HN2_8 := znl (zaw HN2_7.out hg8 HL.out); have HN3_8 := znl (zaw HN3_7.out hg8 HL.out); have HN4_8 := znl (zaw HN4_7.out hg8 HL.out); clear hp8 hg8 HF7 HR7 HS7 HN2_7 HN3_7 HN4_7; have hSe := HS8.out; have k0 : w8.cell? ⟨S, 0, none⟩ = some (.string a) := (zaa hSe 0).trans rfl; have k1 : w8.cell? ⟨S, 1, none⟩ = some (.slice none 0 0) := (zaa hSe 1).trans rfl; have k2 : w8.cell? ⟨S, 2, none⟩ = some (.slice A2 n2.length c2) := (zaa hSe 2).trans rfl; have k3 : w8.cell? ⟨S, 3, none⟩ = some (.slice A3 n3.length c3) := (zaa hSe 3).trans rfl; have k4 : w8.cell? ⟨S, 4, none⟩ = some (.slice A acc.length c) := (zaa hSe 4).trans rfl; have hRe := HR8.out; have r0 : w8.cell? ⟨w.heap.size, 0, none⟩ = some (.string ⟨#[]⟩) := (zaa hRe 0).trans rfl; have z0 := zag hRe 0; have r1 : w8.cell? ⟨w.heap.size, 1, none⟩ = some (.slice none 0 0) := (zaa hRe 1).trans rfl; have z1 := zag hRe 1; have r2 : w8.cell? ⟨w.heap.size, 2, none⟩ = some (.slice none 0 0) := (zaa hRe 2).trans rfl; have z2 := zag hRe 2; have r3 : w8.cell? ⟨w.heap.size, 3, none⟩ = some (.slice none 0 0) := (zaa hRe 3).trans rfl; have z3 := zag hRe 3; have r4 : w8.cell? ⟨w.heap.size, 4, none⟩ = some (.slice none 0 0) := (zaa hRe 4).trans rfl; have z4 := zag hRe 4; clear hSe hRe; go_wp2; have hs := zby (.string a) (.slice none 0 0) (.slice A2 n2.length c2) (.slice A3 n3.length c3) (.slice A acc.length c) HR8.out; have hF := HF8.out.set5 (znp _) (.string a) (.slice none 0 0) (.slice A2 n2.length c2) (.slice A3 n3.length c3) (.slice A acc.length c) HR8.out (by decide) (by decide)
        have hA := RS.set5 (Kd.R_nil _ _ _ _ _ : RS w8 w.heap.size (.slice none 0 0) []) (.string a) (.slice none 0 0) (.slice A2 n2.length c2) (.slice A3 n3.length c3) (.slice A acc.length c) HR8.out (by decide)
        have hB := RS.set5 HN2_8.out (.string a) (.slice none 0 0) (.slice A2 n2.length c2) (.slice A3 n3.length c3) (.slice A acc.length c) HR8.out (by decide)
        have hC := RS.set5 HN3_8.out (.string a) (.slice none 0 0) (.slice A2 n2.length c2) (.slice A3 n3.length c3) (.slice A acc.length c) HR8.out (by decide)
        have hD := zcn HN4_8.out (.string a) (.slice none 0 0) (.slice A2 n2.length c2) (.slice A3 n3.length c3) (.slice A acc.length c) HR8.out (by decide)
        clear k0 k1 k2 k3 k4 r0 r1 r2 r3 r4 z0 z1 z2 z3 z4; unfold set5 at hs hF hA hB hC hD; generalize (((((w8.setCell ⟨w.heap.size, 0, none⟩ (.string a)).setCell ⟨w.heap.size, 1, none⟩ (.slice none 0 0)).setCell ⟨w.heap.size, 2, none⟩ (.slice A2 n2.length c2)).setCell ⟨w.heap.size, 3, none⟩ (.slice A3 n3.length c3)).setCell ⟨w.heap.size, 4, none⟩ (.slice A acc.length c)) = wE at hs hF hA hB hC hD |-; have g0 := (zaa hs 0).trans rfl; have g1 := (zaa hs 1).trans rfl; have g2 := (zaa hs 2).trans rfl; have g3 := (zaa hs 3).trans rfl; have g4 := (zaa hs 4).trans rfl; exact bodyPost_ret (v := .agg #[.string a, .slice none 0 0, .slice A2 n2.length c2, .slice A3 n3.length c3, .slice A acc.length c]) (by simp [results, Tryz.results141, go_sem, g0, g1, g2, g3, g4]) rfl (by
         rw [HT.out]; exact ⟨_, _, _, _, rfl, hA, hB, hC, hD, hF.par, hF.grown⟩)
   . have hi' : isP 1 zbH q2 = false := by simpa using hi
     have htk : zaU 1 zbH q2 = (false, q2) := by unfold zaU; rw [if_neg hi]
     rw [hi', htk] at hTk; have hIf : ifP zbH q2 = ([], q2) := by unfold ifP; rw [if_neg hi]
     rw [hIf] at HT; try dsimp only at HT
     clear hIf htk hi hi'; refine hTk.mono ?_; rintro e w11 ⟨rfl, hp11, hg11⟩; clear hTk; have HF11 := znl (HF10.out.call hp11 hg11); have HR11 := znl (HF10.out.keeps (znp _) HR10.out hg11); have HS11 := znl (HF10.out.keeps (zom hS) HS10.out hg11); have HN2_11 := znl (zaw HN2_10.out hg11 HL.out); clear hp11 hg11 HF10 HR10 HS10 HN2_10; go_wp2_with fail; unfold zdN at HT; try dsimp only at HT
     have HTA : Hid ((zas ((q2).1.length + 1) (q2)).1 = (zas (mS (q2)) (q2)).1 /\ (zas ((q2).1.length + 1) (q2)).2 = (zas (mS (q2)) (q2)).2) := by
      rw [zcu ((q2).1.length + 1) (mS (q2)) (q2) HF11.out.par.good (zbL _) (znp _)]; exact ⟨rfl, rfl⟩
     generalize (zas ((q2).1.length + 1) (q2)).1 = T1 at HT HTA; generalize (zas ((q2).1.length + 1) (q2)).2 = T2 at HT HTA; have hm4 : mS (q2) <= 100001 := znv (zbL _) (zor HF11.out.par.len 1); generalize q2 = sL at HTA hm4 HF11; go_loopg [] (mS sL) (fun gg wr => ∃ (acc : List zay) (s2 : PS) (A : Option Addr) (c : Nat), mS s2 <= gg /\ acc.length + mS s2 <= mS sL /\ Aside0 (acc ++ (zas (mS s2) s2).1 = T1 /\ (zas (mS s2) s2).2 = T2) /\
      Aside0 (Kd.R k24 24 wr w.heap.size (fun _ => True) (.slice A acc.length c) acc) /\ Aside0 (Fly w g wr s2) /\ Aside0 (wr.heap[w.heap.size]? = some (.cells RUz 45 (0, 0))) /\ Aside0 (wr.heap[S]? = some (.cells #[.string a, .slice none 0 0, .slice A2 n2.length c2, .slice none 0 0, .slice A acc.length c] 45 (0, 0))) /\ Aside0 (RS wr w.heap.size (.slice A2 n2.length c2) n2))
     case atStart => exact ⟨[], sL, none, 0, znp _, by simp, ⟨by rw [zop]; exact ⟨HTA.out.1.symm, HTA.out.2.symm⟩⟩, ⟨Kd.R_nil _ _ _ _ _⟩, ⟨HF11.out⟩, ⟨HR11.out⟩, ⟨HS11.out⟩, ⟨HN2_11.out⟩⟩
     case round =>
      obtain ⟨acc, s2, A, c, hgk, hal, HK, HA7, HF7, HR7, HS7, HN2_7⟩ := hrel; have hO := zcL g s2 wr HF7.out.par.has; have hIs := zdL g 3 zaW s2 wr HF7.out.par.has HF7.out.par.good.ne; by_cases hb : s2.2 < 0
      . have hbd : decide (s2.2 < 0) = true := by simpa using hb
        rw [hbd] at hO; by_cases hk : atP 3 zaW s2 = false
        . have hib : isP 3 zaW s2 = false := by unfold isP; rw [hk]; simp
          rw [hib] at hIs; have hN := fun W hW => zeo g s2 W hW
          have hmn := zdE HF7.out.par.good hb; have HKn : Hid (((acc ++ [(zaz s2).1]) ++ (zas (mS (zaz s2).2) (zaz s2).2).1 = T1 /\ (zas (mS (zaz s2).2) (zaz s2).2).2 = T2)) := by
           have hK := HK.out; obtain ⟨n, hn⟩ : ∃ n, mS s2 = n + 1 := ⟨mS s2 - 1, by omega⟩
           rw [hn, zas, if_pos ⟨hb, hk⟩, zcu n (mS (zaz s2).2) (zaz s2).2 (inv_good.step HF7.out.par.good) (by omega) (znp _)] at hK
           exact ⟨by rw [<- hK.1]; simp, hK.2⟩
          generalize (zaz s2).1 = x at HKn hN; generalize (zaz s2).2 = s3 at HKn hN hmn; have hld : wr.cell? ⟨S, 4, none⟩ = some (.slice A acc.length c) := (zaa HS7.out 4).trans rfl; have hal2 : acc.length <= 200000 := by omega
          clear hbd hb hk hib; go_wp2_with (first | (go_at_call 140; refine hO.mono ?_; rintro e w' ⟨rfl, rfl⟩) | (go_at_call 182; refine hIs.mono ?_; rintro e w' ⟨rfl, rfl⟩))
          have HFd := znl (HF7.out.below (W1 := wr.drew) ⟨rfl, rfl, rfl, znp _, fun _ _ => rfl⟩)
          have HAd : Hid (Kd.R k24 24 wr.drew w.heap.size (fun _ => True) (.slice A acc.length c) acc) := Kd.R_below HA7.out ⟨rfl, rfl, rfl, znp _, fun _ _ => rfl⟩
          have HN2_d : Hid (RS wr.drew w.heap.size (.slice A2 n2.length c2) n2) := Kd.R_below HN2_7.out ⟨rfl, rfl, rfl, znp _, fun _ _ => rfl⟩
          have HRd := znl (zaN HR7.out); have HSd := znl (zaN HS7.out); clear hO hIs; go_region_law (first
           | (refine Kd.R_append_step k24 (w0 := w8) w.heap.size (by rfl) (.tmp 34) (.tmp 37) 43 24 (.agg #[.string ⟨#[]⟩, .int .i64 0, .slice none 0 0, .slice none 0 0, .int .i64 0]) 80 rfl Tryz.underlying43 zdG rfl (by decide) (by decide) (.slice A acc.length c) acc x [.string x.f0, .int .i64 x.f1, .slice AX x.f2.length cX, .slice AY x.f3.length cY, .int .i64 x.f4] (fun _ => True) (fun k_ => True /\ some k_ ≠ (Value.slice A acc.length c).ownBlock) (by rfl) (by rfl) (zdR _ _ _ x HX8.out HY8.out) (fun _ hk => hk) (fun _ _ => trivial) HA8.out (zno _ _) HF8.out.grown.size ?aL ?_; (case aL => omega); intro v1 w9 ho hb hg hat; obtain ⟨AN, cN, rfl, _, _⟩ := Kd.R_reads ho; have HA9 := znl ho; have HF9 := znl (HF8.out.row (Kd.R_own HA8.out).choose_spec (by decide) (by decide) (znp _) hb hg); have HR9 := znl (zaK HR8.out hg (Kd.R_ne HA8.out HR8.out (by decide))); have HS9 := znl (zaK HS8.out hg (Kd.R_ne HA8.out HS8.out (by decide))); have HN2_9 := znl (zcF HN2_8.out HA8.out (by decide) hg); have hst : w9.cell? ⟨S, 4, none⟩ = some (.slice A acc.length c) := (zaa HS9.out 4).trans rfl; have hfr : w9.frozen? ⟨S, 4, none⟩ = false := zag HS9.out 4; clear ho hb hg hat)
           | (go_simp; go_at_call 183; refine (hN _ HFd.out.par).mono ?_; rintro e w8 ⟨vx, vy, rfl, hx, hy, hp8, hg8⟩; obtain ⟨AX, cX, rfl, _, _⟩ := Kd.R_reads hx; obtain ⟨AY, cY, rfl, _, _⟩ := Kd.R_reads hy; have HX8 := znl (Kd.R_lower (Kd.R_new hx (Kd.R_own HAd.out).choose_spec) HFd.out.grown.size); have HY8 := znl (Kd.R_lower (Kd.R_new hy (Kd.R_own HAd.out).choose_spec) HFd.out.grown.size); have HF8 := znl (HFd.out.call hp8 hg8); have HR8 := znl (HFd.out.keeps (znp _) HRd.out hg8); have HS8 := znl (HFd.out.keeps (zom hS) HSd.out hg8); have HA8 := znl (zaw HAd.out hg8 HL.out); have HN2_8 := znl (zaw HN2_d.out hg8 HL.out); have hl8 : w8.cell? ⟨S, 4, none⟩ = some (.slice A acc.length c) := (zaa HS8.out 4).trans rfl; have hl8a : ∀ ob : Obj, (w8.alloc ob).cell? ⟨S, 4, none⟩ = some (.slice A acc.length c) := fun ob => (zaa (zav HS8.out ob) 4).trans rfl; clear hx hy hp8 hg8))
          all_goals
           go_wp2; go_roundg (mS s3)
           case measure => omega
           case rel =>
            have hlen : acc.length + 1 = (acc ++ [x]).length := by simp
            simp only [hlen]; refine ⟨acc ++ [x], s3, AN, cN, znp _, ?_, ⟨HKn.out⟩, ⟨Kd.R_set HA9.out HS9.out (by decide) 4 _⟩, ⟨HF9.out.set (zom hS) HS9.out (by decide) (by decide) 4 _⟩, ⟨zaI HR9.out (p := ⟨S, 4, none⟩) (zon hS) _⟩, ⟨?_⟩, ⟨Kd.R_set HN2_9.out HS9.out (by decide) 4 _⟩⟩
            . rw [znC, znD]; omega
            . exact zar HS9.out 4 _ rfl
        . have hib : isP 3 zaW s2 = true := by
           unfold isP; rw [hbd]; simp at hk
           rw [hk]; rfl
          rw [hib] at hIs; have HKn : acc = T1 /\ s2 = T2 := by
           have hK := HK.out; have h0 : zas (mS s2) s2 = ([], s2) := by
            generalize mS s2 = n; cases n with
            | zero => rfl
            | succ n => unfold zas; rw [if_neg (fun h => hk h.2)]
           rw [h0, zoq] at hK; exact hK
          obtain ⟨rfl, rfl⟩ := HKn; clear hbd hb hk hib HK; go_wp2_with (first | (go_at_call 140; refine hO.mono ?_; rintro e w' ⟨rfl, rfl⟩) | (go_at_call 182; refine hIs.mono ?_; rintro e w' ⟨rfl, rfl⟩))
          clear hO hIs; have HN4_7 := HA7; refine (zbg g 3 (by decide) zaW s2 wr HF7.out.par).mono ?_
          rintro e w8 ⟨rfl, hp8, hg8⟩; have HF8 := znl (HF7.out.call hp8 hg8); have HR8 := znl (HF7.out.keeps (znp _) HR7.out hg8); have HS8 := znl (HF7.out.keeps (zom hS) HS7.out hg8); have HN2_8 := znl (zaw HN2_7.out hg8 HL.out); have HN4_8 := znl (zaw HN4_7.out hg8 HL.out); clear hp8 hg8 HF7 HR7 HS7 HN2_7 HN4_7; have hSe := HS8.out; have k0 : w8.cell? ⟨S, 0, none⟩ = some (.string a) := (zaa hSe 0).trans rfl; have k1 : w8.cell? ⟨S, 1, none⟩ = some (.slice none 0 0) := (zaa hSe 1).trans rfl; have k2 : w8.cell? ⟨S, 2, none⟩ = some (.slice A2 n2.length c2) := (zaa hSe 2).trans rfl; have k3 : w8.cell? ⟨S, 3, none⟩ = some (.slice none 0 0) := (zaa hSe 3).trans rfl; have k4 : w8.cell? ⟨S, 4, none⟩ = some (.slice A acc.length c) := (zaa hSe 4).trans rfl; have hRe := HR8.out; have r0 : w8.cell? ⟨w.heap.size, 0, none⟩ = some (.string ⟨#[]⟩) := (zaa hRe 0).trans rfl; have z0 := zag hRe 0; have r1 : w8.cell? ⟨w.heap.size, 1, none⟩ = some (.slice none 0 0) := (zaa hRe 1).trans rfl; have z1 := zag hRe 1; have r2 : w8.cell? ⟨w.heap.size, 2, none⟩ = some (.slice none 0 0) := (zaa hRe 2).trans rfl; have z2 := zag hRe 2; have r3 : w8.cell? ⟨w.heap.size, 3, none⟩ = some (.slice none 0 0) := (zaa hRe 3).trans rfl; have z3 := zag hRe 3; have r4 : w8.cell? ⟨w.heap.size, 4, none⟩ = some (.slice none 0 0) := (zaa hRe 4).trans rfl; have z4 := zag hRe 4; clear hSe hRe; go_wp2; have hs := zby (.string a) (.slice none 0 0) (.slice A2 n2.length c2) (.slice none 0 0) (.slice A acc.length c) HR8.out; have hF := HF8.out.set5 (znp _) (.string a) (.slice none 0 0) (.slice A2 n2.length c2) (.slice none 0 0) (.slice A acc.length c) HR8.out (by decide) (by decide)
          have hA := RS.set5 (Kd.R_nil _ _ _ _ _ : RS w8 w.heap.size (.slice none 0 0) []) (.string a) (.slice none 0 0) (.slice A2 n2.length c2) (.slice none 0 0) (.slice A acc.length c) HR8.out (by decide)
          have hB := RS.set5 HN2_8.out (.string a) (.slice none 0 0) (.slice A2 n2.length c2) (.slice none 0 0) (.slice A acc.length c) HR8.out (by decide)
          have hC := RS.set5 (Kd.R_nil _ _ _ _ _ : RS w8 w.heap.size (.slice none 0 0) []) (.string a) (.slice none 0 0) (.slice A2 n2.length c2) (.slice none 0 0) (.slice A acc.length c) HR8.out (by decide)
          have hD := zcn HN4_8.out (.string a) (.slice none 0 0) (.slice A2 n2.length c2) (.slice none 0 0) (.slice A acc.length c) HR8.out (by decide)
          clear k0 k1 k2 k3 k4 r0 r1 r2 r3 r4 z0 z1 z2 z3 z4; unfold set5 at hs hF hA hB hC hD; generalize (((((w8.setCell ⟨w.heap.size, 0, none⟩ (.string a)).setCell ⟨w.heap.size, 1, none⟩ (.slice none 0 0)).setCell ⟨w.heap.size, 2, none⟩ (.slice A2 n2.length c2)).setCell ⟨w.heap.size, 3, none⟩ (.slice none 0 0)).setCell ⟨w.heap.size, 4, none⟩ (.slice A acc.length c)) = wE at hs hF hA hB hC hD |-; have g0 := (zaa hs 0).trans rfl; have g1 := (zaa hs 1).trans rfl; have g2 := (zaa hs 2).trans rfl; have g3 := (zaa hs 3).trans rfl; have g4 := (zaa hs 4).trans rfl; exact bodyPost_ret (v := .agg #[.string a, .slice none 0 0, .slice A2 n2.length c2, .slice none 0 0, .slice A acc.length c]) (by simp [results, Tryz.results141, go_sem, g0, g1, g2, g3, g4]) rfl (by
           rw [HT.out]; exact ⟨_, _, _, _, rfl, hA, hB, hC, hD, hF.par, hF.grown⟩)
      . have hbd : decide (s2.2 < 0) = false := by simpa using hb
        rw [hbd] at hO; have HKn : acc = T1 /\ s2 = T2 := by
         have hK := HK.out; have h0 : zas (mS s2) s2 = ([], s2) := by
          generalize mS s2 = n; cases n with
          | zero => rfl
          | succ n => unfold zas; rw [if_neg (fun h => hb h.1)]
         rw [h0, zoq] at hK; exact hK
        obtain ⟨rfl, rfl⟩ := HKn; clear hbd hb HK hIs; go_wp2_with (go_at_call 140; refine hO.mono ?_; rintro e w' ⟨rfl, rfl⟩)
        clear hO; have HN4_7 := HA7; refine (zbg g 3 (by decide) zaW s2 wr HF7.out.par).mono ?_
        rintro e w8 ⟨rfl, hp8, hg8⟩; have HF8 := znl (HF7.out.call hp8 hg8); have HR8 := znl (HF7.out.keeps (znp _) HR7.out hg8); have HS8 := znl (HF7.out.keeps (zom hS) HS7.out hg8); have HN2_8 := znl (zaw HN2_7.out hg8 HL.out); have HN4_8 := znl (zaw HN4_7.out hg8 HL.out); clear hp8 hg8 HF7 HR7 HS7 HN2_7 HN4_7; have hSe := HS8.out; have k0 : w8.cell? ⟨S, 0, none⟩ = some (.string a) := (zaa hSe 0).trans rfl; have k1 : w8.cell? ⟨S, 1, none⟩ = some (.slice none 0 0) := (zaa hSe 1).trans rfl; have k2 : w8.cell? ⟨S, 2, none⟩ = some (.slice A2 n2.length c2) := (zaa hSe 2).trans rfl; have k3 : w8.cell? ⟨S, 3, none⟩ = some (.slice none 0 0) := (zaa hSe 3).trans rfl; have k4 : w8.cell? ⟨S, 4, none⟩ = some (.slice A acc.length c) := (zaa hSe 4).trans rfl; have hRe := HR8.out; have r0 : w8.cell? ⟨w.heap.size, 0, none⟩ = some (.string ⟨#[]⟩) := (zaa hRe 0).trans rfl; have z0 := zag hRe 0; have r1 : w8.cell? ⟨w.heap.size, 1, none⟩ = some (.slice none 0 0) := (zaa hRe 1).trans rfl; have z1 := zag hRe 1; have r2 : w8.cell? ⟨w.heap.size, 2, none⟩ = some (.slice none 0 0) := (zaa hRe 2).trans rfl; have z2 := zag hRe 2; have r3 : w8.cell? ⟨w.heap.size, 3, none⟩ = some (.slice none 0 0) := (zaa hRe 3).trans rfl; have z3 := zag hRe 3; have r4 : w8.cell? ⟨w.heap.size, 4, none⟩ = some (.slice none 0 0) := (zaa hRe 4).trans rfl; have z4 := zag hRe 4; clear hSe hRe; go_wp2; have hs := zby (.string a) (.slice none 0 0) (.slice A2 n2.length c2) (.slice none 0 0) (.slice A acc.length c) HR8.out; have hF := HF8.out.set5 (znp _) (.string a) (.slice none 0 0) (.slice A2 n2.length c2) (.slice none 0 0) (.slice A acc.length c) HR8.out (by decide) (by decide)
        have hA := RS.set5 (Kd.R_nil _ _ _ _ _ : RS w8 w.heap.size (.slice none 0 0) []) (.string a) (.slice none 0 0) (.slice A2 n2.length c2) (.slice none 0 0) (.slice A acc.length c) HR8.out (by decide)
        have hB := RS.set5 HN2_8.out (.string a) (.slice none 0 0) (.slice A2 n2.length c2) (.slice none 0 0) (.slice A acc.length c) HR8.out (by decide)
        have hC := RS.set5 (Kd.R_nil _ _ _ _ _ : RS w8 w.heap.size (.slice none 0 0) []) (.string a) (.slice none 0 0) (.slice A2 n2.length c2) (.slice none 0 0) (.slice A acc.length c) HR8.out (by decide)
        have hD := zcn HN4_8.out (.string a) (.slice none 0 0) (.slice A2 n2.length c2) (.slice none 0 0) (.slice A acc.length c) HR8.out (by decide)
        clear k0 k1 k2 k3 k4 r0 r1 r2 r3 r4 z0 z1 z2 z3 z4; unfold set5 at hs hF hA hB hC hD; generalize (((((w8.setCell ⟨w.heap.size, 0, none⟩ (.string a)).setCell ⟨w.heap.size, 1, none⟩ (.slice none 0 0)).setCell ⟨w.heap.size, 2, none⟩ (.slice A2 n2.length c2)).setCell ⟨w.heap.size, 3, none⟩ (.slice none 0 0)).setCell ⟨w.heap.size, 4, none⟩ (.slice A acc.length c)) = wE at hs hF hA hB hC hD |-; have g0 := (zaa hs 0).trans rfl; have g1 := (zaa hs 1).trans rfl; have g2 := (zaa hs 2).trans rfl; have g3 := (zaa hs 3).trans rfl; have g4 := (zaa hs 4).trans rfl; exact bodyPost_ret (v := .agg #[.string a, .slice none 0 0, .slice A2 n2.length c2, .slice none 0 0, .slice A acc.length c]) (by simp [results, Tryz.results141, go_sem, g0, g1, g2, g3, g4]) rfl (by
         rw [HT.out]; exact ⟨_, _, _, _, rfl, hA, hB, hC, hD, hF.par, hF.grown⟩)

end Go.Proofs.YtdpgdnpddndeoaaGreatDoor.X

namespace Go.Proofs.YtdpgdnpddndeoaaGreatDoor.X
open Go.RowKit Go.Maps Go.Proofs.YtdpgdnpddndeoaaGreatDoorW.PrintWords Go.Proofs.YtdpgdnpddndeoaaGreatDoorW.PrintMore
--BEGIN
def hexD (n : Nat) : UInt8 := UInt8.ofNat (if n < 10 then 48 + n else 87 + n)
def zcZ (c : UInt8) : zab :=
 if c = 34 \/ c = 92 then [92, c] else if c = 10 then [92, 110] else if c = 9 then [92, 116]
 else if c.toNat < 32 \/ 126 < c.toNat then [92, 120, hexD (c.toNat / 16), hexD (c.toNat % 16)] else [c]
def zdx : zab -> zab
 | [] => []
 | c :: r => zcZ c ++ zdx r
def zdF (s : zab) : zab := 34 :: (zdx s ++ [34])
--END

--BEGIN
def lexM (b : Bool) (s : zab) (p : Nat) : Except Nat (List zaO) := lexL (s.length + 1) (p + zaE b s) (s.drop (zaE b s))
theorem zi6 (s : zab) : allF s = (lexM false s 0).map (· ++ [⟨4, (s.length : Nat), ⟨#[]⟩⟩]) := by
 unfold allF lexM; rw [Nat.zero_add]
theorem zgK (b : Bool) (p : Nat) : lexM b [] p = .ok [] := by cases b <;> rfl
theorem zel (b b' : Bool) (c : UInt8) (r : zab) (p : Nat) (h : zaE b (c :: r) = 1 + zaE b' r) : lexM b (c :: r) p = lexM b' r (p + 1) := by
 unfold lexM; rw [h, Nat.add_comm 1, zos, show p + (zaE b' r + 1) = p + 1 + zaE b' r by omega]
 exact zdQ _ _ _ _ (by rw [znJ, zn5]; omega) (by rw [znJ]; omega)
theorem zhb {c : UInt8} (h : zb3 c = true) (r : zab) (p : Nat) : lexM false (c :: r) p = lexM false r (p + 1) := zel _ _ _ _ _ (by rw [zaE, if_pos h])
theorem zhY (r : zab) (p : Nat) : lexM false (35 :: r) p = lexM true r (p + 1) := zel _ _ _ _ _ (by rw [zaE, if_neg (by decide), if_pos rfl])
theorem zht (r : zab) (p : Nat) : lexM true (10 :: r) p = lexM false r (p + 1) := zel _ _ _ _ _ (by rw [zaE, if_pos rfl])
theorem zgD {c : UInt8} (h : c ≠ 10) (r : zab) (p : Nat) : lexM true (c :: r) p = lexM true r (p + 1) := zel _ _ _ _ _ (by rw [zaE, if_neg h])
theorem zjq : ∀ c : Nat, c < 256 -> zb3 (UInt8.ofNat c) = true \/ UInt8.ofNat c = 35 -> letU (UInt8.ofNat c) = false /\ UInt8.ofNat c ≠ 34 /\ zer (UInt8.ofNat c) = false := by decide +kernel
theorem zjc {c : UInt8} {r : zab} {q : Nat × zab × Nat} (h : zaL (c :: r) = some q) : zb3 c = false /\ c ≠ 35 := by
 have key : ¬ (zb3 c = true \/ c = 35) := by
  intro hc; have := zjq c.toNat (UInt8.toNat_lt c); rw [show UInt8.ofNat c.toNat = c by simp] at this
  obtain ⟨h1, h2, h3⟩ := this hc; unfold zaL at h; rw [if_neg (by rw [zdS, h1]; simp)] at h
  simp [h2, h3] at h
 exact ⟨by cases hb : zb3 c with
  | false => rfl
  | true => exact absurd (.inl hb) key, fun e => key (.inr e)⟩
theorem zjm : zaL [] = none := by simp [zaL, runL]
theorem zmP {s : zab} {q : Nat × zab × Nat} (h : zaL s = some q) : zaE false s = 0 := by
 match s, h with
 | [], h => rw [zjm] at h; cases h
 | c :: r, h =>
  obtain ⟨h1, h2⟩ := zjc h; rw [zaE, if_neg (by rw [h1]; simp), if_neg h2]
theorem zf5 {s : zab} {q : Nat × zab × Nat} (h : zaL s = some q) (p : Nat) : lexM false s p = (lexM false (s.drop q.2.2) (p + q.2.2)).map (⟨(q.1 : Nat), (p : Nat), mk q.2.1⟩ :: ·) := by
 have hp := zcR h; have hsk := zmP h; unfold lexM; rw [hsk, zoo, lexL, if_neg (fun e => by rw [e] at hp; simp at hp; omega), h]
 simp only [Nat.add_zero]; rw [zdQ s.length ((s.drop q.2.2).length + 1) _ _ (by have := zcE false (s.drop q.2.2); rw [znJ, znJ] at *; omega) (by have := zcE false (s.drop q.2.2); rw [znJ, znJ] at *; omega)]
theorem zhC {c : UInt8} {r : zab} (h : zaL (c :: r) = none) (h1 : zb3 c = false) (h2 : c ≠ 35) (p : Nat) : lexM false (c :: r) p = .error p := by
 have hsk : zaE false (c :: r) = 0 := by rw [zaE, if_neg (by rw [h1]; simp), if_neg h2]
 unfold lexM; rw [hsk, zoo, lexL, if_neg (by simp), h]
 simp only [Nat.add_zero]
theorem zf0 {P : Bool -> zab -> Nat -> Prop} (nil : ∀ b p, P b [] p)
 (blank : ∀ c r p, zb3 c = true -> P false r (p + 1) -> P false (c :: r) p) (hash : ∀ r p, P true r (p + 1) -> P false (35 :: r) p) (nl : ∀ r p, P false r (p + 1) -> P true (10 :: r) p) (com : ∀ c r p, c ≠ 10 -> P true r (p + 1) -> P true (c :: r) p)
 (word : ∀ s p q, zaL s = some q -> P false (s.drop q.2.2) (p + q.2.2) -> P false s p) (bad : ∀ c r p, zaL (c :: r) = none -> zb3 c = false -> c ≠ 35 -> P false (c :: r) p) : ∀ b s p, P b s p := by
 have key : ∀ n b s p, s.length < n -> P b s p := by
  intro n; induction n with
  | zero => exact fun b s p h => absurd h (Nat.not_lt_zero _)
  | succ n ih =>
   intro b s p h; match b, s, h with
   | b, [], _ => exact nil b p
   | true, c :: r, h =>
    by_cases hc : c = 10
    . subst hc; exact nl r p (ih _ _ _ (by simp at h; omega))
    . exact com c r p hc (ih _ _ _ (by simp at h; omega))
   | false, c :: r, h =>
    by_cases hb : zb3 c = true
    . exact blank c r p hb (ih _ _ _ (by simp at h; omega))
    . by_cases h35 : c = 35
      . subst h35; exact hash r p (ih _ _ _ (by simp at h; omega))
      . cases hw : zaL (c :: r) with
        | none => exact bad c r p hw (by simpa using hb) h35
        | some q =>
         have hp := zcR hw; exact word _ p q hw (ih _ _ _ (by rw [znJ]; omega))
 exact fun b s p => key (s.length + 1) b s p (by omega)
theorem zlh (l : zab) : ∀ c ∈ (l.drop (runL l)).head?, letU c = false := by
 induction l with
 | nil => simp [runL]
 | cons c r ih =>
  rw [zdS]; by_cases hc : letU c = true
  . rw [if_pos hc, Nat.add_comm, zos]; exact ih
  . rw [if_neg hc]; simpa using hc
theorem znk {s : zab} {q : Nat × zab × Nat} (h : zaL s = some q) (h1 : q.1 = 1) : ∀ c ∈ (s.drop q.2.2).head?, letU c = false := by
 unfold zaL at h; by_cases h0 : 0 < runL s
 . rw [if_pos h0] at h
   cases h
   exact zlh s
 . rw [if_neg h0] at h
   match s, h with
   | c :: r, h =>
    dsimp only at h; split at h
    . obtain ⟨p, hp, rfl⟩ := znu.1 h
      simp at h1
    . split at h
      . cases h; simp at h1
      . cases h
   | [], h => cases h
--END

--BEGIN
theorem zdH {α β : Type} {f : α -> β} {r : Except Nat α} {b : β} (h : r.map f = .ok b) : ∃ a, r = .ok a /\ f a = b := by
 cases r with
 | error e => cases h
 | ok a => exact ⟨a, rfl, by injection h⟩
def Ends (b : Bool) (s : zab) : Prop := (s = [] /\ b = false) \/ ∃ a, s = a ++ [10]
theorem Ends.cons {b b' : Bool} {c : UInt8} {r : zab} (h : Ends b (c :: r)) (hb : c = 10 -> b' = false) : Ends b' r := by
 rcases h with ⟨h, _⟩ | ⟨a, h⟩
 . cases h
 . match a, h with
   | [], h =>
    simp at h
    exact .inl ⟨h.2, hb h.1⟩
   | d :: a, h =>
    simp at h
    exact .inr ⟨a, h.2⟩
def Chain (t : zab) : Nat -> List zaO -> Prop
 | _, [] => True
 | lo, x :: r => ∃ a n : Nat, x.f1 = a /\ lo <= a /\ 0 < n /\ a + n <= t.length /\ (x.f0 = 2 \/ (x.f0 = 1 \/ x.f0 = 3) /\ x.f2 = mk ((t.drop a).take n)) /\ Chain t (a + n) r
theorem Chain.low {t : zab} {lo lo' : Nat} {l : List zaO} (h : Chain t lo l) (hl : lo' <= lo) : Chain t lo' l := by
 match l, h with
 | [], _ => exact trivial
 | x :: r, ⟨a, n, h1, h2, h3⟩ => exact ⟨a, n, h1, by omega, h3⟩
theorem zlW {s : zab} {q : Nat × zab × Nat} (h : zaL s = some q) : q.1 = 2 \/ (q.1 = 1 \/ q.1 = 3) /\ q.2.1 = s.take q.2.2 := by
 unfold zaL at h; by_cases h0 : 0 < runL s
 . rw [if_pos h0] at h
   cases h
   exact .inr ⟨.inl rfl, rfl⟩
 . rw [if_neg h0] at h
   match s, h with
   | d :: r, h =>
    dsimp only at h; split at h
    . obtain ⟨x, _, rfl⟩ := znu.1 h
      exact .inl rfl
    . split at h
      . cases h; exact .inr ⟨.inr rfl, rfl⟩
      . cases h
   | [], h => cases h
theorem zkF (t : zab) : ∀ b s p, p <= t.length -> t.drop p = s -> ∀ ws, lexM b s p = .ok ws -> Chain t p ws := by
 have tl : ∀ {c : UInt8} {r : zab} {p : Nat}, p <= t.length -> t.drop p = c :: r -> p + 1 <= t.length /\ t.drop (p + 1) = r := by
  intro c r p hp h; have := congrArg List.length h; rw [znJ, zn5] at this; refine ⟨by omega, ?_⟩
  rw [<- List.drop_drop, h, zos, zoo]
 apply zf0
 . intro b p _ _ ws h; rw [zgK] at h; cases h; trivial
 . intro c r p hc ih hp hd ws h; rw [zhb hc] at h; exact (ih (tl hp hd).1 (tl hp hd).2 ws h).low (by omega)
 . intro r p ih hp hd ws h; rw [zhY] at h; exact (ih (tl hp hd).1 (tl hp hd).2 ws h).low (by omega)
 . intro r p ih hp hd ws h; rw [zht] at h; exact (ih (tl hp hd).1 (tl hp hd).2 ws h).low (by omega)
 . intro c r p hc ih hp hd ws h; rw [zgD hc] at h; exact (ih (tl hp hd).1 (tl hp hd).2 ws h).low (by omega)
 . intro s p q hq ih hp hd ws h
   have hpos := zcR hq; rw [zf5 hq] at h; obtain ⟨a, ha, rfl⟩ := zdH h; have hlen : s.length = t.length - p := by rw [<- hd, znJ]
   refine ⟨p, q.2.2, rfl, znp _, hpos.1, by omega, ?_, ih (by omega) (by rw [<- hd, List.drop_drop]) a ha⟩
   rcases zlW hq with h2 | ⟨h13, hs⟩
   . exact .inl (by show ((q.1 : Nat) : Int) = 2; omega)
   . refine .inr ⟨?_, ?_⟩
     . show ((q.1 : Nat) : Int) = 1 \/ ((q.1 : Nat) : Int) = 3
       omega
     . show mk q.2.1 = _
       rw [hs, hd]
 . intro c r p hq h1 h2 _ _ ws h; rw [zhC hq h1 h2] at h; cases h
--END

--BEGIN
theorem zjg {s : PS} (hg : GoodW s.1) (hs : s.2 < 0) : ¬ (zbv s).2 < 0 := by
 unfold zbv; rw [if_pos hs]; obtain ⟨l, d⟩ := s; match l, hg.ne, hg with
 | x :: r, _, hg => have := (hg.2 x (by simp)).1; show ¬ x.f1 < 0; omega
--END

--BEGIN
section
variable {e : zaO} {t : List zaO}
end

theorem zfw : ∀ (k : Nat) (l : zab) (p : zab × Nat), zbo k l = some p -> p.1.length <= p.2
 | 0, _, _, h => by cases h
 | k + 1, [], _, h => by cases h
 | k + 1, c :: r, p, h => by
  unfold zbo at h; split at h
  . cases h; simp
  . split at h
    . split at h
      . cases h
      . obtain ⟨q, hq, rfl⟩ := znu.1 h
        have := zfw k _ q hq; simp only [zn5]; omega
    . split at h
      . cases h
      . obtain ⟨q, hq, rfl⟩ := znu.1 h
        have := zfw k _ q hq; simp only [zn5]; omega
theorem zjx {s : zab} {q : Nat × zab × Nat} (h : zaL s = some q) : q.2.1.length <= q.2.2 := by
 unfold zaL at h; by_cases h0 : 0 < runL s
 . rw [if_pos h0] at h
   cases h
   show (s.take (runL s)).length <= runL s
   rw [List.length_take]; omega
 . rw [if_neg h0] at h
   match s, h with
   | d :: r, h =>
    dsimp only at h; split at h
    . obtain ⟨x, hx, rfl⟩ := znu.1 h
      have := zfw _ _ x hx; dsimp only; omega
    . split at h
      . cases h; simp
      . cases h
   | [], h => cases h
theorem ziK : ∀ b s p, ∀ ws, lexM b s p = .ok ws -> ∀ x ∈ ws, x.f2.size <= s.length := by
 apply zf0
 . intro b p ws h x hx; rw [zgK] at h; cases h; cases hx
 . intro c r p hc ih ws h x hx; rw [zhb hc] at h; have := ih ws h x hx; simp; omega
 . intro r p ih ws h x hx; rw [zhY] at h; have := ih ws h x hx; simp; omega
 . intro r p ih ws h x hx; rw [zht] at h; have := ih ws h x hx; simp; omega
 . intro c r p hc ih ws h x hx; rw [zgD hc] at h; have := ih ws h x hx; simp; omega
 . intro s p q hq ih ws h x hx
   have hp := zcR hq; rw [zf5 hq] at h; obtain ⟨a, ha, rfl⟩ := zdH h; rcases List.mem_cons.1 hx with rfl | hx
   . have := zjx hq
     show (mk q.2.1).size <= _
     rw [znY, za2]; omega
   . have := ih a ha x hx; rw [znJ] at this; omega
 . intro c r p hq h1 h2 ws h; rw [zhC hq h1 h2] at h; cases h
theorem zk3 {s : zab} {ws : List zaO} (hs : s.length <= 100000) (h : lexM false s 0 = .ok ws) : (∀ x ∈ ws, x.f0 ≠ 4) /\ GoodW (ws ++ [⟨4, (s.length : Nat), ⟨#[]⟩⟩]) := by
 have hch := zkF s false s 0 (Nat.zero_le _) zoo ws h; have key : ∀ (ws : List zaO) lo, Chain s lo ws -> ∀ x ∈ ws, x.f0 ≠ 4 /\ 0 <= x.f1 /\ x.f1 <= 100000 := by
  intro ws; induction ws with
  | nil => exact fun _ _ x hx => by cases hx
  | cons y r ih =>
   rintro lo ⟨a, n, h1, h2, h3, h4, h5, h6⟩ x hx; rcases List.mem_cons.1 hx with rfl | hx
   . refine ⟨?_, by omega, by omega⟩
     rcases h5 with h5 | ⟨h5 | h5, _⟩ <;> rw [h5] <;> decide
   . exact ih _ h6 x hx
 refine ⟨fun x hx => (key ws 0 hch x hx).1, ⟨⟨4, (s.length : Nat), ⟨#[]⟩⟩, by simp, rfl⟩, fun x hx => ?_⟩
 rcases List.mem_append.1 hx with hx | hx
 . exact ⟨(key ws 0 hch x hx).2.1, (key ws 0 hch x hx).2.2, znv (ziK false s 0 ws h x hx) hs⟩
 . rw [List.mem_singleton.1 hx]
   exact ⟨by simp, by simp; omega, show (0 : Nat) <= 100000 by omega⟩
theorem zkd {s : zab} {l : List zaO} (hs : s.length <= 100000) (h : allF s = .ok l) : GoodW l := by
 rw [zi6] at h; obtain ⟨ws, h1, rfl⟩ := zdH h; exact (zk3 hs h1).2
theorem zhP (l : List zaO) : zd7 l = if (zaS (l.length + 1) (l, -1)).2.2 < 0 then ((zaS (l.length + 1) (l, -1)).1, 0, 0) else ([], 1, (zaS (l.length + 1) (l, -1)).2.2) := rfl
--END

end Go.Proofs.YtdpgdnpddndeoaaGreatDoor.X

namespace Go.Proofs.YtdpgdnpddndeoaaGreatDoor.X
open Go.RowKit Go.Maps Go.Proofs.YtdpgdnpddndeoaaGreatDoorW.PrintWords Go.Proofs.YtdpgdnpddndeoaaGreatDoorW.PrintMore Go.Proofs.YtdpgdnpddndeoaaGreatDoorW.PrintLast
theorem zlT {W : World} {base : Nat} {v : Value} {l : List zaO} (h : Kd.R k139 139 W base (fun _ => True) v l) (hne : l ≠ []) :
 ∃ b c cur, v = .slice (some ⟨b, 0, none⟩) l.length c /\ l.length <= c /\ W.heap[b]? = some (.cells cur 139 (0, 0)) /\ WordsAt cur 0 l := by
 obtain ⟨A, c, he, hc, hC⟩ := Kd.R_reads h; obtain ⟨inner, ho⟩ := Kd.R_own h; have hpos : 0 < l.length := zol.2 hne; rcases ho.2 with ⟨hv, hn⟩ | ⟨g, cap, cur, hv, hg, hh, r⟩
 . omega
 . rw [he] at hv
   injection hv with h1 h2 h3; subst h1; refine ⟨g, c, cur, he, hc, hh, fun j x hj => ?_⟩
   obtain ⟨ad, ha, hcell⟩ := hC.2.2 hpos; injection ha with ha; subst ha; obtain ⟨cs, hl, hK, hcc⟩ := hcell j x hj; have hcs := zhr hK; subst hcs; have k0 := hcc 0 _ rfl; have k1 := hcc 1 _ rfl; have k2 := hcc 2 _ rfl; rw [zfr, zaa hh] at k0 k1 k2; have hsz : (k139).sz = 3 := rfl; rw [hsz] at k0 k1 k2; refine ⟨?_, ?_, ?_⟩
   . rw [show 0 + 3 * j = j * 3 + 0 by omega]; exact k0
   . rw [show 0 + 3 * j + 1 = j * 3 + 1 by omega]; exact k1
   . rw [show 0 + 3 * j + 2 = j * 3 + 2 by omega]; exact k2
theorem zid {s : PS} (hg : GoodW s.1) (hs : s.2 < 0) : mS (za8 s).2 < mS s := by
 have hm : mS s = s.1.length + 1 := by unfold mS; rw [if_pos hs]
 have h1 : mS (zaC 1 zcS s) < mS s := by
  rw [hm]; unfold zaC; split
  . have h2 := zbL (s.1.tail, s.2)
    have h3 : 0 < s.1.length := zol.2 hg.ne; have h4 : (s.1.tail, s.2).1.length = s.1.length - 1 := List.length_tail; omega
  . have := zjg hg hs
    unfold mS; rw [if_neg this, zfP]; omega
 have h2 : mS (za8 s).2 <= mS (zaC 1 zcS s) := by
  have h := zen (mS (zaC 1 zcS s)); exact h.must (h.steps _ (h.if_ _ (h.list (h.must (h.if_ _ (h.must (h.name (znp _)) (by decide) _)) (by decide) _)))) (by decide) _
 omega
theorem zgX : ∀ (n m : Nat) (s : PS), GoodW s.1 -> mS s <= n -> mS s <= m -> zaS n s = zaS m s
 | 0, 0, _, _, _, _ => rfl
 | 0, m + 1, s, hg, h, _ => by
  unfold zaS; rw [if_neg (fun hc => by have := zol.2 hg.ne; unfold mS at h; omega)]
 | n + 1, 0, s, hg, _, h => by
  unfold zaS; rw [if_neg (fun hc => by have := zol.2 hg.ne; unfold mS at h; omega)]
 | n + 1, m + 1, s, hg, h1, h2 => by
  unfold zaS; by_cases hc : s.2 < 0 /\ (zaB s.1).f0 ≠ 4
  . rw [if_pos hc, if_pos hc]
    have := zid hg hc.1; rw [zgX n m _ (inv_good.rule hg) (by omega) (by omega)]
  . rw [if_neg hc, if_neg hc]
theorem zf9 : ∀ (k p : Nat) (s : zab) (l : List zaO), lexL k p s = .ok l -> l.length <= s.length
 | 0, _, _, _, h => by cases h
 | k + 1, p, s, l, h => by
  unfold lexL at h; by_cases h0 : s = []
  . rw [if_pos h0] at h; cases h; simp
  . rw [if_neg h0] at h
    cases hw : zaL s with
    | none => rw [hw] at h; cases h
    | some q =>
     rw [hw] at h; obtain ⟨a, ha, rfl⟩ := zdH h; have h1 := zf9 k _ _ a ha; have h2 := zcR hw; simp only [znJ] at h1; simp only [zn5]; omega
theorem zmz {s : zab} {l : List zaO} (h : allF s = .ok l) : l.length <= s.length + 1 := by
 unfold allF at h; obtain ⟨a, ha, rfl⟩ := zdH h; have := zf9 _ _ _ a ha; rw [znJ] at this; simp
 omega
def zkp (r : List zai × Int × Int) (w : World) (e : Ending) (w' : World) : Prop :=
 ∃ v : Value, e = .returned (.tuple #[v, .agg #[.int .i64 r.2.1, .int .i64 r.2.2]]) /\ Kd.R k45 45 w' w.heap.size (fun _ => True) v r.1 /\ Below w.heap.size w w'

theorem zfR (s : ByteArray) (w : World) (hG : GOK w) :
 Calls Tryz.prog 111 #[.string s] w (zkp (zbS s.data.toList) w) := by
 have HG := znl hG; clear hG; by_cases hbig : 20000 < s.size
 . have hd : decide ((20000 : Int) < (s.size : Int)) = true := by simp; omega
   have HV : Hid (zbS s.data.toList = ([], 4, -1)) := by
    show _ = _
    unfold zbS; rw [if_pos (by rw [<- znY]; exact hbig)]
   clear hbig; go_enter Tryz.func111, Tryz.ntmps111
   go_wp2; have hs := zao w (.cells #[.int .i64 4, .int .i64 (-1)] 133); have hB := (zno w.heap.size w).alloc (znp _) (.cells #[.int .i64 4, .int .i64 (-1)] 133); generalize w.alloc (.cells #[.int .i64 4, .int .i64 (-1)] 133) = wE at hs hB |-; have g0 := (zaa hs 0).trans rfl; have g1 := (zaa hs 1).trans rfl; exact bodyPost_ret (v := .tuple #[.slice none 0 0, .agg #[.int .i64 4, .int .i64 (-1)]]) (by simp [results, Tryz.results111, go_sem, g0, g1]) rfl (by
    rw [HV.out]; exact ⟨_, rfl, Kd.R_nil _ _ _ _ _, hB⟩)
 . have hd : decide ((20000 : Int) < (s.size : Int)) = false := by simp; omega
   have hlen : s.data.toList.length <= 20000 := by rw [<- znY]; omega
   have hA := fun W => zhJ s (by omega) W
   have hV : zbS s.data.toList = match allF s.data.toList with | .error p => ([], 1, (p : Nat)) | .ok l => zd7 l := by
    unfold zbS; rw [if_neg (by omega)]
    rfl
   clear hbig; cases hall : allF s.data.toList with
   | error p =>
    have HV : Hid (zbS s.data.toList = ([], 1, ((p : Nat) : Int))) := by show _ = _; rw [hV, hall]
    rw [hall] at hA; replace hA : ∀ W, Calls Tryz.prog 110 #[.string s] W (zfz ([], 1, (p : Nat)) W) := hA
    clear hV hall hlen; go_enter Tryz.func111, Tryz.ntmps111
    go_wp2_with fail; refine (hA _).mono ?_; rintro e w1 ⟨v0, rfl, hr1, hb1⟩; have hR1 := zah (zao w (.cells #[.int .i64 0, .int .i64 0] 133)) hb1; have HB1 := znl (zad ((zno w.heap.size w).alloc (znp _) (.cells #[.int .i64 0, .int .i64 0] 133)) (by simp) hb1)
    obtain ⟨A0, c0, rfl, _, _⟩ := Kd.R_reads hr1; have hR2 := zav hR1 (.cells #[.int .i64 1, .int .i64 (p : Nat)] 133); have hE2 := zao w1 (.cells #[.int .i64 1, .int .i64 (p : Nat)] 133); have HB2 := znl (HB1.out.alloc HB1.out.size (.cells #[.int .i64 1, .int .i64 (p : Nat)] 133)); clear hA hb1 hr1 hR1 HB1; go_wp2; generalize w1.alloc (.cells #[.int .i64 1, .int .i64 (p : Nat)] 133) = w2 at hR2 hE2 HB2 |-; generalize w1.heap.size = E at hE2 |-; have HR2 := znl hR2; have k0 : w2.cell? ⟨E, 0, none⟩ = some (.int .i64 1) := (zaa hE2 0).trans rfl; have k1 : w2.cell? ⟨E, 1, none⟩ = some (.int .i64 (p : Nat)) := (zaa hE2 1).trans rfl; have r0 : w2.cell? ⟨w.heap.size, 0, none⟩ = some (.int .i64 0) := (zaa hR2 0).trans rfl; have r1 : w2.cell? ⟨w.heap.size, 1, none⟩ = some (.int .i64 0) := (zaa hR2 1).trans rfl; have f0 : w2.frozen? ⟨w.heap.size, 0, none⟩ = false := zag hR2 0; have f1 : w2.frozen? ⟨w.heap.size, 1, none⟩ = false := zag hR2 1; clear hR2 hE2; go_region
    all_goals
     have hs := zcl (.int .i64 1) (.int .i64 (p : Nat)) HR2.out; have hB := (HB2.out.setCell (p := ⟨w.heap.size, 0, none⟩) (znp _) (.int .i64 1)).setCell (p := ⟨w.heap.size, 1, none⟩) (znp _) (.int .i64 (p : Nat)); go_wp2; have hs2 := zaN hs; have hB2 := zbh hB; generalize ((w2.setCell ⟨w.heap.size, 0, none⟩ (.int .i64 1)).setCell ⟨w.heap.size, 1, none⟩ (.int .i64 (p : Nat))).drew = wE at hs2 hB2 |-; have g0 := (zaa hs2 0).trans rfl; have g1 := (zaa hs2 1).trans rfl; exact bodyPost_ret (v := .tuple #[.slice none 0 0, .agg #[.int .i64 1, .int .i64 (p : Nat)]]) (by simp [results, Tryz.results111, go_sem, g0, g1]) rfl (by
      rw [HV.out]; exact ⟨_, rfl, Kd.R_nil _ _ _ _ _, hB2⟩)
   | ok l =>
    have HV : Hid (zbS s.data.toList = zd7 l) := by show _ = _; rw [hV, hall]
    have hgood : GoodW l := zkd (by omega) hall
    have hll : l.length <= 20001 := znv (zmz hall) (zor hlen 1); rw [hall] at hA; replace hA : ∀ W, Calls Tryz.prog 110 #[.string s] W (zfz (l, 0, 0) W) := hA
    have HGood := znl hgood; clear hV hall hlen hgood; go_enter Tryz.func111, Tryz.ntmps111
    go_wp2_with fail; refine (hA _).mono ?_; rintro e w1 ⟨v0, rfl, hr1, hb1⟩; replace hr1 : Kd.R k139 139 w1 (w.alloc (.cells #[.int .i64 0, .int .i64 0] 133)).heap.size (fun _ => True) v0 l := hr1
    have hR1 := zah (zao w (.cells #[.int .i64 0, .int .i64 0] 133)) hb1; have hB1 := zad ((zno w.heap.size w).alloc (znp _) (.cells #[.int .i64 0, .int .i64 0] 133)) (by simp) hb1
    obtain ⟨b, c, cur, rfl, hc, hbl, hwd⟩ := zlT hr1 HGood.out.ne; have hs2 := zav hbl (.cells #[.int .i64 0, .int .i64 0] 133); have hs3 := zav hs2 (.cells #[.slice (some ⟨b, 0, none⟩) l.length c, .int .i64 (-1)] 169); have hp3 := zao (w1.alloc (.cells #[.int .i64 0, .int .i64 0] 133)) (.cells #[.slice (some ⟨b, 0, none⟩) l.length c, .int .i64 (-1)] 169); have hR3 := zav (zav hR1 (.cells #[.int .i64 0, .int .i64 0] 133)) (.cells #[.slice (some ⟨b, 0, none⟩) l.length c, .int .i64 (-1)] 169); have hB2 := hB1.alloc hB1.size (.cells #[.int .i64 0, .int .i64 0] 133); have hB3 := hB2.alloc hB2.size (.cells #[.slice (some ⟨b, 0, none⟩) l.length c, .int .i64 (-1)] 169); have hgs : (w1.alloc (.cells #[.int .i64 0, .int .i64 0] 133)).heap.size = w1.heap.size + 1 := by simp
    have hwl : w.heap.size < w1.heap.size := za1 hR1; rw [hgs] at hp3; have hF : Fly ((w1.alloc (.cells #[.int .i64 0, .int .i64 0] 133)).alloc (.cells #[.slice (some ⟨b, 0, none⟩) l.length c, .int .i64 (-1)] 169)) (w1.heap.size + 1) ((w1.alloc (.cells #[.int .i64 0, .int .i64 0] 133)).alloc (.cells #[.slice (some ⟨b, 0, none⟩) l.length c, .int .i64 (-1)] 169)) (l, -1) := by
     refine Fly.start ⟨⟨b, 0, c, cur, hp3, hc, hs3, hwd⟩, ⟨w, HG.out, by omega, hB3⟩, HGood.out, by show l.length <= 100000; omega⟩
    have HF := znl hF; have HR := znl hR3; have HB := znl hB3; have hRg : w.heap.size < w1.heap.size + 1 := by omega
    clear hA hb1 hr1 hR1 hB1 hbl hwd hs2 hs3 hp3 hR3 hB2 hB3 hgs hF hwl hc; go_wp2_with fail; generalize (w1.alloc (.cells #[.int .i64 0, .int .i64 0] 133)).alloc (.cells #[.slice (some ⟨b, 0, none⟩) l.length c, .int .i64 (-1)] 169) = wg at HF HR HB |-; generalize w1.heap.size + 1 = g at HF hRg |-; go_loopg [7] (mS (l, -1)) (fun gg s7 wr => ∃ (acc : List zai) (s2 : PS) (A : Option Addr) (c : Nat), s7 = .slice A acc.length c /\ mS s2 <= gg /\ acc.length + mS s2 <= mS (l, -1) /\ Aside0 (acc ++ (zaS (mS s2) s2).1 = (zaS (mS (l, -1)) (l, -1)).1 /\ (zaS (mS s2) s2).2 = (zaS (mS (l, -1)) (l, -1)).2) /\
     Aside0 (Kd.R k45 45 wr wg.heap.size (fun _ => True) (.slice A acc.length c) acc) /\ Aside0 (Fly wg g wr s2) /\ Aside0 (wr.heap[w.heap.size]? = some (.cells #[.int .i64 0, .int .i64 0] 133 (0, 0))))
    case atStart => exact ⟨[], (l, -1), none, 0, rfl, znp _, by simp, ⟨by simp⟩, ⟨Kd.R_nil _ _ _ _ _⟩, ⟨HF.out⟩, ⟨HR.out⟩⟩
    case round =>
     obtain ⟨acc, s2, A, c, rfl, hgk, hal, HK, HA7, HF7, HR7⟩ := hrel; have hO := zcL g s2 wr HF7.out.par.has; have hO2 := hO; by_cases hb : s2.2 < 0
     . have hbd : decide (s2.2 < 0) = true := by simpa using hb
       rw [hbd] at hO; obtain ⟨b2, o2, cp, cur2, hq⟩ := HF7.out.par.has; have h0 : wr.cell? ⟨g, 0, none⟩ = some (.slice (some ⟨b2, o2, none⟩) s2.1.length cp) := (zaa hq.own 0).trans rfl; obtain ⟨kk0, _, _⟩ := hq.first HF7.out.par.good.ne
       have hpos : 0 < s2.1.length := zol.2 HF7.out.par.good.ne; by_cases hk : (zaB s2.1).f0 = 4
       . have hkd : ((zaB s2.1).f0 != 4) = false := by simpa using hk
         have HKn : acc = (zaS (mS (l, -1)) (l, -1)).1 /\ s2 = (zaS (mS (l, -1)) (l, -1)).2 := by
          have hK := HK.out; have h0 : zaS (mS s2) s2 = ([], s2) := by
           generalize mS s2 = n; cases n with
           | zero => rfl
           | succ n => unfold zaS; rw [if_neg (fun h => h.2 hk)]
          rw [h0, zoq] at hK; exact hK
         have HV2 : Hid (zbS s.data.toList = (acc, 0, 0)) := by
          show _ = _
          rw [HV.out, zhP, show l.length + 1 = mS (l, -1) from rfl, if_pos (by rw [<- HKn.2]; exact hb), <- HKn.1]
         have HB7 := znl (HB.out.grown HF7.out.grown HB.out.size (fun k hk => by injection hk with hk; omega))
         have r0 : wr.cell? ⟨w.heap.size, 0, none⟩ = some (.int .i64 0) := (zaa HR7.out 0).trans rfl; have r1 : wr.cell? ⟨w.heap.size, 1, none⟩ = some (.int .i64 0) := (zaa HR7.out 1).trans rfl; have f0 := zag HR7.out 0; have f1 := zag HR7.out 1; clear hbd hb hk hq HKn HK HV hO2; go_wp2_with (go_at_call 140; refine hO.mono ?_; rintro e w' ⟨rfl, rfl⟩)
         have hs := zcl (.int .i64 0) (.int .i64 0) HR7.out; have hB := (HB7.out.setCell (p := ⟨w.heap.size, 0, none⟩) (znp _) (.int .i64 0)).setCell (p := ⟨w.heap.size, 1, none⟩) (znp _) (.int .i64 0); have hA9 := Kd.R_set (Kd.R_set (Kd.R_lower HA7.out HB.out.size) HR7.out (by decide) 0 (.int .i64 0)) (zar HR7.out 0 (.int .i64 0) rfl) (by decide) 1 (.int .i64 0)
         generalize (wr.setCell ⟨w.heap.size, 0, none⟩ (.int .i64 0)).setCell ⟨w.heap.size, 1, none⟩ (.int .i64 0) = wE at hs hB hA9 |-; have g0 := (zaa hs 0).trans rfl; have g1 := (zaa hs 1).trans rfl; exact bodyPost_ret (v := .tuple #[.slice A acc.length c, .agg #[.int .i64 0, .int .i64 0]]) (by simp [results, Tryz.results111, go_sem, g0, g1]) rfl (by
          rw [HV2.out]; exact ⟨_, rfl, hA9, hB⟩)
       . have hkd : ((zaB s2.1).f0 != 4) = true := by simpa using hk
         have hN := fun W hW => zmJ g s2 W hW
         have hmn := zid HF7.out.par.good hb; have HKn : Hid (((acc ++ [(za8 s2).1]) ++ (zaS (mS (za8 s2).2) (za8 s2).2).1 = (zaS (mS (l, -1)) (l, -1)).1 /\ (zaS (mS (za8 s2).2) (za8 s2).2).2 = (zaS (mS (l, -1)) (l, -1)).2)) := by
          have hK := HK.out; obtain ⟨n, hn⟩ : ∃ n, mS s2 = n + 1 := ⟨mS s2 - 1, by omega⟩
          rw [hn, zaS, if_pos ⟨hb, hk⟩, zgX n (mS (za8 s2).2) (za8 s2).2 (inv_good.rule HF7.out.par.good) (by omega) (znp _)] at hK
          exact ⟨by rw [<- hK.1]; simp, hK.2⟩
         generalize (za8 s2).1 = x at HKn hN; generalize (za8 s2).2 = s3 at HKn hN hmn; have hal2 : acc.length <= 200000 := by
          have : mS (l, -1) <= 20002 := znv (zbL _) (by show l.length + 1 <= 20002; omega)
          omega
         clear hbd hb hk hq; go_wp2_with (first | (go_at_call 140; refine hO.mono ?_; rintro e w' ⟨rfl, rfl⟩) | (go_at_call 141; refine (hN _ HF7.out.par).mono ?_; rintro e w8 ⟨v1, v2, v3, v4, rfl, hx1, hx2, hx3, hx4, hp8, hg8⟩; obtain ⟨X1, d1, rfl, _, _⟩ := Kd.R_reads hx1; obtain ⟨X2, d2, rfl, _, _⟩ := Kd.R_reads hx2; obtain ⟨X3, d3, rfl, _, _⟩ := Kd.R_reads hx3; obtain ⟨X4, d4, rfl, _, _⟩ := Kd.R_reads hx4; have HX1 := znl (Kd.R_lower (Kd.R_new hx1 (Kd.R_own HA7.out).choose_spec) HF7.out.grown.size); have HX2 := znl (Kd.R_lower (Kd.R_new hx2 (Kd.R_own HA7.out).choose_spec) HF7.out.grown.size); have HX3 := znl (Kd.R_lower (Kd.R_new hx3 (Kd.R_own HA7.out).choose_spec) HF7.out.grown.size); have HX4 := znl (Kd.R_lower (Kd.R_new hx4 (Kd.R_own HA7.out).choose_spec) HF7.out.grown.size); have HF8 := znl (HF7.out.call hp8 hg8); have HR8 := znl (zaK HR7.out hg8 (fun e => by injection e with e; omega)); have HA8 := znl (zaw HA7.out hg8 HF7.out.lt); clear hx1 hx2 hx3 hx4 hp8 hg8) | ((with_reducible refine zaM (b := .append) (xs := #[.tmp 36, .tmp 39]) rfl ?_); at_builtin; refine Kd.R_append k45 (w0 := w8) wg.heap.size rfl (.tmp 36) (.tmp 39) 80 45 (.agg #[.string ⟨#[]⟩, .slice none 0 0, .slice none 0 0, .slice none 0 0, .slice none 0 0]) 112 rfl Tryz.underlying80 zhQ rfl (by decide) (by decide) (.slice A acc.length c) acc x [.string x.f0, .slice X1 x.f1.length d1, .slice X2 x.f2.length d2, .slice X3 x.f3.length d3, .slice X4 x.f4.length d4] (fun _ => True) (fun k_ => True /\ some k_ ≠ (Value.slice A acc.length c).ownBlock) rfl rfl (zhc _ _ _ x HX1.out HX2.out HX3.out HX4.out) (fun _ hk => hk) (fun _ _ => trivial) HA8.out (zno _ _) HF8.out.grown.size ?aL ?_; (case aL => omega); intro v1 w9 ho hb hg hat; obtain ⟨AN, cN, rfl, _, _⟩ := Kd.R_reads ho; have HA9 := znl ho; have HF9 := znl (HF8.out.row (Kd.R_own HA8.out).choose_spec (by decide) (by decide) (znp _) hb hg); have HR9 := znl (zaK HR8.out hg (Kd.R_ne HA8.out HR8.out (by decide))); clear ho hb hg hat))
         have hlen : acc.length + 1 = (acc ++ [x]).length := by simp
         go_roundg (mS s3)
         case measure => omega
         case rel => exact ⟨acc ++ [x], s3, AN, cN, by first | rfl | (simp only [znC, znD]), znp _, by rw [znC, znD]; omega, ⟨HKn.out⟩, ⟨HA9.out⟩, ⟨HF9.out⟩, ⟨HR9.out⟩⟩
     . have hbd : decide (s2.2 < 0) = false := by simpa using hb
       rw [hbd] at hO; have HKn : s2 = (zaS (mS (l, -1)) (l, -1)).2 := by
        have hK := HK.out; have h0 : zaS (mS s2) s2 = ([], s2) := by
         generalize mS s2 = n; cases n with
         | zero => rfl
         | succ n => unfold zaS; rw [if_neg (fun h => hb h.1)]
        rw [h0] at hK; exact hK.2
       have HV2 : Hid (zbS s.data.toList = ([], 1, s2.2)) := by
        show _ = _
        rw [HV.out, zhP, show l.length + 1 = mS (l, -1) from rfl, if_neg (by rw [<- HKn]; exact hb), <- HKn]
       have HB7 := znl (HB.out.grown HF7.out.grown HB.out.size (fun k hk => by injection hk with hk; omega))
       obtain ⟨b2, o2, cp, cur2, hq⟩ := HF7.out.par.has; have h1 : wr.cell? ⟨g, 1, none⟩ = some (.int .i64 s2.2) := (zaa hq.own 1).trans rfl; have r0 : wr.cell? ⟨w.heap.size, 0, none⟩ = some (.int .i64 0) := (zaa HR7.out 0).trans rfl; have r1 : wr.cell? ⟨w.heap.size, 1, none⟩ = some (.int .i64 0) := (zaa HR7.out 1).trans rfl; have f0 := zag HR7.out 0; have f1 := zag HR7.out 1; clear hbd hb hq HKn HK HV hO2; go_wp2_with (go_at_call 140; refine hO.mono ?_; rintro e w' ⟨rfl, rfl⟩)
       go_region
       all_goals
        have hs := zcl (.int .i64 1) (.int .i64 s2.2) HR7.out; have hB := (HB7.out.setCell (p := ⟨w.heap.size, 0, none⟩) (znp _) (.int .i64 1)).setCell (p := ⟨w.heap.size, 1, none⟩) (znp _) (.int .i64 s2.2); go_wp2; have hs2 := zaN hs; have hB2 := zbh hB; generalize ((wr.setCell ⟨w.heap.size, 0, none⟩ (.int .i64 1)).setCell ⟨w.heap.size, 1, none⟩ (.int .i64 s2.2)).drew = wE at hs2 hB2 |-; have g0 := (zaa hs2 0).trans rfl; have g1 := (zaa hs2 1).trans rfl; exact bodyPost_ret (v := .tuple #[.slice none 0 0, .agg #[.int .i64 1, .int .i64 s2.2]]) (by simp [results, Tryz.results111, go_sem, g0, g1]) rfl (by
         rw [HV2.out]; exact ⟨_, rfl, Kd.R_nil _ _ _ _ _, hB2⟩)

end Go.Proofs.YtdpgdnpddndeoaaGreatDoor.X
