/-
  What the cards lean on (part Q13): contracts of functions, by hand, and plain laws; what is printed by the kit's print for this seat is among them. What is not reached is left out.
-/
import Derived.BigQuiet
import Derived.BigRegion
import Derived.Deep.DeepCutAuto
import Derived.Deep.CutBlock
import Derived.Deep.RegionHeld3
import Derived.Test.YtdpgdnpddndeoaaGreatDoorQ12
import Derived.Test.YtdpgdnpddndeoaaGreatDoorQ6
import Derived.Test.YtdpgdnpddndeoaaGreatDoorQ7
import Derived.Test.YtdpgdnpddndeoaaGreatDoorQ11
set_option maxHeartbeats 8000000
set_option maxRecDepth 100000
set_option linter.unusedSimpArgs false
set_option linter.unusedVariables false
open Go.RowKit.Below renaming refl -> zpr
open Nat renaming le_refl -> zps, zero_le -> zqf
open Go.Lib renaming size_eq -> zp7
open List renaming getElem?_eq_getElem -> zpv, getD_eq_getElem?_getD -> zpw, length_map -> zp9, length_take -> zpD, getElem?_eq_some_iff -> zpN, take_succ_eq_append_getElem -> zpU, append_assoc -> zqG, take_of_length_le -> zqS
open Go.Proofs.Tryz renaming prog -> zp0
open ByteArray renaming empty -> zp1
open Go.Proofs.YtdpgdnpddndeoaaGreatDoorW.PrintWords.Kd renaming C_below -> zqO, string -> zp6, R_reads -> zql, R_below -> zqp
namespace Go.Proofs.YtdpgdnpddndeoaaGreatDoor
open Go.RowKit YtdpgdnpddndeoaaGreatDoorW.PrintWords
namespace X
open Go.Maps YtdpgdnpddndeoaaGreatDoorW.PrintMore YtdpgdnpddndeoaaGreatDoorW.PrintLast
theorem zlM (x : zar) (B2 : Option Addr) (c2 : Nat) (B3 : Option Addr) (c3 : Nat) (A : Option Addr) (c : Nat) (bs : List ByteArray) (w : World) (h3 : Kd.C zp6 w B3 x.f3.length x.f3) (hr : Kd.C zp6 w A bs.length bs) (_hc : bs.length <= c)
 (hm : mayC (zag x) = true) (hn : bs.length = x.f2.length) (hsz : ∀ b ∈ bs, b.size <= 4194304) (hop : x.f1 = 8) :
 Calls zp0 60 #[.agg #[.string x.f0, .int .i64 x.f1, .slice B2 x.f2.length c2, .slice B3 x.f3.length c3, .int .i64 x.f4], .slice A bs.length c] w (IsOf (zau (zag x) (zab bs)) w) := by
 obtain ⟨fop, f1, f5, f6, f7, f8, fn, fl⟩ := zbc hm; have e1 : (zag x).op = 8 := hop; have e2 : (zag x).args = bs.length := hn.symm; rw [e1] at f1 f5 f6 f7 f8; rw [e2] at f1 f5 f6; obtain ⟨y, rfl⟩ := zcu (f1 (by omega) (by omega))
 have hy := hsz y (by simp)
 obtain ⟨b, o, rfl, p0⟩ := zcC hr; have HP := zpo p0; clear p0; obtain ⟨f0, op, l2, l3, f4⟩ := x; dsimp only at *; subst hop; obtain ⟨z, z2, hl3⟩ : ∃ z z2, l3 = [z, z2] := by
  have h := (f8 rfl).1; unfold zag at h; dsimp only at h; rw [zp9] at h; match l3, h with
  | [z, z2], _ => exact ⟨z, z2, rfl⟩
 have h4 := h3; rw [hl3] at h4; rcases zaJ h4 with h0 | ⟨b3, o3, rfl, _, hcell3⟩
 . cases h0
 have q0 : w.cell? ⟨b3, o3, none⟩ = some (.string z) := hcell3 0 (by simp)
 have q2 : w.cell? ⟨b3, o3 + 1, none⟩ = some (.string z2) := hcell3 1 (by simp)
 have hz : z.size <= 100 := by
  have := fl z.data.toList (by unfold zag; rw [hl3]; simp)
  rw [<- zp7] at this; exact this
 have hz2 : z2.size <= 100 := by
  have := fl z2.data.toList (by unfold zag; rw [hl3]; simp)
  rw [<- zp7] at this; exact this
 have hz1 : 1 <= z.size := by
  have h := (f8 rfl).2; unfold zag at h; dsimp only at h; rw [hl3] at h; have h5 : z.data.toList ≠ [] := h; rw [zp7]; cases hd : z.data.toList with
  | nil => exact absurd hd h5
  | cons _ _ => simp
 have hM : zau (zag ⟨f0, 8, l2, l3, f4⟩) (zab [y]) = (zbr z.data.toList z2.data.toList y.size y.data.toList, true) := by
  have h5 : z.data.toList ≠ [] := by intro e; rw [zp7, e] at hz1; simp at hz1
  have h6 := zlc y.data.toList z.data.toList z2.data.toList h5; rw [<- zp7] at h6; rw [hl3, <- h6]; rfl
 rw [hM]; have HQ := zpo q0; have HQ2 := zpo q2; have hl30 : (0 : Int) < (l3.length : Int) := by rw [hl3]; simp
 have hl31 : (1 : Int) < (l3.length : Int) := by rw [hl3]; simp
 obtain ⟨R, hR⟩ : ∃ R, R = zbr z.data.toList z2.data.toList y.size y.data.toList := ⟨_, rfl⟩; rw [<- hR]; have HRr := zpo hR; clear hM hl3 hsz q0 q2 h4 hcell3 hR; have hab := (zpr w.heap.size w).alloc (zps _) (zbz f0 8 B2 l2.length c2 (some ⟨b3, o3, none⟩) l3.length c3 f4); have HK := zpo (zak w (.cells #[.string f0, .int .i64 8, .slice B2 l2.length c2, .slice (some ⟨b3, o3, none⟩) l3.length c3, .int .i64 f4] 24)); have HB1 := zpo hab; have HR := zpo (zqO hr hab); unfold zbz at HB1 HR; clear hab h3 hr hm hn fop f1 f5 f6 f7 f8 fn fl e1 e2; go_enter Tryz.func60, Tryz.ntmps60
 go_upto_region 1 with fail; generalize w.alloc (.cells #[.string f0, .int .i64 8, .slice B2 l2.length c2, .slice (some ⟨b3, o3, none⟩) l3.length c3, .int .i64 f4] 24) = w1 at HB1 HK HR |-; have k1 := bc1 HK.out; have k3 := bc3 HK.out; have q1 := zad HB1.out HQ.out; have d2 : ((8 : Int) == 2) = false := by decide
 have d3 : ((8 : Int) == 3) = false := by decide
 have d4 : ((8 : Int) == 4) = false := by decide
 have d5 : ((8 : Int) == 5) = false := by decide
 have d6 : ((8 : Int) == 6) = false := by decide
 have d7 : ((8 : Int) == 7) = false := by decide
 have d8 : ((8 : Int) == 8) = true := by decide
 have p1 := zad HB1.out HP.out; have hl : (0 : Int) < (([y] : List ByteArray).length : Int) := by simp
 have HK1 := zpo k3; have HP1 := zpo p1; have HQ1 := zpo q1; have HQ3 := zpo (zad HB1.out HQ2.out); clear p1 q1 k3; go_wp2_with fail; go_loopg [15, 16] y.size (fun gg s15 s16 wr => ∃ (kk n : Nat) (t : ByteArray), kk <= y.size /\ y.size - kk <= gg /\ s16 = .int .i64 kk /\ s15 = .string t /\ t.size <= kk * 101 /\ Aside0 (y.size - kk <= n /\ R = t.data.toList ++ zbr z.data.toList z2.data.toList n (y.data.toList.drop kk)) /\ Aside0 (Below w1.heap.size w1 wr))
 case atStart => exact ⟨0, y.size, ⟨#[]⟩, zqf _, by omega, rfl, rfl, zqf _, ⟨by omega, HRr.out⟩, ⟨zpr _ _⟩⟩
 case round =>
  obtain ⟨kk, n, t, hkk, hgk, rfl, rfl, ht, HT, HW⟩ := hrel; have k3 := zad HW.out HK1.out; have p1 := zad HW.out HP1.out; have q1 := zad HW.out HQ1.out; have q3 := zad HW.out HQ3.out; by_cases hlt : kk < y.size
  . have hltz : (kk : Int) < (y.size : Int) := by omega
    have hdrop : y.data.toList.drop kk = y[kk] :: y.data.toList.drop (kk + 1) := by rw [List.drop_eq_getElem_cons (by rw [<- zp7]; exact hlt)]; rfl
    obtain ⟨m, hn⟩ : ∃ m, n = m + 1 := ⟨n - 1, by have := HT.out.1; omega⟩
    have hT := HT.out; rw [hn, hdrop, zdc, <- hdrop] at hT; have hdl : (y.data.toList.drop kk).length = y.size - kk := by rw [List.length_drop, <- zp7]
    rw [hdl, <- zp7] at hT; have hb0 : (0 : Int) <= (kk : Int) := by omega
    have hdropS := hdrop; clear hdrop hdl hn; by_cases hroom : kk + z.size <= y.size
    . have hroomz : (kk : Int) + (z.size : Int) <= (y.size : Int) := by omega
      have hb1 : (kk : Int) <= (kk : Int) + (z.size : Int) := by omega
      have hex := zi8 y z kk; cases hd : ((y.extract kk (kk + z.size)).toList == z.toList) with
      | true =>
       rw [hd] at hex; have hex2 : (y.data.toList.drop kk).take z.size = z.data.toList := by rw [zp7]; simpa using hex.symm
       rw [if_pos ⟨by omega, hex2⟩, List.drop_drop, <- zqG, <- data_append] at hT
       have HT2 : Hid (y.size - (kk + z.size) <= m /\ R = (t ++ z2).data.toList ++ zbr z.data.toList z2.data.toList m (y.data.toList.drop (kk + z.size))) := ⟨by omega, hT.2⟩
       have ho : ¬ 9223372036854775807 < t.size + z2.size := by omega
       clear hT hex hex2 HT hdropS; go_wp2_with fail; go_quiet (fail)
       go_wp2_with fail; go_roundg (y.size - (kk + z.size))
       case measure => omega
       case rel => exact ⟨kk + z.size, m, t ++ z2, by omega, by omega, by first | rfl | go_num, by first | rfl | go_num, by rw [ByteArray.size_append]; omega, ⟨HT2.out⟩, ⟨by first | exact HW.out | exact zal HW.out _⟩⟩
      | false =>
       rw [hd] at hex; have hex2 : (y.data.toList.drop kk).take z.size ≠ z.data.toList := by
        intro e; rw [zp7] at e; rw [e] at hex; simp at hex
       rw [if_neg (fun h => hex2 h.2)] at hT
       have hx : (y.extract kk (kk + 1)).data.toList = [y[kk]] := by
        have e : (y.extract kk (kk + 1)).data.toList = (y.data.toList.drop kk).take 1 := by simp [ByteArray.data_extract]
        rw [e, hdropS]; rfl
       have hxz : (y.extract kk (kk + 1)).size = 1 := by rw [zp7, hx]; rfl
       have hb2 : (kk : Int) <= (kk : Int) + 1 := by omega
       have hb3 : (kk : Int) + 1 <= (y.size : Int) := by omega
       have ho : ¬ 9223372036854775807 < t.size + (y.extract kk (kk + 1)).size := by omega
       have HT2 : Hid (y.size - (kk + 1) <= m /\ R = (t ++ y.extract kk (kk + 1)).data.toList ++ zbr z.data.toList z2.data.toList m (y.data.toList.drop (kk + 1))) := by
        refine ⟨by omega, ?_⟩
        rw [hT.2, data_append, hx, zqG]; rfl
       clear hT hex hex2 HT hx hdropS; go_wp2_with fail; go_quiet (fail)
       go_wp2_with fail; go_roundg (y.size - (kk + 1))
       case measure => omega
       case rel => exact ⟨kk + 1, m, t ++ y.extract kk (kk + 1), by omega, by omega, by first | rfl | go_num, by first | rfl | go_num, by rw [ByteArray.size_append]; omega, ⟨HT2.out⟩, ⟨by first | exact HW.out | exact zal HW.out _⟩⟩
    . have hroomz : ¬ (kk : Int) + (z.size : Int) <= (y.size : Int) := by omega
      have hdd : decide ((kk : Int) + (z.size : Int) <= (y.size : Int)) = false := by simp [hroomz]
      rw [if_neg (fun h => hroom (by have := h.1; omega))] at hT
      have hx : (y.extract kk (kk + 1)).data.toList = [y[kk]] := by
       have e : (y.extract kk (kk + 1)).data.toList = (y.data.toList.drop kk).take 1 := by simp [ByteArray.data_extract]
       rw [e, hdropS]; rfl
      have hxz : (y.extract kk (kk + 1)).size = 1 := by rw [zp7, hx]; rfl
      have hb2 : (kk : Int) <= (kk : Int) + 1 := by omega
      have hb3 : (kk : Int) + 1 <= (y.size : Int) := by omega
      have ho : ¬ 9223372036854775807 < t.size + (y.extract kk (kk + 1)).size := by omega
      have HT2 : Hid (y.size - (kk + 1) <= m /\ R = (t ++ y.extract kk (kk + 1)).data.toList ++ zbr z.data.toList z2.data.toList m (y.data.toList.drop (kk + 1))) := by
       refine ⟨by omega, ?_⟩
       rw [hT.2, data_append, hx, zqG]; rfl
      clear hT HT hx hdropS; go_wp2_with fail; go_quiet (fail)
      go_wp2_with fail; go_roundg (y.size - (kk + 1))
      case measure => omega
      case rel => exact ⟨kk + 1, m, t ++ y.extract kk (kk + 1), by omega, by omega, by first | rfl | go_num, by first | rfl | go_num, by rw [ByteArray.size_append]; omega, ⟨HT2.out⟩, ⟨by first | exact HW.out | exact zal HW.out _⟩⟩
  . have hltz : ¬ (kk : Int) < (y.size : Int) := by omega
    obtain rfl : kk = y.size := by omega
    have hT := HT.out.2; rw [List.drop_of_length_le (by rw [<- zp7]; exact zps _)] at hT
    have hT2 : R = t.data.toList := by rw [hT]; cases n <;> simp [zbr]
    have HT2 := zpo hT2; clear hT hT2 HT; go_wp2_with fail; go_ret2
    exact ⟨by rw [HT2.out, zbh]; rfl, zac HB1.out HB1.out.size HW.out⟩
theorem zny (o : List zaa) (x : zaa) : zch o x <= o.length := (List.takeWhile_sublist _).length_le
theorem znZ (x : zaa) : ∀ (o : List zaa) (kk : Nat), kk <= zch o x -> ∀ h : kk < o.length, decide (o[kk] <= x) = decide (kk < zch o x) := by
 unfold zch; intro o; induction o with
 | nil => intro kk _ h; simp at h
 | cons y r ih =>
  intro kk hk h; cases hy : decide (y <= x) with
  | true =>
   rw [List.takeWhile_cons_of_pos (by simpa using hy)] at hk |-
   cases kk with
   | zero => simp [hy]
   | succ kk =>
    simp only [List.length_cons, List.getElem_cons_succ, Nat.add_lt_add_iff_right] at hk h |-; exact ih kk (by omega) h
  | false =>
   rw [List.takeWhile_cons_of_neg (by simp [hy])] at hk |-
   simp only [List.length_nil, Nat.le_zero] at hk; subst hk; simp [hy]
theorem zlG (y x : ByteArray) : (Op.bytesLess y.toList x.toList || y.toList == x.toList) = decide (y.data.toList <= x.data.toList) := by
 rw [za2, za2, Proofs.bytesLess_eq, Bool.eq_iff_iff]; simp only [Bool.or_eq_true, decide_eq_true_eq, beq_iff_eq]; constructor
 . rintro (h | h)
   . exact List.le_of_lt h
   . rw [h]; exact List.le_refl _
 . intro h
   by_cases e : y.data.toList = x.data.toList
   . exact .inr e
   . exact .inl (List.not_le.1 fun h2 => e (List.le_antisymm h h2))
theorem zjP (l : List zaa) (k : Nat) (h : k < l.length) : (l.take (k + 1)).foldl putS [] = putS ((l.take k).foldl putS []) l[k] := by
 rw [zpU h, List.foldl_append]; rfl
theorem zph (o : List ByteArray) (x : ByteArray) : zab (o.take (zch (zab o) x.data.toList) ++ [x] ++ o.drop (zch (zab o) x.data.toList)) = putS (zab o) x.data.toList := by
 unfold putS; generalize zch (zab o) x.data.toList = k; unfold zab; simp [List.map_take, List.map_drop]
theorem zkE (l : List zaa) : (l.foldl putS []).Perm l := by
 rw [zdg]; exact List.mergeSort_perm _ _
theorem zgu {W : World} {g : Nat} {x : ByteArray} (h : W.heap[g]? = some (.cells #[.string x] 9 (0, 0))) : Kd.C zp6 W (some ⟨g, 0, none⟩) 1 [x] := by
 refine ⟨rfl, by decide, fun _ => ⟨_, rfl, fun j p hj => ⟨[.string p], rfl, rfl, fun i u hu => ?_⟩⟩⟩
 obtain rfl : j = 0 := by have := (zpN.1 hj).1; simpa using this
 obtain rfl : i = 0 := by have := (zpN.1 hu).1; simpa using this
 simp only [List.getElem?_cons_zero, Option.some.injEq] at hj hu; rw [<- hu, <- hj]; exact (zaf h 0).trans rfl
section
variable {P : Program} {ops : Array Oper} {o : Oper} {a : Act} {Kc : Act -> World -> Prop} {Q : Exit -> Act -> World -> Prop} {W : World}
theorem zfZ (hw : Region.wanted o (yielded ops a.tmps) = true) (s x : Operand)
 (ho : o.op = .call { callee := .builtin .append, args := #[s, x], argTypes := #[22, 22] })
 (ht : P.underlying 22 = some (.slice 9)) (hinfo : (P.info? 9).map (fun i => (i.zero, i.size, i.bytes)) = some (some (.string ⟨#[]⟩), 1, 16))
 {base : Nat} {v : Value} {xs : List ByteArray} (hs : a.eval s = v) (HO : RS W base v xs) (hbase : base <= W.heap.size)
 (l : List ByteArray) (A : Option Addr) (c : Nat) (hx : a.eval x = .slice A l.length c) (HR : Kd.C zp6 W A l.length l) (hl : (xs.length + l.length) * 16 <= 140737488355328)
 (h : ∀ X d w1, RS w1 base (.slice X (xs ++ l).length d) (xs ++ l) -> Below base W w1 -> Kc (a.put o.dst (.slice X (xs ++ l).length d)) w1) :
 if Region.wanted o (yielded ops a.tmps) = true then Oper.wp P o a W Kc Q else Kc (a.put o.dst undef) W := by
 refine Kd.R_append_rows_step zp6 (w0 := W) base hw s x 22 9 (.string ⟨#[]⟩) 16 ho ht hinfo rfl (by decide) (by decide) v xs l A l.length c (fun _ => True) (fun k_ => True /\ some k_ ≠ v.ownBlock) hs hx HO HR (fun _ _ h => h) (fun _ hk => hk) (fun _ _ => trivial) (zpr _ _) hbase hl ?_
 intro v1 w1 ho1 hb1 _ _; obtain ⟨X, d, rfl, _, _⟩ := zql ho1; exact h X d w1 ho1 hb1
end
theorem zoO (x : zar) (B2 : Option Addr) (c2 : Nat) (B3 : Option Addr) (c3 : Nat) (A : Option Addr) (c : Nat) (bs : List ByteArray) (w : World) (h3 : Kd.C zp6 w B3 x.f3.length x.f3) (hr : Kd.C zp6 w A bs.length bs) (_hc : bs.length <= c)
 (hm : mayC (zag x) = true) (hn : bs.length = x.f2.length) (hsz : ∀ b ∈ bs, b.size <= 4194304) (hop : x.f1 = 3) :
 Calls zp0 60 #[.agg #[.string x.f0, .int .i64 x.f1, .slice B2 x.f2.length c2, .slice B3 x.f3.length c3, .int .i64 x.f4], .slice A bs.length c] w (IsOf (zau (zag x) (zab bs)) w) := by
 obtain ⟨fop, f1, f5, f6, f7, f8, fn, fl⟩ := zbc hm; have e1 : (zag x).op = 3 := hop; have e2 : (zag x).args = bs.length := hn.symm; rw [e1] at f1 f5 f6 f7 f8; rw [e2] at f1 f5 f6; obtain ⟨y, rfl⟩ := zcu (f1 (by omega) (by omega))
 have hy := hsz y (by simp)
 obtain ⟨b, o, rfl, p0⟩ := zcC hr; have HP := zpo p0; clear p0; have hM : zau (zag x) (zab [y]) = (zaC ((zab (zax y)).foldl putS []), true) := by
  unfold zax; rw [zcH, zdg]; unfold zau; rw [e1]; rfl
 have hWb : (zaC ((zab (zax y)).foldl putS [])).length <= 140737488355328 := by
  unfold zax; rw [zcH]; have hp := zkE (zbs y.data.toList); exact zeS y.data.toList _ (Nat.le_of_eq hp.length_eq) (fun x hx => hp.mem_iff.1 hx) (by rw [<- zp7]; exact hy)
 rw [hM]; have hLi := fun W => zen y W hy
 have hle : (zax y).length <= 4194304 := by unfold zax; rw [zp9]; exact Nat.le_trans (zdU _) (by rw [<- zp7]; exact hy)
 clear hM hsz; generalize zax y = L at hLi hle hWb |-; obtain ⟨f0, op, l2, l3, f4⟩ := x; dsimp only at *; subst hop; have HLi := zpo hLi; have HWb := zpo hWb; clear hLi hWb; have hab := (zpr w.heap.size w).alloc (zps _) (zbz f0 3 B2 l2.length c2 B3 l3.length c3 f4); have HK := zpo (zak w (.cells #[.string f0, .int .i64 3, .slice B2 l2.length c2, .slice B3 l3.length c3, .int .i64 f4] 24)); have HB1 := zpo hab; unfold zbz at HB1; clear hab h3 hr hm hn fop f1 f5 f6 f7 f8 fn fl e1 e2; go_enter Tryz.func60, Tryz.ntmps60
 go_upto_region 1 with fail; generalize w.alloc (.cells #[.string f0, .int .i64 3, .slice B2 l2.length c2, .slice B3 l3.length c3, .int .i64 f4] 24) = w1 at HB1 HK |-; have k1 := bc1 HK.out; have d2 : ((3 : Int) == 2) = false := by decide
 have d3 : ((3 : Int) == 3) = true := by decide
 have p1 := zad HB1.out HP.out; have hl : (0 : Int) < (([y] : List ByteArray).length : Int) := by simp
 go_wp2_with (go_at_call 24; refine (HLi.out _).mono ?_; rintro e w2 ⟨v, rfl, hR, hb2⟩; obtain ⟨A2, n2, rfl, hcap, hC2⟩ := zql hR; have HC2 := zpo hC2; have HB2 := zpo hb2; clear hcap hR hC2 hb2)
 go_loopg [6, 35] L.length (fun gg s6 s35 wr => ∃ (kk : Nat) (X : Option Addr) (d : Nat) (o : List ByteArray), kk <= L.length /\ L.length - kk <= gg /\ s35 = .int .i64 kk /\ s6 = .slice X o.length d /\ o.length = kk /\ Aside0 (zab o = ((zab L).take kk).foldl putS []) /\ Aside0 (RS wr w2.heap.size (.slice X o.length d) o) /\ Aside0 (Below w2.heap.size w2 wr))
 case atStart => exact ⟨0, none, 0, [], zqf _, by omega, rfl, rfl, rfl, ⟨rfl⟩, ⟨Kd.R_nil _ _ _ _ _⟩, ⟨zpr _ _⟩⟩
 case round =>
  obtain ⟨kk, X, d, o, hkk, hgk, rfl, rfl, hol, HM, HO, HB⟩ := hrel; by_cases hlt : kk < L.length
  . have hltz : (kk : Int) < (L.length : Int) := by omega
    rcases zaJ HC2.out with h0 | ⟨b2, o2, rfl, hb, hcell⟩
    . exfalso; rw [h0] at hlt; simp at hlt
    have hx := zad HB.out (hcell kk hlt); have hpi : L.getD kk zp1 = L[kk] := by rw [zpw, zpv hlt]; rfl
    rw [hpi] at hx; have hfo := zjP (zab L) kk (by rw [zaL]; exact hlt)
    rw [zce L kk hlt, <- HM.out] at hfo; generalize L[kk] = x at hx hfo; have hpl := zny (zab o) x.data.toList; rw [zaL] at hpl; have hst := znZ x.data.toList (zab o); have hpn := zph o x; rw [<- hfo] at hpn; generalize zch (zab o) x.data.toList = J at hpl hst hpn; have HSt := zpo hst; have HPn := zpo hpn; have hol2 : o.length <= 4194304 := by omega
    have HOL := zpo hol; clear hcell hpi hfo hst hpn hol hb; go_upto_block 3 with fail; go_cut [9] (fun s9 wi => s9 = .int .i64 J /\ Aside0 (Below wr.heap.size wr wi))
    case first =>
     go_wp2_with fail; go_loopg [9] o.length (fun gj s9 wi => ∃ jj : Nat, jj <= J /\ o.length - jj <= gj /\ s9 = .int .i64 jj /\ Aside0 (Below wr.heap.size wr wi))
     case atStart => exact ⟨0, zqf _, by omega, rfl, ⟨zpr _ _⟩⟩
     case round =>
      obtain ⟨jj, hjj, hgj, rfl, HI⟩ := hrel; by_cases hlj : jj < o.length
      . have hljz : (jj : Int) < (o.length : Int) := by omega
        obtain ⟨X', c', he, _, hrd⟩ := zql (zqp HO.out HI.out); obtain rfl : X = X' := by injection he
        rcases zaJ hrd with h0 | ⟨b3, o3, rfl, _, hc3⟩
        . exfalso; rw [h0] at hlj; simp at hlj
        have q1 := hc3 jj hlj; have hgd : o.getD jj zp1 = o[jj] := by rw [zpw, zpv hlj]; rfl
        have hs := HSt.out jj hjj (by rw [zaL]; exact hlj)
        rw [zce o jj hlj, <- zlG] at hs; rw [hgd] at q1; generalize o[jj] = y at q1 hs; clear hc3 hrd he hgd; have hd1 : decide ((jj : Int) < (o.length : Int)) = true := by simp; omega
        have hd2 : decide (jj < o.length) = true := by simp; omega
        by_cases hJ : jj < J
        . have hle : (Op.bytesLess y.toList x.toList || y.toList == x.toList) = true := by rw [hs]; simpa using hJ
          clear hs; go_wp2_with fail; go_roundg (o.length - (jj + 1))
          case measure => omega
          case rel => exact ⟨jj + 1, by omega, by omega, by first | rfl | go_num, ⟨HI.out⟩⟩
        . have hle : (Op.bytesLess y.toList x.toList || y.toList == x.toList) = false := by rw [hs]; simpa using hJ
          obtain rfl : jj = J := by omega
          clear hs; go_wp2_with fail; go_meet
          exact ⟨rfl, ⟨HI.out⟩⟩
      . have hljz : ¬ (jj : Int) < (o.length : Int) := by omega
        have hd1 : decide ((jj : Int) < (o.length : Int)) = false := by simp; omega
        have hd2 : decide (jj < o.length) = false := by simp; omega
        obtain rfl : jj = J := by omega
        go_wp2_with fail; go_meet
        exact ⟨rfl, ⟨HI.out⟩⟩
    case rest =>
     obtain ⟨rfl, HI⟩ := hcut; have HBW := zpo (zac HB.out HB.out.size HI.out); have hro := zqp HO.out HI.out; obtain ⟨X', c', he, hcap, hrd⟩ := zql hro; injection he with he1 he2 he3; subst he1 he3; obtain ⟨o1, ho1⟩ : ∃ q, q = o.take J := ⟨_, rfl⟩; obtain ⟨o3, ho3⟩ : ∃ q, q = o.drop J := ⟨_, rfl⟩; have HL1 : Hid (o1.length = J) := by show _ = _; rw [ho1, zpD]; omega
     have HL3 : Hid (o3.length = o.length - J) := by show _ = _; rw [ho3, List.length_drop]
     have HC1 : Hid (Kd.C zp6 wc X o1.length o1) := by show Kd.C _ _ _ _ _; rw [ho1]; exact Kd.C_take hrd hpl
     have HC3 : Hid (Kd.C zp6 wc (if d = J then X else Option.map (fun x => x.add J) X) o3.length o3) := by
      show Kd.C _ _ _ _ _
      have hq := Kd.C_drop hrd hpl hcap; rw [show J * Kd.string.sz = J from Nat.mul_one J] at hq
      rw [ho3]; exact hq
     have hpn := HPn.out; rw [<- ho1, <- ho3] at hpn; have HMn := zpo hpn; have hb1 : (J : Int) <= (o.length : Int) := by omega
     have hb2 : (o.length : Int) <= (d : Int) := by omega
     have hb3 : (J : Int) <= (d : Int) := by omega
     have hb0 : (0 : Int) <= (J : Int) := by omega
     have HBk : Hid (Below wc.heap.size wc wc.drew) := zpo (zaW (zpr _ _)); clear hro hrd ho1 ho3 he2 hpn; go_wp2_with fail; go_region_held3 (fun _ => True) (exact trivial)
      (first
       | (refine zdt (by rfl) (.tmp 55) rfl Tryz.underlying22 zbf o1 X d (by rw [HL1.out]; rfl) (zqO HC1.out (by first | exact HBk.out | exact zb9 HBk.out (.inr ⟨_, rfl⟩))) (by have h1 := HL1.out; omega) ?_; intro X1 d1 w4 ho hb; have HO1 := zpo (Kd.R_lower ho (by first | exact HBk.out.size | exact (zb9 HBk.out (.inr ⟨_, rfl⟩)).size)); (try first | (have HE := zpo (zah (zak wc (.cells #[.string x] 9)) hb)) | (have HE := zpo (zah (zaI (zak wc (.cells #[.string x] 9))) hb)) | (have HE := zpo (zah (zak wc.drew (.cells #[.string x] 9)) hb))); have HBk := zpo (zac HBk.out HBk.out.size (nxt hb (by first | exact .inl rfl | exact .inr ⟨_, rfl⟩))); clear ho hb)
       | (refine zfZ (by rfl) (.tmp 56) (.tmp 58) rfl Tryz.underlying22 zbf (v := .slice X1 o1.length d1) (by rfl) (zqp HO1.out ((zpr _ _).alloc (zps _) _)) (HBk.out.alloc HBk.out.size _).size [x] _ _ (by rfl) (zgu (zak _ _)) (by have h1 := HL1.out; simp; omega) ?_; intro X2 d2 w5 ho hb; have HO2 := zpo ho; have HBk := zpo ((HBk.out.alloc HBk.out.size _).trans hb); clear ho hb)
       | (refine zfZ (by rfl) (.tmp 56) (.tmp 58) rfl Tryz.underlying22 zbf (v := .slice X1 o1.length d1) (by rfl) HO1.out HBk.out.size [x] _ _ (by rfl) (zgu HE.out) (by have h1 := HL1.out; simp; omega) ?_; intro X2 d2 w5 ho hb; have HO2 := zpo ho; have HBk := zpo (HBk.out.trans hb); clear ho hb)
       | (refine zfZ (by rfl) (.tmp 59) (.tmp 62) rfl Tryz.underlying22 zbf (v := .slice X2 (o1 ++ [x]).length d2) (by rfl) HO2.out HBk.out.size o3 _ _ (by rw [HL3.out]; rfl) (zqO HC3.out HBk.out) (by have h1 := HL1.out; have h3 := HL3.out; simp; omega) ?_; intro X3 d3 w6 ho hb; have HO3 := zpo ho; have HBk := zpo (HBk.out.trans hb); clear ho hb))
     all_goals
      have HLn : Hid ((o1 ++ [x] ++ o3).length = kk + 1) := by show _ = _; have h1 := HL1.out; have h3 := HL3.out; have h2 := HOL.out; simp; omega
      go_wp2_with fail
     all_goals
      go_roundg (L.length - (kk + 1))
      case measure => omega
      case rel => exact ⟨kk + 1, X3, d3, o1 ++ [x] ++ o3, by omega, by omega, by first | rfl | go_num, by simp [Nat.add_assoc, Nat.add_comm 1], HLn.out, ⟨HMn.out⟩, ⟨Kd.R_lower HO3.out HBW.out.size⟩, ⟨zac HBW.out HBW.out.size HBk.out⟩⟩
  . have hltz : ¬ (kk : Int) < (L.length : Int) := by omega
    obtain rfl : kk = L.length := by omega
    have hM := HM.out; rw [zqS (by rw [zaL]; exact zps _)] at hM
    have HM2 := zpo hM; rw [<- hM] at HWb; obtain ⟨A5, n5, he5, _, hC5⟩ := zql HO.out; injection he5 with he1 he2 he3; subst he1 he3; have hWi := ziO X d o wr hC5 HWb.out; have HWi := zpo hWi; clear hC5 hWi hM he2 hol; go_wp2_with (go_at_call 88; refine HWi.out.mono ?_; rintro e w5 ⟨rfl, rfl⟩)
    go_ret2
    exact ⟨by rw [<- HM2.out]; rfl, zac (zac HB1.out HB1.out.size HB2.out) (Nat.le_trans HB1.out.size HB2.out.size) HB.out⟩
theorem zlw (x : zar) (B2 : Option Addr) (c2 : Nat) (B3 : Option Addr) (c3 : Nat) (A : Option Addr) (c : Nat) (bs : List ByteArray) (w : World) (h3 : Kd.C zp6 w B3 x.f3.length x.f3) (hr : Kd.C zp6 w A bs.length bs) (hc : bs.length <= c)
 (hm : mayC (zag x) = true) (hn : bs.length = x.f2.length) (hsz : ∀ b ∈ bs, b.size <= 4194304) :
 Calls zp0 60 #[.agg #[.string x.f0, .int .i64 x.f1, .slice B2 x.f2.length c2, .slice B3 x.f3.length c3, .int .i64 x.f4], .slice A bs.length c] w (IsOf (zau (zag x) (zab bs)) w) := by
 have h := (zbc hm).1; have hop : x.f1 = 1 \/ x.f1 = 2 \/ x.f1 = 3 \/ x.f1 = 4 \/ x.f1 = 5 \/ x.f1 = 6 \/ x.f1 = 7 \/ x.f1 = 8 \/ x.f1 = 9 := by
  have e : (zag x).op = x.f1 := rfl; rw [e] at h; omega
 rcases hop with h1 | h1 | h1 | h1 | h1 | h1 | h1 | h1 | h1
 . exact zkX x B2 c2 B3 c3 A c bs w h3 hr hc hm hn hsz h1
 . exact zjQ x B2 c2 B3 c3 A c bs w h3 hr hc hm hn hsz h1
 . exact zoO x B2 c2 B3 c3 A c bs w h3 hr hc hm hn hsz h1
 . exact zjA x B2 c2 B3 c3 A c bs w h3 hr hc hm hn hsz h1
 . exact zmm x B2 c2 B3 c3 A c bs w h3 hr hc hm hn hsz h1
 . exact zow x B2 c2 B3 c3 A c bs w h3 hr hc hm hn hsz h1
 . exact zjl x B2 c2 B3 c3 A c bs w h3 hr hc hm hn hsz h1
 . exact zlM x B2 c2 B3 c3 A c bs w h3 hr hc hm hn hsz h1
 . exact znG x B2 c2 B3 c3 A c bs w h3 hr hc hm hn hsz h1
theorem zmn (l : List ByteArray) (k : Nat) (h : k < l.length) : ((l.take (k + 1)).any fun b => decide (100 < b.size)) = (((l.take k).any fun b => decide (100 < b.size)) || decide (100 < l[k].size)) := by
 rw [zpU h, List.any_append]; simp
theorem ziv (l : List ByteArray) : ((l.map (·.data.toList)).any fun b => decide (100 < b.length)) = l.any fun b => decide (100 < b.size) := by
 rw [List.any_map]; congr 1
theorem znU {x : zar} (h : (x.f3.any fun b => decide (100 < b.size)) = true) : zcp (zag x) = false := by
 unfold zcp; cases zc6 (zag x) with
 | none => rfl
 | some p =>
  show (!((x.f3.map (·.data.toList)).any fun b => decide (100 < b.length)) && _) = false
  rw [ziv, h]; rfl
theorem zna {x : zar} {a k : Nat} (hw : zc6 (zag x) = some (a, k)) (h : (x.f3.any fun b => decide (100 < b.size)) = false) : zcp (zag x) = (x.f2.length == a && x.f3.length == k && (x.f1 != 8 || (x.f3.map (·.data.toList)).getD 0 [] != []) && decide (0 <= x.f4) && decide (x.f4 <= 2000) && (x.f1 == 9 || x.f4 == 0)) := by
 unfold zcp; rw [hw]; show (!((x.f3.map (·.data.toList)).any fun b => decide (100 < b.length)) && _) = _
 rw [ziv, h]; show (true && (_ && (x.f3.map (·.data.toList)).length == k && _ && _ && _ && _)) = _
 rw [zp9, Bool.true_and]; rfl
theorem zic (x : zar) (B2 : Option Addr) (c2 : Nat) (B3 : Option Addr) (c3 : Nat) (w : World) (h2 : Kd.C zp6 w B2 x.f2.length x.f2) (h3 : Kd.C zp6 w B3 x.f3.length x.f3) :
 Calls zp0 21 #[.agg #[.string x.f0, .int .i64 x.f1, .slice B2 x.f2.length c2, .slice B3 x.f3.length c3, .int .i64 x.f4]] w fun e w' => e = .returned (.bool (zcp (zag x))) /\ Below w.heap.size w w' := by
 have hl2 : x.f2.length <= 9223372036854775807 := h2.2.1; have hl3 : x.f3.length <= 9223372036854775807 := h3.2.1; have HLong := zpo (znU (x := x)); have HShort := zpo (fun a k => zna (x := x) (a := a) (k := k))
 have HWant : Hid (zc6 (zag x) = if x.f1 = 1 \/ x.f1 = 2 \/ x.f1 = 3 \/ x.f1 = 4 \/ x.f1 = 9 then some (1, 0) else if x.f1 = 5 then some (min x.f2.length 6, 0) else if x.f1 = 6 then some (0, 1) else if x.f1 = 7 then some (1, 1) else if x.f1 = 8 then some (1, 2) else none) := zpo rfl
 have HNone : Hid (zc6 (zag x) = none -> zcp (zag x) = false) := zpo (fun h => by unfold zcp; rw [h])
 obtain ⟨T, hT⟩ : ∃ T, T = zcp (zag x) := ⟨_, rfl⟩; rw [<- hT] at HLong HShort HNone |-; generalize zc6 (zag x) = wr0 at HShort HWant HNone; clear hT; obtain ⟨f0, f1, f2, f3, f4⟩ := x; dsimp only at *; have hab := (zpr w.heap.size w).alloc (zps _) (.cells #[.string f0, .int .i64 f1, .slice B2 f2.length c2, .slice B3 f3.length c3, .int .i64 f4] 24); have HK := zpo (zak w (.cells #[.string f0, .int .i64 f1, .slice B2 f2.length c2, .slice B3 f3.length c3, .int .i64 f4] 24)); have H3 := zpo (zqO h3 hab); have HB1 := zpo hab; clear h2 h3 hab; go_enter Tryz.func21, Tryz.ntmps21
 go_upto_block 0 with fail; generalize w.alloc (.cells #[.string f0, .int .i64 f1, .slice B2 f2.length c2, .slice B3 f3.length c3, .int .i64 f4] 24) = w1 at H3 HB1 HK |-; have k1 := bc1 HK.out; have k2 := bc2 HK.out; have k3 := bc3 HK.out; have k4 := bc4 HK.out; go_cut [3, 4] (fun s3 s4 wx => ∃ a k : Nat, s3 = .int .i64 a /\ s4 = .int .i64 k /\ Aside0 (wr0 = some (a, k)) /\ a <= 6 /\ k <= 2 /\ (f1 = 8 -> k = 2) /\ wx = w1)
 case first =>
  by_cases e1 : f1 = 1
  . have hW := HWant.out
    rw [if_pos (.inl e1)] at hW; have HW := zpo hW; clear hW; have d1 : (f1 == 1) = true := by simp [e1]
    have HE := zpo e1; clear e1; go_wp2_with fail; go_meet
    exact ⟨1, 0, rfl, rfl, ⟨HW.out⟩, by omega, by omega, by have := HE.out; omega, rfl⟩
  by_cases e2 : f1 = 2
  . have hW := HWant.out
    rw [if_pos (.inr (.inl e2))] at hW; have HW := zpo hW; clear hW; have d1 : (f1 == 1) = false := by simp [e1]
    have d2 : (f1 == 2) = true := by simp [e2]
    have HE := zpo e2; clear e1 e2; go_wp2_with fail; go_meet
    exact ⟨1, 0, rfl, rfl, ⟨HW.out⟩, by omega, by omega, by have := HE.out; omega, rfl⟩
  by_cases e3 : f1 = 3
  . have hW := HWant.out
    rw [if_pos (.inr (.inr (.inl e3)))] at hW; have HW := zpo hW; clear hW; have d1 : (f1 == 1) = false := by simp [e1]
    have d2 : (f1 == 2) = false := by simp [e2]
    have d3 : (f1 == 3) = true := by simp [e3]
    have HE := zpo e3; clear e1 e2 e3; go_wp2_with fail; go_meet
    exact ⟨1, 0, rfl, rfl, ⟨HW.out⟩, by omega, by omega, by have := HE.out; omega, rfl⟩
  by_cases e4 : f1 = 4
  . have hW := HWant.out
    rw [if_pos (.inr (.inr (.inr (.inl e4))))] at hW; have HW := zpo hW; clear hW; have d1 : (f1 == 1) = false := by simp [e1]
    have d2 : (f1 == 2) = false := by simp [e2]
    have d3 : (f1 == 3) = false := by simp [e3]
    have d4 : (f1 == 4) = true := by simp [e4]
    have HE := zpo e4; clear e1 e2 e3 e4; go_wp2_with fail; go_meet
    exact ⟨1, 0, rfl, rfl, ⟨HW.out⟩, by omega, by omega, by have := HE.out; omega, rfl⟩
  by_cases e9 : f1 = 9
  . have hW := HWant.out
    rw [if_pos (.inr (.inr (.inr (.inr e9))))] at hW; have HW := zpo hW; clear hW; have d1 : (f1 == 1) = false := by simp [e1]
    have d2 : (f1 == 2) = false := by simp [e2]
    have d3 : (f1 == 3) = false := by simp [e3]
    have d4 : (f1 == 4) = false := by simp [e4]
    have d9 : (f1 == 9) = true := by simp [e9]
    have HE := zpo e9; clear e1 e2 e3 e4 e9; go_wp2_with fail; go_meet
    exact ⟨1, 0, rfl, rfl, ⟨HW.out⟩, by omega, by omega, by have := HE.out; omega, rfl⟩
  by_cases e5 : f1 = 5
  . have hW := HWant.out
    rw [if_neg (by omega), if_pos e5] at hW
    have HW := zpo hW; clear hW; have d1 : (f1 == 1) = false := by simp [e1]
    have d2 : (f1 == 2) = false := by simp [e2]
    have d3 : (f1 == 3) = false := by simp [e3]
    have d4 : (f1 == 4) = false := by simp [e4]
    have d9 : (f1 == 9) = false := by simp [e9]
    have d5 : (f1 == 5) = true := by simp [e5]
    have HE := zpo e5; clear e1 e2 e3 e4 e9 e5; go_wp2_with fail; go_meet
    exact ⟨min f2.length 6, 0, by congr 1; omega, rfl, ⟨HW.out⟩, by omega, by omega, by have := HE.out; omega, rfl⟩
  by_cases e6 : f1 = 6
  . have hW := HWant.out
    rw [if_neg (by omega), if_neg e5, if_pos e6] at hW
    have HW := zpo hW; clear hW; have d1 : (f1 == 1) = false := by simp [e1]
    have d2 : (f1 == 2) = false := by simp [e2]
    have d3 : (f1 == 3) = false := by simp [e3]
    have d4 : (f1 == 4) = false := by simp [e4]
    have d9 : (f1 == 9) = false := by simp [e9]
    have d5 : (f1 == 5) = false := by simp [e5]
    have d6 : (f1 == 6) = true := by simp [e6]
    have HE := zpo e6; clear e1 e2 e3 e4 e9 e5 e6; go_wp2_with fail; go_meet
    exact ⟨0, 1, rfl, rfl, ⟨HW.out⟩, by omega, by omega, by have := HE.out; omega, rfl⟩
  by_cases e7 : f1 = 7
  . have hW := HWant.out
    rw [if_neg (by omega), if_neg e5, if_neg e6, if_pos e7] at hW
    have HW := zpo hW; clear hW; have d1 : (f1 == 1) = false := by simp [e1]
    have d2 : (f1 == 2) = false := by simp [e2]
    have d3 : (f1 == 3) = false := by simp [e3]
    have d4 : (f1 == 4) = false := by simp [e4]
    have d9 : (f1 == 9) = false := by simp [e9]
    have d5 : (f1 == 5) = false := by simp [e5]
    have d6 : (f1 == 6) = false := by simp [e6]
    have d7 : (f1 == 7) = true := by simp [e7]
    have HE := zpo e7; clear e1 e2 e3 e4 e9 e5 e6 e7; go_wp2_with fail; go_meet
    exact ⟨1, 1, rfl, rfl, ⟨HW.out⟩, by omega, by omega, by have := HE.out; omega, rfl⟩
  by_cases e8 : f1 = 8
  . have hW := HWant.out
    rw [if_neg (by omega), if_neg e5, if_neg e6, if_neg e7, if_pos e8] at hW
    have HW := zpo hW; clear hW; have d1 : (f1 == 1) = false := by simp [e1]
    have d2 : (f1 == 2) = false := by simp [e2]
    have d3 : (f1 == 3) = false := by simp [e3]
    have d4 : (f1 == 4) = false := by simp [e4]
    have d9 : (f1 == 9) = false := by simp [e9]
    have d5 : (f1 == 5) = false := by simp [e5]
    have d6 : (f1 == 6) = false := by simp [e6]
    have d7 : (f1 == 7) = false := by simp [e7]
    have d8 : (f1 == 8) = true := by simp [e8]
    have HE := zpo e8; clear e1 e2 e3 e4 e9 e5 e6 e7 e8; go_wp2_with fail; go_meet
    exact ⟨1, 2, rfl, rfl, ⟨HW.out⟩, by omega, by omega, by have := HE.out; omega, rfl⟩
  have hW := HWant.out; rw [if_neg (by omega), if_neg e5, if_neg e6, if_neg e7, if_neg e8] at hW
  have HF := zpo (HNone.out hW); clear hW; have d1 : (f1 == 1) = false := by simp [e1]
  have d2 : (f1 == 2) = false := by simp [e2]
  have d3 : (f1 == 3) = false := by simp [e3]
  have d4 : (f1 == 4) = false := by simp [e4]
  have d9 : (f1 == 9) = false := by simp [e9]
  have d5 : (f1 == 5) = false := by simp [e5]
  have d6 : (f1 == 6) = false := by simp [e6]
  have d7 : (f1 == 7) = false := by simp [e7]
  have d8 : (f1 == 8) = false := by simp [e8]
  clear e1 e2 e3 e4 e9 e5 e6 e7 e8; go_wp2_with fail; go_ret
  exact ⟨by rw [HF.out]; rfl, HB1.out⟩
 case rest =>
  obtain ⟨a, k, rfl, rfl, HW, ha6, hk2, h8, rfl⟩ := hcut; go_wp2_with fail; go_loopg [5] f3.length (fun gg s5 wr => ∃ kk : Nat, kk <= f3.length /\ f3.length - kk <= gg /\ s5 = .int .i64 kk /\ Aside0 (((f3.take kk).any fun b => decide (100 < b.size)) = false) /\ wr = wc)
  case atStart => exact ⟨0, zqf _, by omega, rfl, ⟨rfl⟩, rfl⟩
  case round =>
   obtain ⟨kk, hkk, hgk, rfl, HN, rfl⟩ := hrel; by_cases hlt : kk < f3.length
   . have hltz : (kk : Int) < (f3.length : Int) := by omega
     rcases zaJ H3.out with h0 | ⟨b, o, rfl, _, hcell⟩
     . exfalso; rw [h0] at hlt; simp at hlt
     have p0 := hcell kk hlt; have hpi : f3.getD kk zp1 = f3[kk] := by rw [zpw, zpv hlt]; rfl
     rw [hpi] at p0; have hst := zmn f3 kk hlt; rw [HN.out, Bool.false_or] at hst; have hmem := List.getElem_mem hlt; have hlg : decide (100 < f3[kk].size) = true -> T = false := fun h => HLong.out (List.any_eq_true.2 ⟨f3[kk], hmem, h⟩)
     generalize f3[kk] = y at p0 hst hlg; clear hpi hcell hmem; by_cases hy : 100 < y.size
     . have hyz : (100 : Int) < (y.size : Int) := by omega
       have HF := zpo (hlg (by simpa using hy))
       clear hst hlg; go_wp2_with fail; go_ret
       exact ⟨by rw [HF.out]; rfl, HB1.out⟩
     . have hyz : ¬ (100 : Int) < (y.size : Int) := by omega
       have HST := zpo hst; clear hst hlg; go_wp2_with fail; go_roundg (f3.length - (kk + 1))
       case measure => omega
       case rel => exact ⟨kk + 1, by omega, by omega, by go_num, ⟨by rw [HST.out]; simpa using hy⟩, rfl⟩
   . have hltz : ¬ (kk : Int) < (f3.length : Int) := by omega
     obtain rfl : kk = f3.length := by omega
     have hN := HN.out; rw [List.take_length] at hN; have hsh := HShort.out a k HW.out hN; have HSh := zpo hsh; clear hN hsh; by_cases q1 : f2.length = a
     . have d1 : ((f2.length : Int) == (a : Int)) = true := by simp [q1]
       by_cases q2 : f3.length = k
       . have d2 : ((f3.length : Int) == (k : Int)) = true := by simp [q2]
         by_cases q3 : f1 = 8
         . have d8 : (f1 == 8) = true := by simp [q3]
           have e8 : (f1 != 8) = false := by simp [q3]
           have hk2 := h8 q3; have hlen0 : (0 : Int) < (f3.length : Int) := by omega
           rcases zaJ H3.out with h0 | ⟨b, o, rfl, _, hcell⟩
           . exfalso; rw [h0] at hlen0; simp at hlen0
           have p0 := hcell 0 (by omega)
           rw [Nat.add_zero] at p0; have hsp : (f3.map (·.data.toList)).getD 0 [] = (f3.getD 0 zp1).data.toList := by cases f3 <;> rfl
           rw [hsp] at HSh; generalize f3.getD 0 zp1 = y at p0 HSh; clear hcell hsp; by_cases q6 : y.data.toList = []
           . have dy : y.toList = [] := by rw [za2]; exact q6
             have HF : Hid (T = false) := by show _ = _; first | (exfalso; omega) | (rw [HSh.out]; simp [q1, q2, q3, q6])
             clear HSh HShort HLong HNone HWant HW h8 q1 q2 q3 q6 hk2; go_wp2_with fail; repeat (go_quiet (fail); try go_wp2)
             go_ret
             exact ⟨by rw [HF.out]; rfl, by first | exact HB1.out | exact zal HB1.out _⟩
           . have dy : ¬ y.toList = [] := by rw [za2]; exact q6
             have dz : (y.toList == []) = false := by simp [dy]
             have dw : (y.toList != []) = true := by simp [dy]
             by_cases q4 : (0 : Int) <= f4
             . skip
               by_cases q5 : f4 <= (2000 : Int)
               . skip
                 by_cases q9 : f1 = 9
                 . have d9 : (f1 == 9) = true := by simp [q9]
                   have HF : Hid (T = true) := by show _ = _; first | (exfalso; omega) | (rw [HSh.out]; simp [q1, q2, q3, q6, q4, q5, q9])
                   clear HSh HShort HLong HNone HWant HW h8 q1 q2 q3 q6 q9 hk2; go_wp2_with fail; repeat (go_quiet (fail); try go_wp2)
                   go_ret
                   exact ⟨by rw [HF.out]; rfl, by first | exact HB1.out | exact zal HB1.out _⟩
                 . have d9 : (f1 == 9) = false := by simp [q9]
                   by_cases q0 : f4 = 0
                   . have d0 : (f4 == 0) = true := by simp [q0]
                     have HF : Hid (T = true) := by show _ = _; first | (exfalso; omega) | (rw [HSh.out]; simp [q1, q2, q3, q6, q4, q5, q9, q0])
                     clear HSh HShort HLong HNone HWant HW h8 q1 q2 q3 q6 q9 q0 hk2; go_wp2_with fail; repeat (go_quiet (fail); try go_wp2)
                     go_ret
                     exact ⟨by rw [HF.out]; rfl, by first | exact HB1.out | exact zal HB1.out _⟩
                   . have d0 : (f4 == 0) = false := by simp [q0]
                     have HF : Hid (T = false) := by show _ = _; first | (exfalso; omega) | (rw [HSh.out]; simp [q1, q2, q3, q6, q4, q5, q9, q0])
                     clear HSh HShort HLong HNone HWant HW h8 q1 q2 q3 q6 q9 q0 hk2; go_wp2_with fail; repeat (go_quiet (fail); try go_wp2)
                     go_ret
                     exact ⟨by rw [HF.out]; rfl, by first | exact HB1.out | exact zal HB1.out _⟩
               . skip
                 have HF : Hid (T = false) := by show _ = _; first | (exfalso; omega) | (rw [HSh.out]; simp [q1, q2, q3, q6, q4, q5])
                 clear HSh HShort HLong HNone HWant HW h8 q1 q2 q3 q6 hk2; go_wp2_with fail; repeat (go_quiet (fail); try go_wp2)
                 go_ret
                 exact ⟨by rw [HF.out]; rfl, by first | exact HB1.out | exact zal HB1.out _⟩
             . skip
               have HF : Hid (T = false) := by show _ = _; first | (exfalso; omega) | (rw [HSh.out]; simp [q1, q2, q3, q6, q4])
               clear HSh HShort HLong HNone HWant HW h8 q1 q2 q3 q6 hk2; go_wp2_with fail; repeat (go_quiet (fail); try go_wp2)
               go_ret
               exact ⟨by rw [HF.out]; rfl, by first | exact HB1.out | exact zal HB1.out _⟩
         . have d8 : (f1 == 8) = false := by simp [q3]
           have e8 : (f1 != 8) = true := by simp [q3]
           by_cases q4 : (0 : Int) <= f4
           . skip
             by_cases q5 : f4 <= (2000 : Int)
             . skip
               by_cases q9 : f1 = 9
               . have d9 : (f1 == 9) = true := by simp [q9]
                 have HF : Hid (T = true) := by show _ = _; first | (exfalso; omega) | (rw [HSh.out]; simp [q1, q2, q3, q4, q5, q9])
                 clear HSh HShort HLong HNone HWant HW h8 q1 q2 q3 q9; go_wp2_with fail; repeat (go_quiet (fail); try go_wp2)
                 go_ret
                 exact ⟨by rw [HF.out]; rfl, by first | exact HB1.out | exact zal HB1.out _⟩
               . have d9 : (f1 == 9) = false := by simp [q9]
                 by_cases q0 : f4 = 0
                 . have d0 : (f4 == 0) = true := by simp [q0]
                   have HF : Hid (T = true) := by show _ = _; first | (exfalso; omega) | (rw [HSh.out]; simp [q1, q2, q3, q4, q5, q9, q0])
                   clear HSh HShort HLong HNone HWant HW h8 q1 q2 q3 q9 q0; go_wp2_with fail; repeat (go_quiet (fail); try go_wp2)
                   go_ret
                   exact ⟨by rw [HF.out]; rfl, by first | exact HB1.out | exact zal HB1.out _⟩
                 . have d0 : (f4 == 0) = false := by simp [q0]
                   have HF : Hid (T = false) := by show _ = _; first | (exfalso; omega) | (rw [HSh.out]; simp [q1, q2, q3, q4, q5, q9, q0])
                   clear HSh HShort HLong HNone HWant HW h8 q1 q2 q3 q9 q0; go_wp2_with fail; repeat (go_quiet (fail); try go_wp2)
                   go_ret
                   exact ⟨by rw [HF.out]; rfl, by first | exact HB1.out | exact zal HB1.out _⟩
             . skip
               have HF : Hid (T = false) := by show _ = _; first | (exfalso; omega) | (rw [HSh.out]; simp [q1, q2, q3, q4, q5])
               clear HSh HShort HLong HNone HWant HW h8 q1 q2 q3; go_wp2_with fail; repeat (go_quiet (fail); try go_wp2)
               go_ret
               exact ⟨by rw [HF.out]; rfl, by first | exact HB1.out | exact zal HB1.out _⟩
           . skip
             have HF : Hid (T = false) := by show _ = _; first | (exfalso; omega) | (rw [HSh.out]; simp [q1, q2, q3, q4])
             clear HSh HShort HLong HNone HWant HW h8 q1 q2 q3; go_wp2_with fail; repeat (go_quiet (fail); try go_wp2)
             go_ret
             exact ⟨by rw [HF.out]; rfl, by first | exact HB1.out | exact zal HB1.out _⟩
       . have d2 : ((f3.length : Int) == (k : Int)) = false := by simp; omega
         have HF : Hid (T = false) := by show _ = _; first | (exfalso; omega) | (rw [HSh.out]; simp [q1, q2])
         clear HSh HShort HLong HNone HWant HW h8 q1 q2; go_wp2_with fail; repeat (go_quiet (fail); try go_wp2)
         go_ret
         exact ⟨by rw [HF.out]; rfl, by first | exact HB1.out | exact zal HB1.out _⟩
     . have d1 : ((f2.length : Int) == (a : Int)) = false := by simp; omega
       have HF : Hid (T = false) := by show _ = _; first | (exfalso; omega) | (rw [HSh.out]; simp [q1])
       clear HSh HShort HLong HNone HWant HW h8 q1; go_wp2_with fail; repeat (go_quiet (fail); try go_wp2)
       go_ret
       exact ⟨by rw [HF.out]; rfl, by first | exact HB1.out | exact zal HB1.out _⟩
theorem zlk (x : zar) (B2 : Option Addr) (c2 : Nat) (B3 : Option Addr) (c3 : Nat) (A : Option Addr) (c : Nat) (vs : List SVal) (w : World) (h2 : Kd.C zp6 w B2 x.f2.length x.f2) (h3 : Kd.C zp6 w B3 x.f3.length x.f3)
 (hr : Kd.C k34 w A vs.length vs) (hsz : (vs.any fun v => !v.f0) = false -> ∀ v ∈ vs, v.f1.size <= 4194304) :
 Calls zp0 26 #[.agg #[.string x.f0, .int .i64 x.f1, .slice B2 x.f2.length c2, .slice B3 x.f3.length c3, .int .i64 x.f4], .slice A vs.length c] w (zdb (valS (doP (zag x) (vs.map valO))) w) := by
 have hlen : vs.length <= 9223372036854775807 := hr.2.1; have hl2 : x.f2.length <= 9223372036854775807 := h2.2.1; obtain ⟨T, hT⟩ : ∃ T, T = doP (zag x) (vs.map valO) := ⟨_, rfl⟩; rw [<- hT]; unfold doP zeB at hT; rw [zp9] at hT; have HT := zpo hT; have hW : Below w.heap.size w ((w.alloc (.cells #[.string x.f0, .int .i64 x.f1, .slice B2 x.f2.length c2, .slice B3 x.f3.length c3, .int .i64 x.f4] 24)).alloc (.cells #[.bool false, .string ⟨#[]⟩] 34)) :=
  ((zpr w.heap.size w).alloc (zps _) _).alloc (by simp) _
 have HK := zpo (zah (zak w (.cells #[.string x.f0, .int .i64 x.f1, .slice B2 x.f2.length c2, .slice B3 x.f3.length c3, .int .i64 x.f4] 24)) ((zpr _ _).alloc (zps _) (.cells #[.bool false, .string ⟨#[]⟩] 34))); have HZ := zpo (zak (w.alloc (.cells #[.string x.f0, .int .i64 x.f1, .slice B2 x.f2.length c2, .slice B3 x.f3.length c3, .int .i64 x.f4] 24)) (.cells #[.bool false, .string ⟨#[]⟩] 34)); have hn1 : (w.alloc (.cells #[.string x.f0, .int .i64 x.f1, .slice B2 x.f2.length c2, .slice B3 x.f3.length c3, .int .i64 x.f4] 24)).heap.size = w.heap.size + 1 := by simp
 rw [hn1] at HZ; have HB := zpo hW; have H2 := zpo (zqO h2 hW); have H3 := zpo (zqO h3 hW); have HR := zpo (zqO hr hW); have HS := zpo hsz; have HLs := zpo hlen; clear hT hW h2 h3 hr hsz hn1; go_enter Tryz.func26, Tryz.ntmps26
 go_upto_if 19 with fail; generalize (w.alloc (.cells #[.string x.f0, .int .i64 x.f1, .slice B2 x.f2.length c2, .slice B3 x.f3.length c3, .int .i64 x.f4] 24)).alloc (.cells #[.bool false, .string ⟨#[]⟩] 34) = w1 at HB HK HZ H2 H3 HR |-; have hM := zic x B2 c2 B3 c3 w1 H2.out H3.out; rw [<- zh1] at hM; have j0 := bc0 HK.out; have j1 := bc1 HK.out; have j2 := bc2 HK.out; have j3 := bc3 HK.out; have j4 := bc4 HK.out; have hT := HT.out; cases hm : mayC (zag x) with
 | false =>
  rw [if_pos (.inl hm)] at hT; rw [hm] at hM; have HV : Hid (valS T = ⟨false, ⟨#[]⟩⟩) := by show _ = _; rw [hT]; rfl
  have HM := zpo hM; clear hT HT hM hm; go_wp2_with (first | (go_at_call 21; refine HM.out.mono ?_; rintro e w2 ⟨rfl, hb2⟩; have HB2 := zpo (zac HB.out HB.out.size hb2); have HZ2 := zpo (zah HZ.out hb2); have z0 := bc0 HZ2.out; have z1 := bc1 HZ2.out; have y0 := zai HZ2.out 0; have y1 := zai HZ2.out 1; clear hb2))
  exact zcc rfl rfl rfl HZ2.out ⟨by rw [HV.out]; rfl, zcg HB2.out _ _⟩
 | true =>
  rw [hm] at hM; have HM := zpo hM; have HMy := zpo hm; clear hT hM hm; by_cases hn : vs.length = x.f2.length
  . have d0 : ((vs.length : Int) != (x.f2.length : Int)) = false := by simp [hn]
    have HN := zpo hn; have HAL : Hid (vs.length <= 6) := by
     show _ <= _
     obtain ⟨g1, g2, g3, _⟩ := zbc HMy.out; have ha : (zag x).args = vs.length := hn.symm; rw [ha] at g2 g3; by_cases h5 : (zag x).op = 5
     . exact g3 h5
     . by_cases h6 : (zag x).op = 6
       . obtain ⟨_, _, _, g4, _⟩ := zbc HMy.out
         have := (g4 h6).1; rw [ha] at this; omega
       . have := g2 h5 h6
         omega
    clear hn; go_wp2_with (first | (go_at_call 21; refine HM.out.mono ?_; rintro e w2 ⟨rfl, hb2⟩; have HB2 := zpo (zac HB.out HB.out.size hb2); have HK2 := zpo (zah HK.out hb2); have HZ2 := zpo (zah HZ.out hb2); have i2 := bc2 HK2.out; have HR2 := zpo (zqO HR.out hb2); have H22 := zpo (zqO H2.out hb2); have H32 := zpo (zqO H3.out hb2); clear hb2))
    go_loopg [5, 6] vs.length (fun gg s5 s6 wr => ∃ kk : Nat, kk <= vs.length /\ vs.length - kk <= gg /\ s6 = .int .i64 kk /\ Aside0 (RS wr w2.heap.size s5 ((vs.take kk).map (·.f1))) /\ Aside0 (((vs.take kk).any fun v => !v.f0) = false) /\ Aside0 (Below w2.heap.size w2 wr))
    case atStart => exact ⟨0, zqf _, by omega, rfl, ⟨Kd.R_nil _ _ _ _ _⟩, ⟨rfl⟩, ⟨zpr _ _⟩⟩
    case round =>
     obtain ⟨kk, hkk, hgk, rfl, HO, HA, HW⟩ := hrel; by_cases hlt : kk < vs.length
     . have hltz : (kk : Int) < (vs.length : Int) := by omega
       obtain ⟨b, o, rfl, p0, p1⟩ := zcR (zqO HR2.out HW.out) kk hlt; have hal : vs.length <= 6 := HAL.out; have hml : ((vs.take kk).map (·.f1)).length = kk := by rw [zp9, zpD]; omega
       have HML := zpo hml; have HSucc : Hid ((vs.take (kk + 1)).map (·.f1) = (vs.take kk).map (·.f1) ++ [vs[kk].f1]) := by show _ = _; rw [zpU hlt, List.map_append]; rfl
       have HAny : Hid (((vs.take (kk + 1)).any fun v => !v.f0) = (((vs.take kk).any fun v => !v.f0) || !vs[kk].f0)) := by show _ = _; rw [zpU hlt, List.any_append]; simp
       have HMem : Hid (vs[kk] ∈ vs) := List.getElem_mem hlt; generalize vs[kk] = y at p0 p1 HSucc HAny HMem; clear hml; cases hok : y.f0 with
       | false =>
        rw [hok] at p0; have HV : Hid (valS T = ⟨false, ⟨#[]⟩⟩) := by
         have hany : ((vs.map valO).any fun x => x.isNone) = true := by
          rw [List.any_map]; refine List.any_eq_true.2 ⟨y, HMem.out, ?_⟩; show (valO y).isNone = true
          unfold valO; rw [hok]; rfl
         show _ = _
         rw [HT.out, if_pos (.inr (.inr hany))]; rfl
        have HZ3 := zpo (zah HZ2.out HW.out); have z0 := bc0 HZ3.out; have z1 := bc1 HZ3.out; have y0 := zai HZ3.out 0; have y1 := zai HZ3.out 1; have HB3 := zpo (zac HB2.out HB2.out.size HW.out); clear hok; go_wp2_with fail; exact zcc rfl rfl rfl HZ3.out ⟨by rw [HV.out]; rfl, zcg HB3.out _ _⟩
       | true =>
        rw [hok] at p0; have HA2 : Hid (((vs.take (kk + 1)).any fun v => !v.f0) = false) := by show _ = _; rw [HAny.out, HA.out, hok]; rfl
        clear hok; go_wp2_with (first | ((with_reducible refine zaD (b := .append) (xs := #[.tmp 34, .tmp 40]) rfl ?_); at_builtin; refine Kd.R_append zp6 (w0 := w2) w2.heap.size rfl (.tmp 34) (.tmp 40) 22 9 (.string ⟨#[]⟩) 16 rfl Tryz.underlying22 zbf rfl (by decide) (by decide) u5 ((vs.take kk).map (·.f1)) y.f1 [.string y.f1] (fun _ => True) (fun k_ => True /\ some k_ ≠ u5.ownBlock) rfl rfl rfl (fun _ hk => hk) (fun _ _ => trivial) HO.out HW.out HW.out.size ?aL ?_; (case aL => (have h1 := HML.out; omega)); intro v1 w4 ho hb hg hat; have HO4 : Hid (RS w4 w2.heap.size v1 ((vs.take (kk + 1)).map (·.f1))) := (by show RS _ _ _ _; rw [HSucc.out]; exact ho); have HB4 := zpo hb; clear ho hb hg hat))
        go_roundg (vs.length - (kk + 1))
        case measure => omega
        case rel => exact ⟨kk + 1, by omega, by omega, by first | rfl | go_num, ⟨HO4.out⟩, ⟨HA2.out⟩, ⟨HB4.out⟩⟩
     . have hltz : ¬ (kk : Int) < (vs.length : Int) := by omega
       obtain rfl : kk = vs.length := by omega
       have hO := HO.out; have hA := HA.out; rw [List.take_length] at hO hA; obtain ⟨A5, n5, rfl, hc5, hC5⟩ := zql hO; have hlm : (vs.map (·.f1)).length = vs.length := zp9 ..; rw [hlm] at hc5; obtain ⟨hvn, hva⟩ := zfC vs hA; have hOf := zlw x B2 c2 B3 c3 A5 n5 (vs.map (·.f1)) wr (zqO H32.out HW.out) hC5 (by rw [hlm]; exact hc5) HMy.out (by rw [hlm]; exact HN.out) (fun b hb => by
        obtain ⟨v, hv, rfl⟩ := List.mem_map.1 hb; exact HS.out hA v hv)
       have hT := HT.out; rw [if_neg (by
        rintro (h | h | h)
        . rw [HMy.out] at h; cases h
        . exact h HN.out
        . rw [hva] at h; cases h)] at hT
       have hvn2 : (vs.map valO).map (·.getD []) = zab (vs.map (·.f1)) := hvn; rw [hvn2] at hT; rw [hlm] at hOf; generalize zau (zag x) (zab (vs.map (·.f1))) = m at hOf hT; obtain ⟨t, ok⟩ := m; unfold IsOf at hOf; dsimp only at hT hOf; have ht : (mk t).size = t.length := zaX t; have HOf := zpo hOf; have HTt := zpo hT; have HKr := zpo (zah HK2.out HW.out); have HZr := zpo (zah HZ2.out HW.out); have HBr := zpo (zac HB2.out HB2.out.size HW.out); have r0 := bc0 HKr.out; have r1 := bc1 HKr.out; have r2 := bc2 HKr.out; have r3 := bc3 HKr.out; have r4 := bc4 HKr.out; clear hO hA hC5 hvn hva hvn2 hOf hT hlm hc5; cases ok with
       | false =>
        have HV : Hid (valS T = ⟨false, ⟨#[]⟩⟩) := by show _ = _; rw [HTt.out, if_pos (.inl rfl)]; rfl
        clear ht; go_wp2_with (first | (go_at_call 60; refine HOf.out.mono ?_; rintro e w7 ⟨rfl, hb7⟩; have HB7 := zpo (zac HBr.out HBr.out.size hb7); have HZ7 := zpo (zah HZr.out hb7); have z0 := bc0 HZ7.out; have z1 := bc1 HZ7.out; have y0 := zai HZ7.out 0; have y1 := zai HZ7.out 1; clear hb7))
        exact zcc rfl rfl rfl HZ7.out ⟨by rw [HV.out]; rfl, zcg HB7.out _ _⟩
       | true =>
        by_cases hlong : 2000 < t.length
        . have HV : Hid (valS T = ⟨false, ⟨#[]⟩⟩) := by show _ = _; rw [HTt.out, if_pos (.inr hlong)]; rfl
          have hd : decide ((2000 : Int) < ((mk t).size : Int)) = true := by rw [ht]; simp; omega
          have hd2 : (2000 : Int) < ((mk t).size : Int) := by rw [ht]; omega
          clear ht hlong; go_wp2_with (first | (go_at_call 60; refine HOf.out.mono ?_; rintro e w7 ⟨rfl, hb7⟩; have HB7 := zpo (zac HBr.out HBr.out.size hb7); have HZ7 := zpo (zah HZr.out hb7); have z0 := bc0 HZ7.out; have z1 := bc1 HZ7.out; have y0 := zai HZ7.out 0; have y1 := zai HZ7.out 1; clear hb7))
          exact zcc rfl rfl rfl HZ7.out ⟨by rw [HV.out]; rfl, zcg HB7.out _ _⟩
        . have HV : Hid (valS T = ⟨true, mk t⟩) := by
           show _ = _
           rw [HTt.out, if_neg (by rintro (h | h); cases h; exact hlong h)]
           rfl
          have hd : decide ((2000 : Int) < ((mk t).size : Int)) = false := by rw [ht]; simp; omega
          have hd2 : ¬ (2000 : Int) < ((mk t).size : Int) := by rw [ht]; omega
          have hd3 : ¬ 2000 < (mk t).size := by rw [ht]; exact hlong
          have hd4 : decide (2000 < (mk t).size) = false := by simp [hd3]
          clear ht hlong; generalize mk t = tt at HOf HV hd hd2 hd3 hd4; go_wp2_with (first | (go_at_call 60; refine HOf.out.mono ?_; rintro e w7 ⟨rfl, hb7⟩; have HB7 := zpo (zac HBr.out HBr.out.size hb7); have HZ7 := zpo (zah HZr.out hb7); have z0 := bc0 HZ7.out; have z1 := bc1 HZ7.out; have y0 := zai HZ7.out 0; have y1 := zai HZ7.out 1; clear hb7))
          exact zcc rfl rfl rfl HZ7.out ⟨by rw [HV.out]; rfl, zcg HB7.out _ _⟩
  . have d0 : ((vs.length : Int) != (x.f2.length : Int)) = true := by simp; omega
    have HV : Hid (valS T = ⟨false, ⟨#[]⟩⟩) := by show _ = _; rw [HT.out, if_pos (.inr (.inl hn))]; rfl
    clear hn; go_wp2_with (first | (go_at_call 21; refine HM.out.mono ?_; rintro e w2 ⟨rfl, hb2⟩; have HB2 := zpo (zac HB.out HB.out.size hb2); have HK2 := zpo (zah HK.out hb2); have i2 := bc2 HK2.out; have HZ2 := zpo (zah HZ.out hb2); have z0 := bc0 HZ2.out; have z1 := bc1 HZ2.out; have y0 := zai HZ2.out 0; have y1 := zai HZ2.out 1; clear hb2))
    exact zcc rfl rfl rfl HZ2.out ⟨by rw [HV.out]; rfl, zcg HB2.out _ _⟩
theorem zg3 {w : World} {A : Option Addr} {l : List ByteArray} (h : Kd.C zp6 w A l.length l) (k : Nat) (hk : k < l.length) : ∃ b o, A = some ⟨b, o, none⟩ /\ w.cell? ⟨b, o + k, none⟩ = some (.string l[k]) := by
 rcases zaJ h with h0 | ⟨b, o, rfl, _, hcell⟩
 . exfalso; rw [h0] at hk; simp at hk
 . refine ⟨b, o, rfl, ?_⟩
   have := hcell k hk; rwa [show l.getD k zp1 = l[k] by simp [zpw, zpv hk]] at this
theorem zkB {α : Type} [DecidableEq α] (l m : List α) (k : Nat) (hl : k < l.length) (hm : k < m.length) (h : l.take k = m.take k) : l.take (k + 1) = m.take (k + 1) ↔ l[k] = m[k] := by
 rw [zpU hl, zpU hm, h, List.append_cancel_left_eq]; simp
theorem znK {α : Type} [DecidableEq α] (l m : List α) (k : Nat) (h : l.take k ≠ m.take k) : decide (l = m) = false := by
 simp only [decide_eq_false_iff_not]; rintro rfl; exact h rfl
theorem zm3 (A : Option Addr) (c : Nat) (B : Option Addr) (d : Nat) (l m : List ByteArray) (w : World) (h1 : Kd.C zp6 w A l.length l) (h2 : Kd.C zp6 w B m.length m) :
 Calls zp0 22 #[.slice A l.length c, .slice B m.length d] w fun e w' => e = .returned (.bool (decide (l = m))) /\ Below w.heap.size w w' := by
 have hm := h1.2.1; have H1 := zpo h1; have H2 := zpo h2; obtain ⟨T, hT⟩ : ∃ T, T = decide (l = m) := ⟨_, rfl⟩; rw [<- hT]; have HT := zpo hT; clear h1 h2 hT; by_cases hn : l.length = m.length
 . have d0 : ((l.length : Int) != (m.length : Int)) = false := by simp [hn]
   have HN := zpo hn; clear hn; go_enter Tryz.func22, Tryz.ntmps22
   go_wp2_with fail; go_loopg [5] l.length (fun gg s13 wr => ∃ kk : Nat, kk <= l.length /\ l.length - kk <= gg /\ s13 = .int .i64 kk /\ Aside0 (l.take kk = m.take kk) /\ Aside0 (Below w.heap.size w wr))
   case atStart => exact ⟨0, by omega, by omega, rfl, ⟨rfl⟩, ⟨zpr _ _⟩⟩
   case round =>
    obtain ⟨kk, hkk, hgk, rfl, HE, HB⟩ := hrel; by_cases hlt : kk < l.length
    . have hltz : (kk : Int) < (l.length : Int) := by omega
      have hlm : kk < m.length := by have := HN.out; omega
      have hlmz : (kk : Int) < (m.length : Int) := by omega
      obtain ⟨b, o, rfl, hx⟩ := zg3 (zqO H1.out HB.out) kk hlt; obtain ⟨b', o', rfl, hx'⟩ := zg3 (zqO H2.out HB.out) kk hlm; have hst := zkB l m kk hlt hlm HE.out; have HSt := zpo hst; clear hst; generalize l[kk] = y at hx HSt; generalize m[kk] = z at hx' HSt; have HBd := zpo (zaW HB.out); by_cases hyz : y = z
      . have HE2 := zpo (HSt.out.2 hyz)
        subst hyz; clear HSt; go_wp2_with fail; go_region
        all_goals
         go_wp2; go_roundg (l.length - (kk + 1))
         case measure => omega
         case rel => exact ⟨kk + 1, by omega, by omega, by go_num, ⟨HE2.out⟩, ⟨HBd.out⟩⟩
      . have HT2 : Hid (T = false) := HT.out.trans (znK l m (kk + 1) (fun e => hyz (HSt.out.1 e)))
        have e1 : (y.toList == z.toList) = false := by
         rw [za2, za2, beq_eq_false_iff_ne]; exact fun e => hyz (zbR e)
        have e2 : (y.toList != z.toList) = true := by rw [bne, e1]; rfl
        clear HSt hyz; go_wp2_with fail; go_region
        all_goals
         go_wp2; go_ret
         exact ⟨by rw [HT2.out]; rfl, HBd.out⟩
    . have hltz : ¬ (kk : Int) < (l.length : Int) := by omega
      have HT2 : Hid (T = true) := by
       have h := HE.out; rw [zqS (by omega), zqS (by have := HN.out; omega)] at h
       show _ = _
       rw [HT.out, h]; simp
      go_wp2; go_ret
      exact ⟨by rw [HT2.out]; rfl, HB.out⟩
 . have d0 : ((l.length : Int) != (m.length : Int)) = true := by simp; omega
   have HT2 : Hid (T = false) := by
    show _ = _
    rw [HT.out]; simp only [decide_eq_false_iff_not]; rintro rfl; exact hn rfl
   clear hn; go_enter Tryz.func22, Tryz.ntmps22
   go_wp2_with fail; go_ret
   exact ⟨by rw [HT2.out]; rfl, zpr _ _⟩
end X
namespace X
open Go.Maps YtdpgdnpddndeoaaGreatDoorW.PrintMore YtdpgdnpddndeoaaGreatDoor.Pb
theorem znW (s : ByteArray) (n : Nat) : shipwrightlaw1_Short.f s (n : Int) = some (mk (s.data.toList.take n)) := by
 unfold shipwrightlaw1_Short.f mn; have hz := zp7 s; have key : ∀ m : Nat, m <= s.size -> s.data.toList.take m = s.data.toList.take n -> (s.extract 0 ((m : Int)).toNat) = mk (s.data.toList.take n) := by
  intro m _ hm; apply zbR
  rw [za9, <- hm]; simp [ByteArray.data_extract]
 rcases Nat.lt_or_ge n s.size with h | h
 . rw [if_pos (show (n : Int) < (s.size : Int) by omega), if_pos (show (0 : Int) <= (n : Int) by omega), if_pos (show (n : Int) <= (s.size : Int) by omega), key n (by omega) rfl]
 . rw [if_neg (show ¬ (n : Int) < (s.size : Int) by omega), if_pos (show (0 : Int) <= (s.size : Int) by omega), if_pos (Int.le_refl _), key s.size (zps _) (by rw [zqS (by omega), zqS (by omega)])]
end X
namespace X
open Go.Maps YtdpgdnpddndeoaaGreatDoorW.PrintMore YtdpgdnpddndeoaaGreatDoorW.PrintLast YtdpgdnpddndeoaaGreatDoor.Pb
theorem zk2 (A : Option Addr) (c : Nat) (B : Option Addr) (d : Nat) (l : List ByteArray) (w : World) (h1 : Kd.C zp6 w A l.length l) (h2 : Kd.C zp6 w B l.length l) :
 Calls zp0 22 #[.slice A l.length c, .slice B l.length d] w fun e w' => e = .returned (.bool true) /\ Below w.heap.size w w' :=
 (zm3 A c B d l l w h1 h2).mono fun e w' ⟨he, hb⟩ => ⟨by rw [he]; simp, hb⟩
theorem zjL {l : List SVal} (h : ∀ v ∈ l, v.f1.size <= 4194304) : ∀ v ∈ zcG l, v.f1.size <= 4194304 := by
 intro v hv; unfold zcG at hv; obtain ⟨u, hu, rfl⟩ := List.mem_map.1 hv; unfold zca; split
 . exact h u (List.mem_of_mem_take hu)
 . exact zqf _
theorem zh9 (x : zar) (X2 : Option Addr) (d2 : Nat) (X3 : Option Addr) (d3 : Nat) (Av : Option Addr) (cv : Nat) (ts : List SVal) (n : Nat) (W : World) (hG : GOK W) (hn : ts.length = n) (h2 : Kd.C zp6 W X2 x.f2.length x.f2) (h3 : Kd.C zp6 W X3 x.f3.length x.f3)
 (hC : Kd.C k34 W Av ts.length ts) (hsz : ∀ v ∈ ts, v.f1.size <= 4194304) :
 Calls zp0 25 #[.agg #[.string x.f0, .int .i64 x.f1, .slice X2 x.f2.length d2, .slice X3 x.f3.length d3, .int .i64 x.f4], .slice Av n cv] W (zdb (valS (doP (zag x) (ts.map valO))) W) /\
 Calls zp0 26 #[.agg #[.string x.f0, .int .i64 x.f1, .slice X2 x.f2.length d2, .slice X3 x.f3.length d3, .int .i64 x.f4], .slice Av n cv] W (zdb (valS (doP (zag x) (ts.map valO))) W) := by
 subst hn; exact ⟨zig x X2 d2 X3 d3 Av cv ts W hG h2 h3 hC hsz, zlk x X2 d2 X3 d3 Av cv ts W h2 h3 hC (fun _ => hsz)⟩
theorem zmV (x : zar) (B2 : Option Addr) (c2 : Nat) (B3 : Option Addr) (c3 : Nat) (A : Option Addr) (cA : Nat) (l : List SVal) (b0 : ByteArray) (w : World) (hG : GOK w) (h2 : Kd.C zp6 w B2 x.f2.length x.f2) (hc2 : x.f2.length <= c2) (h3 : Kd.C zp6 w B3 x.f3.length x.f3) (hc3 : x.f3.length <= c3)
 (hr : Kd.C k34 w A l.length l) (hcA : l.length <= cA) (hl : x.f2.length * 16 <= 140737488355328 /\ x.f3.length * 16 <= 140737488355328) (hsz : ∀ v ∈ l, v.f1.size <= 4194304) :
 Calls zp0 3 #[.agg #[.string x.f0, .int .i64 x.f1, .slice B2 x.f2.length c2, .slice B3 x.f3.length c3, .int .i64 x.f4], .slice A l.length cA, .string b0] w (zci w) := by
 have hg0 := za7 w (.cells #[.string x.f0, .int .i64 x.f1, .slice B2 x.f2.length c2, .slice B3 x.f3.length c3, .int .i64 x.f4] 24); have HK0 := zpo (zak w (.cells #[.string x.f0, .int .i64 x.f1, .slice B2 x.f2.length c2, .slice B3 x.f3.length c3, .int .i64 x.f4] 24)); have HG := zpo hG; have H2 := zpo h2; have H3 := zpo h3; have HR := zpo hr; have HCs := zpo (And.intro hc2 (And.intro hc3 (And.intro hcA hl))); have HB0 := zpo hg0; clear hG h2 h3 hr hc2 hc3 hcA hl hg0; go_enter Tryz.func3, Tryz.ntmps3
 go_wp2_with fail; generalize w.alloc (.cells #[.string x.f0, .int .i64 x.f1, .slice B2 x.f2.length c2, .slice B3 x.f3.length c3, .int .i64 x.f4] 24) = w0 at HK0 HB0 |-; refine (zjh _ (HG.out.below HB0.out)).mono ?_; rintro e w1 ⟨rfl, hb1⟩; have HB1 := zpo (zac HB0.out HB0.out.size hb1); have HK1 := zpo (zah HK0.out hb1); clear hb1 HB0 HK0; have k0 := bc0 HK1.out; have k1 := bc1 HK1.out; have k2 := bc2 HK1.out; have k3 := bc3 HK1.out; have k4 := bc4 HK1.out; go_wp2_with fail; refine (zo9 x B2 c2 B3 c3 w1 (zqO H2.out HB1.out) (zqO H3.out HB1.out) HCs.out.1 HCs.out.2.1 HCs.out.2.2.2).mono ?_; rintro e w2 ⟨X2, d2, X3, d3, rfl, hF2, hF3, hb2⟩; clear k0 k1 k2 k3 k4; have HBk : Hid (w.heap.size < w1.heap.size) := zaU HK1.out; have HB2 := zpo (zac HB1.out HB1.out.size hb2); have HK2 := zpo (zah HK1.out hb2); have HBj : Hid (w.heap.size < w2.heap.size) := zaU HK2.out; have HF2 := zpo (Kd.F_bound hF2); have HF3 := zpo (Kd.F_bound hF3); clear hb2 HB1 HK1 hF2 hF3; have hst : zaR x = ⟨x.f0, x.f1, x.f2.take 8, x.f3.take 3, x.f4⟩ := rfl; rw [hst] at HF2 HF3 |-; clear hst; dsimp only at HF2 HF3 |-; have hn8 : (x.f2.take 8).length <= 8 := by rw [zpD]; omega
 generalize x.f2.take 8 = a2 at HF2 hn8 |-; generalize x.f3.take 3 = a3 at HF3 |-; go_wp2_with fail; refine (znw A cA l w2 (zqO HR.out HB2.out)).mono ?_; rintro e w3 ⟨v, rfl, hV, hb3⟩; have HV3 := zpo hV; have HB3 := zpo (zac HB2.out HB2.out.size hb3); have HK3 := zpo (zah HK2.out hb3); have HG2 := zpo (Kd.F_below HF2.out hb3); have HG3 := zpo (Kd.F_below HF3.out hb3); have hvl : (zcG l).length <= 10 := by rw [zok]; omega
 have HVs := zpo (zjL hsz); clear hV hb3 HB2 HK2 HF2 HF3; obtain ⟨Av, cv, rfl⟩ := Kd.R_slice HV3.out; generalize zcG l = vs at HV3 hvl HVs |-; have y0 := zai HK3.out 0; have y1 := zai HK3.out 1; have y2 := zai HK3.out 2; have y3 := zai HK3.out 3; have y4 := zai HK3.out 4; have q0 := bc0 HK3.out; have q1 := bc1 HK3.out; have q2 := bc2 HK3.out; have q3 := bc3 HK3.out; have q4 := bc4 HK3.out; go_upto_region 5 with fail; have hs := zcm (.string x.f0) (.int .i64 x.f1) (.slice X2 a2.length d2) (.slice X3 a3.length d3) (.int .i64 x.f4) HK3.out; have hle : w.heap.size <= w.heap.size := zps _; have hB := ((((HB3.out.setCell (p := ⟨w.heap.size, 0, none⟩) hle (.string x.f0)).setCell (p := ⟨w.heap.size, 1, none⟩) hle (.int .i64 x.f1)).setCell (p := ⟨w.heap.size, 2, none⟩) hle (.slice X2 a2.length d2)).setCell (p := ⟨w.heap.size, 3, none⟩) hle (.slice X3 a3.length d3)).setCell (p := ⟨w.heap.size, 4, none⟩) hle (.int .i64 x.f4); have hne : ∀ m k, (w1.heap.size + 1 < k /\ k < w2.heap.size) -> k ≠ (⟨w.heap.size, m, none⟩ : Addr).block := fun m k h => by show k ≠ w.heap.size; have := HBk.out; omega
 have hnv : ∀ m k, w2.heap.size <= k -> k ≠ (⟨w.heap.size, m, none⟩ : Addr).block := fun m k h => by show k ≠ w.heap.size; have := HBj.out; omega
 have hF2 := (Kd.F_far (Kd.F_far (Kd.F_far (Kd.F_far (Kd.F_far HG2.out (hne 0) (.string x.f0)) (hne 1) (.int .i64 x.f1)) (hne 2) (.slice X2 a2.length d2)) (hne 3) (.slice X3 a3.length d3)) (hne 4) (.int .i64 x.f4)); have hF3 := (Kd.F_far (Kd.F_far (Kd.F_far (Kd.F_far (Kd.F_far HG3.out (hne 0) (.string x.f0)) (hne 1) (.int .i64 x.f1)) (hne 2) (.slice X2 a2.length d2)) (hne 3) (.slice X3 a3.length d3)) (hne 4) (.int .i64 x.f4)); have hV0 := Kd.R_mono (Kd.R_bound HV3.out) (ok' := fun k => w2.heap.size <= k) (fun k h => h.2.1)
 have hV4 := Kd.R_mono (Kd.R_far (Kd.R_far (Kd.R_far (Kd.R_far (Kd.R_far hV0 (hnv 0) (.string x.f0)) (hnv 1) (.int .i64 x.f1)) (hnv 2) (.slice X2 a2.length d2)) (hnv 3) (.slice X3 a3.length d3)) (hnv 4) (.int .i64 x.f4)) (ok' := fun _ => True) (fun _ _ => trivial)
 unfold set5 at hs; generalize (((((w3.setCell ⟨w.heap.size, 0, none⟩ (.string x.f0)).setCell ⟨w.heap.size, 1, none⟩ (.int .i64 x.f1)).setCell ⟨w.heap.size, 2, none⟩ (.slice X2 a2.length d2)).setCell ⟨w.heap.size, 3, none⟩ (.slice X3 a3.length d3)).setCell ⟨w.heap.size, 4, none⟩ (.int .i64 x.f4)) = w4 at hs hB hF2 hF3 hV4 |-; have HK4 := zpo hs; have HB4 := zpo hB; have HF2 := zpo hF2; have HF3 := zpo hF3; have HV4 := zpo hV4; clear hs hle hB hne hnv hF2 hF3 hV0 hV4 HV3 HG2 HG3 HK3 HB3 y0 y1 y2 y3 y4 q0 q1 q2 q3 q4; have r0 := bc0 HK4.out; have r1 := bc1 HK4.out; have r2 := bc2 HK4.out; have r3 := bc3 HK4.out; have r4 := bc4 HK4.out; have hsh := shipwrightlaw1_Short.calls b0 300 _ w4 (HG.out.below HB4.out) (znW b0 300); have hbz : (mk (b0.data.toList.take 300)).size <= 300 := by rw [zaX, zpD]; omega
 generalize mk (b0.data.toList.take 300) = b at hsh hbz; go_wp2_with fail; refine hsh.mono ?_; rintro e w5 ⟨rfl, hb5⟩; have HK5 := zpo (zah HK4.out hb5); have HB5 := zpo (zac HB4.out HB4.out.size hb5); have HF5 := zpo (Kd.F_now (Kd.F_below HF2.out hb5)); have HH5 := zpo (Kd.F_now (Kd.F_below HF3.out hb5)); have HV5 := zpo (zqp HV4.out hb5); have HSo : Hid (∀ W : World, Below w5.heap.size w5 W -> (W.cell? ⟨w.heap.size, 0, none⟩ = some (.string x.f0) /\ W.cell? ⟨w.heap.size, 1, none⟩ = some (.int .i64 x.f1) /\ W.cell? ⟨w.heap.size, 2, none⟩ = some (.slice X2 a2.length d2) /\ W.cell? ⟨w.heap.size, 3, none⟩ = some (.slice X3 a3.length d3) /\ W.cell? ⟨w.heap.size, 4, none⟩ = some (.int .i64 x.f4))) := fun W hW => by
  have h := zah HK5.out hW; exact ⟨(zaf h 0).trans rfl, (zaf h 1).trans rfl, (zaf h 2).trans rfl, (zaf h 3).trans rfl, (zaf h 4).trans rfl⟩
 have HM1 : Hid (∀ W, Below w5.heap.size w5 W -> Calls zp0 20 #[.agg #[.string x.f0, .int .i64 x.f1, .slice X2 a2.length d2, .slice X3 a3.length d3, .int .i64 x.f4]] W fun e w' => e = .returned (.bool (mayC (zag ⟨x.f0, x.f1, a2, a3, x.f4⟩))) /\ Below W.heap.size W w') := fun W hW => zeO ⟨x.f0, x.f1, a2, a3, x.f4⟩ X2 d2 X3 d3 W (zqO HF5.out hW) (zqO HH5.out hW)
 have HM2 : Hid (∀ W, Below w5.heap.size w5 W -> Calls zp0 21 #[.agg #[.string x.f0, .int .i64 x.f1, .slice X2 a2.length d2, .slice X3 a3.length d3, .int .i64 x.f4]] W fun e w' => e = .returned (.bool (mayC (zag ⟨x.f0, x.f1, a2, a3, x.f4⟩))) /\ Below W.heap.size W w') := fun W hW => by
  rw [zh1]; exact zic ⟨x.f0, x.f1, a2, a3, x.f4⟩ X2 d2 X3 d3 W (zqO HF5.out hW) (zqO HH5.out hW)
 generalize mayC (zag ⟨x.f0, x.f1, a2, a3, x.f4⟩) = q at HM1 HM2; have HL1 : Hid (∀ W, Below w5.heap.size w5 W -> Calls zp0 23 #[.string b] W fun e w' => ∃ v, e = .returned v /\ RS w' W.heap.size v (zax b) /\ Below W.heap.size W w') := fun W hW => zea b W (HG.out.below (zac HB5.out HB5.out.size hW)) (by omega)
 have HL2 : Hid (∀ W, Calls zp0 24 #[.string b] W fun e w' => ∃ v, e = .returned v /\ RS w' W.heap.size v (zax b) /\ Below W.heap.size W w') := fun W => zen b W (by omega)
 generalize zax b = L at HL1 HL2; have HBk : Hid (Below w5.heap.size w5 w5.drew) := zpo (zaW (zpr _ _)); clear HK4 HB4 HF2 HF3 HV4 r0 r1 r2 r3 r4 hb5 hsh; go_upto_region 6 with fail; have HSd := HSo.out w5 (zpr _ _); go_region_held3 (fun W => (W.cell? ⟨w.heap.size, 0, none⟩ = some (.string x.f0) /\ W.cell? ⟨w.heap.size, 1, none⟩ = some (.int .i64 x.f1) /\ W.cell? ⟨w.heap.size, 2, none⟩ = some (.slice X2 a2.length d2) /\ W.cell? ⟨w.heap.size, 3, none⟩ = some (.slice X3 a3.length d3) /\ W.cell? ⟨w.heap.size, 4, none⟩ = some (.int .i64 x.f4))) (exact HSo.out _ HBk.out)
  (first
   | (go_at_call 20; refine (HM1.out _ HBk.out).mono ?_; rintro e w6 ⟨rfl, hb6⟩; have HBk := zpo (zac HBk.out HBk.out.size hb6); clear hb6)
   | (go_at_call 21; refine (HM2.out _ HBk.out).mono ?_; rintro e w7 ⟨rfl, hb7⟩; have HBk := zpo (zac HBk.out HBk.out.size hb7); clear hb7)
   | (go_at_call 23; refine (HL1.out _ HBk.out).mono ?_; rintro e w8 ⟨v8, rfl, hR8, hb8⟩; obtain ⟨Y8, e8, rfl, _, hC8⟩ := zql hR8; have HC8 := zpo hC8; have HBk := zpo (zac HBk.out HBk.out.size hb8); clear hR8 hC8 hb8)
   | (go_at_call 24; refine (HL2.out _).mono ?_; rintro e w9 ⟨v9, rfl, hR9, hb9⟩; obtain ⟨Y9, e9, rfl, _, hC9⟩ := zql hR9; have HC9 := zpo hC9; have HD8 := zpo (zqO HC8.out hb9); have HBk := zpo (zac HBk.out HBk.out.size hb9); clear hR9 hC9 hb9)
   | (go_at_call 22; refine (zk2 _ _ _ _ L _ HD8.out HC9.out).mono ?_; rintro e w10 ⟨rfl, hb10⟩; have HBk := zpo (zac HBk.out HBk.out.size hb10); clear hb10))
 all_goals
  have HB10 := zpo (zac HB5.out HB5.out.size HBk.out); have s2 := (HSo.out w10 HBk.out).2.2.1; have HV10 := zpo (zqp HV5.out HBk.out); have hcv : (vs.length : Int) <= (cv : Int) := by have := (Kd.R_reads' HV5.out).2.1; omega
  have HF10 := zpo (zqO HF5.out HBk.out); have HH10 := zpo (zqO HH5.out HBk.out); have HSq : Hid (∀ W : World, Below w10.heap.size w10 W -> (W.cell? ⟨w.heap.size, 0, none⟩ = some (.string x.f0) /\ W.cell? ⟨w.heap.size, 1, none⟩ = some (.int .i64 x.f1) /\ W.cell? ⟨w.heap.size, 2, none⟩ = some (.slice X2 a2.length d2) /\ W.cell? ⟨w.heap.size, 3, none⟩ = some (.slice X3 a3.length d3) /\ W.cell? ⟨w.heap.size, 4, none⟩ = some (.int .i64 x.f4))) := fun W hW => HSo.out W (zac HBk.out HBk.out.size hW)
  have HG10 := zpo (HG.out.below HB10.out); clear HBk HSo HM1 HM2 HL1 HL2 HC8 HC9 HD8 HSd HK5; by_cases hlt : a2.length < vs.length
  . have hltz : (a2.length : Int) < (vs.length : Int) := by omega
    have htl : (vs.take a2.length).length = a2.length := by rw [zpD]; omega
    have hc0 : (0 : Int) <= (a2.length : Int) := by omega
    have hc1 : (a2.length : Int) <= (cv : Int) := by omega
    have HT10 := zpo (Kd.R_reads' (Kd.R_take HV10.out (show a2.length <= vs.length by omega))).2.2
    have HD : Hid (∀ W, Below w10.heap.size w10 W -> _) := zpo (fun W hW => zh9 ⟨x.f0, x.f1, a2, a3, x.f4⟩ X2 d2 X3 d3 Av cv (vs.take a2.length) a2.length W (HG10.out.below hW) htl (zqO HF10.out hW) (zqO HH10.out hW) (zqO HT10.out hW) (fun v hv => HVs.out v (List.mem_of_mem_take hv)))
    generalize valS (doP (zag ⟨x.f0, x.f1, a2, a3, x.f4⟩) ((vs.take a2.length).map valO)) = T at HD; obtain ⟨T0, T1⟩ := T; unfold zdb aggV at HD; dsimp only at HD; have HBk : Hid (Below w10.heap.size w10 w10.drew) := zpo (zaW (zpr _ _)); go_wp2_with fail; go_region_held3 (fun W => (W.cell? ⟨w.heap.size, 0, none⟩ = some (.string x.f0) /\ W.cell? ⟨w.heap.size, 1, none⟩ = some (.int .i64 x.f1) /\ W.cell? ⟨w.heap.size, 2, none⟩ = some (.slice X2 a2.length d2) /\ W.cell? ⟨w.heap.size, 3, none⟩ = some (.slice X3 a3.length d3) /\ W.cell? ⟨w.heap.size, 4, none⟩ = some (.int .i64 x.f4))) (exact HSq.out _ HBk.out)
     (first
      | (go_at_call 25; refine (HD.out _ HBk.out).1.mono ?_; rintro e w11 ⟨rfl, hb11⟩; have HBk := zpo (zac HBk.out HBk.out.size hb11); clear hb11)
      | (go_at_call 26; refine (HD.out _ HBk.out).2.mono ?_; rintro e w12 ⟨rfl, hb12⟩; have HBk := zpo (zac HBk.out HBk.out.size hb12); clear hb12))
    all_goals
     go_wp2_with fail; go_ret
     exact ⟨by simp, zac HB10.out HB10.out.size HBk.out⟩
  . have hltz : ¬ (a2.length : Int) < (vs.length : Int) := by omega
    have HT10 := zpo (Kd.R_reads' HV10.out).2.2; have HD : Hid (∀ W, Below w10.heap.size w10 W -> _) := zpo (fun W hW => zh9 ⟨x.f0, x.f1, a2, a3, x.f4⟩ X2 d2 X3 d3 Av cv vs vs.length W (HG10.out.below hW) rfl (zqO HF10.out hW) (zqO HH10.out hW) (zqO HT10.out hW) HVs.out)
    generalize valS (doP (zag ⟨x.f0, x.f1, a2, a3, x.f4⟩) (vs.map valO)) = T at HD; obtain ⟨T0, T1⟩ := T; unfold zdb aggV at HD; dsimp only at HD; have HBk : Hid (Below w10.heap.size w10 w10.drew) := zpo (zaW (zpr _ _)); go_wp2_with fail; go_region_held3 (fun W => (W.cell? ⟨w.heap.size, 0, none⟩ = some (.string x.f0) /\ W.cell? ⟨w.heap.size, 1, none⟩ = some (.int .i64 x.f1) /\ W.cell? ⟨w.heap.size, 2, none⟩ = some (.slice X2 a2.length d2) /\ W.cell? ⟨w.heap.size, 3, none⟩ = some (.slice X3 a3.length d3) /\ W.cell? ⟨w.heap.size, 4, none⟩ = some (.int .i64 x.f4))) (exact HSq.out _ HBk.out)
     (first
      | (go_at_call 25; refine (HD.out _ HBk.out).1.mono ?_; rintro e w11 ⟨rfl, hb11⟩; have HBk := zpo (zac HBk.out HBk.out.size hb11); clear hb11)
      | (go_at_call 26; refine (HD.out _ HBk.out).2.mono ?_; rintro e w12 ⟨rfl, hb12⟩; have HBk := zpo (zac HBk.out HBk.out.size hb12); clear hb12))
    all_goals
     go_wp2_with fail; go_ret
     exact ⟨by simp, zac HB10.out HB10.out.size HBk.out⟩
def shipwrightlaw7_StepAll.f (x : zar) (l : List SVal) (_ : ByteArray) : Option Bool := if (x.f2.length * 16 <= 140737488355328 /\ x.f3.length * 16 <= 140737488355328) /\ (l.map fun v => v.f1.size).sum <= 4194304 then some true else none
theorem zjD {l : List SVal} {n : Nat} (h : (l.map fun v => v.f1.size).sum <= n) : ∀ v ∈ l, v.f1.size <= n := by
 induction l with
 | nil => intro v hv; cases hv
 | cons u r ih =>
  rw [List.map_cons, List.sum_cons] at h; intro v hv; rcases List.mem_cons.1 hv with rfl | hv
  . omega
  . exact ih (by omega) v hv
theorem shipwrightlaw7_StepAll.calls (x : zar) (B2 : Option Addr) (c2 : Nat) (B3 : Option Addr) (c3 : Nat) (A : Option Addr) (cA : Nat) (l : List SVal) (b0 : ByteArray) (r : Bool) (w : World) (hG : GOK w) (h2 : Kd.C zp6 w B2 x.f2.length x.f2) (hc2 : x.f2.length <= c2) (h3 : Kd.C zp6 w B3 x.f3.length x.f3) (hc3 : x.f3.length <= c3)
 (hr : Kd.C k34 w A l.length l) (hcA : l.length <= cA) (h : shipwrightlaw7_StepAll.f x l b0 = some r) :
 Calls zp0 3 #[.agg #[.string x.f0, .int .i64 x.f1, .slice B2 x.f2.length c2, .slice B3 x.f3.length c3, .int .i64 x.f4], .slice A l.length cA, .string b0] w fun e w' => e = .returned (.bool r) /\ Below w.heap.size w w' := by
 unfold shipwrightlaw7_StepAll.f at h; split at h
 . rename_i hl
   obtain rfl := Option.some.inj h; exact zmV x B2 c2 B3 c3 A cA l b0 w hG h2 hc2 h3 hc3 hr hcA hl.1 (zjD hl.2)
 . cases h
theorem pure_StepAll (x : zar) (l : List SVal) (b : ByteArray) (y : zf3 x) (hs : (l.map fun v => v.f1.size).sum + l.length <= 1048576) {p : Prop} (_ : p) : shipwrightlaw7_StepAll.f x l b = some true := by
 unfold shipwrightlaw7_StepAll.f; have h1 := y.args; have h2 := y.lits; rw [if_pos ⟨⟨by omega, by omega⟩, by omega⟩]
end X
namespace X
open Go.ChangeShapes Go.WideShapes Go.Deep
theorem open_step1 {H : Type} {enc : TypeId × Value -> H} {W : World} {base : Nat} {held : Bool} {v : Value} {d : DataW H} {ps : List MemPlace} (hv : ∃ cs, v = Value.agg cs /\ cs.size = Tryz.prog.cellsOf 24)
 (h : DataW.Trod enc zp0 W base (fun _ => true) held 24 v d ps) :
 ∃ (y : S24) (B2 : Option Addr) (c2 : Nat) (B3 : Option Addr) (c3 : Nat), v = .agg #[.string y.f0, .int .i64 y.f1, .slice B2 y.f2.length c2, .slice B3 y.f3.length c3, .int .i64 y.f4] /\ Kd.C zp6 W B2 y.f2.length y.f2 /\ y.f2.length <= c2 /\ Kd.C zp6 W B3 y.f3.length y.f3 /\ y.f3.length <= c3 /\ zhZ y /\ (SizedBy zp0 24 d -> zf3 y) := by
 obtain ⟨cs, rfl, hs⟩ := hv; obtain ⟨fuel, hf⟩ := h; have c0 : Tryz.prog.cellsOf 24 = 5 := by kernel_rfl
 rw [c0] at hs; obtain ⟨y, hK, hg, hB⟩ := zpd (cs := cs.toList) (by simpa using hs) hf
 obtain ⟨A2, c2, A3, c3, e, l2, g2, l3, g3⟩ := zcJ hK; obtain rfl : cs = #[.string y.f0, .int .i64 y.f1, .slice A2 y.f2.length c2, .slice A3 y.f3.length c3, .int .i64 y.f4] := by apply Array.toList_inj.1; exact e
 exact ⟨y, A2, c2, A3, c3, rfl, g2, l2, g3, l3, hg, hB⟩
end X
end Go.Proofs.YtdpgdnpddndeoaaGreatDoor
