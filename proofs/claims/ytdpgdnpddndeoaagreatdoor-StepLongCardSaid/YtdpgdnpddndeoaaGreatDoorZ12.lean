/-
  lex.Quote, walked by hand (texts without signs that are written as numbers).
  print, walked by hand: slices.Clone of steps.
  print, walked by hand: one, for a rule of one step. (The regions' walks printed by gen_one.py.)
  print.File, walked by hand, at no rule and at one rule of one step.
-/
import Derived.Deep.RegionLaw
import Derived.Test.YtdpgdnpddndeoaaGreatDoorZ6
import Derived.Test.YtdpgdnpddndeoaaGreatDoorZ7
import Derived.Test.YtdpgdnpddndeoaaGreatDoorZ11
namespace Go.Proofs.YtdpgdnpddndeoaaGreatDoor.X
open Go.RowKit Go.Maps Go.Proofs.YtdpgdnpddndeoaaGreatDoorW.PrintWords Go.Proofs.YtdpgdnpddndeoaaGreatDoorW.PrintMore Go.Proofs.YtdpgdnpddndeoaaGreatDoorW.PrintLast
theorem zgg (a b : zaa) : zaH (a ++ b) = zaH a ++ zaH b := by simp [zaH]
theorem zlr (W : World) (l : zaa) (h : l.length <= 100) : Kd.C (Kd.int .u8) (W.alloc (.cells (nums .u8 (zaH l)).toArray 5)) (some ⟨W.heap.size, 0, none⟩) (zaH l).length (zaH l) :=
 zbJ (Kd.int .u8) W 5 (zaH l) (nums .u8 (zaH l)) (Kd.reps_scalar _) (by simp [zaH]; omega)
abbrev RB (w : World) (base : Nat) (v : Value) (l : zaa) : Prop := Kd.R (Kd.int .u8) 5 w base (fun _ => True) v (zaH l)
theorem RB.str {w : World} {base : Nat} {v : Value} {l : zaa} (h : RB w base v l) :
 (convert 90 9 v).run Tryz.prog w = .ok (.string (mk l)) w := by
 have := zhw (dst := 9) Tryz.underlying90 Tryz.underlying5 Tryz.underlying9 (Kd.own_of_R h)
 rw [zia] at this
 exact this

section
variable {P : Program} {ops : Array Oper} {rest : List Oper} {o : Oper} {a : Act} {Q : Exit -> Act -> World -> Prop}
theorem RB.app {w0 W : World} (base : Nat) (hgd : o.guard = none) (s x : Operand)
 (ho : o.op = .call { callee := .builtin .append, args := #[s, x], argTypes := #[90, 90] })
 (ht : P.underlying 90 = some (.slice 5)) (hinfo : (P.info? 5).map (fun i => (i.zero, i.size, i.bytes)) = some (some (.int .u8 0), 1, 1))
 (v : Value) (acc l : zaa) (cs : Array Value) (hcs : cs = (nums .u8 (zaH l)).toArray) (hl : l.length <= 100) (n : Nat) (hn : n = l.length) (hs : a.eval s = v) (hx : a.eval x = .slice (some ⟨W.heap.size, 0, none⟩) n n)
 (HO : RB W base v acc) (HB : Below base w0 W) (hbase : base <= W.heap.size) (hal : acc.length <= 5000000000000)
 (h : ∀ v1 w1, RB w1 base v1 (acc ++ l) -> Below base w0 w1 -> wpList P ops Q rest (a.put o.dst v1) w1) :
 wpList P ops Q (o :: rest) a (W.alloc (.cells cs 5)) := by
 subst hcs
 subst hn
 have hC := zlr W l hl
 rw [show (zaH l).length = l.length by simp [zaH]] at hC
 refine Kd.R_append_rows (Kd.int .u8) (Rr := (Kd.int .u8).K (W.alloc (.cells (nums .u8 (zaH l)).toArray 5))) (w0 := w0) base hgd s x 90 5 (.int .u8 0) 1 ho ht hinfo rfl (by decide) (by decide) v (zaH acc) (zaH l) (some ⟨W.heap.size, 0, none⟩) l.length l.length (fun _ => True) (fun k_ => True /\ some k_ ≠ v.ownBlock) hs hx (Kd.R_alloc HO _) hC (fun _ _ h => h) (fun _ hk => hk) (fun _ _ => trivial) (HB.alloc hbase _) (by rw [World.size_alloc]; omega) (by simp only [zaH, List.length_map]; omega) ?_
 intro v1 w1 ho1 hb1 _ _
 rw [<- zgg] at ho1
 exact h v1 w1 ho1 hb1
theorem RB.str_app {w0 W : World} (base : Nat) (hgd : o.guard = none) (s x : Operand)
 (ho : o.op = .call { callee := .builtin .append, args := #[s, x], argTypes := #[90, 9] })
 (ht : P.underlying 90 = some (.slice 5)) (hu : P.underlying 9 = some .string) (hinfo : (P.info? 5).map (fun i => (i.zero, i.size, i.bytes)) = some (some (.int .u8 0), 1, 1))
 (v : Value) (acc l : zaa) (hs : a.eval s = v) (hx : a.eval x = .string (mk l)) (hl : l.length <= 100)
 (HO : RB W base v acc) (HB : Below base w0 W) (hbase : base <= W.heap.size) (hal : acc.length <= 5000000000000)
 (h : ∀ v1 w1, RB w1 base v1 (acc ++ l) -> Below base w0 w1 -> wpList P ops Q rest (a.put o.dst v1) w1) :
 wpList P ops Q (o :: rest) a W := by
 refine zlq base hgd s x 90 9 5 ho ht hu hinfo v (zaH acc) (mk l) hs hx (Kd.own_of_R HO) HB hbase (by rw [Lib.size_eq, za7]; simp only [zaH, List.length_map]; omega) ?_
 intro v1 w1 ho1 hb1 _
 have hbl : zcv (mk l) = zaH l := by unfold zcv; rw [za7]; rfl
 rw [hbl, <- zgg] at ho1
 exact h v1 w1 (Kd.R_of_own (h1 := fun _ => rfl) ho1 (fun _ _ => trivial)) hb1
end
set_option maxHeartbeats 4000000 in
set_option maxRecDepth 100000 in
theorem zhB (s : ByteArray) (hs : s.size <= 1099511627776) (hpr : ∀ c ∈ s.data.toList, c = 10 \/ c = 9 \/ ¬ (c.toNat < 32 \/ 126 < c.toNat)) (w : World) :
 Calls Tryz.prog 113 #[.string s] w fun e w' => e = .returned (.string (mk (zdU s.data.toList))) /\ Below w.heap.size w w' := by
 have HPr := znM hpr
 clear hpr
 generalize hT : zdU s.data.toList = T
 have HT := znM hT
 clear hT
 have hR0 : RB (w.alloc (.cells #[.int .u8 34] 5)) w.heap.size (.slice (some ⟨w.heap.size, 0, none⟩) 1 1) [34] := by
  refine Kd.R_of_own (h1 := fun _ => rfl) ?_ (fun _ _ => trivial)
  exact zj1 w w.heap.size 5 .u8 [34] (Nat.le_refl _) (by simp)
 have HR0 := znM hR0
 clear hR0
 go_enter Tryz.func113, Tryz.ntmps113
 go_wp2_with fail
 go_loopg [3, 4, 5, 9] s.size (fun gg s3 _ _ s9 wr => ∃ (kk : Nat) (acc : zaa), kk <= s.size /\ s.size - kk <= gg /\ s9 = .int .i64 kk /\ acc.length <= 1 + 4 * kk /\ Aside0 (acc ++ (zdP (s.data.toList.drop kk) ++ [34]) = T) /\
  Aside0 (RB wr w.heap.size s3 acc) /\ Aside0 (Below w.heap.size w wr))
 case atStart => exact ⟨0, [34], Nat.zero_le _, by omega, rfl, by simp, ⟨by rw [<- HT.out]; rfl⟩, ⟨HR0.out⟩, ⟨(Below.refl _ _).alloc (Nat.le_refl _) _⟩⟩
 case round =>
  obtain ⟨kk, acc, hkk, hgk, rfl, hacc, HK, HO, HB⟩ := hrel
  by_cases hlt : kk < s.size
  . have hltz : (kk : Int) < (s.size : Int) := by omega
    have hdr : s.data.toList.drop kk = s[kk] :: s.data.toList.drop (kk + 1) := by
     rw [List.drop_eq_getElem_cons (by rw [<- Lib.size_eq]; exact hlt)]
     rfl
    have hK := HK.out
    rw [hdr, zdP] at hK
    have HK2 := znM hK
    clear hK hdr
    have n8 : ∀ (m : Nat) (k : UInt8), k.toNat = m -> (s[kk] = k ↔ s[kk].toNat = m) := fun m k hk => by rw [<- UInt8.toNat_inj, hk]
    have H34 := znM (n8 34 34 rfl)
    have H92 := znM (n8 92 92 rfl)
    have H10 := znM (n8 10 10 rfl)
    have H9 := znM (n8 9 9 rfl)
    clear n8
    have HWB := znM HB.out.size
    have hal2 : acc.length <= 5000000000000 := by omega
    have next : ∀ l : zaa, zcZ s[kk] = l -> acc ++ l ++ (zdP (s.data.toList.drop (kk + 1)) ++ [34]) = T := fun l hl => by
     rw [<- HK2.out, hl]
     simp
    have HN := znM next
    clear next
    obtain ⟨L1, hL1⟩ : ∃ l : zaa, l = [s[kk]] := ⟨_, rfl⟩
    obtain ⟨L2, hL2⟩ : ∃ l : zaa, l = [92, s[kk]] := ⟨_, rfl⟩
    have HC1 : Hid (#[Value.int .u8 s[kk].toNat] = (nums .u8 (zaH L1)).toArray) := by show _ = _; rw [hL1]; rfl
    have HC2 : Hid (#[Value.int .u8 92, .int .u8 s[kk].toNat] = (nums .u8 (zaH L2)).toArray) := by show _ = _; rw [hL2]; rfl
    have HL1 := znM hL1
    have HL2 := znM hL2
    have hl1 : L1.length = 1 := by rw [hL1]; rfl
    have hl2 : L2.length = 2 := by rw [hL2]; rfl
    have HM1 : Hid (1 = L1.length) := hl1.symm
    have HM2 : Hid (2 = L2.length) := hl2.symm
    have HX1 : Hid (L1.length <= 100) := by show _ <= _; omega
    have HX2 : Hid (L2.length <= 100) := by show _ <= _; omega
    clear hL1 hL2
    by_cases c1 : s[kk].toNat = 34
    . have e1 : ((s[kk].toNat : Int) == 34) = true := by simp; omega
      have HV := znM (HN.out L2 (by unfold zcZ; rw [if_pos (.inl (H34.out.2 c1)), HL2.out]))
      clear c1
      go_wp2_with (first | ((with_reducible refine zaO (b := .append) (xs := #[.tmp 26, .tmp 28]) rfl ?_); at_builtin; refine RB.app (w0 := w) w.heap.size rfl (.tmp 26) (.tmp 28) rfl Tryz.underlying90 zcE u3 acc L2 _ HC2.out HX2.out 2 HM2.out rfl rfl HO.out HB.out HWB.out hal2 ?_; intro v1 w4 ho hb; have HO4 := znM ho; have HB4 := znM hb; clear ho hb))
      go_roundg (s.size - (kk + 1))
      case measure => omega
      case rel => exact ⟨kk + 1, acc ++ L2, by omega, by omega, by first | rfl | go_num, by simp only [List.length_append]; omega, ⟨HV.out⟩, ⟨HO4.out⟩, ⟨HB4.out⟩⟩
    have e1 : ((s[kk].toNat : Int) == 34) = false := by simp; omega
    by_cases c2 : s[kk].toNat = 92
    . have e2 : ((s[kk].toNat : Int) == 92) = true := by simp; omega
      have HV := znM (HN.out L2 (by unfold zcZ; rw [if_pos (.inr (H92.out.2 c2)), HL2.out]))
      clear c1 c2
      go_wp2_with (first | ((with_reducible refine zaO (b := .append) (xs := #[.tmp 26, .tmp 28]) rfl ?_); at_builtin; refine RB.app (w0 := w) w.heap.size rfl (.tmp 26) (.tmp 28) rfl Tryz.underlying90 zcE u3 acc L2 _ HC2.out HX2.out 2 HM2.out rfl rfl HO.out HB.out HWB.out hal2 ?_; intro v1 w4 ho hb; have HO4 := znM ho; have HB4 := znM hb; clear ho hb))
      go_roundg (s.size - (kk + 1))
      case measure => omega
      case rel => exact ⟨kk + 1, acc ++ L2, by omega, by omega, by first | rfl | go_num, by simp only [List.length_append]; omega, ⟨HV.out⟩, ⟨HO4.out⟩, ⟨HB4.out⟩⟩
    have e2 : ((s[kk].toNat : Int) == 92) = false := by simp; omega
    have HQ1 : Hid (¬ (s[kk] = 34 \/ s[kk] = 92)) := fun h => h.elim (fun h => c1 (H34.out.1 h)) (fun h => c2 (H92.out.1 h))
    clear c1 c2
    by_cases c3 : s[kk].toNat = 10
    . have e3 : ((s[kk].toNat : Int) == 10) = true := by simp; omega
      have HV := znM (HN.out [92, 110] (by unfold zcZ; rw [if_neg HQ1.out, if_pos (H10.out.2 c3)]))
      clear c3
      go_wp2_with (first | ((with_reducible refine zaO (b := .append) (xs := #[.tmp 33, .const (.string ⟨#[92, 110]⟩)]) rfl ?_); at_builtin; refine RB.str_app (w0 := w) w.heap.size rfl (.tmp 33) (.const (.string ⟨#[92, 110]⟩)) rfl Tryz.underlying90 Tryz.underlying9 zcE u3 acc [92, 110] rfl rfl (by decide) HO.out HB.out HWB.out hal2 ?_; intro v1 w4 ho hb; have HO4 := znM ho; have HB4 := znM hb; clear ho hb))
      go_roundg (s.size - (kk + 1))
      case measure => omega
      case rel => exact ⟨kk + 1, acc ++ [92, 110], by omega, by omega, by first | rfl | go_num, by simp; omega, ⟨HV.out⟩, ⟨HO4.out⟩, ⟨HB4.out⟩⟩
    have e3 : ((s[kk].toNat : Int) == 10) = false := by simp; omega
    by_cases c4 : s[kk].toNat = 9
    . have e4 : ((s[kk].toNat : Int) == 9) = true := by simp; omega
      have HV := znM (HN.out [92, 116] (by unfold zcZ; rw [if_neg HQ1.out, if_neg (fun h => c3 (H10.out.1 h)), if_pos (H9.out.2 c4)]))
      clear c3 c4
      go_wp2_with (first | ((with_reducible refine zaO (b := .append) (xs := #[.tmp 38, .const (.string ⟨#[92, 116]⟩)]) rfl ?_); at_builtin; refine RB.str_app (w0 := w) w.heap.size rfl (.tmp 38) (.const (.string ⟨#[92, 116]⟩)) rfl Tryz.underlying90 Tryz.underlying9 zcE u3 acc [92, 116] rfl rfl (by decide) HO.out HB.out HWB.out hal2 ?_; intro v1 w4 ho hb; have HO4 := znM ho; have HB4 := znM hb; clear ho hb))
      go_roundg (s.size - (kk + 1))
      case measure => omega
      case rel => exact ⟨kk + 1, acc ++ [92, 116], by omega, by omega, by first | rfl | go_num, by simp; omega, ⟨HV.out⟩, ⟨HO4.out⟩, ⟨HB4.out⟩⟩
    have e4 : ((s[kk].toNat : Int) == 9) = false := by simp; omega
    have HQ2 : Hid (¬ s[kk] = 10) := fun h => c3 (H10.out.1 h)
    have HQ3 : Hid (¬ s[kk] = 9) := fun h => c4 (H9.out.1 h)
    clear c3 c4
    by_cases c5 : s[kk].toNat < 32 \/ 126 < s[kk].toNat
    . exfalso
      rcases HPr.out s[kk] (List.getElem_mem (h := by rw [<- Lib.size_eq]; exact hlt)) with h | h | h
      . exact HQ2.out h
      . exact HQ3.out h
      . exact h c5
    . have HV := znM (HN.out L1 (by unfold zcZ; rw [if_neg HQ1.out, if_neg HQ2.out, if_neg HQ3.out, if_neg c5, HL1.out]))
      have e5 : decide ((s[kk].toNat : Int) < 32) = false := by simp; omega
      have e6 : decide ((126 : Int) < (s[kk].toNat : Int)) = false := by simp; omega
      clear c5
      go_wp2_with (first | ((with_reducible refine zaO (b := .append) (xs := #[.tmp 15, .tmp 17]) rfl ?_); at_builtin; refine RB.app (w0 := w) w.heap.size rfl (.tmp 15) (.tmp 17) rfl Tryz.underlying90 zcE u3 acc L1 _ HC1.out HX1.out 1 HM1.out rfl rfl HO.out HB.out HWB.out hal2 ?_; intro v1 w4 ho hb; have HO4 := znM ho; have HB4 := znM hb; clear ho hb))
      go_roundg (s.size - (kk + 1))
      case measure => omega
      case rel => exact ⟨kk + 1, acc ++ L1, by omega, by omega, by first | rfl | go_num, by simp only [List.length_append]; omega, ⟨HV.out⟩, ⟨HO4.out⟩, ⟨HB4.out⟩⟩
  . have hltz : ¬ (kk : Int) < (s.size : Int) := by omega
    have HWB := znM HB.out.size
    have hal : acc.length <= 4398046511105 := by omega
    have HV : Hid (T = acc ++ [34]) := by
     show T = _
     rw [<- HK.out, List.drop_of_length_le (by rw [<- Lib.size_eq]; omega)]
     rfl
    have hal2 : acc.length <= 5000000000000 := by omega
    go_wp2_with (first | ((with_reducible refine zaO (b := .append) (xs := #[.tmp 57, .tmp 58]) rfl ?_); at_builtin; refine RB.app (w0 := w) w.heap.size rfl (.tmp 57) (.tmp 58) rfl Tryz.underlying90 zcE u3 acc [34] #[.int .u8 34] rfl (by decide) 1 rfl rfl rfl HO.out HB.out HWB.out hal2 ?_; intro v1 w4 ho hb; have hcv := RB.str ho; have HB4 := znM hb; clear ho hb))
    go_ret
    rw [HV.out]
    exact ⟨rfl, HB4.out⟩

theorem zbN (a b : zaa) : mk a ++ mk b = mk (a ++ b) := by
 apply zbU
 rw [za7, ByteArray.data_append, Array.toList_append, za7, za7]
abbrev zbF (l : List ByteArray) : List zaa := l.map fun x => x.data.toList
theorem zgQ {l : List ByteArray} {sep : zaa} (hl : l.length * 16 <= 140737488355328) (hsum : (Lib.join (zbF l) sep).length <= 70368744177664) : strings_Join.f l (mk sep) = some (mk (Lib.join (zbF l) sep)) := by
 unfold strings_Join.f
 rw [za7, if_pos ⟨by omega, Nat.le_trans hsum (by omega)⟩]
def zbS (word : zaa) (l : List ByteArray) : zaa := if l = [] then [] else [32, 32] ++ word ++ [32] ++ Lib.join (zbF l) [44, 32] ++ [59, 10]
set_option maxHeartbeats 2000000 in
theorem zeS (word : zaa) (A : Option Addr) (c : Nat) (l : List ByteArray) (w : World) (hG : GOK w) (hr : Kd.C Kd.string w A l.length l) (hc : l.length <= c) (hw : word.length <= 100) (hl : l.length * 16 <= 140737488355328) (hsum : (Lib.join (zbF l) [44, 32]).length <= 70368744177664) :
 Calls Tryz.prog 194 #[.string (mk word), .slice A l.length c] w fun e w' => e = .returned (.string (mk (zbS word l))) /\ Below w.heap.size w w' := by
 by_cases h0 : l = []
 . have hd : ((l.length : Int) == 0) = true := by rw [h0]; rfl
   have HE : Hid (zbS word l = []) := by show _ = _; unfold zbS; rw [if_pos h0]
   clear h0 hr
   go_enter Tryz.func194, Tryz.ntmps194
   go_wp2
   go_ret
   exact ⟨by rw [HE.out]; rfl, Below.refl _ _⟩
 . have hpos : 0 < l.length := List.length_pos_iff.2 h0
   have hd : ((l.length : Int) == 0) = false := by simp; exact h0
   have HE : Hid (zbS word l = [32, 32] ++ word ++ [32] ++ Lib.join (zbF l) [44, 32] ++ [59, 10]) := by show _ = _; unfold zbS; rw [if_neg h0]
   have hJ := strings_Join.calls A c l (mk [44, 32]) (mk (Lib.join (zbF l) [44, 32])) w hG hr hc (zgQ hl hsum)
   generalize Lib.join (zbF l) [44, 32] = J at HE hJ hsum
   have n1 : ¬ 9223372036854775807 < 2 + (mk word).size := by rw [za4]; omega
   have n2 : ¬ 9223372036854775807 < 2 + (mk word).size + 1 := by rw [za4]; omega
   have n3 : ¬ 9223372036854775807 < 2 + (mk word).size + 1 + (mk J).size := by rw [za4, za4]; omega
   have n4 : ¬ 9223372036854775807 < 2 + (mk word).size + 1 + (mk J).size + 2 := by rw [za4, za4]; omega
   clear h0 hr
   go_enter Tryz.func194, Tryz.ntmps194
   go_wp2_with (go_at_call 83; refine hJ.mono ?_; rintro e w2 ⟨rfl, hb2⟩)
   go_ret
   refine ⟨?_, hb2⟩
   rw [HE.out, <- zbN, <- zbN, <- zbN, <- zbN]
   rfl

def zbR (x : ByteArray) : ByteArray := mk (zdU x.data.toList)
def zhb (x : ByteArray) : Prop := x.size <= 1099511627776 /\ ∀ c ∈ x.data.toList, c = 10 \/ c = 9 \/ ¬ (c.toNat < 32 \/ 126 < c.toNat)
def zcq (s : zaA) : List ByteArray := [s.f0, ⟨#[61]⟩, zbd s.f1] ++ s.f3.map zbR ++ s.f2
def zcO (s : zaA) : zaa := Lib.join (zbF (zcq s)) [32] ++ [59]
set_option maxHeartbeats 4000000 in
set_option maxRecDepth 100000 in
theorem zil (s : zaA) (A2 : Option Addr) (c2 : Nat) (A3 : Option Addr) (c3 : Nat) (w : World) (hG : GOK w) (h2 : Kd.C Kd.string w A2 s.f2.length s.f2) (h3 : Kd.C Kd.string w A3 s.f3.length s.f3)
 (h9 : s.f1 ≠ 9) (hpr : ∀ x ∈ s.f3, zhb x) (hl2 : s.f2.length <= 1000) (hl3 : s.f3.length <= 1000) (hsum : (Lib.join (zbF (zcq s)) [32]).length <= 70368744177664) :
 Calls Tryz.prog 119 #[.agg #[.string s.f0, .int .i64 s.f1, .slice A2 s.f2.length c2, .slice A3 s.f3.length c3, .int .i64 s.f4]] w fun e w' => e = .returned (.string (mk (zcO s))) /\ Below w.heap.size w w' := by
 have hB0 := (Below.refl w.heap.size w).alloc (Nat.le_refl _) (.cells #[.string s.f0, .int .i64 s.f1, .slice A2 s.f2.length c2, .slice A3 s.f3.length c3, .int .i64 s.f4] 24)
 have hb0 := zan w (.cells #[.string s.f0, .int .i64 s.f1, .slice A2 s.f2.length c2, .slice A3 s.f3.length c3, .int .i64 s.f4] 24)
 have HB0 := znM hB0
 have HBlk := znM hb0
 have HG := znM hG
 have HPr := znM hpr
 have HSum := znM hsum
 have H2 := znM h2
 have H3 := znM h3
 have e9 : (s.f1 == 9) = false := by simpa using h9
 clear hB0 hb0 hG hpr hsum h9
 go_enter Tryz.func119, Tryz.ntmps119
 go_wp2
 generalize w.alloc (.cells #[.string s.f0, .int .i64 s.f1, .slice A2 s.f2.length c2, .slice A3 s.f3.length c3, .int .i64 s.f4] 24) = w1 at HB0 HBlk |-
 have k0 : w1.cell? ⟨w.heap.size, 0, none⟩ = some (.string s.f0) := (zab HBlk.out 0).trans rfl
 have k1 : w1.cell? ⟨w.heap.size, 1, none⟩ = some (.int .i64 s.f1) := (zab HBlk.out 1).trans rfl
 have hOp := ziv s.f1 w1.drew
 have HB0d := znM (zbl HB0.out)
 have HBd := znM (zaP HBlk.out)
 go_region_law (first | (go_simp; go_at_call 116; refine hOp.mono ?_; rintro e w2 ⟨rfl, hb2⟩; have HB2 := znM (zad HB0d.out HB0d.out.size hb2); have HBlk2 := znM (zah HBd.out hb2); have k02 : w2.cell? ⟨w.heap.size, 0, none⟩ = some (.string s.f0) := (zab HBlk2.out 0).trans rfl; clear hb2))
 all_goals
  have k13 : ∀ ob : Obj, (w2.alloc ob).cell? ⟨w.heap.size, 1, none⟩ = some (.int .i64 s.f1) := fun ob => (zab (zat HBlk2.out ob) 1).trans rfl
  have k33 : ∀ ob : Obj, (w2.alloc ob).cell? ⟨w.heap.size, 3, none⟩ = some (.slice A3 s.f3.length c3) := fun ob => (zab (zat HBlk2.out ob) 3).trans rfl
  have HB3 := znM (HB2.out.alloc HB2.out.size (.cells #[.string s.f0, .string ⟨#[61]⟩, .string (zbd s.f1)] 9))
  have HBlk3 := znM (zat HBlk2.out (.cells #[.string s.f0, .string ⟨#[61]⟩, .string (zbd s.f1)] 9))
  have HL3 : Hid (RS (w2.alloc (.cells #[.string s.f0, .string ⟨#[61]⟩, .string (zbd s.f1)] 9)) w.heap.size (.slice (some ⟨w2.heap.size, 0, none⟩) 3 3) [s.f0, ⟨#[61]⟩, zbd s.f1]) := zcG w2 w.heap.size [s.f0, ⟨#[61]⟩, zbd s.f1] HB2.out.size (by simp)
  go_wp2_with fail
  generalize w2.alloc (.cells #[.string s.f0, .string ⟨#[61]⟩, .string (zbd s.f1)] 9) = w3 at HB3 HBlk3 HL3 |-
  generalize (some (⟨w2.heap.size, 0, none⟩ : Addr)) = AL at HL3 |-
  clear k02 HBlk2 HB2 k13 k33
  go_loopg [3, 5, 24] s.f3.length (fun gg s3 _ s24 wr => ∃ (kk : Nat) (A : Option Addr) (c : Nat), kk <= s.f3.length /\ s.f3.length - kk <= gg /\ s24 = .int .i64 kk /\ s3 = .slice A (3 + kk) c /\ 3 + kk <= c /\
   Aside0 (RS wr w.heap.size (.slice A (3 + kk) c) ([s.f0, ⟨#[61]⟩, zbd s.f1] ++ (s.f3.take kk).map zbR)) /\ Aside0 (Below w.heap.size w wr) /\
   Aside0 (wr.heap[w.heap.size]? = some (.cells #[.string s.f0, .int .i64 s.f1, .slice A2 s.f2.length c2, .slice A3 s.f3.length c3, .int .i64 s.f4] 24 (0, 0))))
  case atStart => exact ⟨0, AL, 3, Nat.zero_le _, by omega, rfl, rfl, by omega, ⟨by simpa using HL3.out⟩, ⟨HB3.out⟩, ⟨HBlk3.out⟩⟩
  case round =>
   obtain ⟨kk, A, c, hkk, hgk, rfl, rfl, hcc, HO, HB, HBk⟩ := hrel
   by_cases hlt : kk < s.f3.length
   . have hltz : (kk : Int) < (s.f3.length : Int) := by omega
     rcases zaZ (Kd.C_below H3.out HB.out) with h0 | ⟨b, o, rfl, _, hcell⟩
     . rw [h0] at hlt; simp at hlt
     . have hx : wr.cell? ⟨b, o + kk, none⟩ = some (.string (s.f3.getD kk ByteArray.empty)) := hcell kk hlt
       obtain ⟨y, hy⟩ : ∃ y, y = s.f3.getD kk ByteArray.empty := ⟨_, rfl⟩
       rw [<- hy] at hx
       have hym : y = s.f3[kk] := by rw [hy]; simp [List.getD_eq_getElem?_getD, List.getElem?_eq_getElem hlt]
       have hyP := HPr.out y (by rw [hym]; exact List.getElem_mem _)
       have hq := fun W => zhB y hyP.1 hyP.2 W
       have HN : Hid ((s.f3.take kk).map zbR ++ [zbR y] = (s.f3.take (kk + 1)).map zbR) := by
        show _ = _
        rw [List.take_succ_eq_append_getElem hlt, List.map_append, hym]
        rfl
       have HNl : Hid (([s.f0, (⟨#[61]⟩ : ByteArray), zbd s.f1] ++ (s.f3.take kk).map zbR).length = 3 + kk) := by
        show _ = _
        simp only [List.length_append, List.length_map, List.length_take, List.length_cons, List.length_nil]
        omega
       clear hcell hy hym hyP
       go_wp2_with (first | (go_at_call 113; refine (hq _).mono ?_; rintro e w4 ⟨rfl, hb4⟩; have HB4 := znM (zad HB.out HB.out.size hb4); have HO4 := znM (Kd.R_below HO.out hb4); have HBk4 := znM (zah HBk.out hb4); have HS4 : Hid (w.heap.size <= w4.heap.size) := HB4.out.size; clear hb4) | ((with_reducible refine zaO (b := .append) (xs := #[.tmp 28, .tmp 31]) rfl ?_); at_builtin; refine Kd.R_append Kd.string (w0 := w) w.heap.size rfl (.tmp 28) (.tmp 31) 22 9 (.string ⟨#[]⟩) 16 rfl Tryz.underlying22 zcg rfl (by decide) (by decide) (.slice A (3 + kk) c) ([s.f0, ⟨#[61]⟩, zbd s.f1] ++ (s.f3.take kk).map zbR) (zbR y) [.string (zbR y)] (fun _ => True) (fun k_ => True /\ some k_ ≠ (Value.slice A (3 + kk) c).ownBlock) rfl rfl rfl (fun _ hk => hk) (fun _ _ => trivial) HO4.out HB4.out HS4.out ?aL ?_; (case aL => rw [HNl.out]; omega); intro v1 w5 ho hb hg hat; obtain ⟨AN, cN, rfl, hcN, _⟩ := Kd.R_reads ho; have HO5 := znM ho; have HB5 := znM hb; have HBk5 := znM (zaK HBk4.out hg (Kd.R_ne HO4.out HBk4.out (by decide))); have HcN := znM hcN; clear ho hb hg hat hcN))
       have hLn : ([s.f0, (⟨#[61]⟩ : ByteArray), zbd s.f1] ++ (s.f3.take kk).map zbR ++ [zbR y]).length = 3 + (kk + 1) := by rw [List.length_append, HNl.out]; rfl
       have hO5 := HO5.out
       have hcN := HcN.out
       rw [hLn] at hO5 hcN
       rw [List.append_assoc, HN.out] at hO5
       go_roundg (s.f3.length - (kk + 1))
       case measure => omega
       case rel =>
        exact ⟨kk + 1, AN, cN, by omega, by omega, by go_num, by first | rfl | (congr 1; omega) | (simp; omega), hcN, ⟨hO5⟩, ⟨HB5.out⟩, ⟨HBk5.out⟩⟩
   . have hltz : ¬ (kk : Int) < (s.f3.length : Int) := by omega
     obtain rfl : kk = s.f3.length := by omega
     have hLL : [s.f0, (⟨#[61]⟩ : ByteArray), zbd s.f1] ++ (s.f3.take s.f3.length).map zbR ++ s.f2 = zcq s := by rw [List.take_length]; rfl
     have hLn : ([s.f0, (⟨#[61]⟩ : ByteArray), zbd s.f1] ++ (s.f3.take s.f3.length).map zbR).length = 3 + s.f3.length := by
      simp only [List.length_append, List.length_map, List.length_take, List.length_cons, List.length_nil, Nat.min_self]
     have HLL := znM hLL
     have HLn := znM hLn
     have HWB := znM HB.out.size
     have H2r := znM (Kd.C_below H2.out HB.out)
     have k2 : wr.cell? ⟨w.heap.size, 2, none⟩ = some (.slice A2 s.f2.length c2) := (zab HBk.out 2).trans rfl
     have hlS : (zcq s).length = 3 + s.f3.length + s.f2.length := by rw [<- hLL, List.length_append, hLn]
     have HlS : Hid ((zcq s).length * 16 <= 140737488355328) := by show _ <= _; rw [hlS]; omega
     clear hLL hLn hlS
     go_wp2_with (first | ((with_reducible refine zaO (b := .append) (xs := #[.tmp 34, .tmp 36]) rfl ?_); at_builtin; refine Kd.R_append_rows Kd.string (Rr := Kd.string.K wr) (w0 := w) w.heap.size rfl (.tmp 34) (.tmp 36) 22 9 (.string ⟨#[]⟩) 16 rfl Tryz.underlying22 zcg rfl (by decide) (by decide) (.slice A (3 + s.f3.length) c) ([s.f0, ⟨#[61]⟩, zbd s.f1] ++ (s.f3.take s.f3.length).map zbR) s.f2 A2 s.f2.length c2 (fun _ => True) (fun k_ => True /\ some k_ ≠ (Value.slice A (3 + s.f3.length) c).ownBlock) rfl rfl HO.out H2r.out (fun _ _ h => h) (fun _ hk => hk) (fun _ _ => trivial) HB.out HWB.out ?aL ?_; (case aL => rw [HLn.out]; omega); intro v1 w5 ho hb hg hat; rw [HLL.out] at ho; obtain ⟨AN, cN, rfl, hcN, hrN⟩ := Kd.R_reads ho; have HB5 := znM hb; have HcN := znM hcN; have HrN := znM hrN; have hJ := strings_Join.calls AN cN (zcq s) (mk [32]) (mk (Lib.join (zbF (zcq s)) [32])) w5 (HG.out.below hb) hrN hcN (zgQ HlS.out HSum.out); have hn1 : ¬ 9223372036854775807 < (mk (Lib.join (zbF (zcq s)) [32])).size + 1 := (by rw [za4]; have := HSum.out; omega); clear ho hb hg hat hcN hrN) | (go_at_call 83; refine hJ.mono ?_; rintro e w6 ⟨rfl, hb6⟩; have HB6 := znM (zad HB5.out HB5.out.size hb6); clear hb6))
     go_ret
     refine ⟨?_, HB6.out⟩
     unfold zcO
     rw [<- zbN]
     rfl

structure Sl where
 a : Option Addr
 n : Nat
 c : Nat
def Sl.v (s : Sl) : Value := .slice s.a s.n s.c
def kSl : Kd Sl := Kd.scalar Sl.v (fun _ => rfl)
abbrev Sh := ByteArray × Int × Sl × Sl × Int
def kSh : Kd Sh := Kd.pair Kd.string (Kd.pair (Kd.int .i64) (Kd.pair kSl (Kd.pair kSl (Kd.int .i64))))
theorem sh_K {w : World} (x : Sh) {cs : List Value} : kSh.K w x cs ↔ cs = [.string x.1, .int .i64 x.2.1, x.2.2.1.v, x.2.2.2.1.v, .int .i64 x.2.2.2.2] := by
 constructor
 . rintro ⟨_, _, rfl, rfl, _, _, rfl, rfl, _, _, rfl, rfl, _, _, rfl, rfl, rfl⟩
   rfl
 . rintro rfl
   exact ⟨[_], [_, _, _, _], rfl, rfl, [_], [_, _, _], rfl, rfl, [_], [_, _], rfl, rfl, [_], [_], rfl, rfl, rfl⟩
theorem sh_M {w : World} {base : Nat} {ok : Nat -> Prop} (x : Sh) {cs : List Value} : kSh.M w base ok x cs ↔ cs = [.string x.1, .int .i64 x.2.1, x.2.2.1.v, x.2.2.2.1.v, .int .i64 x.2.2.2.2] := by
 constructor
 . rintro ⟨_, _, rfl, rfl, _, _, rfl, rfl, _, _, rfl, rfl, _, _, rfl, rfl, rfl⟩
   rfl
 . rintro rfl
   exact ⟨[_], [_, _, _, _], rfl, rfl, [_], [_, _, _], rfl, rfl, [_], [_, _], rfl, rfl, [_], [_], rfl, rfl, rfl⟩
set_option maxHeartbeats 4000000 in
set_option maxRecDepth 100000 in
theorem zkw (ad : Addr) (c : Nat) (l : List Sh) (w : World) (hr : Kd.C kSh w (some ad) l.length l) (hl : l.length <= 1000) :
 Calls Tryz.prog 199 #[.slice (some ad) l.length c] w fun e w' => ∃ v, e = .returned v /\ Kd.R kSh 24 w' w.heap.size (fun _ => True) v l /\ Below w.heap.size w w' := by
 have HO : Hid (Kd.R kSh 24 (w.alloc (.cells #[] 24)) w.heap.size (fun _ => True) (.slice (some ⟨w.heap.size, 0, none⟩) 0 0) []) :=
  ⟨fun _ _ => trivial, OwnRow.lit (ps := []) (inner := []) w w.heap.size (Reps.none _ _) (Nat.le_refl _) (by simp)⟩
 have HC := znM (Kd.C_below hr ((Below.refl w.heap.size w).alloc (Nat.le_refl _) (.cells #[] 24)))
 have HB := znM ((Below.refl w.heap.size w).alloc (Nat.le_refl _) (.cells #[] 24))
 have hnil : ∀ W, (binOp .eql 43 (.slice (some ad) l.length c) (.slice none 0 0)).run Tryz.prog W = .ok (.bool false) W := fun _ => rfl
 clear hr
 go_enter Tryz.func199, Tryz.ntmps199
 go_wp2_with (first | ((with_reducible refine zaO (b := .append) (xs := #[.tmp 5, .tmp 6]) rfl ?_); at_builtin; refine Kd.R_append_rows kSh (Rr := kSh.K (w.alloc (.cells #[] 24))) (w0 := w) w.heap.size rfl (.tmp 5) (.tmp 6) 43 24 (.agg #[.string ⟨#[]⟩, .int .i64 0, .slice none 0 0, .slice none 0 0, .int .i64 0]) 80 rfl Tryz.underlying43 zdN rfl (by decide) (by decide) (.slice (some ⟨w.heap.size, 0, none⟩) 0 0) [] l (some ad) l.length c (fun _ => True) (fun k_ => True /\ some k_ ≠ (Value.slice (some (⟨w.heap.size, 0, none⟩ : Addr)) 0 0).ownBlock) rfl rfl HO.out HC.out (fun x cs h => (sh_M x).2 ((sh_K x).1 h)) (fun _ hk => hk) (fun _ _ => trivial) HB.out HB.out.size ?aL ?_; (case aL => simp; omega); intro v1 w4 ho hb hg hat; have HO4 := znM ho; have HB4 := znM hb; clear ho hb hg hat))
 go_ret
 exact ⟨v1, rfl, HO4.out, HB4.out⟩

end Go.Proofs.YtdpgdnpddndeoaaGreatDoor.X

namespace Go.Proofs.YtdpgdnpddndeoaaGreatDoor.X
open Go.RowKit Go.Maps Go.Proofs.YtdpgdnpddndeoaaGreatDoorW.PrintWords Go.Proofs.YtdpgdnpddndeoaaGreatDoorW.PrintMore Go.Proofs.YtdpgdnpddndeoaaGreatDoorW.PrintLast
set_option linter.unusedSimpArgs false
theorem zep {α : Type} {d : Kd α} {e base : Nat} {v : Value} {xs : List α} {W W0 : World} {G : Nat} (h : d.R e W W0.heap.size (fun _ => True) v xs) (hG : G < W0.heap.size) (hb : base <= W0.heap.size) : d.R e W base (fun k => k ≠ G) v xs :=
 Kd.R_lower (Kd.R_mono (Kd.R_bound h) (fun k hk e => by have := hk.2.1; omega)) hb
theorem zku {cur : Array Value} {i j : Nat} {u v : Value} (h : cur[j]? = some v) (_ : u = u) (hij : i ≠ j) : (cur.setIfInBounds i u)[j]? = some v := by
 rw [Array.getElem?_setIfInBounds, if_neg hij]; exact h
theorem zfn (l : List ByteArray) : (zae l).length = l.length := by unfold zae; rw [List.length_map, List.length_mergeSort, List.length_map]
def IsOne (f0 : ByteArray) (l1 l2 l3 : List ByteArray) (x : zaA) (w : World) (e : Ending) (w' : World) : Prop :=
 ∃ X1 d1 X2 d2 X3 d3 X4 d4, e = .returned (.agg #[.string f0, .slice X1 l1.length d1, .slice X2 l2.length d2, .slice X3 l3.length d3, .slice X4 1 d4]) /\
  RS w' w.heap.size (.slice X1 l1.length d1) l1 /\ RS w' w.heap.size (.slice X2 l2.length d2) l2 /\ RS w' w.heap.size (.slice X3 l3.length d3) l3 /\ Kd.R k24 24 w' w.heap.size (fun _ => True) (.slice X4 1 d4) [x] /\ Below w.heap.size w w'
set_option maxHeartbeats 8000000 in
set_option maxRecDepth 100000 in
theorem zgu (f0 : ByteArray) (l1 l2 l3 : List ByteArray) (x : zaA) (A1 : Option Addr) (c1 : Nat) (A2 : Option Addr) (c2 : Nat) (A3 : Option Addr) (c3 : Nat) (A4 : Option Addr) (c4 : Nat) (w : World)
 (h1 : Kd.C Kd.string w A1 l1.length l1) (h2 : Kd.C Kd.string w A2 l2.length l2) (h3 : Kd.C Kd.string w A3 l3.length l3) (h4 : Kd.C k24 w A4 1 [x])
 (hl1 : l1.length * 16 <= 140737488355328) (hl2 : l2.length * 16 <= 140737488355328) (hl3 : l3.length * 16 <= 140737488355328) (hl5 : x.f2.length * 16 <= 140737488355328) (hl6 : x.f3.length * 16 <= 140737488355328) :
 Calls Tryz.prog 147 #[.agg #[.string f0, .slice A1 l1.length c1, .slice A2 l2.length c2, .slice A3 l3.length c3, .slice A4 1 c4]] w (IsOne f0 (zae l1) (zae l2) (zae l3) x w) := by
 obtain ⟨ad, cs, rfl, hcl, hK, hcell⟩ := Kd.C_get h4 x 0 (by decide) (by decide)
 obtain ⟨A5, c5, A6, c6, hcs, hc5, h5, hc6, h6⟩ := zeB hK
 subst hcs
 have hsh : Kd.C kSh w (some ad) [((x.f0, x.f1, ⟨A5, x.f2.length, c5⟩, ⟨A6, x.f3.length, c6⟩, x.f4) : Sh)].length [((x.f0, x.f1, ⟨A5, x.f2.length, c5⟩, ⟨A6, x.f3.length, c6⟩, x.f4) : Sh)] := by
  refine ⟨rfl, by simp, fun _ => ⟨ad, rfl, fun j p hj => ?_⟩⟩
  match j, hj with
  | 0, hj =>
   simp at hj
   subst hj
   exact ⟨_, rfl, (sh_K _).2 rfl, hcell⟩
  | j + 1, hj => simp at hj
 have hb1 := (Below.refl w.heap.size w).alloc (Nat.le_refl _) (.cells #[.string f0, .slice A1 l1.length c1, .slice A2 l2.length c2, .slice A3 l3.length c3, .slice (some ad) 1 c4] 45)
 have hb2 := hb1.alloc hb1.size (.cells RUz 45)
 have hk := zat (zan w (.cells #[.string f0, .slice A1 l1.length c1, .slice A2 l2.length c2, .slice A3 l3.length c3, .slice (some ad) 1 c4] 45)) (.cells RUz 45)
 have hz := zan (w.alloc (.cells #[.string f0, .slice A1 l1.length c1, .slice A2 l2.length c2, .slice A3 l3.length c3, .slice (some ad) 1 c4] 45)) (.cells RUz 45)
 rw [World.size_alloc] at hz
 have HB2 := znM hb2
 have HK2 := znM hk
 have HZ2 := znM hz
 have H1 := znM h1
 have H2 := znM h2
 have H3 := znM h3
 have H4 := znM hsh
 have H5 := znM h5
 have H6 := znM h6
 have HL1 := znM hl1
 have HL2 := znM hl2
 have HL3 := znM hl3
 have HL5 := znM hl5
 have HL6 := znM hl6
 clear hb1 hb2 hk hz h1 h2 h3 h4 hl1 hl2 hl3 hl5 hl6 hcl hK hcell hc5 h5 hc6 h6 hsh
 go_enter Tryz.func147, Tryz.ntmps147
 go_wp2
 generalize (w.alloc (.cells #[.string f0, .slice A1 l1.length c1, .slice A2 l2.length c2, .slice A3 l3.length c3, .slice (some ad) 1 c4] 45)).alloc (.cells RUz 45) = w2 at HB2 HK2 HZ2 |-
 have HBwd := znM (zbl HB2.out)
 have HKwd := znM (zaP HK2.out)
 have HZwd := znM (zaP HZ2.out)
 have HC1wd := znM (Kd.C_below H1.out HBwd.out)
 have HC2wd := znM (Kd.C_below H2.out HBwd.out)
 have HC3wd := znM (Kd.C_below H3.out HBwd.out)
 have k1wd : w2.drew.cell? ⟨w.heap.size, 1, none⟩ = some (.slice A1 l1.length c1) := (zab HKwd.out 1).trans rfl
 have k2wd : w2.drew.cell? ⟨w.heap.size, 2, none⟩ = some (.slice A2 l2.length c2) := (zab HKwd.out 2).trans rfl
 have k3wd : w2.drew.cell? ⟨w.heap.size, 3, none⟩ = some (.slice A3 l3.length c3) := (zab HKwd.out 3).trans rfl
 clear HB2 HK2 HZ2 H1 H2 H3
--REG1
 refine zeG (n := 15) (S := fun w' => w'.cell? ⟨w.heap.size, 1, none⟩ = some (.slice A1 l1.length c1) /\ w'.cell? ⟨w.heap.size, 2, none⟩ = some (.slice A2 l2.length c2) /\ w'.cell? ⟨w.heap.size, 3, none⟩ = some (.slice A3 l3.length c3)) (ds := [10, 12, 14]) #[false, false, false, false, false, false, false, false, false, false, false, false, false, false, false] (by kernel_rfl) rfl rfl ⟨k1wd, k2wd, k3wd⟩ (fun hHeld => ?_)
 refine zaR (i := 0) (N := some 4) (v := ?_) (a' := ?_) #[true, false, false, false, false, false, false, false, false, false, false, false, false, false, false] rfl rfl (by kernel_rfl) (fun _ _ _ h => h) (Or.inl ⟨by rfl, ?_⟩) ?_ ?_
 rotate_left
 . intro w'
   go_simp
   with_reducible rfl
 rotate_left
 . simp only [Act.put, List.setIfInBounds_toArray, List.set_cons_zero, List.set_cons_succ, zav, zaw]
   rfl
 refine zaR (i := 3) (N := some 7) (v := ?_) (a' := ?_) #[true, false, false, true, false, false, false, false, false, false, false, false, false, false, false] rfl rfl (by kernel_rfl) (fun _ _ _ h => h) (Or.inl ⟨by rfl, ?_⟩) ?_ ?_
 rotate_left
 . intro w'
   go_simp
   with_reducible rfl
 rotate_left
 . simp only [Act.put, List.setIfInBounds_toArray, List.set_cons_zero, List.set_cons_succ, zav, zaw]
   rfl
 refine zaR (i := 6) (N := some 10) (v := ?_) (a' := ?_) #[true, false, false, true, false, false, true, false, false, false, false, false, false, false, false] rfl rfl (by kernel_rfl) (fun _ _ _ h => h) (Or.inl ⟨by rfl, ?_⟩) ?_ ?_
 rotate_left
 . intro w'
   go_simp
   with_reducible rfl
 rotate_left
 . simp only [Act.put, List.setIfInBounds_toArray, List.set_cons_zero, List.set_cons_succ, zav, zaw]
   rfl
 refine take_ (i := 1) (N := some 5) (v := ?_) (a' := ?_) #[true, true, false, true, false, false, true, false, false, false, false, false, false, false, false] rfl rfl (by kernel_rfl) (fun _ _ _ h => h) (Or.inl ⟨by rfl, ?_⟩) hHeld ?_ ?_
 rotate_left
 . rintro w' ⟨s0, s1, s2⟩
   go_simp
   with_reducible rfl
 rotate_left
 . simp only [Act.put, List.setIfInBounds_toArray, List.set_cons_zero, List.set_cons_succ, zav, zaw]
   rfl
 refine take_ (i := 4) (N := some 8) (v := ?_) (a' := ?_) #[true, true, false, true, true, false, true, false, false, false, false, false, false, false, false] rfl rfl (by kernel_rfl) (fun _ _ _ h => h) (Or.inl ⟨by rfl, ?_⟩) hHeld ?_ ?_
 rotate_left
 . rintro w' ⟨s0, s1, s2⟩
   go_simp
   with_reducible rfl
 rotate_left
 . simp only [Act.put, List.setIfInBounds_toArray, List.set_cons_zero, List.set_cons_succ, zav, zaw]
   rfl
 refine take_ (i := 7) (N := some 11) (v := ?_) (a' := ?_) #[true, true, false, true, true, false, true, true, false, false, false, false, false, false, false] rfl rfl (by kernel_rfl) (fun _ _ _ h => h) (Or.inl ⟨by rfl, ?_⟩) hHeld ?_ ?_
 rotate_left
 . rintro w' ⟨s0, s1, s2⟩
   go_simp
   with_reducible rfl
 rotate_left
 . simp only [Act.put, List.setIfInBounds_toArray, List.set_cons_zero, List.set_cons_succ, zav, zaw]
   rfl
 refine one_ (i := 2) (N := some 6) #[true, true, true, true, true, false, true, true, false, false, false, false, false, false, false] rfl rfl (by kernel_rfl) (by decide) (fun K hK => ?_)
 refine zcn Tryz.func198 (by kernel_rfl) rfl #[.slice A1 l1.length c1] (by rfl) rfl rfl (by simp only [List.map_toArray, List.map_cons, List.map_nil]; rfl) ?_
 with_reducible refine (zeQ A1 c1 l1 _ HC1wd.out HL1.out).mono ?_
 rintro e wa ⟨v1, rfl, ho1, hb1⟩
 obtain ⟨X1, d1, rfl, _, _⟩ := Kd.R_reads ho1
 refine ⟨_, rfl, ?_⟩
 have HBwa := znM (zad HBwd.out HBwd.out.size hb1)
 have HKwa := znM (zah HKwd.out hb1)
 have HZwa := znM (zah HZwd.out hb1)
 have HC2wa := znM (Kd.C_below HC2wd.out hb1)
 have HC3wa := znM (Kd.C_below HC3wd.out hb1)
 have HO1wa := znM (Kd.R_lower ho1 HBwd.out.size)
 have k1wa : wa.cell? ⟨w.heap.size, 1, none⟩ = some (.slice A1 l1.length c1) := (zab HKwa.out 1).trans rfl
 have k2wa : wa.cell? ⟨w.heap.size, 2, none⟩ = some (.slice A2 l2.length c2) := (zab HKwa.out 2).trans rfl
 have k3wa : wa.cell? ⟨w.heap.size, 3, none⟩ = some (.slice A3 l3.length c3) := (zab HKwa.out 3).trans rfl
 clear ho1 hb1
 refine hK.out _ _ ⟨k1wa, k2wa, k3wa⟩ (fun hHeld => ?_)
 clear hK K
 refine zbp (a' := ?_) ?_ ?_
 rotate_left
 . show Act.put _ (some 6) _ = _
   simp only [Act.put, List.setIfInBounds_toArray, List.set_cons_zero, List.set_cons_succ, zav, zaw]
   rfl
 refine zaR (i := 9) (N := some 13) (v := ?_) (a' := ?_) #[true, true, true, true, true, false, true, true, false, true, false, false, false, false, false] rfl rfl (by kernel_rfl) (fun _ _ _ h => h) (Or.inl ⟨by rfl, ?_⟩) ?_ ?_
 rotate_left
 . intro w'
   go_simp
   with_reducible rfl
 rotate_left
 . simp only [Act.put, List.setIfInBounds_toArray, List.set_cons_zero, List.set_cons_succ, zav, zaw]
   rfl
 refine one_ (i := 5) (N := some 9) #[true, true, true, true, true, true, true, true, false, true, false, false, false, false, false] rfl rfl (by kernel_rfl) (by decide) (fun K hK => ?_)
 refine zcn Tryz.func198 (by kernel_rfl) rfl #[.slice A2 l2.length c2] (by rfl) rfl rfl (by simp only [List.map_toArray, List.map_cons, List.map_nil]; rfl) ?_
 with_reducible refine (zeQ A2 c2 l2 _ HC2wa.out HL2.out).mono ?_
 rintro e wb ⟨v2, rfl, ho2, hb2⟩
 obtain ⟨X2, d2, rfl, _, _⟩ := Kd.R_reads ho2
 refine ⟨_, rfl, ?_⟩
 have HBwb := znM (zad HBwa.out HBwa.out.size hb2)
 have HKwb := znM (zah HKwa.out hb2)
 have HZwb := znM (zah HZwa.out hb2)
 have HC3wb := znM (Kd.C_below HC3wa.out hb2)
 have HO1wb := znM (Kd.R_below HO1wa.out hb2)
 have HO2wb := znM (Kd.R_lower ho2 HBwa.out.size)
 have k1wb : wb.cell? ⟨w.heap.size, 1, none⟩ = some (.slice A1 l1.length c1) := (zab HKwb.out 1).trans rfl
 have k2wb : wb.cell? ⟨w.heap.size, 2, none⟩ = some (.slice A2 l2.length c2) := (zab HKwb.out 2).trans rfl
 have k3wb : wb.cell? ⟨w.heap.size, 3, none⟩ = some (.slice A3 l3.length c3) := (zab HKwb.out 3).trans rfl
 clear ho2 hb2
 refine hK.out _ _ ⟨k1wb, k2wb, k3wb⟩ (fun hHeld => ?_)
 clear hK K
 refine zbp (a' := ?_) ?_ ?_
 rotate_left
 . show Act.put _ (some 9) _ = _
   simp only [Act.put, List.setIfInBounds_toArray, List.set_cons_zero, List.set_cons_succ, zav, zaw]
   rfl
 refine one_ (i := 8) (N := some 12) #[true, true, true, true, true, true, true, true, true, true, false, false, false, false, false] rfl rfl (by kernel_rfl) (by decide) (fun K hK => ?_)
 refine zcn Tryz.func198 (by kernel_rfl) rfl #[.slice A3 l3.length c3] (by rfl) rfl rfl (by simp only [List.map_toArray, List.map_cons, List.map_nil]; rfl) ?_
 with_reducible refine (zeQ A3 c3 l3 _ HC3wb.out HL3.out).mono ?_
 rintro e wc ⟨v3, rfl, ho3, hb3⟩
 obtain ⟨X3, d3, rfl, _, _⟩ := Kd.R_reads ho3
 refine ⟨_, rfl, ?_⟩
 have HBwc := znM (zad HBwb.out HBwb.out.size hb3)
 have HKwc := znM (zah HKwb.out hb3)
 have HZwc := znM (zah HZwb.out hb3)
 have HO1wc := znM (Kd.R_below HO1wb.out hb3)
 have HO2wc := znM (Kd.R_below HO2wb.out hb3)
 have HO3wc := znM (Kd.R_lower ho3 HBwb.out.size)
 have k1wc : wc.cell? ⟨w.heap.size, 1, none⟩ = some (.slice A1 l1.length c1) := (zab HKwc.out 1).trans rfl
 have k2wc : wc.cell? ⟨w.heap.size, 2, none⟩ = some (.slice A2 l2.length c2) := (zab HKwc.out 2).trans rfl
 have k3wc : wc.cell? ⟨w.heap.size, 3, none⟩ = some (.slice A3 l3.length c3) := (zab HKwc.out 3).trans rfl
 clear ho3 hb3
 refine hK.out _ _ ⟨k1wc, k2wc, k3wc⟩ (fun hHeld => ?_)
 clear hK K
 refine zbp (a' := ?_) ?_ ?_
 rotate_left
 . show Act.put _ (some 12) _ = _
   simp only [Act.put, List.setIfInBounds_toArray, List.set_cons_zero, List.set_cons_succ, zav, zaw]
   rfl
 refine zfi (i := 10) (N := none) #[true, true, true, true, true, true, true, true, true, true, true, false, false, false, false] rfl rfl (by kernel_rfl) (by decide) (fun K hK => ?_)
 have hs1 := HKwc.out
 have hs2 := zbC hs1 1 (.slice X1 (zae l1).length d1)
 have hs3 := zbC hs2 2 (.slice X2 (zae l2).length d2)
 have cs1 : (wc).cell? ⟨w.heap.size, 1, none⟩ = some (.slice A1 l1.length c1) := (zab hs1 1).trans rfl
 have fs1 := zag hs1 1
 refine zdF (w1 := ?_) (by rfl) rfl ?_ ?_
 rotate_left
 . go_simp
   rfl
 refine hK.out _ _ ?_
 clear hK K
 refine zaR (i := 11) (N := some 14) (v := ?_) (a' := ?_) #[true, true, true, true, true, true, true, true, true, true, true, true, false, false, false] rfl rfl (by kernel_rfl) (fun _ _ _ h => h) (Or.inl ⟨by rfl, ?_⟩) ?_ ?_
 rotate_left
 . intro w'
   go_simp
   with_reducible rfl
 rotate_left
 . simp only [Act.put, List.setIfInBounds_toArray, List.set_cons_zero, List.set_cons_succ, zav, zaw]
   rfl
 refine zfi (i := 12) (N := none) #[true, true, true, true, true, true, true, true, true, true, true, true, true, false, false] rfl rfl (by kernel_rfl) (by decide) (fun K hK => ?_)
 have cs2 : (wc.setCell ⟨w.heap.size, 1, none⟩ (.slice X1 (zae l1).length d1)).cell? ⟨w.heap.size, 2, none⟩ = some (.slice A2 l2.length c2) := (zab hs2 2).trans rfl
 have fs2 := zag hs2 2
 refine zdF (w1 := ?_) (by rfl) rfl ?_ ?_
 rotate_left
 . go_simp
   rfl
 refine hK.out _ _ ?_
 clear hK K
 refine zaR (i := 13) (N := some 15) (v := ?_) (a' := ?_) #[true, true, true, true, true, true, true, true, true, true, true, true, true, true, false] rfl rfl (by kernel_rfl) (fun _ _ _ h => h) (Or.inl ⟨by rfl, ?_⟩) ?_ ?_
 rotate_left
 . intro w'
   go_simp
   with_reducible rfl
 rotate_left
 . simp only [Act.put, List.setIfInBounds_toArray, List.set_cons_zero, List.set_cons_succ, zav, zaw]
   rfl
 refine zfi (i := 14) (N := none) #[true, true, true, true, true, true, true, true, true, true, true, true, true, true, true] rfl rfl (by kernel_rfl) (by decide) (fun K hK => ?_)
 have cs3 : ((wc.setCell ⟨w.heap.size, 1, none⟩ (.slice X1 (zae l1).length d1)).setCell ⟨w.heap.size, 2, none⟩ (.slice X2 (zae l2).length d2)).cell? ⟨w.heap.size, 3, none⟩ = some (.slice A3 l3.length c3) := (zab hs3 3).trans rfl
 have fs3 := zag hs3 3
 refine zdF (w1 := ?_) (by rfl) rfl ?_ ?_
 rotate_left
 . go_simp
   rfl
 refine hK.out _ _ ?_
 clear hK K
 refine zeH (by kernel_rfl) ?_
--REG1E
 have hs4 := zbC hs3 3 (.slice X3 (zae l3).length d3)
 have hs4' : (((wc.setCell ⟨w.heap.size, 1, none⟩ (.slice X1 (zae l1).length d1)).setCell ⟨w.heap.size, 2, none⟩ (.slice X2 (zae l2).length d2)).setCell ⟨w.heap.size, 3, none⟩ (.slice X3 (zae l3).length d3)).heap[w.heap.size]? = some (.cells #[.string f0, .slice X1 (zae l1).length d1, .slice X2 (zae l2).length d2, .slice X3 (zae l3).length d3, .slice (some ad) 1 c4] 45 (0, 0)) := hs4
 have HK5 := znM hs4'
 have HB5 := znM (((HBwc.out.setCell (p := ⟨w.heap.size, 1, none⟩) (Nat.le_refl _) (.slice X1 (zae l1).length d1)).setCell (p := ⟨w.heap.size, 2, none⟩) (Nat.le_refl _) (.slice X2 (zae l2).length d2)).setCell (p := ⟨w.heap.size, 3, none⟩) (Nat.le_refl _) (.slice X3 (zae l3).length d3))
 have hzn : w.heap.size + 1 ≠ w.heap.size := by omega
 have HZ5 := znM (zaJ (zaJ (zaJ HZwc.out (p := ⟨w.heap.size, 1, none⟩) hzn (.slice X1 (zae l1).length d1)) (p := ⟨w.heap.size, 2, none⟩) hzn (.slice X2 (zae l2).length d2)) (p := ⟨w.heap.size, 3, none⟩) hzn (.slice X3 (zae l3).length d3))
 have HO15 := znM (Kd.R_set (Kd.R_set (Kd.R_set HO1wc.out hs1 (by decide) 1 (.slice X1 (zae l1).length d1)) hs2 (by decide) 2 (.slice X2 (zae l2).length d2)) hs3 (by decide) 3 (.slice X3 (zae l3).length d3))
 have HO25 := znM (Kd.R_set (Kd.R_set (Kd.R_set HO2wc.out hs1 (by decide) 1 (.slice X1 (zae l1).length d1)) hs2 (by decide) 2 (.slice X2 (zae l2).length d2)) hs3 (by decide) 3 (.slice X3 (zae l3).length d3))
 have HO35 := znM (Kd.R_set (Kd.R_set (Kd.R_set HO3wc.out hs1 (by decide) 1 (.slice X1 (zae l1).length d1)) hs2 (by decide) 2 (.slice X2 (zae l2).length d2)) hs3 (by decide) 3 (.slice X3 (zae l3).length d3))
 have k45 : (((wc.setCell ⟨w.heap.size, 1, none⟩ (.slice X1 (zae l1).length d1)).setCell ⟨w.heap.size, 2, none⟩ (.slice X2 (zae l2).length d2)).setCell ⟨w.heap.size, 3, none⟩ (.slice X3 (zae l3).length d3)).cell? ⟨w.heap.size, 4, none⟩ = some (.slice (some ad) 1 c4) := (zab hs4' 4).trans rfl
 go_wp2_with fail
 generalize ((wc.setCell ⟨w.heap.size, 1, none⟩ (.slice X1 (zae l1).length d1)).setCell ⟨w.heap.size, 2, none⟩ (.slice X2 (zae l2).length d2)).setCell ⟨w.heap.size, 3, none⟩ (.slice X3 (zae l3).length d3) = w5 at HK5 HB5 HZ5 HO15 HO25 HO35 |-
 clear hs1 hs2 hs3 hs4 hs4' cs1 cs2 cs3 fs1 fs2 fs3 k45
 have hcl : Calls Tryz.prog 199 #[.slice (some ad) 1 c4] w5 _ := zkw ad c4 [((x.f0, x.f1, ⟨A5, x.f2.length, c5⟩, ⟨A6, x.f3.length, c6⟩, x.f4) : Sh)] w5 (Kd.C_below H4.out HB5.out) (by simp)
 refine hcl.mono ?_
 rintro e w6 ⟨v6, rfl, hr6, hb6⟩
 obtain ⟨_, inner, ho6, hrep⟩ := hr6
 rcases ho6.2 with ⟨_, hn⟩ | ⟨G, cG, cur, rfl, hbase, hG, q1, q2, q3, q4⟩
 . simp at hn
 have hin : inner = [.string x.f0, .int .i64 x.f1, .slice A5 x.f2.length c5, .slice A6 x.f3.length c6, .int .i64 x.f4] := by
  have h0 := (sh_M _).1 (hrep.2 0 ((x.f0, x.f1, ⟨A5, x.f2.length, c5⟩, ⟨A6, x.f3.length, c6⟩, x.f4) : Sh) rfl)
  have hlen : inner.length = 5 := hrep.1
  rw [Nat.zero_mul, List.drop_zero, show kSh.sz = 5 from rfl, List.take_of_length_le (by omega)] at h0
  exact h0
 have q4' : cur.toList.take 5 = [.string x.f0, .int .i64 x.f1, .slice A5 x.f2.length c5, .slice A6 x.f3.length c6, .int .i64 x.f4] := by rw [<- hin]; exact q4
 have hat : ∀ i, i < 5 -> cur[i]? = ([.string x.f0, .int .i64 x.f1, .slice A5 x.f2.length c5, .slice A6 x.f3.length c6, .int .i64 x.f4] : List Value)[i]? := fun i hi => by
  rw [<- q4', List.getElem?_take_of_lt hi, Array.getElem?_toList]
 have HG2 : Hid (cur[2]? = some (.slice A5 x.f2.length c5)) := (hat 2 (by omega)).trans rfl
 have HG3 : Hid (cur[3]? = some (.slice A6 x.f3.length c6)) := (hat 3 (by omega)).trans rfl
 have HAt := znM hat
 have HCap : Hid (cur.size = cG * 5 /\ 1 <= cG /\ cG <= maxLen) := ⟨q3, q1, q2⟩
 have hGB : w.heap.size ≠ G := by have := za2 HK5.out; omega
 have hGZ : w.heap.size + 1 ≠ G := by have := za2 HZ5.out; omega
 have HGb : Hid (w.heap.size <= G) := by show _ <= _; have := za2 HK5.out; omega
 have hK6 := zah HK5.out hb6
 have HB7 := znM ((zad HB5.out HB5.out.size hb6).setCell (p := ⟨w.heap.size, 4, none⟩) (Nat.le_refl _) (.slice (some ⟨G, 0, none⟩) 1 cG))
 have HK7 : Hid ((w6.setCell ⟨w.heap.size, 4, none⟩ (.slice (some ⟨G, 0, none⟩) 1 cG)).heap[w.heap.size]? = some (.cells #[.string f0, .slice X1 (zae l1).length d1, .slice X2 (zae l2).length d2, .slice X3 (zae l3).length d3, .slice (some ⟨G, 0, none⟩) 1 cG] 45 (0, 0))) := zap hK6 4 _ rfl
 have HZ7 := znM (zaJ (zah HZ5.out hb6) (p := ⟨w.heap.size, 4, none⟩) (by show w.heap.size + 1 ≠ w.heap.size; omega) (.slice (some ⟨G, 0, none⟩) 1 cG))
 have HG7 := znM (zaJ hG (p := ⟨w.heap.size, 4, none⟩) hGB.symm (.slice (some ⟨G, 0, none⟩) 1 cG))
 have HO17 := znM (Kd.R_set (Kd.R_below HO15.out hb6) hK6 (by decide) 4 (.slice (some ⟨G, 0, none⟩) 1 cG))
 have HO27 := znM (Kd.R_set (Kd.R_below HO25.out hb6) hK6 (by decide) 4 (.slice (some ⟨G, 0, none⟩) 1 cG))
 have HO37 := znM (Kd.R_set (Kd.R_below HO35.out hb6) hK6 (by decide) 4 (.slice (some ⟨G, 0, none⟩) 1 cG))
 have c46 : w6.cell? ⟨w.heap.size, 4, none⟩ = some (.slice (some ad) 1 c4) := (zab hK6 4).trans rfl
 have f46 : w6.frozen? ⟨w.heap.size, 4, none⟩ = false := zag hK6 4
 have k47 : ∀ v, (w6.setCell ⟨w.heap.size, 4, none⟩ v).cell? ⟨w.heap.size, 4, none⟩ = some v := fun v => (zab (zbC hK6 4 v) 4).trans rfl
 clear hcl hb6 hrep ho6 hbase hG q1 q2 q3 q4 hin q4' hat hK6 HO15 HO25 HO35 HZ5 HK5 HB5
 go_wp2_with fail
 generalize w6.setCell ⟨w.heap.size, 4, none⟩ (.slice (some ⟨G, 0, none⟩) 1 cG) = w7 at HB7 HK7 HZ7 HG7 HO17 HO27 HO37 |-
 clear c46 f46 k47
 go_loopg [3, 23] 1 (fun gg _ s23 wr => ∃ kk : Nat, kk <= 1 /\ 1 - kk <= gg /\ s23 = .int .i64 kk /\ Aside0 (Below w.heap.size w wr) /\ Aside0 (wr.heap[w.heap.size]? = some (.cells #[.string f0, .slice X1 (zae l1).length d1, .slice X2 (zae l2).length d2, .slice X3 (zae l3).length d3, .slice (some ⟨G, 0, none⟩) 1 cG] 45 (0, 0))) /\ Aside0 (wr.heap[w.heap.size + 1]? = some (.cells RUz 45 (0, 0))) /\ Aside0 (RS wr w.heap.size (.slice X1 (zae l1).length d1) (zae l1)) /\ Aside0 (RS wr w.heap.size (.slice X2 (zae l2).length d2) (zae l2)) /\ Aside0 (RS wr w.heap.size (.slice X3 (zae l3).length d3) (zae l3)) /\
  Aside0 (kk = 0 -> wr.heap[G]? = some (.cells cur 24 (0, 0))) /\
  Aside0 (kk = 1 -> ∃ X5 d5 X6 d6, wr.heap[G]? = some (.cells ((cur.setIfInBounds 2 (.slice X5 x.f2.length d5)).setIfInBounds 3 (.slice X6 x.f3.length d6)) 24 (0, 0)) /\ Kd.R Kd.string 9 wr w.heap.size (fun k => k ≠ G) (.slice X5 x.f2.length d5) x.f2 /\ Kd.R Kd.string 9 wr w.heap.size (fun k => k ≠ G) (.slice X6 x.f3.length d6) x.f3))
 case atStart => exact ⟨0, by omega, by omega, rfl, ⟨HB7.out⟩, ⟨HK7.out⟩, ⟨HZ7.out⟩, ⟨HO17.out⟩, ⟨HO27.out⟩, ⟨HO37.out⟩, ⟨fun _ => HG7.out⟩, ⟨fun h => by omega⟩⟩
 case round =>
  obtain ⟨kk, hkk, hgk, rfl, HB8, HK8, HZ8, HO18, HO28, HO38, HP0, HP1⟩ := hrel
  by_cases h0 : kk = 0
  . subst h0
    have HG8 := znM (HP0.out rfl)
    go_wp2_with fail
    have HBwe := znM (zbl HB8.out)
    have HKwe := znM (zaP HK8.out)
    have HZwe := znM (zaP HZ8.out)
    have HGwe := znM (zaP HG8.out)
    have dr : Below wr.heap.size wr wr.drew := ⟨rfl, rfl, rfl, Nat.le_refl _, fun _ _ => rfl⟩
    have HO1we := znM (Kd.R_below HO18.out dr)
    have HO2we := znM (Kd.R_below HO28.out dr)
    have HO3we := znM (Kd.R_below HO38.out dr)
    have HC5we := znM (Kd.C_below H5.out HBwe.out)
    have HC6we := znM (Kd.C_below H6.out HBwe.out)
    have k4we : wr.drew.cell? ⟨w.heap.size, 4, none⟩ = some (.slice (some ⟨G, 0, none⟩) 1 cG) := (zab HKwe.out 4).trans rfl
    have k5we : wr.drew.cell? ⟨G, 2, none⟩ = some (.slice A5 x.f2.length c5) := (zab HGwe.out 2).trans HG2.out
    have k6we : wr.drew.cell? ⟨G, 3, none⟩ = some (.slice A6 x.f3.length c6) := (zab HGwe.out 3).trans HG3.out
    clear dr HB8 HK8 HZ8 HG8 HO18 HO28 HO38 HP0 HP1
--REG6
    refine zeG (n := 26) (S := fun w' => w'.cell? ⟨w.heap.size, 4, none⟩ = some (.slice (some ⟨G, 0, none⟩) 1 cG)) (ds := []) #[false, false, false, false, false, false, false, false, false, false, false, false, false, false, false, false, false, false, false, false, false, false, false, false, false, false] (by kernel_rfl) rfl rfl (k4we) (fun hHeld => ?_)
    refine zaR (i := 0) (N := some 26) (v := ?_) (a' := ?_) #[true, false, false, false, false, false, false, false, false, false, false, false, false, false, false, false, false, false, false, false, false, false, false, false, false, false] rfl rfl (by kernel_rfl) (fun _ _ _ h => h) (Or.inl ⟨by rfl, ?_⟩) ?_ ?_
    rotate_left
    . intro w'
      go_simp
      with_reducible rfl
    rotate_left
    . simp only [Act.put, List.setIfInBounds_toArray, List.set_cons_zero, List.set_cons_succ, zav, zaw]
      rfl
    refine zaR (i := 2) (N := some 28) (v := ?_) (a' := ?_) #[true, false, true, false, false, false, false, false, false, false, false, false, false, false, false, false, false, false, false, false, false, false, false, false, false, false] rfl rfl (by kernel_rfl) (fun _ _ _ h => h) (Or.inl ⟨by rfl, ?_⟩) ?_ ?_
    rotate_left
    . intro w'
      go_simp
      with_reducible rfl
    rotate_left
    . simp only [Act.put, List.setIfInBounds_toArray, List.set_cons_zero, List.set_cons_succ, zav, zaw]
      rfl
    refine zaR (i := 3) (N := some 29) (v := ?_) (a' := ?_) #[true, false, true, true, false, false, false, false, false, false, false, false, false, false, false, false, false, false, false, false, false, false, false, false, false, false] rfl rfl (by kernel_rfl) (fun _ _ _ h => h) (Or.inl ⟨by rfl, ?_⟩) ?_ ?_
    rotate_left
    . intro w'
      go_simp
      with_reducible rfl
    rotate_left
    . simp only [Act.put, List.setIfInBounds_toArray, List.set_cons_zero, List.set_cons_succ, zav, zaw]
      rfl
    refine zaR (i := 5) (N := some 31) (v := ?_) (a' := ?_) #[true, false, true, true, false, true, false, false, false, false, false, false, false, false, false, false, false, false, false, false, false, false, false, false, false, false] rfl rfl (by kernel_rfl) (fun _ _ _ h => h) (Or.inl ⟨by rfl, ?_⟩) ?_ ?_
    rotate_left
    . intro w'
      go_simp
      with_reducible rfl
    rotate_left
    . simp only [Act.put, List.setIfInBounds_toArray, List.set_cons_zero, List.set_cons_succ, zav, zaw]
      rfl
    refine zaR (i := 6) (N := some 32) (v := ?_) (a' := ?_) #[true, false, true, true, false, true, true, false, false, false, false, false, false, false, false, false, false, false, false, false, false, false, false, false, false, false] rfl rfl (by kernel_rfl) (fun _ _ _ h => h) (Or.inl ⟨by rfl, ?_⟩) ?_ ?_
    rotate_left
    . intro w'
      go_simp
      with_reducible rfl
    rotate_left
    . simp only [Act.put, List.setIfInBounds_toArray, List.set_cons_zero, List.set_cons_succ, zav, zaw]
      rfl
    refine zaR (i := 8) (N := some 34) (v := ?_) (a' := ?_) #[true, false, true, true, false, true, true, false, true, false, false, false, false, false, false, false, false, false, false, false, false, false, false, false, false, false] rfl rfl (by kernel_rfl) (fun _ _ _ h => h) (Or.inl ⟨by rfl, ?_⟩) ?_ ?_
    rotate_left
    . intro w'
      go_simp
      with_reducible rfl
    rotate_left
    . simp only [Act.put, List.setIfInBounds_toArray, List.set_cons_zero, List.set_cons_succ, zav, zaw]
      rfl
    refine zaR (i := 13) (N := some 39) (v := ?_) (a' := ?_) #[true, false, true, true, false, true, true, false, true, false, false, false, false, true, false, false, false, false, false, false, false, false, false, false, false, false] rfl rfl (by kernel_rfl) (fun _ _ _ h => h) (Or.inl ⟨by rfl, ?_⟩) ?_ ?_
    rotate_left
    . intro w'
      go_simp
      with_reducible rfl
    rotate_left
    . simp only [Act.put, List.setIfInBounds_toArray, List.set_cons_zero, List.set_cons_succ, zav, zaw]
      rfl
    refine zaR (i := 15) (N := some 41) (v := ?_) (a' := ?_) #[true, false, true, true, false, true, true, false, true, false, false, false, false, true, false, true, false, false, false, false, false, false, false, false, false, false] rfl rfl (by kernel_rfl) (fun _ _ _ h => h) (Or.inl ⟨by rfl, ?_⟩) ?_ ?_
    rotate_left
    . intro w'
      go_simp
      with_reducible rfl
    rotate_left
    . simp only [Act.put, List.setIfInBounds_toArray, List.set_cons_zero, List.set_cons_succ, zav, zaw]
      rfl
    refine take_ (i := 1) (N := some 27) (v := ?_) (a' := ?_) #[true, true, true, true, false, true, true, false, true, false, false, false, false, true, false, true, false, false, false, false, false, false, false, false, false, false] rfl rfl (by kernel_rfl) (fun _ _ _ h => h) (Or.inl ⟨by rfl, ?_⟩) hHeld ?_ ?_
    rotate_left
    . intro w' s0
      go_simp
      with_reducible rfl
    rotate_left
    . simp only [Act.put, List.setIfInBounds_toArray, List.set_cons_zero, List.set_cons_succ, zav, zaw]
      rfl
    refine take_ (i := 4) (N := some 30) (v := ?_) (a' := ?_) #[true, true, true, true, true, true, true, false, true, false, false, false, false, true, false, true, false, false, false, false, false, false, false, false, false, false] rfl rfl (by kernel_rfl) (fun _ _ _ h => h) (Or.inl ⟨by rfl, ?_⟩) hHeld ?_ ?_
    rotate_left
    . intro w' s0
      go_simp
      with_reducible rfl
    rotate_left
    . simp only [Act.put, List.setIfInBounds_toArray, List.set_cons_zero, List.set_cons_succ, zav, zaw]
      rfl
    refine take_ (i := 7) (N := some 33) (v := ?_) (a' := ?_) #[true, true, true, true, true, true, true, true, true, false, false, false, false, true, false, true, false, false, false, false, false, false, false, false, false, false] rfl rfl (by kernel_rfl) (fun _ _ _ h => h) (Or.inl ⟨by rfl, ?_⟩) hHeld ?_ ?_
    rotate_left
    . intro w' s0
      go_simp
      with_reducible rfl
    rotate_left
    . simp only [Act.put, List.setIfInBounds_toArray, List.set_cons_zero, List.set_cons_succ, zav, zaw]
      rfl
    refine zaR (i := 9) (N := some 35) (v := ?_) (a' := ?_) #[true, true, true, true, true, true, true, true, true, true, false, false, false, true, false, true, false, false, false, false, false, false, false, false, false, false] rfl rfl (by kernel_rfl) (fun _ _ _ h => h) (Or.inl ⟨by rfl, ?_⟩) ?_ ?_
    rotate_left
    . intro w'
      go_simp
      with_reducible rfl
    rotate_left
    . simp only [Act.put, List.setIfInBounds_toArray, List.set_cons_zero, List.set_cons_succ, zav, zaw]
      rfl
    refine zaR (i := 10) (N := some 36) (v := ?_) (a' := ?_) #[true, true, true, true, true, true, true, true, true, true, true, false, false, true, false, true, false, false, false, false, false, false, false, false, false, false] rfl rfl (by kernel_rfl) (fun _ _ _ h => h) (Or.inl ⟨by rfl, ?_⟩) ?_ ?_
    rotate_left
    . intro w'
      go_simp
      with_reducible rfl
    rotate_left
    . simp only [Act.put, List.setIfInBounds_toArray, List.set_cons_zero, List.set_cons_succ, zav, zaw]
      rfl
    refine take_ (i := 14) (N := some 40) (v := ?_) (a' := ?_) #[true, true, true, true, true, true, true, true, true, true, true, false, false, true, true, true, false, false, false, false, false, false, false, false, false, false] rfl rfl (by kernel_rfl) (fun _ _ _ h => h) (Or.inl ⟨by rfl, ?_⟩) hHeld ?_ ?_
    rotate_left
    . intro w' s0
      go_simp
      with_reducible rfl
    rotate_left
    . simp only [Act.put, List.setIfInBounds_toArray, List.set_cons_zero, List.set_cons_succ, zav, zaw]
      rfl
    refine zaR (i := 16) (N := some 42) (v := ?_) (a' := ?_) #[true, true, true, true, true, true, true, true, true, true, true, false, false, true, true, true, true, false, false, false, false, false, false, false, false, false] rfl rfl (by kernel_rfl) (fun _ _ _ h => h) (Or.inl ⟨by rfl, ?_⟩) ?_ ?_
    rotate_left
    . intro w'
      go_simp
      with_reducible rfl
    rotate_left
    . simp only [Act.put, List.setIfInBounds_toArray, List.set_cons_zero, List.set_cons_succ, zav, zaw]
      rfl
    refine zaR (i := 17) (N := some 43) (v := ?_) (a' := ?_) #[true, true, true, true, true, true, true, true, true, true, true, false, false, true, true, true, true, true, false, false, false, false, false, false, false, false] rfl rfl (by kernel_rfl) (fun _ _ _ h => h) (Or.inl ⟨by rfl, ?_⟩) ?_ ?_
    rotate_left
    . intro w'
      go_simp
      with_reducible rfl
    rotate_left
    . simp only [Act.put, List.setIfInBounds_toArray, List.set_cons_zero, List.set_cons_succ, zav, zaw]
      rfl
    refine join_ (σ := Option Addr × Nat) 7 #[true, true, true, true, true, true, true, true, true, true, true, true, true, true, true, true, true, true, true, false, false, false, false, false, false, false] (fun s => [(37, .slice A5 x.f2.length c5), (38, .slice s.1 x.f2.length s.2), (44, .slice A6 x.f3.length c6)]) (fun s w' => Below w.heap.size w w' /\ w'.heap[w.heap.size]? = some (.cells #[.string f0, .slice X1 (zae l1).length d1, .slice X2 (zae l2).length d2, .slice X3 (zae l3).length d3, .slice (some ⟨G, 0, none⟩) 1 cG] 45 (0, 0)) /\ w'.heap[w.heap.size + 1]? = some (.cells RUz 45 (0, 0)) /\ w'.heap[G]? = some (.cells cur 24 (0, 0)) /\ RS w' w.heap.size (.slice X1 (zae l1).length d1) (zae l1) /\ RS w' w.heap.size (.slice X2 (zae l2).length d2) (zae l2) /\ RS w' w.heap.size (.slice X3 (zae l3).length d3) (zae l3) /\ Kd.C Kd.string w' A6 x.f3.length x.f3 /\ Kd.R Kd.string 9 w' w.heap.size (fun k => k ≠ G) (.slice s.1 x.f2.length s.2) x.f2) ?_ ?_
    rotate_left
    . intro hCont
      refine two_ (i := 11) (j := 18) (Ni := some 37) (Nj := some 44) #[true, true, true, true, true, true, true, true, true, true, true, true, false, true, true, true, true, true, false, false, false, false, false, false, false, false] #[true, true, true, true, true, true, true, true, true, true, true, false, false, true, true, true, true, true, true, false, false, false, false, false, false, false] rfl rfl rfl rfl (by kernel_rfl) (by decide) (by decide) (fun K hK => ?_) (fun K hK => ?_)
      . skip
        refine zdD (w1 := ?_) (v := ?_) (by rfl) rfl ?_ ?_
        rotate_left 2
        . go_simp
          constructor
          . rfl
          . rfl
        refine hK.out _ _ (k4we) (fun hHeld => ?_)
        clear hK K
        refine zbp (a' := ?_) ?_ ?_
        rotate_left
        . show Act.put _ (some 37) _ = _
          simp only [Act.put, List.setIfInBounds_toArray, List.set_cons_zero, List.set_cons_succ, zav, zaw]
          rfl
        refine two_ (i := 12) (j := 18) (Ni := some 38) (Nj := some 44) #[true, true, true, true, true, true, true, true, true, true, true, true, true, true, true, true, true, true, false, false, false, false, false, false, false, false] #[true, true, true, true, true, true, true, true, true, true, true, true, false, true, true, true, true, true, true, false, false, false, false, false, false, false] rfl rfl rfl rfl (by kernel_rfl) (by decide) (by decide) (fun K hK => ?_) (fun K hK => ?_)
        . skip
          refine zcn Tryz.func99 (by kernel_rfl) rfl #[.slice A5 x.f2.length c5] (by rfl) rfl rfl (by simp only [List.map_toArray, List.map_cons, List.map_nil]; rfl) ?_
          with_reducible refine (zcW A5 c5 x.f2 _ HC5we.out HL5.out).mono ?_
          rintro e wf ⟨v5, rfl, ho5, hb5⟩
          have hp5 : RS wf wr.drew.heap.size v5 x.f2 := Kd.R_of_own (h1 := fun _ => rfl) ho5 (fun _ _ => trivial)
          obtain ⟨X5, d5, rfl, _, _⟩ := Kd.R_reads hp5
          refine ⟨_, rfl, ?_⟩
          have HBwf := znM (zad HBwe.out HBwe.out.size hb5)
          have HKwf := znM (zah HKwe.out hb5)
          have HZwf := znM (zah HZwe.out hb5)
          have HGwf := znM (zah HGwe.out hb5)
          have HO1wf := znM (Kd.R_below HO1we.out hb5)
          have HO2wf := znM (Kd.R_below HO2we.out hb5)
          have HO3wf := znM (Kd.R_below HO3we.out hb5)
          have HC6wf := znM (Kd.C_below HC6we.out hb5)
          have HO5wf := znM (zep (base := w.heap.size) hp5 (za2 HGwe.out) HBwe.out.size)
          have k4wf : wf.cell? ⟨w.heap.size, 4, none⟩ = some (.slice (some ⟨G, 0, none⟩) 1 cG) := (zab HKwf.out 4).trans rfl
          have k6wf : wf.cell? ⟨G, 3, none⟩ = some (.slice A6 x.f3.length c6) := (zab HGwf.out 3).trans HG3.out
          clear ho5 hp5 hb5
          refine hK.out _ _ (k4wf) (fun hHeld => ?_)
          clear hK K
          refine zbp (a' := ?_) ?_ ?_
          rotate_left
          . show Act.put _ (some 38) _ = _
            simp only [Act.put, List.setIfInBounds_toArray, List.set_cons_zero, List.set_cons_succ, zav, zaw]
            rfl
          refine one_ (i := 18) (N := some 44) #[true, true, true, true, true, true, true, true, true, true, true, true, true, true, true, true, true, true, true, false, false, false, false, false, false, false] rfl rfl (by kernel_rfl) (by decide) (fun K hK => ?_)
          refine zdD (w1 := ?_) (v := ?_) (by rfl) rfl ?_ ?_
          rotate_left 2
          . go_simp
            constructor
            . rfl
            . rfl
          refine hK.out _ _ (k4wf) (fun hHeld => ?_)
          clear hK K
          refine zbp (a' := ?_) ?_ ?_
          rotate_left
          . show Act.put _ (some 44) _ = _
            simp only [Act.put, List.setIfInBounds_toArray, List.set_cons_zero, List.set_cons_succ, zav, zaw]
            rfl
          exact zbp (by simp only [zcV, Act.put, List.setIfInBounds_toArray, List.set_cons_zero, List.set_cons_succ]) (hCont (X5, d5) _ ⟨HBwf.out, HKwf.out, HZwf.out, HGwf.out, HO1wf.out, HO2wf.out, HO3wf.out, HC6wf.out, HO5wf.out⟩)
        . skip
          refine zdD (w1 := ?_) (v := ?_) (by rfl) rfl ?_ ?_
          rotate_left 2
          . go_simp
            constructor
            . rfl
            . rfl
          refine hK.out _ _ (k4we) (fun hHeld => ?_)
          clear hK K
          refine zbp (a' := ?_) ?_ ?_
          rotate_left
          . show Act.put _ (some 44) _ = _
            simp only [Act.put, List.setIfInBounds_toArray, List.set_cons_zero, List.set_cons_succ, zav, zaw]
            rfl
          refine one_ (i := 12) (N := some 38) #[true, true, true, true, true, true, true, true, true, true, true, true, true, true, true, true, true, true, true, false, false, false, false, false, false, false] rfl rfl (by kernel_rfl) (by decide) (fun K hK => ?_)
          refine zcn Tryz.func99 (by kernel_rfl) rfl #[.slice A5 x.f2.length c5] (by rfl) rfl rfl (by simp only [List.map_toArray, List.map_cons, List.map_nil]; rfl) ?_
          with_reducible refine (zcW A5 c5 x.f2 _ HC5we.out HL5.out).mono ?_
          rintro e wf ⟨v5, rfl, ho5, hb5⟩
          have hp5 : RS wf wr.drew.heap.size v5 x.f2 := Kd.R_of_own (h1 := fun _ => rfl) ho5 (fun _ _ => trivial)
          obtain ⟨X5, d5, rfl, _, _⟩ := Kd.R_reads hp5
          refine ⟨_, rfl, ?_⟩
          have HBwf := znM (zad HBwe.out HBwe.out.size hb5)
          have HKwf := znM (zah HKwe.out hb5)
          have HZwf := znM (zah HZwe.out hb5)
          have HGwf := znM (zah HGwe.out hb5)
          have HO1wf := znM (Kd.R_below HO1we.out hb5)
          have HO2wf := znM (Kd.R_below HO2we.out hb5)
          have HO3wf := znM (Kd.R_below HO3we.out hb5)
          have HC6wf := znM (Kd.C_below HC6we.out hb5)
          have HO5wf := znM (zep (base := w.heap.size) hp5 (za2 HGwe.out) HBwe.out.size)
          have k4wf : wf.cell? ⟨w.heap.size, 4, none⟩ = some (.slice (some ⟨G, 0, none⟩) 1 cG) := (zab HKwf.out 4).trans rfl
          have k6wf : wf.cell? ⟨G, 3, none⟩ = some (.slice A6 x.f3.length c6) := (zab HGwf.out 3).trans HG3.out
          clear ho5 hp5 hb5
          refine hK.out _ _ (k4wf) (fun hHeld => ?_)
          clear hK K
          refine zbp (a' := ?_) ?_ ?_
          rotate_left
          . show Act.put _ (some 38) _ = _
            simp only [Act.put, List.setIfInBounds_toArray, List.set_cons_zero, List.set_cons_succ, zav, zaw]
            rfl
          exact zbp (by simp only [zcV, Act.put, List.setIfInBounds_toArray, List.set_cons_zero, List.set_cons_succ]) (hCont (X5, d5) _ ⟨HBwf.out, HKwf.out, HZwf.out, HGwf.out, HO1wf.out, HO2wf.out, HO3wf.out, HC6wf.out, HO5wf.out⟩)
      . skip
        refine zdD (w1 := ?_) (v := ?_) (by rfl) rfl ?_ ?_
        rotate_left 2
        . go_simp
          constructor
          . rfl
          . rfl
        refine hK.out _ _ (k4we) (fun hHeld => ?_)
        clear hK K
        refine zbp (a' := ?_) ?_ ?_
        rotate_left
        . show Act.put _ (some 44) _ = _
          simp only [Act.put, List.setIfInBounds_toArray, List.set_cons_zero, List.set_cons_succ, zav, zaw]
          rfl
        refine one_ (i := 11) (N := some 37) #[true, true, true, true, true, true, true, true, true, true, true, true, false, true, true, true, true, true, true, false, false, false, false, false, false, false] rfl rfl (by kernel_rfl) (by decide) (fun K hK => ?_)
        refine zdD (w1 := ?_) (v := ?_) (by rfl) rfl ?_ ?_
        rotate_left 2
        . go_simp
          constructor
          . rfl
          . rfl
        refine hK.out _ _ (k4we) (fun hHeld => ?_)
        clear hK K
        refine zbp (a' := ?_) ?_ ?_
        rotate_left
        . show Act.put _ (some 37) _ = _
          simp only [Act.put, List.setIfInBounds_toArray, List.set_cons_zero, List.set_cons_succ, zav, zaw]
          rfl
        refine one_ (i := 12) (N := some 38) #[true, true, true, true, true, true, true, true, true, true, true, true, true, true, true, true, true, true, true, false, false, false, false, false, false, false] rfl rfl (by kernel_rfl) (by decide) (fun K hK => ?_)
        refine zcn Tryz.func99 (by kernel_rfl) rfl #[.slice A5 x.f2.length c5] (by rfl) rfl rfl (by simp only [List.map_toArray, List.map_cons, List.map_nil]; rfl) ?_
        with_reducible refine (zcW A5 c5 x.f2 _ HC5we.out HL5.out).mono ?_
        rintro e wf ⟨v5, rfl, ho5, hb5⟩
        have hp5 : RS wf wr.drew.heap.size v5 x.f2 := Kd.R_of_own (h1 := fun _ => rfl) ho5 (fun _ _ => trivial)
        obtain ⟨X5, d5, rfl, _, _⟩ := Kd.R_reads hp5
        refine ⟨_, rfl, ?_⟩
        have HBwf := znM (zad HBwe.out HBwe.out.size hb5)
        have HKwf := znM (zah HKwe.out hb5)
        have HZwf := znM (zah HZwe.out hb5)
        have HGwf := znM (zah HGwe.out hb5)
        have HO1wf := znM (Kd.R_below HO1we.out hb5)
        have HO2wf := znM (Kd.R_below HO2we.out hb5)
        have HO3wf := znM (Kd.R_below HO3we.out hb5)
        have HC6wf := znM (Kd.C_below HC6we.out hb5)
        have HO5wf := znM (zep (base := w.heap.size) hp5 (za2 HGwe.out) HBwe.out.size)
        have k4wf : wf.cell? ⟨w.heap.size, 4, none⟩ = some (.slice (some ⟨G, 0, none⟩) 1 cG) := (zab HKwf.out 4).trans rfl
        have k6wf : wf.cell? ⟨G, 3, none⟩ = some (.slice A6 x.f3.length c6) := (zab HGwf.out 3).trans HG3.out
        clear ho5 hp5 hb5
        refine hK.out _ _ (k4wf) (fun hHeld => ?_)
        clear hK K
        refine zbp (a' := ?_) ?_ ?_
        rotate_left
        . show Act.put _ (some 38) _ = _
          simp only [Act.put, List.setIfInBounds_toArray, List.set_cons_zero, List.set_cons_succ, zav, zaw]
          rfl
        exact zbp (by simp only [zcV, Act.put, List.setIfInBounds_toArray, List.set_cons_zero, List.set_cons_succ]) (hCont (X5, d5) _ ⟨HBwf.out, HKwf.out, HZwf.out, HGwf.out, HO1wf.out, HO2wf.out, HO3wf.out, HC6wf.out, HO5wf.out⟩)
    rintro ⟨X5, d5⟩ wf ⟨fb, fk, fz, fg, f1, f2, f3, f6, f5⟩
    have HBwf := znM fb
    have HKwf := znM fk
    have HZwf := znM fz
    have HGwf := znM fg
    have HO1wf := znM f1
    have HO2wf := znM f2
    have HO3wf := znM f3
    have HC6wf := znM f6
    have HO5wf := znM f5
    clear fb fk fz fg f1 f2 f3 f6 f5
    have k4wf : wf.cell? ⟨w.heap.size, 4, none⟩ = some (.slice (some ⟨G, 0, none⟩) 1 cG) := (zab HKwf.out 4).trans rfl
    have hHeld : wf.cell? ⟨w.heap.size, 4, none⟩ = some (.slice (some ⟨G, 0, none⟩) 1 cG) := k4wf
    refine zbp (a' := ?_) ?_ ?_
    rotate_left
    . simp only [zcV, Act.put, List.setIfInBounds_toArray, List.set_cons_zero, List.set_cons_succ]
      rfl
    refine one_ (i := 19) (N := some 45) #[true, true, true, true, true, true, true, true, true, true, true, true, true, true, true, true, true, true, true, true, false, false, false, false, false, false] rfl rfl (by kernel_rfl) (by decide) (fun K hK => ?_)
    refine zcn Tryz.func99 (by kernel_rfl) rfl #[.slice A6 x.f3.length c6] (by rfl) rfl rfl (by simp only [List.map_toArray, List.map_cons, List.map_nil]; rfl) ?_
    with_reducible refine (zcW A6 c6 x.f3 _ HC6wf.out HL6.out).mono ?_
    rintro e wg ⟨v6, rfl, ho6, hb6⟩
    have hp6 : RS wg wf.heap.size v6 x.f3 := Kd.R_of_own (h1 := fun _ => rfl) ho6 (fun _ _ => trivial)
    obtain ⟨X6, d6, rfl, _, _⟩ := Kd.R_reads hp6
    refine ⟨_, rfl, ?_⟩
    have HBwg := znM (zad HBwf.out HBwf.out.size hb6)
    have HKwg := znM (zah HKwf.out hb6)
    have HZwg := znM (zah HZwf.out hb6)
    have HGwg := znM (zah HGwf.out hb6)
    have HO1wg := znM (Kd.R_below HO1wf.out hb6)
    have HO2wg := znM (Kd.R_below HO2wf.out hb6)
    have HO3wg := znM (Kd.R_below HO3wf.out hb6)
    have HO5wg := znM (Kd.R_below HO5wf.out hb6)
    have HO6wg := znM (zep (base := w.heap.size) hp6 (za2 HGwf.out) HBwf.out.size)
    have k4wg : wg.cell? ⟨w.heap.size, 4, none⟩ = some (.slice (some ⟨G, 0, none⟩) 1 cG) := (zab HKwg.out 4).trans rfl
    clear ho6 hp6 hb6
    refine hK.out _ _ (k4wg) (fun hHeld => ?_)
    clear hK K
    refine zbp (a' := ?_) ?_ ?_
    rotate_left
    . show Act.put _ (some 45) _ = _
      simp only [Act.put, List.setIfInBounds_toArray, List.set_cons_zero, List.set_cons_succ, zav, zaw]
      rfl
    refine zaR (i := 20) (N := some 46) (v := ?_) (a' := ?_) #[true, true, true, true, true, true, true, true, true, true, true, true, true, true, true, true, true, true, true, true, true, false, false, false, false, false] rfl rfl (by kernel_rfl) (fun _ _ _ h => h) (Or.inl ⟨by rfl, ?_⟩) ?_ ?_
    rotate_left
    . intro w'
      go_simp
      with_reducible rfl
    rotate_left
    . simp only [Act.put, List.setIfInBounds_toArray, List.set_cons_zero, List.set_cons_succ, zav, zaw]
      rfl
    refine zaR (i := 21) (N := some 47) (v := ?_) (a' := ?_) #[true, true, true, true, true, true, true, true, true, true, true, true, true, true, true, true, true, true, true, true, true, true, false, false, false, false] rfl rfl (by kernel_rfl) (fun _ _ _ h => h) (Or.inl ⟨by rfl, ?_⟩) ?_ ?_
    rotate_left
    . intro w'
      go_simp
      with_reducible rfl
    rotate_left
    . simp only [Act.put, List.setIfInBounds_toArray, List.set_cons_zero, List.set_cons_succ, zav, zaw]
      rfl
    refine one_ (i := 22) (N := none) #[true, true, true, true, true, true, true, true, true, true, true, true, true, true, true, true, true, true, true, true, true, true, true, false, false, false] rfl rfl (by kernel_rfl) (by decide) (fun K hK => ?_)
    have hs5 := HGwg.out
    have hs6 := zbC hs5 2 (.slice X5 x.f2.length d5)
    have cs5 : wg.cell? ⟨G, 2, none⟩ = some (.slice A5 x.f2.length c5) := (zab hs5 2).trans HG2.out
    have fs5 := zag hs5 2
    have hkb := zaJ HKwg.out (p := ⟨G, 2, none⟩) hGB (.slice X5 x.f2.length d5)
    have k4wh : (wg.setCell ⟨G, 2, none⟩ (.slice X5 x.f2.length d5)).cell? ⟨w.heap.size, 4, none⟩ = some (.slice (some ⟨G, 0, none⟩) 1 cG) := (zab hkb 4).trans rfl
    refine zdF (w1 := ?_) (by rfl) rfl ?_ ?_
    rotate_left
    . go_simp
      rfl
    refine hK.out _ _ (k4wh) (fun hHeld => ?_)
    clear hK K
    refine zaR (i := 23) (N := some 48) (v := ?_) (a' := ?_) #[true, true, true, true, true, true, true, true, true, true, true, true, true, true, true, true, true, true, true, true, true, true, true, true, false, false] rfl rfl (by kernel_rfl) (fun _ _ _ h => h) (Or.inl ⟨by rfl, ?_⟩) ?_ ?_
    rotate_left
    . intro w'
      go_simp
      with_reducible rfl
    rotate_left
    . simp only [Act.put, List.setIfInBounds_toArray, List.set_cons_zero, List.set_cons_succ, zav, zaw]
      rfl
    refine zaR (i := 24) (N := some 49) (v := ?_) (a' := ?_) #[true, true, true, true, true, true, true, true, true, true, true, true, true, true, true, true, true, true, true, true, true, true, true, true, true, false] rfl rfl (by kernel_rfl) (fun _ _ _ h => h) (Or.inl ⟨by rfl, ?_⟩) ?_ ?_
    rotate_left
    . intro w'
      go_simp
      with_reducible rfl
    rotate_left
    . simp only [Act.put, List.setIfInBounds_toArray, List.set_cons_zero, List.set_cons_succ, zav, zaw]
      rfl
    refine one_ (i := 25) (N := none) #[true, true, true, true, true, true, true, true, true, true, true, true, true, true, true, true, true, true, true, true, true, true, true, true, true, true] rfl rfl (by kernel_rfl) (by decide) (fun K hK => ?_)
    have cs6 : (wg.setCell ⟨G, 2, none⟩ (.slice X5 x.f2.length d5)).cell? ⟨G, 3, none⟩ = some (.slice A6 x.f3.length c6) := (zab hs6 3).trans (zku HG3.out rfl (by decide))
    have fs6 := zag hs6 3
    have hkc := zaJ hkb (p := ⟨G, 3, none⟩) hGB (.slice X6 x.f3.length d6)
    have k4wi : ((wg.setCell ⟨G, 2, none⟩ (.slice X5 x.f2.length d5)).setCell ⟨G, 3, none⟩ (.slice X6 x.f3.length d6)).cell? ⟨w.heap.size, 4, none⟩ = some (.slice (some ⟨G, 0, none⟩) 1 cG) := (zab hkc 4).trans rfl
    refine zdF (w1 := ?_) (by rfl) rfl ?_ ?_
    rotate_left
    . go_simp
      rfl
    refine hK.out _ _ (k4wi) (fun hHeld => ?_)
    clear hK K
    refine zeH (by kernel_rfl) ?_
--REG6E
    go_wp2
    have hB9 := (HBwg.out.setCell (p := ⟨G, 2, none⟩) HGb.out (.slice X5 x.f2.length d5)).setCell (p := ⟨G, 3, none⟩) HGb.out (.slice X6 x.f3.length d6)
    have hZ9 := zaJ (zaJ HZwg.out (p := ⟨G, 2, none⟩) hGZ (.slice X5 x.f2.length d5)) (p := ⟨G, 3, none⟩) hGZ (.slice X6 x.f3.length d6)
    have hG9 := zbC hs6 3 (.slice X6 x.f3.length d6)
    have hO19 := Kd.R_set (Kd.R_set HO1wg.out hs5 (by decide) 2 (.slice X5 x.f2.length d5)) hs6 (by decide) 3 (.slice X6 x.f3.length d6)
    have hO29 := Kd.R_set (Kd.R_set HO2wg.out hs5 (by decide) 2 (.slice X5 x.f2.length d5)) hs6 (by decide) 3 (.slice X6 x.f3.length d6)
    have hO39 := Kd.R_set (Kd.R_set HO3wg.out hs5 (by decide) 2 (.slice X5 x.f2.length d5)) hs6 (by decide) 3 (.slice X6 x.f3.length d6)
    have hO59 := Kd.R_far (p := ⟨G, 3, none⟩) (Kd.R_far (p := ⟨G, 2, none⟩) HO5wg.out (fun _ h => h) (.slice X5 x.f2.length d5)) (fun _ h => h) (.slice X6 x.f3.length d6)
    have hO69 := Kd.R_far (p := ⟨G, 3, none⟩) (Kd.R_far (p := ⟨G, 2, none⟩) HO6wg.out (fun _ h => h) (.slice X5 x.f2.length d5)) (fun _ h => h) (.slice X6 x.f3.length d6)
    go_roundg 0
    case measure => omega
    case rel => exact ⟨1, by omega, by omega, by first | rfl | go_num, ⟨hB9⟩, ⟨hkc⟩, ⟨hZ9⟩, ⟨hO19⟩, ⟨hO29⟩, ⟨hO39⟩, ⟨fun h => by omega⟩, ⟨fun _ => ⟨X5, d5, X6, d6, hG9, hO59, hO69⟩⟩⟩
  . obtain rfl : kk = 1 := by omega
    obtain ⟨X5, d5, X6, d6, hG1, hr5, hr6⟩ := HP1.out rfl
    have HG1 := znM hG1
    have HR5 := znM hr5
    have HR6 := znM hr6
    have k0 : wr.cell? ⟨w.heap.size, 0, none⟩ = some (.string f0) := (zab HK8.out 0).trans rfl
    have k1 : wr.cell? ⟨w.heap.size, 1, none⟩ = some (.slice X1 (zae l1).length d1) := (zab HK8.out 1).trans rfl
    have k2 : wr.cell? ⟨w.heap.size, 2, none⟩ = some (.slice X2 (zae l2).length d2) := (zab HK8.out 2).trans rfl
    have k3 : wr.cell? ⟨w.heap.size, 3, none⟩ = some (.slice X3 (zae l3).length d3) := (zab HK8.out 3).trans rfl
    have k4 : wr.cell? ⟨w.heap.size, 4, none⟩ = some (.slice (some ⟨G, 0, none⟩) 1 cG) := (zab HK8.out 4).trans rfl
    have r0 : wr.cell? ⟨w.heap.size + 1, 0, none⟩ = some (.string ⟨#[]⟩) := (zab HZ8.out 0).trans rfl
    have r1 : wr.cell? ⟨w.heap.size + 1, 1, none⟩ = some (.slice none 0 0) := (zab HZ8.out 1).trans rfl
    have r2 : wr.cell? ⟨w.heap.size + 1, 2, none⟩ = some (.slice none 0 0) := (zab HZ8.out 2).trans rfl
    have r3 : wr.cell? ⟨w.heap.size + 1, 3, none⟩ = some (.slice none 0 0) := (zab HZ8.out 3).trans rfl
    have r4 : wr.cell? ⟨w.heap.size + 1, 4, none⟩ = some (.slice none 0 0) := (zab HZ8.out 4).trans rfl
    have z0 := zag HZ8.out 0
    have z1 := zag HZ8.out 1
    have z2 := zag HZ8.out 2
    have z3 := zag HZ8.out 3
    have z4 := zag HZ8.out 4
    clear hG1 hr5 hr6 HP0 HP1
    go_wp2
    have hs := zbA (.string f0) (.slice X1 (zae l1).length d1) (.slice X2 (zae l2).length d2) (.slice X3 (zae l3).length d3) (.slice (some ⟨G, 0, none⟩) 1 cG) HZ8.out
    have hA := RS.set5 HO18.out (.string f0) (.slice X1 (zae l1).length d1) (.slice X2 (zae l2).length d2) (.slice X3 (zae l3).length d3) (.slice (some ⟨G, 0, none⟩) 1 cG) HZ8.out (by decide)
    have hB := RS.set5 HO28.out (.string f0) (.slice X1 (zae l1).length d1) (.slice X2 (zae l2).length d2) (.slice X3 (zae l3).length d3) (.slice (some ⟨G, 0, none⟩) 1 cG) HZ8.out (by decide)
    have hC := RS.set5 HO38.out (.string f0) (.slice X1 (zae l1).length d1) (.slice X2 (zae l2).length d2) (.slice X3 (zae l3).length d3) (.slice (some ⟨G, 0, none⟩) 1 cG) HZ8.out (by decide)
    have hle : w.heap.size <= w.heap.size + 1 := Nat.le_succ _
    have hD := ((((HB8.out.setCell (p := ⟨w.heap.size + 1, 0, none⟩) hle (.string f0)).setCell (p := ⟨w.heap.size + 1, 1, none⟩) hle (.slice X1 (zae l1).length d1)).setCell (p := ⟨w.heap.size + 1, 2, none⟩) hle (.slice X2 (zae l2).length d2)).setCell (p := ⟨w.heap.size + 1, 3, none⟩) hle (.slice X3 (zae l3).length d3)).setCell (p := ⟨w.heap.size + 1, 4, none⟩) hle (.slice (some ⟨G, 0, none⟩) 1 cG)
    have mv : ∀ k : Nat, k ≠ w.heap.size + 1 -> (set5 wr (w.heap.size + 1) (.string f0) (.slice X1 (zae l1).length d1) (.slice X2 (zae l2).length d2) (.slice X3 (zae l3).length d3) (.slice (some ⟨G, 0, none⟩) 1 cG)).heap[k]? = wr.heap[k]? := fun k hk => by
     unfold set5
     rw [Below.heap_setCell _ _ _ _ hk, Below.heap_setCell _ _ _ _ hk, Below.heap_setCell _ _ _ _ hk, Below.heap_setCell _ _ _ _ hk, Below.heap_setCell _ _ _ _ hk]
    have hE := (mv G hGZ.symm).trans HG1.out
    have nz : ∀ {X : Option Addr} {n d : Nat} {l : List ByteArray}, Kd.R Kd.string 9 wr w.heap.size (fun k => k ≠ G) (.slice X n d) l -> Kd.R Kd.string 9 (set5 wr (w.heap.size + 1) (.string f0) (.slice X1 (zae l1).length d1) (.slice X2 (zae l2).length d2) (.slice X3 (zae l3).length d3) (.slice (some ⟨G, 0, none⟩) 1 cG)) w.heap.size (fun k => True /\ some k ≠ (Value.slice (some (⟨G, 0, none⟩ : Addr)) 1 cG).ownBlock) (.slice X n d) l := fun h => by
     refine Kd.R_mono (Kd.R_move (Kd.R_types h HZ8.out (by decide)) (fun k hk => mv k hk.2)) (fun k hk => ⟨trivial, fun e => hk.1 ?_⟩)
     simpa [Value.ownBlock] using e
    have hF := nz HR5.out
    have hH := nz HR6.out
    clear k0 k1 k2 k3 k4 r0 r1 r2 r3 r4 z0 z1 z2 z3 z4 mv nz
    unfold set5 at hs hA hB hC hE hF hH
    generalize ((((wr.setCell ⟨w.heap.size + 1, 0, none⟩ (.string f0)).setCell ⟨w.heap.size + 1, 1, none⟩ (.slice X1 (zae l1).length d1)).setCell ⟨w.heap.size + 1, 2, none⟩ (.slice X2 (zae l2).length d2)).setCell ⟨w.heap.size + 1, 3, none⟩ (.slice X3 (zae l3).length d3)).setCell ⟨w.heap.size + 1, 4, none⟩ (.slice (some ⟨G, 0, none⟩) 1 cG) = wE at hs hA hB hC hD hE hF hH |-
    have g0 := (zab hs 0).trans rfl
    have g1 := (zab hs 1).trans rfl
    have g2 := (zab hs 2).trans rfl
    have g3 := (zab hs 3).trans rfl
    have g4 := (zab hs 4).trans rfl
    have hrow : Kd.R k24 24 wE w.heap.size (fun _ => True) (.slice (some ⟨G, 0, none⟩) 1 cG) [x] := by
     have hcells : [Value.string x.f0, .int .i64 x.f1, .slice X5 x.f2.length d5, .slice X6 x.f3.length d6, .int .i64 x.f4] = ((cur.setIfInBounds 2 (.slice X5 x.f2.length d5)).setIfInBounds 3 (.slice X6 x.f3.length d6)).toList.take 5 := by
      have hsz := HCap.out
      apply List.ext_getElem?
      intro i
      rcases Nat.lt_or_ge i 5 with hi | hi
      . rw [List.getElem?_take_of_lt hi]
        conv => rhs; rw [Array.getElem?_toList, Array.getElem?_setIfInBounds, Array.getElem?_setIfInBounds]
        have h := HAt.out i hi
        have h2 : 2 < cur.size := by omega
        have h3 : 3 < cur.size := by omega
        match i, hi with
        | 0, _ => simp at h |-; exact h.symm
        | 1, _ => simp at h |-; exact h.symm
        | 2, _ => simp [h2]
        | 3, _ => simp [h3]
        | 4, _ => simp at h |-; exact h.symm
      . rw [List.getElem?_eq_none (by simpa using hi), List.getElem?_eq_none (by rw [List.length_take]; omega)]
     refine ⟨fun _ _ => trivial, [Value.string x.f0, .int .i64 x.f1, .slice X5 x.f2.length d5, .slice X6 x.f3.length d6, .int .i64 x.f4], ⟨rfl, .inr ⟨G, cG, _, rfl, HGb.out, hE, HCap.out.2.1, HCap.out.2.2, ?_, ?_⟩⟩, rfl, fun j p hj => ?_⟩
     . rw [Array.size_setIfInBounds, Array.size_setIfInBounds]; exact HCap.out.1
     . exact hcells.symm
     . match j, hj with
       | 0, hj =>
        simp at hj
        subst hj
        exact zdW _ _ _ _ hF hH
       | j + 1, hj => simp at hj
    exact bodyPost_ret (v := .agg #[.string f0, .slice X1 (zae l1).length d1, .slice X2 (zae l2).length d2, .slice X3 (zae l3).length d3, .slice (some ⟨G, 0, none⟩) 1 cG]) (by simp [results, Tryz.results147, go_sem, g0, g1, g2, g3, g4]) rfl ⟨_, _, _, _, _, _, _, _, rfl, hA, hB, hC, hrow, hD⟩

set_option maxHeartbeats 2000000 in
set_option maxRecDepth 100000 in
theorem zmZ (A : Option Addr) (n c : Nat) (hn : n <= 1) (cmp : Value) (w : World) :
 Calls Tryz.prog 226 #[.slice A n c, .int .i64 0, .int .i64 n, cmp] w fun e w' => e = .returned (.tuple #[]) /\ w = w' := by
 have h1 : ¬ (1 : Int) < (n : Int) := by omega
 go_enter Tryz.func226, Tryz.ntmps226
 go_wp2_with fail
 go_loopg [8, 9] 0 (fun _ s8 _ wr => s8 = .int .i64 1 /\ wr = w)
 case atStart => exact ⟨rfl, rfl⟩
 case round =>
  obtain ⟨rfl, rfl⟩ := hrel
  go_wp2
  go_end0
  exact ⟨rfl, rfl⟩
set_option maxHeartbeats 2000000 in
set_option maxRecDepth 100000 in
theorem zmi (A : Option Addr) (n c : Nat) (hn : n <= 1) (cmp : Value) (w : World) :
 Calls Tryz.prog 200 #[.slice A n c, .int .i64 n, cmp] w fun e w' => e = .returned (.tuple #[]) /\ w = w' := by
 have h1 : ¬ (20 : Int) <= (n : Int) := by omega
 have h2 : ¬ (20 : Int) < (n : Int) := by omega
 have hI := fun W => zmZ A n c hn cmp W
 go_enter Tryz.func200, Tryz.ntmps200
 go_wp2_with fail
 go_loopg [7, 8] 0 (fun _ s7 s8 wr => s7 = .int .i64 0 /\ s8 = .int .i64 20 /\ wr = w)
 case atStart => exact ⟨rfl, rfl, rfl⟩
 case round =>
  obtain ⟨rfl, rfl, rfl⟩ := hrel
  go_wp2_with (go_at_call 226; refine (hI _).mono ?_; rintro e w' ⟨rfl, rfl⟩)
  go_loopg [6, 7, 8, 9] 0 (fun _ s6 _ _ _ wr' => s6 = .int .i64 20 /\ wr' = wr)
  case atStart => exact ⟨rfl, rfl⟩
  case round =>
   obtain ⟨rfl, rfl⟩ := hrel
   go_wp2
   go_end0
   exact ⟨rfl, rfl⟩
set_option maxHeartbeats 1000000 in
theorem zmc (A : Option Addr) (n c : Nat) (hn : n <= 1) (cmp : Value) (w : World) :
 Calls Tryz.prog 148 #[.slice A n c, cmp] w fun e w' => e = .returned (.tuple #[]) /\ w = w' := by
 have hI := fun W => zmi A n c hn cmp W
 go_enter Tryz.func148, Tryz.ntmps148
 go_wp2_with (go_at_call 200; refine (hI _).mono ?_; rintro e w' ⟨rfl, rfl⟩)
 go_end0
 exact ⟨rfl, rfl⟩
theorem zdd {ad : Addr} {m : Nat} : ad.add ((0 : Int).toNat * m + 0) = ad := by simp [Addr.add]
theorem at_next (ad : Addr) (j : Nat) (hj : 0 < j) {m : Nat} : ad.add ((0 : Int).toNat * m + j) = ⟨ad.block, ad.off + j, none⟩ := by
 rw [zbV ad _ j hj]
 simp [Addr.add]
set_option maxHeartbeats 4000000 in
set_option maxRecDepth 100000 in
theorem zin (f0 : ByteArray) (l1 l2 l3 : List ByteArray) (x : zaA) (A : Option Addr) (c : Nat) (w : World) (h : Kd.C k45 w A 1 [⟨f0, l1, l2, l3, [x]⟩])
 (hl1 : l1.length * 16 <= 140737488355328) (hl2 : l2.length * 16 <= 140737488355328) (hl3 : l3.length * 16 <= 140737488355328) (hl5 : x.f2.length * 16 <= 140737488355328) (hl6 : x.f3.length * 16 <= 140737488355328) :
 Calls Tryz.prog 118 #[.slice A 1 c] w fun e w' => ∃ X d, e = .returned (.slice X 1 d) /\ Kd.R k45 45 w' w.heap.size (fun _ => True) (.slice X 1 d) [⟨f0, zae l1, zae l2, zae l3, [x]⟩] /\ Below w.heap.size w w' := by
 obtain ⟨ad, cs, rfl, hcl, hK, hcell⟩ := Kd.C_get h ⟨f0, l1, l2, l3, [x]⟩ 0 (by decide) (by decide)
 obtain ⟨A1, c1, A2, c2, A3, c3, A4, c4, hcs, _, h1, _, h2, _, h3, _, h4⟩ := zdZ hK
 subst hcs
 have m0 : w.cell? ad = some (.string f0) := by have := hcell 0 _ rfl; rwa [zdd] at this
 have m1 : w.cell? ⟨ad.block, ad.off + 1, none⟩ = some (.slice A1 l1.length c1) := by have := hcell 1 _ rfl; rwa [at_next ad 1 (by decide)] at this
 have m2 : w.cell? ⟨ad.block, ad.off + 2, none⟩ = some (.slice A2 l2.length c2) := by have := hcell 2 _ rfl; rwa [at_next ad 2 (by decide)] at this
 have m3 : w.cell? ⟨ad.block, ad.off + 3, none⟩ = some (.slice A3 l3.length c3) := by have := hcell 3 _ rfl; rwa [at_next ad 3 (by decide)] at this
 have m4 : w.cell? ⟨ad.block, ad.off + 4, none⟩ = some (.slice A4 1 c4) := by have := hcell 4 _ rfl; rwa [at_next ad 4 (by decide)] at this
 have hO := fun W (hW : Below w.heap.size w W) => zgu f0 l1 l2 l3 x A1 c1 A2 c2 A3 c3 A4 c4 W (Kd.C_below h1 hW) (Kd.C_below h2 hW) (Kd.C_below h3 hW) (Kd.C_below h4 hW) hl1 hl2 hl3 hl5 hl6
 have HO := znM hO
 clear hO h hcl hK hcell h1 h2 h3 h4 hl1 hl2 hl3 hl5 hl6
 go_enter Tryz.func118, Tryz.ntmps118
 go_wp2_with fail
 go_loopg [3, 8] 1 (fun gg s3 s8 wr => ∃ kk : Nat, kk <= 1 /\ 1 - kk <= gg /\ s8 = .int .i64 kk /\ Aside0 (kk = 0 -> s3 = .slice none 0 0 /\ wr = w) /\ Aside0 (kk = 1 -> ∃ X d, s3 = .slice X 1 d /\ Kd.R k45 45 wr w.heap.size (fun _ => True) (.slice X 1 d) [⟨f0, zae l1, zae l2, zae l3, [x]⟩] /\ Below w.heap.size w wr))
 case atStart => exact ⟨0, by omega, by omega, rfl, ⟨fun _ => ⟨rfl, rfl⟩⟩, ⟨fun h => by omega⟩⟩
 case round =>
  obtain ⟨kk, hkk, hgk, rfl, HP0, HP1⟩ := hrel
  by_cases h0 : kk = 0
  . subst h0
    obtain ⟨rfl, rfl⟩ := HP0.out rfl
    clear HP0 HP1
    have hb1 := (Below.refl wr.heap.size wr).alloc (Nat.le_refl _) (.cells #[.string f0, .slice A1 l1.length c1, .slice A2 l2.length c2, .slice A3 l3.length c3, .slice A4 1 c4] 45)
    have hcall := HO.out _ hb1
    have HB1 := znM hb1
    clear hb1
    go_wp2_with fail
    refine hcall.mono ?_
    rintro e w2 ⟨Y1, e1, Y2, e2, Y3, e3, Y4, e4, rfl, hr1, hr2, hr3, hr4, hb2⟩
    have HB2 := znM (zad HB1.out HB1.out.size hb2)
    have nn : ∀ k : Nat, (fun _ : Nat => True) k -> True /\ some k ≠ (Value.slice (none : Option Addr) 0 0).ownBlock := fun k _ => ⟨trivial, by simp [Value.ownBlock]⟩
    have HY1 := znM (Kd.R_mono (Kd.R_lower hr1 HB1.out.size) nn)
    have HY2 := znM (Kd.R_mono (Kd.R_lower hr2 HB1.out.size) nn)
    have HY3 := znM (Kd.R_mono (Kd.R_lower hr3 HB1.out.size) nn)
    have HY4 := znM (Kd.R_mono (Kd.R_lower hr4 HB1.out.size) nn)
    have HS2 : Hid (wr.heap.size <= w2.heap.size) := HB2.out.size
    clear hr1 hr2 hr3 hr4 hb2 nn
    go_wp2_with (first | ((with_reducible refine zaO (b := .append) (xs := #[.tmp 12, .tmp 15]) rfl ?_); at_builtin; refine Kd.R_append k45 (w0 := wr) wr.heap.size rfl (.tmp 12) (.tmp 15) 80 45 (.agg #[.string ⟨#[]⟩, .slice none 0 0, .slice none 0 0, .slice none 0 0, .slice none 0 0]) 112 rfl Tryz.underlying80 zf8 rfl (by decide) (by decide) (.slice none 0 0) [] ⟨f0, zae l1, zae l2, zae l3, [x]⟩ [.string f0, .slice Y1 (zae l1).length e1, .slice Y2 (zae l2).length e2, .slice Y3 (zae l3).length e3, .slice Y4 1 e4] (fun _ => True) (fun k_ => True /\ some k_ ≠ (Value.slice none 0 0).ownBlock) rfl rfl (zgZ w2 wr.heap.size _ (⟨f0, zae l1, zae l2, zae l3, [x]⟩ : zai) HY1.out HY2.out HY3.out HY4.out) (fun _ hk => hk) (fun _ _ => trivial) (Kd.R_nil _ _ _ _ _) HB2.out HS2.out ?aL ?_; (case aL => simp); intro v1 w4 ho hb hg hat; obtain ⟨X, d, rfl, _, _⟩ := Kd.R_reads ho; have HR4 := znM ho; have HB4 := znM hb; clear ho hb hg hat))
    go_roundg 0
    case measure => omega
    case rel => exact ⟨1, by omega, by omega, by first | rfl | go_num, ⟨fun h => by omega⟩, ⟨fun _ => ⟨X, d, rfl, HR4.out, HB4.out⟩⟩⟩
  . obtain rfl : kk = 1 := by omega
    obtain ⟨X, d, rfl, hR, hB⟩ := HP1.out rfl
    have hI := fun W => zmc X 1 d (by decide) (.func (.func 149) #[] #[]) W
    have HR := znM hR
    have HB := znM hB
    clear HP0 HP1 hR hB
    go_wp2_with (go_at_call 148; refine (hI _).mono ?_; rintro e w' ⟨rfl, rfl⟩)
    go_ret
    exact ⟨X, d, rfl, HR.out, HB.out⟩

def zcM (f0 : ByteArray) (l1 l2 l3 : List ByteArray) : zaa := [114, 117, 108, 101, 32] ++ f0.data.toList ++ [32, 123, 10] ++ zbS [105, 110] (zae l1) ++ zbS [111, 117, 116] (zae l2) ++ zbS [97, 102, 116, 101, 114] (zae l3)
def zcT (f0 : ByteArray) (l1 l2 l3 : List ByteArray) (x : zaA) : zaa := zcM f0 l1 l2 l3 ++ ([32, 32] ++ zcO x ++ [10]) ++ [125, 10]
structure zfG (f0 : ByteArray) (l1 l2 l3 : List ByteArray) (x : zaA) : Prop where
 n0 : f0.size <= 1000000
 n1 : l1.length <= 1000
 n2 : l2.length <= 1000
 n3 : l3.length <= 1000
 j1 : (Lib.join (zbF (zae l1)) [44, 32]).length <= 1000000
 j2 : (Lib.join (zbF (zae l2)) [44, 32]).length <= 1000000
 j3 : (Lib.join (zbF (zae l3)) [44, 32]).length <= 1000000
 s1 : x.f1 ≠ 9
 s2 : x.f2.length <= 1000
 s3 : x.f3.length <= 1000
 sp : ∀ y ∈ x.f3, zhb y
 sj : (Lib.join (zbF (zcq x)) [32]).length <= 1000000
theorem zdl {word : zaa} {l : List ByteArray} (hw : word.length <= 100) (hj : (Lib.join (zbF l) [44, 32]).length <= 1000000) : (zbS word l).length <= 1000200 := by
 unfold zbS
 split
 . simp
 . simp; omega
set_option maxHeartbeats 8000000 in
set_option maxRecDepth 100000 in
theorem zjx (f0 : ByteArray) (l1 l2 l3 : List ByteArray) (x : zaA) (A1 : Option Addr) (c1 : Nat) (A2 : Option Addr) (c2 : Nat) (A3 : Option Addr) (c3 : Nat) (A4 : Option Addr) (c4 : Nat) (w : World) (hG : GOK w)
 (h1 : Kd.C Kd.string w A1 l1.length l1) (h2 : Kd.C Kd.string w A2 l2.length l2) (h3 : Kd.C Kd.string w A3 l3.length l3) (h4 : Kd.C k24 w A4 1 [x]) (hs : zfG f0 l1 l2 l3 x) :
 Calls Tryz.prog 143 #[.agg #[.string f0, .slice A1 l1.length c1, .slice A2 l2.length c2, .slice A3 l3.length c3, .slice A4 1 c4]] w fun e w' => e = .returned (.string (mk (zcT f0 l1 l2 l3 x))) /\ Below w.heap.size w w' := by
 have hb1 := (Below.refl w.heap.size w).alloc (Nat.le_refl _) (.cells #[.string f0, .slice A1 l1.length c1, .slice A2 l2.length c2, .slice A3 l3.length c3, .slice A4 1 c4] 45)
 have hone := zgu f0 l1 l2 l3 x A1 c1 A2 c2 A3 c3 A4 c4 _ (Kd.C_below h1 hb1) (Kd.C_below h2 hb1) (Kd.C_below h3 hb1) (Kd.C_below h4 hb1) (by have := hs.n1; omega) (by have := hs.n2; omega) (by have := hs.n3; omega) (by have := hs.s2; omega) (by have := hs.s3; omega)
 have HK1 := znM (zan w (.cells #[.string f0, .slice A1 l1.length c1, .slice A2 l2.length c2, .slice A3 l3.length c3, .slice A4 1 c4] 45))
 have HB1 := znM hb1
 have HG1 := znM (hG.below hb1)
 have HS := znM hs
 have HG0 := znM hG
 clear hb1 h1 h2 h3 h4 hG hs
 go_enter Tryz.func143, Tryz.ntmps143
 go_wp2_with fail
 refine hone.mono ?_
 rintro e w2 ⟨X1, d1, X2, d2, X3, d3, X4, d4, rfl, hr1, hr2, hr3, hr4, hb2⟩
 have hK2 := zah HK1.out hb2
 have k0 : w2.cell? ⟨w.heap.size, 0, none⟩ = some (.string f0) := (zab hK2 0).trans rfl
 have k1 : w2.cell? ⟨w.heap.size, 1, none⟩ = some (.slice A1 l1.length c1) := (zab hK2 1).trans rfl
 have k2 : w2.cell? ⟨w.heap.size, 2, none⟩ = some (.slice A2 l2.length c2) := (zab hK2 2).trans rfl
 have k3 : w2.cell? ⟨w.heap.size, 3, none⟩ = some (.slice A3 l3.length c3) := (zab hK2 3).trans rfl
 have k4 : w2.cell? ⟨w.heap.size, 4, none⟩ = some (.slice A4 1 c4) := (zab hK2 4).trans rfl
 have z0 := zag hK2 0
 have z1 := zag hK2 1
 have z2 := zag hK2 2
 have z3 := zag hK2 3
 have z4 := zag hK2 4
 have hB2 := zad HB1.out HB1.out.size hb2
 have hG2 := HG1.out.below hb2
 have HK2 := znM hK2
 have HB2 := znM hB2
 have HG2 := znM hG2
 have HR1 := znM (Kd.R_lower hr1 HB1.out.size)
 have HR2 := znM (Kd.R_lower hr2 HB1.out.size)
 have HR3 := znM (Kd.R_lower hr3 HB1.out.size)
 have HR4 := znM (Kd.R_lower hr4 HB1.out.size)
 clear hone hb2 hK2 hB2 hG2 hr1 hr2 hr3 hr4 HK1 HB1 HG1
 have hs5 := zbA (.string f0) (.slice X1 (zae l1).length d1) (.slice X2 (zae l2).length d2) (.slice X3 (zae l3).length d3) (.slice X4 1 d4) HK2.out
 have hA := RS.set5 HR1.out (.string f0) (.slice X1 (zae l1).length d1) (.slice X2 (zae l2).length d2) (.slice X3 (zae l3).length d3) (.slice X4 1 d4) HK2.out (by decide)
 have hB := RS.set5 HR2.out (.string f0) (.slice X1 (zae l1).length d1) (.slice X2 (zae l2).length d2) (.slice X3 (zae l3).length d3) (.slice X4 1 d4) HK2.out (by decide)
 have hC := RS.set5 HR3.out (.string f0) (.slice X1 (zae l1).length d1) (.slice X2 (zae l2).length d2) (.slice X3 (zae l3).length d3) (.slice X4 1 d4) HK2.out (by decide)
 have hD := zco HR4.out (.string f0) (.slice X1 (zae l1).length d1) (.slice X2 (zae l2).length d2) (.slice X3 (zae l3).length d3) (.slice X4 1 d4) HK2.out (by decide)
 have hE := ((((HB2.out.setCell (p := ⟨w.heap.size, 0, none⟩) (Nat.le_refl _) (.string f0)).setCell (p := ⟨w.heap.size, 1, none⟩) (Nat.le_refl _) (.slice X1 (zae l1).length d1)).setCell (p := ⟨w.heap.size, 2, none⟩) (Nat.le_refl _) (.slice X2 (zae l2).length d2)).setCell (p := ⟨w.heap.size, 3, none⟩) (Nat.le_refl _) (.slice X3 (zae l3).length d3)).setCell (p := ⟨w.heap.size, 4, none⟩) (Nat.le_refl _) (.slice X4 1 d4)
 unfold set5 at hs5 hA hB hC hD
 have HK5 := znM hs5
 have HA5 := znM hA
 have HB5' := znM hB
 have HC5 := znM hC
 have HD5 := znM hD
 have HB5 := znM hE
 clear hs5 hA hB hC hD hE HR1 HR2 HR3 HR4
 go_wp2_with fail
 generalize ((((w2.setCell ⟨w.heap.size, 0, none⟩ (.string f0)).setCell ⟨w.heap.size, 1, none⟩ (.slice X1 (zae l1).length d1)).setCell ⟨w.heap.size, 2, none⟩ (.slice X2 (zae l2).length d2)).setCell ⟨w.heap.size, 3, none⟩ (.slice X3 (zae l3).length d3)).setCell ⟨w.heap.size, 4, none⟩ (.slice X4 1 d4) = w5 at HK5 HA5 HB5' HC5 HD5 HB5 |-
 clear k0 k1 k2 k3 k4 z0 z1 z2 z3 z4 HK2 HB2 HG2
 obtain ⟨J1, hJ1⟩ : ∃ J, J = zbS [105, 110] (zae l1) := ⟨_, rfl⟩
 obtain ⟨J2, hJ2⟩ : ∃ J, J = zbS [111, 117, 116] (zae l2) := ⟨_, rfl⟩
 obtain ⟨J3, hJ3⟩ : ∃ J, J = zbS [97, 102, 116, 101, 114] (zae l3) := ⟨_, rfl⟩
 have hj1 : J1.length <= 1000200 := by rw [hJ1]; exact zdl (by decide) HS.out.j1
 have hj2 : J2.length <= 1000200 := by rw [hJ2]; exact zdl (by decide) HS.out.j2
 have hj3 : J3.length <= 1000200 := by rw [hJ3]; exact zdl (by decide) HS.out.j3
 have hn0 := HS.out.n0
 have hm1 := za4 J1
 have hm2 := za4 J2
 have hm3 := za4 J3
 have n1 : ¬ 9223372036854775807 < 5 + f0.size := by omega
 have n2 : ¬ 9223372036854775807 < 5 + f0.size + 3 := by omega
 have n3 : ¬ 9223372036854775807 < 5 + f0.size + 3 + (mk J1).size := by omega
 have n4 : ¬ 9223372036854775807 < 5 + f0.size + 3 + (mk J1).size + (mk J2).size := by omega
 have n5 : ¬ 9223372036854775807 < 5 + f0.size + 3 + (mk J1).size + (mk J2).size + (mk J3).size := by omega
 obtain ⟨_, _, e1, hd1, hc1⟩ := Kd.R_reads HA5.out
 obtain ⟨_, _, e2, hd2, hc2⟩ := Kd.R_reads HB5'.out
 obtain ⟨_, _, e3, hd3, hc3⟩ := Kd.R_reads HC5.out
 injection e1 with e11 g1 e12
 clear g1
 injection e2 with e21 g2 e22
 clear g2
 injection e3 with e31 g3 e32
 clear g3
 subst e11 e12 e21 e22 e31 e32
 have HCl1 : Hid (∀ W, Below w.heap.size w W -> Kd.C Kd.string W X1 (zae l1).length (zae l1) -> GOK W -> Calls Tryz.prog 194 #[.string (mk [105, 110]), .slice X1 (zae l1).length d1] W fun e w' => e = .returned (.string (mk J1)) /\ Below W.heap.size W w') := fun W _ hr hg => by
  rw [hJ1]; exact zeS [105, 110] X1 d1 (zae l1) W hg hr hd1 (by decide) (by rw [zfn]; have := HS.out.n1; omega) (Nat.le_trans HS.out.j1 (by omega))
 have HCl2 : Hid (∀ W, Below w.heap.size w W -> Kd.C Kd.string W X2 (zae l2).length (zae l2) -> GOK W -> Calls Tryz.prog 194 #[.string (mk [111, 117, 116]), .slice X2 (zae l2).length d2] W fun e w' => e = .returned (.string (mk J2)) /\ Below W.heap.size W w') := fun W _ hr hg => by
  rw [hJ2]; exact zeS [111, 117, 116] X2 d2 (zae l2) W hg hr hd2 (by decide) (by rw [zfn]; have := HS.out.n2; omega) (Nat.le_trans HS.out.j2 (by omega))
 have HCl3 : Hid (∀ W, Below w.heap.size w W -> Kd.C Kd.string W X3 (zae l3).length (zae l3) -> GOK W -> Calls Tryz.prog 194 #[.string (mk [97, 102, 116, 101, 114]), .slice X3 (zae l3).length d3] W fun e w' => e = .returned (.string (mk J3)) /\ Below W.heap.size W w') := fun W _ hr hg => by
  rw [hJ3]; exact zeS [97, 102, 116, 101, 114] X3 d3 (zae l3) W hg hr hd3 (by decide) (by rw [zfn]; have := HS.out.n3; omega) (Nat.le_trans HS.out.j3 (by omega))
 have HH : Hid ((⟨#[114, 117, 108, 101, 32]⟩ : ByteArray) ++ f0 ++ (⟨#[32, 123, 10]⟩ : ByteArray) ++ mk J1 ++ mk J2 ++ mk J3 = mk (zcM f0 l1 l2 l3)) := by
  show _ = _
  unfold zcM
  rw [<- hJ1, <- hJ2, <- hJ3, <- zbN, <- zbN, <- zbN, <- zbN, <- zbN]
  rfl
 have HHl : Hid ((zcM f0 l1 l2 l3).length <= 5000000) := by
  show _ <= _
  unfold zcM
  rw [<- hJ1, <- hJ2, <- hJ3]
  have := Lib.size_eq f0
  simp only [List.length_append, List.length_cons, List.length_nil]
  omega
 have dr : Below w5.heap.size w5 w5.drew := ⟨rfl, rfl, rfl, Nat.le_refl _, fun _ _ => rfl⟩
 have HBwd := znM (zbl HB5.out)
 have HGwd := znM (HG0.out.below HBwd.out)
 have HKwd := znM (zaP HK5.out)
 have HRwd := znM (Kd.R_below HD5.out dr)
 have HC1wd := znM (Kd.C_below hc1 dr)
 have HC2wd := znM (Kd.C_below hc2 dr)
 have HC3wd := znM (Kd.C_below hc3 dr)
 have k0wd : w5.drew.cell? ⟨w.heap.size, 0, none⟩ = some (.string f0) := (zab HKwd.out 0).trans rfl
 have k1wd : w5.drew.cell? ⟨w.heap.size, 1, none⟩ = some (.slice X1 (zae l1).length d1) := (zab HKwd.out 1).trans rfl
 have k2wd : w5.drew.cell? ⟨w.heap.size, 2, none⟩ = some (.slice X2 (zae l2).length d2) := (zab HKwd.out 2).trans rfl
 have k3wd : w5.drew.cell? ⟨w.heap.size, 3, none⟩ = some (.slice X3 (zae l3).length d3) := (zab HKwd.out 3).trans rfl
 clear hJ1 hJ2 hJ3 hj1 hj2 hj3 hn0 hm1 hm2 hm3 hd1 hc1 hd2 hc2 hd3 hc3 dr HA5 HB5' HC5 HD5 HB5 HK5
--REG2
 refine zeG (n := 17) (S := fun w' => w'.cell? ⟨w.heap.size, 0, none⟩ = some (.string f0) /\ w'.cell? ⟨w.heap.size, 1, none⟩ = some (.slice X1 (zae l1).length d1) /\ w'.cell? ⟨w.heap.size, 2, none⟩ = some (.slice X2 (zae l2).length d2) /\ w'.cell? ⟨w.heap.size, 3, none⟩ = some (.slice X3 (zae l3).length d3)) (ds := []) #[false, false, false, false, false, false, false, false, false, false, false, false, false, false, false, false, false] (by kernel_rfl) rfl rfl ⟨k0wd, k1wd, k2wd, k3wd⟩ (fun hHeld => ?_)
 refine zaR (i := 0) (N := some 8) (v := ?_) (a' := ?_) #[true, false, false, false, false, false, false, false, false, false, false, false, false, false, false, false, false] rfl rfl (by kernel_rfl) (fun _ _ _ h => h) (Or.inl ⟨by rfl, ?_⟩) ?_ ?_
 rotate_left
 . intro w'
   go_simp
   with_reducible rfl
 rotate_left
 . simp only [Act.put, List.setIfInBounds_toArray, List.set_cons_zero, List.set_cons_succ, zav, zaw]
   rfl
 refine zaR (i := 4) (N := some 12) (v := ?_) (a' := ?_) #[true, false, false, false, true, false, false, false, false, false, false, false, false, false, false, false, false] rfl rfl (by kernel_rfl) (fun _ _ _ h => h) (Or.inl ⟨by rfl, ?_⟩) ?_ ?_
 rotate_left
 . intro w'
   go_simp
   with_reducible rfl
 rotate_left
 . simp only [Act.put, List.setIfInBounds_toArray, List.set_cons_zero, List.set_cons_succ, zav, zaw]
   rfl
 refine zaR (i := 8) (N := some 16) (v := ?_) (a' := ?_) #[true, false, false, false, true, false, false, false, true, false, false, false, false, false, false, false, false] rfl rfl (by kernel_rfl) (fun _ _ _ h => h) (Or.inl ⟨by rfl, ?_⟩) ?_ ?_
 rotate_left
 . intro w'
   go_simp
   with_reducible rfl
 rotate_left
 . simp only [Act.put, List.setIfInBounds_toArray, List.set_cons_zero, List.set_cons_succ, zav, zaw]
   rfl
 refine zaR (i := 12) (N := some 20) (v := ?_) (a' := ?_) #[true, false, false, false, true, false, false, false, true, false, false, false, true, false, false, false, false] rfl rfl (by kernel_rfl) (fun _ _ _ h => h) (Or.inl ⟨by rfl, ?_⟩) ?_ ?_
 rotate_left
 . intro w'
   go_simp
   with_reducible rfl
 rotate_left
 . simp only [Act.put, List.setIfInBounds_toArray, List.set_cons_zero, List.set_cons_succ, zav, zaw]
   rfl
 refine take_ (i := 1) (N := some 9) (v := ?_) (a' := ?_) #[true, true, false, false, true, false, false, false, true, false, false, false, true, false, false, false, false] rfl rfl (by kernel_rfl) (fun _ _ _ h => h) (Or.inl ⟨by rfl, ?_⟩) hHeld ?_ ?_
 rotate_left
 . rintro w' ⟨s0, s1, s2, s3⟩
   go_simp
   with_reducible rfl
 rotate_left
 . simp only [Act.put, List.setIfInBounds_toArray, List.set_cons_zero, List.set_cons_succ, zav, zaw]
   rfl
 refine zaR (i := 2) (N := some 10) (v := ?_) (a' := ?_) #[true, true, true, false, true, false, false, false, true, false, false, false, true, false, false, false, false] rfl rfl (by kernel_rfl) (fun _ _ _ h => h) (Or.inl ⟨by rfl, ?_⟩) ?_ ?_
 rotate_left
 . intro w'
   go_simp
   with_reducible rfl
 rotate_left
 . simp only [Act.put, List.setIfInBounds_toArray, List.set_cons_zero, List.set_cons_succ, zav, zaw]
   rfl
 refine zaR (i := 3) (N := some 11) (v := ?_) (a' := ?_) #[true, true, true, true, true, false, false, false, true, false, false, false, true, false, false, false, false] rfl rfl (by kernel_rfl) (fun _ _ _ h => h) (Or.inl ⟨by rfl, ?_⟩) ?_ ?_
 rotate_left
 . intro w'
   go_simp
   with_reducible rfl
 rotate_left
 . simp only [Act.put, List.setIfInBounds_toArray, List.set_cons_zero, List.set_cons_succ, zav, zaw]
   rfl
 refine take_ (i := 5) (N := some 13) (v := ?_) (a' := ?_) #[true, true, true, true, true, true, false, false, true, false, false, false, true, false, false, false, false] rfl rfl (by kernel_rfl) (fun _ _ _ h => h) (Or.inl ⟨by rfl, ?_⟩) hHeld ?_ ?_
 rotate_left
 . rintro w' ⟨s0, s1, s2, s3⟩
   go_simp
   with_reducible rfl
 rotate_left
 . simp only [Act.put, List.setIfInBounds_toArray, List.set_cons_zero, List.set_cons_succ, zav, zaw]
   rfl
 refine take_ (i := 9) (N := some 17) (v := ?_) (a' := ?_) #[true, true, true, true, true, true, false, false, true, true, false, false, true, false, false, false, false] rfl rfl (by kernel_rfl) (fun _ _ _ h => h) (Or.inl ⟨by rfl, ?_⟩) hHeld ?_ ?_
 rotate_left
 . rintro w' ⟨s0, s1, s2, s3⟩
   go_simp
   with_reducible rfl
 rotate_left
 . simp only [Act.put, List.setIfInBounds_toArray, List.set_cons_zero, List.set_cons_succ, zav, zaw]
   rfl
 refine take_ (i := 13) (N := some 21) (v := ?_) (a' := ?_) #[true, true, true, true, true, true, false, false, true, true, false, false, true, true, false, false, false] rfl rfl (by kernel_rfl) (fun _ _ _ h => h) (Or.inl ⟨by rfl, ?_⟩) hHeld ?_ ?_
 rotate_left
 . rintro w' ⟨s0, s1, s2, s3⟩
   go_simp
   with_reducible rfl
 rotate_left
 . simp only [Act.put, List.setIfInBounds_toArray, List.set_cons_zero, List.set_cons_succ, zav, zaw]
   rfl
 refine one_ (i := 6) (N := some 14) #[true, true, true, true, true, true, true, false, true, true, false, false, true, true, false, false, false] rfl rfl (by kernel_rfl) (by decide) (fun K hK => ?_)
 refine zcn Tryz.func194 (by kernel_rfl) rfl #[.string (mk [105, 110]), .slice X1 (zae l1).length d1] (by rfl) rfl rfl (by simp only [List.map_toArray, List.map_cons, List.map_nil]; rfl) ?_
 with_reducible refine (HCl1.out _ HBwd.out HC1wd.out HGwd.out).mono ?_
 rintro e wa ⟨rfl, hb1⟩
 refine ⟨_, rfl, ?_⟩
 have HBwa := znM (zad HBwd.out HBwd.out.size hb1)
 have HGwa := znM (HGwd.out.below hb1)
 have HKwa := znM (zah HKwd.out hb1)
 have HRwa := znM (Kd.R_below HRwd.out hb1)
 have HC2wa := znM (Kd.C_below HC2wd.out hb1)
 have HC3wa := znM (Kd.C_below HC3wd.out hb1)
 have k0wa : wa.cell? ⟨w.heap.size, 0, none⟩ = some (.string f0) := (zab HKwa.out 0).trans rfl
 have k1wa : wa.cell? ⟨w.heap.size, 1, none⟩ = some (.slice X1 (zae l1).length d1) := (zab HKwa.out 1).trans rfl
 have k2wa : wa.cell? ⟨w.heap.size, 2, none⟩ = some (.slice X2 (zae l2).length d2) := (zab HKwa.out 2).trans rfl
 have k3wa : wa.cell? ⟨w.heap.size, 3, none⟩ = some (.slice X3 (zae l3).length d3) := (zab HKwa.out 3).trans rfl
 clear hb1
 refine hK.out _ _ ⟨k0wa, k1wa, k2wa, k3wa⟩ (fun hHeld => ?_)
 clear hK K
 refine zbp (a' := ?_) ?_ ?_
 rotate_left
 . show Act.put _ (some 14) _ = _
   simp only [Act.put, List.setIfInBounds_toArray, List.set_cons_zero, List.set_cons_succ, zav, zaw]
   rfl
 refine zaR (i := 7) (N := some 15) (v := ?_) (a' := ?_) #[true, true, true, true, true, true, true, true, true, true, false, false, true, true, false, false, false] rfl rfl (by kernel_rfl) (fun _ _ _ h => h) (Or.inl ⟨by rfl, ?_⟩) ?_ ?_
 rotate_left
 . intro w'
   go_simp
   with_reducible rfl
 rotate_left
 . simp only [Act.put, List.setIfInBounds_toArray, List.set_cons_zero, List.set_cons_succ, zav, zaw]
   rfl
 refine one_ (i := 10) (N := some 18) #[true, true, true, true, true, true, true, true, true, true, true, false, true, true, false, false, false] rfl rfl (by kernel_rfl) (by decide) (fun K hK => ?_)
 refine zcn Tryz.func194 (by kernel_rfl) rfl #[.string (mk [111, 117, 116]), .slice X2 (zae l2).length d2] (by rfl) rfl rfl (by simp only [List.map_toArray, List.map_cons, List.map_nil]; rfl) ?_
 with_reducible refine (HCl2.out _ HBwa.out HC2wa.out HGwa.out).mono ?_
 rintro e wb ⟨rfl, hb2⟩
 refine ⟨_, rfl, ?_⟩
 have HBwb := znM (zad HBwa.out HBwa.out.size hb2)
 have HGwb := znM (HGwa.out.below hb2)
 have HKwb := znM (zah HKwa.out hb2)
 have HRwb := znM (Kd.R_below HRwa.out hb2)
 have HC3wb := znM (Kd.C_below HC3wa.out hb2)
 have k0wb : wb.cell? ⟨w.heap.size, 0, none⟩ = some (.string f0) := (zab HKwb.out 0).trans rfl
 have k1wb : wb.cell? ⟨w.heap.size, 1, none⟩ = some (.slice X1 (zae l1).length d1) := (zab HKwb.out 1).trans rfl
 have k2wb : wb.cell? ⟨w.heap.size, 2, none⟩ = some (.slice X2 (zae l2).length d2) := (zab HKwb.out 2).trans rfl
 have k3wb : wb.cell? ⟨w.heap.size, 3, none⟩ = some (.slice X3 (zae l3).length d3) := (zab HKwb.out 3).trans rfl
 clear hb2
 refine hK.out _ _ ⟨k0wb, k1wb, k2wb, k3wb⟩ (fun hHeld => ?_)
 clear hK K
 refine zbp (a' := ?_) ?_ ?_
 rotate_left
 . show Act.put _ (some 18) _ = _
   simp only [Act.put, List.setIfInBounds_toArray, List.set_cons_zero, List.set_cons_succ, zav, zaw]
   rfl
 refine zaR (i := 11) (N := some 19) (v := ?_) (a' := ?_) #[true, true, true, true, true, true, true, true, true, true, true, true, true, true, false, false, false] rfl rfl (by kernel_rfl) (fun _ _ _ h => h) (Or.inl ⟨by rfl, ?_⟩) ?_ ?_
 rotate_left
 . intro w'
   go_simp
   with_reducible rfl
 rotate_left
 . simp only [Act.put, List.setIfInBounds_toArray, List.set_cons_zero, List.set_cons_succ, zav, zaw]
   rfl
 refine one_ (i := 14) (N := some 22) #[true, true, true, true, true, true, true, true, true, true, true, true, true, true, true, false, false] rfl rfl (by kernel_rfl) (by decide) (fun K hK => ?_)
 refine zcn Tryz.func194 (by kernel_rfl) rfl #[.string (mk [97, 102, 116, 101, 114]), .slice X3 (zae l3).length d3] (by rfl) rfl rfl (by simp only [List.map_toArray, List.map_cons, List.map_nil]; rfl) ?_
 with_reducible refine (HCl3.out _ HBwb.out HC3wb.out HGwb.out).mono ?_
 rintro e wc ⟨rfl, hb3⟩
 refine ⟨_, rfl, ?_⟩
 have HBwc := znM (zad HBwb.out HBwb.out.size hb3)
 have HGwc := znM (HGwb.out.below hb3)
 have HKwc := znM (zah HKwb.out hb3)
 have HRwc := znM (Kd.R_below HRwb.out hb3)
 have k0wc : wc.cell? ⟨w.heap.size, 0, none⟩ = some (.string f0) := (zab HKwc.out 0).trans rfl
 have k1wc : wc.cell? ⟨w.heap.size, 1, none⟩ = some (.slice X1 (zae l1).length d1) := (zab HKwc.out 1).trans rfl
 have k2wc : wc.cell? ⟨w.heap.size, 2, none⟩ = some (.slice X2 (zae l2).length d2) := (zab HKwc.out 2).trans rfl
 have k3wc : wc.cell? ⟨w.heap.size, 3, none⟩ = some (.slice X3 (zae l3).length d3) := (zab HKwc.out 3).trans rfl
 clear hb3
 refine hK.out _ _ ⟨k0wc, k1wc, k2wc, k3wc⟩ (fun hHeld => ?_)
 clear hK K
 refine zbp (a' := ?_) ?_ ?_
 rotate_left
 . show Act.put _ (some 22) _ = _
   simp only [Act.put, List.setIfInBounds_toArray, List.set_cons_zero, List.set_cons_succ, zav, zaw]
   rfl
 refine zaR (i := 15) (N := some 23) (v := ?_) (a' := ?_) #[true, true, true, true, true, true, true, true, true, true, true, true, true, true, true, true, false] rfl rfl (by kernel_rfl) (fun _ _ _ h => h) (Or.inl ⟨by rfl, ?_⟩) ?_ ?_
 rotate_left
 . intro w'
   go_simp
   with_reducible rfl
 rotate_left
 . simp only [Act.put, List.setIfInBounds_toArray, List.set_cons_zero, List.set_cons_succ, zav, zaw]
   rfl
 refine zaR (i := 16) (N := some 3) (v := ?_) (a' := ?_) #[true, true, true, true, true, true, true, true, true, true, true, true, true, true, true, true, true] rfl rfl (by kernel_rfl) (fun _ _ _ h => h) (Or.inl ⟨by rfl, ?_⟩) ?_ ?_
 rotate_left
 . intro w'
   go_simp
   with_reducible rfl
 rotate_left
 . simp only [Act.put, List.setIfInBounds_toArray, List.set_cons_zero, List.set_cons_succ, zav, zaw]
   rfl
 refine zeH (by kernel_rfl) ?_
--REG2E
 clear n1 n2 n3 n4 n5 HCl1 HCl2 HCl3 HC1wd HC2wd HC3wd HC2wa HC3wa HC3wb HBwd HGwd HKwd HRwd HBwa HGwa HKwa HRwa HBwb HGwb HKwb HRwb k0wd k1wd k2wd k3wd k0wa k1wa k2wa k3wa k0wb k1wb k2wb k3wb k0wc k1wc k2wc k3wc
 have k4wc : wc.cell? ⟨w.heap.size, 4, none⟩ = some (.slice X4 1 d4) := (zab HKwc.out 4).trans rfl
 obtain ⟨_, _, e4, hd4, hc4⟩ := Kd.R_reads HRwc.out
 injection e4 with e41 g4 e42
 clear g4
 subst e41 e42
 obtain ⟨ad, cs, rfl, hcl, hK, hcell⟩ := Kd.C_get hc4 x 0 (by simp) (by simp)
 obtain ⟨A5, c5, A6, c6, hcs, hc5, h5, hc6, h6⟩ := zeB hK
 subst hcs
 have m0 : wc.cell? ad = some (.string x.f0) := by have := hcell 0 _ rfl; rwa [zdd] at this
 have m1 : wc.cell? ⟨ad.block, ad.off + 1, none⟩ = some (.int .i64 x.f1) := by have := hcell 1 _ rfl; rwa [at_next ad 1 (by decide)] at this
 have m2 : wc.cell? ⟨ad.block, ad.off + 2, none⟩ = some (.slice A5 x.f2.length c5) := by have := hcell 2 _ rfl; rwa [at_next ad 2 (by decide)] at this
 have m3 : wc.cell? ⟨ad.block, ad.off + 3, none⟩ = some (.slice A6 x.f3.length c6) := by have := hcell 3 _ rfl; rwa [at_next ad 3 (by decide)] at this
 have m4 : wc.cell? ⟨ad.block, ad.off + 4, none⟩ = some (.int .i64 x.f4) := by have := hcell 4 _ rfl; rwa [at_next ad 4 (by decide)] at this
 have hst : (zcO x).length <= 1000001 := by
  have := HS.out.sj
  unfold zcO
  simp only [List.length_append, List.length_cons, List.length_nil]
  omega
 obtain ⟨HD, hHD⟩ : ∃ HD, HD = zcM f0 l1 l2 l3 := ⟨_, rfl⟩
 obtain ⟨T, hT⟩ : ∃ T, T = zcO x := ⟨_, rfl⟩
 have hP : Hid (∀ W, Below wc.heap.size wc W -> Calls Tryz.prog 119 #[.agg #[.string x.f0, .int .i64 x.f1, .slice A5 x.f2.length c5, .slice A6 x.f3.length c6, .int .i64 x.f4]] W fun e w' => e = .returned (.string (mk T)) /\ Below W.heap.size W w') := fun W hW => by
  rw [hT]; exact zil x A5 c5 A6 c6 W (HGwc.out.below hW) (Kd.C_below h5 hW) (Kd.C_below h6 hW) HS.out.s1 HS.out.sp HS.out.s2 HS.out.s3 (Nat.le_trans HS.out.sj (by omega))
 have HR : Hid (zcT f0 l1 l2 l3 x = HD ++ ([32, 32] ++ T ++ [10]) ++ [125, 10]) := by rw [hHD, hT]; rfl
 have hHDl := HHl.out
 rw [<- hT] at hst
 have hHH := HH.out
 rw [<- hHD] at hHDl hHH
 have q1 := za4 T
 have q2 := za4 HD
 have q3 := za4 (HD ++ ([32, 32] ++ T ++ [10]))
 have q4 : (HD ++ ([32, 32] ++ T ++ [10])).length = HD.length + (T.length + 3) := by simp only [List.length_append, List.length_cons, List.length_nil]; omega
 have n1 : ¬ 9223372036854775807 < 2 + (mk T).size := by omega
 have n2 : ¬ 9223372036854775807 < 2 + (mk T).size + 1 := by omega
 have n3 : ¬ 9223372036854775807 < (mk HD).size + (2 + (mk T).size + 1) := by omega
 have n4 : ¬ 9223372036854775807 < (mk (HD ++ ([32, 32] ++ T ++ [10]))).size + 2 := by omega
 rw [hHH]
 clear hHH HH HHl hHDl hHD hT hst q1 q2 q3 q4 hc4 hd4 hcl hK hcell hc5 h5 hc6 h6 HRwc HGwc HS HG0
 go_wp2_with fail
 go_loopg [3, 27] 1 (fun gg s3 s27 wr => ∃ kk : Nat, kk <= 1 /\ 1 - kk <= gg /\ s27 = .int .i64 kk /\ Aside0 (kk = 0 -> s3 = .string (mk HD) /\ wr = wc) /\ Aside0 (kk = 1 -> s3 = .string (mk (HD ++ ([32, 32] ++ T ++ [10]))) /\ Below w.heap.size w wr))
 case atStart => exact ⟨0, by omega, by omega, rfl, ⟨fun _ => ⟨rfl, rfl⟩⟩, ⟨fun h => by omega⟩⟩
 case round =>
  obtain ⟨kk, hkk, hgk, rfl, HP0, HP1⟩ := hrel
  by_cases h0 : kk = 0
  . subst h0
    obtain ⟨rfl, rfl⟩ := HP0.out rfl
    clear HP0 HP1
    have hb1 := (Below.refl wr.heap.size wr).alloc (Nat.le_refl _) (.cells #[.string x.f0, .int .i64 x.f1, .slice A5 x.f2.length c5, .slice A6 x.f3.length c6, .int .i64 x.f4] 24)
    have hcall := hP.out _ hb1
    have HB1 := znM (zad HBwc.out HBwc.out.size hb1)
    have HX : Hid (mk HD ++ ((⟨#[32, 32]⟩ : ByteArray) ++ mk T ++ (⟨#[10]⟩ : ByteArray)) = mk (HD ++ ([32, 32] ++ T ++ [10]))) := by
     show _ = _
     rw [<- zbN, <- zbN, <- zbN]
     rfl
    clear hb1
    go_wp2_with (go_at_call 119; refine hcall.mono ?_; rintro e w2 ⟨rfl, hb2⟩; have HB2 := znM (zad HB1.out HB1.out.size hb2); clear hb2)
    go_roundg 0
    case measure => omega
    case rel => exact ⟨1, by omega, by omega, by first | rfl | go_num, ⟨fun h => by omega⟩, ⟨fun _ => ⟨by rw [<- HX.out], HB2.out⟩⟩⟩
  . obtain rfl : kk = 1 := by omega
    obtain ⟨rfl, hB⟩ := HP1.out rfl
    have HB := znM hB
    clear HP0 HP1 hB
    go_wp2_with fail
    go_ret
    refine ⟨?_, HB.out⟩
    rw [HR.out, <- zbN]
    rfl

set_option maxHeartbeats 4000000 in
set_option maxRecDepth 100000 in
theorem zki (f0 : ByteArray) (l1 l2 l3 : List ByteArray) (x : zaA) (A : Option Addr) (c : Nat) (w : World) (hG : GOK w) (h : Kd.C k45 w A 1 [⟨f0, l1, l2, l3, [x]⟩])
 (hl1 : l1.length * 16 <= 140737488355328) (hl2 : l2.length * 16 <= 140737488355328) (hl3 : l3.length * 16 <= 140737488355328) (hs : zfG f0 (zae l1) (zae l2) (zae l3) x) :
 Calls Tryz.prog 114 #[.slice A 1 c] w fun e w' => e = .returned (.string (mk (zcT f0 (zae l1) (zae l2) (zae l3) x))) /\ Below w.heap.size w w' := by
 have hsort := zin f0 l1 l2 l3 x A c w h hl1 hl2 hl3 (by have := hs.s2; omega) (by have := hs.s3; omega)
 obtain ⟨T, hT⟩ : ∃ T, T = zcT f0 (zae l1) (zae l2) (zae l3) x := ⟨_, rfl⟩
 have hTl : T.length <= 7000000 := by
  rw [hT]
  have a0 := hs.n0
  have a1 := zdl (word := [105, 110]) (by decide) hs.j1
  have a2 := zdl (word := [111, 117, 116]) (by decide) hs.j2
  have a3 := zdl (word := [97, 102, 116, 101, 114]) (by decide) hs.j3
  have a4 := hs.sj
  have a5 := Lib.size_eq f0
  unfold zcT zcM zcO
  simp only [List.length_append, List.length_cons, List.length_nil]
  omega
 have HS := znM hs
 have HG := znM hG
 have HT := znM hT
 rw [<- hT]
 have n1 : ¬ 9223372036854775807 < (mk T).size := by rw [za4]; omega
 clear hs hG h hl1 hl2 hl3 hT hTl
 go_enter Tryz.func114, Tryz.ntmps114
 go_wp2_with (go_at_call 118; refine hsort.mono ?_; rintro e w1 ⟨X, d, rfl, hR, hb1⟩; obtain ⟨_, _, e4, hd4, hc4⟩ := Kd.R_reads hR; injection e4 with e41 g4 e42; clear g4; subst e41 e42; obtain ⟨ad, cs, rfl, hcl, hK, hcell⟩ := Kd.C_get hc4 (⟨f0, zae l1, zae l2, zae l3, [x]⟩ : zai) 0 (by simp) (by simp); obtain ⟨A1, c1, A2, c2, A3, c3, A4, c4, hcs, u1, h1, u2, h2, u3, h3, u4, h4⟩ := zdZ hK; subst hcs)
 have m0 : w1.cell? ad = some (.string f0) := by have := hcell 0 _ rfl; rwa [zdd] at this
 have m1 : w1.cell? ⟨ad.block, ad.off + 1, none⟩ = some (.slice A1 (zae l1).length c1) := by have := hcell 1 _ rfl; rwa [at_next ad 1 (by decide)] at this
 have m2 : w1.cell? ⟨ad.block, ad.off + 2, none⟩ = some (.slice A2 (zae l2).length c2) := by have := hcell 2 _ rfl; rwa [at_next ad 2 (by decide)] at this
 have m3 : w1.cell? ⟨ad.block, ad.off + 3, none⟩ = some (.slice A3 (zae l3).length c3) := by have := hcell 3 _ rfl; rwa [at_next ad 3 (by decide)] at this
 have m4 : w1.cell? ⟨ad.block, ad.off + 4, none⟩ = some (.slice A4 1 c4) := by have := hcell 4 _ rfl; rwa [at_next ad 4 (by decide)] at this
 have hP : Hid (∀ W, Below w1.heap.size w1 W -> Calls Tryz.prog 143 #[.agg #[.string f0, .slice A1 (zae l1).length c1, .slice A2 (zae l2).length c2, .slice A3 (zae l3).length c3, .slice A4 1 c4]] W fun e w' => e = .returned (.string (mk T)) /\ Below W.heap.size W w') := fun W hW => by
  rw [HT.out]; exact zjx f0 _ _ _ x A1 c1 A2 c2 A3 c3 A4 c4 W ((HG.out.below hb1).below hW) (Kd.C_below h1 hW) (Kd.C_below h2 hW) (Kd.C_below h3 hW) (Kd.C_below h4 hW) HS.out
 have HB1 := znM hb1
 clear u1 u2 u3 u4
 clear hsort hR hd4 hc4 hcl hK hcell h1 h2 h3 h4 hb1
 go_loopg [3, 9] 1 (fun gg s3 s9 wr => ∃ kk : Nat, kk <= 1 /\ 1 - kk <= gg /\ s9 = .int .i64 kk /\ Aside0 (kk = 0 -> s3 = .string ⟨#[]⟩ /\ wr = w1) /\ Aside0 (kk = 1 -> s3 = .string (mk T) /\ Below w.heap.size w wr))
 case atStart => exact ⟨0, by omega, by omega, rfl, ⟨fun _ => ⟨rfl, rfl⟩⟩, ⟨fun h => by omega⟩⟩
 case round =>
  obtain ⟨kk, hkk, hgk, rfl, HP0, HP1⟩ := hrel
  by_cases h0 : kk = 0
  . subst h0
    obtain ⟨rfl, rfl⟩ := HP0.out rfl
    clear HP0 HP1
    have hb1 := (Below.refl wr.heap.size wr).alloc (Nat.le_refl _) (.cells #[.string f0, .slice A1 (zae l1).length c1, .slice A2 (zae l2).length c2, .slice A3 (zae l3).length c3, .slice A4 1 c4] 45)
    have hcall := hP.out _ hb1
    have HBx := znM (zad HB1.out HB1.out.size hb1)
    have HX : Hid ((⟨#[]⟩ : ByteArray) ++ mk T = mk T) := by
     show _ = _
     rw [show (⟨#[]⟩ : ByteArray) = mk [] from rfl, zbN]
     rfl
    clear hb1
    go_wp2_with (go_at_call 143; refine hcall.mono ?_; rintro e w2 ⟨rfl, hb2⟩; have HB2 := znM (zad HBx.out HBx.out.size hb2); clear hb2)
    go_roundg 0
    case measure => omega
    case rel => exact ⟨1, by omega, by omega, by first | rfl | go_num, ⟨fun h => by omega⟩, ⟨fun _ => ⟨by first | rfl | rw [<- HX.out] | simp, HB2.out⟩⟩⟩
  . obtain rfl : kk = 1 := by omega
    obtain ⟨rfl, hB⟩ := HP1.out rfl
    have HB := znM hB
    clear HP0 HP1 hB
    go_wp2_with fail
    go_ret
    exact ⟨rfl, HB.out⟩

end Go.Proofs.YtdpgdnpddndeoaaGreatDoor.X
