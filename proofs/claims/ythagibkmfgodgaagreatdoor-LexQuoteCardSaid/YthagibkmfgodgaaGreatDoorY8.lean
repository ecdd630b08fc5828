/-
  print.File, walked by hand, at no rule and at one rule of one step.
  begun of law4 answers true: every contract at its closed values.
  A text cut short, plainly.
  lex.Quote, walked by hand, for every text.
  The reference's Quote, walked by hand, for every text.
  A quoted text alone among words, plain: what the words are; what a quoted text is made of.
  LexQuote, walked by hand: a text cut short, quoted, read back.
-/
import Derived.Test.YthagibkmfgodgaaGreatDoorY7
import Derived.Test.YthagibkmfgodgaaGreatDoorY6
namespace Go.Proofs.YthagibkmfgodgaaGreatDoor.X
open Go.RowKit Go.Maps Go.Proofs.YthagibkmfgodgaaGreatDoorW.PrintWords Go.Proofs.YthagibkmfgodgaaGreatDoorW.PrintMore Go.Proofs.YthagibkmfgodgaaGreatDoorW.PrintLast

set_option maxHeartbeats 2000000 in
set_option maxRecDepth 100000 in
theorem insertion_calls (A : Option Addr) (n c : Nat) (hn : n ≤ 1) (cmp : Value) (w : World) :
    Calls Tryz.prog 132 #[.slice A n c, .int .i64 0, .int .i64 n, cmp] w fun e w' => e = .returned (.tuple #[]) ∧ w = w' := by
  have h1 : ¬ (1 : Int) < (n : Int) := by omega
  go_enter Tryz.func132, Tryz.ntmps132
  go_wp2_with fail
  go_loopg [8, 9] 0 (fun _ s8 _ wr => s8 = .int .i64 1 ∧ wr = w)
  case atStart => exact ⟨rfl, rfl⟩
  case round =>
    obtain ⟨rfl, rfl⟩ := hrel
    go_wp2
    go_end0
    exact ⟨rfl, rfl⟩
set_option maxHeartbeats 2000000 in
set_option maxRecDepth 100000 in
theorem stable_calls (A : Option Addr) (n c : Nat) (hn : n ≤ 1) (cmp : Value) (w : World) :
    Calls Tryz.prog 95 #[.slice A n c, .int .i64 n, cmp] w fun e w' => e = .returned (.tuple #[]) ∧ w = w' := by
  have h1 : ¬ (20 : Int) ≤ (n : Int) := by omega
  have h2 : ¬ (20 : Int) < (n : Int) := by omega
  have hI := fun W => insertion_calls A n c hn cmp W
  go_enter Tryz.func95, Tryz.ntmps95
  go_wp2_with fail
  go_loopg [7, 8] 0 (fun _ s7 s8 wr => s7 = .int .i64 0 ∧ s8 = .int .i64 20 ∧ wr = w)
  case atStart => exact ⟨rfl, rfl, rfl⟩
  case round =>
    obtain ⟨rfl, rfl, rfl⟩ := hrel
    go_wp2_with (go_at_call 132; refine (hI _).mono ?_; rintro e w' ⟨rfl, rfl⟩)
    go_loopg [6, 7, 8, 9] 0 (fun _ s6 _ _ _ wr' => s6 = .int .i64 20 ∧ wr' = wr)
    case atStart => exact ⟨rfl, rfl⟩
    case round =>
      obtain ⟨rfl, rfl⟩ := hrel
      go_wp2
      go_end0
      exact ⟨rfl, rfl⟩
set_option maxHeartbeats 1000000 in
theorem sortStable_calls (A : Option Addr) (n c : Nat) (hn : n ≤ 1) (cmp : Value) (w : World) :
    Calls Tryz.prog 63 #[.slice A n c, cmp] w fun e w' => e = .returned (.tuple #[]) ∧ w = w' := by
  have hI := fun W => stable_calls A n c hn cmp W
  go_enter Tryz.func63, Tryz.ntmps63
  go_wp2_with (go_at_call 95; refine (hI _).mono ?_; rintro e w' ⟨rfl, rfl⟩)
  go_end0
  exact ⟨rfl, rfl⟩
theorem at_zero {ad : Addr} {m : Nat} : ad.add ((0 : Int).toNat * m + 0) = ad := by simp [Addr.add]
theorem at_next (ad : Addr) (j : Nat) (hj : 0 < j) {m : Nat} : ad.add ((0 : Int).toNat * m + j) = ⟨ad.block, ad.off + j, none⟩ := by
  rw [add_field ad _ j hj]
  simp [Addr.add]
set_option maxHeartbeats 4000000 in
set_option maxRecDepth 100000 in
theorem sortedOne_calls (f0 : ByteArray) (l1 l2 l3 : List ByteArray) (x : SStep) (A : Option Addr) (c : Nat) (w : World) (h : Kd.C k49 w A 1 [⟨f0, l1, l2, l3, [x]⟩])
    (hl1 : l1.length * 16 ≤ 140737488355328) (hl2 : l2.length * 16 ≤ 140737488355328) (hl3 : l3.length * 16 ≤ 140737488355328) (hl5 : x.f2.length * 16 ≤ 140737488355328) (hl6 : x.f3.length * 16 ≤ 140737488355328) :
    Calls Tryz.prog 37 #[.slice A 1 c] w fun e w' => ∃ X d, e = .returned (.slice X 1 d) ∧ Kd.R k49 49 w' w.heap.size (fun _ => True) (.slice X 1 d) [⟨f0, risingF l1, risingF l2, risingF l3, [x]⟩] ∧ Below w.heap.size w w' := by
  obtain ⟨ad, cs, rfl, hcl, hK, hcell⟩ := Kd.C_get h ⟨f0, l1, l2, l3, [x]⟩ 0 (by decide) (by decide)
  obtain ⟨A1, c1, A2, c2, A3, c3, A4, c4, hcs, _, h1, _, h2, _, h3, _, h4⟩ := k49_open hK
  subst hcs
  have m0 : w.cell? ad = some (.string f0) := by have := hcell 0 _ rfl; rwa [at_zero] at this
  have m1 : w.cell? ⟨ad.block, ad.off + 1, none⟩ = some (.slice A1 l1.length c1) := by have := hcell 1 _ rfl; rwa [at_next ad 1 (by decide)] at this
  have m2 : w.cell? ⟨ad.block, ad.off + 2, none⟩ = some (.slice A2 l2.length c2) := by have := hcell 2 _ rfl; rwa [at_next ad 2 (by decide)] at this
  have m3 : w.cell? ⟨ad.block, ad.off + 3, none⟩ = some (.slice A3 l3.length c3) := by have := hcell 3 _ rfl; rwa [at_next ad 3 (by decide)] at this
  have m4 : w.cell? ⟨ad.block, ad.off + 4, none⟩ = some (.slice A4 1 c4) := by have := hcell 4 _ rfl; rwa [at_next ad 4 (by decide)] at this
  have hO := fun W (hW : Below w.heap.size w W) => one_calls f0 l1 l2 l3 x A1 c1 A2 c2 A3 c3 A4 c4 W (Kd.C_below h1 hW) (Kd.C_below h2 hW) (Kd.C_below h3 hW) (Kd.C_below h4 hW) hl1 hl2 hl3 hl5 hl6
  have HO := Lib.hid hO
  clear hO h hcl hK hcell h1 h2 h3 h4 hl1 hl2 hl3 hl5 hl6
  go_enter Tryz.func37, Tryz.ntmps37
  go_wp2_with fail
  go_loopg [3, 8] 1 (fun gg s3 s8 wr => ∃ kk : Nat, kk ≤ 1 ∧ 1 - kk ≤ gg ∧ s8 = .int .i64 kk ∧ Aside0 (kk = 0 → s3 = .slice none 0 0 ∧ wr = w) ∧ Aside0 (kk = 1 → ∃ X d, s3 = .slice X 1 d ∧ Kd.R k49 49 wr w.heap.size (fun _ => True) (.slice X 1 d) [⟨f0, risingF l1, risingF l2, risingF l3, [x]⟩] ∧ Below w.heap.size w wr))
  case atStart => exact ⟨0, by omega, by omega, rfl, ⟨fun _ => ⟨rfl, rfl⟩⟩, ⟨fun h => by omega⟩⟩
  case round =>
    obtain ⟨kk, hkk, hgk, rfl, HP0, HP1⟩ := hrel
    by_cases h0 : kk = 0
    · subst h0
      obtain ⟨rfl, rfl⟩ := HP0.out rfl
      clear HP0 HP1
      have hb1 := (Below.refl wr.heap.size wr).alloc (Nat.le_refl _) (.cells #[.string f0, .slice A1 l1.length c1, .slice A2 l2.length c2, .slice A3 l3.length c3, .slice A4 1 c4] 49)
      have hcall := HO.out _ hb1
      have HB1 := Lib.hid hb1
      clear hb1
      go_wp2_with fail
      refine hcall.mono ?_
      rintro e w2 ⟨Y1, e1, Y2, e2, Y3, e3, Y4, e4, rfl, hr1, hr2, hr3, hr4, hb2⟩
      have HB2 := Lib.hid (below_then HB1.out HB1.out.size hb2)
      have nn : ∀ k : Nat, (fun _ : Nat => True) k → True ∧ some k ≠ (Value.slice (none : Option Addr) 0 0).ownBlock := fun k _ => ⟨trivial, by simp [Value.ownBlock]⟩
      have HY1 := Lib.hid (Kd.R_mono (Kd.R_lower hr1 HB1.out.size) nn)
      have HY2 := Lib.hid (Kd.R_mono (Kd.R_lower hr2 HB1.out.size) nn)
      have HY3 := Lib.hid (Kd.R_mono (Kd.R_lower hr3 HB1.out.size) nn)
      have HY4 := Lib.hid (Kd.R_mono (Kd.R_lower hr4 HB1.out.size) nn)
      have HS2 : Hid (wr.heap.size ≤ w2.heap.size) := HB2.out.size
      clear hr1 hr2 hr3 hr4 hb2 nn
      go_wp2_with (first | ((with_reducible refine gate_builtin (b := .append) (xs := #[.tmp 12, .tmp 15]) rfl ?_); at_builtin; refine Kd.R_append k49 (w0 := wr) wr.heap.size rfl (.tmp 12) (.tmp 15) 35 49 (.agg #[.string ⟨#[]⟩, .slice none 0 0, .slice none 0 0, .slice none 0 0, .slice none 0 0]) 112 rfl Tryz.underlying35 info49 rfl (by decide) (by decide) (.slice none 0 0) [] ⟨f0, risingF l1, risingF l2, risingF l3, [x]⟩ [.string f0, .slice Y1 (risingF l1).length e1, .slice Y2 (risingF l2).length e2, .slice Y3 (risingF l3).length e3, .slice Y4 1 e4] (fun _ => True) (fun k_ => True ∧ some k_ ≠ (Value.slice none 0 0).ownBlock) rfl rfl (k49_mkM w2 wr.heap.size _ (⟨f0, risingF l1, risingF l2, risingF l3, [x]⟩ : SRule) HY1.out HY2.out HY3.out HY4.out) (fun _ hk => hk) (fun _ _ => trivial) (Kd.R_nil _ _ _ _ _) HB2.out HS2.out ?aL ?_; (case aL => simp); intro v1 w4 ho hb hg hat; obtain ⟨X, d, rfl, _, _⟩ := Kd.R_reads ho; have HR4 := Lib.hid ho; have HB4 := Lib.hid hb; clear ho hb hg hat))
      go_roundg 0
      case measure => omega
      case rel => exact ⟨1, by omega, by omega, by first | rfl | go_num, ⟨fun h => by omega⟩, ⟨fun _ => ⟨X, d, rfl, HR4.out, HB4.out⟩⟩⟩
    · obtain rfl : kk = 1 := by omega
      obtain ⟨X, d, rfl, hR, hB⟩ := HP1.out rfl
      have hI := fun W => sortStable_calls X 1 d (by decide) (.func (.func 64) #[] #[]) W
      have HR := Lib.hid hR
      have HB := Lib.hid hB
      clear HP0 HP1 hR hB
      go_wp2_with (go_at_call 63; refine (hI _).mono ?_; rintro e w' ⟨rfl, rfl⟩)
      go_ret
      exact ⟨X, d, rfl, HR.out, HB.out⟩

end Go.Proofs.YthagibkmfgodgaaGreatDoor.X

namespace Go.Proofs.YthagibkmfgodgaaGreatDoor.X
open Go.RowKit Go.Maps Go.Proofs.YthagibkmfgodgaaGreatDoorW.PrintWords Go.Proofs.YthagibkmfgodgaaGreatDoorW.PrintMore Go.Proofs.YthagibkmfgodgaaGreatDoorW.PrintLast
set_option linter.unusedSimpArgs false

def headT (f0 : ByteArray) (l1 l2 l3 : List ByteArray) : Bytes := [114, 117, 108, 101, 32] ++ f0.data.toList ++ [32, 123, 10] ++ clauseF [105, 110] (risingF l1) ++ clauseF [111, 117, 116] (risingF l2) ++ clauseF [97, 102, 116, 101, 114] (risingF l3)
def ruleT (f0 : ByteArray) (l1 l2 l3 : List ByteArray) (x : SStep) : Bytes := headT f0 l1 l2 l3 ++ ([32, 32] ++ stepT x ++ [10]) ++ [125, 10]
/-- Small enough to be printed. -/
structure SmallR (f0 : ByteArray) (l1 l2 l3 : List ByteArray) (x : SStep) : Prop where
  n0 : f0.size ≤ 1000000
  n1 : l1.length ≤ 1000
  n2 : l2.length ≤ 1000
  n3 : l3.length ≤ 1000
  j1 : (Lib.join (datas (risingF l1)) [44, 32]).length ≤ 1000000
  j2 : (Lib.join (datas (risingF l2)) [44, 32]).length ≤ 1000000
  j3 : (Lib.join (datas (risingF l3)) [44, 32]).length ≤ 1000000
  s1 : x.f1 ≠ 9
  s2 : x.f2.length ≤ 1000
  s3 : x.f3.length ≤ 1000
  sp : ∀ y ∈ x.f3, PlainB y
  sj : (Lib.join (datas (stepL x)) [32]).length ≤ 1000000
theorem clause_len {word : Bytes} {l : List ByteArray} (hw : word.length ≤ 100) (hj : (Lib.join (datas l) [44, 32]).length ≤ 1000000) : (clauseF word l).length ≤ 1000200 := by
  unfold clauseF
  split
  · simp
  · simp; omega
set_option maxHeartbeats 8000000 in
set_option maxRecDepth 100000 in
theorem prule_calls (f0 : ByteArray) (l1 l2 l3 : List ByteArray) (x : SStep) (A1 : Option Addr) (c1 : Nat) (A2 : Option Addr) (c2 : Nat) (A3 : Option Addr) (c3 : Nat) (A4 : Option Addr) (c4 : Nat) (w : World) (hG : GOK w)
    (h1 : Kd.C Kd.string w A1 l1.length l1) (h2 : Kd.C Kd.string w A2 l2.length l2) (h3 : Kd.C Kd.string w A3 l3.length l3) (h4 : Kd.C k62 w A4 1 [x]) (hs : SmallR f0 l1 l2 l3 x) :
    Calls Tryz.prog 50 #[.agg #[.string f0, .slice A1 l1.length c1, .slice A2 l2.length c2, .slice A3 l3.length c3, .slice A4 1 c4]] w fun e w' => e = .returned (.string (mk (ruleT f0 l1 l2 l3 x))) ∧ Below w.heap.size w w' := by
  have hb1 := (Below.refl w.heap.size w).alloc (Nat.le_refl _) (.cells #[.string f0, .slice A1 l1.length c1, .slice A2 l2.length c2, .slice A3 l3.length c3, .slice A4 1 c4] 49)
  have hone := one_calls f0 l1 l2 l3 x A1 c1 A2 c2 A3 c3 A4 c4 _ (Kd.C_below h1 hb1) (Kd.C_below h2 hb1) (Kd.C_below h3 hb1) (Kd.C_below h4 hb1) (by have := hs.n1; omega) (by have := hs.n2; omega) (by have := hs.n3; omega) (by have := hs.s2; omega) (by have := hs.s3; omega)
  have HK1 := Lib.hid (blk_new w (.cells #[.string f0, .slice A1 l1.length c1, .slice A2 l2.length c2, .slice A3 l3.length c3, .slice A4 1 c4] 49))
  have HB1 := Lib.hid hb1
  have HG1 := Lib.hid (hG.below hb1)
  have HS := Lib.hid hs
  have HG0 := Lib.hid hG
  clear hb1 h1 h2 h3 h4 hG hs
  go_enter Tryz.func50, Tryz.ntmps50
  go_wp2_with fail
  refine hone.mono ?_
  rintro e w2 ⟨X1, d1, X2, d2, X3, d3, X4, d4, rfl, hr1, hr2, hr3, hr4, hb2⟩
  have hK2 := blk_below HK1.out hb2
  have k0 : w2.cell? ⟨w.heap.size, 0, none⟩ = some (.string f0) := (blk_cell hK2 0).trans rfl
  have k1 : w2.cell? ⟨w.heap.size, 1, none⟩ = some (.slice A1 l1.length c1) := (blk_cell hK2 1).trans rfl
  have k2 : w2.cell? ⟨w.heap.size, 2, none⟩ = some (.slice A2 l2.length c2) := (blk_cell hK2 2).trans rfl
  have k3 : w2.cell? ⟨w.heap.size, 3, none⟩ = some (.slice A3 l3.length c3) := (blk_cell hK2 3).trans rfl
  have k4 : w2.cell? ⟨w.heap.size, 4, none⟩ = some (.slice A4 1 c4) := (blk_cell hK2 4).trans rfl
  have z0 := blk_frozen hK2 0
  have z1 := blk_frozen hK2 1
  have z2 := blk_frozen hK2 2
  have z3 := blk_frozen hK2 3
  have z4 := blk_frozen hK2 4
  have hB2 := below_then HB1.out HB1.out.size hb2
  have hG2 := HG1.out.below hb2
  have HK2 := Lib.hid hK2
  have HB2 := Lib.hid hB2
  have HG2 := Lib.hid hG2
  have HR1 := Lib.hid (Kd.R_lower hr1 HB1.out.size)
  have HR2 := Lib.hid (Kd.R_lower hr2 HB1.out.size)
  have HR3 := Lib.hid (Kd.R_lower hr3 HB1.out.size)
  have HR4 := Lib.hid (Kd.R_lower hr4 HB1.out.size)
  clear hone hb2 hK2 hB2 hG2 hr1 hr2 hr3 hr4 HK1 HB1 HG1
  have hs5 := set5_blk (.string f0) (.slice X1 (risingF l1).length d1) (.slice X2 (risingF l2).length d2) (.slice X3 (risingF l3).length d3) (.slice X4 1 d4) HK2.out
  have hA := RS.set5 HR1.out (.string f0) (.slice X1 (risingF l1).length d1) (.slice X2 (risingF l2).length d2) (.slice X3 (risingF l3).length d3) (.slice X4 1 d4) HK2.out (by decide)
  have hB := RS.set5 HR2.out (.string f0) (.slice X1 (risingF l1).length d1) (.slice X2 (risingF l2).length d2) (.slice X3 (risingF l3).length d3) (.slice X4 1 d4) HK2.out (by decide)
  have hC := RS.set5 HR3.out (.string f0) (.slice X1 (risingF l1).length d1) (.slice X2 (risingF l2).length d2) (.slice X3 (risingF l3).length d3) (.slice X4 1 d4) HK2.out (by decide)
  have hD := R_set5 HR4.out (.string f0) (.slice X1 (risingF l1).length d1) (.slice X2 (risingF l2).length d2) (.slice X3 (risingF l3).length d3) (.slice X4 1 d4) HK2.out (by decide)
  have hE := ((((HB2.out.setCell (p := ⟨w.heap.size, 0, none⟩) (Nat.le_refl _) (.string f0)).setCell (p := ⟨w.heap.size, 1, none⟩) (Nat.le_refl _) (.slice X1 (risingF l1).length d1)).setCell (p := ⟨w.heap.size, 2, none⟩) (Nat.le_refl _) (.slice X2 (risingF l2).length d2)).setCell (p := ⟨w.heap.size, 3, none⟩) (Nat.le_refl _) (.slice X3 (risingF l3).length d3)).setCell (p := ⟨w.heap.size, 4, none⟩) (Nat.le_refl _) (.slice X4 1 d4)
  unfold set5 at hs5 hA hB hC hD
  have HK5 := Lib.hid hs5
  have HA5 := Lib.hid hA
  have HB5' := Lib.hid hB
  have HC5 := Lib.hid hC
  have HD5 := Lib.hid hD
  have HB5 := Lib.hid hE
  clear hs5 hA hB hC hD hE HR1 HR2 HR3 HR4
  go_wp2_with fail
  generalize ((((w2.setCell ⟨w.heap.size, 0, none⟩ (.string f0)).setCell ⟨w.heap.size, 1, none⟩ (.slice X1 (risingF l1).length d1)).setCell ⟨w.heap.size, 2, none⟩ (.slice X2 (risingF l2).length d2)).setCell ⟨w.heap.size, 3, none⟩ (.slice X3 (risingF l3).length d3)).setCell ⟨w.heap.size, 4, none⟩ (.slice X4 1 d4) = w5 at HK5 HA5 HB5' HC5 HD5 HB5 ⊢
  clear k0 k1 k2 k3 k4 z0 z1 z2 z3 z4 HK2 HB2 HG2
  obtain ⟨J1, hJ1⟩ : ∃ J, J = clauseF [105, 110] (risingF l1) := ⟨_, rfl⟩
  obtain ⟨J2, hJ2⟩ : ∃ J, J = clauseF [111, 117, 116] (risingF l2) := ⟨_, rfl⟩
  obtain ⟨J3, hJ3⟩ : ∃ J, J = clauseF [97, 102, 116, 101, 114] (risingF l3) := ⟨_, rfl⟩
  have hj1 : J1.length ≤ 1000200 := by rw [hJ1]; exact clause_len (by decide) HS.out.j1
  have hj2 : J2.length ≤ 1000200 := by rw [hJ2]; exact clause_len (by decide) HS.out.j2
  have hj3 : J3.length ≤ 1000200 := by rw [hJ3]; exact clause_len (by decide) HS.out.j3
  have hn0 := HS.out.n0
  have hm1 := mk_size J1
  have hm2 := mk_size J2
  have hm3 := mk_size J3
  have n1 : ¬ 9223372036854775807 < 5 + f0.size := by omega
  have n2 : ¬ 9223372036854775807 < 5 + f0.size + 3 := by omega
  have n3 : ¬ 9223372036854775807 < 5 + f0.size + 3 + (mk J1).size := by omega
  have n4 : ¬ 9223372036854775807 < 5 + f0.size + 3 + (mk J1).size + (mk J2).size := by omega
  have n5 : ¬ 9223372036854775807 < 5 + f0.size + 3 + (mk J1).size + (mk J2).size + (mk J3).size := by omega
  obtain ⟨_, _, e1, hd1, hc1⟩ := Kd.R_reads HA5.out
  obtain ⟨_, _, e2, hd2, hc2⟩ := Kd.R_reads HB5'.out
  obtain ⟨_, _, e3, hd3, hc3⟩ := Kd.R_reads HC5.out
  injection e1 with e11 g1 e12
  clear g1
  injection e2 with e21 g2 e22
  clear g2
  injection e3 with e31 g3 e32
  clear g3
  subst e11 e12 e21 e22 e31 e32
  have HCl1 : Hid (∀ W, Below w.heap.size w W → Kd.C Kd.string W X1 (risingF l1).length (risingF l1) → GOK W → Calls Tryz.prog 80 #[.string (mk [105, 110]), .slice X1 (risingF l1).length d1] W fun e w' => e = .returned (.string (mk J1)) ∧ Below W.heap.size W w') := fun W _ hr hg => by
    rw [hJ1]; exact clause_calls [105, 110] X1 d1 (risingF l1) W hg hr hd1 (by decide) (by rw [rising_len]; have := HS.out.n1; omega) (Nat.le_trans HS.out.j1 (by omega))
  have HCl2 : Hid (∀ W, Below w.heap.size w W → Kd.C Kd.string W X2 (risingF l2).length (risingF l2) → GOK W → Calls Tryz.prog 80 #[.string (mk [111, 117, 116]), .slice X2 (risingF l2).length d2] W fun e w' => e = .returned (.string (mk J2)) ∧ Below W.heap.size W w') := fun W _ hr hg => by
    rw [hJ2]; exact clause_calls [111, 117, 116] X2 d2 (risingF l2) W hg hr hd2 (by decide) (by rw [rising_len]; have := HS.out.n2; omega) (Nat.le_trans HS.out.j2 (by omega))
  have HCl3 : Hid (∀ W, Below w.heap.size w W → Kd.C Kd.string W X3 (risingF l3).length (risingF l3) → GOK W → Calls Tryz.prog 80 #[.string (mk [97, 102, 116, 101, 114]), .slice X3 (risingF l3).length d3] W fun e w' => e = .returned (.string (mk J3)) ∧ Below W.heap.size W w') := fun W _ hr hg => by
    rw [hJ3]; exact clause_calls [97, 102, 116, 101, 114] X3 d3 (risingF l3) W hg hr hd3 (by decide) (by rw [rising_len]; have := HS.out.n3; omega) (Nat.le_trans HS.out.j3 (by omega))
  have HH : Hid ((⟨#[114, 117, 108, 101, 32]⟩ : ByteArray) ++ f0 ++ (⟨#[32, 123, 10]⟩ : ByteArray) ++ mk J1 ++ mk J2 ++ mk J3 = mk (headT f0 l1 l2 l3)) := by
    show _ = _
    unfold headT
    rw [← hJ1, ← hJ2, ← hJ3, ← app_mk, ← app_mk, ← app_mk, ← app_mk, ← app_mk]
    rfl
  have HHl : Hid ((headT f0 l1 l2 l3).length ≤ 5000000) := by
    show _ ≤ _
    unfold headT
    rw [← hJ1, ← hJ2, ← hJ3]
    have := Lib.size_eq f0
    simp only [List.length_append, List.length_cons, List.length_nil]
    omega
  have dr : Below w5.heap.size w5 w5.drew := ⟨rfl, rfl, rfl, Nat.le_refl _, fun _ _ => rfl⟩
  have HBwd := Lib.hid (below_drew HB5.out)
  have HGwd := Lib.hid (HG0.out.below HBwd.out)
  have HKwd := Lib.hid (blk_drew HK5.out)
  have HRwd := Lib.hid (Kd.R_below HD5.out dr)
  have HC1wd := Lib.hid (Kd.C_below hc1 dr)
  have HC2wd := Lib.hid (Kd.C_below hc2 dr)
  have HC3wd := Lib.hid (Kd.C_below hc3 dr)
  have k0wd : w5.drew.cell? ⟨w.heap.size, 0, none⟩ = some (.string f0) := (blk_cell HKwd.out 0).trans rfl
  have k1wd : w5.drew.cell? ⟨w.heap.size, 1, none⟩ = some (.slice X1 (risingF l1).length d1) := (blk_cell HKwd.out 1).trans rfl
  have k2wd : w5.drew.cell? ⟨w.heap.size, 2, none⟩ = some (.slice X2 (risingF l2).length d2) := (blk_cell HKwd.out 2).trans rfl
  have k3wd : w5.drew.cell? ⟨w.heap.size, 3, none⟩ = some (.slice X3 (risingF l3).length d3) := (blk_cell HKwd.out 3).trans rfl
  clear hJ1 hJ2 hJ3 hj1 hj2 hj3 hn0 hm1 hm2 hm3 hd1 hc1 hd2 hc2 hd3 hc3 dr HA5 HB5' HC5 HD5 HB5 HK5
--REG2
  refine start_ (n := 17) (S := fun w' => w'.cell? ⟨w.heap.size, 0, none⟩ = some (.string f0) ∧ w'.cell? ⟨w.heap.size, 1, none⟩ = some (.slice X1 (risingF l1).length d1) ∧ w'.cell? ⟨w.heap.size, 2, none⟩ = some (.slice X2 (risingF l2).length d2) ∧ w'.cell? ⟨w.heap.size, 3, none⟩ = some (.slice X3 (risingF l3).length d3)) (ds := []) #[false, false, false, false, false, false, false, false, false, false, false, false, false, false, false, false, false] (by kernel_rfl) rfl rfl ⟨k0wd, k1wd, k2wd, k3wd⟩ (fun hHeld => ?_)
  refine pure_ (i := 0) (N := some 8) (v := ?_) (a' := ?_) #[true, false, false, false, false, false, false, false, false, false, false, false, false, false, false, false, false] rfl rfl (by kernel_rfl) (fun _ _ _ h => h) (Or.inl ⟨by rfl, ?_⟩) ?_ ?_
  rotate_left
  · intro w'
    go_simp
    with_reducible rfl
  rotate_left
  · simp only [Act.put, List.setIfInBounds_toArray, List.set_cons_zero, List.set_cons_succ, i64_w, i32_w]
    rfl
  refine pure_ (i := 4) (N := some 12) (v := ?_) (a' := ?_) #[true, false, false, false, true, false, false, false, false, false, false, false, false, false, false, false, false] rfl rfl (by kernel_rfl) (fun _ _ _ h => h) (Or.inl ⟨by rfl, ?_⟩) ?_ ?_
  rotate_left
  · intro w'
    go_simp
    with_reducible rfl
  rotate_left
  · simp only [Act.put, List.setIfInBounds_toArray, List.set_cons_zero, List.set_cons_succ, i64_w, i32_w]
    rfl
  refine pure_ (i := 8) (N := some 16) (v := ?_) (a' := ?_) #[true, false, false, false, true, false, false, false, true, false, false, false, false, false, false, false, false] rfl rfl (by kernel_rfl) (fun _ _ _ h => h) (Or.inl ⟨by rfl, ?_⟩) ?_ ?_
  rotate_left
  · intro w'
    go_simp
    with_reducible rfl
  rotate_left
  · simp only [Act.put, List.setIfInBounds_toArray, List.set_cons_zero, List.set_cons_succ, i64_w, i32_w]
    rfl
  refine pure_ (i := 12) (N := some 20) (v := ?_) (a' := ?_) #[true, false, false, false, true, false, false, false, true, false, false, false, true, false, false, false, false] rfl rfl (by kernel_rfl) (fun _ _ _ h => h) (Or.inl ⟨by rfl, ?_⟩) ?_ ?_
  rotate_left
  · intro w'
    go_simp
    with_reducible rfl
  rotate_left
  · simp only [Act.put, List.setIfInBounds_toArray, List.set_cons_zero, List.set_cons_succ, i64_w, i32_w]
    rfl
  refine take_ (i := 1) (N := some 9) (v := ?_) (a' := ?_) #[true, true, false, false, true, false, false, false, true, false, false, false, true, false, false, false, false] rfl rfl (by kernel_rfl) (fun _ _ _ h => h) (Or.inl ⟨by rfl, ?_⟩) hHeld ?_ ?_
  rotate_left
  · rintro w' ⟨s0, s1, s2, s3⟩
    go_simp
    with_reducible rfl
  rotate_left
  · simp only [Act.put, List.setIfInBounds_toArray, List.set_cons_zero, List.set_cons_succ, i64_w, i32_w]
    rfl
  refine pure_ (i := 2) (N := some 10) (v := ?_) (a' := ?_) #[true, true, true, false, true, false, false, false, true, false, false, false, true, false, false, false, false] rfl rfl (by kernel_rfl) (fun _ _ _ h => h) (Or.inl ⟨by rfl, ?_⟩) ?_ ?_
  rotate_left
  · intro w'
    go_simp
    with_reducible rfl
  rotate_left
  · simp only [Act.put, List.setIfInBounds_toArray, List.set_cons_zero, List.set_cons_succ, i64_w, i32_w]
    rfl
  refine pure_ (i := 3) (N := some 11) (v := ?_) (a' := ?_) #[true, true, true, true, true, false, false, false, true, false, false, false, true, false, false, false, false] rfl rfl (by kernel_rfl) (fun _ _ _ h => h) (Or.inl ⟨by rfl, ?_⟩) ?_ ?_
  rotate_left
  · intro w'
    go_simp
    with_reducible rfl
  rotate_left
  · simp only [Act.put, List.setIfInBounds_toArray, List.set_cons_zero, List.set_cons_succ, i64_w, i32_w]
    rfl
  refine take_ (i := 5) (N := some 13) (v := ?_) (a' := ?_) #[true, true, true, true, true, true, false, false, true, false, false, false, true, false, false, false, false] rfl rfl (by kernel_rfl) (fun _ _ _ h => h) (Or.inl ⟨by rfl, ?_⟩) hHeld ?_ ?_
  rotate_left
  · rintro w' ⟨s0, s1, s2, s3⟩
    go_simp
    with_reducible rfl
  rotate_left
  · simp only [Act.put, List.setIfInBounds_toArray, List.set_cons_zero, List.set_cons_succ, i64_w, i32_w]
    rfl
  refine take_ (i := 9) (N := some 17) (v := ?_) (a' := ?_) #[true, true, true, true, true, true, false, false, true, true, false, false, true, false, false, false, false] rfl rfl (by kernel_rfl) (fun _ _ _ h => h) (Or.inl ⟨by rfl, ?_⟩) hHeld ?_ ?_
  rotate_left
  · rintro w' ⟨s0, s1, s2, s3⟩
    go_simp
    with_reducible rfl
  rotate_left
  · simp only [Act.put, List.setIfInBounds_toArray, List.set_cons_zero, List.set_cons_succ, i64_w, i32_w]
    rfl
  refine take_ (i := 13) (N := some 21) (v := ?_) (a' := ?_) #[true, true, true, true, true, true, false, false, true, true, false, false, true, true, false, false, false] rfl rfl (by kernel_rfl) (fun _ _ _ h => h) (Or.inl ⟨by rfl, ?_⟩) hHeld ?_ ?_
  rotate_left
  · rintro w' ⟨s0, s1, s2, s3⟩
    go_simp
    with_reducible rfl
  rotate_left
  · simp only [Act.put, List.setIfInBounds_toArray, List.set_cons_zero, List.set_cons_succ, i64_w, i32_w]
    rfl
  refine one_ (i := 6) (N := some 14) #[true, true, true, true, true, true, true, false, true, true, false, false, true, true, false, false, false] rfl rfl (by kernel_rfl) (by decide) (fun K hK => ?_)
  refine goes_ Tryz.func80 (by kernel_rfl) rfl #[.string (mk [105, 110]), .slice X1 (risingF l1).length d1] (by rfl) rfl rfl (by simp only [List.map_toArray, List.map_cons, List.map_nil]; rfl) ?_
  with_reducible refine (HCl1.out _ HBwd.out HC1wd.out HGwd.out).mono ?_
  rintro e wa ⟨rfl, hb1⟩
  refine ⟨_, rfl, ?_⟩
  have HBwa := Lib.hid (below_then HBwd.out HBwd.out.size hb1)
  have HGwa := Lib.hid (HGwd.out.below hb1)
  have HKwa := Lib.hid (blk_below HKwd.out hb1)
  have HRwa := Lib.hid (Kd.R_below HRwd.out hb1)
  have HC2wa := Lib.hid (Kd.C_below HC2wd.out hb1)
  have HC3wa := Lib.hid (Kd.C_below HC3wd.out hb1)
  have k0wa : wa.cell? ⟨w.heap.size, 0, none⟩ = some (.string f0) := (blk_cell HKwa.out 0).trans rfl
  have k1wa : wa.cell? ⟨w.heap.size, 1, none⟩ = some (.slice X1 (risingF l1).length d1) := (blk_cell HKwa.out 1).trans rfl
  have k2wa : wa.cell? ⟨w.heap.size, 2, none⟩ = some (.slice X2 (risingF l2).length d2) := (blk_cell HKwa.out 2).trans rfl
  have k3wa : wa.cell? ⟨w.heap.size, 3, none⟩ = some (.slice X3 (risingF l3).length d3) := (blk_cell HKwa.out 3).trans rfl
  clear hb1
  refine hK.out _ _ ⟨k0wa, k1wa, k2wa, k3wa⟩ (fun hHeld => ?_)
  clear hK K
  refine norm_ (a' := ?_) ?_ ?_
  rotate_left
  · show Act.put _ (some 14) _ = _
    simp only [Act.put, List.setIfInBounds_toArray, List.set_cons_zero, List.set_cons_succ, i64_w, i32_w]
    rfl
  refine pure_ (i := 7) (N := some 15) (v := ?_) (a' := ?_) #[true, true, true, true, true, true, true, true, true, true, false, false, true, true, false, false, false] rfl rfl (by kernel_rfl) (fun _ _ _ h => h) (Or.inl ⟨by rfl, ?_⟩) ?_ ?_
  rotate_left
  · intro w'
    go_simp
    with_reducible rfl
  rotate_left
  · simp only [Act.put, List.setIfInBounds_toArray, List.set_cons_zero, List.set_cons_succ, i64_w, i32_w]
    rfl
  refine one_ (i := 10) (N := some 18) #[true, true, true, true, true, true, true, true, true, true, true, false, true, true, false, false, false] rfl rfl (by kernel_rfl) (by decide) (fun K hK => ?_)
  refine goes_ Tryz.func80 (by kernel_rfl) rfl #[.string (mk [111, 117, 116]), .slice X2 (risingF l2).length d2] (by rfl) rfl rfl (by simp only [List.map_toArray, List.map_cons, List.map_nil]; rfl) ?_
  with_reducible refine (HCl2.out _ HBwa.out HC2wa.out HGwa.out).mono ?_
  rintro e wb ⟨rfl, hb2⟩
  refine ⟨_, rfl, ?_⟩
  have HBwb := Lib.hid (below_then HBwa.out HBwa.out.size hb2)
  have HGwb := Lib.hid (HGwa.out.below hb2)
  have HKwb := Lib.hid (blk_below HKwa.out hb2)
  have HRwb := Lib.hid (Kd.R_below HRwa.out hb2)
  have HC3wb := Lib.hid (Kd.C_below HC3wa.out hb2)
  have k0wb : wb.cell? ⟨w.heap.size, 0, none⟩ = some (.string f0) := (blk_cell HKwb.out 0).trans rfl
  have k1wb : wb.cell? ⟨w.heap.size, 1, none⟩ = some (.slice X1 (risingF l1).length d1) := (blk_cell HKwb.out 1).trans rfl
  have k2wb : wb.cell? ⟨w.heap.size, 2, none⟩ = some (.slice X2 (risingF l2).length d2) := (blk_cell HKwb.out 2).trans rfl
  have k3wb : wb.cell? ⟨w.heap.size, 3, none⟩ = some (.slice X3 (risingF l3).length d3) := (blk_cell HKwb.out 3).trans rfl
  clear hb2
  refine hK.out _ _ ⟨k0wb, k1wb, k2wb, k3wb⟩ (fun hHeld => ?_)
  clear hK K
  refine norm_ (a' := ?_) ?_ ?_
  rotate_left
  · show Act.put _ (some 18) _ = _
    simp only [Act.put, List.setIfInBounds_toArray, List.set_cons_zero, List.set_cons_succ, i64_w, i32_w]
    rfl
  refine pure_ (i := 11) (N := some 19) (v := ?_) (a' := ?_) #[true, true, true, true, true, true, true, true, true, true, true, true, true, true, false, false, false] rfl rfl (by kernel_rfl) (fun _ _ _ h => h) (Or.inl ⟨by rfl, ?_⟩) ?_ ?_
  rotate_left
  · intro w'
    go_simp
    with_reducible rfl
  rotate_left
  · simp only [Act.put, List.setIfInBounds_toArray, List.set_cons_zero, List.set_cons_succ, i64_w, i32_w]
    rfl
  refine one_ (i := 14) (N := some 22) #[true, true, true, true, true, true, true, true, true, true, true, true, true, true, true, false, false] rfl rfl (by kernel_rfl) (by decide) (fun K hK => ?_)
  refine goes_ Tryz.func80 (by kernel_rfl) rfl #[.string (mk [97, 102, 116, 101, 114]), .slice X3 (risingF l3).length d3] (by rfl) rfl rfl (by simp only [List.map_toArray, List.map_cons, List.map_nil]; rfl) ?_
  with_reducible refine (HCl3.out _ HBwb.out HC3wb.out HGwb.out).mono ?_
  rintro e wc ⟨rfl, hb3⟩
  refine ⟨_, rfl, ?_⟩
  have HBwc := Lib.hid (below_then HBwb.out HBwb.out.size hb3)
  have HGwc := Lib.hid (HGwb.out.below hb3)
  have HKwc := Lib.hid (blk_below HKwb.out hb3)
  have HRwc := Lib.hid (Kd.R_below HRwb.out hb3)
  have k0wc : wc.cell? ⟨w.heap.size, 0, none⟩ = some (.string f0) := (blk_cell HKwc.out 0).trans rfl
  have k1wc : wc.cell? ⟨w.heap.size, 1, none⟩ = some (.slice X1 (risingF l1).length d1) := (blk_cell HKwc.out 1).trans rfl
  have k2wc : wc.cell? ⟨w.heap.size, 2, none⟩ = some (.slice X2 (risingF l2).length d2) := (blk_cell HKwc.out 2).trans rfl
  have k3wc : wc.cell? ⟨w.heap.size, 3, none⟩ = some (.slice X3 (risingF l3).length d3) := (blk_cell HKwc.out 3).trans rfl
  clear hb3
  refine hK.out _ _ ⟨k0wc, k1wc, k2wc, k3wc⟩ (fun hHeld => ?_)
  clear hK K
  refine norm_ (a' := ?_) ?_ ?_
  rotate_left
  · show Act.put _ (some 22) _ = _
    simp only [Act.put, List.setIfInBounds_toArray, List.set_cons_zero, List.set_cons_succ, i64_w, i32_w]
    rfl
  refine pure_ (i := 15) (N := some 23) (v := ?_) (a' := ?_) #[true, true, true, true, true, true, true, true, true, true, true, true, true, true, true, true, false] rfl rfl (by kernel_rfl) (fun _ _ _ h => h) (Or.inl ⟨by rfl, ?_⟩) ?_ ?_
  rotate_left
  · intro w'
    go_simp
    with_reducible rfl
  rotate_left
  · simp only [Act.put, List.setIfInBounds_toArray, List.set_cons_zero, List.set_cons_succ, i64_w, i32_w]
    rfl
  refine pure_ (i := 16) (N := some 3) (v := ?_) (a' := ?_) #[true, true, true, true, true, true, true, true, true, true, true, true, true, true, true, true, true] rfl rfl (by kernel_rfl) (fun _ _ _ h => h) (Or.inl ⟨by rfl, ?_⟩) ?_ ?_
  rotate_left
  · intro w'
    go_simp
    with_reducible rfl
  rotate_left
  · simp only [Act.put, List.setIfInBounds_toArray, List.set_cons_zero, List.set_cons_succ, i64_w, i32_w]
    rfl
  refine done_ (by kernel_rfl) ?_
--REG2E
  clear n1 n2 n3 n4 n5 HCl1 HCl2 HCl3 HC1wd HC2wd HC3wd HC2wa HC3wa HC3wb HBwd HGwd HKwd HRwd HBwa HGwa HKwa HRwa HBwb HGwb HKwb HRwb k0wd k1wd k2wd k3wd k0wa k1wa k2wa k3wa k0wb k1wb k2wb k3wb k0wc k1wc k2wc k3wc
  have k4wc : wc.cell? ⟨w.heap.size, 4, none⟩ = some (.slice X4 1 d4) := (blk_cell HKwc.out 4).trans rfl
  obtain ⟨_, _, e4, hd4, hc4⟩ := Kd.R_reads HRwc.out
  injection e4 with e41 g4 e42
  clear g4
  subst e41 e42
  obtain ⟨ad, cs, rfl, hcl, hK, hcell⟩ := Kd.C_get hc4 x 0 (by simp) (by simp)
  obtain ⟨A5, c5, A6, c6, hcs, hc5, h5, hc6, h6⟩ := k62_open hK
  subst hcs
  have m0 : wc.cell? ad = some (.string x.f0) := by have := hcell 0 _ rfl; rwa [at_zero] at this
  have m1 : wc.cell? ⟨ad.block, ad.off + 1, none⟩ = some (.int .i64 x.f1) := by have := hcell 1 _ rfl; rwa [at_next ad 1 (by decide)] at this
  have m2 : wc.cell? ⟨ad.block, ad.off + 2, none⟩ = some (.slice A5 x.f2.length c5) := by have := hcell 2 _ rfl; rwa [at_next ad 2 (by decide)] at this
  have m3 : wc.cell? ⟨ad.block, ad.off + 3, none⟩ = some (.slice A6 x.f3.length c6) := by have := hcell 3 _ rfl; rwa [at_next ad 3 (by decide)] at this
  have m4 : wc.cell? ⟨ad.block, ad.off + 4, none⟩ = some (.int .i64 x.f4) := by have := hcell 4 _ rfl; rwa [at_next ad 4 (by decide)] at this
  have hst : (stepT x).length ≤ 1000001 := by
    have := HS.out.sj
    unfold stepT
    simp only [List.length_append, List.length_cons, List.length_nil]
    omega
  obtain ⟨HD, hHD⟩ : ∃ HD, HD = headT f0 l1 l2 l3 := ⟨_, rfl⟩
  obtain ⟨T, hT⟩ : ∃ T, T = stepT x := ⟨_, rfl⟩
  have hP : Hid (∀ W, Below wc.heap.size wc W → Calls Tryz.prog 39 #[.agg #[.string x.f0, .int .i64 x.f1, .slice A5 x.f2.length c5, .slice A6 x.f3.length c6, .int .i64 x.f4]] W fun e w' => e = .returned (.string (mk T)) ∧ Below W.heap.size W w') := fun W hW => by
    rw [hT]; exact pstep_calls x A5 c5 A6 c6 W (HGwc.out.below hW) (Kd.C_below h5 hW) (Kd.C_below h6 hW) HS.out.s1 HS.out.sp HS.out.s2 HS.out.s3 (Nat.le_trans HS.out.sj (by omega))
  have HR : Hid (ruleT f0 l1 l2 l3 x = HD ++ ([32, 32] ++ T ++ [10]) ++ [125, 10]) := by rw [hHD, hT]; rfl
  have hHDl := HHl.out
  rw [← hT] at hst
  have hHH := HH.out
  rw [← hHD] at hHDl hHH
  have q1 := mk_size T
  have q2 := mk_size HD
  have q3 := mk_size (HD ++ ([32, 32] ++ T ++ [10]))
  have q4 : (HD ++ ([32, 32] ++ T ++ [10])).length = HD.length + (T.length + 3) := by simp only [List.length_append, List.length_cons, List.length_nil]; omega
  have n1 : ¬ 9223372036854775807 < 2 + (mk T).size := by omega
  have n2 : ¬ 9223372036854775807 < 2 + (mk T).size + 1 := by omega
  have n3 : ¬ 9223372036854775807 < (mk HD).size + (2 + (mk T).size + 1) := by omega
  have n4 : ¬ 9223372036854775807 < (mk (HD ++ ([32, 32] ++ T ++ [10]))).size + 2 := by omega
  rw [hHH]
  clear hHH HH HHl hHDl hHD hT hst q1 q2 q3 q4 hc4 hd4 hcl hK hcell hc5 h5 hc6 h6 HRwc HGwc HS HG0
  go_wp2_with fail
  go_loopg [3, 27] 1 (fun gg s3 s27 wr => ∃ kk : Nat, kk ≤ 1 ∧ 1 - kk ≤ gg ∧ s27 = .int .i64 kk ∧ Aside0 (kk = 0 → s3 = .string (mk HD) ∧ wr = wc) ∧ Aside0 (kk = 1 → s3 = .string (mk (HD ++ ([32, 32] ++ T ++ [10]))) ∧ Below w.heap.size w wr))
  case atStart => exact ⟨0, by omega, by omega, rfl, ⟨fun _ => ⟨rfl, rfl⟩⟩, ⟨fun h => by omega⟩⟩
  case round =>
    obtain ⟨kk, hkk, hgk, rfl, HP0, HP1⟩ := hrel
    by_cases h0 : kk = 0
    · subst h0
      obtain ⟨rfl, rfl⟩ := HP0.out rfl
      clear HP0 HP1
      have hb1 := (Below.refl wr.heap.size wr).alloc (Nat.le_refl _) (.cells #[.string x.f0, .int .i64 x.f1, .slice A5 x.f2.length c5, .slice A6 x.f3.length c6, .int .i64 x.f4] 62)
      have hcall := hP.out _ hb1
      have HB1 := Lib.hid (below_then HBwc.out HBwc.out.size hb1)
      have HX : Hid (mk HD ++ ((⟨#[32, 32]⟩ : ByteArray) ++ mk T ++ (⟨#[10]⟩ : ByteArray)) = mk (HD ++ ([32, 32] ++ T ++ [10]))) := by
        show _ = _
        rw [← app_mk, ← app_mk, ← app_mk]
        rfl
      clear hb1
      go_wp2_with (go_at_call 39; refine hcall.mono ?_; rintro e w2 ⟨rfl, hb2⟩; have HB2 := Lib.hid (below_then HB1.out HB1.out.size hb2); clear hb2)
      go_roundg 0
      case measure => omega
      case rel => exact ⟨1, by omega, by omega, by first | rfl | go_num, ⟨fun h => by omega⟩, ⟨fun _ => ⟨by rw [← HX.out], HB2.out⟩⟩⟩
    · obtain rfl : kk = 1 := by omega
      obtain ⟨rfl, hB⟩ := HP1.out rfl
      have HB := Lib.hid hB
      clear HP0 HP1 hB
      go_wp2_with fail
      go_ret
      refine ⟨?_, HB.out⟩
      rw [HR.out, ← app_mk]
      rfl

end Go.Proofs.YthagibkmfgodgaaGreatDoor.X

namespace Go.Proofs.YthagibkmfgodgaaGreatDoor.X
open Go.RowKit Go.Maps Go.Proofs.YthagibkmfgodgaaGreatDoorW.PrintWords Go.Proofs.YthagibkmfgodgaaGreatDoorW.PrintMore Go.Proofs.YthagibkmfgodgaaGreatDoorW.PrintLast

set_option maxHeartbeats 4000000 in
set_option maxRecDepth 100000 in
theorem pfileOne_calls (f0 : ByteArray) (l1 l2 l3 : List ByteArray) (x : SStep) (A : Option Addr) (c : Nat) (w : World) (hG : GOK w) (h : Kd.C k49 w A 1 [⟨f0, l1, l2, l3, [x]⟩])
    (hl1 : l1.length * 16 ≤ 140737488355328) (hl2 : l2.length * 16 ≤ 140737488355328) (hl3 : l3.length * 16 ≤ 140737488355328) (hs : SmallR f0 (risingF l1) (risingF l2) (risingF l3) x) :
    Calls Tryz.prog 27 #[.slice A 1 c] w fun e w' => e = .returned (.string (mk (ruleT f0 (risingF l1) (risingF l2) (risingF l3) x))) ∧ Below w.heap.size w w' := by
  have hsort := sortedOne_calls f0 l1 l2 l3 x A c w h hl1 hl2 hl3 (by have := hs.s2; omega) (by have := hs.s3; omega)
  obtain ⟨T, hT⟩ : ∃ T, T = ruleT f0 (risingF l1) (risingF l2) (risingF l3) x := ⟨_, rfl⟩
  have hTl : T.length ≤ 7000000 := by
    rw [hT]
    have a0 := hs.n0
    have a1 := clause_len (word := [105, 110]) (by decide) hs.j1
    have a2 := clause_len (word := [111, 117, 116]) (by decide) hs.j2
    have a3 := clause_len (word := [97, 102, 116, 101, 114]) (by decide) hs.j3
    have a4 := hs.sj
    have a5 := Lib.size_eq f0
    unfold ruleT headT stepT
    simp only [List.length_append, List.length_cons, List.length_nil]
    omega
  have HS := Lib.hid hs
  have HG := Lib.hid hG
  have HT := Lib.hid hT
  rw [← hT]
  have n1 : ¬ 9223372036854775807 < (mk T).size := by rw [mk_size]; omega
  clear hs hG h hl1 hl2 hl3 hT hTl
  go_enter Tryz.func27, Tryz.ntmps27
  go_wp2_with (go_at_call 37; refine hsort.mono ?_; rintro e w1 ⟨X, d, rfl, hR, hb1⟩; obtain ⟨_, _, e4, hd4, hc4⟩ := Kd.R_reads hR; injection e4 with e41 g4 e42; clear g4; subst e41 e42; obtain ⟨ad, cs, rfl, hcl, hK, hcell⟩ := Kd.C_get hc4 (⟨f0, risingF l1, risingF l2, risingF l3, [x]⟩ : SRule) 0 (by simp) (by simp); obtain ⟨A1, c1, A2, c2, A3, c3, A4, c4, hcs, u1, h1, u2, h2, u3, h3, u4, h4⟩ := k49_open hK; subst hcs)
  have m0 : w1.cell? ad = some (.string f0) := by have := hcell 0 _ rfl; rwa [at_zero] at this
  have m1 : w1.cell? ⟨ad.block, ad.off + 1, none⟩ = some (.slice A1 (risingF l1).length c1) := by have := hcell 1 _ rfl; rwa [at_next ad 1 (by decide)] at this
  have m2 : w1.cell? ⟨ad.block, ad.off + 2, none⟩ = some (.slice A2 (risingF l2).length c2) := by have := hcell 2 _ rfl; rwa [at_next ad 2 (by decide)] at this
  have m3 : w1.cell? ⟨ad.block, ad.off + 3, none⟩ = some (.slice A3 (risingF l3).length c3) := by have := hcell 3 _ rfl; rwa [at_next ad 3 (by decide)] at this
  have m4 : w1.cell? ⟨ad.block, ad.off + 4, none⟩ = some (.slice A4 1 c4) := by have := hcell 4 _ rfl; rwa [at_next ad 4 (by decide)] at this
  have hP : Hid (∀ W, Below w1.heap.size w1 W → Calls Tryz.prog 50 #[.agg #[.string f0, .slice A1 (risingF l1).length c1, .slice A2 (risingF l2).length c2, .slice A3 (risingF l3).length c3, .slice A4 1 c4]] W fun e w' => e = .returned (.string (mk T)) ∧ Below W.heap.size W w') := fun W hW => by
    rw [HT.out]; exact prule_calls f0 _ _ _ x A1 c1 A2 c2 A3 c3 A4 c4 W ((HG.out.below hb1).below hW) (Kd.C_below h1 hW) (Kd.C_below h2 hW) (Kd.C_below h3 hW) (Kd.C_below h4 hW) HS.out
  have HB1 := Lib.hid hb1
  clear u1 u2 u3 u4
  clear hsort hR hd4 hc4 hcl hK hcell h1 h2 h3 h4 hb1
  go_loopg [3, 9] 1 (fun gg s3 s9 wr => ∃ kk : Nat, kk ≤ 1 ∧ 1 - kk ≤ gg ∧ s9 = .int .i64 kk ∧ Aside0 (kk = 0 → s3 = .string ⟨#[]⟩ ∧ wr = w1) ∧ Aside0 (kk = 1 → s3 = .string (mk T) ∧ Below w.heap.size w wr))
  case atStart => exact ⟨0, by omega, by omega, rfl, ⟨fun _ => ⟨rfl, rfl⟩⟩, ⟨fun h => by omega⟩⟩
  case round =>
    obtain ⟨kk, hkk, hgk, rfl, HP0, HP1⟩ := hrel
    by_cases h0 : kk = 0
    · subst h0
      obtain ⟨rfl, rfl⟩ := HP0.out rfl
      clear HP0 HP1
      have hb1 := (Below.refl wr.heap.size wr).alloc (Nat.le_refl _) (.cells #[.string f0, .slice A1 (risingF l1).length c1, .slice A2 (risingF l2).length c2, .slice A3 (risingF l3).length c3, .slice A4 1 c4] 49)
      have hcall := hP.out _ hb1
      have HBx := Lib.hid (below_then HB1.out HB1.out.size hb1)
      have HX : Hid ((⟨#[]⟩ : ByteArray) ++ mk T = mk T) := by
        show _ = _
        rw [show (⟨#[]⟩ : ByteArray) = mk [] from rfl, app_mk]
        rfl
      clear hb1
      go_wp2_with (go_at_call 50; refine hcall.mono ?_; rintro e w2 ⟨rfl, hb2⟩; have HB2 := Lib.hid (below_then HBx.out HBx.out.size hb2); clear hb2)
      go_roundg 0
      case measure => omega
      case rel => exact ⟨1, by omega, by omega, by first | rfl | go_num, ⟨fun h => by omega⟩, ⟨fun _ => ⟨by first | rfl | rw [← HX.out] | simp, HB2.out⟩⟩⟩
    · obtain rfl : kk = 1 := by omega
      obtain ⟨rfl, hB⟩ := HP1.out rfl
      have HB := Lib.hid hB
      clear HP0 HP1 hB
      go_wp2_with fail
      go_ret
      exact ⟨rfl, HB.out⟩

end Go.Proofs.YthagibkmfgodgaaGreatDoor.X

namespace Go.Proofs.YthagibkmfgodgaaGreatDoor.X
open Go.RowKit Go.Maps Go.Proofs.YthagibkmfgodgaaGreatDoorW.PrintWords Go.Proofs.YthagibkmfgodgaaGreatDoorW.PrintMore Go.Proofs.YthagibkmfgodgaaGreatDoorW.PrintLast

set_option maxHeartbeats 2000000 in
theorem equalSame_calls (A : Option Addr) (c : Nat) (B : Option Addr) (d : Nat) (l : List ByteArray) (w : World) (h1 : Kd.C Kd.string w A l.length l) (h2 : Kd.C Kd.string w B l.length l) :
    Calls Tryz.prog 89 #[.slice A l.length c, .slice B l.length d] w fun e w' => e = .returned (.bool true) ∧ Below w.heap.size w w' := by
  have hm := h1.2.1
  have H1 := Lib.hid h1
  have H2 := Lib.hid h2
  clear h1 h2
  go_enter Tryz.func89, Tryz.ntmps89
  go_wp2_with fail
  go_loopg [5, 13] l.length (fun gg _ s13 wr => ∃ kk : Nat, kk ≤ l.length ∧ l.length - kk ≤ gg ∧ s13 = .int .i64 kk ∧ Aside0 (Below w.heap.size w wr))
  case atStart => exact ⟨0, by omega, by omega, rfl, ⟨Below.refl _ _⟩⟩
  case round =>
    obtain ⟨kk, hkk, hgk, rfl, HB⟩ := hrel
    by_cases hlt : kk < l.length
    · have hltz : (kk : Int) < (l.length : Int) := by omega
      rcases row_open (Kd.C_below H1.out HB.out) with h0 | ⟨b, o, rfl, _, hcell⟩
      · rw [h0] at hlt; simp at hlt
      rcases row_open (Kd.C_below H2.out HB.out) with h0 | ⟨b', o', rfl, _, hcell'⟩
      · rw [h0] at hlt; simp at hlt
      have hx : wr.cell? ⟨b, o + kk, none⟩ = some (.string (l.getD kk ByteArray.empty)) := hcell kk hlt
      have hx' : wr.cell? ⟨b', o' + kk, none⟩ = some (.string (l.getD kk ByteArray.empty)) := hcell' kk hlt
      generalize l.getD kk ByteArray.empty = y at hx hx'
      have HBd := Lib.hid (below_drew HB.out)
      clear hcell hcell'
      go_wp2_with fail
      go_region
      all_goals
        go_wp2
        go_roundg (l.length - (kk + 1))
        case measure => omega
        case rel => exact ⟨kk + 1, by omega, by omega, by go_num, ⟨HBd.out⟩⟩
    · have hltz : ¬ (kk : Int) < (l.length : Int) := by omega
      go_wp2
      go_ret
      exact ⟨rfl, HB.out⟩

set_option maxHeartbeats 4000000 in
set_option maxRecDepth 100000 in
theorem stepsSame_calls (x : SStep) (A2 : Option Addr) (c2 : Nat) (A3 : Option Addr) (c3 : Nat) (B2 : Option Addr) (d2 : Nat) (B3 : Option Addr) (d3 : Nat) (w : World)
    (h2 : Kd.C Kd.string w A2 x.f2.length x.f2) (h3 : Kd.C Kd.string w A3 x.f3.length x.f3) (g2 : Kd.C Kd.string w B2 x.f2.length x.f2) (g3 : Kd.C Kd.string w B3 x.f3.length x.f3) :
    Calls Tryz.prog 91 #[.agg #[.string x.f0, .int .i64 x.f1, .slice A2 x.f2.length c2, .slice A3 x.f3.length c3, .int .i64 x.f4], .agg #[.string x.f0, .int .i64 x.f1, .slice B2 x.f2.length d2, .slice B3 x.f3.length d3, .int .i64 x.f4]] w
      fun e w' => e = .returned (.bool true) ∧ Below w.heap.size w w' := by
  have hb1 := (Below.refl w.heap.size w).alloc (Nat.le_refl _) (.cells #[.string x.f0, .int .i64 x.f1, .slice A2 x.f2.length c2, .slice A3 x.f3.length c3, .int .i64 x.f4] 62)
  have hb2 := hb1.alloc hb1.size (.cells #[.string x.f0, .int .i64 x.f1, .slice B2 x.f2.length d2, .slice B3 x.f3.length d3, .int .i64 x.f4] 62)
  have hk := blk_alloc (blk_new w (.cells #[.string x.f0, .int .i64 x.f1, .slice A2 x.f2.length c2, .slice A3 x.f3.length c3, .int .i64 x.f4] 62)) (.cells #[.string x.f0, .int .i64 x.f1, .slice B2 x.f2.length d2, .slice B3 x.f3.length d3, .int .i64 x.f4] 62)
  have hz := blk_new (w.alloc (.cells #[.string x.f0, .int .i64 x.f1, .slice A2 x.f2.length c2, .slice A3 x.f3.length c3, .int .i64 x.f4] 62)) (.cells #[.string x.f0, .int .i64 x.f1, .slice B2 x.f2.length d2, .slice B3 x.f3.length d3, .int .i64 x.f4] 62)
  rw [World.size_alloc] at hz
  have HB2 := Lib.hid hb2
  have HK2 := Lib.hid hk
  have HZ2 := Lib.hid hz
  have hE2 : Hid (∀ W, Below w.heap.size w W → Calls Tryz.prog 89 #[.slice A2 x.f2.length c2, .slice B2 x.f2.length d2] W fun e w' => e = .returned (.bool true) ∧ Below W.heap.size W w') := fun W hW => equalSame_calls A2 c2 B2 d2 x.f2 W (Kd.C_below h2 hW) (Kd.C_below g2 hW)
  have hE3 : Hid (∀ W, Below w.heap.size w W → Calls Tryz.prog 89 #[.slice A3 x.f3.length c3, .slice B3 x.f3.length d3] W fun e w' => e = .returned (.bool true) ∧ Below W.heap.size W w') := fun W hW => equalSame_calls A3 c3 B3 d3 x.f3 W (Kd.C_below h3 hW) (Kd.C_below g3 hW)
  clear hb1 hb2 hk hz h2 h3 g2 g3
  go_enter Tryz.func91, Tryz.ntmps91
  go_wp2_with fail
  generalize (w.alloc (.cells #[.string x.f0, .int .i64 x.f1, .slice A2 x.f2.length c2, .slice A3 x.f3.length c3, .int .i64 x.f4] 62)).alloc (.cells #[.string x.f0, .int .i64 x.f1, .slice B2 x.f2.length d2, .slice B3 x.f3.length d3, .int .i64 x.f4] 62) = w2 at HB2 HK2 HZ2 ⊢
  refine (hE2.out _ HB2.out).mono ?_
  rintro e w3 ⟨rfl, hb3⟩
  have HB3 := Lib.hid (below_then HB2.out HB2.out.size hb3)
  have k3 : w3.cell? ⟨w.heap.size, 3, none⟩ = some (.slice A3 x.f3.length c3) := (blk_cell (blk_below HK2.out hb3) 3).trans rfl
  have j3 : w3.cell? ⟨w.heap.size + 1, 3, none⟩ = some (.slice B3 x.f3.length d3) := (blk_cell (blk_below HZ2.out hb3) 3).trans rfl
  clear hb3
  go_wp2_with fail
  refine (hE3.out _ HB3.out).mono ?_
  rintro e w4 ⟨rfl, hb4⟩
  have HB4 := Lib.hid (below_then HB3.out HB3.out.size hb4)
  clear hb4
  go_wp2_with fail
  go_ret
  exact ⟨rfl, HB4.out⟩

theorem alloc_keep {w : World} {a : Addr} {v : Value} (h : w.cell? a = some v) (ob : Obj) : (w.alloc ob).cell? a = some v := (World.cell?_alloc_some w a ob (by rw [h]; rfl)).trans h
abbrev IsTrue (w : World) (e : Ending) (w' : World) : Prop := e = .returned (.bool true) ∧ Below w.heap.size w w'
theorem step_at {w : World} {x : SStep} {A : Option Addr} (h : Kd.C k62 w A 1 [x]) :
    ∃ ad A2 c2 A3 c3, A = some ad ∧ Kd.C Kd.string w A2 x.f2.length x.f2 ∧ Kd.C Kd.string w A3 x.f3.length x.f3 ∧ w.cell? ad = some (.string x.f0) ∧ w.cell? ⟨ad.block, ad.off + 1, none⟩ = some (.int .i64 x.f1) ∧
      w.cell? ⟨ad.block, ad.off + 2, none⟩ = some (.slice A2 x.f2.length c2) ∧ w.cell? ⟨ad.block, ad.off + 3, none⟩ = some (.slice A3 x.f3.length c3) ∧ w.cell? ⟨ad.block, ad.off + 4, none⟩ = some (.int .i64 x.f4) := by
  obtain ⟨ad, cs, rfl, hcl, hK, hcell⟩ := Kd.C_get h x 0 (by simp) (by simp)
  obtain ⟨A5, c5, A6, c6, hcs, hc5, h5, hc6, h6⟩ := k62_open hK
  subst hcs
  refine ⟨ad, A5, c5, A6, c6, rfl, h5, h6, ?_, ?_, ?_, ?_, ?_⟩
  · have := hcell 0 _ rfl; rwa [at_zero] at this
  · have := hcell 1 _ rfl; rwa [at_next ad 1 (by decide)] at this
  · have := hcell 2 _ rfl; rwa [at_next ad 2 (by decide)] at this
  · have := hcell 3 _ rfl; rwa [at_next ad 3 (by decide)] at this
  · have := hcell 4 _ rfl; rwa [at_next ad 4 (by decide)] at this
theorem rule_at {w : World} {r : SRule} {A : Option Addr} (h : Kd.C k49 w A 1 [r]) :
    ∃ ad A1 c1 A2 c2 A3 c3 A4 c4, A = some ad ∧ Kd.C Kd.string w A1 r.f1.length r.f1 ∧ Kd.C Kd.string w A2 r.f2.length r.f2 ∧ Kd.C Kd.string w A3 r.f3.length r.f3 ∧ Kd.C k62 w A4 r.f4.length r.f4 ∧
      w.cell? ad = some (.string r.f0) ∧ w.cell? ⟨ad.block, ad.off + 1, none⟩ = some (.slice A1 r.f1.length c1) ∧
      w.cell? ⟨ad.block, ad.off + 2, none⟩ = some (.slice A2 r.f2.length c2) ∧ w.cell? ⟨ad.block, ad.off + 3, none⟩ = some (.slice A3 r.f3.length c3) ∧ w.cell? ⟨ad.block, ad.off + 4, none⟩ = some (.slice A4 r.f4.length c4) := by
  obtain ⟨ad, cs, rfl, hcl, hK, hcell⟩ := Kd.C_get h r 0 (by simp) (by simp)
  obtain ⟨A1, c1, A2, c2, A3, c3, A4, c4, hcs, _, h1, _, h2, _, h3, _, h4⟩ := k49_open hK
  subst hcs
  refine ⟨ad, A1, c1, A2, c2, A3, c3, A4, c4, rfl, h1, h2, h3, h4, ?_, ?_, ?_, ?_, ?_⟩
  · have := hcell 0 _ rfl; rwa [at_zero] at this
  · have := hcell 1 _ rfl; rwa [at_next ad 1 (by decide)] at this
  · have := hcell 2 _ rfl; rwa [at_next ad 2 (by decide)] at this
  · have := hcell 3 _ rfl; rwa [at_next ad 3 (by decide)] at this
  · have := hcell 4 _ rfl; rwa [at_next ad 4 (by decide)] at this

set_option maxHeartbeats 4000000 in
set_option maxRecDepth 100000 in
theorem eqStep_calls (x : SStep) (A : Option Addr) (c : Nat) (B : Option Addr) (d : Nat) (w : World) (h1 : Kd.C k62 w A 1 [x]) (h2 : Kd.C k62 w B 1 [x]) :
    Calls Tryz.prog 90 #[.slice A 1 c, .slice B 1 d, .func (.func 91) #[] #[]] w (IsTrue w) := by
  obtain ⟨ad, A2, c2, A3, c3, rfl, hA2, hA3, m0, m1, m2, m3, m4⟩ := step_at h1
  obtain ⟨bd, B2, d2, B3, d3, rfl, hB2, hB3, n0, n1, n2, n3, n4⟩ := step_at h2
  have hS : Hid (∀ W, Below w.heap.size w W → Calls Tryz.prog 91 #[.agg #[.string x.f0, .int .i64 x.f1, .slice A2 x.f2.length c2, .slice A3 x.f3.length c3, .int .i64 x.f4], .agg #[.string x.f0, .int .i64 x.f1, .slice B2 x.f2.length d2, .slice B3 x.f3.length d3, .int .i64 x.f4]] W
      fun e w' => e = .returned (.bool true) ∧ Below W.heap.size W w') := fun W hW => stepsSame_calls x A2 c2 A3 c3 B2 d2 B3 d3 W (Kd.C_below hA2 hW) (Kd.C_below hA3 hW) (Kd.C_below hB2 hW) (Kd.C_below hB3 hW)
  clear h1 h2 hA2 hA3 hB2 hB3
  go_enter Tryz.func90, Tryz.ntmps90
  go_wp2_with fail
  go_loopg [17] 1 (fun gg s17 wr => ∃ kk : Nat, kk ≤ 1 ∧ 1 - kk ≤ gg ∧ s17 = .int .i64 kk ∧ Aside0 (kk = 0 → wr = w) ∧ Aside0 (kk = 1 → Below w.heap.size w wr))
  case atStart => exact ⟨0, by omega, by omega, rfl, ⟨fun _ => rfl⟩, ⟨fun h => by omega⟩⟩
  case round =>
    obtain ⟨kk, hkk, hgk, rfl, HP0, HP1⟩ := hrel
    by_cases h0 : kk = 0
    · subst h0
      obtain rfl := HP0.out rfl
      clear HP0 HP1
      have p0 := alloc_keep n0
      have p1 := alloc_keep n1
      have p2 := alloc_keep n2
      have p3 := alloc_keep n3
      have p4 := alloc_keep n4
      have hb := ((Below.refl wr.heap.size wr).alloc (Nat.le_refl _) (.cells #[.string x.f0, .int .i64 x.f1, .slice A2 x.f2.length c2, .slice A3 x.f3.length c3, .int .i64 x.f4] 62)).alloc (by rw [World.size_alloc]; omega) (.cells #[.string x.f0, .int .i64 x.f1, .slice B2 x.f2.length d2, .slice B3 x.f3.length d3, .int .i64 x.f4] 62)
      have HB := Lib.hid hb
      have hcall := hS.out _ hb
      clear hb
      go_wp2_with (go_at_call 91; refine hcall.mono ?_; rintro e w2 ⟨rfl, hb2⟩; have HB2 := Lib.hid (below_then HB.out HB.out.size hb2); clear hb2)
      go_roundg 0
      case measure => omega
      case rel => exact ⟨1, by omega, by omega, by first | rfl | go_num, ⟨fun h => by omega⟩, ⟨fun _ => HB2.out⟩⟩
    · obtain rfl : kk = 1 := by omega
      have HB := Lib.hid (HP1.out rfl)
      clear HP0 HP1
      go_wp2_with fail
      go_ret
      exact ⟨rfl, HB.out⟩

set_option maxHeartbeats 8000000 in
set_option maxRecDepth 100000 in
theorem sameSame_calls (f0 : ByteArray) (l1 l2 l3 : List ByteArray) (x : SStep) (A1 : Option Addr) (c1 : Nat) (A2 : Option Addr) (c2 : Nat) (A3 : Option Addr) (c3 : Nat) (A4 : Option Addr) (c4 : Nat) (B1 : Option Addr) (d1 : Nat) (B2 : Option Addr) (d2 : Nat) (B3 : Option Addr) (d3 : Nat) (B4 : Option Addr) (d4 : Nat) (w : World)
    (h1 : Kd.C Kd.string w A1 l1.length l1) (h2 : Kd.C Kd.string w A2 l2.length l2) (h3 : Kd.C Kd.string w A3 l3.length l3) (h4 : Kd.C k62 w A4 1 [x])
    (g1 : Kd.C Kd.string w B1 l1.length l1) (g2 : Kd.C Kd.string w B2 l2.length l2) (g3 : Kd.C Kd.string w B3 l3.length l3) (g4 : Kd.C k62 w B4 1 [x]) :
    Calls Tryz.prog 61 #[.agg #[.string f0, .slice A1 l1.length c1, .slice A2 l2.length c2, .slice A3 l3.length c3, .slice A4 1 c4], .agg #[.string f0, .slice B1 l1.length d1, .slice B2 l2.length d2, .slice B3 l3.length d3, .slice B4 1 d4]] w (IsTrue w) := by
  have hb1 := (Below.refl w.heap.size w).alloc (Nat.le_refl _) (.cells #[.string f0, .slice A1 l1.length c1, .slice A2 l2.length c2, .slice A3 l3.length c3, .slice A4 1 c4] 49)
  have hb2 := hb1.alloc hb1.size (.cells #[.string f0, .slice B1 l1.length d1, .slice B2 l2.length d2, .slice B3 l3.length d3, .slice B4 1 d4] 49)
  have hk := blk_alloc (blk_new w (.cells #[.string f0, .slice A1 l1.length c1, .slice A2 l2.length c2, .slice A3 l3.length c3, .slice A4 1 c4] 49)) (.cells #[.string f0, .slice B1 l1.length d1, .slice B2 l2.length d2, .slice B3 l3.length d3, .slice B4 1 d4] 49)
  have hz := blk_new (w.alloc (.cells #[.string f0, .slice A1 l1.length c1, .slice A2 l2.length c2, .slice A3 l3.length c3, .slice A4 1 c4] 49)) (.cells #[.string f0, .slice B1 l1.length d1, .slice B2 l2.length d2, .slice B3 l3.length d3, .slice B4 1 d4] 49)
  rw [World.size_alloc] at hz
  have HB2 := Lib.hid hb2
  have HK2 := Lib.hid hk
  have HZ2 := Lib.hid hz
  have hE1 : Hid (∀ W, Below w.heap.size w W → Calls Tryz.prog 89 #[.slice A1 l1.length c1, .slice B1 l1.length d1] W fun e w' => e = .returned (.bool true) ∧ Below W.heap.size W w') := fun W hW => equalSame_calls A1 c1 B1 d1 l1 W (Kd.C_below h1 hW) (Kd.C_below g1 hW)
  have hE2 : Hid (∀ W, Below w.heap.size w W → Calls Tryz.prog 89 #[.slice A2 l2.length c2, .slice B2 l2.length d2] W fun e w' => e = .returned (.bool true) ∧ Below W.heap.size W w') := fun W hW => equalSame_calls A2 c2 B2 d2 l2 W (Kd.C_below h2 hW) (Kd.C_below g2 hW)
  have hE3 : Hid (∀ W, Below w.heap.size w W → Calls Tryz.prog 89 #[.slice A3 l3.length c3, .slice B3 l3.length d3] W fun e w' => e = .returned (.bool true) ∧ Below W.heap.size W w') := fun W hW => equalSame_calls A3 c3 B3 d3 l3 W (Kd.C_below h3 hW) (Kd.C_below g3 hW)
  have hE4 : Hid (∀ W, Below w.heap.size w W → Calls Tryz.prog 90 #[.slice A4 1 c4, .slice B4 1 d4, .func (.func 91) #[] #[]] W (IsTrue W)) := fun W hW => eqStep_calls x A4 c4 B4 d4 W (Kd.C_below h4 hW) (Kd.C_below g4 hW)
  clear hb1 hb2 hk hz h1 h2 h3 h4 g1 g2 g3 g4
  go_enter Tryz.func61, Tryz.ntmps61
  go_wp2_with fail
  generalize (w.alloc (.cells #[.string f0, .slice A1 l1.length c1, .slice A2 l2.length c2, .slice A3 l3.length c3, .slice A4 1 c4] 49)).alloc (.cells #[.string f0, .slice B1 l1.length d1, .slice B2 l2.length d2, .slice B3 l3.length d3, .slice B4 1 d4] 49) = w2 at HB2 HK2 HZ2 ⊢
  refine (hE1.out _ HB2.out).mono ?_
  rintro e w3 ⟨rfl, hb3⟩
  have HB3 := Lib.hid (below_then HB2.out HB2.out.size hb3)
  have HK3 := Lib.hid (blk_below HK2.out hb3)
  have HZ3 := Lib.hid (blk_below HZ2.out hb3)
  have k3 : w3.cell? ⟨w.heap.size, 2, none⟩ = some (.slice A2 l2.length c2) := (blk_cell HK3.out 2).trans rfl
  have j3 : w3.cell? ⟨w.heap.size + 1, 2, none⟩ = some (.slice B2 l2.length d2) := (blk_cell HZ3.out 2).trans rfl
  clear hb3
  go_wp2_with fail
  refine (hE2.out _ HB3.out).mono ?_
  rintro e w4 ⟨rfl, hb4⟩
  have HB4 := Lib.hid (below_then HB3.out HB3.out.size hb4)
  have HK4 := Lib.hid (blk_below HK3.out hb4)
  have HZ4 := Lib.hid (blk_below HZ3.out hb4)
  have k4 : w4.cell? ⟨w.heap.size, 3, none⟩ = some (.slice A3 l3.length c3) := (blk_cell HK4.out 3).trans rfl
  have j4 : w4.cell? ⟨w.heap.size + 1, 3, none⟩ = some (.slice B3 l3.length d3) := (blk_cell HZ4.out 3).trans rfl
  clear hb4
  go_wp2_with fail
  refine (hE3.out _ HB4.out).mono ?_
  rintro e w5 ⟨rfl, hb5⟩
  have HB5 := Lib.hid (below_then HB4.out HB4.out.size hb5)
  have HK5 := Lib.hid (blk_below HK4.out hb5)
  have HZ5 := Lib.hid (blk_below HZ4.out hb5)
  have k5 : w5.cell? ⟨w.heap.size, 4, none⟩ = some (.slice A4 1 c4) := (blk_cell HK5.out 4).trans rfl
  have j5 : w5.cell? ⟨w.heap.size + 1, 4, none⟩ = some (.slice B4 1 d4) := (blk_cell HZ5.out 4).trans rfl
  clear hb5
  go_wp2_with fail
  refine (hE4.out _ HB5.out).mono ?_
  rintro e w6 ⟨rfl, hb6⟩
  have HB6 := Lib.hid (below_then HB5.out HB5.out.size hb6)
  clear hb6
  go_wp2_with fail
  go_ret
  exact ⟨rfl, HB6.out⟩

set_option maxHeartbeats 8000000 in
set_option maxRecDepth 100000 in
theorem eqRule_calls (f0 : ByteArray) (l1 l2 l3 : List ByteArray) (x : SStep) (A : Option Addr) (c : Nat) (B : Option Addr) (d : Nat) (w : World) (h1 : Kd.C k49 w A 1 [⟨f0, l1, l2, l3, [x]⟩]) (h2 : Kd.C k49 w B 1 [⟨f0, l1, l2, l3, [x]⟩]) :
    Calls Tryz.prog 60 #[.slice A 1 c, .slice B 1 d, .func (.func 61) #[] #[]] w (IsTrue w) := by
  obtain ⟨ad, A1, c1, A2, c2, A3, c3, A4, c4, rfl, hA1, hA2, hA3, hA4, m0, m1, m2, m3, m4⟩ := rule_at h1
  obtain ⟨bd, B1, d1, B2, d2, B3, d3, B4, d4, rfl, hB1, hB2, hB3, hB4, n0, n1, n2, n3, n4⟩ := rule_at h2
  replace m0 : w.cell? ad = some (.string f0) := m0
  replace m1 : w.cell? ⟨ad.block, ad.off + 1, none⟩ = some (.slice A1 l1.length c1) := m1
  replace m2 : w.cell? ⟨ad.block, ad.off + 2, none⟩ = some (.slice A2 l2.length c2) := m2
  replace m3 : w.cell? ⟨ad.block, ad.off + 3, none⟩ = some (.slice A3 l3.length c3) := m3
  replace m4 : w.cell? ⟨ad.block, ad.off + 4, none⟩ = some (.slice A4 1 c4) := m4
  replace n0 : w.cell? bd = some (.string f0) := n0
  replace n1 : w.cell? ⟨bd.block, bd.off + 1, none⟩ = some (.slice B1 l1.length d1) := n1
  replace n2 : w.cell? ⟨bd.block, bd.off + 2, none⟩ = some (.slice B2 l2.length d2) := n2
  replace n3 : w.cell? ⟨bd.block, bd.off + 3, none⟩ = some (.slice B3 l3.length d3) := n3
  replace n4 : w.cell? ⟨bd.block, bd.off + 4, none⟩ = some (.slice B4 1 d4) := n4
  have hS : Hid (∀ W, Below w.heap.size w W → Calls Tryz.prog 61 #[.agg #[.string f0, .slice A1 l1.length c1, .slice A2 l2.length c2, .slice A3 l3.length c3, .slice A4 1 c4], .agg #[.string f0, .slice B1 l1.length d1, .slice B2 l2.length d2, .slice B3 l3.length d3, .slice B4 1 d4]] W (IsTrue W)) := fun W hW => sameSame_calls f0 l1 l2 l3 x A1 c1 A2 c2 A3 c3 A4 c4 B1 d1 B2 d2 B3 d3 B4 d4 W (Kd.C_below hA1 hW) (Kd.C_below hA2 hW) (Kd.C_below hA3 hW) (Kd.C_below hA4 hW) (Kd.C_below hB1 hW) (Kd.C_below hB2 hW) (Kd.C_below hB3 hW) (Kd.C_below hB4 hW)
  clear h1 h2 hA1 hA2 hA3 hA4 hB1 hB2 hB3 hB4
  go_enter Tryz.func60, Tryz.ntmps60
  go_wp2_with fail
  go_loopg [17] 1 (fun gg s17 wr => ∃ kk : Nat, kk ≤ 1 ∧ 1 - kk ≤ gg ∧ s17 = .int .i64 kk ∧ Aside0 (kk = 0 → wr = w) ∧ Aside0 (kk = 1 → Below w.heap.size w wr))
  case atStart => exact ⟨0, by omega, by omega, rfl, ⟨fun _ => rfl⟩, ⟨fun h => by omega⟩⟩
  case round =>
    obtain ⟨kk, hkk, hgk, rfl, HP0, HP1⟩ := hrel
    by_cases h0 : kk = 0
    · subst h0
      obtain rfl := HP0.out rfl
      clear HP0 HP1
      have p0 := alloc_keep n0
      have p1 := alloc_keep n1
      have p2 := alloc_keep n2
      have p3 := alloc_keep n3
      have p4 := alloc_keep n4
      have hb := ((Below.refl wr.heap.size wr).alloc (Nat.le_refl _) (.cells #[.string f0, .slice A1 l1.length c1, .slice A2 l2.length c2, .slice A3 l3.length c3, .slice A4 1 c4] 49)).alloc (by rw [World.size_alloc]; omega) (.cells #[.string f0, .slice B1 l1.length d1, .slice B2 l2.length d2, .slice B3 l3.length d3, .slice B4 1 d4] 49)
      have HB := Lib.hid hb
      have hcall := hS.out _ hb
      clear hb
      go_wp2_with (go_at_call 61; refine hcall.mono ?_; rintro e w2 ⟨rfl, hb2⟩; have HB2 := Lib.hid (below_then HB.out HB.out.size hb2); clear hb2)
      go_roundg 0
      case measure => omega
      case rel => exact ⟨1, by omega, by omega, by first | rfl | go_num, ⟨fun h => by omega⟩, ⟨fun _ => HB2.out⟩⟩
    · obtain rfl : kk = 1 := by omega
      have HB := Lib.hid (HP1.out rfl)
      clear HP0 HP1
      go_wp2_with fail
      go_ret
      exact ⟨rfl, HB.out⟩
set_option maxHeartbeats 1000000 in
theorem eqOne_calls (f0 : ByteArray) (l1 l2 l3 : List ByteArray) (x : SStep) (A : Option Addr) (c : Nat) (B : Option Addr) (d : Nat) (w : World) (h1 : Kd.C k49 w A 1 [⟨f0, l1, l2, l3, [x]⟩]) (h2 : Kd.C k49 w B 1 [⟨f0, l1, l2, l3, [x]⟩]) :
    Calls Tryz.prog 36 #[.slice A 1 c, .slice B 1 d] w (IsTrue w) := by
  have hE := eqRule_calls f0 l1 l2 l3 x A c B d w h1 h2
  clear h1 h2
  go_enter Tryz.func36, Tryz.ntmps36
  go_wp2_with fail
  refine hE.mono ?_
  rintro e w2 ⟨rfl, hb2⟩
  go_wp2_with fail
  go_ret
  exact ⟨rfl, hb2⟩
end Go.Proofs.YthagibkmfgodgaaGreatDoor.X

namespace Go.Proofs.YthagibkmfgodgaaGreatDoor.X
open Go.RowKit Go.Maps

def begW : Bytes := [97, 32, 34, 92, 120, 52, 49, 34, 32, 59]
theorem begW_all : allR (allF begW) = ([⟨1, 0, ⟨#[97]⟩⟩, ⟨2, 2, ⟨#[65]⟩⟩, ⟨3, 9, ⟨#[59]⟩⟩, ⟨4, 10, ⟨#[]⟩⟩], 0, 0) := by kernel_rfl
def begS : Bytes := "rule r { in b, a; out x; # no\n x = select \"q\\n\" a; }".toUTF8.data.toList
def begX : SStep := ⟨⟨#[120]⟩, 7, [⟨#[97]⟩], [⟨#[113, 10]⟩], 0⟩
theorem begS_file : fileT begS = ([⟨⟨#[114]⟩, [⟨#[98]⟩, ⟨#[97]⟩], [⟨#[120]⟩], [], [begX]⟩], 0, 0) := by kernel_rfl
def begE : Bytes := "rule in {".toUTF8.data.toList
theorem begE_file : fileT begE = ([], 1, 5) := by kernel_rfl
theorem begOp : opF ⟨#[99, 111, 117, 110, 116]⟩ = 4 := by kernel_rfl
theorem begName : opNameF 4 = ⟨#[99, 111, 117, 110, 116]⟩ := by kernel_rfl
theorem begQ : quoteF [97, 34, 10] = [34, 97, 92, 34, 92, 110, 34] := by kernel_rfl
theorem begStep : stepT begX = "x = select \"q\\n\" a;".toUTF8.data.toList := by kernel_rfl

theorem rising_nil : risingF [] = [] := by simp [risingF]
theorem rising_one (x : ByteArray) : risingF [x] = [x] := by
  unfold risingF
  rw [List.map_cons, List.map_nil, List.mergeSort_singleton]
  rfl
theorem rising_ba : risingF [⟨#[98]⟩, ⟨#[97]⟩] = [⟨#[97]⟩, ⟨#[98]⟩] := by
  unfold risingF
  show List.map mk (List.mergeSort [[98], [97]] _) = _
  simp [List.mergeSort, List.MergeSort.Internal.splitInTwo, List.merge]
  first | done | decide
theorem rising_ab : risingF [⟨#[97]⟩, ⟨#[98]⟩] = [⟨#[97]⟩, ⟨#[98]⟩] := by
  unfold risingF
  show List.map mk (List.mergeSort [[97], [98]] _) = _
  simp [List.mergeSort, List.MergeSort.Internal.splitInTwo, List.merge]
  first | done | decide
theorem begRule : ruleT ⟨#[114]⟩ [⟨#[97]⟩, ⟨#[98]⟩] [⟨#[120]⟩] [] begX = "rule r {\n  in a, b;\n  out x;\n  x = select \"q\\n\" a;\n}\n".toUTF8.data.toList := by
  unfold ruleT headT
  rw [rising_ab, rising_one, rising_nil]
  kernel_rfl
theorem begSmall : SmallR ⟨#[114]⟩ [⟨#[97]⟩, ⟨#[98]⟩] [⟨#[120]⟩] [] begX := by
  constructor
  · decide
  · decide
  · decide
  · decide
  · rw [rising_ab]; decide
  · rw [rising_one]; decide
  · rw [rising_nil]; decide
  · decide
  · decide
  · decide
  · intro y hy
    obtain rfl : y = ⟨#[113, 10]⟩ := by simpa [begX] using hy
    refine ⟨by decide, fun c hc => ?_⟩
    have : c = 113 ∨ c = 10 := by simpa using hc
    rcases this with rfl | rfl
    · right; right; decide
    · left; rfl
  · decide

end Go.Proofs.YthagibkmfgodgaaGreatDoor.X

namespace Go.Proofs.YthagibkmfgodgaaGreatDoor.X
open Go.RowKit Go.Maps Go.Proofs.YthagibkmfgodgaaGreatDoorW.PrintWords Go.Proofs.YthagibkmfgodgaaGreatDoorW.PrintMore Go.Proofs.YthagibkmfgodgaaGreatDoorW.PrintLast

set_option maxHeartbeats 1000000 in
theorem Begun1_calls (w : World) (hG : GOK w) : Calls Tryz.prog 38 #[] w (IsTrue w) := by
  have hB := shipwrightlaw1_begun.calls true w hG rfl
  clear hG
  go_enter Tryz.func38, Tryz.ntmps38
  go_wp2_with fail
  refine hB.mono ?_
  rintro e w2 ⟨rfl, hb2⟩
  go_wp2_with fail
  go_ret
  exact ⟨rfl, hb2⟩

theorem beg_quote (w : World) : Calls Tryz.prog 21 #[.string ⟨#[97, 34, 10]⟩] w fun e w' => e = .returned (.string ⟨#[34, 97, 92, 34, 92, 110, 34]⟩) ∧ Below w.heap.size w w' := by
  have h := quote_calls ⟨#[97, 34, 10]⟩ (by decide) (fun c hc => by
    have : c = 97 ∨ c = 34 ∨ c = 10 := by simpa using hc
    rcases this with rfl | rfl | rfl
    · right; right; decide
    · right; right; decide
    · left; rfl) w
  rw [show quoteF (⟨#[97, 34, 10]⟩ : ByteArray).data.toList = _ from begQ] at h
  exact h
def begR : SRule := ⟨⟨#[114]⟩, [⟨#[98]⟩, ⟨#[97]⟩], [⟨#[120]⟩], [], [begX]⟩
def begRs : SRule := ⟨⟨#[114]⟩, [⟨#[97]⟩, ⟨#[98]⟩], [⟨#[120]⟩], [], [begX]⟩
theorem beg_file (A : Option Addr) (c : Nat) (w : World) (hG : GOK w) (h : Kd.C k49 w A 1 [begR]) :
    Calls Tryz.prog 27 #[.slice A 1 c] w fun e w' => e = .returned (.string ⟨#[114, 117, 108, 101, 32, 114, 32, 123, 10, 32, 32, 105, 110, 32, 97, 44, 32, 98, 59, 10, 32, 32, 111, 117, 116, 32, 120, 59, 10, 32, 32, 120, 32, 61, 32, 115, 101, 108, 101, 99, 116, 32, 34, 113, 92, 110, 34, 32, 97, 59, 10, 125, 10]⟩) ∧ Below w.heap.size w w' := by
  have hc := pfileOne_calls ⟨#[114]⟩ [⟨#[98]⟩, ⟨#[97]⟩] [⟨#[120]⟩] [] begX A c w hG h (by decide) (by decide) (by decide) (by rw [rising_ba, rising_one, rising_nil]; exact begSmall)
  rw [rising_ba, rising_one, rising_nil, begRule] at hc
  rw [show mk "rule r {\n  in a, b;\n  out x;\n  x = select \"q\\n\" a;\n}\n".toUTF8.data.toList = ⟨#[114, 117, 108, 101, 32, 114, 32, 123, 10, 32, 32, 105, 110, 32, 97, 44, 32, 98, 59, 10, 32, 32, 111, 117, 116, 32, 120, 59, 10, 32, 32, 120, 32, 61, 32, 115, 101, 108, 101, 99, 116, 32, 34, 113, 92, 110, 34, 32, 97, 59, 10, 125, 10]⟩ from by kernel_rfl] at hc
  exact hc
theorem beg_sorted (A : Option Addr) (c : Nat) (w : World) (h : Kd.C k49 w A 1 [begR]) :
    Calls Tryz.prog 37 #[.slice A 1 c] w fun e w' => ∃ X d, e = .returned (.slice X 1 d) ∧ Kd.C k49 w' X 1 [begRs] ∧ Below w.heap.size w w' := by
  have hc := sortedOne_calls ⟨#[114]⟩ [⟨#[98]⟩, ⟨#[97]⟩] [⟨#[120]⟩] [] begX A c w h (by decide) (by decide) (by decide) (by decide) (by decide)
  rw [rising_ba, rising_one, rising_nil] at hc
  refine hc.mono ?_
  rintro e w2 ⟨X, d, rfl, hR, hb⟩
  obtain ⟨X', d', e', _, hC⟩ := Kd.R_reads hR
  injection e' with e1 e2 e3
  subst e1 e3
  exact ⟨X, d, rfl, hC, hb⟩
theorem beg_eq (A : Option Addr) (c : Nat) (B : Option Addr) (d : Nat) (w : World) (h : Kd.C k49 w A 1 [begRs]) (h2 : Kd.C k49 w B 1 [begRs]) :
    Calls Tryz.prog 36 #[.slice A 1 c, .slice B 1 d] w (IsTrue w) :=
  eqOne_calls ⟨#[114]⟩ [⟨#[97]⟩, ⟨#[98]⟩] [⟨#[120]⟩] [] begX A c B d w h h2
theorem beg_step (A2 : Option Addr) (c2 : Nat) (A3 : Option Addr) (c3 : Nat) (w : World) (hG : GOK w) (h2 : Kd.C Kd.string w A2 1 [⟨#[97]⟩]) (h3 : Kd.C Kd.string w A3 1 [⟨#[113, 10]⟩]) :
    Calls Tryz.prog 39 #[.agg #[.string ⟨#[120]⟩, .int .i64 7, .slice A2 1 c2, .slice A3 1 c3, .int .i64 0]] w fun e w' => e = .returned (.string ⟨#[120, 32, 61, 32, 115, 101, 108, 101, 99, 116, 32, 34, 113, 92, 110, 34, 32, 97, 59]⟩) ∧ Below w.heap.size w w' := by
  have hc := pstep_calls begX A2 c2 A3 c3 w hG h2 h3 begSmall.s1 begSmall.sp begSmall.s2 begSmall.s3 (Nat.le_trans begSmall.sj (by omega))
  rw [begStep] at hc
  rw [show mk "x = select \"q\\n\" a;".toUTF8.data.toList = ⟨#[120, 32, 61, 32, 115, 101, 108, 101, 99, 116, 32, 34, 113, 92, 110, 34, 32, 97, 59]⟩ from by kernel_rfl] at hc
  exact hc
theorem add_far (ad : Addr) (n : Nat) (hn : 0 < n) : ad.add n = ⟨ad.block, ad.off + n, none⟩ := by
  have := at_next ad n hn (m := 0)
  simpa using this
set_option maxHeartbeats 8000000 in
set_option maxRecDepth 100000 in
theorem begun4_calls (w : World) (hG : GOK w) : Calls Tryz.prog 16 #[] w (IsTrue w) := by
  have HG := Lib.hid hG
  clear hG
  have hF := fun W hW => file_calls ⟨begS.toArray⟩ W hW
  rw [show fileT (⟨begS.toArray⟩ : ByteArray).data.toList = _ from begS_file] at hF
  have hX := fun W hW => file_calls ⟨begE.toArray⟩ W hW
  rw [show fileT (⟨begE.toArray⟩ : ByteArray).data.toList = _ from begE_file] at hX
  have hA := fun W => all_calls ⟨#[97, 32, 34, 92, 120, 52, 49, 34, 32, 59]⟩ (by decide) W
  rw [show allR (allF (⟨#[97, 32, 34, 92, 120, 52, 49, 34, 32, 59]⟩ : ByteArray).data.toList) = _ from begW_all] at hA
  go_enter Tryz.func16, Tryz.ntmps16
  go_wp2_with fail
  refine (hA _).mono ?_
  rintro e w1 ⟨v, rfl, hR, hb1⟩
  obtain ⟨A, c, rfl, _, hr1⟩ := Kd.R_reads hR
  have hE1 := blk_new w1 (.cells #[.int .i64 0, .int .i64 0] 27)
  have hb2 := (Below.refl w1.heap.size w1).alloc (Nat.le_refl _) (.cells #[.int .i64 0, .int .i64 0] 27)
  have hr2 := Kd.C_below hr1 hb2
  replace hb2 := below_then hb1 hb1.size hb2
  have HE2 := Lib.hid hE1
  have HR2 := Lib.hid hr2
  have HB2 := Lib.hid hb2
  clear hA hR hb1 hr1 hE1 hr2 hb2
  go_wp2_with fail
  generalize w1.alloc (.cells #[.int .i64 0, .int .i64 0] 27) = w2 at HE2 HR2 HB2 ⊢
  generalize w1.heap.size = E1 at HE2 ⊢
  refine (hF _ (HG.out.below HB2.out)).mono ?_
  rintro e w3 ⟨v, rfl, hR, hb3⟩
  obtain ⟨AR, cR, rfl, _, hr3⟩ := Kd.R_reads hR
  have hE3 := blk_new w3 (.cells #[.int .i64 0, .int .i64 0] 27)
  have hb4 := (Below.refl w3.heap.size w3).alloc (Nat.le_refl _) (.cells #[.int .i64 0, .int .i64 0] 27)
  have HE4a := Lib.hid (blk_alloc (blk_below HE2.out hb3) (.cells #[.int .i64 0, .int .i64 0] 27))
  have HR4a := Lib.hid (Kd.C_below (Kd.C_below HR2.out hb3) hb4)
  have HR4b := Lib.hid (Kd.C_below hr3 hb4)
  have HE4b := Lib.hid hE3
  have HB4 := Lib.hid (below_then (below_then HB2.out HB2.out.size hb3) (below_then HB2.out HB2.out.size hb3).size hb4)
  clear hF hR hb3 hr3 hE3 hb4 HE2 HR2 HB2
  go_wp2_with fail
  generalize w3.alloc (.cells #[.int .i64 0, .int .i64 0] 27) = w4 at HE4a HE4b HR4a HR4b HB4 ⊢
  generalize w3.heap.size = E2 at HE4b ⊢
  refine (hX _ (HG.out.below HB4.out)).mono ?_
  rintro e w5 ⟨v, rfl, hR, hb5⟩
  obtain ⟨AX, cX, rfl, _, _⟩ := Kd.R_reads hR
  have hE5 := blk_new w5 (.cells #[.int .i64 1, .int .i64 5] 27)
  have hb6 := (Below.refl w5.heap.size w5).alloc (Nat.le_refl _) (.cells #[.int .i64 1, .int .i64 5] 27)
  have HE6a := Lib.hid (blk_alloc (blk_below HE4a.out hb5) (.cells #[.int .i64 1, .int .i64 5] 27))
  have HE6b := Lib.hid (blk_alloc (blk_below HE4b.out hb5) (.cells #[.int .i64 1, .int .i64 5] 27))
  have HR6a := Lib.hid (Kd.C_below (Kd.C_below HR4a.out hb5) hb6)
  have HR6b := Lib.hid (Kd.C_below (Kd.C_below HR4b.out hb5) hb6)
  have HE6c := Lib.hid hE5
  have HB6 := Lib.hid (below_then (below_then HB4.out HB4.out.size hb5) (below_then HB4.out HB4.out.size hb5).size hb6)
  clear hX hR hb5 hE5 hb6 HE4a HE4b HR4a HR4b HB4
  obtain ⟨ad, A1, c1, A2, c2, A3, c3, A4, c4, rfl, -, -, -, hA4, m0, m1, m2, m3, m4⟩ := rule_at HR6b.out
  obtain ⟨bd, B2, d2, B3, d3, rfl, -, hB3, n0, n1, n2, n3, n4⟩ := step_at hA4
  have m4' : (w5.alloc (.cells #[.int .i64 1, .int .i64 5] 27)).cell? ⟨ad.block, ad.off + 4, none⟩ = some (.slice (some bd) 1 c4) := m4
  have n3' : (w5.alloc (.cells #[.int .i64 1, .int .i64 5] 27)).cell? ⟨bd.block, bd.off + 3, none⟩ = some (.slice B3 1 d3) := n3
  have HB7 := fun W (hW : Below (w5.alloc (.cells #[.int .i64 1, .int .i64 5] 27)).heap.size (w5.alloc (.cells #[.int .i64 1, .int .i64 5] 27)) W) => Begun1_calls W
  clear m0 m1 m2 m3 m4 n0 n1 n2 n3 n4 hA4 hB3 HB7
  go_wp2_with fail
  generalize w5.alloc (.cells #[.int .i64 1, .int .i64 5] 27) = w6 at HE6a HE6b HE6c HR6a HR6b HB6 m4' n3' ⊢
  generalize w5.heap.size = E3 at HE6c ⊢
  clear m4' n3'
  refine (Begun1_calls _ (HG.out.below HB6.out)).mono ?_
  rintro e w7 ⟨rfl, hb7⟩
  have HE7a := Lib.hid (blk_below HE6a.out hb7)
  have HE7b := Lib.hid (blk_below HE6b.out hb7)
  have HE7c := Lib.hid (blk_below HE6c.out hb7)
  have HR7a := Lib.hid (Kd.C_below HR6a.out hb7)
  have HR7b := Lib.hid (Kd.C_below HR6b.out hb7)
  have HB7 := Lib.hid (below_then HB6.out HB6.out.size hb7)
  clear hb7 HE6a HE6b HE6c HR6a HR6b HB6
  obtain ⟨aw, rfl, p10, _, p12⟩ := at_T34 HR7a.out 1 (by simp) (by simp)
  obtain ⟨aw2, e2, _, p21, _⟩ := at_T34 HR7a.out 2 (by simp) (by simp)
  obtain rfl := Option.some.inj e2
  obtain ⟨aw3, e3, p30, _, _⟩ := at_T34 HR7a.out 3 (by simp) (by simp)
  obtain rfl := Option.some.inj e3
  clear e2 e3
  rw [show (1 : Int).toNat * 3 = 3 from rfl, add_far _ 3 (by decide)] at p10 p12
  rw [show (2 : Int).toNat * 3 = 6 from rfl, add_far _ 6 (by decide)] at p21
  rw [show (3 : Int).toNat * 3 = 9 from rfl, add_far _ 9 (by decide)] at p30
  replace p10 : w7.cell? ⟨aw.block, aw.off + 3, none⟩ = some (.int .i64 2) := p10
  replace p12 : w7.cell? ⟨aw.block, aw.off + 3 + 2, none⟩ = some (.string ⟨#[65]⟩) := p12
  replace p21 : w7.cell? ⟨aw.block, aw.off + 6 + 1, none⟩ = some (.int .i64 9) := p21
  replace p30 : w7.cell? ⟨aw.block, aw.off + 9, none⟩ = some (.int .i64 4) := p30
  have k1 : w7.cell? ⟨E1, 0, none⟩ = some (.int .i64 0) := (blk_cell HE7a.out 0).trans rfl
  go_wp2_with fail
  refine (beg_quote _).mono ?_
  rintro e w8 ⟨rfl, hb8⟩
  have HE8b := Lib.hid (blk_below HE7b.out hb8)
  have HE8c := Lib.hid (blk_below HE7c.out hb8)
  have HR8b := Lib.hid (Kd.C_below HR7b.out hb8)
  have HB8 := Lib.hid (below_then HB7.out HB7.out.size hb8)
  clear hb8 HE7a HE7b HE7c HR7a HR7b HB7 p10 p12 p21 p30 k1
  have hw : ∃ A1 c1 bd c4 B3 d3, w8.cell? ⟨ad.block, ad.off + 1, none⟩ = some (.slice A1 2 c1) ∧ w8.cell? ⟨ad.block, ad.off + 4, none⟩ = some (.slice (some bd) 1 c4) ∧ w8.cell? ⟨bd.block, bd.off + 3, none⟩ = some (.slice (some B3) 1 d3) ∧ w8.cell? B3 = some (.string ⟨#[113, 10]⟩) := by
    obtain ⟨ad', A1, c1, A2, c2, A3, c3, A4, c4, e', -, -, -, hA4, m0, m1, m2, m3, m4⟩ := rule_at HR8b.out
    obtain rfl := Option.some.inj e'
    obtain ⟨bd, B2, d2, B3, d3, rfl, -, hB3, n0, n1, n2, n3, n4⟩ := step_at hA4
    obtain ⟨B, cs, rfl, hcl, hK, hcell⟩ := Kd.C_get hB3 (⟨#[113, 10]⟩ : ByteArray) 0 (by decide) (by decide)
    refine ⟨A1, c1, bd, c4, B, d3, m1, m4, n3, ?_⟩
    have := hcell 0 _ (show cs[0]? = some (.string ⟨#[113, 10]⟩) from by rw [show cs = [.string ⟨#[113, 10]⟩] from hK]; rfl)
    rwa [at_zero] at this
  obtain ⟨A1, c1, bd, c4, B3, d3, m1, m4, n3, n30⟩ := hw
  have k20 : w8.cell? ⟨E2, 0, none⟩ = some (.int .i64 0) := (blk_cell HE8b.out 0).trans rfl
  have k30 : w8.cell? ⟨E3, 0, none⟩ = some (.int .i64 1) := (blk_cell HE8c.out 0).trans rfl
  have k31 : w8.cell? ⟨E3, 1, none⟩ = some (.int .i64 5) := (blk_cell HE8c.out 1).trans rfl
  go_wp2_with fail
  refine (beg_file _ _ _ (HG.out.below HB8.out) HR8b.out).mono ?_
  rintro e w9 ⟨rfl, hb9⟩
  have HR9 := Lib.hid (Kd.C_below HR8b.out hb9)
  have HB9 := Lib.hid (below_then HB8.out HB8.out.size hb9)
  clear hb9 HE8b HE8c HR8b HB8 m1 m4 n3 n30 k20 k30 k31
  go_wp2_with fail
  refine (op_calls _ _).mono ?_
  rintro e w10 ⟨rfl, hw⟩
  rw [begOp]
  have hb10 : Below w9.heap.size w9 w10 := by rw [hw]; exact (Below.refl _ _).alloc (Nat.le_refl _) _
  have HR10 := Lib.hid (Kd.C_below HR9.out hb10)
  have HB10 := Lib.hid (below_then HB9.out HB9.out.size hb10)
  clear hw hb10 HR9 HB9
  go_wp2_with fail
  refine (opName_calls _ _).mono ?_
  rintro e w11 ⟨rfl, hb11⟩
  rw [begName]
  have HR11 := Lib.hid (Kd.C_below HR10.out hb11)
  have HB11 := Lib.hid (below_then HB10.out HB10.out.size hb11)
  clear hb11 HR10 HB10
  go_wp2_with fail
  refine (beg_sorted _ _ _ HR11.out).mono ?_
  rintro e w12 ⟨X, dX, rfl, hX, hb12⟩
  have HR12 := Lib.hid (Kd.C_below HR11.out hb12)
  have HX12 := Lib.hid hX
  have HB12 := Lib.hid (below_then HB11.out HB11.out.size hb12)
  clear hb12 hX HR11 HB11
  go_wp2_with fail
  refine (beg_sorted _ _ _ HR12.out).mono ?_
  rintro e w13 ⟨Y, dY, rfl, hY, hb13⟩
  have HR13 := Lib.hid (Kd.C_below HR12.out hb13)
  have HX13 := Lib.hid (Kd.C_below HX12.out hb13)
  have HY13 := Lib.hid hY
  have HB13 := Lib.hid (below_then HB12.out HB12.out.size hb13)
  clear hb13 hY HR12 HX12 HB12
  go_wp2_with fail
  refine (beg_eq _ _ _ _ _ HX13.out HY13.out).mono ?_
  rintro e w14 ⟨rfl, hb14⟩
  have HR14 := Lib.hid (Kd.C_below HR13.out hb14)
  have HB14 := Lib.hid (below_then HB13.out HB13.out.size hb14)
  clear hb14 HR13 HX13 HY13 HB13
  have hw : ∃ bd c4 B2 d2 B3 d3, w14.cell? ⟨ad.block, ad.off + 4, none⟩ = some (.slice (some bd) 1 c4) ∧ w14.cell? bd = some (.string ⟨#[120]⟩) ∧ w14.cell? ⟨bd.block, bd.off + 1, none⟩ = some (.int .i64 7) ∧ w14.cell? ⟨bd.block, bd.off + 2, none⟩ = some (.slice B2 1 d2) ∧ w14.cell? ⟨bd.block, bd.off + 3, none⟩ = some (.slice B3 1 d3) ∧ w14.cell? ⟨bd.block, bd.off + 4, none⟩ = some (.int .i64 0) ∧ Kd.C Kd.string w14 B2 1 [⟨#[97]⟩] ∧ Kd.C Kd.string w14 B3 1 [⟨#[113, 10]⟩] := by
    obtain ⟨ad', A1, c1, A2, c2, A3, c3, A4, c4, e', -, -, -, hA4, m0, m1, m2, m3, m4⟩ := rule_at HR14.out
    obtain rfl := Option.some.inj e'
    obtain ⟨bd, B2, d2, B3, d3, rfl, hB2, hB3, n0, n1, n2, n3, n4⟩ := step_at hA4
    exact ⟨bd, c4, B2, d2, B3, d3, m4, n0, n1, n2, n3, n4, hB2, hB3⟩
  obtain ⟨bd, c4, B2, d2, B3, d3, m4, n0, n1, n2, n3, n4, hB2, hB3⟩ := hw
  have hS := beg_step B2 d2 B3 d3 w14 (HG.out.below HB14.out) hB2 hB3
  clear hB2 hB3
  go_wp2_with fail
  refine hS.mono ?_
  rintro e w15 ⟨rfl, hb15⟩
  have HB15 := Lib.hid (below_then HB14.out HB14.out.size hb15)
  clear hb15
  go_wp2_with fail
  go_ret
  exact ⟨rfl, HB15.out⟩

end Go.Proofs.YthagibkmfgodgaaGreatDoor.X

namespace Go.Proofs.YthagibkmfgodgaaGreatDoor.X
open Go.RowKit Go.Maps Go.Proofs.YthagibkmfgodgaaGreatDoorW.PrintWords Go.Proofs.YthagibkmfgodgaaGreatDoorW.PrintMore Go.Proofs.YthagibkmfgodgaaGreatDoor.Pb

theorem short_f (s : ByteArray) (n : Nat) : shipwrightlaw1_Short.f s (n : Int) = some (mk (s.data.toList.take n)) := by
  unfold shipwrightlaw1_Short.f mn
  have hz := Lib.size_eq s
  have key : ∀ m : Nat, m ≤ s.size → s.data.toList.take m = s.data.toList.take n → (s.extract 0 ((m : Int)).toNat) = mk (s.data.toList.take n) := by
    intro m _ hm
    apply data_inj
    rw [mk_data, ← hm]
    simp [ByteArray.data_extract]
  rcases Nat.lt_or_ge n s.size with h | h
  · rw [if_pos (show (n : Int) < (s.size : Int) by omega), if_pos (show (0 : Int) ≤ (n : Int) by omega), if_pos (show (n : Int) ≤ (s.size : Int) by omega), key n (by omega) rfl]
  · rw [if_neg (show ¬ (n : Int) < (s.size : Int) by omega), if_pos (show (0 : Int) ≤ (s.size : Int) by omega), if_pos (Int.le_refl _), key s.size (Nat.le_refl _) (by rw [List.take_of_length_le (by omega), List.take_of_length_le (by omega)])]

end Go.Proofs.YthagibkmfgodgaaGreatDoor.X

namespace Go.Proofs.YthagibkmfgodgaaGreatDoor.X
open Go.RowKit Go.Maps Go.Proofs.YthagibkmfgodgaaGreatDoorW.PrintWords Go.Proofs.YthagibkmfgodgaaGreatDoorW.PrintMore Go.Proofs.YthagibkmfgodgaaGreatDoorW.PrintLast

section
variable {P : Program} {ops : Array Oper} {o : Oper} {a : Act} {Kc : Act → World → Prop} {Q : Exit → Act → World → Prop}
/-- append(v, some bytes), inside a region that draws its order. -/
theorem RB.app_step {w0 W : World} (base : Nat) (hw : Region.wanted o (yielded ops a.tmps) = true) (s x : Operand)
    (ho : o.op = .call { callee := .builtin .append, args := #[s, x], argTypes := #[38, 38] })
    (ht : P.underlying 38 = some (.slice 5)) (hinfo : (P.info? 5).map (fun i => (i.zero, i.size, i.bytes)) = some (some (.int .u8 0), 1, 1))
    (v : Value) (acc l : Bytes) (cs : Array Value) (hcs : cs = (nums .u8 (natsB l)).toArray) (hl : l.length ≤ 100) (n : Nat) (hn : n = l.length) (hs : a.eval s = v) (hx : a.eval x = .slice (some ⟨W.heap.size, 0, none⟩) n n)
    (HO : RB W base v acc) (HB : Below base w0 W) (hbase : base ≤ W.heap.size) (hal : acc.length ≤ 5000000000000)
    (h : ∀ v1 w1, RB w1 base v1 (acc ++ l) → Below base w0 w1 → Kc (a.put o.dst v1) w1) :
    if Region.wanted o (yielded ops a.tmps) = true then Oper.wp P o a (W.alloc (.cells cs 5)) Kc Q else Kc (a.put o.dst undef) (W.alloc (.cells cs 5)) := by
  subst hcs
  subst hn
  have hC := lit_bytes W l hl
  rw [show (natsB l).length = l.length by simp [natsB]] at hC
  refine Kd.R_append_rows_step (Kd.int .u8) (Rr := (Kd.int .u8).K (W.alloc (.cells (nums .u8 (natsB l)).toArray 5))) (w0 := w0) base hw s x 38 5 (.int .u8 0) 1 ho ht hinfo rfl (by decide) (by decide) v (natsB acc) (natsB l) (some ⟨W.heap.size, 0, none⟩) l.length l.length (fun _ => True) (fun k_ => True ∧ some k_ ≠ v.ownBlock) hs hx (Kd.R_alloc HO _) hC (fun _ _ h => h) (fun _ hk => hk) (fun _ _ => trivial) (HB.alloc hbase _) (by rw [World.size_alloc]; omega) (by simp only [natsB, List.length_map]; omega) ?_
  intro v1 w1 ho1 hb1 _ _
  rw [← natsB_app] at ho1
  exact h v1 w1 ho1 hb1
end
theorem hexD_at : ∀ (n : Nat) (h : n < 16), (⟨#[48, 49, 50, 51, 52, 53, 54, 55, 56, 57, 97, 98, 99, 100, 101, 102]⟩ : ByteArray)[n]'h = hexD n := by decide +kernel
set_option maxHeartbeats 4000000 in
set_option maxRecDepth 100000 in
theorem quote_all (s : ByteArray) (hs : s.size ≤ 1099511627776) (w : World) :
    Calls Tryz.prog 21 #[.string s] w fun e w' => e = .returned (.string (mk (quoteF s.data.toList))) ∧ Below w.heap.size w w' := by
  generalize hT : quoteF s.data.toList = T
  have HT := Lib.hid hT
  clear hT
  have hR0 : RB (w.alloc (.cells #[.int .u8 34] 5)) w.heap.size (.slice (some ⟨w.heap.size, 0, none⟩) 1 1) [34] := by
    refine Kd.R_of_own (h1 := fun _ => rfl) ?_ (fun _ _ => trivial)
    exact own_lit w w.heap.size 5 .u8 [34] (Nat.le_refl _) (by simp)
  have HR0 := Lib.hid hR0
  clear hR0
  go_enter Tryz.func21, Tryz.ntmps21
  go_wp2_with fail
  go_loopg [3, 4, 5, 9] s.size (fun gg s3 _ _ s9 wr => ∃ (kk : Nat) (acc : Bytes), kk ≤ s.size ∧ s.size - kk ≤ gg ∧ s9 = .int .i64 kk ∧ acc.length ≤ 1 + 4 * kk ∧ Aside0 (acc ++ (quoteL (s.data.toList.drop kk) ++ [34]) = T) ∧
    Aside0 (RB wr w.heap.size s3 acc) ∧ Aside0 (Below w.heap.size w wr))
  case atStart => exact ⟨0, [34], Nat.zero_le _, by omega, rfl, by simp, ⟨by rw [← HT.out]; rfl⟩, ⟨HR0.out⟩, ⟨(Below.refl _ _).alloc (Nat.le_refl _) _⟩⟩
  case round =>
    obtain ⟨kk, acc, hkk, hgk, rfl, hacc, HK, HO, HB⟩ := hrel
    by_cases hlt : kk < s.size
    · have hltz : (kk : Int) < (s.size : Int) := by omega
      have hdr : s.data.toList.drop kk = s[kk] :: s.data.toList.drop (kk + 1) := by
        rw [List.drop_eq_getElem_cons (by rw [← Lib.size_eq]; exact hlt)]
        rfl
      have hK := HK.out
      rw [hdr, quoteL] at hK
      have HK2 := Lib.hid hK
      clear hK hdr
      have n8 : ∀ (m : Nat) (k : UInt8), k.toNat = m → (s[kk] = k ↔ s[kk].toNat = m) := fun m k hk => by rw [← UInt8.toNat_inj, hk]
      have H34 := Lib.hid (n8 34 34 rfl)
      have H92 := Lib.hid (n8 92 92 rfl)
      have H10 := Lib.hid (n8 10 10 rfl)
      have H9 := Lib.hid (n8 9 9 rfl)
      clear n8
      have HWB := Lib.hid HB.out.size
      have hal2 : acc.length ≤ 5000000000000 := by omega
      have next : ∀ l : Bytes, quoteC s[kk] = l → acc ++ l ++ (quoteL (s.data.toList.drop (kk + 1)) ++ [34]) = T := fun l hl => by
        rw [← HK2.out, hl]
        simp
      have HN := Lib.hid next
      clear next
      obtain ⟨L1, hL1⟩ : ∃ l : Bytes, l = [s[kk]] := ⟨_, rfl⟩
      obtain ⟨L2, hL2⟩ : ∃ l : Bytes, l = [92, s[kk]] := ⟨_, rfl⟩
      have HC1 : Hid (#[Value.int .u8 s[kk].toNat] = (nums .u8 (natsB L1)).toArray) := by show _ = _; rw [hL1]; rfl
      have HC2 : Hid (#[Value.int .u8 92, .int .u8 s[kk].toNat] = (nums .u8 (natsB L2)).toArray) := by show _ = _; rw [hL2]; rfl
      have HL1 := Lib.hid hL1
      have HL2 := Lib.hid hL2
      have hl1 : L1.length = 1 := by rw [hL1]; rfl
      have hl2 : L2.length = 2 := by rw [hL2]; rfl
      have HM1 : Hid (1 = L1.length) := hl1.symm
      have HM2 : Hid (2 = L2.length) := hl2.symm
      have HX1 : Hid (L1.length ≤ 100) := by show _ ≤ _; omega
      have HX2 : Hid (L2.length ≤ 100) := by show _ ≤ _; omega
      clear hL1 hL2
      by_cases c1 : s[kk].toNat = 34
      · have e1 : ((s[kk].toNat : Int) == 34) = true := by simp; omega
        have HV := Lib.hid (HN.out L2 (by unfold quoteC; rw [if_pos (.inl (H34.out.2 c1)), HL2.out]))
        clear c1
        go_wp2_with (first | ((with_reducible refine gate_builtin (b := .append) (xs := #[.tmp 26, .tmp 28]) rfl ?_); at_builtin; refine RB.app (w0 := w) w.heap.size rfl (.tmp 26) (.tmp 28) rfl Tryz.underlying38 infoU u3 acc L2 _ HC2.out HX2.out 2 HM2.out rfl rfl HO.out HB.out HWB.out hal2 ?_; intro v1 w4 ho hb; have HO4 := Lib.hid ho; have HB4 := Lib.hid hb; clear ho hb))
        go_roundg (s.size - (kk + 1))
        case measure => omega
        case rel => exact ⟨kk + 1, acc ++ L2, by omega, by omega, by first | rfl | go_num, by simp only [List.length_append]; omega, ⟨HV.out⟩, ⟨HO4.out⟩, ⟨HB4.out⟩⟩
      have e1 : ((s[kk].toNat : Int) == 34) = false := by simp; omega
      by_cases c2 : s[kk].toNat = 92
      · have e2 : ((s[kk].toNat : Int) == 92) = true := by simp; omega
        have HV := Lib.hid (HN.out L2 (by unfold quoteC; rw [if_pos (.inr (H92.out.2 c2)), HL2.out]))
        clear c1 c2
        go_wp2_with (first | ((with_reducible refine gate_builtin (b := .append) (xs := #[.tmp 26, .tmp 28]) rfl ?_); at_builtin; refine RB.app (w0 := w) w.heap.size rfl (.tmp 26) (.tmp 28) rfl Tryz.underlying38 infoU u3 acc L2 _ HC2.out HX2.out 2 HM2.out rfl rfl HO.out HB.out HWB.out hal2 ?_; intro v1 w4 ho hb; have HO4 := Lib.hid ho; have HB4 := Lib.hid hb; clear ho hb))
        go_roundg (s.size - (kk + 1))
        case measure => omega
        case rel => exact ⟨kk + 1, acc ++ L2, by omega, by omega, by first | rfl | go_num, by simp only [List.length_append]; omega, ⟨HV.out⟩, ⟨HO4.out⟩, ⟨HB4.out⟩⟩
      have e2 : ((s[kk].toNat : Int) == 92) = false := by simp; omega
      have HQ1 : Hid (¬ (s[kk] = 34 ∨ s[kk] = 92)) := fun h => h.elim (fun h => c1 (H34.out.1 h)) (fun h => c2 (H92.out.1 h))
      clear c1 c2
      by_cases c3 : s[kk].toNat = 10
      · have e3 : ((s[kk].toNat : Int) == 10) = true := by simp; omega
        have HV := Lib.hid (HN.out [92, 110] (by unfold quoteC; rw [if_neg HQ1.out, if_pos (H10.out.2 c3)]))
        clear c3
        go_wp2_with (first | ((with_reducible refine gate_builtin (b := .append) (xs := #[.tmp 33, .const (.string ⟨#[92, 110]⟩)]) rfl ?_); at_builtin; refine RB.str_app (w0 := w) w.heap.size rfl (.tmp 33) (.const (.string ⟨#[92, 110]⟩)) rfl Tryz.underlying38 Tryz.underlying9 infoU u3 acc [92, 110] rfl rfl (by decide) HO.out HB.out HWB.out hal2 ?_; intro v1 w4 ho hb; have HO4 := Lib.hid ho; have HB4 := Lib.hid hb; clear ho hb))
        go_roundg (s.size - (kk + 1))
        case measure => omega
        case rel => exact ⟨kk + 1, acc ++ [92, 110], by omega, by omega, by first | rfl | go_num, by simp; omega, ⟨HV.out⟩, ⟨HO4.out⟩, ⟨HB4.out⟩⟩
      have e3 : ((s[kk].toNat : Int) == 10) = false := by simp; omega
      by_cases c4 : s[kk].toNat = 9
      · have e4 : ((s[kk].toNat : Int) == 9) = true := by simp; omega
        have HV := Lib.hid (HN.out [92, 116] (by unfold quoteC; rw [if_neg HQ1.out, if_neg (fun h => c3 (H10.out.1 h)), if_pos (H9.out.2 c4)]))
        clear c3 c4
        go_wp2_with (first | ((with_reducible refine gate_builtin (b := .append) (xs := #[.tmp 38, .const (.string ⟨#[92, 116]⟩)]) rfl ?_); at_builtin; refine RB.str_app (w0 := w) w.heap.size rfl (.tmp 38) (.const (.string ⟨#[92, 116]⟩)) rfl Tryz.underlying38 Tryz.underlying9 infoU u3 acc [92, 116] rfl rfl (by decide) HO.out HB.out HWB.out hal2 ?_; intro v1 w4 ho hb; have HO4 := Lib.hid ho; have HB4 := Lib.hid hb; clear ho hb))
        go_roundg (s.size - (kk + 1))
        case measure => omega
        case rel => exact ⟨kk + 1, acc ++ [92, 116], by omega, by omega, by first | rfl | go_num, by simp; omega, ⟨HV.out⟩, ⟨HO4.out⟩, ⟨HB4.out⟩⟩
      have e4 : ((s[kk].toNat : Int) == 9) = false := by simp; omega
      have HQ2 : Hid (¬ s[kk] = 10) := fun h => c3 (H10.out.1 h)
      have HQ3 : Hid (¬ s[kk] = 9) := fun h => c4 (H9.out.1 h)
      clear c3 c4
      by_cases c5 : s[kk].toNat < 32 ∨ 126 < s[kk].toNat
      · have e5 : (decide ((s[kk].toNat : Int) < 32) || decide ((126 : Int) < (s[kk].toNat : Int))) = true := by rcases c5 with h | h <;> simp <;> omega
        have HV := Lib.hid (HN.out [92, 120, hexD (s[kk].toNat / 16), hexD (s[kk].toNat % 16)] (by unfold quoteC; rw [if_neg HQ1.out, if_neg HQ2.out, if_neg HQ3.out, if_pos c5]))
        obtain ⟨d1, hd1⟩ : ∃ d : Nat, d = s[kk].toNat / 16 := ⟨_, rfl⟩
        obtain ⟨d2, hd2⟩ : ∃ d : Nat, d = s[kk].toNat % 16 := ⟨_, rfl⟩
        have hb : s[kk].toNat < 256 := s[kk].toNat_lt
        have hx1 : IntKind.u8.wrap ((s[kk].toNat : Int) / 16) = (d1 : Int) := by
          rw [show ((s[kk].toNat : Int) / 16) = (d1 : Int) by omega]
          have e : (d1 : Int) % 256 = d1 := Int.emod_eq_of_lt (by omega) (by omega)
          simp [IntKind.wrap, IntKind.bits, IntKind.signed, e]
        have hx2 : Int.tmod (s[kk].toNat : Int) 16 = (d2 : Int) := by
          rw [Int.tmod_eq_emod_of_nonneg (by omega)]
          omega
        have hl1 : (d1 : Int) < 16 := by omega
        have hl2 : (d2 : Int) < 16 := by omega
        have hl1n : d1 < 16 := by omega
        have hl2n : d2 < 16 := by omega
        rw [← hd1, ← hd2] at HV
        clear hd1 hd2 hb
        have hg1 := hexD_at d1 hl1n
        have hg2 := hexD_at d2 hl2n
        have hcc : #[Value.int .u8 92, .int .u8 120, .int .u8 ((⟨#[48, 49, 50, 51, 52, 53, 54, 55, 56, 57, 97, 98, 99, 100, 101, 102]⟩ : ByteArray)[d1]'hl1n).toNat, .int .u8 ((⟨#[48, 49, 50, 51, 52, 53, 54, 55, 56, 57, 97, 98, 99, 100, 101, 102]⟩ : ByteArray)[d2]'hl2n).toNat] = (nums .u8 (natsB [92, 120, hexD d1, hexD d2])).toArray := by
          rw [hg1, hg2]
          rfl
        have HCC := Lib.hid hcc
        clear hg1 hg2 hcc
        by_cases c6 : s[kk].toNat < 32
        · have e6 : decide ((s[kk].toNat : Int) < 32) = true := by simp; omega
          clear c5 c6 e5
          go_wp2_with fail
          go_region_law (refine RB.app_step (w0 := w) w.heap.size (by rfl) (.tmp 47) (.tmp 54) rfl Tryz.underlying38 infoU u3 acc [92, 120, hexD d1, hexD d2] _ HCC.out (by simp) 4 rfl (by rfl) (by rfl) (Kd.R_drew HO.out) (below_drew HB.out) HWB.out hal2 ?_; intro v1 w4 ho hb; have HO4 := Lib.hid ho; have HB4 := Lib.hid hb; clear ho hb)
          all_goals
            go_wp2_with fail
            go_roundg (s.size - (kk + 1))
            case measure => omega
            case rel => exact ⟨kk + 1, acc ++ [92, 120, hexD d1, hexD d2], by omega, by omega, by first | rfl | go_num, by simp; omega, ⟨HV.out⟩, ⟨HO4.out⟩, ⟨HB4.out⟩⟩
        · have e6 : decide ((s[kk].toNat : Int) < 32) = false := by simp; omega
          have e7 : decide ((126 : Int) < (s[kk].toNat : Int)) = true := by simp; omega
          clear c5 c6 e5
          go_wp2_with fail
          go_region_law (refine RB.app_step (w0 := w) w.heap.size (by rfl) (.tmp 47) (.tmp 54) rfl Tryz.underlying38 infoU u3 acc [92, 120, hexD d1, hexD d2] _ HCC.out (by simp) 4 rfl (by rfl) (by rfl) (Kd.R_drew HO.out) (below_drew HB.out) HWB.out hal2 ?_; intro v1 w4 ho hb; have HO4 := Lib.hid ho; have HB4 := Lib.hid hb; clear ho hb)
          all_goals
            go_wp2_with fail
            go_roundg (s.size - (kk + 1))
            case measure => omega
            case rel => exact ⟨kk + 1, acc ++ [92, 120, hexD d1, hexD d2], by omega, by omega, by first | rfl | go_num, by simp; omega, ⟨HV.out⟩, ⟨HO4.out⟩, ⟨HB4.out⟩⟩
      · have HV := Lib.hid (HN.out L1 (by unfold quoteC; rw [if_neg HQ1.out, if_neg HQ2.out, if_neg HQ3.out, if_neg c5, HL1.out]))
        have e5 : decide ((s[kk].toNat : Int) < 32) = false := by simp; omega
        have e6 : decide ((126 : Int) < (s[kk].toNat : Int)) = false := by simp; omega
        clear c5
        go_wp2_with (first | ((with_reducible refine gate_builtin (b := .append) (xs := #[.tmp 15, .tmp 17]) rfl ?_); at_builtin; refine RB.app (w0 := w) w.heap.size rfl (.tmp 15) (.tmp 17) rfl Tryz.underlying38 infoU u3 acc L1 _ HC1.out HX1.out 1 HM1.out rfl rfl HO.out HB.out HWB.out hal2 ?_; intro v1 w4 ho hb; have HO4 := Lib.hid ho; have HB4 := Lib.hid hb; clear ho hb))
        go_roundg (s.size - (kk + 1))
        case measure => omega
        case rel => exact ⟨kk + 1, acc ++ L1, by omega, by omega, by first | rfl | go_num, by simp only [List.length_append]; omega, ⟨HV.out⟩, ⟨HO4.out⟩, ⟨HB4.out⟩⟩
    · have hltz : ¬ (kk : Int) < (s.size : Int) := by omega
      have HWB := Lib.hid HB.out.size
      have hal : acc.length ≤ 4398046511105 := by omega
      have HV : Hid (T = acc ++ [34]) := by
        show T = _
        rw [← HK.out, List.drop_of_length_le (by rw [← Lib.size_eq]; omega)]
        rfl
      have hal2 : acc.length ≤ 5000000000000 := by omega
      go_wp2_with (first | ((with_reducible refine gate_builtin (b := .append) (xs := #[.tmp 57, .tmp 58]) rfl ?_); at_builtin; refine RB.app (w0 := w) w.heap.size rfl (.tmp 57) (.tmp 58) rfl Tryz.underlying38 infoU u3 acc [34] #[.int .u8 34] rfl (by decide) 1 rfl rfl rfl HO.out HB.out HWB.out hal2 ?_; intro v1 w4 ho hb; have hcv := RB.str ho; have HB4 := Lib.hid hb; clear ho hb))
      go_ret
      rw [HV.out]
      exact ⟨rfl, HB4.out⟩

end Go.Proofs.YthagibkmfgodgaaGreatDoor.X

namespace Go.Proofs.YthagibkmfgodgaaGreatDoor.X
open Go.RowKit Go.Maps Go.Proofs.YthagibkmfgodgaaGreatDoorW.PrintWords Go.Proofs.YthagibkmfgodgaaGreatDoorW.PrintMore Go.Proofs.YthagibkmfgodgaaGreatDoorW.PrintLast

theorem ex_one (s : ByteArray) (k : Nat) (h : k < s.size) : s.extract k (k + 1) = mk [s[k]] := by
  apply ByteArray.ext
  rw [ByteArray.data_extract]
  apply Array.ext'
  rw [Array.toList_extract, List.extract_eq_take_drop, List.drop_eq_getElem_cons (by rw [← Lib.size_eq]; exact h), show k + 1 - k = 1 by omega]
  rfl
theorem dig_ex : ∀ n : Nat, n < 16 → (⟨#[48, 49, 50, 51, 52, 53, 54, 55, 56, 57, 97, 98, 99, 100, 101, 102]⟩ : ByteArray).extract n (n + 1) = mk [hexD n] := by decide +kernel
theorem ap2 (a b c : Bytes) : mk a ++ (mk b ++ mk c) = mk (a ++ (b ++ c)) := by rw [mk_append, mk_append]
theorem ap4 (a : Bytes) (x y : UInt8) : mk a ++ ((⟨#[92, 120]⟩ : ByteArray) ++ mk [x] ++ mk [y]) = mk (a ++ [92, 120, x, y]) := by
  rw [show (⟨#[92, 120]⟩ : ByteArray) = mk [92, 120] from rfl, mk_append, mk_append, mk_append]
  rfl
set_option maxHeartbeats 4000000 in
set_option maxRecDepth 100000 in
theorem refQuote_all (s : ByteArray) (hs : s.size ≤ 1099511627776) (w : World) :
    Calls Tryz.prog 22 #[.string s] w fun e w' => e = .returned (.string (mk (quoteF s.data.toList))) ∧ Below w.heap.size w w' := by
  generalize hT : quoteF s.data.toList = T
  have HT := Lib.hid hT
  clear hT
  go_enter Tryz.func22, Tryz.ntmps22
  go_wp2_with fail
  go_loopg [4, 5, 6] s.size (fun gg s4 s5 _ wr => ∃ (kk : Nat) (acc : Bytes), kk ≤ s.size ∧ s.size - kk ≤ gg ∧ s5 = .int .i64 kk ∧ s4 = .string (mk acc) ∧ acc.length ≤ 1 + 4 * kk ∧ Aside0 (acc ++ (quoteL (s.data.toList.drop kk) ++ [34]) = T) ∧ Aside0 (Below w.heap.size w wr))
  case atStart => exact ⟨0, [34], Nat.zero_le _, by omega, rfl, rfl, by simp, ⟨by rw [← HT.out]; rfl⟩, ⟨Below.refl _ _⟩⟩
  case round =>
    obtain ⟨kk, acc, hkk, hgk, rfl, rfl, hacc, HK, HB⟩ := hrel
    by_cases hlt : kk < s.size
    · have hltz : (kk : Int) < (s.size : Int) := by omega
      have hdr : s.data.toList.drop kk = s[kk] :: s.data.toList.drop (kk + 1) := by
        rw [List.drop_eq_getElem_cons (by rw [← Lib.size_eq]; exact hlt)]
        rfl
      have hK := HK.out
      rw [hdr, quoteL] at hK
      have HK2 := Lib.hid hK
      clear hK hdr
      have n8 : ∀ (m : Nat) (k : UInt8), k.toNat = m → (s[kk] = k ↔ s[kk].toNat = m) := fun m k hk => by rw [← UInt8.toNat_inj, hk]
      have H34 := Lib.hid (n8 34 34 rfl)
      have H92 := Lib.hid (n8 92 92 rfl)
      have H10 := Lib.hid (n8 10 10 rfl)
      have H9 := Lib.hid (n8 9 9 rfl)
      clear n8
      have next : ∀ l : Bytes, quoteC s[kk] = l → acc ++ l ++ (quoteL (s.data.toList.drop (kk + 1)) ++ [34]) = T := fun l hl => by
        rw [← HK2.out, hl]
        simp
      have HN := Lib.hid next
      clear next
      have hsub : 0 ≤ (kk : Int) + 1 ∧ (kk : Int) ≤ (kk : Int) + 1 ∧ (kk : Int) + 1 ≤ (s.size : Int) := by omega
      have hms : (mk acc).size ≤ 5000000000000 := by rw [mk_size]; omega
      have ho1 : ¬ 9223372036854775807 < (mk acc).size + (1 + (min (kk + 1) s.size - kk)) := by omega
      have ho2 : ¬ 9223372036854775807 < (mk acc).size + 2 := by omega
      have ho3 : ¬ 9223372036854775807 < (mk acc).size + (min (kk + 1) s.size - kk) := by omega
      have HE := Lib.hid (ex_one s kk hlt)
      by_cases c1 : s[kk].toNat = 34
      · have e1 : ((s[kk].toNat : Int) == 34) = true := by simp; omega
        have HV := Lib.hid (HN.out [92, s[kk]] (by unfold quoteC; rw [if_pos (.inl (H34.out.2 c1))]))
        clear c1
        go_wp2_with fail
        go_roundg (s.size - (kk + 1))
        case measure => omega
        case rel => exact ⟨kk + 1, acc ++ [92, s[kk]], by omega, by omega, by first | rfl | go_num, (by rw [HE.out]; exact congrArg Value.string (ap2 acc [92] [s[kk]])), by simp; omega, ⟨HV.out⟩, ⟨HB.out⟩⟩
      have e1 : ((s[kk].toNat : Int) == 34) = false := by simp; omega
      by_cases c2 : s[kk].toNat = 92
      · have e2 : ((s[kk].toNat : Int) == 92) = true := by simp; omega
        have HV := Lib.hid (HN.out [92, s[kk]] (by unfold quoteC; rw [if_pos (.inr (H92.out.2 c2))]))
        clear c1 c2
        go_wp2_with fail
        go_roundg (s.size - (kk + 1))
        case measure => omega
        case rel => exact ⟨kk + 1, acc ++ [92, s[kk]], by omega, by omega, by first | rfl | go_num, (by rw [HE.out]; exact congrArg Value.string (ap2 acc [92] [s[kk]])), by simp; omega, ⟨HV.out⟩, ⟨HB.out⟩⟩
      have e2 : ((s[kk].toNat : Int) == 92) = false := by simp; omega
      have HQ1 : Hid (¬ (s[kk] = 34 ∨ s[kk] = 92)) := fun h => h.elim (fun h => c1 (H34.out.1 h)) (fun h => c2 (H92.out.1 h))
      clear c1 c2
      by_cases c3 : s[kk].toNat = 10
      · have e3 : ((s[kk].toNat : Int) == 10) = true := by simp; omega
        have HV := Lib.hid (HN.out [92, 110] (by unfold quoteC; rw [if_neg HQ1.out, if_pos (H10.out.2 c3)]))
        clear c3
        go_wp2_with fail
        go_roundg (s.size - (kk + 1))
        case measure => omega
        case rel => exact ⟨kk + 1, acc ++ [92, 110], by omega, by omega, by first | rfl | go_num, congrArg Value.string (mk_append acc [92, 110]), by simp; omega, ⟨HV.out⟩, ⟨HB.out⟩⟩
      have e3 : ((s[kk].toNat : Int) == 10) = false := by simp; omega
      by_cases c4 : s[kk].toNat = 9
      · have e4 : ((s[kk].toNat : Int) == 9) = true := by simp; omega
        have HV := Lib.hid (HN.out [92, 116] (by unfold quoteC; rw [if_neg HQ1.out, if_neg (fun h => c3 (H10.out.1 h)), if_pos (H9.out.2 c4)]))
        clear c3 c4
        go_wp2_with fail
        go_roundg (s.size - (kk + 1))
        case measure => omega
        case rel => exact ⟨kk + 1, acc ++ [92, 116], by omega, by omega, by first | rfl | go_num, congrArg Value.string (mk_append acc [92, 116]), by simp; omega, ⟨HV.out⟩, ⟨HB.out⟩⟩
      have e4 : ((s[kk].toNat : Int) == 9) = false := by simp; omega
      have HQ2 : Hid (¬ s[kk] = 10) := fun h => c3 (H10.out.1 h)
      have HQ3 : Hid (¬ s[kk] = 9) := fun h => c4 (H9.out.1 h)
      clear c3 c4
      by_cases c5 : s[kk].toNat < 32 ∨ 126 < s[kk].toNat
      · have HV := Lib.hid (HN.out [92, 120, hexD (s[kk].toNat / 16), hexD (s[kk].toNat % 16)] (by unfold quoteC; rw [if_neg HQ1.out, if_neg HQ2.out, if_neg HQ3.out, if_pos c5]))
        obtain ⟨d1, hd1⟩ : ∃ d : Nat, d = s[kk].toNat / 16 := ⟨_, rfl⟩
        obtain ⟨d2, hd2⟩ : ∃ d : Nat, d = s[kk].toNat % 16 := ⟨_, rfl⟩
        have hb : s[kk].toNat < 256 := s[kk].toNat_lt
        have hx1 : IntKind.u8.wrap ((s[kk].toNat : Int) / 16) = (d1 : Int) := by
          rw [show ((s[kk].toNat : Int) / 16) = (d1 : Int) by omega]
          have e : (d1 : Int) % 256 = d1 := Int.emod_eq_of_lt (by omega) (by omega)
          simp [IntKind.wrap, IntKind.bits, IntKind.signed, e]
        have hx2 : Int.tmod (s[kk].toNat : Int) 16 = (d2 : Int) := by
          rw [Int.tmod_eq_emod_of_nonneg (by omega)]
          omega
        have hl1n : d1 < 16 := by omega
        have hl2n : d2 < 16 := by omega
        rw [← hd1, ← hd2] at HV
        have HG1 := Lib.hid (dig_ex d1 hl1n)
        have HG2 := Lib.hid (dig_ex d2 hl2n)
        clear hd1 hd2 hb
        by_cases c6 : s[kk].toNat < 32
        · have e6 : decide ((s[kk].toNat : Int) < 32) = true := by simp; omega
          clear c5 c6
          go_wp2_with fail
          go_quiet (fail)
          go_wp2_with fail
          go_roundg (s.size - (kk + 1))
          case measure => omega
          case rel => exact ⟨kk + 1, acc ++ [92, 120, hexD d1, hexD d2], by omega, by omega, by first | rfl | go_num, (by rw [HG1.out, HG2.out]; exact congrArg Value.string (ap4 acc _ _)), by simp; omega, ⟨HV.out⟩, ⟨pw_below_drewN HB.out nq⟩⟩
        · have e6 : decide ((s[kk].toNat : Int) < 32) = false := by simp; omega
          have e7 : decide ((126 : Int) < (s[kk].toNat : Int)) = true := by simp; omega
          clear c5 c6
          go_wp2_with fail
          go_quiet (fail)
          go_wp2_with fail
          go_roundg (s.size - (kk + 1))
          case measure => omega
          case rel => exact ⟨kk + 1, acc ++ [92, 120, hexD d1, hexD d2], by omega, by omega, by first | rfl | go_num, (by rw [HG1.out, HG2.out]; exact congrArg Value.string (ap4 acc _ _)), by simp; omega, ⟨HV.out⟩, ⟨pw_below_drewN HB.out nq⟩⟩
      · have HV := Lib.hid (HN.out [s[kk]] (by unfold quoteC; rw [if_neg HQ1.out, if_neg HQ2.out, if_neg HQ3.out, if_neg c5]))
        have e5 : decide ((s[kk].toNat : Int) < 32) = false := by simp; omega
        have e6 : decide ((126 : Int) < (s[kk].toNat : Int)) = false := by simp; omega
        clear c5
        go_wp2_with fail
        go_roundg (s.size - (kk + 1))
        case measure => omega
        case rel => exact ⟨kk + 1, acc ++ [s[kk]], by omega, by omega, by first | rfl | go_num, (by rw [HE.out]; exact congrArg Value.string (mk_append acc [s[kk]])), by simp; omega, ⟨HV.out⟩, ⟨HB.out⟩⟩
    · have hltz : ¬ (kk : Int) < (s.size : Int) := by omega
      have HV : Hid (T = acc ++ [34]) := by
        show T = _
        rw [← HK.out, List.drop_of_length_le (by rw [← Lib.size_eq]; omega)]
        rfl
      have hms : (mk acc).size ≤ 5000000000000 := by rw [mk_size]; omega
      have ho1 : ¬ 9223372036854775807 < (mk acc).size + 1 := by omega
      go_wp2_with fail
      go_ret
      rw [HV.out]
      exact ⟨congrArg (fun b => Ending.returned (Value.string b)) (mk_append acc [34]), HB.out⟩

end Go.Proofs.YthagibkmfgodgaaGreatDoor.X

namespace Go.Proofs.YthagibkmfgodgaaGreatDoor.X
open Go.RowKit Go.Maps Go.Proofs.YthagibkmfgodgaaGreatDoorW.PrintWords Go.Proofs.YthagibkmfgodgaaGreatDoorW.PrintMore

theorem quoteC_pr (c : UInt8) : ∀ b ∈ quoteC c, 32 ≤ b.toNat ∧ b.toNat ≤ 126 := by
  have key : ∀ n : Nat, n < 256 → ∀ b ∈ quoteC (UInt8.ofNat n), 32 ≤ b.toNat ∧ b.toNat ≤ 126 := by decide +kernel
  have := key c.toNat (UInt8.toNat_lt c)
  rwa [show UInt8.ofNat c.toNat = c by simp] at this
theorem quoteL_pr : ∀ s : Bytes, ∀ b ∈ quoteL s, 32 ≤ b.toNat ∧ b.toNat ≤ 126
  | [], b, h => by cases h
  | c :: r, b, h => by
    rw [quoteL] at h
    rcases List.mem_append.1 h with h | h
    · exact quoteC_pr c b h
    · exact quoteL_pr r b h
theorem quoteF_pr (s : Bytes) : ∀ b ∈ quoteF s, 32 ≤ b.toNat ∧ b.toNat ≤ 126 := by
  intro b h
  rcases List.mem_cons.1 h with rfl | h
  · decide
  · rcases List.mem_append.1 h with h | h
    · exact quoteL_pr s b h
    · rw [List.mem_singleton.1 h]; decide
theorem quoteC_len (c : UInt8) : (quoteC c).length ≤ 4 := by
  unfold quoteC
  split
  · simp
  · split
    · simp
    · split
      · simp
      · split <;> simp
theorem quoteL_len : ∀ s : Bytes, (quoteL s).length ≤ 4 * s.length
  | [] => by simp [quoteL]
  | c :: r => by
    have h1 := quoteC_len c
    have h2 := quoteL_len r
    rw [quoteL, List.length_append, List.length_cons]
    omega
theorem word_quote (s : Bytes) (t : Bytes) : wordF (quoteF s ++ t) = some (2, s, (quoteL s).length + 2) := by
  have h : quoteF s ++ t = 34 :: (quoteL s ++ 34 :: t) := by simp [quoteF]
  rw [h]
  unfold wordF
  rw [if_neg (by rw [runL_cons]; simp [letU, letB])]
  show (if (34 : UInt8) = 34 then Option.map (fun p => (2, p.1, p.2 + 1)) (textF ((quoteL s ++ 34 :: t).length + 1) (quoteL s ++ 34 :: t)) else _) = _
  rw [if_pos rfl, text_quote s t _ (by rw [List.length_append]; simp only [List.length_cons]; omega)]
  rfl
theorem lex_quote (s : Bytes) : allF (32 :: (quoteF s ++ [44])) = .ok [⟨2, 1, mk s⟩, ⟨3, ((1 + (quoteF s).length : Nat) : Int), ⟨#[44]⟩⟩, ⟨4, ((2 + (quoteF s).length : Nat) : Int), ⟨#[]⟩⟩] := by
  have hl : (quoteF s).length = (quoteL s).length + 2 := by simp [quoteF]
  have hd : (quoteF s ++ [44]).drop ((quoteL s).length + 2) = [44] := by rw [← hl]; simp
  have hw : wordF ([44] : Bytes) = some (3, [44], 1) := by decide +kernel
  rw [allF_lexM, lexM_blank (by decide), lexM_word (word_quote s [44])]
  dsimp only
  rw [hd, lexM_word hw]
  dsimp only
  rw [show (List.drop 1 [44] : Bytes) = [] from rfl, lexM_nil]
  rw [show (32 :: (quoteF s ++ [44])).length = 2 + (quoteF s).length by simp; omega, show 0 + 1 + ((quoteL s).length + 2) = 1 + (quoteF s).length by omega]
  rfl
end Go.Proofs.YthagibkmfgodgaaGreatDoor.X

namespace Go.Proofs.YthagibkmfgodgaaGreatDoor.X
open Go.RowKit Go.Maps Go.Proofs.YthagibkmfgodgaaGreatDoorW.PrintWords Go.Proofs.YthagibkmfgodgaaGreatDoorW.PrintMore Go.Proofs.YthagibkmfgodgaaGreatDoorW.PrintLast Go.Proofs.YthagibkmfgodgaaGreatDoor.Pb

set_option maxHeartbeats 8000000 in
set_option maxRecDepth 100000 in
theorem lexQuote_walk (s : ByteArray) (w : World) (hG : GOK w) :
    Calls Tryz.prog 4 #[.string s] w (IsTrue w) := by
  have HG := Lib.hid hG
  clear hG
  obtain ⟨t, ht⟩ : ∃ t, t = mk (s.data.toList.take 60) := ⟨_, rfl⟩
  have htl : t.size ≤ 60 := by rw [ht, mk_size, List.length_take]; omega
  have hSh := fun W hW => shipwrightlaw1_Short.calls s 60 t W hW (by rw [ht]; exact short_f s 60)
  have hQ := fun W => quote_all t (by omega) W
  have hR := fun W => refQuote_all t (by omega) W
  obtain ⟨q, hq⟩ : ∃ q, q = mk (quoteF t.data.toList) := ⟨_, rfl⟩
  have hqd : q.data.toList = quoteF t.data.toList := by rw [hq, mk_data]
  have hqs : q.size ≤ 300 := by
    have h := quoteL_len t.data.toList
    rw [← Lib.size_eq] at h
    rw [Lib.size_eq, hqd]
    simp only [quoteF, List.length_cons, List.length_append, List.length_nil]
    omega
  have hqb : ∀ k (h : k < q.size), 32 ≤ q[k].toNat ∧ q[k].toNat ≤ 126 := by
    intro k h
    refine quoteF_pr t.data.toList _ ?_
    rw [← hqd]
    exact Array.mem_toList_iff.2 (Array.getElem_mem _)
  have hlx : allF ((⟨#[32]⟩ : ByteArray) ++ q ++ (⟨#[44]⟩ : ByteArray)).data.toList = .ok [⟨2, 1, t⟩, ⟨3, ((1 + q.size : Nat) : Int), ⟨#[44]⟩⟩, ⟨4, ((2 + q.size : Nat) : Int), ⟨#[]⟩⟩] := by
    have h := lex_quote t.data.toList
    rw [← hqd, ← Lib.size_eq, show mk t.data.toList = t from rfl] at h
    rw [← h]
    rw [hq]
    rfl
  have hA := fun W => all_calls ((⟨#[32]⟩ : ByteArray) ++ q ++ (⟨#[44]⟩ : ByteArray)) (by rw [ByteArray.size_append, ByteArray.size_append]; show 1 + q.size + 1 ≤ _; omega) W
  rw [hlx, show ∀ l, allR (.ok l) = (l, 0, 0) from fun _ => rfl] at hA
  rw [← hq] at hQ hR
  have HQB := Lib.hid hqb
  have n1 : ¬ 9223372036854775807 < 1 + q.size := by omega
  have n2 : ¬ 9223372036854775807 < 1 + q.size + 1 := by omega
  clear ht hq hqd hlx hqb
  go_enter Tryz.func4, Tryz.ntmps4
  go_wp2_with fail
  refine (begun4_calls _ HG.out).mono ?_
  rintro e w1 ⟨rfl, hb1⟩
  have HB1 := Lib.hid hb1
  clear hb1
  go_wp2_with fail
  refine (hSh _ (HG.out.below HB1.out)).mono ?_
  rintro e w2 ⟨rfl, hb2⟩
  have HB2 := Lib.hid (below_then HB1.out HB1.out.size hb2)
  clear hb2 HB1 hSh
  go_wp2_with fail
  refine (hQ _).mono ?_
  rintro e w3 ⟨rfl, hb3⟩
  have HB3 := Lib.hid (below_then HB2.out HB2.out.size hb3)
  clear hb3 HB2 hQ
  go_wp2_with fail
  refine (hA _).mono ?_
  rintro e w4 ⟨v, rfl, hW, hb4⟩
  obtain ⟨A, c, rfl, _, hr4⟩ := Kd.R_reads hW
  have hE := blk_new w4 (.cells #[.int .i64 0, .int .i64 0] 27)
  have hb5 := (Below.refl w4.heap.size w4).alloc (Nat.le_refl _) (.cells #[.int .i64 0, .int .i64 0] 27)
  have HR5 := Lib.hid (Kd.C_below hr4 hb5)
  have HE5 := Lib.hid hE
  have HB5 := Lib.hid (below_then (below_then HB3.out HB3.out.size hb4) (below_then HB3.out HB3.out.size hb4).size hb5)
  clear hA hW hr4 hE hb4 hb5 HB3
  go_wp2_with fail
  generalize w4.alloc (.cells #[.int .i64 0, .int .i64 0] 27) = w5 at HR5 HE5 HB5 ⊢
  generalize w4.heap.size = E1 at HE5 ⊢
  refine (hR _).mono ?_
  rintro e w6 ⟨rfl, hb6⟩
  have h1 := blk_below HE5.out hb6
  have k10 : w6.cell? ⟨E1, 0, none⟩ = some (.int .i64 0) := (blk_cell h1 0).trans rfl
  have HR6 := Lib.hid (Kd.C_below HR5.out hb6)
  have HB6 := Lib.hid (below_then HB5.out HB5.out.size hb6)
  clear h1 hb6 HR5 HE5 HB5 hR
  go_wp2_with fail
  go_loopg [7] q.size (fun gg s7 wr => ∃ kk : Nat, kk ≤ q.size ∧ q.size - kk ≤ gg ∧ s7 = .int .i64 kk ∧ wr = w6)
  case atStart => exact ⟨0, Nat.zero_le _, by omega, rfl, rfl⟩
  case round =>
    obtain ⟨kk, hkk, hgk, rfl, rfl⟩ := hrel
    by_cases hlt : kk < q.size
    · have hltz : (kk : Int) < (q.size : Int) := by omega
      have hb := HQB.out kk hlt
      have e1 : decide ((q[kk].toNat : Int) < 32) = false := by simp; omega
      have e2 : decide ((126 : Int) < (q[kk].toNat : Int)) = false := by simp; omega
      clear hb
      go_wp2_with fail
      go_roundg (q.size - (kk + 1))
      case measure => omega
      case rel => exact ⟨kk + 1, by omega, by omega, by go_num, rfl⟩
    · have hltz : ¬ (kk : Int) < (q.size : Int) := by omega
      obtain ⟨a0, rfl, p00, p01, p02⟩ := at_T34 HR6.out 0 (by omega) (by show (0 : Int) < 3; decide)
      obtain ⟨a1, ea, _, p11, _⟩ := at_T34 HR6.out 1 (by omega) (by show (1 : Int) < 3; decide)
      injection ea with ea
      subst ea
      have e00 : rd_T34 [(⟨2, 1, t⟩ : SWord), ⟨3, ((1 + q.size : Nat) : Int), ⟨#[44]⟩⟩, ⟨4, ((2 + q.size : Nat) : Int), ⟨#[]⟩⟩] 0 = ⟨2, 1, t⟩ := rfl
      have e01 : rd_T34 [(⟨2, 1, t⟩ : SWord), ⟨3, ((1 + q.size : Nat) : Int), ⟨#[44]⟩⟩, ⟨4, ((2 + q.size : Nat) : Int), ⟨#[]⟩⟩] 1 = ⟨3, ((1 + q.size : Nat) : Int), ⟨#[44]⟩⟩ := rfl
      rw [e00] at p00 p01 p02
      rw [e01] at p11
      have z : a0.add 0 = a0 := by simp [Addr.add]
      replace p00 : wr.cell? a0 = some (.int .i64 2) := by rw [← z]; exact p00
      replace p01 : wr.cell? ⟨a0.block, a0.off + 1, none⟩ = some (.int .i64 1) := by rw [← z]; exact p01
      replace p02 : wr.cell? ⟨a0.block, a0.off + 2, none⟩ = some (.string t) := by rw [← z]; exact p02
      have z3 : a0.add 3 = ⟨a0.block, a0.off + 3, none⟩ := by simp [Addr.add]
      replace p11 : wr.cell? ⟨a0.block, a0.off + 3 + 1, none⟩ = some (.int .i64 (1 + (q.size : Int))) := by
        rw [show (⟨a0.block, a0.off + 3 + 1, none⟩ : Addr) = ⟨(a0.add 3).block, (a0.add 3).off + 1, none⟩ by rw [z3], show (1 + (q.size : Int)) = ((1 + q.size : Nat) : Int) by omega]
        exact p11
      have ow : ¬ (9223372036854775807 : Int) < 1 + (q.size : Int) := by omega
      clear e00 e01 HR6 z z3
      go_wp2_with fail
      go_ret
      exact ⟨rfl, HB6.out⟩

def shipwrightlaw4_LexQuote.f (_ : ByteArray) : Option Bool := some true
theorem shipwrightlaw4_LexQuote.calls (s : ByteArray) (r : Bool) (w : World) (hG : GOK w) (h : shipwrightlaw4_LexQuote.f s = some r) :
    Calls Tryz.prog 4 #[.string s] w fun e w' => e = .returned (.bool r) ∧ Below w.heap.size w w' := by
  obtain rfl := Option.some.inj h
  exact lexQuote_walk s w hG
theorem pure_LexQuote (s : ByteArray) {p : Prop} (_ : p) : shipwrightlaw4_LexQuote.f s = some true := rfl

end Go.Proofs.YthagibkmfgodgaaGreatDoor.X
