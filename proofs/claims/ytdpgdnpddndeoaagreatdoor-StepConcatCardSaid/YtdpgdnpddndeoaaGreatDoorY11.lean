/-
  What the cards lean on (part Y11): contracts of functions, by hand, and plain laws; what is printed by the kit's print for this seat is among them. What is not reached is left out.
-/
import Derived.Deep.RegionLaw
import Derived.Test.YtdpgdnpddndeoaaGreatDoorY10
import Derived.Test.YtdpgdnpddndeoaaGreatDoorY6
import Derived.Test.YtdpgdnpddndeoaaGreatDoorY7
set_option maxHeartbeats 16000000
set_option maxRecDepth 100000
set_option linter.unusedSimpArgs false
set_option linter.unusedVariables false
open Go.RowKit.Below renaming refl -> zno
open Nat renaming le_refl -> znp, zero_le -> zn8, le_succ -> zoS
open Go.Lib renaming size_eq -> znY
open Go.World.grownBy renaming trans -> znx
open List renaming length_map -> zn0, length_take -> znA, length_append -> znC, take_length -> zn1, take_succ_eq_append_getElem -> znO, length_cons -> zn5, map_append -> zoc, getElem_mem -> zoy
open Int renaming toNat_natCast -> zoC

namespace Go.Proofs.YtdpgdnpddndeoaaGreatDoor.X
open Go.RowKit Go.Maps Go.Proofs.YtdpgdnpddndeoaaGreatDoorW.PrintWords Go.Proofs.YtdpgdnpddndeoaaGreatDoorW.PrintMore Go.Proofs.YtdpgdnpddndeoaaGreatDoorW.PrintLast
def zgB (a b : SVal) : Bool := a.f0 == b.f0 && (!a.f0 || a.f1.toList == b.f1.toList)
theorem zlf (a b : SVal) (w : World) : Calls Tryz.prog 52 #[aggV a, aggV b] w fun e w' => e = .returned (.bool (zgB a b)) /\ Below w.heap.size w w' := by
 obtain ⟨a0, a1⟩ := a; obtain ⟨b0, b1⟩ := b; have hW := ((zno w.heap.size w).alloc (znp _) (.cells #[.bool a0, .string a1] 34)).alloc ((zno w.heap.size w).alloc (znp _) (.cells #[.bool a0, .string a1] 34)).size (.cells #[.bool b0, .string b1] 34); have HW := znl hW; clear hW; unfold aggV; cases a0 <;> cases b0 <;> (
  go_enter Tryz.func52, Tryz.ntmps52
  go_wp2_with fail; go_ret
  exact ⟨by unfold zgB; rfl, HW.out⟩)

theorem zm2 : ∀ args w, (callFunc 108 args).run Tryz.prog w = .ok (.enter 108 args) w := Go.Proofs.enters_of Tryz.func108 (by kernel_rfl) rfl
theorem zmg (K : Nat) (name : ByteArray) (r : zai) (B1 : Option Addr) (c1 : Nat) (B2 : Option Addr) (c2 : Nat) (B3 : Option Addr) (c3 : Nat) (B4 : Option Addr) (c4 : Nat) (w : World) (hk : w.cell? ⟨K, 0, none⟩ = some (.string name)) (h2 : Kd.C Kd.string w B2 r.f2.length r.f2) :
 Calls Tryz.prog 108 #[.agg (zaq r B1 c1 B2 c2 B3 c3 B4 c4), .pointer (some ⟨K, 0, none⟩)] w fun e w' => e = .returned (.bool ((zac r.f2).contains name.data.toList)) /\ Below w.heap.size w w' := by
 have hb3 := (zno w.heap.size w).alloc (znp _) (.cells (zaq r B1 c1 B2 c2 B3 c3 B4 c4) 45); have HX3 := znl (zao w (.cells (zaq r B1 c1 B2 c2 B3 c3 B4 c4) 45)); have HB3 := znl hb3; have hct := zc2 B2 c2 r.f2 name _ (Kd.C_below h2 hb3); replace hk := zaf hb3 hk
 unfold zaq at *; clear hb3 h2; generalize (zac r.f2).contains name.data.toList = q at hct |-; go_enter Tryz.func108, Tryz.ntmps108
 go_upto_region 1 with fail; generalize w.alloc (.cells #[.string r.f0, .slice B1 r.f1.length c1, .slice B2 r.f2.length c2, .slice B3 r.f3.length c3, .slice B4 r.f4.length c4] 45) = w3 at HX3 HB3 hct hk |-; have x2 : w3.cell? ⟨w.heap.size, 2, none⟩ = some (.slice B2 r.f2.length c2) := (zaa HX3.out 2).trans rfl; go_wp2_with (first | (go_at_call 92; refine hct.mono ?_; rintro e w6 ⟨rfl, rfl⟩))
 go_ret
 exact ⟨rfl, HB3.out⟩
theorem zmc (K : Nat) (name : ByteArray) (A : Option Addr) (c : Nat) (rs : List zai) (w : World) (hl0 : rs.length <= 1000) (hr : Kd.C k45 w A rs.length rs) (hk : w.cell? ⟨K, 0, none⟩ = some (.string name)) :
 Calls Tryz.prog 107 #[.slice A rs.length c, .func (.func 108) #[] #[.pointer (some ⟨K, 0, none⟩)]] w fun e w' => ((zb9 rs name.data.toList = none /\ e = .returned (.int .i64 (-1))) \/ ∃ (i : Nat) (h : i < rs.length), e = .returned (.int .i64 i) /\ zb9 rs name.data.toList = some rs[i]) /\ Below w.heap.size w w' := by
 have HR := znl hr; have HK := znl hk; have eg := zm2; obtain ⟨p, hp⟩ : ∃ p : zai -> Bool, p = fun r => (zac r.f2).contains name.data.toList := ⟨_, rfl⟩
 have hpf : zb9 rs name.data.toList = rs.find? p := by rw [hp]; rfl
 rw [hpf]; have HPd := znl hp; clear hr hk hp hpf; go_enter Tryz.func107, Tryz.ntmps107
 go_wp2_with fail; go_loopg [5, 8] rs.length (fun gg _ s8 wr => ∃ kk : Nat, kk <= rs.length /\ rs.length - kk <= gg /\ s8 = .int .i64 kk /\ Aside0 (Below w.heap.size w wr) /\ Aside0 ((rs.take kk).any p = false))
 case atStart => exact ⟨0, zn8 _, by omega, rfl, ⟨zno _ _⟩, ⟨rfl⟩⟩
 case round =>
  obtain ⟨kk, hkk, hgk, rfl, HB, HN⟩ := hrel; by_cases hlt : kk < rs.length
  . have hltz : (kk : Int) < (rs.length : Int) := by omega
    obtain ⟨b, o, B1, c1, B2, c2, B3, c3, B4, c4, rfl, p0, p1, p2, p3, p4, hA, hC⟩ := zcG (Kd.C_below HR.out HB.out) kk hlt; have hst := ze1 p rs kk hlt; rw [HN.out, Bool.false_or] at hst; have hfd := zfM p rs kk hlt HN.out; have hcall := zmg K name rs[kk] B1 c1 B2 c2 B3 c3 B4 c4 wr (zaf HB.out HK.out) hA.h2; have hpk : (zac rs[kk].f2).contains name.data.toList = p rs[kk] := by rw [HPd.out]
    rw [hpk] at hcall; have HSt := znl hst; have HFd := znl hfd; obtain ⟨q, hq⟩ : ∃ q, q = p rs[kk] := ⟨_, rfl⟩; rw [<- hq] at hcall; have HQ := znl hq; generalize rs[kk] = x at p0 p1 p2 p3 p4 hcall; unfold zaq at hcall; clear hst hfd hA hC hpk hq; cases q with
    | true =>
     have HF2 := znl (HFd.out HQ.out.symm); go_wp2_with (first | (go_at_fn 108; refine hcall.mono ?_; rintro e w2 ⟨rfl, hb2⟩; have HB2 := znl (zad HB.out HB.out.size hb2); clear hb2))
     go_ret
     exact ⟨.inr ⟨kk, hlt, rfl, HF2.out⟩, HB2.out⟩
    | false =>
     have HN2 : Hid ((rs.take (kk + 1)).any p = false) := znl (by rw [HSt.out]; exact HQ.out.symm)
     go_wp2_with (first | (go_at_fn 108; refine hcall.mono ?_; rintro e w2 ⟨rfl, hb2⟩; have HB2 := znl (zad HB.out HB.out.size hb2); clear hb2))
     go_roundg (rs.length - (kk + 1))
     case measure => omega
     case rel => exact ⟨kk + 1, by omega, by omega, by first | rfl | go_num, ⟨HB2.out⟩, ⟨HN2.out⟩⟩
  . have hltz : ¬ (kk : Int) < (rs.length : Int) := by omega
    obtain rfl : kk = rs.length := by omega
    have hN := HN.out; rw [zn1] at hN; have HF2 := znl (zfc p rs hN); clear hN; go_wp2_with fail; go_ret
    exact ⟨.inl ⟨by first | exact HF2.out | (intro x hx; simpa using List.find?_eq_none.1 HF2.out x hx), rfl⟩, HB.out⟩

section
variable {rs : List zai} {rank : zab -> Nat} {m : TM} {w0 : World} {A : Option Addr} {c gt bt M D : Nat} {w : World} {st : zab -> Option SVal}
theorem DSt.below {w' : World} (h : DSt rs rank m w0 A c gt bt M D w st) (hb : Below w.heap.size w w') : DSt rs rank m w0 A c gt bt M D w' st :=
 ⟨zah h.c hb, h.d.below hb, h.ok, zad h.b h.b.size hb, h.lo⟩
theorem DSt.belowL {w' : World} {L : Nat} (h : DSt rs rank m w0 A c gt bt M D w st) (hb : Below L w w') (h1 : M < L) (h2 : D < L) (h3 : w0.heap.size <= L) : DSt rs rank m w0 A c gt bt M D w' st := by
 obtain ⟨f, ⟨Dm, ho, hf⟩, h4⟩ := h.d; exact ⟨(hb.block M h1).trans h.c, ⟨f, MapIs.kept ⟨Dm, ho, hf⟩ (hb.block D h2), h4⟩, h.ok, h.b.trans (hb.mono h3), h.lo⟩
theorem zep {a b c : World} {row : Option Nat} (h : a.grownBy b row) (k : Below a.heap.size b c) : a.grownBy c row := ⟨k.os.trans h.os, k.tape.trans h.tape, k.output.trans h.output, Nat.le_trans h.size k.size, fun i hi hne => (k.block i hi).trans (h.block i hi hne)⟩
theorem zcI {a b : World} {D : Nat} {p : Addr} {v : Value} (h : a.cell? p = some v) (hg : a.grownBy b (some D)) (hD : ∀ (g t : Nat) (cs : Array Value) (fr : Nat × Nat), a.heap[g]? = some (Obj.cells cs t fr) -> D ≠ g) : b.cell? p = some v := by
 obtain ⟨cs, t, fr, hb⟩ := zgl h; have h5 := hg.block _ (Array.getElem?_eq_some_iff.1 hb).1 (by intro e; injection e with e; exact hD _ _ _ _ hb e.symm)
 unfold World.cell? at h |-; rw [h5]; exact h
theorem zm8 {a b : World} {D base : Nat} {v : Value} {l : List SVal} (h : RVal a base v l) (hg : a.grownBy b (some D)) (hD : D < base) : RVal b base v l :=
 Kd.R_mono (Kd.R_grown (Kd.R_bound h) hg (fun k hk e => by injection e with e; have := hk.2.1; omega)) (fun _ _ => trivial)
theorem DSt.cells (h : DSt rs rank m w0 A c gt bt M D w st) : w.cell? ⟨M, 0, none⟩ = some (.slice A rs.length c) /\ w.cell? ⟨M, 1, none⟩ = some (.pointer (some ⟨gt, 0, none⟩)) /\ w.cell? ⟨M, 2, none⟩ = some (.map (some D)) := ⟨(zaa h.c 0).trans rfl, (zaa h.c 1).trans rfl, (zaa h.c 2).trans rfl⟩
theorem zm4 {rs : List zai} (hF : zcc rs) : (zbT rs).length <= 1000000 := by
 have key : ∀ l : List zai, (∀ r ∈ l, r.f2.length <= 1000) -> (zbT l).length <= l.length * 1000 := by
  intro l; induction l with
  | nil => intro _; exact zn8 _
  | cons r l ih =>
   intro h; have h1 := ih (fun q hq => h q (List.mem_cons_of_mem _ hq))
   have h2 := h r List.mem_cons_self; have e : (zbT (r :: l)).length = r.f2.length + (zbT l).length := by
    unfold zbT; rw [List.flatMap_cons, znC, zaZ]
   rw [e, zn5, Nat.succ_mul]; omega
 have h1 := key rs (fun r hr => (hF.fit r hr).1.outs)
 have h2 : rs.length * 1000 <= 1000 * 1000 := Nat.mul_le_mul_right _ hF.len; omega
theorem DSt.put (h : DSt rs rank m w0 A c gt bt M D w st) (hF : zcc rs) (k : ByteArray) (hs : k.size <= maxLen) (hk : k.data.toList ∈ zbT rs) :
 ∃ w', (Instr.mapUpdate 91 (.map (some D)) (.string k) (aggV (valF rs rank (getT m) k.data.toList))).run Tryz.prog w = .ok () w' /\ DSt rs rank m w0 A c gt bt M D w' (setG st k.data.toList (valF rs rank (getT m) k.data.toList)) /\ w.grownBy w' (some D) := by
 have hl := zm4 hF; obtain ⟨w', hrun, hd, hg⟩ := h.d.put (by unfold maxLen; omega) k hs (valF rs rank (getT m) k.data.toList)
 have hok : ∀ x v, setG st k.data.toList (valF rs rank (getT m) k.data.toList) x = some v -> v = valF rs rank (getT m) x /\ x ∈ zbT rs := by
  intro x v hx; unfold setG at hx; split at hx
  . rename_i e
    cases hx
    rw [e]; exact ⟨rfl, hk⟩
  . exact h.ok x v hx
 refine ⟨w', hrun, ⟨zaK h.c hg (by intro e; injection e with e; exact h.d.ne_cells h.c e.symm), hd.tight (zbT rs) (fun x hx => ?_), hok, h.b.grown hg h.b.size (fun j hj => by cases hj; exact h.lo), h.lo⟩, hg⟩
 obtain ⟨v, hv⟩ := Option.isSome_iff_exists.1 hx; exact (hok x v hv).2
end
theorem zfo {fn : Func} {t : Tmp} {ty : TypeId} (h : fn.results = #[.cell t ty]) (tmps : Array Value) (P : Program) (w : World) {a : Addr} {v : Value} (ha : tmps.getD t undef = .pointer (some a)) (hv : (loadVar ty a).run P w = .ok v w) : (results fn tmps).run P w = .ok v w := by
 have ha' : tmps[t]?.getD undef = .pointer (some a) := by simpa using ha
 simp [results, h, ha', asAddr, hv, Result.andThen]
theorem zeD {w : World} {R : Nat} {a : Bool} {b : ByteArray} (h : w.heap[R]? = some (.cells #[.bool a, .string b] 34 (0, 0))) : (loadVar 34 ⟨R, 0, none⟩).run Tryz.prog w = .ok (.agg #[.bool a, .string b]) w := by
 exact run_loadVar_row w R _ 34 _ _ _ h Tryz.underlying34 rfl (by kernel_rfl)
def zdC (rs : List zai) (rank : zab -> Nat) (m : TM) (w0 : World) (A : Option Addr) (c gt bt M D : Nat) (v : SVal) (w : World) (e : Ending) (w' : World) : Prop := e = .returned (aggV v) /\ (∃ st', DSt rs rank m w0 A c gt bt M D w' st') /\ w.grownBy w' (some D)
theorem zlV (rs : List zai) (rank : zab -> Nat) (m : TM) (w0 : World) (A : Option Addr) (c gt bt M D : Nat) (hM : Mean rs rank) (hrd : ∀ k v, getT m k = some v -> v.length <= 4194304) (hr0 : Kd.C k45 w0 A rs.length rs) (hT : IsTree w0 gt bt m) (hG : GOK w0) (N : Nat)
 (hN : ∀ (name : ByteArray) (w : World) (st : zab -> Option SVal), rank name.data.toList < N -> name.size <= maxLen -> DSt rs rank m w0 A c gt bt M D w st -> Calls Tryz.prog 74 #[.pointer (some ⟨M, 0, none⟩), .string name] w (zdC rs rank m w0 A c gt bt M D (valF rs rank (getT m) name.data.toList) w))
 (name : ByteArray) (w : World) (st : zab -> Option SVal) (hrk : rank name.data.toList < N + 1) (hns : name.size <= maxLen) (hD : DSt rs rank m w0 A c gt bt M D w st) :
 Calls Tryz.prog 74 #[.pointer (some ⟨M, 0, none⟩), .string name] w (zdC rs rank m w0 A c gt bt M D (valF rs rank (getT m) name.data.toList) w) := by
 have hF := hM.fit; have hn := hF.len; have hb1 := ((zno w.heap.size w).alloc (znp _) (.cells #[.string name] 9)); have hb2 := hb1.alloc hb1.size (.cells #[.bool false, .string ⟨#[]⟩] 34); have hs1 : (w.alloc (.cells #[.string name] 9)).heap.size = w.heap.size + 1 := by simp
 have hx1 := zav (zao w (.cells #[.string name] 9)) (.cells #[.bool false, .string ⟨#[]⟩] 34); have hx2 := zao (w.alloc (.cells #[.string name] 9)) (.cells #[.bool false, .string ⟨#[]⟩] 34); rw [hs1] at hx2; have HX1 := znl hx1; have HX2 := znl hx2; have HD2 := znl (hD.below hb2); have HD0 := znl hD; have HB2 := znl hb2; have HNs := znl hns; have HRk := znl hrk; have HNr := znl hN; have HR0 := znl hr0; have HT0 := znl hT; have HG0 := znl hG; have HF := znl hF; have HM := znl hM; have HDn : Hid (D < w.heap.size) := znl hD.d.lt; clear hb1 hb2 hs1 hx1 hx2 hD hns hrk hN hr0 hT hG hF; go_enter Tryz.func74, Tryz.ntmps74
 go_upto_region 1 with fail; generalize (w.alloc (.cells #[.string name] 9)).alloc (.cells #[.bool false, .string ⟨#[]⟩] 34) = w2 at HX1 HX2 HD2 HB2 |-; have hlk := HD2.out.d.look2 name HNs.out; obtain ⟨m0, m1, m2⟩ := HD2.out.cells; have n0 : w2.cell? ⟨w.heap.size, 0, none⟩ = some (.string name) := (zaa HX1.out 0).trans rfl; obtain ⟨lv, hlv⟩ : ∃ lv, lv = aggV ((st name.data.toList).getD zV) := ⟨_, rfl⟩; obtain ⟨li, hli⟩ : ∃ li, li = (st name.data.toList).isSome := ⟨_, rfl⟩; have HSo : Hid (∀ W, Below w2.heap.size w2 W -> W.cell? ⟨M, 2, none⟩ = some (.map (some D)) /\ W.cell? ⟨w.heap.size, 0, none⟩ = some (.string name) /\ (Instr.lookup 91 (.map (some D)) (.string name) true).run Tryz.prog W = .ok (.tuple #[lv, .bool li]) W) := znl (fun W hW => by
  have hd := HD2.out.below hW; exact ⟨hd.cells.2.2, (zaa (zah HX1.out hW) 0).trans rfl, by rw [hlv, hli]; exact hd.d.look2 name HNs.out⟩)
 have HLv := znl hlv; have HLi := znl hli; have HBx : Hid (Below w2.heap.size w2 w2.drew) := znl (zbh (zno _ _)); obtain ⟨q0, q1, hq⟩ : ∃ q0 q1, lv = .agg #[.bool q0, .string q1] := ⟨_, _, hlv⟩; have HQ := znl hq; rw [<- hlv, <- hli] at hlk; clear hlv hli; subst hq; go_region_held3 (fun W => W.cell? ⟨M, 2, none⟩ = some (.map (some D)) /\ W.cell? ⟨w.heap.size, 0, none⟩ = some (.string name) /\ (Instr.lookup 91 (.map (some D)) (.string name) true).run Tryz.prog W = .ok (.tuple #[.agg #[.bool q0, .string q1], .bool li]) W)
  (first | exact HSo.out _ (zno _ _) | exact HSo.out _ HBx.out | exact HSo.out _ (HBx.out.alloc HBx.out.size _))
  (fail)
 all_goals
  have hb3 := ((zno w2.heap.size w2).alloc (znp _) (.cells #[.bool q0, .string q1] 34)); have HX3 : Hid (((w2.alloc (.cells #[.bool q0, .string q1] 34)).drew).heap[w2.heap.size]? = some (.cells #[.bool q0, .string q1] 34 (0, 0))) := znl (zaN (zao w2 _)); have HB3 : Hid (Below w2.heap.size w2 ((w2.alloc (.cells #[.bool q0, .string q1] 34)).drew)) := znl (zbh hb3); clear hb3; generalize (w2.alloc (.cells #[.bool q0, .string q1] 34)).drew = w3 at HX3 HB3 |-; have HN3 := znl (zah HX1.out HB3.out); have HR3 := znl (zah HX2.out HB3.out); have HD3 := znl (HD2.out.below HB3.out); have HW3 := znl (zad HB2.out HB2.out.size HB3.out); clear hlk m0 m1 m2 n0 HSo HBx HX1 HX2 HD2; cases hst : st name.data.toList with
  | some v =>
   have HV := znl (HD3.out.ok _ _ hst).1; have hq := HQ.out; have hl := HLi.out; have hlv := HLv.out; rw [hst] at hl hlv; simp only [Option.isSome_some] at hl; subst hl; have HE : Hid (aggV (valF rs rank (getT m) name.data.toList) = .agg #[.bool q0, .string q1]) := znl (by rw [<- HV.out]; exact hlv.symm)
   have v0 : w3.cell? ⟨w2.heap.size, 0, none⟩ = some (.bool q0) := (zaa HX3.out 0).trans rfl; have v1 : w3.cell? ⟨w2.heap.size, 1, none⟩ = some (.string q1) := (zaa HX3.out 1).trans rfl; have r0 : w3.cell? ⟨w.heap.size + 1, 0, none⟩ = some (.bool false) := (zaa HR3.out 0).trans rfl; have r1 : w3.cell? ⟨w.heap.size + 1, 1, none⟩ = some (.string ⟨#[]⟩) := (zaa HR3.out 1).trans rfl; have f0 := zag HR3.out 0; have f1 := zag HR3.out 1; clear hq hlv hst; go_wp2_with fail; have HY3 : Hid (((w3.setCell ⟨w.heap.size + 1, 0, none⟩ (.bool q0)).setCell ⟨w.heap.size + 1, 1, none⟩ (.string q1)).heap[w.heap.size + 1]? = some (.cells #[.bool q0, .string q1] 34 (0, 0))) := znl (zar (zar HR3.out 0 _ rfl) 1 _ rfl); have HB4 := znl ((HW3.out.setCell (p := ⟨w.heap.size + 1, 0, none⟩) (zoS _) (.bool q0)).setCell (p := ⟨w.heap.size + 1, 1, none⟩) (zoS _) (.string q1)); generalize (w3.setCell ⟨w.heap.size + 1, 0, none⟩ (.bool q0)).setCell ⟨w.heap.size + 1, 1, none⟩ (.string q1) = w4 at HY3 HB4 |-; try simp only [Exit.inBlock, Exit.then]
   refine bodyPost_ret (zfo rfl _ _ _ rfl (zeD HY3.out)) rfl ?_; exact ⟨by rw [HE.out], ⟨st, HD0.out.below HB4.out⟩, zb2 HB4.out _⟩
  | none =>
   have hl := HLi.out; rw [hst] at hl; simp only [Option.isSome_none] at hl; subst hl; have hIx := zmc w.heap.size name A c rs w3 hn (Kd.C_below HR0.out HD3.out.b) ((zaa HN3.out 0).trans rfl); obtain ⟨m0, m1, m2⟩ := HD3.out.cells; have HIx := znl hIx; clear hIx HLi HLv HQ HX3; cases hp : zb9 rs name.data.toList with
   | none =>
    have HIx2 := znl (HIx.out.mono (R' := fun e w' => e = .returned (.int .i64 (-1)) /\ Below w3.heap.size w3 w') (fun e w' ⟨h, hb⟩ => by
     rcases h with ⟨_, he⟩ | ⟨i, hi, _, hf⟩
     . exact ⟨he, hb⟩
     . rw [hp] at hf; cases hf))
    have HV := znl (zkH (rank := rank) (rd := getT m) hp); clear HIx hp hst; go_upto_region 6 with (first | (go_at_call 107; refine HIx2.out.mono ?_; rintro e w5 ⟨rfl, hb5⟩; have HB5 := znl hb5; clear hb5))
    have HSo : Hid (∀ W, Below w3.heap.size w3 W -> W.cell? ⟨M, 1, none⟩ = some (.pointer (some ⟨gt, 0, none⟩)) /\ W.cell? ⟨w.heap.size, 0, none⟩ = some (.string name)) := znl (fun W hW => ⟨(HD3.out.below hW).cells.2.1, (zaa (zah HN3.out hW) 0).trans rfl⟩)
    have HTr : Hid (∀ W, Below w3.heap.size w3 W -> Calls Tryz.prog 109 #[.pointer (some ⟨gt, 0, none⟩), .string name] W fun e w' => e = .returned (.tuple #[.string (mk ((getT m name.data.toList).getD [])), .bool (getT m name.data.toList).isSome]) /\ Drawn0 W w') := znl (fun W hW => tree_Read.calls W gt bt m (HT0.out.below (HD3.out.below hW).b) name HNs.out)
    have HBx : Hid (Below w3.heap.size w3 w5.drew) := znl (zbh HB5.out); clear m0 m1 m2 HIx2; generalize mk ((getT m name.data.toList).getD []) = q2 at HTr HV; generalize (getT m name.data.toList).isSome = q3 at HTr HV; go_region_held3 (fun W => W.cell? ⟨M, 1, none⟩ = some (.pointer (some ⟨gt, 0, none⟩)) /\ W.cell? ⟨w.heap.size, 0, none⟩ = some (.string name))
     (first | exact HSo.out _ HB5.out | exact HSo.out _ HBx.out)
     (first | (go_at_call 109; refine (HTr.out _ HBx.out).mono ?_; rintro e w6 ⟨rfl, hd6⟩; have HBx := znl (zad HBx.out HBx.out.size hd6.below); clear hd6))
    all_goals
     have HR6 := znl (zah HR3.out HBx.out); have r0 : w6.cell? ⟨w.heap.size + 1, 0, none⟩ = some (.bool false) := (zaa HR6.out 0).trans rfl; have r1 : w6.cell? ⟨w.heap.size + 1, 1, none⟩ = some (.string ⟨#[]⟩) := (zaa HR6.out 1).trans rfl; have f0 := zag HR6.out 0; have f1 := zag HR6.out 1; go_wp2_with fail; have HY7 : Hid (((w6.setCell ⟨w.heap.size + 1, 0, none⟩ (.bool q3)).setCell ⟨w.heap.size + 1, 1, none⟩ (.string q2)).heap[w.heap.size + 1]? = some (.cells #[.bool q3, .string q2] 34 (0, 0))) := znl (zar (zar HR6.out 0 _ rfl) 1 _ rfl); have HB7 := znl (((HW3.out.trans (HBx.out.mono HW3.out.size)).setCell (p := ⟨w.heap.size + 1, 0, none⟩) (zoS _) (.bool q3)).setCell (p := ⟨w.heap.size + 1, 1, none⟩) (zoS _) (.string q2)); generalize (w6.setCell ⟨w.heap.size + 1, 0, none⟩ (.bool q3)).setCell ⟨w.heap.size + 1, 1, none⟩ (.string q2) = w7 at HY7 HB7 |-; try simp only [Exit.inBlock, Exit.then]
     refine bodyPost_ret (zfo rfl _ _ _ rfl (zeD HY7.out)) rfl ?_; exact ⟨by rw [HV.out]; rfl, ⟨st, HD0.out.below HB7.out⟩, zb2 HB7.out _⟩
   | some r =>
    have HIx2 := znl (HIx.out.mono (R' := fun e w' => ∃ (i : Nat) (h : i < rs.length), e = .returned (.int .i64 i) /\ rs[i] = r /\ Below w3.heap.size w3 w') (fun e w' ⟨h, hb⟩ => by
     rcases h with ⟨hf, _⟩ | ⟨i, hi, he, hf⟩
     . rw [hp] at hf; cases hf
     . exact ⟨i, hi, he, (Option.some.inj (hp.symm.trans hf)).symm, hb⟩))
    obtain ⟨hrm, on, hon, hone⟩ := zgG hp; obtain ⟨hfr, _, _, _⟩ := HF.out.fit r hrm; have HFr := znl hfr; have HLow : Hid (∀ i ∈ r.f1, rank i.data.toList < N /\ i.size <= maxLen) := znl (fun i hi => ⟨by have := hM.lower hp hi; have := HRk.out; omega, hfr.insN i hi⟩)
    have HRS := znl (ziQ (rank := rank) hM (rd := getT m) hrm); have HOn : Hid (∃ o ∈ r.f2, o.data.toList = name.data.toList) := znl ⟨on, hon, hone⟩; have HOv : Hid (∀ o ∈ r.f2, o.data.toList ∈ zbT rs /\ o.size <= maxLen) := znl (fun o ho => ⟨zm5 hrm ho, hfr.outsN o ho⟩)
    have hl1 := hfr.ins; have hl2 := hfr.outs; clear HIx hp hst hrm hon hone hfr; go_upto_region 8 with (first | (go_at_call 107; refine HIx2.out.mono ?_; rintro e w5 ⟨i, hi, rfl, hir, hb5⟩; have HB5 := znl hb5; have HIr := znl hir; clear hb5 hir))
    have hiz : (i : Int) < (rs.length : Int) := by omega
    have HD5 := znl (HD3.out.below HB5.out); obtain ⟨b, o, B1, c1, B2, c2, B3, c3, B4, c4, rfl, p0, p1, p2, p3, p4, hA, hC⟩ := zcG HR0.out i hi; replace p0 := zaf HD5.out.b p0
    replace p1 := zaf HD5.out.b p1
    replace p2 := zaf HD5.out.b p2
    replace p3 := zaf HD5.out.b p3
    replace p4 := zaf HD5.out.b p4
    rw [HIr.out] at p0 p1 p2 p3 p4 hA; obtain ⟨n0, n1, n2⟩ := HD5.out.cells; have hb6 := (zno w5.heap.size w5).alloc (znp _) (.cells (zaq r B1 c1 B2 c2 B3 c3 B4 c4) 45); have HX6 := znl (zao w5 (.cells (zaq r B1 c1 B2 c2 B3 c3 B4 c4) 45)); have HA0 := znl hA; have HD6 := znl (HD5.out.below hb6); have HB6 : Hid (Below w3.heap.size w3 _) := znl (zad HB5.out HB5.out.size hb6); clear hb6 hA hC m0 m1 m2; unfold zaq at HX6 HD6 HB6; go_upto_region 10 with fail; generalize hxb : w5.heap.size = XB at HX6 |-; generalize w5.alloc (.cells #[.string r.f0, .slice B1 r.f1.length c1, .slice B2 r.f2.length c2, .slice B3 r.f3.length c3, .slice B4 r.f4.length c4] 45) = w6 at HX6 HD6 HB6 |-; clear hxb p0 p1 p2 p3 p4 n0 n1 n2; have x1 : w6.cell? ⟨XB, 1, none⟩ = some (.slice B1 r.f1.length c1) := (zaa HX6.out 1).trans rfl; have HW6 := znl (HW3.out.trans (HB6.out.mono HW3.out.size)); have HM6 : Hid (M < w6.heap.size) := znl (za1 HD6.out.c); have HDl6 : Hid (D < w6.heap.size) := znl HD6.out.d.lt; go_wp2_with fail; go_loopg [11, 13, 57] r.f1.length (fun gg s11 _ s57 wi => ∃ j : Nat, j <= r.f1.length /\ r.f1.length - j <= gg /\ s57 = .int .i64 j /\ Aside0 (RVal wi w6.heap.size s11 ((r.f1.take j).map fun i => valF rs rank (getT m) i.data.toList)) /\ Aside0 (∃ st', DSt rs rank m w0 (some ⟨b, o, none⟩) c gt bt M D wi st') /\ Aside0 (w6.grownBy wi (some D)))
    case atStart => exact ⟨0, zn8 _, by omega, rfl, ⟨Kd.R_nil _ _ _ _ _⟩, ⟨st, HD6.out⟩, ⟨World.grownBy.refl _ _⟩⟩
    case round =>
     obtain ⟨j, hj, hgj, rfl, HO, HDi, HGi⟩ := hrel; obtain ⟨st2, hD2⟩ := HDi.out; have HD2 := znl hD2; have HW0 : Hid (w0.heap.size <= w6.heap.size) := znl HD6.out.b.size; by_cases hlj : j < r.f1.length
     . have hljz : (j : Int) < (r.f1.length : Int) := by omega
       obtain ⟨b5, o5, rfl, n0⟩ := zbc (Kd.C_below HA0.out.h1 hD2.b) j hlj; have hlo := HLow.out _ (zoy hlj); have hcall := HNr.out r.f1[j] wr st2 hlo.1 hlo.2 hD2; have hsu : (r.f1.take (j + 1)).map (fun i => valF rs rank (getT m) i.data.toList) = (r.f1.take j).map (fun i => valF rs rank (getT m) i.data.toList) ++ [valF rs rank (getT m) r.f1[j].data.toList] := by rw [znO hlj, zoc]; rfl
       have hml : ((r.f1.take j).map (fun i => valF rs rank (getT m) i.data.toList)).length = j := by rw [zn0, znA]; omega
       have HML := znl hml; have HSu := znl hsu; generalize valF rs rank (getT m) r.f1[j].data.toList = v at hcall HSu; generalize r.f1[j] = nm at n0 hcall; unfold zdC aggV at hcall; clear hD2 hlo hsu hml; go_wp2_with (first
        | (go_at_call 74; refine hcall.mono ?_; rintro e w7 ⟨rfl, ⟨st7, hD7⟩, hg7⟩; have HD7 := znl hD7; have HG7 := znl (znx HGi.out hg7); have HO7 := znl (zm8 HO.out hg7 HDl6.out); have HS7 := znl HG7.out.size; have HBr := znl (zno w6.heap.size w7); clear hD7 hg7)
        | ((with_reducible refine zaM (b := .append) (xs := #[.tmp 61, .tmp 65]) rfl ?_); at_builtin; refine Kd.R_append k34 (w0 := w7) w6.heap.size rfl (.tmp 61) (.tmp 65) 25 34 (.agg #[.bool false, .string ⟨#[]⟩]) 24 rfl Tryz.underlying25 zcP rfl (by decide) (by decide) u11 ((r.f1.take j).map (fun i => valF rs rank (getT m) i.data.toList)) v [.bool v.f0, .string v.f1] (fun _ => True) (fun k_ => True /\ some k_ ≠ u11.ownBlock) rfl rfl (zcC _ _ _ v) (fun _ hk => hk) (fun _ _ => trivial) HO7.out HBr.out HS7.out ?aL ?_; (case aL => (have h1 := HML.out; omega)); intro v1 w8 ho hb hg hat; have HO8 : Hid (RVal w8 w6.heap.size v1 ((r.f1.take (j + 1)).map (fun i => valF rs rank (getT m) i.data.toList))) := (by show RVal _ _ _ _; rw [HSu.out]; exact ho); have HB8 := znl hb; clear ho hb hg hat))
       go_roundg (r.f1.length - (j + 1))
       case measure => omega
       case rel => exact ⟨j + 1, by omega, by omega, by first | rfl | go_num, ⟨HO8.out⟩, ⟨st7, HD7.out.belowL HB8.out HM6.out HDl6.out HW0.out⟩, ⟨zep HG7.out HB8.out⟩⟩
     . have hljz : ¬ (j : Int) < (r.f1.length : Int) := by omega
       obtain rfl : j = r.f1.length := by omega
       have hO := HO.out; rw [zn1] at hO; obtain ⟨A5, n5, rfl, _, hC5⟩ := Kd.R_reads hO; have hOf := ze5 r B1 c1 B2 c2 B3 c3 B4 c4 A5 n5 _ wr (HG0.out.below hD2.b) (Kd.C_below HA0.out.h1 hD2.b) (Kd.C_below HA0.out.h2 hD2.b) (Kd.C_below HA0.out.h4 hD2.b) hC5 HFr.out (fun v hv => by
        obtain ⟨i, _, rfl⟩ := List.mem_map.1 hv; exact zih hrd _)
       rw [HRS.out, zn0] at hOf; rw [zn0]; have hX := zaK HX6.out HGi.out (by intro e; injection e with e; exact HD6.out.d.ne_cells HX6.out e.symm)
       have HXr := znl hX; have y0 : wr.cell? ⟨XB, 0, none⟩ = some (.string r.f0) := (zaa hX 0).trans rfl; have y1 : wr.cell? ⟨XB, 1, none⟩ = some (.slice B1 r.f1.length c1) := (zaa hX 1).trans rfl; have y2 : wr.cell? ⟨XB, 2, none⟩ = some (.slice B2 r.f2.length c2) := (zaa hX 2).trans rfl; have y3 : wr.cell? ⟨XB, 3, none⟩ = some (.slice B3 r.f3.length c3) := (zaa hX 3).trans rfl; have y4 : wr.cell? ⟨XB, 4, none⟩ = some (.slice B4 r.f4.length c4) := (zaa hX 4).trans rfl; unfold zaq at hOf; clear hO hC5 hX hD2; go_upto_region 16 with (first | (go_at_call 34; refine hOf.mono ?_; rintro e w9 ⟨v9, rfl, hR9, hb9⟩; have HR9 := znl hR9; have HB9 := znl hb9; obtain ⟨A9, c9, rfl, _, hC9⟩ := Kd.R_reads hR9; have HC9 := znl hC9; clear hR9 hb9 hC9))
       have hlm : (r.f2.map fun o => valF rs rank (getT m) o.data.toList).length = r.f2.length := zn0 ..
       have HC9 : Hid (Kd.C k34 w9 A9 (r.f2.map fun o => valF rs rank (getT m) o.data.toList).length (r.f2.map fun o => valF rs rank (getT m) o.data.toList)) := znl HC9.out
       try rw [hlm]
       have HD9 := znl (HD2.out.below HB9.out); have HG9 := znl (zep HGi.out (HB9.out.mono HGi.out.size)); have HX9 := znl (zah HXr.out HB9.out); clear hlm y0 y1 y2 y3 y4 hOf; go_wp2_with fail; go_loopg [14, 15, 72] r.f2.length (fun gg _ _ s72 wi => ∃ k : Nat, k <= r.f2.length /\ r.f2.length - k <= gg /\ s72 = .int .i64 k /\ Aside0 (∃ st', DSt rs rank m w0 (some ⟨b, o, none⟩) c gt bt M D wi st' /\ ∀ x ∈ r.f2.take k, (st' x.data.toList).isSome = true) /\ Aside0 (w9.grownBy wi (some D)))
       case atStart => exact ⟨0, zn8 _, by omega, rfl, ⟨st2, HD9.out, fun x hx => by simp at hx⟩, ⟨World.grownBy.refl _ _⟩⟩
       case round =>
        obtain ⟨k, hk, hgk2, rfl, HDk, HGk⟩ := hrel; obtain ⟨st3, hD3, hall⟩ := HDk.out; have HAll := znl hall; have HD3 := znl hD3; have hXk := zaK HX9.out HGk.out (by intro e; injection e with e; exact HD9.out.d.ne_cells HX9.out e.symm)
        have HXk := znl hXk; by_cases hlk : k < r.f2.length
        . have hlkz : (k : Int) < (r.f2.length : Int) := by omega
          have hlk2 : k < (r.f2.map fun o => valF rs rank (getT m) o.data.toList).length := by rw [zn0]; exact hlk
          obtain ⟨b7, o7, rfl, v0, v1⟩ := zdd HC9.out k hlk2; replace v0 := zcI v0 HGk.out (fun g t cs fr h => HD9.out.d.ne_cells h)
          replace v1 := zcI v1 HGk.out (fun g t cs fr h => HD9.out.d.ne_cells h)
          have hge : (r.f2.map fun o => valF rs rank (getT m) o.data.toList)[k] = valF rs rank (getT m) r.f2[k].data.toList := List.getElem_map ..
          rw [hge] at v0 v1; obtain ⟨b8, o8, rfl, q8⟩ := zbc (Kd.C_below HA0.out.h2 hD3.b) k hlk; obtain ⟨hov, hos⟩ := HOv.out _ (zoy hlk); have hb10 := (zno wr.heap.size wr).alloc (znp _) (.cells #[.bool (valF rs rank (getT m) r.f2[k].data.toList).f0, .string (valF rs rank (getT m) r.f2[k].data.toList).f1] 34); have HV10 := znl (zao wr (.cells #[.bool (valF rs rank (getT m) r.f2[k].data.toList).f0, .string (valF rs rank (getT m) r.f2[k].data.toList).f1] 34)); have HB10 := znl hb10; have hD10 := hD3.below hb10; have HBx : Hid (Below _ _ _) := znl (zbh (zno (wr.alloc (.cells #[.bool (valF rs rank (getT m) r.f2[k].data.toList).f0, .string (valF rs rank (getT m) r.f2[k].data.toList).f1] 34)).heap.size (wr.alloc (.cells #[.bool (valF rs rank (getT m) r.f2[k].data.toList).f0, .string (valF rs rank (getT m) r.f2[k].data.toList).f1] 34)))); obtain ⟨w11, hrun, hD11, hg11⟩ := (hD10.below HBx.out).put HF.out r.f2[k] hos hov; have HAll2 : Hid (∀ x ∈ r.f2.take (k + 1), (setG st3 r.f2[k].data.toList (valF rs rank (getT m) r.f2[k].data.toList) x.data.toList).isSome = true) := znl (fun x hx => by
           rw [znO hlk] at hx; unfold setG; split
           . rfl
           . rename_i hne
             rcases List.mem_append.1 hx with hx | hx
             . exact hall x hx
             . rw [List.mem_singleton.1 hx] at hne
               exact absurd rfl hne)
          have HD11 := znl hD11; have HG11 := znl hg11; have HXx := znl (zah hXk hb10); have HQ10 := znl (zaf hb10 q8); have HNe := znl (fun (g t : Nat) (cs : Array Value) (fr : Nat × Nat) h => hD10.d.ne_cells (a := g) (t := t) (cs := cs) (fr := fr) h)
          have HD10 := znl hD10; unfold aggV at hrun; generalize valF rs rank (getT m) r.f2[k].data.toList = v at v0 v1 HV10 HB10 HBx hrun HAll2 HD11 HG11 HXx HQ10 HNe HD10; generalize r.f2[k] = nm at q8 hrun HAll2 HD11 HQ10; clear hb10 hD10 hD11 hg11 hge hlk2 hov hos hall hD3 hXk; go_upto_region 18 with fail; generalize wr.alloc (.cells #[.bool v.f0, .string v.f1] 34) = w10 at HV10 HB10 HBx hrun HD11 HG11 HXx HQ10 HNe HD10 |-; have HSo : Hid (∀ W, Below w10.heap.size w10 W -> W.cell? ⟨M, 2, none⟩ = some (.map (some D)) /\ W.cell? ⟨XB, 2, none⟩ = some (.slice (some ⟨b8, o8, none⟩) r.f2.length c2) /\ W.cell? ⟨b8, o8 + k, none⟩ = some (.string nm) /\ W.cell? ⟨wr.heap.size, 0, none⟩ = some (.bool v.f0) /\ W.cell? ⟨wr.heap.size, 1, none⟩ = some (.string v.f1)) := znl (fun W hW => ⟨(HD10.out.below hW).cells.2.2, (zaa (zah HXx.out hW) 2).trans rfl, zaf hW HQ10.out, (zaa (zah HV10.out hW) 0).trans rfl, (zaa (zah HV10.out hW) 1).trans rfl⟩)
          have HS11 : Hid (w11.cell? ⟨M, 2, none⟩ = some (.map (some D)) /\ w11.cell? ⟨XB, 2, none⟩ = some (.slice (some ⟨b8, o8, none⟩) r.f2.length c2) /\ w11.cell? ⟨b8, o8 + k, none⟩ = some (.string nm) /\ w11.cell? ⟨wr.heap.size, 0, none⟩ = some (.bool v.f0) /\ w11.cell? ⟨wr.heap.size, 1, none⟩ = some (.string v.f1)) := znl (by
           obtain ⟨a1, a2, a3, a4, a5⟩ := HSo.out _ HBx.out; have hne : ∀ (g t : Nat) (cs : Array Value) (fr : Nat × Nat), w10.drew.heap[g]? = some (Obj.cells cs t fr) -> D ≠ g := fun g t cs fr h => HNe.out g t cs fr h
           exact ⟨zcI a1 HG11.out hne, zcI a2 HG11.out hne, zcI a3 HG11.out hne, zcI a4 HG11.out hne, zcI a5 HG11.out hne⟩)
          clear v0 v1 q8; go_region_held3 (fun W => W.cell? ⟨M, 2, none⟩ = some (.map (some D)) /\ W.cell? ⟨XB, 2, none⟩ = some (.slice (some ⟨b8, o8, none⟩) r.f2.length c2) /\ W.cell? ⟨b8, o8 + k, none⟩ = some (.string nm) /\ W.cell? ⟨wr.heap.size, 0, none⟩ = some (.bool v.f0) /\ W.cell? ⟨wr.heap.size, 1, none⟩ = some (.string v.f1))
           (first | exact HSo.out _ (zno _ _) | exact HSo.out _ HBx.out | exact HS11.out)
           (fail)
          all_goals
           have HG12 := znl (znx (zep HGk.out ((HB10.out.trans (HBx.out.mono HB10.out.size)).mono HGk.out.size)) HG11.out); go_wp2_with fail; go_roundg (r.f2.length - (k + 1))
           case measure => omega
           case rel => exact ⟨k + 1, by omega, by omega, by first | rfl | go_num, ⟨_, HD11.out, HAll2.out⟩, ⟨HG12.out⟩⟩
        . have hlkz : ¬ (k : Int) < (r.f2.length : Int) := by omega
          obtain rfl : k = r.f2.length := by omega
          obtain ⟨on, hon, hone⟩ := HOn.out; have hsome := hall on (by rw [zn1]; exact hon)
          rw [hone] at hsome; obtain ⟨vn, hvn⟩ := Option.isSome_iff_exists.1 hsome; obtain ⟨hv, _⟩ := hD3.ok _ _ hvn; have HVn := znl hv; have hM0 : M < w.heap.size := za1 HD0.out.c; have hlo := HD0.out.b.size; have HG6 := znl (znx HG9.out HGk.out); have HNk := znl (zaK (zah HN3.out HB6.out) HG6.out (by have h := HDn.out; intro e; injection e with e; omega))
          have HRk := znl (zaK (zah HR3.out HB6.out) HG6.out (by have h := HDn.out; intro e; injection e with e; omega))
          have HSo : Hid (∀ W, Below w.heap.size wr W -> W.heap[w.heap.size]? = some (.cells #[.string name] 9 (0, 0)) -> W.cell? ⟨M, 2, none⟩ = some (.map (some D)) /\ W.cell? ⟨w.heap.size, 0, none⟩ = some (.string name) /\ (Instr.lookup 91 (.map (some D)) (.string name) false).run Tryz.prog W = .ok (aggV vn) W) := znl (fun W hW hN => by
           have hd := hD3.belowL hW hM0 HDn.out hlo; have hl := hd.d.look name HNs.out; rw [hvn] at hl; exact ⟨hd.cells.2.2, (zaa hN 0).trans rfl, hl⟩)
          have HBw : Hid (Below w.heap.size wr wr.drew) := znl (zbh (zno _ _)); have HB12 := znl ((HBw.out.setCell (p := ⟨w.heap.size + 1, 0, none⟩) (zoS _) (.bool vn.f0)).setCell (p := ⟨w.heap.size + 1, 1, none⟩) (zoS _) (.string vn.f1)); have HN12 : Hid (((wr.drew.setCell ⟨w.heap.size + 1, 0, none⟩ (.bool vn.f0)).setCell ⟨w.heap.size + 1, 1, none⟩ (.string vn.f1)).heap[w.heap.size]? = some (.cells #[.string name] 9 (0, 0))) := znl (zaI (zaI (zaN HNk.out) (p := ⟨w.heap.size + 1, 0, none⟩) (show w.heap.size ≠ w.heap.size + 1 by omega) _) (p := ⟨w.heap.size + 1, 1, none⟩) (show w.heap.size ≠ w.heap.size + 1 by omega) _)
          have HR12 : Hid (((wr.drew.setCell ⟨w.heap.size + 1, 0, none⟩ (.bool vn.f0)).setCell ⟨w.heap.size + 1, 1, none⟩ (.string vn.f1)).heap[w.heap.size + 1]? = some (.cells #[.bool vn.f0, .string vn.f1] 34 (0, 0))) := znl (zar (zar (zaN HRk.out) 0 _ rfl) 1 _ rfl); have r0 : wr.drew.cell? ⟨w.heap.size + 1, 0, none⟩ = some (.bool false) := (zaa (zaN HRk.out) 0).trans rfl; have r1 : wr.drew.cell? ⟨w.heap.size + 1, 1, none⟩ = some (.string ⟨#[]⟩) := (zaa (zaN HRk.out) 1).trans rfl; have f0 : wr.drew.frozen? ⟨w.heap.size + 1, 0, none⟩ = false := zag (zaN HRk.out) 0; have f1 : wr.drew.frozen? ⟨w.heap.size + 1, 1, none⟩ = false := zag (zaN HRk.out) 1; have r0w : wr.cell? ⟨w.heap.size + 1, 0, none⟩ = some (.bool false) := (zaa HRk.out 0).trans rfl; have r1w : wr.cell? ⟨w.heap.size + 1, 1, none⟩ = some (.string ⟨#[]⟩) := (zaa HRk.out 1).trans rfl; have f0w : wr.frozen? ⟨w.heap.size + 1, 0, none⟩ = false := zag HRk.out 0; have f1w : wr.frozen? ⟨w.heap.size + 1, 1, none⟩ = false := zag HRk.out 1; have HS1 := znl (HSo.out wr (zno _ _) HNk.out); have HS2 := znl (HSo.out wr.drew HBw.out (zaN HNk.out)); have HS3 := znl (HSo.out _ HB12.out HN12.out); have HDk2 := znl hD3; unfold aggV at HS1 HS2 HS3; clear hon hone hsome hvn hv hD3 hall hXk; go_upto_region 20 with fail; go_region_held3 (fun W => W.cell? ⟨M, 2, none⟩ = some (.map (some D)) /\ W.cell? ⟨w.heap.size, 0, none⟩ = some (.string name) /\ (Instr.lookup 91 (.map (some D)) (.string name) false).run Tryz.prog W = .ok (.agg #[.bool vn.f0, .string vn.f1]) W)
           (first | exact HS1.out | exact HS2.out | exact HS3.out)
           (fail)
          all_goals
           have HR13 : Hid ((((wr.setCell ⟨w.heap.size + 1, 0, none⟩ (.bool vn.f0)).setCell ⟨w.heap.size + 1, 1, none⟩ (.string vn.f1)).drew).heap[w.heap.size + 1]? = some (.cells #[.bool vn.f0, .string vn.f1] 34 (0, 0))) := znl (zaN (zar (zar HRk.out 0 _ rfl) 1 _ rfl)); have HB13 := znl (zbh (((zno w.heap.size wr).setCell (p := ⟨w.heap.size + 1, 0, none⟩) (zoS _) (.bool vn.f0)).setCell (p := ⟨w.heap.size + 1, 1, none⟩) (zoS _) (.string vn.f1))); generalize ((wr.setCell ⟨w.heap.size + 1, 0, none⟩ (.bool vn.f0)).setCell ⟨w.heap.size + 1, 1, none⟩ (.string vn.f1)).drew = w13 at HR13 HB13 |-; go_wp2_with fail; try simp only [Exit.inBlock, Exit.then]
           refine bodyPost_ret (zfo rfl _ _ _ rfl (zeD HR13.out)) rfl ?_; exact ⟨by rw [<- HVn.out]; rfl, ⟨st3, HDk2.out.belowL HB13.out hM0 HDn.out hlo⟩, zep (znx (zb2 HW6.out (some D)) HG6.out) HB13.out⟩

theorem zh0 (rs : List zai) (rank : zab -> Nat) (m : TM) (w0 : World) (A : Option Addr) (c gt bt M D : Nat) (hM : Mean rs rank) (hrd : ∀ k v, getT m k = some v -> v.length <= 4194304) (hr0 : Kd.C k45 w0 A rs.length rs) (hT : IsTree w0 gt bt m) (hG : GOK w0) :
 ∀ (N : Nat) (name : ByteArray) (w : World) (st : zab -> Option SVal), rank name.data.toList < N -> name.size <= maxLen -> DSt rs rank m w0 A c gt bt M D w st -> Calls Tryz.prog 74 #[.pointer (some ⟨M, 0, none⟩), .string name] w (zdC rs rank m w0 A c gt bt M D (valF rs rank (getT m) name.data.toList) w)
 | 0, _, _, _, h, _, _ => absurd h (Nat.not_lt_zero _)
 | N + 1, name, w, st, h, hs, hD => zlV rs rank m w0 A c gt bt M D hM hrd hr0 hT hG N (zh0 rs rank m w0 A c gt bt M D hM hrd hr0 hT hG N) name w st h hs hD

theorem zk7 {a b : World} {D base : Nat} {v : Value} {l : List SVal} (h : RVal a base v l) (hg : a.grownBy b (some D)) (hD : ∀ (g t : Nat) (cs : Array Value) (fr : Nat × Nat), a.heap[g]? = some (Obj.cells cs t fr) -> D ≠ g) : RVal b base v l :=
 Kd.R_mono (Kd.R_step (Kd.R_mono (Kd.R_bound h) (fun k hk => hk)) (fun k hk hlt => hg.block k hlt (fun e => by
  cases e
  obtain ⟨_, _, _, q, _, cells, hc⟩ := hk; exact hD _ _ _ _ hc rfl))) (fun _ _ => trivial)
theorem DSt.row {rs : List zai} {rank : zab -> Nat} {m : TM} {w0 : World} {A : Option Addr} {c gt bt M D : Nat} {w w' : World} {st : zab -> Option SVal} (h : DSt rs rank m w0 A c gt bt M D w st) {g : Nat} (hg : w.grownBy w' (some g)) (h1 : M ≠ g) (h2 : D ≠ g) (hb : Below w0.heap.size w0 w') : DSt rs rank m w0 A c gt bt M D w' st :=
 ⟨zaK h.c hg (by intro e; injection e with e; exact h1 e), h.d.grown hg (by intro e; injection e with e; exact h2 e), h.ok, hb, h.lo⟩
def zdk (rs : List zai) (rank : zab -> Nat) (m : TM) (nm : List ByteArray) : List SVal := if (allV rs).1 = 0 then nm.map fun n => valF rs rank (getT m) n.data.toList else List.replicate nm.length zV
theorem zkL {α β : Type} (f : α -> β) (z : β) (l : List α) (k : Nat) (h : k < l.length) : ((l.take k).map f ++ List.replicate (l.length - k) z).set k (f l[k]) = (l.take (k + 1)).map f ++ List.replicate (l.length - (k + 1)) z := by
 have e : l.length - k = (l.length - (k + 1)) + 1 := by omega
 rw [e, List.replicate_succ, znO h, zoc, List.append_assoc]; have hl : ((l.take k).map f).length = k := by rw [zn0, znA]; omega
 rw [List.set_append_right _ _ (by omega), hl, Nat.sub_self]
 rfl
theorem zld (rs : List zai) (rank : zab -> Nat) (m : TM) (A : Option Addr) (c gt bt : Nat) (B : Option Addr) (d : Nat) (nm : List ByteArray) (w : World) (hG : GOK w) (hr : Kd.C k45 w A rs.length rs) (hT : IsTree w gt bt m) (hn : Kd.C Kd.string w B nm.length nm)
 (hF : zcc rs) (hM : (allV rs).1 = 0 -> Mean rs rank) (hrd : ∀ k v, getT m k = some v -> v.length <= 4194304) (hl : nm.length <= 1000) (hs : ∀ x ∈ nm, x.size <= maxLen) :
 Calls Tryz.prog 50 #[.slice A rs.length c, .pointer (some ⟨gt, 0, none⟩), .slice B nm.length d] w (zeE (zdk rs rank m nm) w) := by
 have HG := znl hG; have HR := znl hr; have HT := znl hT; have HN := znl hn; have HF := znl hF; have HM := znl hM; have HRd := znl hrd; have HS := znl hs; have hrn := hF.len; obtain ⟨T, hTd⟩ : ∃ T, T = zdk rs rank m nm := ⟨_, rfl⟩; rw [<- hTd]; have HTd := znl hTd; clear hG hr hT hn hF hM hrd hs hTd; have hmm := @run_makeMap Tryz.prog; have hz0 : (0 : Int) <= (nm.length : Int) := by omega
 go_enter Tryz.func50, Tryz.ntmps50
 go_upto_region 2 with (first | (at_make; refine Kd.R_make k34 (w0 := w) w.heap.size 34 rfl rfl 25 (.tmp 14) (.tmp 14) rfl (nm.length : Int) rfl rfl Tryz.underlying25 (.agg #[.bool false, .string ⟨#[]⟩]) 24 zcP rfl (by decide) (by decide) zV (okp := fun _ => True) (ok := fun _ => True) (zcC _ _ _ zV) (fun _ h => h) trivial hz0 (by omega) (zno _ _) (znp _) ?_; intro v1 w2 ho hb hg hv; have HO2 := znl ho; have HB2 := znl hb; clear ho hb hg hv))
 rw [zoC] at HO2; have hal := zeK A c rs w2 (HG.out.below HB2.out) (Kd.C_below HR.out HB2.out) HF.out; obtain ⟨pe, hpe⟩ : ∃ pe, pe = allV rs := ⟨_, rfl⟩; rw [<- hpe] at hal; have HPe := znl hpe; obtain ⟨p1, p2⟩ := pe; unfold zdM at hal; dsimp only at hal; clear hpe; by_cases hp : p1 = 0
 . subst hp
   have HP0 : Hid ((allV rs).1 = 0) := znl (by rw [<- HPe.out])
   have HTn : Hid (T = nm.map fun n => valF rs rank (getT m) n.data.toList) := znl (by rw [HTd.out]; unfold zdk; rw [if_pos HP0.out])
   have HMe := znl (HM.out HP0.out); go_upto_region 5 with (first | (go_at_call 49; refine hal.mono ?_; rintro e w3 ⟨rfl, hb3⟩; have HB3 := znl (zad HB2.out HB2.out.size hb3); have HO3 := znl (Kd.R_below HO2.out hb3); clear hb3))
   have hb4 := (zno w3.heap.size w3).alloc (znp _) (.map #[] 0); have hs4 : (w3.alloc (.map #[] 0)).heap.size = w3.heap.size + 1 := by simp
   have hb5 := hb4.alloc hb4.size (.cells #[.slice A rs.length c, .pointer (some ⟨gt, 0, none⟩), .map (some w3.heap.size)] 105); have hd5 := ((DoneIs.made w3).below ((zno _ _).alloc (znp _) (.cells #[.slice A rs.length c, .pointer (some ⟨gt, 0, none⟩), .map (some w3.heap.size)] 105))).mono (zn8 (zbT rs).length); have hc5 := zao (w3.alloc (.map #[] 0)) (.cells #[.slice A rs.length c, .pointer (some ⟨gt, 0, none⟩), .map (some w3.heap.size)] 105); rw [hs4] at hc5; have HD5 : Hid (DSt rs rank m w A c gt bt (w3.heap.size + 1) w3.heap.size _ (fun _ => none)) := znl ⟨hc5, hd5, (fun k v h => by cases h), zad HB3.out HB3.out.size hb5, HB3.out.size⟩
   have HO5 := znl (Kd.R_below HO3.out hb5); have HB5 := znl (zad HB3.out HB3.out.size hb5); have HFi := znl (zh0 rs rank m w A c gt bt (w3.heap.size + 1) w3.heap.size HMe.out HRd.out HR.out HT.out HG.out); have HDlo : Hid (w.heap.size <= w3.heap.size) := znl HB3.out.size; have HRt : Hid (∀ k, v1.ownBlock = some k -> k < w3.heap.size) := znl (Kd.R_lt HO3.out); clear hb4 hs4 hb5 hd5 hc5 hal HO2; go_upto_region 6 with fail; generalize w3.heap.size = D at HDlo HRt HFi HD5 HO5 HB5 |-; generalize (w3.alloc (.map #[] 0)).alloc (.cells #[.slice A rs.length c, .pointer (some ⟨gt, 0, none⟩), .map (some D)] 105) = w5 at HD5 HO5 HB5 |-; clear hmm; go_wp2_with fail; go_loopg [11, 12, 31] nm.length (fun gg _ _ s31 wi => ∃ j : Nat, j <= nm.length /\ nm.length - j <= gg /\ s31 = .int .i64 j /\ Aside0 (RVal wi w.heap.size v1 ((nm.take j).map (fun n => valF rs rank (getT m) n.data.toList) ++ List.replicate (nm.length - j) zV)) /\ Aside0 (∃ st', DSt rs rank m w A c gt bt (D + 1) D wi st') /\ Aside0 (Below w.heap.size w wi))
   case atStart => exact ⟨0, zn8 _, by omega, rfl, ⟨by simpa using HO5.out⟩, ⟨_, HD5.out⟩, ⟨HB5.out⟩⟩
   case round =>
    obtain ⟨j, hj, hgj, rfl, HO, HDi, HW⟩ := hrel; obtain ⟨st2, hD2⟩ := HDi.out; have hlen : ((nm.take j).map (fun n => valF rs rank (getT m) n.data.toList) ++ List.replicate (nm.length - j) zV).length = nm.length := by rw [znC, zn0, znA, List.length_replicate]; omega
    by_cases hlj : j < nm.length
    . have hljz : (j : Int) < (nm.length : Int) := by omega
      obtain ⟨b5, o5, rfl, n0⟩ := zbc (Kd.C_below HN.out HW.out) j hlj; have hcall := HFi.out (rank nm[j].data.toList + 1) nm[j] wr st2 (Nat.lt_succ_self _) (HS.out _ (zoy hlj)) hD2; obtain ⟨g, cap, hv1, hbg, hgl, _⟩ := Kd.R_form HO.out (by rw [hlen]; omega)
      rw [hlen] at hv1; subst hv1; have hfs := zkL (fun n : ByteArray => valF rs rank (getT m) n.data.toList) zV nm j hlj
      have HNe := znl (fun (g t : Nat) (cs : Array Value) (fr : Nat × Nat) h => hD2.d.ne_cells (a := g) (t := t) (cs := cs) (fr := fr) h)
      have HFs := znl hfs; have HLen := znl hlen; have hjt : (j : Int).toNat = j := zoC j; generalize (nm.take j).map (fun n => valF rs rank (getT m) n.data.toList) ++ List.replicate (nm.length - j) zV = xs at HO HFs HLen
      generalize hvv : valF rs rank (getT m) nm[j].data.toList = v at hcall HFs; generalize nm[j] = x at n0 hcall hvv; unfold zdC aggV at hcall; clear hfs hlen hD2 hvv; go_wp2_with (first
       | (go_at_call 74; refine hcall.mono ?_; rintro e w7 ⟨rfl, ⟨st7, hD7⟩, hg7⟩; have HD7 := znl hD7; have HG7 := znl hg7; have HO7 := znl (zk7 HO.out hg7 HNe.out); have HB7 := znl (HW.out.grown hg7 HW.out.size (fun k hk => by cases hk; exact HDlo.out)); clear hD7 hg7)
       | (refine gate_ (.store 34 (.tmp 41) (.tmp 40)) rfl ?_; obtain ⟨cc, hc1, _, hc3, _⟩ := Kd.R_elem HO7.out zV (j : Int) (by omega) hljz; refine Kd.R_store k34 (w0 := w) w.heap.size rfl rfl 34 (.tmp 41) (.tmp 40) rfl 34 (g := g) (n := nm.length) (cap := cap) (j : Int) 0 xs v (.agg #[.bool v.f0, .string v.f1]) [.bool v.f0, .string v.f1] cc (fun _ => True) (fun _ => False) (haddr := rfl) (hoff := by show _ = (j : Int).toNat * 2 + 0; rw [zoC]; first | rfl | omega | simp) (hx := rfl) (hu := rfl) (ht := by kernel_rfl) (h1 := by simp [Value.oneCell']) (HO := HO7.out) (h0 := by omega) (hi := hljz) (hcl := hc1) (hcc := hc3) (hj := by show 0 + 2 <= 2; omega) (hM := by have e : cc.drop 2 = [] := List.drop_eq_nil_of_le (Nat.le_of_eq hc1); show Kd.M k34 _ _ _ v ([] ++ [.bool v.f0, .string v.f1] ++ cc.drop 2); rw [e]; exact zcC _ _ _ v) (hokp := fun _ h => h.elim) (HB := HB7.out) ?_; intro w8 ho hb hg8; have HO8 := znl ho; have HB8 := znl hb; have HG8 := znl hg8; clear ho hb hg8 hc1 hc3))
      have HD8 : Hid (DSt rs rank m w A c gt bt (D + 1) D w8 st7) := znl (by
       have hgD := HRt.out g (by simp [Value.ownBlock])
       exact HD7.out.row HG8.out (by omega) (by omega) HB8.out)
      have HO9 : Hid (RVal w8 w.heap.size (.slice (some ⟨g, 0, none⟩) nm.length cap) ((nm.take (j + 1)).map (fun n => valF rs rank (getT m) n.data.toList) ++ List.replicate (nm.length - (j + 1)) zV)) := znl (by rw [<- HFs.out]; have h := HO8.out; rw [hjt] at h; exact h)
      go_roundg (nm.length - (j + 1))
      case measure => omega
      case rel => exact ⟨j + 1, by omega, by omega, by first | rfl | go_num, ⟨HO9.out⟩, ⟨_, HD8.out⟩, ⟨HB8.out⟩⟩
    . have hljz : ¬ (j : Int) < (nm.length : Int) := by omega
      obtain rfl : j = nm.length := by omega
      have hO := HO.out; rw [zn1, Nat.sub_self, List.replicate_zero, List.append_nil, <- HTn.out] at hO; have HOf := znl hO; clear hO hlen hD2; go_wp2_with fail; go_ret
      exact ⟨_, rfl, HOf.out, HW.out⟩
 . have HTn : Hid (T = List.replicate nm.length zV) := znl (by rw [HTd.out]; unfold zdk; rw [if_neg (by rw [<- HPe.out]; exact hp)])
   go_wp2_with (first | (go_at_call 49; refine hal.mono ?_; rintro e w3 ⟨rfl, hb3⟩; have HB3 := znl (zad HB2.out HB2.out.size hb3); have HO3 := znl (Kd.R_below HO2.out hb3); clear hb3))
   go_ret
   exact ⟨_, rfl, by rw [HTn.out]; exact HO3.out, HB3.out⟩

end Go.Proofs.YtdpgdnpddndeoaaGreatDoor.X

namespace Go.Proofs.YtdpgdnpddndeoaaGreatDoor.X
def R7 : zai := ⟨⟨#[114]⟩, [⟨#[97]⟩, ⟨#[98]⟩], [⟨#[120]⟩, ⟨#[121]⟩], [], [⟨⟨#[116]⟩, 3, [⟨#[97]⟩], [], 0⟩, ⟨⟨#[120]⟩, 4, [⟨#[116]⟩], [], 0⟩, ⟨⟨#[121]⟩, 2, [⟨#[98]⟩], [], 0⟩]⟩
def S7 : zai := ⟨⟨#[115]⟩, [⟨#[120]⟩], [⟨#[97]⟩], [], [⟨⟨#[97]⟩, 1, [⟨#[120]⟩], [], 0⟩]⟩
theorem zkw : runS (zax R7) (R7.f1.map (zbn [⟨#[98]⟩] [⟨true, ⟨#[122]⟩⟩])) = [⟨false, ⟨#[]⟩⟩, ⟨true, ⟨#[122]⟩⟩] := by rfl
theorem zkJ : zbU R7 = 0 := by rfl
theorem zlM : mayC (zal ⟨⟨#[116]⟩, 3, [⟨#[97]⟩], [], 0⟩) = true := by rfl
theorem zjl : (zbe ⟨#[97, 10, 10, 98]⟩).length = 3 := by rfl
theorem zlI : (zbj (zaA (zbm [⟨#[120]⟩]) (zax R7).steps).1 true).length = 2 := by rfl
theorem zla : (zbj (zaA (zbm R7.f2) (zax R7).steps).1 false).length = 0 := by rfl
theorem zku : newT [([97], [50, 10, 49])] = [([97], [50, 10, 49])] := by rfl
theorem zmv : (zcj (zax R7) (zaA (zbm [⟨#[120]⟩]) (zax R7).steps).1) = [[97]] := by
 unfold zcj; rw [<- zea]; rfl
theorem zeI (l : List ByteArray) : zae l = ((l.map fun x => x.data.toList).foldl putS []).map mk := by unfold zae; rw [zea]
theorem zi4 : (zcj (zax R7) (zaA (zbm R7.f2) (zax R7).steps).1) = [[97],[98]] := by
 unfold zcj; rw [<- zea]; rfl
theorem zgp (all rs : List zai) : zbu all rs = fun n => (rs.reverse.find? fun r => r.f0.data.toList == n).map fun r => zbJ ((((zbV all r).map fun x => x.data.toList).foldl putS []).map mk) := by
 funext n
 unfold zbu; congr 1
 funext r
 rw [zeI]
theorem zmK : allV [S7, R7] = (3, ⟨#[114]⟩) := by
 unfold allV cycV zb7 wayV zcH; rw [zgp, zeI]; rfl
theorem zhO : allV [R7] = (0, ⟨#[]⟩) := by
 unfold allV cycV zb7 wayV zcH; rw [zgp, zeI]; rfl
def zf6 (s : Cmd) (bs : List zab) : zab × Bool := if s.op = 3 then (za3 ((zbr (bs.getD 0 [])).foldl putS []), true) else zaP s bs
theorem zgh : zaP = zf6 := by
 funext s bs
 unfold zf6; split
 . rename_i h
   unfold zaP; rw [if_neg (by omega), if_neg (by omega), if_pos h, zea]
 . rfl
theorem sv_of : runS (zax R7) [⟨true, ⟨#[113, 10, 112]⟩⟩, ⟨true, ⟨#[]⟩⟩] = [⟨true, ⟨#[50, 10]⟩⟩, ⟨false, ⟨#[]⟩⟩] := by
 unfold runS runK zcK doP; rw [zgh]; kernel_rfl
def rk7 : zab -> Nat := fun n => if n = [120] \/ n = [121] then 1 else 0
theorem ziu : zdk [R7] rk7 [([97], [50, 10, 49])] [⟨#[120]⟩, ⟨#[97]⟩, ⟨#[121]⟩] = [⟨true, ⟨#[50, 10]⟩⟩, ⟨true, ⟨#[50, 10, 49]⟩⟩, ⟨false, ⟨#[]⟩⟩] := by
 unfold zdk; rw [zhO]; unfold valF; show [zbC _ _ 2 [120], zbC _ _ 1 [97], zbC _ _ 2 [121]] = _
 unfold zbC runK zcK doP; rw [zgh]; kernel_rfl
end Go.Proofs.YtdpgdnpddndeoaaGreatDoor.X

namespace Go.Proofs.YtdpgdnpddndeoaaGreatDoor.X
open Go.RowKit Go.Maps Go.Proofs.YtdpgdnpddndeoaaGreatDoorW.PrintWords Go.Proofs.YtdpgdnpddndeoaaGreatDoorW.PrintMore Go.Proofs.YtdpgdnpddndeoaaGreatDoorW.PrintLast
theorem zh2 (a b : zab) : zaH (a ++ b) = zaH a ++ zaH b := by simp [zaH]
theorem zkK (W : World) (l : zab) (h : l.length <= 100) : Kd.C (Kd.int .u8) (W.alloc (.cells (nums .u8 (zaH l)).toArray 5)) (some ⟨W.heap.size, 0, none⟩) (zaH l).length (zaH l) :=
 zbI (Kd.int .u8) W 5 (zaH l) (nums .u8 (zaH l)) (Kd.reps_scalar _) (by simp [zaH]; omega)
abbrev RB (w : World) (base : Nat) (v : Value) (l : zab) : Prop := Kd.R (Kd.int .u8) 5 w base (fun _ => True) v (zaH l)
theorem RB.str {w : World} {base : Nat} {v : Value} {l : zab} (h : RB w base v l) :
 (convert 90 9 v).run Tryz.prog w = .ok (.string (mk l)) w := by
 have := zgm (dst := 9) Tryz.underlying90 Tryz.underlying5 Tryz.underlying9 (Kd.own_of_R h); rw [zfU] at this; exact this

section
variable {P : Program} {ops : Array Oper} {rest : List Oper} {o : Oper} {a : Act} {Q : Exit -> Act -> World -> Prop}
theorem RB.app {w0 W : World} (base : Nat) (hgd : o.guard = none) (s x : Operand)
 (ho : o.op = .call { callee := .builtin .append, args := #[s, x], argTypes := #[90, 90] })
 (ht : P.underlying 90 = some (.slice 5)) (hinfo : (P.info? 5).map (fun i => (i.zero, i.size, i.bytes)) = some (some (.int .u8 0), 1, 1))
 (v : Value) (acc l : zab) (cs : Array Value) (hcs : cs = (nums .u8 (zaH l)).toArray) (hl : l.length <= 100) (n : Nat) (hn : n = l.length) (hs : a.eval s = v) (hx : a.eval x = .slice (some ⟨W.heap.size, 0, none⟩) n n)
 (HO : RB W base v acc) (HB : Below base w0 W) (hbase : base <= W.heap.size) (hal : acc.length <= 5000000000000)
 (h : ∀ v1 w1, RB w1 base v1 (acc ++ l) -> Below base w0 w1 -> wpList P ops Q rest (a.put o.dst v1) w1) :
 wpList P ops Q (o :: rest) a (W.alloc (.cells cs 5)) := by
 subst hcs; subst hn; have hC := zkK W l hl; rw [show (zaH l).length = l.length by simp [zaH]] at hC
 refine Kd.R_append_rows (Kd.int .u8) (Rr := (Kd.int .u8).K (W.alloc (.cells (nums .u8 (zaH l)).toArray 5))) (w0 := w0) base hgd s x 90 5 (.int .u8 0) 1 ho ht hinfo rfl (by decide) (by decide) v (zaH acc) (zaH l) (some ⟨W.heap.size, 0, none⟩) l.length l.length (fun _ => True) (fun k_ => True /\ some k_ ≠ v.ownBlock) hs hx (Kd.R_alloc HO _) hC (fun _ _ h => h) (fun _ hk => hk) (fun _ _ => trivial) (HB.alloc hbase _) (by rw [World.size_alloc]; omega) (by simp only [zaH, zn0]; omega) ?_
 intro v1 w1 ho1 hb1 _ _; rw [<- zh2] at ho1; exact h v1 w1 ho1 hb1
theorem RB.str_app {w0 W : World} (base : Nat) (hgd : o.guard = none) (s x : Operand)
 (ho : o.op = .call { callee := .builtin .append, args := #[s, x], argTypes := #[90, 9] })
 (ht : P.underlying 90 = some (.slice 5)) (hu : P.underlying 9 = some .string) (hinfo : (P.info? 5).map (fun i => (i.zero, i.size, i.bytes)) = some (some (.int .u8 0), 1, 1))
 (v : Value) (acc l : zab) (hs : a.eval s = v) (hx : a.eval x = .string (mk l)) (hl : l.length <= 100)
 (HO : RB W base v acc) (HB : Below base w0 W) (hbase : base <= W.heap.size) (hal : acc.length <= 5000000000000)
 (h : ∀ v1 w1, RB w1 base v1 (acc ++ l) -> Below base w0 w1 -> wpList P ops Q rest (a.put o.dst v1) w1) :
 wpList P ops Q (o :: rest) a W := by
 refine zj4 base hgd s x 90 9 5 ho ht hu hinfo v (zaH acc) (mk l) hs hx (Kd.own_of_R HO) HB hbase (by rw [znY, za2]; simp only [zaH, zn0]; omega) ?_
 intro v1 w1 ho1 hb1 _; have hbl : zcy (mk l) = zaH l := by unfold zcy; rw [za2]; rfl
 rw [hbl, <- zh2] at ho1; exact h v1 w1 (Kd.R_of_own (h1 := fun _ => rfl) ho1 (fun _ _ => trivial)) hb1
end
theorem zg0 (s : ByteArray) (hs : s.size <= 1099511627776) (hpr : ∀ c ∈ s.data.toList, c = 10 \/ c = 9 \/ ¬ (c.toNat < 32 \/ 126 < c.toNat)) (w : World) :
 Calls Tryz.prog 113 #[.string s] w fun e w' => e = .returned (.string (mk (zdF s.data.toList))) /\ Below w.heap.size w w' := by
 have HPr := znl hpr; clear hpr; generalize hT : zdF s.data.toList = T; have HT := znl hT; clear hT; have hR0 : RB (w.alloc (.cells #[.int .u8 34] 5)) w.heap.size (.slice (some ⟨w.heap.size, 0, none⟩) 1 1) [34] := by
  refine Kd.R_of_own (h1 := fun _ => rfl) ?_ (fun _ _ => trivial)
  exact zmA w w.heap.size 5 .u8 [34] (znp _) (by simp)
 have HR0 := znl hR0; clear hR0; go_enter Tryz.func113, Tryz.ntmps113
 go_wp2_with fail; go_loopg [3, 4, 5, 9] s.size (fun gg s3 _ _ s9 wr => ∃ (kk : Nat) (acc : zab), kk <= s.size /\ s.size - kk <= gg /\ s9 = .int .i64 kk /\ acc.length <= 1 + 4 * kk /\ Aside0 (acc ++ (zdx (s.data.toList.drop kk) ++ [34]) = T) /\
  Aside0 (RB wr w.heap.size s3 acc) /\ Aside0 (Below w.heap.size w wr))
 case atStart => exact ⟨0, [34], zn8 _, by omega, rfl, by simp, ⟨by rw [<- HT.out]; rfl⟩, ⟨HR0.out⟩, ⟨(zno _ _).alloc (znp _) _⟩⟩
 case round =>
  obtain ⟨kk, acc, hkk, hgk, rfl, hacc, HK, HO, HB⟩ := hrel; by_cases hlt : kk < s.size
  . have hltz : (kk : Int) < (s.size : Int) := by omega
    have hdr : s.data.toList.drop kk = s[kk] :: s.data.toList.drop (kk + 1) := by
     rw [List.drop_eq_getElem_cons (by rw [<- znY]; exact hlt)]
     rfl
    have hK := HK.out; rw [hdr, zdx] at hK; have HK2 := znl hK; clear hK hdr; have n8 : ∀ (m : Nat) (k : UInt8), k.toNat = m -> (s[kk] = k ↔ s[kk].toNat = m) := fun m k hk => by rw [<- UInt8.toNat_inj, hk]
    have H34 := znl (n8 34 34 rfl); have H92 := znl (n8 92 92 rfl); have H10 := znl (n8 10 10 rfl); have H9 := znl (n8 9 9 rfl); clear n8; have HWB := znl HB.out.size; have hal2 : acc.length <= 5000000000000 := by omega
    have next : ∀ l : zab, zcZ s[kk] = l -> acc ++ l ++ (zdx (s.data.toList.drop (kk + 1)) ++ [34]) = T := fun l hl => by
     rw [<- HK2.out, hl]; simp
    have HN := znl next; clear next; obtain ⟨L1, hL1⟩ : ∃ l : zab, l = [s[kk]] := ⟨_, rfl⟩; obtain ⟨L2, hL2⟩ : ∃ l : zab, l = [92, s[kk]] := ⟨_, rfl⟩; have HC1 : Hid (#[Value.int .u8 s[kk].toNat] = (nums .u8 (zaH L1)).toArray) := by show _ = _; rw [hL1]; rfl
    have HC2 : Hid (#[Value.int .u8 92, .int .u8 s[kk].toNat] = (nums .u8 (zaH L2)).toArray) := by show _ = _; rw [hL2]; rfl
    have HL1 := znl hL1; have HL2 := znl hL2; have hl1 : L1.length = 1 := by rw [hL1]; rfl
    have hl2 : L2.length = 2 := by rw [hL2]; rfl
    have HM1 : Hid (1 = L1.length) := hl1.symm; have HM2 : Hid (2 = L2.length) := hl2.symm; have HX1 : Hid (L1.length <= 100) := by show _ <= _; omega
    have HX2 : Hid (L2.length <= 100) := by show _ <= _; omega
    clear hL1 hL2; by_cases c1 : s[kk].toNat = 34
    . have e1 : ((s[kk].toNat : Int) == 34) = true := by simp; omega
      have HV := znl (HN.out L2 (by unfold zcZ; rw [if_pos (.inl (H34.out.2 c1)), HL2.out]))
      clear c1; go_wp2_with (first | ((with_reducible refine zaM (b := .append) (xs := #[.tmp 26, .tmp 28]) rfl ?_); at_builtin; refine RB.app (w0 := w) w.heap.size rfl (.tmp 26) (.tmp 28) rfl Tryz.underlying90 zcA u3 acc L2 _ HC2.out HX2.out 2 HM2.out rfl rfl HO.out HB.out HWB.out hal2 ?_; intro v1 w4 ho hb; have HO4 := znl ho; have HB4 := znl hb; clear ho hb))
      go_roundg (s.size - (kk + 1))
      case measure => omega
      case rel => exact ⟨kk + 1, acc ++ L2, by omega, by omega, by first | rfl | go_num, by simp only [znC]; omega, ⟨HV.out⟩, ⟨HO4.out⟩, ⟨HB4.out⟩⟩
    have e1 : ((s[kk].toNat : Int) == 34) = false := by simp; omega
    by_cases c2 : s[kk].toNat = 92
    . have e2 : ((s[kk].toNat : Int) == 92) = true := by simp; omega
      have HV := znl (HN.out L2 (by unfold zcZ; rw [if_pos (.inr (H92.out.2 c2)), HL2.out]))
      clear c1 c2; go_wp2_with (first | ((with_reducible refine zaM (b := .append) (xs := #[.tmp 26, .tmp 28]) rfl ?_); at_builtin; refine RB.app (w0 := w) w.heap.size rfl (.tmp 26) (.tmp 28) rfl Tryz.underlying90 zcA u3 acc L2 _ HC2.out HX2.out 2 HM2.out rfl rfl HO.out HB.out HWB.out hal2 ?_; intro v1 w4 ho hb; have HO4 := znl ho; have HB4 := znl hb; clear ho hb))
      go_roundg (s.size - (kk + 1))
      case measure => omega
      case rel => exact ⟨kk + 1, acc ++ L2, by omega, by omega, by first | rfl | go_num, by simp only [znC]; omega, ⟨HV.out⟩, ⟨HO4.out⟩, ⟨HB4.out⟩⟩
    have e2 : ((s[kk].toNat : Int) == 92) = false := by simp; omega
    have HQ1 : Hid (¬ (s[kk] = 34 \/ s[kk] = 92)) := fun h => h.elim (fun h => c1 (H34.out.1 h)) (fun h => c2 (H92.out.1 h))
    clear c1 c2; by_cases c3 : s[kk].toNat = 10
    . have e3 : ((s[kk].toNat : Int) == 10) = true := by simp; omega
      have HV := znl (HN.out [92, 110] (by unfold zcZ; rw [if_neg HQ1.out, if_pos (H10.out.2 c3)]))
      clear c3; go_wp2_with (first | ((with_reducible refine zaM (b := .append) (xs := #[.tmp 33, .const (.string ⟨#[92, 110]⟩)]) rfl ?_); at_builtin; refine RB.str_app (w0 := w) w.heap.size rfl (.tmp 33) (.const (.string ⟨#[92, 110]⟩)) rfl Tryz.underlying90 Tryz.underlying9 zcA u3 acc [92, 110] rfl rfl (by decide) HO.out HB.out HWB.out hal2 ?_; intro v1 w4 ho hb; have HO4 := znl ho; have HB4 := znl hb; clear ho hb))
      go_roundg (s.size - (kk + 1))
      case measure => omega
      case rel => exact ⟨kk + 1, acc ++ [92, 110], by omega, by omega, by first | rfl | go_num, by simp; omega, ⟨HV.out⟩, ⟨HO4.out⟩, ⟨HB4.out⟩⟩
    have e3 : ((s[kk].toNat : Int) == 10) = false := by simp; omega
    by_cases c4 : s[kk].toNat = 9
    . have e4 : ((s[kk].toNat : Int) == 9) = true := by simp; omega
      have HV := znl (HN.out [92, 116] (by unfold zcZ; rw [if_neg HQ1.out, if_neg (fun h => c3 (H10.out.1 h)), if_pos (H9.out.2 c4)]))
      clear c3 c4; go_wp2_with (first | ((with_reducible refine zaM (b := .append) (xs := #[.tmp 38, .const (.string ⟨#[92, 116]⟩)]) rfl ?_); at_builtin; refine RB.str_app (w0 := w) w.heap.size rfl (.tmp 38) (.const (.string ⟨#[92, 116]⟩)) rfl Tryz.underlying90 Tryz.underlying9 zcA u3 acc [92, 116] rfl rfl (by decide) HO.out HB.out HWB.out hal2 ?_; intro v1 w4 ho hb; have HO4 := znl ho; have HB4 := znl hb; clear ho hb))
      go_roundg (s.size - (kk + 1))
      case measure => omega
      case rel => exact ⟨kk + 1, acc ++ [92, 116], by omega, by omega, by first | rfl | go_num, by simp; omega, ⟨HV.out⟩, ⟨HO4.out⟩, ⟨HB4.out⟩⟩
    have e4 : ((s[kk].toNat : Int) == 9) = false := by simp; omega
    have HQ2 : Hid (¬ s[kk] = 10) := fun h => c3 (H10.out.1 h)
    have HQ3 : Hid (¬ s[kk] = 9) := fun h => c4 (H9.out.1 h)
    clear c3 c4; by_cases c5 : s[kk].toNat < 32 \/ 126 < s[kk].toNat
    . exfalso
      rcases HPr.out s[kk] (zoy (h := by rw [<- znY]; exact hlt)) with h | h | h
      . exact HQ2.out h
      . exact HQ3.out h
      . exact h c5
    . have HV := znl (HN.out L1 (by unfold zcZ; rw [if_neg HQ1.out, if_neg HQ2.out, if_neg HQ3.out, if_neg c5, HL1.out]))
      have e5 : decide ((s[kk].toNat : Int) < 32) = false := by simp; omega
      have e6 : decide ((126 : Int) < (s[kk].toNat : Int)) = false := by simp; omega
      clear c5; go_wp2_with (first | ((with_reducible refine zaM (b := .append) (xs := #[.tmp 15, .tmp 17]) rfl ?_); at_builtin; refine RB.app (w0 := w) w.heap.size rfl (.tmp 15) (.tmp 17) rfl Tryz.underlying90 zcA u3 acc L1 _ HC1.out HX1.out 1 HM1.out rfl rfl HO.out HB.out HWB.out hal2 ?_; intro v1 w4 ho hb; have HO4 := znl ho; have HB4 := znl hb; clear ho hb))
      go_roundg (s.size - (kk + 1))
      case measure => omega
      case rel => exact ⟨kk + 1, acc ++ L1, by omega, by omega, by first | rfl | go_num, by simp only [znC]; omega, ⟨HV.out⟩, ⟨HO4.out⟩, ⟨HB4.out⟩⟩
  . have hltz : ¬ (kk : Int) < (s.size : Int) := by omega
    have HWB := znl HB.out.size; have hal : acc.length <= 4398046511105 := by omega
    have HV : Hid (T = acc ++ [34]) := by
     show T = _
     rw [<- HK.out, List.drop_of_length_le (by rw [<- znY]; omega)]
     rfl
    have hal2 : acc.length <= 5000000000000 := by omega
    go_wp2_with (first | ((with_reducible refine zaM (b := .append) (xs := #[.tmp 57, .tmp 58]) rfl ?_); at_builtin; refine RB.app (w0 := w) w.heap.size rfl (.tmp 57) (.tmp 58) rfl Tryz.underlying90 zcA u3 acc [34] #[.int .u8 34] rfl (by decide) 1 rfl rfl rfl HO.out HB.out HWB.out hal2 ?_; intro v1 w4 ho hb; have hcv := RB.str ho; have HB4 := znl hb; clear ho hb))
    go_ret
    rw [HV.out]; exact ⟨rfl, HB4.out⟩

theorem zbM (a b : zab) : mk a ++ mk b = mk (a ++ b) := by
 apply zbO
 rw [za2, ByteArray.data_append, Array.toList_append, za2, za2]
abbrev zbF (l : List ByteArray) : List zab := l.map fun x => x.data.toList
theorem zfY {l : List ByteArray} {sep : zab} (hl : l.length * 16 <= 140737488355328) (hsum : (Lib.join (zbF l) sep).length <= 70368744177664) : strings_Join.f l (mk sep) = some (mk (Lib.join (zbF l) sep)) := by
 unfold strings_Join.f; rw [za2, if_pos ⟨by omega, Nat.le_trans hsum (by omega)⟩]
def zbX (word : zab) (l : List ByteArray) : zab := if l = [] then [] else [32, 32] ++ word ++ [32] ++ Lib.join (zbF l) [44, 32] ++ [59, 10]
theorem zff (word : zab) (A : Option Addr) (c : Nat) (l : List ByteArray) (w : World) (hG : GOK w) (hr : Kd.C Kd.string w A l.length l) (hc : l.length <= c) (hw : word.length <= 100) (hl : l.length * 16 <= 140737488355328) (hsum : (Lib.join (zbF l) [44, 32]).length <= 70368744177664) :
 Calls Tryz.prog 194 #[.string (mk word), .slice A l.length c] w fun e w' => e = .returned (.string (mk (zbX word l))) /\ Below w.heap.size w w' := by
 by_cases h0 : l = []
 . have hd : ((l.length : Int) == 0) = true := by rw [h0]; rfl
   have HE : Hid (zbX word l = []) := by show _ = _; unfold zbX; rw [if_pos h0]
   clear h0 hr; go_enter Tryz.func194, Tryz.ntmps194
   go_wp2; go_ret
   exact ⟨by rw [HE.out]; rfl, zno _ _⟩
 . have hpos : 0 < l.length := List.length_pos_iff.2 h0
   have hd : ((l.length : Int) == 0) = false := by simp; exact h0
   have HE : Hid (zbX word l = [32, 32] ++ word ++ [32] ++ Lib.join (zbF l) [44, 32] ++ [59, 10]) := by show _ = _; unfold zbX; rw [if_neg h0]
   have hJ := strings_Join.calls A c l (mk [44, 32]) (mk (Lib.join (zbF l) [44, 32])) w hG hr hc (zfY hl hsum); generalize Lib.join (zbF l) [44, 32] = J at HE hJ hsum; have n1 : ¬ 9223372036854775807 < 2 + (mk word).size := by rw [za6]; omega
   have n2 : ¬ 9223372036854775807 < 2 + (mk word).size + 1 := by rw [za6]; omega
   have n3 : ¬ 9223372036854775807 < 2 + (mk word).size + 1 + (mk J).size := by rw [za6, za6]; omega
   have n4 : ¬ 9223372036854775807 < 2 + (mk word).size + 1 + (mk J).size + 2 := by rw [za6, za6]; omega
   clear h0 hr; go_enter Tryz.func194, Tryz.ntmps194
   go_wp2_with (go_at_call 83; refine hJ.mono ?_; rintro e w2 ⟨rfl, hb2⟩)
   go_ret
   refine ⟨?_, hb2⟩; rw [HE.out, <- zbM, <- zbM, <- zbM, <- zbM]; rfl

def zbQ (x : ByteArray) : ByteArray := mk (zdF x.data.toList)
def zg1 (x : ByteArray) : Prop := x.size <= 1099511627776 /\ ∀ c ∈ x.data.toList, c = 10 \/ c = 9 \/ ¬ (c.toNat < 32 \/ 126 < c.toNat)
def zcz (s : zay) : List ByteArray := [s.f0, ⟨#[61]⟩, zbd s.f1] ++ s.f3.map zbQ ++ s.f2
def zcN (s : zay) : zab := Lib.join (zbF (zcz s)) [32] ++ [59]
theorem zh6 (s : zay) (A2 : Option Addr) (c2 : Nat) (A3 : Option Addr) (c3 : Nat) (w : World) (hG : GOK w) (h2 : Kd.C Kd.string w A2 s.f2.length s.f2) (h3 : Kd.C Kd.string w A3 s.f3.length s.f3)
 (h9 : s.f1 ≠ 9) (hpr : ∀ x ∈ s.f3, zg1 x) (hl2 : s.f2.length <= 1000) (hl3 : s.f3.length <= 1000) (hsum : (Lib.join (zbF (zcz s)) [32]).length <= 70368744177664) :
 Calls Tryz.prog 119 #[.agg #[.string s.f0, .int .i64 s.f1, .slice A2 s.f2.length c2, .slice A3 s.f3.length c3, .int .i64 s.f4]] w fun e w' => e = .returned (.string (mk (zcN s))) /\ Below w.heap.size w w' := by
 have hB0 := (zno w.heap.size w).alloc (znp _) (.cells #[.string s.f0, .int .i64 s.f1, .slice A2 s.f2.length c2, .slice A3 s.f3.length c3, .int .i64 s.f4] 24); have hb0 := zao w (.cells #[.string s.f0, .int .i64 s.f1, .slice A2 s.f2.length c2, .slice A3 s.f3.length c3, .int .i64 s.f4] 24); have HB0 := znl hB0; have HBlk := znl hb0; have HG := znl hG; have HPr := znl hpr; have HSum := znl hsum; have H2 := znl h2; have H3 := znl h3; have e9 : (s.f1 == 9) = false := by simpa using h9
 clear hB0 hb0 hG hpr hsum h9; go_enter Tryz.func119, Tryz.ntmps119
 go_wp2; generalize w.alloc (.cells #[.string s.f0, .int .i64 s.f1, .slice A2 s.f2.length c2, .slice A3 s.f3.length c3, .int .i64 s.f4] 24) = w1 at HB0 HBlk |-; have k0 : w1.cell? ⟨w.heap.size, 0, none⟩ = some (.string s.f0) := (zaa HBlk.out 0).trans rfl; have k1 : w1.cell? ⟨w.heap.size, 1, none⟩ = some (.int .i64 s.f1) := (zaa HBlk.out 1).trans rfl; have hOp := zha s.f1 w1.drew; have HB0d := znl (zbh HB0.out); have HBd := znl (zaN HBlk.out); go_region_law (first | (go_simp; go_at_call 116; refine hOp.mono ?_; rintro e w2 ⟨rfl, hb2⟩; have HB2 := znl (zad HB0d.out HB0d.out.size hb2); have HBlk2 := znl (zah HBd.out hb2); have k02 : w2.cell? ⟨w.heap.size, 0, none⟩ = some (.string s.f0) := (zaa HBlk2.out 0).trans rfl; clear hb2))
 all_goals
  have k13 : ∀ ob : Obj, (w2.alloc ob).cell? ⟨w.heap.size, 1, none⟩ = some (.int .i64 s.f1) := fun ob => (zaa (zav HBlk2.out ob) 1).trans rfl
  have k33 : ∀ ob : Obj, (w2.alloc ob).cell? ⟨w.heap.size, 3, none⟩ = some (.slice A3 s.f3.length c3) := fun ob => (zaa (zav HBlk2.out ob) 3).trans rfl
  have HB3 := znl (HB2.out.alloc HB2.out.size (.cells #[.string s.f0, .string ⟨#[61]⟩, .string (zbd s.f1)] 9)); have HBlk3 := znl (zav HBlk2.out (.cells #[.string s.f0, .string ⟨#[61]⟩, .string (zbd s.f1)] 9)); have HL3 : Hid (RS (w2.alloc (.cells #[.string s.f0, .string ⟨#[61]⟩, .string (zbd s.f1)] 9)) w.heap.size (.slice (some ⟨w2.heap.size, 0, none⟩) 3 3) [s.f0, ⟨#[61]⟩, zbd s.f1]) := zcO w2 w.heap.size [s.f0, ⟨#[61]⟩, zbd s.f1] HB2.out.size (by simp)
  go_wp2_with fail; generalize w2.alloc (.cells #[.string s.f0, .string ⟨#[61]⟩, .string (zbd s.f1)] 9) = w3 at HB3 HBlk3 HL3 |-; generalize (some (⟨w2.heap.size, 0, none⟩ : Addr)) = AL at HL3 |-; clear k02 HBlk2 HB2 k13 k33; go_loopg [3, 5, 24] s.f3.length (fun gg s3 _ s24 wr => ∃ (kk : Nat) (A : Option Addr) (c : Nat), kk <= s.f3.length /\ s.f3.length - kk <= gg /\ s24 = .int .i64 kk /\ s3 = .slice A (3 + kk) c /\ 3 + kk <= c /\
   Aside0 (RS wr w.heap.size (.slice A (3 + kk) c) ([s.f0, ⟨#[61]⟩, zbd s.f1] ++ (s.f3.take kk).map zbQ)) /\ Aside0 (Below w.heap.size w wr) /\
   Aside0 (wr.heap[w.heap.size]? = some (.cells #[.string s.f0, .int .i64 s.f1, .slice A2 s.f2.length c2, .slice A3 s.f3.length c3, .int .i64 s.f4] 24 (0, 0))))
  case atStart => exact ⟨0, AL, 3, zn8 _, by omega, rfl, rfl, by omega, ⟨by simpa using HL3.out⟩, ⟨HB3.out⟩, ⟨HBlk3.out⟩⟩
  case round =>
   obtain ⟨kk, A, c, hkk, hgk, rfl, rfl, hcc, HO, HB, HBk⟩ := hrel; by_cases hlt : kk < s.f3.length
   . have hltz : (kk : Int) < (s.f3.length : Int) := by omega
     rcases za5 (Kd.C_below H3.out HB.out) with h0 | ⟨b, o, rfl, _, hcell⟩
     . rw [h0] at hlt; simp at hlt
     . have hx : wr.cell? ⟨b, o + kk, none⟩ = some (.string (s.f3.getD kk ByteArray.empty)) := hcell kk hlt
       obtain ⟨y, hy⟩ : ∃ y, y = s.f3.getD kk ByteArray.empty := ⟨_, rfl⟩; rw [<- hy] at hx; have hym : y = s.f3[kk] := by rw [hy]; simp [List.getD_eq_getElem?_getD, List.getElem?_eq_getElem hlt]
       have hyP := HPr.out y (by rw [hym]; exact zoy _)
       have hq := fun W => zg0 y hyP.1 hyP.2 W
       have HN : Hid ((s.f3.take kk).map zbQ ++ [zbQ y] = (s.f3.take (kk + 1)).map zbQ) := by
        show _ = _
        rw [znO hlt, zoc, hym]; rfl
       have HNl : Hid (([s.f0, (⟨#[61]⟩ : ByteArray), zbd s.f1] ++ (s.f3.take kk).map zbQ).length = 3 + kk) := by
        show _ = _
        simp only [znC, zn0, znA, zn5, List.length_nil]; omega
       clear hcell hy hym hyP; go_wp2_with (first | (go_at_call 113; refine (hq _).mono ?_; rintro e w4 ⟨rfl, hb4⟩; have HB4 := znl (zad HB.out HB.out.size hb4); have HO4 := znl (Kd.R_below HO.out hb4); have HBk4 := znl (zah HBk.out hb4); have HS4 : Hid (w.heap.size <= w4.heap.size) := HB4.out.size; clear hb4) | ((with_reducible refine zaM (b := .append) (xs := #[.tmp 28, .tmp 31]) rfl ?_); at_builtin; refine Kd.R_append Kd.string (w0 := w) w.heap.size rfl (.tmp 28) (.tmp 31) 22 9 (.string ⟨#[]⟩) 16 rfl Tryz.underlying22 zcg rfl (by decide) (by decide) (.slice A (3 + kk) c) ([s.f0, ⟨#[61]⟩, zbd s.f1] ++ (s.f3.take kk).map zbQ) (zbQ y) [.string (zbQ y)] (fun _ => True) (fun k_ => True /\ some k_ ≠ (Value.slice A (3 + kk) c).ownBlock) rfl rfl rfl (fun _ hk => hk) (fun _ _ => trivial) HO4.out HB4.out HS4.out ?aL ?_; (case aL => rw [HNl.out]; omega); intro v1 w5 ho hb hg hat; obtain ⟨AN, cN, rfl, hcN, _⟩ := Kd.R_reads ho; have HO5 := znl ho; have HB5 := znl hb; have HBk5 := znl (zaK HBk4.out hg (Kd.R_ne HO4.out HBk4.out (by decide))); have HcN := znl hcN; clear ho hb hg hat hcN))
       have hLn : ([s.f0, (⟨#[61]⟩ : ByteArray), zbd s.f1] ++ (s.f3.take kk).map zbQ ++ [zbQ y]).length = 3 + (kk + 1) := by rw [znC, HNl.out]; rfl
       have hO5 := HO5.out; have hcN := HcN.out; rw [hLn] at hO5 hcN; rw [List.append_assoc, HN.out] at hO5; go_roundg (s.f3.length - (kk + 1))
       case measure => omega
       case rel =>
        exact ⟨kk + 1, AN, cN, by omega, by omega, by go_num, by first | rfl | (congr 1; omega) | (simp; omega), hcN, ⟨hO5⟩, ⟨HB5.out⟩, ⟨HBk5.out⟩⟩
   . have hltz : ¬ (kk : Int) < (s.f3.length : Int) := by omega
     obtain rfl : kk = s.f3.length := by omega
     have hLL : [s.f0, (⟨#[61]⟩ : ByteArray), zbd s.f1] ++ (s.f3.take s.f3.length).map zbQ ++ s.f2 = zcz s := by rw [zn1]; rfl
     have hLn : ([s.f0, (⟨#[61]⟩ : ByteArray), zbd s.f1] ++ (s.f3.take s.f3.length).map zbQ).length = 3 + s.f3.length := by
      simp only [znC, zn0, znA, zn5, List.length_nil, Nat.min_self]
     have HLL := znl hLL; have HLn := znl hLn; have HWB := znl HB.out.size; have H2r := znl (Kd.C_below H2.out HB.out); have k2 : wr.cell? ⟨w.heap.size, 2, none⟩ = some (.slice A2 s.f2.length c2) := (zaa HBk.out 2).trans rfl; have hlS : (zcz s).length = 3 + s.f3.length + s.f2.length := by rw [<- hLL, znC, hLn]
     have HlS : Hid ((zcz s).length * 16 <= 140737488355328) := by show _ <= _; rw [hlS]; omega
     clear hLL hLn hlS; go_wp2_with (first | ((with_reducible refine zaM (b := .append) (xs := #[.tmp 34, .tmp 36]) rfl ?_); at_builtin; refine Kd.R_append_rows Kd.string (Rr := Kd.string.K wr) (w0 := w) w.heap.size rfl (.tmp 34) (.tmp 36) 22 9 (.string ⟨#[]⟩) 16 rfl Tryz.underlying22 zcg rfl (by decide) (by decide) (.slice A (3 + s.f3.length) c) ([s.f0, ⟨#[61]⟩, zbd s.f1] ++ (s.f3.take s.f3.length).map zbQ) s.f2 A2 s.f2.length c2 (fun _ => True) (fun k_ => True /\ some k_ ≠ (Value.slice A (3 + s.f3.length) c).ownBlock) rfl rfl HO.out H2r.out (fun _ _ h => h) (fun _ hk => hk) (fun _ _ => trivial) HB.out HWB.out ?aL ?_; (case aL => rw [HLn.out]; omega); intro v1 w5 ho hb hg hat; rw [HLL.out] at ho; obtain ⟨AN, cN, rfl, hcN, hrN⟩ := Kd.R_reads ho; have HB5 := znl hb; have HcN := znl hcN; have HrN := znl hrN; have hJ := strings_Join.calls AN cN (zcz s) (mk [32]) (mk (Lib.join (zbF (zcz s)) [32])) w5 (HG.out.below hb) hrN hcN (zfY HlS.out HSum.out); have hn1 : ¬ 9223372036854775807 < (mk (Lib.join (zbF (zcz s)) [32])).size + 1 := (by rw [za6]; have := HSum.out; omega); clear ho hb hg hat hcN hrN) | (go_at_call 83; refine hJ.mono ?_; rintro e w6 ⟨rfl, hb6⟩; have HB6 := znl (zad HB5.out HB5.out.size hb6); clear hb6))
     go_ret
     refine ⟨?_, HB6.out⟩; unfold zcN; rw [<- zbM]; rfl

structure Sl where
 a : Option Addr
 n : Nat
 c : Nat
def Sl.v (s : Sl) : Value := .slice s.a s.n s.c
def kSl : Kd Sl := Kd.scalar Sl.v (fun _ => rfl)
abbrev Sh := ByteArray × Int × Sl × Sl × Int
def kSh : Kd Sh := Kd.pair Kd.string (Kd.pair (Kd.int .i64) (Kd.pair kSl (Kd.pair kSl (Kd.int .i64))))
theorem sh_K {w : World} (x : Sh) {cs : List Value} : kSh.K w x cs ↔ cs = [.string x.1, .int .i64 x.2.1, x.2.2.1.v, x.2.2.2.1.v, .int .i64 x.2.2.2.2] := by
 constructor
 . rintro ⟨_, _, rfl, rfl, _, _, rfl, rfl, _, _, rfl, rfl, _, _, rfl, rfl, rfl⟩
   rfl
 . rintro rfl
   exact ⟨[_], [_, _, _, _], rfl, rfl, [_], [_, _, _], rfl, rfl, [_], [_, _], rfl, rfl, [_], [_], rfl, rfl, rfl⟩
theorem sh_M {w : World} {base : Nat} {ok : Nat -> Prop} (x : Sh) {cs : List Value} : kSh.M w base ok x cs ↔ cs = [.string x.1, .int .i64 x.2.1, x.2.2.1.v, x.2.2.2.1.v, .int .i64 x.2.2.2.2] := by
 constructor
 . rintro ⟨_, _, rfl, rfl, _, _, rfl, rfl, _, _, rfl, rfl, _, _, rfl, rfl, rfl⟩
   rfl
 . rintro rfl
   exact ⟨[_], [_, _, _, _], rfl, rfl, [_], [_, _, _], rfl, rfl, [_], [_, _], rfl, rfl, [_], [_], rfl, rfl, rfl⟩
theorem zkv (ad : Addr) (c : Nat) (l : List Sh) (w : World) (hr : Kd.C kSh w (some ad) l.length l) (hl : l.length <= 1000) :
 Calls Tryz.prog 199 #[.slice (some ad) l.length c] w fun e w' => ∃ v, e = .returned v /\ Kd.R kSh 24 w' w.heap.size (fun _ => True) v l /\ Below w.heap.size w w' := by
 have HO : Hid (Kd.R kSh 24 (w.alloc (.cells #[] 24)) w.heap.size (fun _ => True) (.slice (some ⟨w.heap.size, 0, none⟩) 0 0) []) :=
  ⟨fun _ _ => trivial, OwnRow.lit (ps := []) (inner := []) w w.heap.size (Reps.none _ _) (znp _) (by simp)⟩
 have HC := znl (Kd.C_below hr ((zno w.heap.size w).alloc (znp _) (.cells #[] 24))); have HB := znl ((zno w.heap.size w).alloc (znp _) (.cells #[] 24)); have hnil : ∀ W, (binOp .eql 43 (.slice (some ad) l.length c) (.slice none 0 0)).run Tryz.prog W = .ok (.bool false) W := fun _ => rfl
 clear hr; go_enter Tryz.func199, Tryz.ntmps199
 go_wp2_with (first | ((with_reducible refine zaM (b := .append) (xs := #[.tmp 5, .tmp 6]) rfl ?_); at_builtin; refine Kd.R_append_rows kSh (Rr := kSh.K (w.alloc (.cells #[] 24))) (w0 := w) w.heap.size rfl (.tmp 5) (.tmp 6) 43 24 (.agg #[.string ⟨#[]⟩, .int .i64 0, .slice none 0 0, .slice none 0 0, .int .i64 0]) 80 rfl Tryz.underlying43 zdG rfl (by decide) (by decide) (.slice (some ⟨w.heap.size, 0, none⟩) 0 0) [] l (some ad) l.length c (fun _ => True) (fun k_ => True /\ some k_ ≠ (Value.slice (some (⟨w.heap.size, 0, none⟩ : Addr)) 0 0).ownBlock) rfl rfl HO.out HC.out (fun x cs h => (sh_M x).2 ((sh_K x).1 h)) (fun _ hk => hk) (fun _ _ => trivial) HB.out HB.out.size ?aL ?_; (case aL => simp; omega); intro v1 w4 ho hb hg hat; have HO4 := znl ho; have HB4 := znl hb; clear ho hb hg hat))
 go_ret
 exact ⟨v1, rfl, HO4.out, HB4.out⟩

end Go.Proofs.YtdpgdnpddndeoaaGreatDoor.X
