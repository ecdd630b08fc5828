/-
  What the cards lean on (part Y12): contracts of functions, by hand, and plain laws; what is printed by the kit's print for this seat is among them. What is not reached is left out.
-/
import Derived.Test.YtdpgdnpddndeoaaGreatDoorY11
import Derived.Test.YtdpgdnpddndeoaaGreatDoorY7
set_option maxHeartbeats 16000000
set_option maxRecDepth 100000
set_option linter.unusedSimpArgs false
set_option linter.unusedVariables false
open Go.RowKit.Below renaming refl -> zpt, heap_setCell -> zpS
open Nat renaming le_refl -> zpu, le_trans -> zpA
open List renaming length_map -> zp6, length_take -> zpF, length_append -> zpH, map_toArray -> zpT, map_cons -> zpU, map_nil -> zpV, getElem?_eq_none -> zp0, length_cons -> zqc, getElem?_take_of_lt -> zqg, length_nil -> zqv, setIfInBounds_toArray -> zqG, set_cons_zero -> zqH, set_cons_succ -> zqI
open Int renaming toNat_natCast -> zqz
open Array renaming getElem?_toList -> zqd
open Or renaming inl -> zqF
namespace Go
def bml : Nat -> Nat -> List Bool
 | 0, _ => []
 | n + 1, k => (k % 2 == 1) :: bml n (k / 2)
def bm (n k : Nat) : Array Bool := ⟨bml n k⟩
end Go

namespace Go.Proofs.YtdpgdnpddndeoaaGreatDoor.X
open Go.RowKit Go.Maps Go.Proofs.YtdpgdnpddndeoaaGreatDoorW.PrintWords Go.Proofs.YtdpgdnpddndeoaaGreatDoorW.PrintMore Go.Proofs.YtdpgdnpddndeoaaGreatDoorW.PrintLast
theorem zoM {a b : World} {D base : Nat} {v : Value} {l : List SVal} (h : RVal a base v l) (hg : a.grownBy b (some D)) (hD : ∀ (g t : Nat) (cs : Array Value) (fr : Nat × Nat), a.heap[g]? = some (Obj.cells cs t fr) -> D ≠ g) : RVal b base v l :=
 Kd.R_mono (Kd.R_step (Kd.R_mono (Kd.R_bound h) (fun k hk => hk)) (fun k hk hlt => hg.block k hlt (fun e => by
  cases e
  obtain ⟨_, _, _, q, _, cells, hc⟩ := hk; exact hD _ _ _ _ hc rfl))) (fun _ _ => trivial)
theorem DSt.row {rs : List zaj} {rank : zaa -> Nat} {m : TM} {w0 : World} {A : Option Addr} {c gt bt M D : Nat} {w w' : World} {st : zaa -> Option SVal} (h : DSt rs rank m w0 A c gt bt M D w st) {g : Nat} (hg : w.grownBy w' (some g)) (h1 : M ≠ g) (h2 : D ≠ g) (hb : Below w0.heap.size w0 w') : DSt rs rank m w0 A c gt bt M D w' st :=
 ⟨zaT h.c hg (by intro e; injection e with e; exact h1 e), h.d.grown hg (by intro e; injection e with e; exact h2 e), h.ok, hb, h.lo⟩
def zdt (rs : List zaj) (rank : zaa -> Nat) (m : TM) (nm : List ByteArray) : List SVal := if (allV rs).1 = 0 then nm.map fun n => valF rs rank (getT m) n.data.toList else List.replicate nm.length zV
theorem zlI {α β : Type} (f : α -> β) (z : β) (l : List α) (k : Nat) (h : k < l.length) : ((l.take k).map f ++ List.replicate (l.length - k) z).set k (f l[k]) = (l.take (k + 1)).map f ++ List.replicate (l.length - (k + 1)) z := by
 have e : l.length - k = (l.length - (k + 1)) + 1 := by omega
 rw [e, List.replicate_succ, List.take_succ_eq_append_getElem h, List.map_append, List.append_assoc]; have hl : ((l.take k).map f).length = k := by rw [zp6, zpF]; omega
 rw [List.set_append_right _ _ (by omega), hl, Nat.sub_self]
 rfl
theorem zkO (rs : List zaj) (rank : zaa -> Nat) (m : TM) (A : Option Addr) (c gt bt : Nat) (B : Option Addr) (d : Nat) (nm : List ByteArray) (w : World) (hG : GOK w) (hr : Kd.C k45 w A rs.length rs) (hT : IsTree w gt bt m) (hn : Kd.C Kd.string w B nm.length nm)
 (hF : zci rs) (hM : (allV rs).1 = 0 -> Mean rs rank) (hrd : ∀ k v, getT m k = some v -> v.length <= 4194304) (hl : nm.length <= 1000) (hs : ∀ x ∈ nm, x.size <= maxLen) :
 Calls Tryz.prog 50 #[.slice A rs.length c, .pointer (some ⟨gt, 0, none⟩), .slice B nm.length d] w (zfk (zdt rs rank m nm) w) := by
 have HG := zpq hG; have HR := zpq hr; have HT := zpq hT; have HN := zpq hn; have HF := zpq hF; have HM := zpq hM; have HRd := zpq hrd; have HS := zpq hs; have hrn := hF.len; obtain ⟨T, hTd⟩ : ∃ T, T = zdt rs rank m nm := ⟨_, rfl⟩; rw [<- hTd]; have HTd := zpq hTd; clear hG hr hT hn hF hM hrd hs hTd; have hmm := @run_makeMap Tryz.prog; have hz0 : (0 : Int) <= (nm.length : Int) := by omega
 go_enter Tryz.func50, Tryz.ntmps50
 go_upto_region 2 with (first | (at_make; refine Kd.R_make k34 (w0 := w) w.heap.size 34 rfl rfl 25 (.tmp 14) (.tmp 14) rfl (nm.length : Int) rfl rfl Tryz.underlying25 (.agg #[.bool false, .string ⟨#[]⟩]) 24 zcH rfl (by decide) (by decide) zV (okp := fun _ => True) (ok := fun _ => True) (zco _ _ _ zV) (fun _ h => h) trivial hz0 (by omega) (zpt _ _) (zpu _) ?_; intro v1 w2 ho hb hg hv; have HO2 := zpq ho; have HB2 := zpq hb; clear ho hb hg hv))
 rw [zqz] at HO2; have hal := zfc A c rs w2 (HG.out.below HB2.out) (Kd.C_below HR.out HB2.out) HF.out; obtain ⟨pe, hpe⟩ : ∃ pe, pe = allV rs := ⟨_, rfl⟩; rw [<- hpe] at hal; have HPe := zpq hpe; obtain ⟨p1, p2⟩ := pe; unfold zdY at hal; dsimp only at hal; clear hpe; by_cases hp : p1 = 0
 . subst hp
   have HP0 : Hid ((allV rs).1 = 0) := zpq (by rw [<- HPe.out])
   have HTn : Hid (T = nm.map fun n => valF rs rank (getT m) n.data.toList) := zpq (by rw [HTd.out]; unfold zdt; rw [if_pos HP0.out])
   have HMe := zpq (HM.out HP0.out); go_upto_region 5 with (first | (go_at_call 49; refine hal.mono ?_; rintro e w3 ⟨rfl, hb3⟩; have HB3 := zpq (zad HB2.out HB2.out.size hb3); have HO3 := zpq (Kd.R_below HO2.out hb3); clear hb3))
   have hb4 := (zpt w3.heap.size w3).alloc (zpu _) (.map #[] 0); have hs4 : (w3.alloc (.map #[] 0)).heap.size = w3.heap.size + 1 := by simp
   have hb5 := hb4.alloc hb4.size (.cells #[.slice A rs.length c, .pointer (some ⟨gt, 0, none⟩), .map (some w3.heap.size)] 105); have hd5 := ((DoneIs.made w3).below ((zpt _ _).alloc (zpu _) (.cells #[.slice A rs.length c, .pointer (some ⟨gt, 0, none⟩), .map (some w3.heap.size)] 105))).mono (Nat.zero_le (zb1 rs).length); have hc5 := zal (w3.alloc (.map #[] 0)) (.cells #[.slice A rs.length c, .pointer (some ⟨gt, 0, none⟩), .map (some w3.heap.size)] 105); rw [hs4] at hc5; have HD5 : Hid (DSt rs rank m w A c gt bt (w3.heap.size + 1) w3.heap.size _ (fun _ => none)) := zpq ⟨hc5, hd5, (fun k v h => by cases h), zad HB3.out HB3.out.size hb5, HB3.out.size⟩
   have HO5 := zpq (Kd.R_below HO3.out hb5); have HB5 := zpq (zad HB3.out HB3.out.size hb5); have HFi := zpq (zhy rs rank m w A c gt bt (w3.heap.size + 1) w3.heap.size HMe.out HRd.out HR.out HT.out HG.out); have HDlo : Hid (w.heap.size <= w3.heap.size) := zpq HB3.out.size; have HRt : Hid (∀ k, v1.ownBlock = some k -> k < w3.heap.size) := zpq (Kd.R_lt HO3.out); clear hb4 hs4 hb5 hd5 hc5 hal HO2; go_upto_region 6 with fail; generalize w3.heap.size = D at HDlo HRt HFi HD5 HO5 HB5 |-; generalize (w3.alloc (.map #[] 0)).alloc (.cells #[.slice A rs.length c, .pointer (some ⟨gt, 0, none⟩), .map (some D)] 105) = w5 at HD5 HO5 HB5 |-; clear hmm; go_wp2_with fail; go_loopg [11, 12, 31] nm.length (fun gg _ _ s31 wi => ∃ j : Nat, j <= nm.length /\ nm.length - j <= gg /\ s31 = .int .i64 j /\ Aside0 (RVal wi w.heap.size v1 ((nm.take j).map (fun n => valF rs rank (getT m) n.data.toList) ++ List.replicate (nm.length - j) zV)) /\ Aside0 (∃ st', DSt rs rank m w A c gt bt (D + 1) D wi st') /\ Aside0 (Below w.heap.size w wi))
   case atStart => exact ⟨0, Nat.zero_le _, by omega, rfl, ⟨by simpa using HO5.out⟩, ⟨_, HD5.out⟩, ⟨HB5.out⟩⟩
   case round =>
    obtain ⟨j, hj, hgj, rfl, HO, HDi, HW⟩ := hrel; obtain ⟨st2, hD2⟩ := HDi.out; have hlen : ((nm.take j).map (fun n => valF rs rank (getT m) n.data.toList) ++ List.replicate (nm.length - j) zV).length = nm.length := by rw [zpH, zp6, zpF, List.length_replicate]; omega
    by_cases hlj : j < nm.length
    . have hljz : (j : Int) < (nm.length : Int) := by omega
      obtain ⟨b5, o5, rfl, n0⟩ := zbi (Kd.C_below HN.out HW.out) j hlj; have hcall := HFi.out (rank nm[j].data.toList + 1) nm[j] wr st2 (Nat.lt_succ_self _) (HS.out _ (List.getElem_mem hlj)) hD2; obtain ⟨g, cap, hv1, hbg, hgl, _⟩ := Kd.R_form HO.out (by rw [hlen]; omega)
      rw [hlen] at hv1; subst hv1; have hfs := zlI (fun n : ByteArray => valF rs rank (getT m) n.data.toList) zV nm j hlj
      have HNe := zpq (fun (g t : Nat) (cs : Array Value) (fr : Nat × Nat) h => hD2.d.ne_cells (a := g) (t := t) (cs := cs) (fr := fr) h)
      have HFs := zpq hfs; have HLen := zpq hlen; have hjt : (j : Int).toNat = j := zqz j; generalize (nm.take j).map (fun n => valF rs rank (getT m) n.data.toList) ++ List.replicate (nm.length - j) zV = xs at HO HFs HLen
      generalize hvv : valF rs rank (getT m) nm[j].data.toList = v at hcall HFs; generalize nm[j] = x at n0 hcall hvv; unfold zdR aggV at hcall; clear hfs hlen hD2 hvv; go_wp2_with (first
       | (go_at_call 74; refine hcall.mono ?_; rintro e w7 ⟨rfl, ⟨st7, hD7⟩, hg7⟩; have HD7 := zpq hD7; have HG7 := zpq hg7; have HO7 := zpq (zoM HO.out hg7 HNe.out); have HB7 := zpq (HW.out.grown hg7 HW.out.size (fun k hk => by cases hk; exact HDlo.out)); clear hD7 hg7)
       | (refine ziO (.store 34 (.tmp 41) (.tmp 40)) rfl ?_; obtain ⟨cc, hc1, _, hc3, _⟩ := Kd.R_elem HO7.out zV (j : Int) (by omega) hljz; refine Kd.R_store k34 (w0 := w) w.heap.size rfl rfl 34 (.tmp 41) (.tmp 40) rfl 34 (g := g) (n := nm.length) (cap := cap) (j : Int) 0 xs v (.agg #[.bool v.f0, .string v.f1]) [.bool v.f0, .string v.f1] cc (fun _ => True) (fun _ => False) (haddr := rfl) (hoff := by show _ = (j : Int).toNat * 2 + 0; rw [zqz]; first | rfl | omega | simp) (hx := rfl) (hu := rfl) (ht := by kernel_rfl) (h1 := by simp [Value.oneCell']) (HO := HO7.out) (h0 := by omega) (hi := hljz) (hcl := hc1) (hcc := hc3) (hj := by show 0 + 2 <= 2; omega) (hM := by have e : cc.drop 2 = [] := List.drop_eq_nil_of_le (Nat.le_of_eq hc1); show Kd.M k34 _ _ _ v ([] ++ [.bool v.f0, .string v.f1] ++ cc.drop 2); rw [e]; exact zco _ _ _ v) (hokp := fun _ h => h.elim) (HB := HB7.out) ?_; intro w8 ho hb hg8; have HO8 := zpq ho; have HB8 := zpq hb; have HG8 := zpq hg8; clear ho hb hg8 hc1 hc3))
      have HD8 : Hid (DSt rs rank m w A c gt bt (D + 1) D w8 st7) := zpq (by
       have hgD := HRt.out g (by simp [Value.ownBlock])
       exact HD7.out.row HG8.out (by omega) (by omega) HB8.out)
      have HO9 : Hid (RVal w8 w.heap.size (.slice (some ⟨g, 0, none⟩) nm.length cap) ((nm.take (j + 1)).map (fun n => valF rs rank (getT m) n.data.toList) ++ List.replicate (nm.length - (j + 1)) zV)) := zpq (by rw [<- HFs.out]; have h := HO8.out; rw [hjt] at h; exact h)
      go_roundg (nm.length - (j + 1))
      case measure => omega
      case rel => exact ⟨j + 1, by omega, by omega, by first | rfl | go_num, ⟨HO9.out⟩, ⟨_, HD8.out⟩, ⟨HB8.out⟩⟩
    . have hljz : ¬ (j : Int) < (nm.length : Int) := by omega
      obtain rfl : j = nm.length := by omega
      have hO := HO.out; rw [List.take_length, Nat.sub_self, List.replicate_zero, List.append_nil, <- HTn.out] at hO; have HOf := zpq hO; clear hO hlen hD2; go_wp2_with fail; go_ret
      exact ⟨_, rfl, HOf.out, HW.out⟩
 . have HTn : Hid (T = List.replicate nm.length zV) := zpq (by rw [HTd.out]; unfold zdt; rw [if_neg (by rw [<- HPe.out]; exact hp)])
   go_wp2_with (first | (go_at_call 49; refine hal.mono ?_; rintro e w3 ⟨rfl, hb3⟩; have HB3 := zpq (zad HB2.out HB2.out.size hb3); have HO3 := zpq (Kd.R_below HO2.out hb3); clear hb3))
   go_ret
   exact ⟨_, rfl, by rw [HTn.out]; exact HO3.out, HB3.out⟩

end Go.Proofs.YtdpgdnpddndeoaaGreatDoor.X

namespace Go.Proofs.YtdpgdnpddndeoaaGreatDoor.X
def R7 : zaj := ⟨⟨#[114]⟩, [⟨#[97]⟩, ⟨#[98]⟩], [⟨#[120]⟩, ⟨#[121]⟩], [], [⟨⟨#[116]⟩, 3, [⟨#[97]⟩], [], 0⟩, ⟨⟨#[120]⟩, 4, [⟨#[116]⟩], [], 0⟩, ⟨⟨#[121]⟩, 2, [⟨#[98]⟩], [], 0⟩]⟩
def S7 : zaj := ⟨⟨#[115]⟩, [⟨#[120]⟩], [⟨#[97]⟩], [], [⟨⟨#[97]⟩, 1, [⟨#[120]⟩], [], 0⟩]⟩
theorem zoL : runS (zav R7) (R7.f1.map (zbr [⟨#[98]⟩] [⟨true, ⟨#[122]⟩⟩])) = [⟨false, ⟨#[]⟩⟩, ⟨true, ⟨#[122]⟩⟩] := by rfl
theorem zn1 : zbZ R7 = 0 := by rfl
theorem zmj : mayC (zag ⟨⟨#[116]⟩, 3, [⟨#[97]⟩], [], 0⟩) = true := by rfl
theorem zoN : (zaz ⟨#[97, 10, 10, 98]⟩).length = 3 := by rfl
theorem zkH : (zbn (zaw (zbs [⟨#[120]⟩]) (zav R7).steps).1 true).length = 2 := by rfl
theorem zjy : (zbn (zaw (zbs R7.f2) (zav R7).steps).1 false).length = 0 := by rfl
theorem zpk : newT [([97], [50, 10, 49])] = [([97], [50, 10, 49])] := by rfl
theorem zoG : (zcm (zav R7) (zaw (zbs [⟨#[120]⟩]) (zav R7).steps).1) = [[97]] := by
 unfold zcm; rw [<- zdC]; rfl
theorem zfV (l : List ByteArray) : zae l = ((l.map fun x => x.data.toList).foldl putS []).map mk := by unfold zae; rw [zdC]
theorem znW : (zcm (zav R7) (zaw (zbs R7.f2) (zav R7).steps).1) = [[97],[98]] := by
 unfold zcm; rw [<- zdC]; rfl
theorem zgV (all rs : List zaj) : zbw all rs = fun n => (rs.reverse.find? fun r => r.f0.data.toList == n).map fun r => zbN ((((zbY all r).map fun x => x.data.toList).foldl putS []).map mk) := by
 funext n
 unfold zbw; congr 1
 funext r
 rw [zfV]
theorem zng : allV [S7, R7] = (3, ⟨#[114]⟩) := by
 unfold allV cycV zcb wayV zcM; rw [zgV, zfV]; rfl
theorem zgQ : allV [R7] = (0, ⟨#[]⟩) := by
 unfold allV cycV zcb wayV zcM; rw [zgV, zfV]; rfl
def zhV (s : Cmd) (bs : List zaa) : zaa × Bool := if s.op = 3 then (zaF ((zbv (bs.getD 0 [])).foldl putS []), true) else zau s bs
theorem zhe : zau = zhV := by
 funext s bs
 unfold zhV; split
 . rename_i h
   unfold zau; rw [if_neg (by omega), if_neg (by omega), if_pos h, zdC]
 . rfl
theorem sv_of : runS (zav R7) [⟨true, ⟨#[113, 10, 112]⟩⟩, ⟨true, ⟨#[]⟩⟩] = [⟨true, ⟨#[50, 10]⟩⟩, ⟨false, ⟨#[]⟩⟩] := by
 unfold runS runK zcS doP; rw [zhe]; kernel_rfl
def rk7 : zaa -> Nat := fun n => if n = [120] \/ n = [121] then 1 else 0
theorem znt : zdt [R7] rk7 [([97], [50, 10, 49])] [⟨#[120]⟩, ⟨#[97]⟩, ⟨#[121]⟩] = [⟨true, ⟨#[50, 10]⟩⟩, ⟨true, ⟨#[50, 10, 49]⟩⟩, ⟨false, ⟨#[]⟩⟩] := by
 unfold zdt; rw [zgQ]; unfold valF; show [zbJ _ _ 2 [120], zbJ _ _ 1 [97], zbJ _ _ 2 [121]] = _
 unfold zbJ runK zcS doP; rw [zhe]; kernel_rfl
end Go.Proofs.YtdpgdnpddndeoaaGreatDoor.X

namespace Go.Proofs.YtdpgdnpddndeoaaGreatDoor.X
open Go.RowKit Go.Maps Go.Proofs.YtdpgdnpddndeoaaGreatDoorW.PrintWords Go.Proofs.YtdpgdnpddndeoaaGreatDoorW.PrintMore Go.Proofs.YtdpgdnpddndeoaaGreatDoorW.PrintLast
theorem zeg {α : Type} {d : Kd α} {e base : Nat} {v : Value} {xs : List α} {W W0 : World} {G : Nat} (h : d.R e W W0.heap.size (fun _ => True) v xs) (hG : G < W0.heap.size) (hb : base <= W0.heap.size) : d.R e W base (fun k => k ≠ G) v xs :=
 Kd.R_lower (Kd.R_mono (Kd.R_bound h) (fun k hk e => by have := hk.2.1; omega)) hb
theorem zm0 {cur : Array Value} {i j : Nat} {u v : Value} (h : cur[j]? = some v) (_ : u = u) (hij : i ≠ j) : (cur.setIfInBounds i u)[j]? = some v := by
 rw [Array.getElem?_setIfInBounds, if_neg hij]; exact h
theorem zfE (l : List ByteArray) : (zae l).length = l.length := by unfold zae; rw [zp6, List.length_mergeSort, zp6]
def IsOne (f0 : ByteArray) (l1 l2 l3 : List ByteArray) (x : zar) (w : World) (e : Ending) (w' : World) : Prop :=
 ∃ X1 d1 X2 d2 X3 d3 X4 d4, e = .returned (.agg #[.string f0, .slice X1 l1.length d1, .slice X2 l2.length d2, .slice X3 l3.length d3, .slice X4 1 d4]) /\
  RS w' w.heap.size (.slice X1 l1.length d1) l1 /\ RS w' w.heap.size (.slice X2 l2.length d2) l2 /\ RS w' w.heap.size (.slice X3 l3.length d3) l3 /\ Kd.R k24 24 w' w.heap.size (fun _ => True) (.slice X4 1 d4) [x] /\ Below w.heap.size w w'
theorem zhq (f0 : ByteArray) (l1 l2 l3 : List ByteArray) (x : zar) (A1 : Option Addr) (c1 : Nat) (A2 : Option Addr) (c2 : Nat) (A3 : Option Addr) (c3 : Nat) (A4 : Option Addr) (c4 : Nat) (w : World)
 (h1 : Kd.C Kd.string w A1 l1.length l1) (h2 : Kd.C Kd.string w A2 l2.length l2) (h3 : Kd.C Kd.string w A3 l3.length l3) (h4 : Kd.C k24 w A4 1 [x])
 (hl1 : l1.length * 16 <= 140737488355328) (hl2 : l2.length * 16 <= 140737488355328) (hl3 : l3.length * 16 <= 140737488355328) (hl5 : x.f2.length * 16 <= 140737488355328) (hl6 : x.f3.length * 16 <= 140737488355328) :
 Calls Tryz.prog 147 #[.agg #[.string f0, .slice A1 l1.length c1, .slice A2 l2.length c2, .slice A3 l3.length c3, .slice A4 1 c4]] w (IsOne f0 (zae l1) (zae l2) (zae l3) x w) := by
 obtain ⟨ad, cs, rfl, hcl, hK, hcell⟩ := Kd.C_get h4 x 0 (by decide) (by decide)
 obtain ⟨A5, c5, A6, c6, hcs, hc5, h5, hc6, h6⟩ := zcW hK; subst hcs; have hsh : Kd.C kSh w (some ad) [((x.f0, x.f1, ⟨A5, x.f2.length, c5⟩, ⟨A6, x.f3.length, c6⟩, x.f4) : Sh)].length [((x.f0, x.f1, ⟨A5, x.f2.length, c5⟩, ⟨A6, x.f3.length, c6⟩, x.f4) : Sh)] := by
  refine ⟨rfl, by simp, fun _ => ⟨ad, rfl, fun j p hj => ?_⟩⟩
  match j, hj with
  | 0, hj =>
   simp at hj
   subst hj; exact ⟨_, rfl, (sh_K _).2 rfl, hcell⟩
  | j + 1, hj => simp at hj
 have hb1 := (zpt w.heap.size w).alloc (zpu _) (.cells #[.string f0, .slice A1 l1.length c1, .slice A2 l2.length c2, .slice A3 l3.length c3, .slice (some ad) 1 c4] 45); have hb2 := hb1.alloc hb1.size (.cells RUz 45); have hk := zaB (zal w (.cells #[.string f0, .slice A1 l1.length c1, .slice A2 l2.length c2, .slice A3 l3.length c3, .slice (some ad) 1 c4] 45)) (.cells RUz 45); have hz := zal (w.alloc (.cells #[.string f0, .slice A1 l1.length c1, .slice A2 l2.length c2, .slice A3 l3.length c3, .slice (some ad) 1 c4] 45)) (.cells RUz 45); rw [World.size_alloc] at hz; have HB2 := zpq hb2; have HK2 := zpq hk; have HZ2 := zpq hz; have H1 := zpq h1; have H2 := zpq h2; have H3 := zpq h3; have H4 := zpq hsh; have H5 := zpq h5; have H6 := zpq h6; have HL1 := zpq hl1; have HL2 := zpq hl2; have HL3 := zpq hl3; have HL5 := zpq hl5; have HL6 := zpq hl6; clear hb1 hb2 hk hz h1 h2 h3 h4 hl1 hl2 hl3 hl5 hl6 hcl hK hcell hc5 h5 hc6 h6 hsh; go_enter Tryz.func147, Tryz.ntmps147
 go_wp2; generalize (w.alloc (.cells #[.string f0, .slice A1 l1.length c1, .slice A2 l2.length c2, .slice A3 l3.length c3, .slice (some ad) 1 c4] 45)).alloc (.cells RUz 45) = w2 at HB2 HK2 HZ2 |-; have HBwd := zpq (zaV HB2.out); have HKwd := zpq (zax HK2.out); have HZwd := zpq (zax HZ2.out); have HC1wd := zpq (Kd.C_below H1.out HBwd.out); have HC2wd := zpq (Kd.C_below H2.out HBwd.out); have HC3wd := zpq (Kd.C_below H3.out HBwd.out); have k1wd : w2.drew.cell? ⟨w.heap.size, 1, none⟩ = some (.slice A1 l1.length c1) := (zab HKwd.out 1).trans rfl; have k2wd : w2.drew.cell? ⟨w.heap.size, 2, none⟩ = some (.slice A2 l2.length c2) := (zab HKwd.out 2).trans rfl; have k3wd : w2.drew.cell? ⟨w.heap.size, 3, none⟩ = some (.slice A3 l3.length c3) := (zab HKwd.out 3).trans rfl; clear HB2 HK2 HZ2 H1 H2 H3
--REG1
 refine zdZ (n := 15) (S := fun w' => w'.cell? ⟨w.heap.size, 1, none⟩ = some (.slice A1 l1.length c1) /\ w'.cell? ⟨w.heap.size, 2, none⟩ = some (.slice A2 l2.length c2) /\ w'.cell? ⟨w.heap.size, 3, none⟩ = some (.slice A3 l3.length c3)) (ds := [10, 12, 14]) (bm 15 0) (by kernel_rfl) rfl (by kernel_rfl) ⟨k1wd, k2wd, k3wd⟩ (fun hHeld => ?_)
 refine zaH (i := 0) (N := some 4) (v := ?_) (a' := ?_) (bm 15 1) rfl rfl (by kernel_rfl) (fun _ _ _ h => h) (zqF ⟨by rfl, ?_⟩) ?_ ?_
 rotate_left
 . intro w'
   go_simp
   with_reducible rfl
 rotate_left
 . simp only [Act.put, zqG, zqH, zqI, zao, zap]
   rfl
 refine zaH (i := 3) (N := some 7) (v := ?_) (a' := ?_) (bm 15 9) rfl rfl (by kernel_rfl) (fun _ _ _ h => h) (zqF ⟨by rfl, ?_⟩) ?_ ?_
 rotate_left
 . intro w'
   go_simp
   with_reducible rfl
 rotate_left
 . simp only [Act.put, zqG, zqH, zqI, zao, zap]
   rfl
 refine zaH (i := 6) (N := some 10) (v := ?_) (a' := ?_) (bm 15 73) rfl rfl (by kernel_rfl) (fun _ _ _ h => h) (zqF ⟨by rfl, ?_⟩) ?_ ?_
 rotate_left
 . intro w'
   go_simp
   with_reducible rfl
 rotate_left
 . simp only [Act.put, zqG, zqH, zqI, zao, zap]
   rfl
 refine take_ (i := 1) (N := some 5) (v := ?_) (a' := ?_) (bm 15 75) rfl rfl (by kernel_rfl) (fun _ _ _ h => h) (zqF ⟨by rfl, ?_⟩) hHeld ?_ ?_
 rotate_left
 . rintro w' ⟨s0, s1, s2⟩
   go_simp
   with_reducible rfl
 rotate_left
 . simp only [Act.put, zqG, zqH, zqI, zao, zap]
   rfl
 refine take_ (i := 4) (N := some 8) (v := ?_) (a' := ?_) (bm 15 91) rfl rfl (by kernel_rfl) (fun _ _ _ h => h) (zqF ⟨by rfl, ?_⟩) hHeld ?_ ?_
 rotate_left
 . rintro w' ⟨s0, s1, s2⟩
   go_simp
   with_reducible rfl
 rotate_left
 . simp only [Act.put, zqG, zqH, zqI, zao, zap]
   rfl
 refine take_ (i := 7) (N := some 11) (v := ?_) (a' := ?_) (bm 15 219) rfl rfl (by kernel_rfl) (fun _ _ _ h => h) (zqF ⟨by rfl, ?_⟩) hHeld ?_ ?_
 rotate_left
 . rintro w' ⟨s0, s1, s2⟩
   go_simp
   with_reducible rfl
 rotate_left
 . simp only [Act.put, zqG, zqH, zqI, zao, zap]
   rfl
 refine one_ (i := 2) (N := some 6) (bm 15 223) rfl rfl (by kernel_rfl) (by decide) (fun K hK => ?_)
 refine zcz Tryz.func198 (by kernel_rfl) rfl #[.slice A1 l1.length c1] (by rfl) rfl rfl (by simp only [zpT, zpU, zpV]; rfl) ?_
 with_reducible refine (zge A1 c1 l1 _ HC1wd.out HL1.out).mono ?_
 rintro e wa ⟨v1, rfl, ho1, hb1⟩; obtain ⟨X1, d1, rfl, _, _⟩ := Kd.R_reads ho1; refine ⟨_, rfl, ?_⟩; have HBwa := zpq (zad HBwd.out HBwd.out.size hb1); have HKwa := zpq (zah HKwd.out hb1); have HZwa := zpq (zah HZwd.out hb1); have HC2wa := zpq (Kd.C_below HC2wd.out hb1); have HC3wa := zpq (Kd.C_below HC3wd.out hb1); have HO1wa := zpq (Kd.R_lower ho1 HBwd.out.size); have k1wa : wa.cell? ⟨w.heap.size, 1, none⟩ = some (.slice A1 l1.length c1) := (zab HKwa.out 1).trans rfl; have k2wa : wa.cell? ⟨w.heap.size, 2, none⟩ = some (.slice A2 l2.length c2) := (zab HKwa.out 2).trans rfl; have k3wa : wa.cell? ⟨w.heap.size, 3, none⟩ = some (.slice A3 l3.length c3) := (zab HKwa.out 3).trans rfl; clear ho1 hb1; refine hK.out _ _ ⟨k1wa, k2wa, k3wa⟩ (fun hHeld => ?_)
 clear hK K; refine zbc (a' := ?_) ?_ ?_; rotate_left
 . show Act.put _ (some 6) _ = _
   simp only [Act.put, zqG, zqH, zqI, zao, zap]; rfl
 refine zaH (i := 9) (N := some 13) (v := ?_) (a' := ?_) (bm 15 735) rfl rfl (by kernel_rfl) (fun _ _ _ h => h) (zqF ⟨by rfl, ?_⟩) ?_ ?_
 rotate_left
 . intro w'
   go_simp
   with_reducible rfl
 rotate_left
 . simp only [Act.put, zqG, zqH, zqI, zao, zap]
   rfl
 refine one_ (i := 5) (N := some 9) (bm 15 767) rfl rfl (by kernel_rfl) (by decide) (fun K hK => ?_)
 refine zcz Tryz.func198 (by kernel_rfl) rfl #[.slice A2 l2.length c2] (by rfl) rfl rfl (by simp only [zpT, zpU, zpV]; rfl) ?_
 with_reducible refine (zge A2 c2 l2 _ HC2wa.out HL2.out).mono ?_
 rintro e wb ⟨v2, rfl, ho2, hb2⟩; obtain ⟨X2, d2, rfl, _, _⟩ := Kd.R_reads ho2; refine ⟨_, rfl, ?_⟩; have HBwb := zpq (zad HBwa.out HBwa.out.size hb2); have HKwb := zpq (zah HKwa.out hb2); have HZwb := zpq (zah HZwa.out hb2); have HC3wb := zpq (Kd.C_below HC3wa.out hb2); have HO1wb := zpq (Kd.R_below HO1wa.out hb2); have HO2wb := zpq (Kd.R_lower ho2 HBwa.out.size); have k1wb : wb.cell? ⟨w.heap.size, 1, none⟩ = some (.slice A1 l1.length c1) := (zab HKwb.out 1).trans rfl; have k2wb : wb.cell? ⟨w.heap.size, 2, none⟩ = some (.slice A2 l2.length c2) := (zab HKwb.out 2).trans rfl; have k3wb : wb.cell? ⟨w.heap.size, 3, none⟩ = some (.slice A3 l3.length c3) := (zab HKwb.out 3).trans rfl; clear ho2 hb2; refine hK.out _ _ ⟨k1wb, k2wb, k3wb⟩ (fun hHeld => ?_)
 clear hK K; refine zbc (a' := ?_) ?_ ?_; rotate_left
 . show Act.put _ (some 9) _ = _
   simp only [Act.put, zqG, zqH, zqI, zao, zap]; rfl
 refine one_ (i := 8) (N := some 12) (bm 15 1023) rfl rfl (by kernel_rfl) (by decide) (fun K hK => ?_)
 refine zcz Tryz.func198 (by kernel_rfl) rfl #[.slice A3 l3.length c3] (by rfl) rfl rfl (by simp only [zpT, zpU, zpV]; rfl) ?_
 with_reducible refine (zge A3 c3 l3 _ HC3wb.out HL3.out).mono ?_
 rintro e wc ⟨v3, rfl, ho3, hb3⟩; obtain ⟨X3, d3, rfl, _, _⟩ := Kd.R_reads ho3; refine ⟨_, rfl, ?_⟩; have HBwc := zpq (zad HBwb.out HBwb.out.size hb3); have HKwc := zpq (zah HKwb.out hb3); have HZwc := zpq (zah HZwb.out hb3); have HO1wc := zpq (Kd.R_below HO1wb.out hb3); have HO2wc := zpq (Kd.R_below HO2wb.out hb3); have HO3wc := zpq (Kd.R_lower ho3 HBwb.out.size); have k1wc : wc.cell? ⟨w.heap.size, 1, none⟩ = some (.slice A1 l1.length c1) := (zab HKwc.out 1).trans rfl; have k2wc : wc.cell? ⟨w.heap.size, 2, none⟩ = some (.slice A2 l2.length c2) := (zab HKwc.out 2).trans rfl; have k3wc : wc.cell? ⟨w.heap.size, 3, none⟩ = some (.slice A3 l3.length c3) := (zab HKwc.out 3).trans rfl; clear ho3 hb3; refine hK.out _ _ ⟨k1wc, k2wc, k3wc⟩ (fun hHeld => ?_)
 clear hK K; refine zbc (a' := ?_) ?_ ?_; rotate_left
 . show Act.put _ (some 12) _ = _
   simp only [Act.put, zqG, zqH, zqI, zao, zap]; rfl
 refine zdL (i := 10) (N := none) (bm 15 2047) rfl rfl (by kernel_rfl) (by decide) (fun K hK => ?_)
 have hs1 := HKwc.out; have hs2 := zbS hs1 1 (.slice X1 (zae l1).length d1); have hs3 := zbS hs2 2 (.slice X2 (zae l2).length d2); have cs1 : (wc).cell? ⟨w.heap.size, 1, none⟩ = some (.slice A1 l1.length c1) := (zab hs1 1).trans rfl; have fs1 := zai hs1 1; refine zcN (w1 := ?_) (by rfl) rfl ?_ ?_
 rotate_left
 . go_simp
   rfl
 refine hK.out _ _ ?_; clear hK K; refine zaH (i := 11) (N := some 14) (v := ?_) (a' := ?_) (bm 15 4095) rfl rfl (by kernel_rfl) (fun _ _ _ h => h) (zqF ⟨by rfl, ?_⟩) ?_ ?_
 rotate_left
 . intro w'
   go_simp
   with_reducible rfl
 rotate_left
 . simp only [Act.put, zqG, zqH, zqI, zao, zap]
   rfl
 refine zdL (i := 12) (N := none) (bm 15 8191) rfl rfl (by kernel_rfl) (by decide) (fun K hK => ?_)
 have cs2 : (wc.setCell ⟨w.heap.size, 1, none⟩ (.slice X1 (zae l1).length d1)).cell? ⟨w.heap.size, 2, none⟩ = some (.slice A2 l2.length c2) := (zab hs2 2).trans rfl; have fs2 := zai hs2 2; refine zcN (w1 := ?_) (by rfl) rfl ?_ ?_
 rotate_left
 . go_simp
   rfl
 refine hK.out _ _ ?_; clear hK K; refine zaH (i := 13) (N := some 15) (v := ?_) (a' := ?_) (bm 15 16383) rfl rfl (by kernel_rfl) (fun _ _ _ h => h) (zqF ⟨by rfl, ?_⟩) ?_ ?_
 rotate_left
 . intro w'
   go_simp
   with_reducible rfl
 rotate_left
 . simp only [Act.put, zqG, zqH, zqI, zao, zap]
   rfl
 refine zdL (i := 14) (N := none) (bm 15 32767) rfl rfl (by kernel_rfl) (by decide) (fun K hK => ?_)
 have cs3 : ((wc.setCell ⟨w.heap.size, 1, none⟩ (.slice X1 (zae l1).length d1)).setCell ⟨w.heap.size, 2, none⟩ (.slice X2 (zae l2).length d2)).cell? ⟨w.heap.size, 3, none⟩ = some (.slice A3 l3.length c3) := (zab hs3 3).trans rfl; have fs3 := zai hs3 3; refine zcN (w1 := ?_) (by rfl) rfl ?_ ?_
 rotate_left
 . go_simp
   rfl
 refine hK.out _ _ ?_; clear hK K; refine zdV (by kernel_rfl) ?_
--REG1E
 have hs4 := zbS hs3 3 (.slice X3 (zae l3).length d3); have hs4' : (((wc.setCell ⟨w.heap.size, 1, none⟩ (.slice X1 (zae l1).length d1)).setCell ⟨w.heap.size, 2, none⟩ (.slice X2 (zae l2).length d2)).setCell ⟨w.heap.size, 3, none⟩ (.slice X3 (zae l3).length d3)).heap[w.heap.size]? = some (.cells #[.string f0, .slice X1 (zae l1).length d1, .slice X2 (zae l2).length d2, .slice X3 (zae l3).length d3, .slice (some ad) 1 c4] 45 (0, 0)) := hs4; have HK5 := zpq hs4'; have HB5 := zpq (((HBwc.out.setCell (p := ⟨w.heap.size, 1, none⟩) (zpu _) (.slice X1 (zae l1).length d1)).setCell (p := ⟨w.heap.size, 2, none⟩) (zpu _) (.slice X2 (zae l2).length d2)).setCell (p := ⟨w.heap.size, 3, none⟩) (zpu _) (.slice X3 (zae l3).length d3)); have hzn : w.heap.size + 1 ≠ w.heap.size := by omega
 have HZ5 := zpq (zaS (zaS (zaS HZwc.out (p := ⟨w.heap.size, 1, none⟩) hzn (.slice X1 (zae l1).length d1)) (p := ⟨w.heap.size, 2, none⟩) hzn (.slice X2 (zae l2).length d2)) (p := ⟨w.heap.size, 3, none⟩) hzn (.slice X3 (zae l3).length d3)); have HO15 := zpq (Kd.R_set (Kd.R_set (Kd.R_set HO1wc.out hs1 (by decide) 1 (.slice X1 (zae l1).length d1)) hs2 (by decide) 2 (.slice X2 (zae l2).length d2)) hs3 (by decide) 3 (.slice X3 (zae l3).length d3))
 have HO25 := zpq (Kd.R_set (Kd.R_set (Kd.R_set HO2wc.out hs1 (by decide) 1 (.slice X1 (zae l1).length d1)) hs2 (by decide) 2 (.slice X2 (zae l2).length d2)) hs3 (by decide) 3 (.slice X3 (zae l3).length d3))
 have HO35 := zpq (Kd.R_set (Kd.R_set (Kd.R_set HO3wc.out hs1 (by decide) 1 (.slice X1 (zae l1).length d1)) hs2 (by decide) 2 (.slice X2 (zae l2).length d2)) hs3 (by decide) 3 (.slice X3 (zae l3).length d3))
 have k45 : (((wc.setCell ⟨w.heap.size, 1, none⟩ (.slice X1 (zae l1).length d1)).setCell ⟨w.heap.size, 2, none⟩ (.slice X2 (zae l2).length d2)).setCell ⟨w.heap.size, 3, none⟩ (.slice X3 (zae l3).length d3)).cell? ⟨w.heap.size, 4, none⟩ = some (.slice (some ad) 1 c4) := (zab hs4' 4).trans rfl; go_wp2_with fail; generalize ((wc.setCell ⟨w.heap.size, 1, none⟩ (.slice X1 (zae l1).length d1)).setCell ⟨w.heap.size, 2, none⟩ (.slice X2 (zae l2).length d2)).setCell ⟨w.heap.size, 3, none⟩ (.slice X3 (zae l3).length d3) = w5 at HK5 HB5 HZ5 HO15 HO25 HO35 |-; clear hs1 hs2 hs3 hs4 hs4' cs1 cs2 cs3 fs1 fs2 fs3 k45; have hcl : Calls Tryz.prog 199 #[.slice (some ad) 1 c4] w5 _ := zkL ad c4 [((x.f0, x.f1, ⟨A5, x.f2.length, c5⟩, ⟨A6, x.f3.length, c6⟩, x.f4) : Sh)] w5 (Kd.C_below H4.out HB5.out) (by simp)
 refine hcl.mono ?_; rintro e w6 ⟨v6, rfl, hr6, hb6⟩; obtain ⟨_, inner, ho6, hrep⟩ := hr6; rcases ho6.2 with ⟨_, hn⟩ | ⟨G, cG, cur, rfl, hbase, hG, q1, q2, q3, q4⟩
 . simp at hn
 have hin : inner = [.string x.f0, .int .i64 x.f1, .slice A5 x.f2.length c5, .slice A6 x.f3.length c6, .int .i64 x.f4] := by
  have h0 := (sh_M _).1 (hrep.2 0 ((x.f0, x.f1, ⟨A5, x.f2.length, c5⟩, ⟨A6, x.f3.length, c6⟩, x.f4) : Sh) rfl); have hlen : inner.length = 5 := hrep.1; rw [Nat.zero_mul, List.drop_zero, show kSh.sz = 5 from rfl, List.take_of_length_le (by omega)] at h0
  exact h0
 have q4' : cur.toList.take 5 = [.string x.f0, .int .i64 x.f1, .slice A5 x.f2.length c5, .slice A6 x.f3.length c6, .int .i64 x.f4] := by rw [<- hin]; exact q4
 have hat : ∀ i, i < 5 -> cur[i]? = ([.string x.f0, .int .i64 x.f1, .slice A5 x.f2.length c5, .slice A6 x.f3.length c6, .int .i64 x.f4] : List Value)[i]? := fun i hi => by
  rw [<- q4', zqg hi, zqd]
 have HG2 : Hid (cur[2]? = some (.slice A5 x.f2.length c5)) := (hat 2 (by omega)).trans rfl
 have HG3 : Hid (cur[3]? = some (.slice A6 x.f3.length c6)) := (hat 3 (by omega)).trans rfl
 have HAt := zpq hat; have HCap : Hid (cur.size = cG * 5 /\ 1 <= cG /\ cG <= maxLen) := ⟨q3, q1, q2⟩; have hGB : w.heap.size ≠ G := by have := zaQ HK5.out; omega
 have hGZ : w.heap.size + 1 ≠ G := by have := zaQ HZ5.out; omega
 have HGb : Hid (w.heap.size <= G) := by show _ <= _; have := zaQ HK5.out; omega
 have hK6 := zah HK5.out hb6; have HB7 := zpq ((zad HB5.out HB5.out.size hb6).setCell (p := ⟨w.heap.size, 4, none⟩) (zpu _) (.slice (some ⟨G, 0, none⟩) 1 cG)); have HK7 : Hid ((w6.setCell ⟨w.heap.size, 4, none⟩ (.slice (some ⟨G, 0, none⟩) 1 cG)).heap[w.heap.size]? = some (.cells #[.string f0, .slice X1 (zae l1).length d1, .slice X2 (zae l2).length d2, .slice X3 (zae l3).length d3, .slice (some ⟨G, 0, none⟩) 1 cG] 45 (0, 0))) := zat hK6 4 _ rfl; have HZ7 := zpq (zaS (zah HZ5.out hb6) (p := ⟨w.heap.size, 4, none⟩) (by show w.heap.size + 1 ≠ w.heap.size; omega) (.slice (some ⟨G, 0, none⟩) 1 cG))
 have HG7 := zpq (zaS hG (p := ⟨w.heap.size, 4, none⟩) hGB.symm (.slice (some ⟨G, 0, none⟩) 1 cG)); have HO17 := zpq (Kd.R_set (Kd.R_below HO15.out hb6) hK6 (by decide) 4 (.slice (some ⟨G, 0, none⟩) 1 cG))
 have HO27 := zpq (Kd.R_set (Kd.R_below HO25.out hb6) hK6 (by decide) 4 (.slice (some ⟨G, 0, none⟩) 1 cG))
 have HO37 := zpq (Kd.R_set (Kd.R_below HO35.out hb6) hK6 (by decide) 4 (.slice (some ⟨G, 0, none⟩) 1 cG))
 have c46 : w6.cell? ⟨w.heap.size, 4, none⟩ = some (.slice (some ad) 1 c4) := (zab hK6 4).trans rfl; have f46 : w6.frozen? ⟨w.heap.size, 4, none⟩ = false := zai hK6 4; have k47 : ∀ v, (w6.setCell ⟨w.heap.size, 4, none⟩ v).cell? ⟨w.heap.size, 4, none⟩ = some v := fun v => (zab (zbS hK6 4 v) 4).trans rfl
 clear hcl hb6 hrep ho6 hbase hG q1 q2 q3 q4 hin q4' hat hK6 HO15 HO25 HO35 HZ5 HK5 HB5; go_wp2_with fail; generalize w6.setCell ⟨w.heap.size, 4, none⟩ (.slice (some ⟨G, 0, none⟩) 1 cG) = w7 at HB7 HK7 HZ7 HG7 HO17 HO27 HO37 |-; clear c46 f46 k47; go_loopg [3, 23] 1 (fun gg _ s23 wr => ∃ kk : Nat, kk <= 1 /\ 1 - kk <= gg /\ s23 = .int .i64 kk /\ Aside0 (Below w.heap.size w wr) /\ Aside0 (wr.heap[w.heap.size]? = some (.cells #[.string f0, .slice X1 (zae l1).length d1, .slice X2 (zae l2).length d2, .slice X3 (zae l3).length d3, .slice (some ⟨G, 0, none⟩) 1 cG] 45 (0, 0))) /\ Aside0 (wr.heap[w.heap.size + 1]? = some (.cells RUz 45 (0, 0))) /\ Aside0 (RS wr w.heap.size (.slice X1 (zae l1).length d1) (zae l1)) /\ Aside0 (RS wr w.heap.size (.slice X2 (zae l2).length d2) (zae l2)) /\ Aside0 (RS wr w.heap.size (.slice X3 (zae l3).length d3) (zae l3)) /\
  Aside0 (kk = 0 -> wr.heap[G]? = some (.cells cur 24 (0, 0))) /\
  Aside0 (kk = 1 -> ∃ X5 d5 X6 d6, wr.heap[G]? = some (.cells ((cur.setIfInBounds 2 (.slice X5 x.f2.length d5)).setIfInBounds 3 (.slice X6 x.f3.length d6)) 24 (0, 0)) /\ Kd.R Kd.string 9 wr w.heap.size (fun k => k ≠ G) (.slice X5 x.f2.length d5) x.f2 /\ Kd.R Kd.string 9 wr w.heap.size (fun k => k ≠ G) (.slice X6 x.f3.length d6) x.f3))
 case atStart => exact ⟨0, by omega, by omega, rfl, ⟨HB7.out⟩, ⟨HK7.out⟩, ⟨HZ7.out⟩, ⟨HO17.out⟩, ⟨HO27.out⟩, ⟨HO37.out⟩, ⟨fun _ => HG7.out⟩, ⟨fun h => by omega⟩⟩
 case round =>
  obtain ⟨kk, hkk, hgk, rfl, HB8, HK8, HZ8, HO18, HO28, HO38, HP0, HP1⟩ := hrel; by_cases h0 : kk = 0
  . subst h0
    have HG8 := zpq (HP0.out rfl); go_wp2_with fail; have HBwe := zpq (zaV HB8.out); have HKwe := zpq (zax HK8.out); have HZwe := zpq (zax HZ8.out); have HGwe := zpq (zax HG8.out); have dr : Below wr.heap.size wr wr.drew := ⟨rfl, rfl, rfl, zpu _, fun _ _ => rfl⟩
    have HO1we := zpq (Kd.R_below HO18.out dr); have HO2we := zpq (Kd.R_below HO28.out dr); have HO3we := zpq (Kd.R_below HO38.out dr); have HC5we := zpq (Kd.C_below H5.out HBwe.out); have HC6we := zpq (Kd.C_below H6.out HBwe.out); have k4we : wr.drew.cell? ⟨w.heap.size, 4, none⟩ = some (.slice (some ⟨G, 0, none⟩) 1 cG) := (zab HKwe.out 4).trans rfl; have k5we : wr.drew.cell? ⟨G, 2, none⟩ = some (.slice A5 x.f2.length c5) := (zab HGwe.out 2).trans HG2.out; have k6we : wr.drew.cell? ⟨G, 3, none⟩ = some (.slice A6 x.f3.length c6) := (zab HGwe.out 3).trans HG3.out; clear dr HB8 HK8 HZ8 HG8 HO18 HO28 HO38 HP0 HP1
--REG6
    refine zdZ (n := 26) (S := fun w' => w'.cell? ⟨w.heap.size, 4, none⟩ = some (.slice (some ⟨G, 0, none⟩) 1 cG)) (ds := []) (bm 26 0) (by kernel_rfl) rfl (by kernel_rfl) (k4we) (fun hHeld => ?_)
    refine zaH (i := 0) (N := some 26) (v := ?_) (a' := ?_) (bm 26 1) rfl rfl (by kernel_rfl) (fun _ _ _ h => h) (zqF ⟨by rfl, ?_⟩) ?_ ?_
    rotate_left
    . intro w'
      go_simp
      with_reducible rfl
    rotate_left
    . simp only [Act.put, zqG, zqH, zqI, zao, zap]
      rfl
    refine zaH (i := 2) (N := some 28) (v := ?_) (a' := ?_) (bm 26 5) rfl rfl (by kernel_rfl) (fun _ _ _ h => h) (zqF ⟨by rfl, ?_⟩) ?_ ?_
    rotate_left
    . intro w'
      go_simp
      with_reducible rfl
    rotate_left
    . simp only [Act.put, zqG, zqH, zqI, zao, zap]
      rfl
    refine zaH (i := 3) (N := some 29) (v := ?_) (a' := ?_) (bm 26 13) rfl rfl (by kernel_rfl) (fun _ _ _ h => h) (zqF ⟨by rfl, ?_⟩) ?_ ?_
    rotate_left
    . intro w'
      go_simp
      with_reducible rfl
    rotate_left
    . simp only [Act.put, zqG, zqH, zqI, zao, zap]
      rfl
    refine zaH (i := 5) (N := some 31) (v := ?_) (a' := ?_) (bm 26 45) rfl rfl (by kernel_rfl) (fun _ _ _ h => h) (zqF ⟨by rfl, ?_⟩) ?_ ?_
    rotate_left
    . intro w'
      go_simp
      with_reducible rfl
    rotate_left
    . simp only [Act.put, zqG, zqH, zqI, zao, zap]
      rfl
    refine zaH (i := 6) (N := some 32) (v := ?_) (a' := ?_) (bm 26 109) rfl rfl (by kernel_rfl) (fun _ _ _ h => h) (zqF ⟨by rfl, ?_⟩) ?_ ?_
    rotate_left
    . intro w'
      go_simp
      with_reducible rfl
    rotate_left
    . simp only [Act.put, zqG, zqH, zqI, zao, zap]
      rfl
    refine zaH (i := 8) (N := some 34) (v := ?_) (a' := ?_) (bm 26 365) rfl rfl (by kernel_rfl) (fun _ _ _ h => h) (zqF ⟨by rfl, ?_⟩) ?_ ?_
    rotate_left
    . intro w'
      go_simp
      with_reducible rfl
    rotate_left
    . simp only [Act.put, zqG, zqH, zqI, zao, zap]
      rfl
    refine zaH (i := 13) (N := some 39) (v := ?_) (a' := ?_) (bm 26 8557) rfl rfl (by kernel_rfl) (fun _ _ _ h => h) (zqF ⟨by rfl, ?_⟩) ?_ ?_
    rotate_left
    . intro w'
      go_simp
      with_reducible rfl
    rotate_left
    . simp only [Act.put, zqG, zqH, zqI, zao, zap]
      rfl
    refine zaH (i := 15) (N := some 41) (v := ?_) (a' := ?_) (bm 26 41325) rfl rfl (by kernel_rfl) (fun _ _ _ h => h) (zqF ⟨by rfl, ?_⟩) ?_ ?_
    rotate_left
    . intro w'
      go_simp
      with_reducible rfl
    rotate_left
    . simp only [Act.put, zqG, zqH, zqI, zao, zap]
      rfl
    refine take_ (i := 1) (N := some 27) (v := ?_) (a' := ?_) (bm 26 41327) rfl rfl (by kernel_rfl) (fun _ _ _ h => h) (zqF ⟨by rfl, ?_⟩) hHeld ?_ ?_
    rotate_left
    . intro w' s0
      go_simp
      with_reducible rfl
    rotate_left
    . simp only [Act.put, zqG, zqH, zqI, zao, zap]
      rfl
    refine take_ (i := 4) (N := some 30) (v := ?_) (a' := ?_) (bm 26 41343) rfl rfl (by kernel_rfl) (fun _ _ _ h => h) (zqF ⟨by rfl, ?_⟩) hHeld ?_ ?_
    rotate_left
    . intro w' s0
      go_simp
      with_reducible rfl
    rotate_left
    . simp only [Act.put, zqG, zqH, zqI, zao, zap]
      rfl
    refine take_ (i := 7) (N := some 33) (v := ?_) (a' := ?_) (bm 26 41471) rfl rfl (by kernel_rfl) (fun _ _ _ h => h) (zqF ⟨by rfl, ?_⟩) hHeld ?_ ?_
    rotate_left
    . intro w' s0
      go_simp
      with_reducible rfl
    rotate_left
    . simp only [Act.put, zqG, zqH, zqI, zao, zap]
      rfl
    refine zaH (i := 9) (N := some 35) (v := ?_) (a' := ?_) (bm 26 41983) rfl rfl (by kernel_rfl) (fun _ _ _ h => h) (zqF ⟨by rfl, ?_⟩) ?_ ?_
    rotate_left
    . intro w'
      go_simp
      with_reducible rfl
    rotate_left
    . simp only [Act.put, zqG, zqH, zqI, zao, zap]
      rfl
    refine zaH (i := 10) (N := some 36) (v := ?_) (a' := ?_) (bm 26 43007) rfl rfl (by kernel_rfl) (fun _ _ _ h => h) (zqF ⟨by rfl, ?_⟩) ?_ ?_
    rotate_left
    . intro w'
      go_simp
      with_reducible rfl
    rotate_left
    . simp only [Act.put, zqG, zqH, zqI, zao, zap]
      rfl
    refine take_ (i := 14) (N := some 40) (v := ?_) (a' := ?_) (bm 26 59391) rfl rfl (by kernel_rfl) (fun _ _ _ h => h) (zqF ⟨by rfl, ?_⟩) hHeld ?_ ?_
    rotate_left
    . intro w' s0
      go_simp
      with_reducible rfl
    rotate_left
    . simp only [Act.put, zqG, zqH, zqI, zao, zap]
      rfl
    refine zaH (i := 16) (N := some 42) (v := ?_) (a' := ?_) (bm 26 124927) rfl rfl (by kernel_rfl) (fun _ _ _ h => h) (zqF ⟨by rfl, ?_⟩) ?_ ?_
    rotate_left
    . intro w'
      go_simp
      with_reducible rfl
    rotate_left
    . simp only [Act.put, zqG, zqH, zqI, zao, zap]
      rfl
    refine zaH (i := 17) (N := some 43) (v := ?_) (a' := ?_) (bm 26 255999) rfl rfl (by kernel_rfl) (fun _ _ _ h => h) (zqF ⟨by rfl, ?_⟩) ?_ ?_
    rotate_left
    . intro w'
      go_simp
      with_reducible rfl
    rotate_left
    . simp only [Act.put, zqG, zqH, zqI, zao, zap]
      rfl
    refine join_ (σ := Option Addr × Nat) 7 (bm 26 524287) (fun s => [(37, .slice A5 x.f2.length c5), (38, .slice s.1 x.f2.length s.2), (44, .slice A6 x.f3.length c6)]) (fun s w' => Below w.heap.size w w' /\ w'.heap[w.heap.size]? = some (.cells #[.string f0, .slice X1 (zae l1).length d1, .slice X2 (zae l2).length d2, .slice X3 (zae l3).length d3, .slice (some ⟨G, 0, none⟩) 1 cG] 45 (0, 0)) /\ w'.heap[w.heap.size + 1]? = some (.cells RUz 45 (0, 0)) /\ w'.heap[G]? = some (.cells cur 24 (0, 0)) /\ RS w' w.heap.size (.slice X1 (zae l1).length d1) (zae l1) /\ RS w' w.heap.size (.slice X2 (zae l2).length d2) (zae l2) /\ RS w' w.heap.size (.slice X3 (zae l3).length d3) (zae l3) /\ Kd.C Kd.string w' A6 x.f3.length x.f3 /\ Kd.R Kd.string 9 w' w.heap.size (fun k => k ≠ G) (.slice s.1 x.f2.length s.2) x.f2) ?_ ?_
    rotate_left
    . intro hCont
      refine two_ (i := 11) (j := 18) (Ni := some 37) (Nj := some 44) (bm 26 258047) (bm 26 518143) rfl rfl rfl rfl (by kernel_rfl) (by decide) (by decide) (fun K hK => ?_) (fun K hK => ?_)
      . skip
        refine zcr (w1 := ?_) (v := ?_) (by rfl) rfl ?_ ?_
        rotate_left 2
        . go_simp
          constructor
          . rfl
          . rfl
        refine hK.out _ _ (k4we) (fun hHeld => ?_)
        clear hK K; refine zbc (a' := ?_) ?_ ?_; rotate_left
        . show Act.put _ (some 37) _ = _
          simp only [Act.put, zqG, zqH, zqI, zao, zap]; rfl
        refine two_ (i := 12) (j := 18) (Ni := some 38) (Nj := some 44) (bm 26 262143) (bm 26 520191) rfl rfl rfl rfl (by kernel_rfl) (by decide) (by decide) (fun K hK => ?_) (fun K hK => ?_)
        . skip
          refine zcz Tryz.func99 (by kernel_rfl) rfl #[.slice A5 x.f2.length c5] (by rfl) rfl rfl (by simp only [zpT, zpU, zpV]; rfl) ?_
          with_reducible refine (zdb A5 c5 x.f2 _ HC5we.out HL5.out).mono ?_
          rintro e wf ⟨v5, rfl, ho5, hb5⟩; have hp5 : RS wf wr.drew.heap.size v5 x.f2 := Kd.R_of_own (h1 := fun _ => rfl) ho5 (fun _ _ => trivial)
          obtain ⟨X5, d5, rfl, _, _⟩ := Kd.R_reads hp5; refine ⟨_, rfl, ?_⟩; have HBwf := zpq (zad HBwe.out HBwe.out.size hb5); have HKwf := zpq (zah HKwe.out hb5); have HZwf := zpq (zah HZwe.out hb5); have HGwf := zpq (zah HGwe.out hb5); have HO1wf := zpq (Kd.R_below HO1we.out hb5); have HO2wf := zpq (Kd.R_below HO2we.out hb5); have HO3wf := zpq (Kd.R_below HO3we.out hb5); have HC6wf := zpq (Kd.C_below HC6we.out hb5); have HO5wf := zpq (zeg (base := w.heap.size) hp5 (zaQ HGwe.out) HBwe.out.size); have k4wf : wf.cell? ⟨w.heap.size, 4, none⟩ = some (.slice (some ⟨G, 0, none⟩) 1 cG) := (zab HKwf.out 4).trans rfl; have k6wf : wf.cell? ⟨G, 3, none⟩ = some (.slice A6 x.f3.length c6) := (zab HGwf.out 3).trans HG3.out; clear ho5 hp5 hb5; refine hK.out _ _ (k4wf) (fun hHeld => ?_)
          clear hK K; refine zbc (a' := ?_) ?_ ?_; rotate_left
          . show Act.put _ (some 38) _ = _
            simp only [Act.put, zqG, zqH, zqI, zao, zap]; rfl
          refine one_ (i := 18) (N := some 44) (bm 26 524287) rfl rfl (by kernel_rfl) (by decide) (fun K hK => ?_)
          refine zcr (w1 := ?_) (v := ?_) (by rfl) rfl ?_ ?_
          rotate_left 2
          . go_simp
            constructor
            . rfl
            . rfl
          refine hK.out _ _ (k4wf) (fun hHeld => ?_)
          clear hK K; refine zbc (a' := ?_) ?_ ?_; rotate_left
          . show Act.put _ (some 44) _ = _
            simp only [Act.put, zqG, zqH, zqI, zao, zap]; rfl
          exact zbc (by simp only [zc3, Act.put, zqG, zqH, zqI]) (hCont (X5, d5) _ ⟨HBwf.out, HKwf.out, HZwf.out, HGwf.out, HO1wf.out, HO2wf.out, HO3wf.out, HC6wf.out, HO5wf.out⟩)
        . skip
          refine zcr (w1 := ?_) (v := ?_) (by rfl) rfl ?_ ?_
          rotate_left 2
          . go_simp
            constructor
            . rfl
            . rfl
          refine hK.out _ _ (k4we) (fun hHeld => ?_)
          clear hK K; refine zbc (a' := ?_) ?_ ?_; rotate_left
          . show Act.put _ (some 44) _ = _
            simp only [Act.put, zqG, zqH, zqI, zao, zap]; rfl
          refine one_ (i := 12) (N := some 38) (bm 26 524287) rfl rfl (by kernel_rfl) (by decide) (fun K hK => ?_)
          refine zcz Tryz.func99 (by kernel_rfl) rfl #[.slice A5 x.f2.length c5] (by rfl) rfl rfl (by simp only [zpT, zpU, zpV]; rfl) ?_
          with_reducible refine (zdb A5 c5 x.f2 _ HC5we.out HL5.out).mono ?_
          rintro e wf ⟨v5, rfl, ho5, hb5⟩; have hp5 : RS wf wr.drew.heap.size v5 x.f2 := Kd.R_of_own (h1 := fun _ => rfl) ho5 (fun _ _ => trivial)
          obtain ⟨X5, d5, rfl, _, _⟩ := Kd.R_reads hp5; refine ⟨_, rfl, ?_⟩; have HBwf := zpq (zad HBwe.out HBwe.out.size hb5); have HKwf := zpq (zah HKwe.out hb5); have HZwf := zpq (zah HZwe.out hb5); have HGwf := zpq (zah HGwe.out hb5); have HO1wf := zpq (Kd.R_below HO1we.out hb5); have HO2wf := zpq (Kd.R_below HO2we.out hb5); have HO3wf := zpq (Kd.R_below HO3we.out hb5); have HC6wf := zpq (Kd.C_below HC6we.out hb5); have HO5wf := zpq (zeg (base := w.heap.size) hp5 (zaQ HGwe.out) HBwe.out.size); have k4wf : wf.cell? ⟨w.heap.size, 4, none⟩ = some (.slice (some ⟨G, 0, none⟩) 1 cG) := (zab HKwf.out 4).trans rfl; have k6wf : wf.cell? ⟨G, 3, none⟩ = some (.slice A6 x.f3.length c6) := (zab HGwf.out 3).trans HG3.out; clear ho5 hp5 hb5; refine hK.out _ _ (k4wf) (fun hHeld => ?_)
          clear hK K; refine zbc (a' := ?_) ?_ ?_; rotate_left
          . show Act.put _ (some 38) _ = _
            simp only [Act.put, zqG, zqH, zqI, zao, zap]; rfl
          exact zbc (by simp only [zc3, Act.put, zqG, zqH, zqI]) (hCont (X5, d5) _ ⟨HBwf.out, HKwf.out, HZwf.out, HGwf.out, HO1wf.out, HO2wf.out, HO3wf.out, HC6wf.out, HO5wf.out⟩)
      . skip
        refine zcr (w1 := ?_) (v := ?_) (by rfl) rfl ?_ ?_
        rotate_left 2
        . go_simp
          constructor
          . rfl
          . rfl
        refine hK.out _ _ (k4we) (fun hHeld => ?_)
        clear hK K; refine zbc (a' := ?_) ?_ ?_; rotate_left
        . show Act.put _ (some 44) _ = _
          simp only [Act.put, zqG, zqH, zqI, zao, zap]; rfl
        refine one_ (i := 11) (N := some 37) (bm 26 520191) rfl rfl (by kernel_rfl) (by decide) (fun K hK => ?_)
        refine zcr (w1 := ?_) (v := ?_) (by rfl) rfl ?_ ?_
        rotate_left 2
        . go_simp
          constructor
          . rfl
          . rfl
        refine hK.out _ _ (k4we) (fun hHeld => ?_)
        clear hK K; refine zbc (a' := ?_) ?_ ?_; rotate_left
        . show Act.put _ (some 37) _ = _
          simp only [Act.put, zqG, zqH, zqI, zao, zap]; rfl
        refine one_ (i := 12) (N := some 38) (bm 26 524287) rfl rfl (by kernel_rfl) (by decide) (fun K hK => ?_)
        refine zcz Tryz.func99 (by kernel_rfl) rfl #[.slice A5 x.f2.length c5] (by rfl) rfl rfl (by simp only [zpT, zpU, zpV]; rfl) ?_
        with_reducible refine (zdb A5 c5 x.f2 _ HC5we.out HL5.out).mono ?_
        rintro e wf ⟨v5, rfl, ho5, hb5⟩; have hp5 : RS wf wr.drew.heap.size v5 x.f2 := Kd.R_of_own (h1 := fun _ => rfl) ho5 (fun _ _ => trivial)
        obtain ⟨X5, d5, rfl, _, _⟩ := Kd.R_reads hp5; refine ⟨_, rfl, ?_⟩; have HBwf := zpq (zad HBwe.out HBwe.out.size hb5); have HKwf := zpq (zah HKwe.out hb5); have HZwf := zpq (zah HZwe.out hb5); have HGwf := zpq (zah HGwe.out hb5); have HO1wf := zpq (Kd.R_below HO1we.out hb5); have HO2wf := zpq (Kd.R_below HO2we.out hb5); have HO3wf := zpq (Kd.R_below HO3we.out hb5); have HC6wf := zpq (Kd.C_below HC6we.out hb5); have HO5wf := zpq (zeg (base := w.heap.size) hp5 (zaQ HGwe.out) HBwe.out.size); have k4wf : wf.cell? ⟨w.heap.size, 4, none⟩ = some (.slice (some ⟨G, 0, none⟩) 1 cG) := (zab HKwf.out 4).trans rfl; have k6wf : wf.cell? ⟨G, 3, none⟩ = some (.slice A6 x.f3.length c6) := (zab HGwf.out 3).trans HG3.out; clear ho5 hp5 hb5; refine hK.out _ _ (k4wf) (fun hHeld => ?_)
        clear hK K; refine zbc (a' := ?_) ?_ ?_; rotate_left
        . show Act.put _ (some 38) _ = _
          simp only [Act.put, zqG, zqH, zqI, zao, zap]; rfl
        exact zbc (by simp only [zc3, Act.put, zqG, zqH, zqI]) (hCont (X5, d5) _ ⟨HBwf.out, HKwf.out, HZwf.out, HGwf.out, HO1wf.out, HO2wf.out, HO3wf.out, HC6wf.out, HO5wf.out⟩)
    rintro ⟨X5, d5⟩ wf ⟨fb, fk, fz, fg, f1, f2, f3, f6, f5⟩; have HBwf := zpq fb; have HKwf := zpq fk; have HZwf := zpq fz; have HGwf := zpq fg; have HO1wf := zpq f1; have HO2wf := zpq f2; have HO3wf := zpq f3; have HC6wf := zpq f6; have HO5wf := zpq f5; clear fb fk fz fg f1 f2 f3 f6 f5; have k4wf : wf.cell? ⟨w.heap.size, 4, none⟩ = some (.slice (some ⟨G, 0, none⟩) 1 cG) := (zab HKwf.out 4).trans rfl; have hHeld : wf.cell? ⟨w.heap.size, 4, none⟩ = some (.slice (some ⟨G, 0, none⟩) 1 cG) := k4wf; refine zbc (a' := ?_) ?_ ?_; rotate_left
    . simp only [zc3, Act.put, zqG, zqH, zqI]
      rfl
    refine one_ (i := 19) (N := some 45) (bm 26 1048575) rfl rfl (by kernel_rfl) (by decide) (fun K hK => ?_)
    refine zcz Tryz.func99 (by kernel_rfl) rfl #[.slice A6 x.f3.length c6] (by rfl) rfl rfl (by simp only [zpT, zpU, zpV]; rfl) ?_
    with_reducible refine (zdb A6 c6 x.f3 _ HC6wf.out HL6.out).mono ?_
    rintro e wg ⟨v6, rfl, ho6, hb6⟩; have hp6 : RS wg wf.heap.size v6 x.f3 := Kd.R_of_own (h1 := fun _ => rfl) ho6 (fun _ _ => trivial)
    obtain ⟨X6, d6, rfl, _, _⟩ := Kd.R_reads hp6; refine ⟨_, rfl, ?_⟩; have HBwg := zpq (zad HBwf.out HBwf.out.size hb6); have HKwg := zpq (zah HKwf.out hb6); have HZwg := zpq (zah HZwf.out hb6); have HGwg := zpq (zah HGwf.out hb6); have HO1wg := zpq (Kd.R_below HO1wf.out hb6); have HO2wg := zpq (Kd.R_below HO2wf.out hb6); have HO3wg := zpq (Kd.R_below HO3wf.out hb6); have HO5wg := zpq (Kd.R_below HO5wf.out hb6); have HO6wg := zpq (zeg (base := w.heap.size) hp6 (zaQ HGwf.out) HBwf.out.size); have k4wg : wg.cell? ⟨w.heap.size, 4, none⟩ = some (.slice (some ⟨G, 0, none⟩) 1 cG) := (zab HKwg.out 4).trans rfl; clear ho6 hp6 hb6; refine hK.out _ _ (k4wg) (fun hHeld => ?_)
    clear hK K; refine zbc (a' := ?_) ?_ ?_; rotate_left
    . show Act.put _ (some 45) _ = _
      simp only [Act.put, zqG, zqH, zqI, zao, zap]; rfl
    refine zaH (i := 20) (N := some 46) (v := ?_) (a' := ?_) (bm 26 2097151) rfl rfl (by kernel_rfl) (fun _ _ _ h => h) (zqF ⟨by rfl, ?_⟩) ?_ ?_
    rotate_left
    . intro w'
      go_simp
      with_reducible rfl
    rotate_left
    . simp only [Act.put, zqG, zqH, zqI, zao, zap]
      rfl
    refine zaH (i := 21) (N := some 47) (v := ?_) (a' := ?_) (bm 26 4194303) rfl rfl (by kernel_rfl) (fun _ _ _ h => h) (zqF ⟨by rfl, ?_⟩) ?_ ?_
    rotate_left
    . intro w'
      go_simp
      with_reducible rfl
    rotate_left
    . simp only [Act.put, zqG, zqH, zqI, zao, zap]
      rfl
    refine one_ (i := 22) (N := none) (bm 26 8388607) rfl rfl (by kernel_rfl) (by decide) (fun K hK => ?_)
    have hs5 := HGwg.out; have hs6 := zbS hs5 2 (.slice X5 x.f2.length d5); have cs5 : wg.cell? ⟨G, 2, none⟩ = some (.slice A5 x.f2.length c5) := (zab hs5 2).trans HG2.out; have fs5 := zai hs5 2; have hkb := zaS HKwg.out (p := ⟨G, 2, none⟩) hGB (.slice X5 x.f2.length d5); have k4wh : (wg.setCell ⟨G, 2, none⟩ (.slice X5 x.f2.length d5)).cell? ⟨w.heap.size, 4, none⟩ = some (.slice (some ⟨G, 0, none⟩) 1 cG) := (zab hkb 4).trans rfl; refine zcN (w1 := ?_) (by rfl) rfl ?_ ?_
    rotate_left
    . go_simp
      rfl
    refine hK.out _ _ (k4wh) (fun hHeld => ?_)
    clear hK K; refine zaH (i := 23) (N := some 48) (v := ?_) (a' := ?_) (bm 26 16777215) rfl rfl (by kernel_rfl) (fun _ _ _ h => h) (zqF ⟨by rfl, ?_⟩) ?_ ?_
    rotate_left
    . intro w'
      go_simp
      with_reducible rfl
    rotate_left
    . simp only [Act.put, zqG, zqH, zqI, zao, zap]
      rfl
    refine zaH (i := 24) (N := some 49) (v := ?_) (a' := ?_) (bm 26 33554431) rfl rfl (by kernel_rfl) (fun _ _ _ h => h) (zqF ⟨by rfl, ?_⟩) ?_ ?_
    rotate_left
    . intro w'
      go_simp
      with_reducible rfl
    rotate_left
    . simp only [Act.put, zqG, zqH, zqI, zao, zap]
      rfl
    refine one_ (i := 25) (N := none) (bm 26 67108863) rfl rfl (by kernel_rfl) (by decide) (fun K hK => ?_)
    have cs6 : (wg.setCell ⟨G, 2, none⟩ (.slice X5 x.f2.length d5)).cell? ⟨G, 3, none⟩ = some (.slice A6 x.f3.length c6) := (zab hs6 3).trans (zm0 HG3.out rfl (by decide))
    have fs6 := zai hs6 3; have hkc := zaS hkb (p := ⟨G, 3, none⟩) hGB (.slice X6 x.f3.length d6); have k4wi : ((wg.setCell ⟨G, 2, none⟩ (.slice X5 x.f2.length d5)).setCell ⟨G, 3, none⟩ (.slice X6 x.f3.length d6)).cell? ⟨w.heap.size, 4, none⟩ = some (.slice (some ⟨G, 0, none⟩) 1 cG) := (zab hkc 4).trans rfl; refine zcN (w1 := ?_) (by rfl) rfl ?_ ?_
    rotate_left
    . go_simp
      rfl
    refine hK.out _ _ (k4wi) (fun hHeld => ?_)
    clear hK K; refine zdV (by kernel_rfl) ?_
--REG6E
    go_wp2; have hB9 := (HBwg.out.setCell (p := ⟨G, 2, none⟩) HGb.out (.slice X5 x.f2.length d5)).setCell (p := ⟨G, 3, none⟩) HGb.out (.slice X6 x.f3.length d6); have hZ9 := zaS (zaS HZwg.out (p := ⟨G, 2, none⟩) hGZ (.slice X5 x.f2.length d5)) (p := ⟨G, 3, none⟩) hGZ (.slice X6 x.f3.length d6); have hG9 := zbS hs6 3 (.slice X6 x.f3.length d6); have hO19 := Kd.R_set (Kd.R_set HO1wg.out hs5 (by decide) 2 (.slice X5 x.f2.length d5)) hs6 (by decide) 3 (.slice X6 x.f3.length d6)
    have hO29 := Kd.R_set (Kd.R_set HO2wg.out hs5 (by decide) 2 (.slice X5 x.f2.length d5)) hs6 (by decide) 3 (.slice X6 x.f3.length d6)
    have hO39 := Kd.R_set (Kd.R_set HO3wg.out hs5 (by decide) 2 (.slice X5 x.f2.length d5)) hs6 (by decide) 3 (.slice X6 x.f3.length d6)
    have hO59 := Kd.R_far (p := ⟨G, 3, none⟩) (Kd.R_far (p := ⟨G, 2, none⟩) HO5wg.out (fun _ h => h) (.slice X5 x.f2.length d5)) (fun _ h => h) (.slice X6 x.f3.length d6)
    have hO69 := Kd.R_far (p := ⟨G, 3, none⟩) (Kd.R_far (p := ⟨G, 2, none⟩) HO6wg.out (fun _ h => h) (.slice X5 x.f2.length d5)) (fun _ h => h) (.slice X6 x.f3.length d6)
    go_roundg 0
    case measure => omega
    case rel => exact ⟨1, by omega, by omega, by first | rfl | go_num, ⟨hB9⟩, ⟨hkc⟩, ⟨hZ9⟩, ⟨hO19⟩, ⟨hO29⟩, ⟨hO39⟩, ⟨fun h => by omega⟩, ⟨fun _ => ⟨X5, d5, X6, d6, hG9, hO59, hO69⟩⟩⟩
  . obtain rfl : kk = 1 := by omega
    obtain ⟨X5, d5, X6, d6, hG1, hr5, hr6⟩ := HP1.out rfl; have HG1 := zpq hG1; have HR5 := zpq hr5; have HR6 := zpq hr6; have k0 : wr.cell? ⟨w.heap.size, 0, none⟩ = some (.string f0) := (zab HK8.out 0).trans rfl; have k1 : wr.cell? ⟨w.heap.size, 1, none⟩ = some (.slice X1 (zae l1).length d1) := (zab HK8.out 1).trans rfl; have k2 : wr.cell? ⟨w.heap.size, 2, none⟩ = some (.slice X2 (zae l2).length d2) := (zab HK8.out 2).trans rfl; have k3 : wr.cell? ⟨w.heap.size, 3, none⟩ = some (.slice X3 (zae l3).length d3) := (zab HK8.out 3).trans rfl; have k4 : wr.cell? ⟨w.heap.size, 4, none⟩ = some (.slice (some ⟨G, 0, none⟩) 1 cG) := (zab HK8.out 4).trans rfl; have r0 : wr.cell? ⟨w.heap.size + 1, 0, none⟩ = some (.string ⟨#[]⟩) := (zab HZ8.out 0).trans rfl; have r1 : wr.cell? ⟨w.heap.size + 1, 1, none⟩ = some (.slice none 0 0) := (zab HZ8.out 1).trans rfl; have r2 : wr.cell? ⟨w.heap.size + 1, 2, none⟩ = some (.slice none 0 0) := (zab HZ8.out 2).trans rfl; have r3 : wr.cell? ⟨w.heap.size + 1, 3, none⟩ = some (.slice none 0 0) := (zab HZ8.out 3).trans rfl; have r4 : wr.cell? ⟨w.heap.size + 1, 4, none⟩ = some (.slice none 0 0) := (zab HZ8.out 4).trans rfl; have z0 := zai HZ8.out 0; have z1 := zai HZ8.out 1; have z2 := zai HZ8.out 2; have z3 := zai HZ8.out 3; have z4 := zai HZ8.out 4; clear hG1 hr5 hr6 HP0 HP1; go_wp2; have hs := zcf (.string f0) (.slice X1 (zae l1).length d1) (.slice X2 (zae l2).length d2) (.slice X3 (zae l3).length d3) (.slice (some ⟨G, 0, none⟩) 1 cG) HZ8.out; have hA := RS.set5 HO18.out (.string f0) (.slice X1 (zae l1).length d1) (.slice X2 (zae l2).length d2) (.slice X3 (zae l3).length d3) (.slice (some ⟨G, 0, none⟩) 1 cG) HZ8.out (by decide)
    have hB := RS.set5 HO28.out (.string f0) (.slice X1 (zae l1).length d1) (.slice X2 (zae l2).length d2) (.slice X3 (zae l3).length d3) (.slice (some ⟨G, 0, none⟩) 1 cG) HZ8.out (by decide)
    have hC := RS.set5 HO38.out (.string f0) (.slice X1 (zae l1).length d1) (.slice X2 (zae l2).length d2) (.slice X3 (zae l3).length d3) (.slice (some ⟨G, 0, none⟩) 1 cG) HZ8.out (by decide)
    have hle : w.heap.size <= w.heap.size + 1 := Nat.le_succ _; have hD := ((((HB8.out.setCell (p := ⟨w.heap.size + 1, 0, none⟩) hle (.string f0)).setCell (p := ⟨w.heap.size + 1, 1, none⟩) hle (.slice X1 (zae l1).length d1)).setCell (p := ⟨w.heap.size + 1, 2, none⟩) hle (.slice X2 (zae l2).length d2)).setCell (p := ⟨w.heap.size + 1, 3, none⟩) hle (.slice X3 (zae l3).length d3)).setCell (p := ⟨w.heap.size + 1, 4, none⟩) hle (.slice (some ⟨G, 0, none⟩) 1 cG); have mv : ∀ k : Nat, k ≠ w.heap.size + 1 -> (set5 wr (w.heap.size + 1) (.string f0) (.slice X1 (zae l1).length d1) (.slice X2 (zae l2).length d2) (.slice X3 (zae l3).length d3) (.slice (some ⟨G, 0, none⟩) 1 cG)).heap[k]? = wr.heap[k]? := fun k hk => by
     unfold set5; rw [zpS _ _ _ _ hk, zpS _ _ _ _ hk, zpS _ _ _ _ hk, zpS _ _ _ _ hk, zpS _ _ _ _ hk]
    have hE := (mv G hGZ.symm).trans HG1.out; have nz : ∀ {X : Option Addr} {n d : Nat} {l : List ByteArray}, Kd.R Kd.string 9 wr w.heap.size (fun k => k ≠ G) (.slice X n d) l -> Kd.R Kd.string 9 (set5 wr (w.heap.size + 1) (.string f0) (.slice X1 (zae l1).length d1) (.slice X2 (zae l2).length d2) (.slice X3 (zae l3).length d3) (.slice (some ⟨G, 0, none⟩) 1 cG)) w.heap.size (fun k => True /\ some k ≠ (Value.slice (some (⟨G, 0, none⟩ : Addr)) 1 cG).ownBlock) (.slice X n d) l := fun h => by
     refine Kd.R_mono (Kd.R_move (Kd.R_types h HZ8.out (by decide)) (fun k hk => mv k hk.2)) (fun k hk => ⟨trivial, fun e => hk.1 ?_⟩)
     simpa [Value.ownBlock] using e
    have hF := nz HR5.out; have hH := nz HR6.out; clear k0 k1 k2 k3 k4 r0 r1 r2 r3 r4 z0 z1 z2 z3 z4 mv nz; unfold set5 at hs hA hB hC hE hF hH; generalize ((((wr.setCell ⟨w.heap.size + 1, 0, none⟩ (.string f0)).setCell ⟨w.heap.size + 1, 1, none⟩ (.slice X1 (zae l1).length d1)).setCell ⟨w.heap.size + 1, 2, none⟩ (.slice X2 (zae l2).length d2)).setCell ⟨w.heap.size + 1, 3, none⟩ (.slice X3 (zae l3).length d3)).setCell ⟨w.heap.size + 1, 4, none⟩ (.slice (some ⟨G, 0, none⟩) 1 cG) = wE at hs hA hB hC hD hE hF hH |-; have g0 := (zab hs 0).trans rfl; have g1 := (zab hs 1).trans rfl; have g2 := (zab hs 2).trans rfl; have g3 := (zab hs 3).trans rfl; have g4 := (zab hs 4).trans rfl; have hrow : Kd.R k24 24 wE w.heap.size (fun _ => True) (.slice (some ⟨G, 0, none⟩) 1 cG) [x] := by
     have hcells : [Value.string x.f0, .int .i64 x.f1, .slice X5 x.f2.length d5, .slice X6 x.f3.length d6, .int .i64 x.f4] = ((cur.setIfInBounds 2 (.slice X5 x.f2.length d5)).setIfInBounds 3 (.slice X6 x.f3.length d6)).toList.take 5 := by
      have hsz := HCap.out; apply List.ext_getElem?
      intro i; rcases Nat.lt_or_ge i 5 with hi | hi
      . rw [zqg hi]
        conv => rhs; rw [zqd, Array.getElem?_setIfInBounds, Array.getElem?_setIfInBounds]
        have h := HAt.out i hi; have h2 : 2 < cur.size := by omega
        have h3 : 3 < cur.size := by omega
        match i, hi with
        | 0, _ => simp at h |-; exact h.symm
        | 1, _ => simp at h |-; exact h.symm
        | 2, _ => simp [h2]
        | 3, _ => simp [h3]
        | 4, _ => simp at h |-; exact h.symm
      . rw [zp0 (by simpa using hi), zp0 (by rw [zpF]; omega)]
     refine ⟨fun _ _ => trivial, [Value.string x.f0, .int .i64 x.f1, .slice X5 x.f2.length d5, .slice X6 x.f3.length d6, .int .i64 x.f4], ⟨rfl, .inr ⟨G, cG, _, rfl, HGb.out, hE, HCap.out.2.1, HCap.out.2.2, ?_, ?_⟩⟩, rfl, fun j p hj => ?_⟩
     . rw [Array.size_setIfInBounds, Array.size_setIfInBounds]; exact HCap.out.1
     . exact hcells.symm
     . match j, hj with
       | 0, hj =>
        simp at hj
        subst hj; exact zf5 _ _ _ _ hF hH
       | j + 1, hj => simp at hj
    exact bodyPost_ret (v := .agg #[.string f0, .slice X1 (zae l1).length d1, .slice X2 (zae l2).length d2, .slice X3 (zae l3).length d3, .slice (some ⟨G, 0, none⟩) 1 cG]) (by simp [results, Tryz.results147, go_sem, g0, g1, g2, g3, g4]) rfl ⟨_, _, _, _, _, _, _, _, rfl, hA, hB, hC, hrow, hD⟩

theorem zk1 (A : Option Addr) (n c : Nat) (hn : n <= 1) (cmp : Value) (w : World) :
 Calls Tryz.prog 226 #[.slice A n c, .int .i64 0, .int .i64 n, cmp] w fun e w' => e = .returned (.tuple #[]) /\ w = w' := by
 have h1 : ¬ (1 : Int) < (n : Int) := by omega
 go_enter Tryz.func226, Tryz.ntmps226
 go_wp2_with fail; go_loopg [8, 9] 0 (fun _ s8 _ wr => s8 = .int .i64 1 /\ wr = w)
 case atStart => exact ⟨rfl, rfl⟩
 case round =>
  obtain ⟨rfl, rfl⟩ := hrel; go_wp2; go_end0
  exact ⟨rfl, rfl⟩
theorem zkN (A : Option Addr) (n c : Nat) (hn : n <= 1) (cmp : Value) (w : World) :
 Calls Tryz.prog 200 #[.slice A n c, .int .i64 n, cmp] w fun e w' => e = .returned (.tuple #[]) /\ w = w' := by
 have h1 : ¬ (20 : Int) <= (n : Int) := by omega
 have h2 : ¬ (20 : Int) < (n : Int) := by omega
 have hI := fun W => zk1 A n c hn cmp W
 go_enter Tryz.func200, Tryz.ntmps200
 go_wp2_with fail; go_loopg [7, 8] 0 (fun _ s7 s8 wr => s7 = .int .i64 0 /\ s8 = .int .i64 20 /\ wr = w)
 case atStart => exact ⟨rfl, rfl, rfl⟩
 case round =>
  obtain ⟨rfl, rfl, rfl⟩ := hrel; go_wp2_with (go_at_call 226; refine (hI _).mono ?_; rintro e w' ⟨rfl, rfl⟩)
  go_loopg [6, 7, 8, 9] 0 (fun _ s6 _ _ _ wr' => s6 = .int .i64 20 /\ wr' = wr)
  case atStart => exact ⟨rfl, rfl⟩
  case round =>
   obtain ⟨rfl, rfl⟩ := hrel; go_wp2; go_end0
   exact ⟨rfl, rfl⟩
theorem zoj (A : Option Addr) (n c : Nat) (hn : n <= 1) (cmp : Value) (w : World) :
 Calls Tryz.prog 148 #[.slice A n c, cmp] w fun e w' => e = .returned (.tuple #[]) /\ w = w' := by
 have hI := fun W => zkN A n c hn cmp W
 go_enter Tryz.func148, Tryz.ntmps148
 go_wp2_with (go_at_call 200; refine (hI _).mono ?_; rintro e w' ⟨rfl, rfl⟩)
 go_end0
 exact ⟨rfl, rfl⟩
theorem zdj {ad : Addr} {m : Nat} : ad.add ((0 : Int).toNat * m + 0) = ad := by simp [Addr.add]
theorem at_next (ad : Addr) (j : Nat) (hj : 0 < j) {m : Nat} : ad.add ((0 : Int).toNat * m + j) = ⟨ad.block, ad.off + j, none⟩ := by
 rw [zb5 ad _ j hj]; simp [Addr.add]
theorem zgC (f0 : ByteArray) (l1 l2 l3 : List ByteArray) (x : zar) (A : Option Addr) (c : Nat) (w : World) (h : Kd.C k45 w A 1 [⟨f0, l1, l2, l3, [x]⟩])
 (hl1 : l1.length * 16 <= 140737488355328) (hl2 : l2.length * 16 <= 140737488355328) (hl3 : l3.length * 16 <= 140737488355328) (hl5 : x.f2.length * 16 <= 140737488355328) (hl6 : x.f3.length * 16 <= 140737488355328) :
 Calls Tryz.prog 118 #[.slice A 1 c] w fun e w' => ∃ X d, e = .returned (.slice X 1 d) /\ Kd.R k45 45 w' w.heap.size (fun _ => True) (.slice X 1 d) [⟨f0, zae l1, zae l2, zae l3, [x]⟩] /\ Below w.heap.size w w' := by
 obtain ⟨ad, cs, rfl, hcl, hK, hcell⟩ := Kd.C_get h ⟨f0, l1, l2, l3, [x]⟩ 0 (by decide) (by decide)
 obtain ⟨A1, c1, A2, c2, A3, c3, A4, c4, hcs, _, h1, _, h2, _, h3, _, h4⟩ := zcE hK; subst hcs; have m0 : w.cell? ad = some (.string f0) := by have := hcell 0 _ rfl; rwa [zdj] at this
 have m1 : w.cell? ⟨ad.block, ad.off + 1, none⟩ = some (.slice A1 l1.length c1) := by have := hcell 1 _ rfl; rwa [at_next ad 1 (by decide)] at this
 have m2 : w.cell? ⟨ad.block, ad.off + 2, none⟩ = some (.slice A2 l2.length c2) := by have := hcell 2 _ rfl; rwa [at_next ad 2 (by decide)] at this
 have m3 : w.cell? ⟨ad.block, ad.off + 3, none⟩ = some (.slice A3 l3.length c3) := by have := hcell 3 _ rfl; rwa [at_next ad 3 (by decide)] at this
 have m4 : w.cell? ⟨ad.block, ad.off + 4, none⟩ = some (.slice A4 1 c4) := by have := hcell 4 _ rfl; rwa [at_next ad 4 (by decide)] at this
 have hO := fun W (hW : Below w.heap.size w W) => zhq f0 l1 l2 l3 x A1 c1 A2 c2 A3 c3 A4 c4 W (Kd.C_below h1 hW) (Kd.C_below h2 hW) (Kd.C_below h3 hW) (Kd.C_below h4 hW) hl1 hl2 hl3 hl5 hl6
 have HO := zpq hO; clear hO h hcl hK hcell h1 h2 h3 h4 hl1 hl2 hl3 hl5 hl6; go_enter Tryz.func118, Tryz.ntmps118
 go_wp2_with fail; go_loopg [3, 8] 1 (fun gg s3 s8 wr => ∃ kk : Nat, kk <= 1 /\ 1 - kk <= gg /\ s8 = .int .i64 kk /\ Aside0 (kk = 0 -> s3 = .slice none 0 0 /\ wr = w) /\ Aside0 (kk = 1 -> ∃ X d, s3 = .slice X 1 d /\ Kd.R k45 45 wr w.heap.size (fun _ => True) (.slice X 1 d) [⟨f0, zae l1, zae l2, zae l3, [x]⟩] /\ Below w.heap.size w wr))
 case atStart => exact ⟨0, by omega, by omega, rfl, ⟨fun _ => ⟨rfl, rfl⟩⟩, ⟨fun h => by omega⟩⟩
 case round =>
  obtain ⟨kk, hkk, hgk, rfl, HP0, HP1⟩ := hrel; by_cases h0 : kk = 0
  . subst h0
    obtain ⟨rfl, rfl⟩ := HP0.out rfl; clear HP0 HP1; have hb1 := (zpt wr.heap.size wr).alloc (zpu _) (.cells #[.string f0, .slice A1 l1.length c1, .slice A2 l2.length c2, .slice A3 l3.length c3, .slice A4 1 c4] 45); have hcall := HO.out _ hb1; have HB1 := zpq hb1; clear hb1; go_wp2_with fail; refine hcall.mono ?_; rintro e w2 ⟨Y1, e1, Y2, e2, Y3, e3, Y4, e4, rfl, hr1, hr2, hr3, hr4, hb2⟩; have HB2 := zpq (zad HB1.out HB1.out.size hb2); have nn : ∀ k : Nat, (fun _ : Nat => True) k -> True /\ some k ≠ (Value.slice (none : Option Addr) 0 0).ownBlock := fun k _ => ⟨trivial, by simp [Value.ownBlock]⟩
    have HY1 := zpq (Kd.R_mono (Kd.R_lower hr1 HB1.out.size) nn); have HY2 := zpq (Kd.R_mono (Kd.R_lower hr2 HB1.out.size) nn); have HY3 := zpq (Kd.R_mono (Kd.R_lower hr3 HB1.out.size) nn); have HY4 := zpq (Kd.R_mono (Kd.R_lower hr4 HB1.out.size) nn); have HS2 : Hid (wr.heap.size <= w2.heap.size) := HB2.out.size; clear hr1 hr2 hr3 hr4 hb2 nn; go_wp2_with (first | ((with_reducible refine zaG (b := .append) (xs := #[.tmp 12, .tmp 15]) rfl ?_); at_builtin; refine Kd.R_append k45 (w0 := wr) wr.heap.size rfl (.tmp 12) (.tmp 15) 80 45 (.agg #[.string ⟨#[]⟩, .slice none 0 0, .slice none 0 0, .slice none 0 0, .slice none 0 0]) 112 rfl Tryz.underlying80 zgA rfl (by decide) (by decide) (.slice none 0 0) [] ⟨f0, zae l1, zae l2, zae l3, [x]⟩ [.string f0, .slice Y1 (zae l1).length e1, .slice Y2 (zae l2).length e2, .slice Y3 (zae l3).length e3, .slice Y4 1 e4] (fun _ => True) (fun k_ => True /\ some k_ ≠ (Value.slice none 0 0).ownBlock) rfl rfl (zhc w2 wr.heap.size _ (⟨f0, zae l1, zae l2, zae l3, [x]⟩ : zaj) HY1.out HY2.out HY3.out HY4.out) (fun _ hk => hk) (fun _ _ => trivial) (Kd.R_nil _ _ _ _ _) HB2.out HS2.out ?aL ?_; (case aL => simp); intro v1 w4 ho hb hg hat; obtain ⟨X, d, rfl, _, _⟩ := Kd.R_reads ho; have HR4 := zpq ho; have HB4 := zpq hb; clear ho hb hg hat))
    go_roundg 0
    case measure => omega
    case rel => exact ⟨1, by omega, by omega, by first | rfl | go_num, ⟨fun h => by omega⟩, ⟨fun _ => ⟨X, d, rfl, HR4.out, HB4.out⟩⟩⟩
  . obtain rfl : kk = 1 := by omega
    obtain ⟨X, d, rfl, hR, hB⟩ := HP1.out rfl; have hI := fun W => zoj X 1 d (by decide) (.func (.func 149) #[] #[]) W
    have HR := zpq hR; have HB := zpq hB; clear HP0 HP1 hR hB; go_wp2_with (go_at_call 148; refine (hI _).mono ?_; rintro e w' ⟨rfl, rfl⟩)
    go_ret
    exact ⟨X, d, rfl, HR.out, HB.out⟩

def zcU (f0 : ByteArray) (l1 l2 l3 : List ByteArray) : zaa := [114, 117, 108, 101, 32] ++ f0.data.toList ++ [32, 123, 10] ++ zb4 [105, 110] (zae l1) ++ zb4 [111, 117, 116] (zae l2) ++ zb4 [97, 102, 116, 101, 114] (zae l3)
def zc1 (f0 : ByteArray) (l1 l2 l3 : List ByteArray) (x : zar) : zaa := zcU f0 l1 l2 l3 ++ ([32, 32] ++ zcO x ++ [10]) ++ [125, 10]
structure zfi (f0 : ByteArray) (l1 l2 l3 : List ByteArray) (x : zar) : Prop where
 n0 : f0.size <= 1000000
 n1 : l1.length <= 1000
 n2 : l2.length <= 1000
 n3 : l3.length <= 1000
 j1 : (Lib.join (zbH (zae l1)) [44, 32]).length <= 1000000
 j2 : (Lib.join (zbH (zae l2)) [44, 32]).length <= 1000000
 j3 : (Lib.join (zbH (zae l3)) [44, 32]).length <= 1000000
 s1 : x.f1 ≠ 9
 s2 : x.f2.length <= 1000
 s3 : x.f3.length <= 1000
 sp : ∀ y ∈ x.f3, zhA y
 sj : (Lib.join (zbH (zcI x)) [32]).length <= 1000000
theorem zdz {word : zaa} {l : List ByteArray} (hw : word.length <= 100) (hj : (Lib.join (zbH l) [44, 32]).length <= 1000000) : (zb4 word l).length <= 1000200 := by
 unfold zb4; split
 . simp
 . simp; omega
theorem zkD (f0 : ByteArray) (l1 l2 l3 : List ByteArray) (x : zar) (A1 : Option Addr) (c1 : Nat) (A2 : Option Addr) (c2 : Nat) (A3 : Option Addr) (c3 : Nat) (A4 : Option Addr) (c4 : Nat) (w : World) (hG : GOK w)
 (h1 : Kd.C Kd.string w A1 l1.length l1) (h2 : Kd.C Kd.string w A2 l2.length l2) (h3 : Kd.C Kd.string w A3 l3.length l3) (h4 : Kd.C k24 w A4 1 [x]) (hs : zfi f0 l1 l2 l3 x) :
 Calls Tryz.prog 143 #[.agg #[.string f0, .slice A1 l1.length c1, .slice A2 l2.length c2, .slice A3 l3.length c3, .slice A4 1 c4]] w fun e w' => e = .returned (.string (mk (zc1 f0 l1 l2 l3 x))) /\ Below w.heap.size w w' := by
 have hb1 := (zpt w.heap.size w).alloc (zpu _) (.cells #[.string f0, .slice A1 l1.length c1, .slice A2 l2.length c2, .slice A3 l3.length c3, .slice A4 1 c4] 45); have hone := zhq f0 l1 l2 l3 x A1 c1 A2 c2 A3 c3 A4 c4 _ (Kd.C_below h1 hb1) (Kd.C_below h2 hb1) (Kd.C_below h3 hb1) (Kd.C_below h4 hb1) (by have := hs.n1; omega) (by have := hs.n2; omega) (by have := hs.n3; omega) (by have := hs.s2; omega) (by have := hs.s3; omega)
 have HK1 := zpq (zal w (.cells #[.string f0, .slice A1 l1.length c1, .slice A2 l2.length c2, .slice A3 l3.length c3, .slice A4 1 c4] 45)); have HB1 := zpq hb1; have HG1 := zpq (hG.below hb1); have HS := zpq hs; have HG0 := zpq hG; clear hb1 h1 h2 h3 h4 hG hs; go_enter Tryz.func143, Tryz.ntmps143
 go_wp2_with fail; refine hone.mono ?_; rintro e w2 ⟨X1, d1, X2, d2, X3, d3, X4, d4, rfl, hr1, hr2, hr3, hr4, hb2⟩; have hK2 := zah HK1.out hb2; have k0 : w2.cell? ⟨w.heap.size, 0, none⟩ = some (.string f0) := (zab hK2 0).trans rfl; have k1 : w2.cell? ⟨w.heap.size, 1, none⟩ = some (.slice A1 l1.length c1) := (zab hK2 1).trans rfl; have k2 : w2.cell? ⟨w.heap.size, 2, none⟩ = some (.slice A2 l2.length c2) := (zab hK2 2).trans rfl; have k3 : w2.cell? ⟨w.heap.size, 3, none⟩ = some (.slice A3 l3.length c3) := (zab hK2 3).trans rfl; have k4 : w2.cell? ⟨w.heap.size, 4, none⟩ = some (.slice A4 1 c4) := (zab hK2 4).trans rfl; have z0 := zai hK2 0; have z1 := zai hK2 1; have z2 := zai hK2 2; have z3 := zai hK2 3; have z4 := zai hK2 4; have hB2 := zad HB1.out HB1.out.size hb2; have hG2 := HG1.out.below hb2; have HK2 := zpq hK2; have HB2 := zpq hB2; have HG2 := zpq hG2; have HR1 := zpq (Kd.R_lower hr1 HB1.out.size); have HR2 := zpq (Kd.R_lower hr2 HB1.out.size); have HR3 := zpq (Kd.R_lower hr3 HB1.out.size); have HR4 := zpq (Kd.R_lower hr4 HB1.out.size); clear hone hb2 hK2 hB2 hG2 hr1 hr2 hr3 hr4 HK1 HB1 HG1; have hs5 := zcf (.string f0) (.slice X1 (zae l1).length d1) (.slice X2 (zae l2).length d2) (.slice X3 (zae l3).length d3) (.slice X4 1 d4) HK2.out; have hA := RS.set5 HR1.out (.string f0) (.slice X1 (zae l1).length d1) (.slice X2 (zae l2).length d2) (.slice X3 (zae l3).length d3) (.slice X4 1 d4) HK2.out (by decide)
 have hB := RS.set5 HR2.out (.string f0) (.slice X1 (zae l1).length d1) (.slice X2 (zae l2).length d2) (.slice X3 (zae l3).length d3) (.slice X4 1 d4) HK2.out (by decide)
 have hC := RS.set5 HR3.out (.string f0) (.slice X1 (zae l1).length d1) (.slice X2 (zae l2).length d2) (.slice X3 (zae l3).length d3) (.slice X4 1 d4) HK2.out (by decide)
 have hD := zds HR4.out (.string f0) (.slice X1 (zae l1).length d1) (.slice X2 (zae l2).length d2) (.slice X3 (zae l3).length d3) (.slice X4 1 d4) HK2.out (by decide)
 have hE := ((((HB2.out.setCell (p := ⟨w.heap.size, 0, none⟩) (zpu _) (.string f0)).setCell (p := ⟨w.heap.size, 1, none⟩) (zpu _) (.slice X1 (zae l1).length d1)).setCell (p := ⟨w.heap.size, 2, none⟩) (zpu _) (.slice X2 (zae l2).length d2)).setCell (p := ⟨w.heap.size, 3, none⟩) (zpu _) (.slice X3 (zae l3).length d3)).setCell (p := ⟨w.heap.size, 4, none⟩) (zpu _) (.slice X4 1 d4); unfold set5 at hs5 hA hB hC hD; have HK5 := zpq hs5; have HA5 := zpq hA; have HB5' := zpq hB; have HC5 := zpq hC; have HD5 := zpq hD; have HB5 := zpq hE; clear hs5 hA hB hC hD hE HR1 HR2 HR3 HR4; go_wp2_with fail; generalize ((((w2.setCell ⟨w.heap.size, 0, none⟩ (.string f0)).setCell ⟨w.heap.size, 1, none⟩ (.slice X1 (zae l1).length d1)).setCell ⟨w.heap.size, 2, none⟩ (.slice X2 (zae l2).length d2)).setCell ⟨w.heap.size, 3, none⟩ (.slice X3 (zae l3).length d3)).setCell ⟨w.heap.size, 4, none⟩ (.slice X4 1 d4) = w5 at HK5 HA5 HB5' HC5 HD5 HB5 |-; clear k0 k1 k2 k3 k4 z0 z1 z2 z3 z4 HK2 HB2 HG2; obtain ⟨J1, hJ1⟩ : ∃ J, J = zb4 [105, 110] (zae l1) := ⟨_, rfl⟩; obtain ⟨J2, hJ2⟩ : ∃ J, J = zb4 [111, 117, 116] (zae l2) := ⟨_, rfl⟩; obtain ⟨J3, hJ3⟩ : ∃ J, J = zb4 [97, 102, 116, 101, 114] (zae l3) := ⟨_, rfl⟩; have hj1 : J1.length <= 1000200 := by rw [hJ1]; exact zdz (by decide) HS.out.j1
 have hj2 : J2.length <= 1000200 := by rw [hJ2]; exact zdz (by decide) HS.out.j2
 have hj3 : J3.length <= 1000200 := by rw [hJ3]; exact zdz (by decide) HS.out.j3
 have hn0 := HS.out.n0; have hm1 := zaZ J1; have hm2 := zaZ J2; have hm3 := zaZ J3; have n1 : ¬ 9223372036854775807 < 5 + f0.size := by omega
 have n2 : ¬ 9223372036854775807 < 5 + f0.size + 3 := by omega
 have n3 : ¬ 9223372036854775807 < 5 + f0.size + 3 + (mk J1).size := by omega
 have n4 : ¬ 9223372036854775807 < 5 + f0.size + 3 + (mk J1).size + (mk J2).size := by omega
 have n5 : ¬ 9223372036854775807 < 5 + f0.size + 3 + (mk J1).size + (mk J2).size + (mk J3).size := by omega
 obtain ⟨_, _, e1, hd1, hc1⟩ := Kd.R_reads HA5.out; obtain ⟨_, _, e2, hd2, hc2⟩ := Kd.R_reads HB5'.out; obtain ⟨_, _, e3, hd3, hc3⟩ := Kd.R_reads HC5.out; injection e1 with e11 g1 e12; clear g1; injection e2 with e21 g2 e22; clear g2; injection e3 with e31 g3 e32; clear g3; subst e11 e12 e21 e22 e31 e32; have HCl1 : Hid (∀ W, Below w.heap.size w W -> Kd.C Kd.string W X1 (zae l1).length (zae l1) -> GOK W -> Calls Tryz.prog 194 #[.string (mk [105, 110]), .slice X1 (zae l1).length d1] W fun e w' => e = .returned (.string (mk J1)) /\ Below W.heap.size W w') := fun W _ hr hg => by
  rw [hJ1]; exact zgf [105, 110] X1 d1 (zae l1) W hg hr hd1 (by decide) (by rw [zfE]; have := HS.out.n1; omega) (zpA HS.out.j1 (by omega))
 have HCl2 : Hid (∀ W, Below w.heap.size w W -> Kd.C Kd.string W X2 (zae l2).length (zae l2) -> GOK W -> Calls Tryz.prog 194 #[.string (mk [111, 117, 116]), .slice X2 (zae l2).length d2] W fun e w' => e = .returned (.string (mk J2)) /\ Below W.heap.size W w') := fun W _ hr hg => by
  rw [hJ2]; exact zgf [111, 117, 116] X2 d2 (zae l2) W hg hr hd2 (by decide) (by rw [zfE]; have := HS.out.n2; omega) (zpA HS.out.j2 (by omega))
 have HCl3 : Hid (∀ W, Below w.heap.size w W -> Kd.C Kd.string W X3 (zae l3).length (zae l3) -> GOK W -> Calls Tryz.prog 194 #[.string (mk [97, 102, 116, 101, 114]), .slice X3 (zae l3).length d3] W fun e w' => e = .returned (.string (mk J3)) /\ Below W.heap.size W w') := fun W _ hr hg => by
  rw [hJ3]; exact zgf [97, 102, 116, 101, 114] X3 d3 (zae l3) W hg hr hd3 (by decide) (by rw [zfE]; have := HS.out.n3; omega) (zpA HS.out.j3 (by omega))
 have HH : Hid ((⟨#[114, 117, 108, 101, 32]⟩ : ByteArray) ++ f0 ++ (⟨#[32, 123, 10]⟩ : ByteArray) ++ mk J1 ++ mk J2 ++ mk J3 = mk (zcU f0 l1 l2 l3)) := by
  show _ = _
  unfold zcU; rw [<- hJ1, <- hJ2, <- hJ3, <- zbQ, <- zbQ, <- zbQ, <- zbQ, <- zbQ]; rfl
 have HHl : Hid ((zcU f0 l1 l2 l3).length <= 5000000) := by
  show _ <= _
  unfold zcU; rw [<- hJ1, <- hJ2, <- hJ3]; have := Lib.size_eq f0; simp only [zpH, zqc, zqv]; omega
 have dr : Below w5.heap.size w5 w5.drew := ⟨rfl, rfl, rfl, zpu _, fun _ _ => rfl⟩
 have HBwd := zpq (zaV HB5.out); have HGwd := zpq (HG0.out.below HBwd.out); have HKwd := zpq (zax HK5.out); have HRwd := zpq (Kd.R_below HD5.out dr); have HC1wd := zpq (Kd.C_below hc1 dr); have HC2wd := zpq (Kd.C_below hc2 dr); have HC3wd := zpq (Kd.C_below hc3 dr); have k0wd : w5.drew.cell? ⟨w.heap.size, 0, none⟩ = some (.string f0) := (zab HKwd.out 0).trans rfl; have k1wd : w5.drew.cell? ⟨w.heap.size, 1, none⟩ = some (.slice X1 (zae l1).length d1) := (zab HKwd.out 1).trans rfl; have k2wd : w5.drew.cell? ⟨w.heap.size, 2, none⟩ = some (.slice X2 (zae l2).length d2) := (zab HKwd.out 2).trans rfl; have k3wd : w5.drew.cell? ⟨w.heap.size, 3, none⟩ = some (.slice X3 (zae l3).length d3) := (zab HKwd.out 3).trans rfl; clear hJ1 hJ2 hJ3 hj1 hj2 hj3 hn0 hm1 hm2 hm3 hd1 hc1 hd2 hc2 hd3 hc3 dr HA5 HB5' HC5 HD5 HB5 HK5
--REG2
 refine zdZ (n := 17) (S := fun w' => w'.cell? ⟨w.heap.size, 0, none⟩ = some (.string f0) /\ w'.cell? ⟨w.heap.size, 1, none⟩ = some (.slice X1 (zae l1).length d1) /\ w'.cell? ⟨w.heap.size, 2, none⟩ = some (.slice X2 (zae l2).length d2) /\ w'.cell? ⟨w.heap.size, 3, none⟩ = some (.slice X3 (zae l3).length d3)) (ds := []) (bm 17 0) (by kernel_rfl) rfl (by kernel_rfl) ⟨k0wd, k1wd, k2wd, k3wd⟩ (fun hHeld => ?_)
 refine zaH (i := 0) (N := some 8) (v := ?_) (a' := ?_) (bm 17 1) rfl rfl (by kernel_rfl) (fun _ _ _ h => h) (zqF ⟨by rfl, ?_⟩) ?_ ?_
 rotate_left
 . intro w'
   go_simp
   with_reducible rfl
 rotate_left
 . simp only [Act.put, zqG, zqH, zqI, zao, zap]
   rfl
 refine zaH (i := 4) (N := some 12) (v := ?_) (a' := ?_) (bm 17 17) rfl rfl (by kernel_rfl) (fun _ _ _ h => h) (zqF ⟨by rfl, ?_⟩) ?_ ?_
 rotate_left
 . intro w'
   go_simp
   with_reducible rfl
 rotate_left
 . simp only [Act.put, zqG, zqH, zqI, zao, zap]
   rfl
 refine zaH (i := 8) (N := some 16) (v := ?_) (a' := ?_) (bm 17 273) rfl rfl (by kernel_rfl) (fun _ _ _ h => h) (zqF ⟨by rfl, ?_⟩) ?_ ?_
 rotate_left
 . intro w'
   go_simp
   with_reducible rfl
 rotate_left
 . simp only [Act.put, zqG, zqH, zqI, zao, zap]
   rfl
 refine zaH (i := 12) (N := some 20) (v := ?_) (a' := ?_) (bm 17 4369) rfl rfl (by kernel_rfl) (fun _ _ _ h => h) (zqF ⟨by rfl, ?_⟩) ?_ ?_
 rotate_left
 . intro w'
   go_simp
   with_reducible rfl
 rotate_left
 . simp only [Act.put, zqG, zqH, zqI, zao, zap]
   rfl
 refine take_ (i := 1) (N := some 9) (v := ?_) (a' := ?_) (bm 17 4371) rfl rfl (by kernel_rfl) (fun _ _ _ h => h) (zqF ⟨by rfl, ?_⟩) hHeld ?_ ?_
 rotate_left
 . rintro w' ⟨s0, s1, s2, s3⟩
   go_simp
   with_reducible rfl
 rotate_left
 . simp only [Act.put, zqG, zqH, zqI, zao, zap]
   rfl
 refine zaH (i := 2) (N := some 10) (v := ?_) (a' := ?_) (bm 17 4375) rfl rfl (by kernel_rfl) (fun _ _ _ h => h) (zqF ⟨by rfl, ?_⟩) ?_ ?_
 rotate_left
 . intro w'
   go_simp
   with_reducible rfl
 rotate_left
 . simp only [Act.put, zqG, zqH, zqI, zao, zap]
   rfl
 refine zaH (i := 3) (N := some 11) (v := ?_) (a' := ?_) (bm 17 4383) rfl rfl (by kernel_rfl) (fun _ _ _ h => h) (zqF ⟨by rfl, ?_⟩) ?_ ?_
 rotate_left
 . intro w'
   go_simp
   with_reducible rfl
 rotate_left
 . simp only [Act.put, zqG, zqH, zqI, zao, zap]
   rfl
 refine take_ (i := 5) (N := some 13) (v := ?_) (a' := ?_) (bm 17 4415) rfl rfl (by kernel_rfl) (fun _ _ _ h => h) (zqF ⟨by rfl, ?_⟩) hHeld ?_ ?_
 rotate_left
 . rintro w' ⟨s0, s1, s2, s3⟩
   go_simp
   with_reducible rfl
 rotate_left
 . simp only [Act.put, zqG, zqH, zqI, zao, zap]
   rfl
 refine take_ (i := 9) (N := some 17) (v := ?_) (a' := ?_) (bm 17 4927) rfl rfl (by kernel_rfl) (fun _ _ _ h => h) (zqF ⟨by rfl, ?_⟩) hHeld ?_ ?_
 rotate_left
 . rintro w' ⟨s0, s1, s2, s3⟩
   go_simp
   with_reducible rfl
 rotate_left
 . simp only [Act.put, zqG, zqH, zqI, zao, zap]
   rfl
 refine take_ (i := 13) (N := some 21) (v := ?_) (a' := ?_) (bm 17 13119) rfl rfl (by kernel_rfl) (fun _ _ _ h => h) (zqF ⟨by rfl, ?_⟩) hHeld ?_ ?_
 rotate_left
 . rintro w' ⟨s0, s1, s2, s3⟩
   go_simp
   with_reducible rfl
 rotate_left
 . simp only [Act.put, zqG, zqH, zqI, zao, zap]
   rfl
 refine one_ (i := 6) (N := some 14) (bm 17 13183) rfl rfl (by kernel_rfl) (by decide) (fun K hK => ?_)
 refine zcz Tryz.func194 (by kernel_rfl) rfl #[.string (mk [105, 110]), .slice X1 (zae l1).length d1] (by rfl) rfl rfl (by simp only [zpT, zpU, zpV]; rfl) ?_
 with_reducible refine (HCl1.out _ HBwd.out HC1wd.out HGwd.out).mono ?_
 rintro e wa ⟨rfl, hb1⟩; refine ⟨_, rfl, ?_⟩; have HBwa := zpq (zad HBwd.out HBwd.out.size hb1); have HGwa := zpq (HGwd.out.below hb1); have HKwa := zpq (zah HKwd.out hb1); have HRwa := zpq (Kd.R_below HRwd.out hb1); have HC2wa := zpq (Kd.C_below HC2wd.out hb1); have HC3wa := zpq (Kd.C_below HC3wd.out hb1); have k0wa : wa.cell? ⟨w.heap.size, 0, none⟩ = some (.string f0) := (zab HKwa.out 0).trans rfl; have k1wa : wa.cell? ⟨w.heap.size, 1, none⟩ = some (.slice X1 (zae l1).length d1) := (zab HKwa.out 1).trans rfl; have k2wa : wa.cell? ⟨w.heap.size, 2, none⟩ = some (.slice X2 (zae l2).length d2) := (zab HKwa.out 2).trans rfl; have k3wa : wa.cell? ⟨w.heap.size, 3, none⟩ = some (.slice X3 (zae l3).length d3) := (zab HKwa.out 3).trans rfl; clear hb1; refine hK.out _ _ ⟨k0wa, k1wa, k2wa, k3wa⟩ (fun hHeld => ?_)
 clear hK K; refine zbc (a' := ?_) ?_ ?_; rotate_left
 . show Act.put _ (some 14) _ = _
   simp only [Act.put, zqG, zqH, zqI, zao, zap]; rfl
 refine zaH (i := 7) (N := some 15) (v := ?_) (a' := ?_) (bm 17 13311) rfl rfl (by kernel_rfl) (fun _ _ _ h => h) (zqF ⟨by rfl, ?_⟩) ?_ ?_
 rotate_left
 . intro w'
   go_simp
   with_reducible rfl
 rotate_left
 . simp only [Act.put, zqG, zqH, zqI, zao, zap]
   rfl
 refine one_ (i := 10) (N := some 18) (bm 17 14335) rfl rfl (by kernel_rfl) (by decide) (fun K hK => ?_)
 refine zcz Tryz.func194 (by kernel_rfl) rfl #[.string (mk [111, 117, 116]), .slice X2 (zae l2).length d2] (by rfl) rfl rfl (by simp only [zpT, zpU, zpV]; rfl) ?_
 with_reducible refine (HCl2.out _ HBwa.out HC2wa.out HGwa.out).mono ?_
 rintro e wb ⟨rfl, hb2⟩; refine ⟨_, rfl, ?_⟩; have HBwb := zpq (zad HBwa.out HBwa.out.size hb2); have HGwb := zpq (HGwa.out.below hb2); have HKwb := zpq (zah HKwa.out hb2); have HRwb := zpq (Kd.R_below HRwa.out hb2); have HC3wb := zpq (Kd.C_below HC3wa.out hb2); have k0wb : wb.cell? ⟨w.heap.size, 0, none⟩ = some (.string f0) := (zab HKwb.out 0).trans rfl; have k1wb : wb.cell? ⟨w.heap.size, 1, none⟩ = some (.slice X1 (zae l1).length d1) := (zab HKwb.out 1).trans rfl; have k2wb : wb.cell? ⟨w.heap.size, 2, none⟩ = some (.slice X2 (zae l2).length d2) := (zab HKwb.out 2).trans rfl; have k3wb : wb.cell? ⟨w.heap.size, 3, none⟩ = some (.slice X3 (zae l3).length d3) := (zab HKwb.out 3).trans rfl; clear hb2; refine hK.out _ _ ⟨k0wb, k1wb, k2wb, k3wb⟩ (fun hHeld => ?_)
 clear hK K; refine zbc (a' := ?_) ?_ ?_; rotate_left
 . show Act.put _ (some 18) _ = _
   simp only [Act.put, zqG, zqH, zqI, zao, zap]; rfl
 refine zaH (i := 11) (N := some 19) (v := ?_) (a' := ?_) (bm 17 16383) rfl rfl (by kernel_rfl) (fun _ _ _ h => h) (zqF ⟨by rfl, ?_⟩) ?_ ?_
 rotate_left
 . intro w'
   go_simp
   with_reducible rfl
 rotate_left
 . simp only [Act.put, zqG, zqH, zqI, zao, zap]
   rfl
 refine one_ (i := 14) (N := some 22) (bm 17 32767) rfl rfl (by kernel_rfl) (by decide) (fun K hK => ?_)
 refine zcz Tryz.func194 (by kernel_rfl) rfl #[.string (mk [97, 102, 116, 101, 114]), .slice X3 (zae l3).length d3] (by rfl) rfl rfl (by simp only [zpT, zpU, zpV]; rfl) ?_
 with_reducible refine (HCl3.out _ HBwb.out HC3wb.out HGwb.out).mono ?_
 rintro e wc ⟨rfl, hb3⟩; refine ⟨_, rfl, ?_⟩; have HBwc := zpq (zad HBwb.out HBwb.out.size hb3); have HGwc := zpq (HGwb.out.below hb3); have HKwc := zpq (zah HKwb.out hb3); have HRwc := zpq (Kd.R_below HRwb.out hb3); have k0wc : wc.cell? ⟨w.heap.size, 0, none⟩ = some (.string f0) := (zab HKwc.out 0).trans rfl; have k1wc : wc.cell? ⟨w.heap.size, 1, none⟩ = some (.slice X1 (zae l1).length d1) := (zab HKwc.out 1).trans rfl; have k2wc : wc.cell? ⟨w.heap.size, 2, none⟩ = some (.slice X2 (zae l2).length d2) := (zab HKwc.out 2).trans rfl; have k3wc : wc.cell? ⟨w.heap.size, 3, none⟩ = some (.slice X3 (zae l3).length d3) := (zab HKwc.out 3).trans rfl; clear hb3; refine hK.out _ _ ⟨k0wc, k1wc, k2wc, k3wc⟩ (fun hHeld => ?_)
 clear hK K; refine zbc (a' := ?_) ?_ ?_; rotate_left
 . show Act.put _ (some 22) _ = _
   simp only [Act.put, zqG, zqH, zqI, zao, zap]; rfl
 refine zaH (i := 15) (N := some 23) (v := ?_) (a' := ?_) (bm 17 65535) rfl rfl (by kernel_rfl) (fun _ _ _ h => h) (zqF ⟨by rfl, ?_⟩) ?_ ?_
 rotate_left
 . intro w'
   go_simp
   with_reducible rfl
 rotate_left
 . simp only [Act.put, zqG, zqH, zqI, zao, zap]
   rfl
 refine zaH (i := 16) (N := some 3) (v := ?_) (a' := ?_) (bm 17 131071) rfl rfl (by kernel_rfl) (fun _ _ _ h => h) (zqF ⟨by rfl, ?_⟩) ?_ ?_
 rotate_left
 . intro w'
   go_simp
   with_reducible rfl
 rotate_left
 . simp only [Act.put, zqG, zqH, zqI, zao, zap]
   rfl
 refine zdV (by kernel_rfl) ?_
--REG2E
 clear n1 n2 n3 n4 n5 HCl1 HCl2 HCl3 HC1wd HC2wd HC3wd HC2wa HC3wa HC3wb HBwd HGwd HKwd HRwd HBwa HGwa HKwa HRwa HBwb HGwb HKwb HRwb k0wd k1wd k2wd k3wd k0wa k1wa k2wa k3wa k0wb k1wb k2wb k3wb k0wc k1wc k2wc k3wc; have k4wc : wc.cell? ⟨w.heap.size, 4, none⟩ = some (.slice X4 1 d4) := (zab HKwc.out 4).trans rfl; obtain ⟨_, _, e4, hd4, hc4⟩ := Kd.R_reads HRwc.out; injection e4 with e41 g4 e42; clear g4; subst e41 e42; obtain ⟨ad, cs, rfl, hcl, hK, hcell⟩ := Kd.C_get hc4 x 0 (by simp) (by simp)
 obtain ⟨A5, c5, A6, c6, hcs, hc5, h5, hc6, h6⟩ := zcW hK; subst hcs; have m0 : wc.cell? ad = some (.string x.f0) := by have := hcell 0 _ rfl; rwa [zdj] at this
 have m1 : wc.cell? ⟨ad.block, ad.off + 1, none⟩ = some (.int .i64 x.f1) := by have := hcell 1 _ rfl; rwa [at_next ad 1 (by decide)] at this
 have m2 : wc.cell? ⟨ad.block, ad.off + 2, none⟩ = some (.slice A5 x.f2.length c5) := by have := hcell 2 _ rfl; rwa [at_next ad 2 (by decide)] at this
 have m3 : wc.cell? ⟨ad.block, ad.off + 3, none⟩ = some (.slice A6 x.f3.length c6) := by have := hcell 3 _ rfl; rwa [at_next ad 3 (by decide)] at this
 have m4 : wc.cell? ⟨ad.block, ad.off + 4, none⟩ = some (.int .i64 x.f4) := by have := hcell 4 _ rfl; rwa [at_next ad 4 (by decide)] at this
 have hst : (zcO x).length <= 1000001 := by
  have := HS.out.sj; unfold zcO; simp only [zpH, zqc, zqv]; omega
 obtain ⟨HD, hHD⟩ : ∃ HD, HD = zcU f0 l1 l2 l3 := ⟨_, rfl⟩; obtain ⟨T, hT⟩ : ∃ T, T = zcO x := ⟨_, rfl⟩; have hP : Hid (∀ W, Below wc.heap.size wc W -> Calls Tryz.prog 119 #[.agg #[.string x.f0, .int .i64 x.f1, .slice A5 x.f2.length c5, .slice A6 x.f3.length c6, .int .i64 x.f4]] W fun e w' => e = .returned (.string (mk T)) /\ Below W.heap.size W w') := fun W hW => by
  rw [hT]; exact zgI x A5 c5 A6 c6 W (HGwc.out.below hW) (Kd.C_below h5 hW) (Kd.C_below h6 hW) HS.out.s1 HS.out.sp HS.out.s2 HS.out.s3 (zpA HS.out.sj (by omega))
 have HR : Hid (zc1 f0 l1 l2 l3 x = HD ++ ([32, 32] ++ T ++ [10]) ++ [125, 10]) := by rw [hHD, hT]; rfl
 have hHDl := HHl.out; rw [<- hT] at hst; have hHH := HH.out; rw [<- hHD] at hHDl hHH; have q1 := zaZ T; have q2 := zaZ HD; have q3 := zaZ (HD ++ ([32, 32] ++ T ++ [10])); have q4 : (HD ++ ([32, 32] ++ T ++ [10])).length = HD.length + (T.length + 3) := by simp only [zpH, zqc, zqv]; omega
 have n1 : ¬ 9223372036854775807 < 2 + (mk T).size := by omega
 have n2 : ¬ 9223372036854775807 < 2 + (mk T).size + 1 := by omega
 have n3 : ¬ 9223372036854775807 < (mk HD).size + (2 + (mk T).size + 1) := by omega
 have n4 : ¬ 9223372036854775807 < (mk (HD ++ ([32, 32] ++ T ++ [10]))).size + 2 := by omega
 rw [hHH]; clear hHH HH HHl hHDl hHD hT hst q1 q2 q3 q4 hc4 hd4 hcl hK hcell hc5 h5 hc6 h6 HRwc HGwc HS HG0; go_wp2_with fail; go_loopg [3, 27] 1 (fun gg s3 s27 wr => ∃ kk : Nat, kk <= 1 /\ 1 - kk <= gg /\ s27 = .int .i64 kk /\ Aside0 (kk = 0 -> s3 = .string (mk HD) /\ wr = wc) /\ Aside0 (kk = 1 -> s3 = .string (mk (HD ++ ([32, 32] ++ T ++ [10]))) /\ Below w.heap.size w wr))
 case atStart => exact ⟨0, by omega, by omega, rfl, ⟨fun _ => ⟨rfl, rfl⟩⟩, ⟨fun h => by omega⟩⟩
 case round =>
  obtain ⟨kk, hkk, hgk, rfl, HP0, HP1⟩ := hrel; by_cases h0 : kk = 0
  . subst h0
    obtain ⟨rfl, rfl⟩ := HP0.out rfl; clear HP0 HP1; have hb1 := (zpt wr.heap.size wr).alloc (zpu _) (.cells #[.string x.f0, .int .i64 x.f1, .slice A5 x.f2.length c5, .slice A6 x.f3.length c6, .int .i64 x.f4] 24); have hcall := hP.out _ hb1; have HB1 := zpq (zad HBwc.out HBwc.out.size hb1); have HX : Hid (mk HD ++ ((⟨#[32, 32]⟩ : ByteArray) ++ mk T ++ (⟨#[10]⟩ : ByteArray)) = mk (HD ++ ([32, 32] ++ T ++ [10]))) := by
     show _ = _
     rw [<- zbQ, <- zbQ, <- zbQ]; rfl
    clear hb1; go_wp2_with (go_at_call 119; refine hcall.mono ?_; rintro e w2 ⟨rfl, hb2⟩; have HB2 := zpq (zad HB1.out HB1.out.size hb2); clear hb2)
    go_roundg 0
    case measure => omega
    case rel => exact ⟨1, by omega, by omega, by first | rfl | go_num, ⟨fun h => by omega⟩, ⟨fun _ => ⟨by rw [<- HX.out], HB2.out⟩⟩⟩
  . obtain rfl : kk = 1 := by omega
    obtain ⟨rfl, hB⟩ := HP1.out rfl; have HB := zpq hB; clear HP0 HP1 hB; go_wp2_with fail; go_ret
    refine ⟨?_, HB.out⟩; rw [HR.out, <- zbQ]; rfl

theorem zov (f0 : ByteArray) (l1 l2 l3 : List ByteArray) (x : zar) (A : Option Addr) (c : Nat) (w : World) (hG : GOK w) (h : Kd.C k45 w A 1 [⟨f0, l1, l2, l3, [x]⟩])
 (hl1 : l1.length * 16 <= 140737488355328) (hl2 : l2.length * 16 <= 140737488355328) (hl3 : l3.length * 16 <= 140737488355328) (hs : zfi f0 (zae l1) (zae l2) (zae l3) x) :
 Calls Tryz.prog 114 #[.slice A 1 c] w fun e w' => e = .returned (.string (mk (zc1 f0 (zae l1) (zae l2) (zae l3) x))) /\ Below w.heap.size w w' := by
 have hsort := zgC f0 l1 l2 l3 x A c w h hl1 hl2 hl3 (by have := hs.s2; omega) (by have := hs.s3; omega)
 obtain ⟨T, hT⟩ : ∃ T, T = zc1 f0 (zae l1) (zae l2) (zae l3) x := ⟨_, rfl⟩; have hTl : T.length <= 7000000 := by
  rw [hT]; have a0 := hs.n0; have a1 := zdz (word := [105, 110]) (by decide) hs.j1
  have a2 := zdz (word := [111, 117, 116]) (by decide) hs.j2
  have a3 := zdz (word := [97, 102, 116, 101, 114]) (by decide) hs.j3
  have a4 := hs.sj; have a5 := Lib.size_eq f0; unfold zc1 zcU zcO; simp only [zpH, zqc, zqv]; omega
 have HS := zpq hs; have HG := zpq hG; have HT := zpq hT; rw [<- hT]; have n1 : ¬ 9223372036854775807 < (mk T).size := by rw [zaZ]; omega
 clear hs hG h hl1 hl2 hl3 hT hTl; go_enter Tryz.func114, Tryz.ntmps114
 go_wp2_with (go_at_call 118; refine hsort.mono ?_; rintro e w1 ⟨X, d, rfl, hR, hb1⟩; obtain ⟨_, _, e4, hd4, hc4⟩ := Kd.R_reads hR; injection e4 with e41 g4 e42; clear g4; subst e41 e42; obtain ⟨ad, cs, rfl, hcl, hK, hcell⟩ := Kd.C_get hc4 (⟨f0, zae l1, zae l2, zae l3, [x]⟩ : zaj) 0 (by simp) (by simp); obtain ⟨A1, c1, A2, c2, A3, c3, A4, c4, hcs, u1, h1, u2, h2, u3, h3, u4, h4⟩ := zcE hK; subst hcs)
 have m0 : w1.cell? ad = some (.string f0) := by have := hcell 0 _ rfl; rwa [zdj] at this
 have m1 : w1.cell? ⟨ad.block, ad.off + 1, none⟩ = some (.slice A1 (zae l1).length c1) := by have := hcell 1 _ rfl; rwa [at_next ad 1 (by decide)] at this
 have m2 : w1.cell? ⟨ad.block, ad.off + 2, none⟩ = some (.slice A2 (zae l2).length c2) := by have := hcell 2 _ rfl; rwa [at_next ad 2 (by decide)] at this
 have m3 : w1.cell? ⟨ad.block, ad.off + 3, none⟩ = some (.slice A3 (zae l3).length c3) := by have := hcell 3 _ rfl; rwa [at_next ad 3 (by decide)] at this
 have m4 : w1.cell? ⟨ad.block, ad.off + 4, none⟩ = some (.slice A4 1 c4) := by have := hcell 4 _ rfl; rwa [at_next ad 4 (by decide)] at this
 have hP : Hid (∀ W, Below w1.heap.size w1 W -> Calls Tryz.prog 143 #[.agg #[.string f0, .slice A1 (zae l1).length c1, .slice A2 (zae l2).length c2, .slice A3 (zae l3).length c3, .slice A4 1 c4]] W fun e w' => e = .returned (.string (mk T)) /\ Below W.heap.size W w') := fun W hW => by
  rw [HT.out]; exact zkD f0 _ _ _ x A1 c1 A2 c2 A3 c3 A4 c4 W ((HG.out.below hb1).below hW) (Kd.C_below h1 hW) (Kd.C_below h2 hW) (Kd.C_below h3 hW) (Kd.C_below h4 hW) HS.out
 have HB1 := zpq hb1; clear u1 u2 u3 u4; clear hsort hR hd4 hc4 hcl hK hcell h1 h2 h3 h4 hb1; go_loopg [3, 9] 1 (fun gg s3 s9 wr => ∃ kk : Nat, kk <= 1 /\ 1 - kk <= gg /\ s9 = .int .i64 kk /\ Aside0 (kk = 0 -> s3 = .string ⟨#[]⟩ /\ wr = w1) /\ Aside0 (kk = 1 -> s3 = .string (mk T) /\ Below w.heap.size w wr))
 case atStart => exact ⟨0, by omega, by omega, rfl, ⟨fun _ => ⟨rfl, rfl⟩⟩, ⟨fun h => by omega⟩⟩
 case round =>
  obtain ⟨kk, hkk, hgk, rfl, HP0, HP1⟩ := hrel; by_cases h0 : kk = 0
  . subst h0
    obtain ⟨rfl, rfl⟩ := HP0.out rfl; clear HP0 HP1; have hb1 := (zpt wr.heap.size wr).alloc (zpu _) (.cells #[.string f0, .slice A1 (zae l1).length c1, .slice A2 (zae l2).length c2, .slice A3 (zae l3).length c3, .slice A4 1 c4] 45); have hcall := hP.out _ hb1; have HBx := zpq (zad HB1.out HB1.out.size hb1); have HX : Hid ((⟨#[]⟩ : ByteArray) ++ mk T = mk T) := by
     show _ = _
     rw [show (⟨#[]⟩ : ByteArray) = mk [] from rfl, zbQ]
     rfl
    clear hb1; go_wp2_with (go_at_call 143; refine hcall.mono ?_; rintro e w2 ⟨rfl, hb2⟩; have HB2 := zpq (zad HBx.out HBx.out.size hb2); clear hb2)
    go_roundg 0
    case measure => omega
    case rel => exact ⟨1, by omega, by omega, by first | rfl | go_num, ⟨fun h => by omega⟩, ⟨fun _ => ⟨by first | rfl | rw [<- HX.out] | simp, HB2.out⟩⟩⟩
  . obtain rfl : kk = 1 := by omega
    obtain ⟨rfl, hB⟩ := HP1.out rfl; have HB := zpq hB; clear HP0 HP1 hB; go_wp2_with fail; go_ret
    exact ⟨rfl, HB.out⟩

end Go.Proofs.YtdpgdnpddndeoaaGreatDoor.X
