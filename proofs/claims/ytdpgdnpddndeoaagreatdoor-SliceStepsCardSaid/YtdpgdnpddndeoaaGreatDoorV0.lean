/-
  What the cards lean on (part V0): contracts of functions, by hand, and plain laws; what is printed by the kit's print for this seat is among them. What is not reached is left out.
-/
import Derived.Test.YtdpgdnpddndeoaaGreatDoorProg
import Derived.WalkSmall
import Derived.Lib.LaidTab
import Derived.Lib.ItoaNum
import Derived.Shelf.Vars
import Derived.KernelRfl
import Derived.Test.YtdpgdnpddndeoaaGreatDoorRows
import Derived.Stop.LaidErr
import Derived.LaidMore
import Derived.MakeChecks
import Derived.Deep.DeepHandedRow
import Derived.Deep.DeepWitnessRowRef
import Derived.JoinedCond
import Derived.Lib.Strings
import Derived.Lib.Join
import Derived.Lib.SplitLaws
import Derived.Lib.IndexLaws
import Derived.Lib.IndexMore
import Derived.Below
import Derived.Deep.Draws
import Derived.Deep.AppendLies
import Derived.Maps.AppendAt
import Derived.OwnWalk
import Derived.Laws.BytesArg
import Derived.Laws.MakeOwn
import Derived.Laws.OwnMore
import Derived.Deep.OwnRows
import Derived.Tactics
import Derived.Lib.ConvBytes
import Derived.Laws.Slices
import Derived.WalkKit
import Derived.RowKit3
import Derived.Deep.LoopGhost
import Derived.Deep.QuietTactic
import Derived.BigQuiet
import Derived.WideLaws
import Derived.Deep.DeepCutAuto
import Derived.Deep.CutBlock
import Derived.Deep.RegionHeld3
import Derived.Laws.Rows
import Derived.Lib.AppendStr
import Derived.ArgAppend
import Derived.Laws.IdiomCopy
import Derived.RowKit
set_option maxHeartbeats 200000
set_option maxRecDepth 100000
set_option linter.unusedSimpArgs false
set_option linter.unusedVariables false
open Go.World renaming block_lt_of_cell? -> zpu, grownBy_alloc -> zpG
open Nat renaming lt_of_lt_of_le -> zpv, le_refl -> zpx, le_trans -> zpD, le_mul_of_pos_right -> zpE, lt_or_ge -> zpM, succ_mul -> zpO, mul_le_mul_right -> zpP, min_eq_left -> zp0
open Go.RowKit.Below renaming refl -> zpw, heap_setCell -> zpV
open Array renaming getElem?_eq_some_iff -> zpy, length_toList -> zpH
open List renaming eq_nil_of_length_eq_zero -> zpz, getElem?_eq_getElem -> zpA, getD_eq_getElem?_getD -> zpB, length_take -> zpI, length_append -> zpK, length_singleton -> zpL, getElem?_append_left -> zpN, take_append_of_le_length -> zpQ, length_drop -> zpR, getElem?_eq_some_iff -> zpS, getElem?_take -> zpT, getElem?_drop -> zpU, map_toArray -> zpW, map_cons -> zpX, map_nil -> zpY, take_succ_eq_append_getElem -> zpZ, drop_eq_getElem_cons -> zp1, ext_getElem? -> zp2, getElem?_eq_none -> zp3, length_set -> zp4
open Option renaming map_eq_some_iff -> zpC, bind_eq_some_iff -> zpJ
open Go.World.grownBy renaming trans -> zpF
open Go.Proofs.Tryz renaming prog -> zp5
namespace Go.Proofs
namespace YtdpgdnpddndeoaaGreatDoor.X
open Go.RowKit
theorem gPow : Tryz.prog.globalNamed "internal/strconv.uint64pow10" = some 3 := by kernel_rfl
theorem gSyn : Tryz.prog.globalNamed "strconv.ErrSyntax" = some 4 := by kernel_rfl
theorem gRan : Tryz.prog.globalNamed "strconv.ErrRange" = some 5 := by kernel_rfl
structure GOK (w : World) : Prop where
 maxLen : ∃ m : Int, w.cell? ⟨0, 0, none⟩ = some (.int .i64 m)
 pow10 : Lib.TabIs zp5 w "internal/strconv.uint64pow10" .u64 Lib.pow10Tab
 powLt : 3 < w.heap.size
 errS : ∃ te pe, w.cell? ⟨4, 0, none⟩ = some (.iface te pe)
 errR : ∃ te pe, w.cell? ⟨5, 0, none⟩ = some (.iface te pe)
theorem zad {w w1 : World} (h : Below w.heap.size w w1) {a : Addr} {v : Value} (hc : w.cell? a = some v) : w1.cell? a = some v := (h.cell (zpu w a hc)).trans hc
theorem GOK.below {w w1 : World} (h : GOK w) (hb : Below w.heap.size w w1) : GOK w1 := by
 obtain ⟨⟨m, hm⟩, hp, hlt, ⟨t1, p1, h1⟩, ⟨t2, p2, h2⟩⟩ := h; exact ⟨⟨m, zad hb hm⟩, var?_below hb gPow hlt hp, zpv hlt hb.size, ⟨t1, p1, zad hb h1⟩, ⟨t2, p2, zad hb h2⟩⟩
theorem GOK.drewN {w : World} (h : GOK w) (n : Nat) : GOK (w.drewN n) := h.below (below_drewN (zpw _ _) n)
theorem GOK.drew {w : World} (h : GOK w) : GOK w.drew := h.below ⟨rfl, rfl, rfl, zpx _, fun _ _ => rfl⟩
theorem GOK.alloc {w : World} (h : GOK w) (o : Obj) : GOK (w.alloc o) := h.below ((zpw _ _).alloc (zpx _) o)
end YtdpgdnpddndeoaaGreatDoor.X
namespace YtdpgdnpddndeoaaGreatDoor.X
open Go.RowKit Go.ChangeShapes
def ze1 : List (String × DataW Unit) := [("math/bits.deBruijn32tab", Rows.laid_math_bits_deBruijn32tab), ("math/bits.deBruijn64tab", Rows.laid_math_bits_deBruijn64tab), ("internal/strconv.uint64pow10", Rows.laid_internal_strconv_uint64pow10), ("unicode/utf8.acceptRanges", Rows.laid_unicode_utf8_acceptRanges), ("strconv.ErrRange", Rows.laid_strconv_ErrRange), ("strconv.ErrSyntax", Rows.laid_strconv_ErrSyntax), ("unicode/utf8.first", Rows.laid_unicode_utf8_first)]
theorem zhM : laidMetH zp5 ze1 = laidMet zp5 ze1 := funext fun w => MakeChecks.laidMetH_plain _ _ w (by kernel_rfl)
theorem zjO : (Tryz.prog.globals[3]?).map (·.type) = some 249 := by kernel_rfl
theorem zks : (Tryz.prog.globals[4]?).map (·.type) = some 152 := by kernel_rfl
theorem zob : (Tryz.prog.globals[5]?).map (·.type) = some 152 := by kernel_rfl
theorem zoI {P : Program} {w : World} {g : Nat} {t : TypeId} {zero : Array Value} (h : w.ShapedOpen P) (hg : g < P.globals.size)
 (h0 : ((begin P (fun _ _ => 0) default).world.heap[g]?).bind Obj.row? = some (zero, t)) (hz : zero.size = 1)
 (hb : P.buildable t = true) (hc : P.cellTypes P.depth t = some [t]) (hu : P.underlying t = some (.int .i64)) : ∃ m : Int, w.cell? ⟨g, 0, none⟩ = some (.int .i64 m) := by
 obtain ⟨cs, hh, hs, hr⟩ := h.1 g zero t hg h0; obtain ⟨ts, hts, _, hall⟩ := hr hb; rw [hc] at hts; cases hts
 have h1 : 0 < cs.size := by omega
 obtain ⟨u, hu', hok⟩ := hall 0 cs[0] (by simp [h1])
 have : u = t := by simpa using hu'.symm
 subst this; have hcell : w.cell? ⟨g, 0, none⟩ = some cs[0] := by simp [World.cell?, hh, h1]
 rw [hcell]; unfold Cell.ok at hok; rw [hu] at hok; cases hv : cs[0] <;> rw [hv] at hok <;> first | exact ⟨_, rfl⟩ | simp at hok
 rename_i k m
 obtain ⟨rfl, _⟩ := hok; exact ⟨_, rfl⟩
theorem star : "*" ++ "errors.errorString" = "*errors.errorString" := by decide
theorem zhJ (u : TypeId) (h : Tryz.prog.typeName? 3 u = some "*errors.errorString") : u = 266 :=
 typeName_ptr_named (nm := "errors.errorString") (by rw [star]; kernel_rfl) (by kernel_rfl) (by decide) u (by rw [star]; exact h)
theorem gok {W : World} (hL : laidMetH zp5 ze1 W) (hS : W.ShapedOpen zp5) : GOK W := by
 rw [zhM] at hL; have h5 := hL.tail.tail; have hpow : Lib.TabIs zp5 W "internal/strconv.uint64pow10" .u64 Lib.pow10Tab :=
  Lib.tabIs_of_head gPow zjO Tryz.underlying249 Tryz.underlying193 (by kernel_rfl) (by kernel_rfl) h5
 refine ⟨zoI (zero := #[.int .i64 0]) (t := 3) hS (of_decide_eq_true (by kernel_rfl)) (by kernel_rfl) rfl (by kernel_rfl) (by kernel_rfl) Tryz.underlying3, hpow, ?_, ?_, ?_⟩
 . have := hpow.cell gPow 0 (by decide)
   exact zpu W _ this
 . obtain ⟨a, s, hv, _⟩ := laid_sentinel (g := 4) (ti := 152) (tp := 266) (te := 268) (ts := 9) h5.tail.tail.tail gSyn zks Tryz.underlying152 zhJ Tryz.underlying266 Tryz.underlying268 rfl rfl Tryz.underlying9 (by kernel_rfl) (by kernel_rfl)
   exact ⟨_, _, by simpa using World.var?_cell gSyn hv 0⟩
 . obtain ⟨a, s, hv, _⟩ := laid_sentinel (g := 5) (ti := 152) (tp := 266) (te := 268) (ts := 9) h5.tail.tail gRan zob Tryz.underlying152 zhJ Tryz.underlying266 Tryz.underlying268 rfl rfl Tryz.underlying9 (by kernel_rfl) (by kernel_rfl)
   exact ⟨_, _, by simpa using World.var?_cell gRan hv 0⟩
theorem own : ownKnob Tryz.prog.godebug = none := by kernel_rfl
theorem laidOut : laidOutB zp5 = true := by kernel_rfl
def zkZ : DataW Unit -> Value
 | .lit (.int k n) => .int k n
 | _ => .bool false
def firstCells : Array Value := match (Rows.laid_unicode_utf8_first : DataW Unit) with
 | .agg l => (l.map zkZ).toArray
 | _ => #[]
noncomputable def startW (os : Os) : World :=
 { World.doorLaid zp5 72 os with heap := (World.doorLaid zp5 72 os).heap.modify 1 fun
  | .cells _ t frozen => .cells firstCells t frozen
  | o => o }
theorem start_met (os : Os) (args : Array Value) : laidMetH zp5 ze1 ((startW os).forCall (fun _ _ => 0) ⟨#[], args, []⟩).memory := by
 rw [zhM]; exact laidMet_of_run' 8 (by kernel_rfl) (by kernel_rfl)
end YtdpgdnpddndeoaaGreatDoor.X
namespace YtdpgdnpddndeoaaGreatDoor.X
open Go Go.Proofs
theorem fact_laid : laidOutB zp5 = true := by kernel_rfl
theorem fact_rowed : mapsRowed zp5 = true := by kernel_rfl
theorem fact_keys : Tryz.prog.plainKeys = Rows.stepAllRow.plainKeys := by kernel_rfl
theorem fact_heard : Tryz.prog.stopsHeard = true := by kernel_rfl
theorem fact_enter : Tryz.prog.mayEnter = true := by kernel_rfl
theorem fact_lifts : Tryz.prog.liftsFinal = Rows.stepAllRow.lifted := by kernel_rfl
theorem fact_make : Tryz.prog.make = some Rows.stepAllRow.make := by kernel_rfl
theorem fact_stops : Tryz.prog.stops = [] := by kernel_rfl
theorem fact_knobs : Tryz.prog.stopKnobs = [] := by kernel_rfl
end YtdpgdnpddndeoaaGreatDoor.X
namespace YtdpgdnpddndeoaaGreatDoor.X
abbrev zaa := List UInt8
def mk (l : zaa) : ByteArray := ⟨l.toArray⟩
theorem zbd (l : zaa) : (mk l).data.toList = l := by simp [mk]
theorem zbY (s : ByteArray) : mk s.data.toList = s := by cases s; simp [mk]
theorem zlr (l : zaa) : (mk l).toList = l := by rw [Lib.toList_data, zbd]
theorem zbh (s : ByteArray) : s.toList = s.data.toList := Lib.toList_data s
theorem zbb (l : zaa) : (mk l).size = l.length := by rw [Lib.size_eq, zbd]
theorem zcn {a b : ByteArray} (h : a.data.toList = b.data.toList) : a = b := by rw [<- zbY a, h, zbY]
theorem data_append (a b : ByteArray) : (a ++ b).data.toList = a.data.toList ++ b.data.toList := by
 have h : (a ++ b).data = a.data ++ b.data := ByteArray.data_append; rw [h, Array.toList_append]
theorem zgG (a b : zaa) : mk a ++ mk b = mk (a ++ b) := by
 apply zcn
 rw [data_append, zbd, zbd, zbd]
def zaz (c : UInt8) : zaa -> List zaa
 | [] => [[]]
 | x :: r => if x = c then [] :: zaz c r else match zaz c r with
  | [] => [[x]]
  | p :: q => (x :: p) :: q
theorem zd3 (c : UInt8) : ∀ l, zaz c l ≠ []
 | [] => by simp [zaz]
 | x :: r => by
  unfold zaz; split
  . simp
  . split <;> simp
theorem zgc (c : UInt8) : ∀ s : zaa, Lib.splitK [c] 0 (s.count c) s = zaz c s
 | [] => rfl
 | b :: l => by
  by_cases hb : b = c
  . subst hb
    have hix : Lib.index (b :: l) [b] = 0 := by rw [Lib.index]; simp [List.isPrefixOf]
    rw [List.count_cons_self, Lib.splitK, hix, zaz, if_pos rfl, <- zgc b l]; simp
  . have hp : ([c] : List UInt8).isPrefixOf (b :: l) = false := by simp [List.isPrefixOf, Ne.symm hb]
    have hix : Lib.index (b :: l) [c] = if Lib.index l [c] == -1 then -1 else Lib.index l [c] + 1 := by rw [Lib.index, hp]; simp
    rw [List.count_cons_of_ne (by simpa using hb), zaz, if_neg hb, <- zgc c l]
    cases hk : l.count c with
    | zero => rfl
    | succ k =>
     have hge := Lib.index_ge l [c]; have hm : Lib.index l [c] ≠ -1 := by
      intro hm; have : Lib.count l [c] = 0 := Lib.count_miss hm; rw [Lib.count_one] at this; omega
     obtain ⟨j, hj⟩ : ∃ j : Nat, Lib.index l [c] = j := ⟨(Lib.index l [c]).toNat, by omega⟩
     rw [hj] at hix hm; have e1 : ((j : Int) == -1) = false := beq_eq_false_iff_ne.2 (by omega)
     have e2 : ((j : Int) + 1 == -1) = false := beq_eq_false_iff_ne.2 (by omega)
     rw [e1] at hix; simp only [Lib.splitK, hix, hj, e1, e2, Bool.false_eq_true, if_false]; simp
theorem zhc (c : UInt8) (s : ByteArray) : Lib.splitB (mk [c]) 0 (Lib.countB s (mk [c])) s = (zaz c s.data.toList).map mk := by
 have h : (Lib.splitB (mk [c]) 0 (Lib.countB s (mk [c])) s).map (·.data.toList) = zaz c s.data.toList := by
  rw [Lib.splitB_data, zbd, <- zgc c]; congr 1
  show Lib.count s.data.toList (mk [c]).data.toList = _
  rw [zbd, Lib.count_one]
 rw [<- h, List.map_map]; have e : (mk ∘ fun x : ByteArray => x.data.toList) = id := by funext x; exact zbY x
 rw [e, List.map_id]
def parts (s : zaa) : List zaa := zaz 47 s
def sign (c : UInt8) : Bool := (97 <= c && c <= 122) || (65 <= c && c <= 90) || (48 <= c && c <= 57) || c == 46 || c == 95 || c == 45
def bad (p : zaa) : Bool := p == [] || p == [46] || p == [46, 46] || p.any (fun c => !sign c)
def may (s : zaa) : Bool := !(s == [114, 117, 108, 101] || s == [105, 110] || s == [111, 117, 116] || s == [97, 102, 116, 101, 114]) && decide (s.length <= 40) && !(parts s).any bad
def join (l : List zaa) : zaa := Lib.join (l.filter fun s => !(s == [])) [47]
def zaZ (n : Int) : zaa := Lib.decDigits n.toNat
def put (l : List zaa) : zaa := (l.map fun s => zaZ s.length ++ [58] ++ s).flatten
end YtdpgdnpddndeoaaGreatDoor.X
section
namespace YtdpgdnpddndeoaaGreatDoorW.PrintWords
open Go.RowKit
structure Aside0 (p : Prop) : Prop where mk :: (out : p)
structure Drawn0 (w w' : World) : Prop where mk :: (out : ∃ n, w' = w.drewN n)
theorem Drawn0.refl (w : World) : Drawn0 w w := ⟨⟨0, rfl⟩⟩
theorem Drawn0.step {w w' : World} (h : Drawn0 w w') (n : Nat) : Drawn0 w (w'.drewN n) := by
 obtain ⟨m, rfl⟩ := h; exact ⟨⟨m + n, World.drewN_drewN ..⟩⟩
theorem Drawn0.grown {w w' : World} (h : Drawn0 w w') : Grown w w' := by
 obtain ⟨n, rfl⟩ := h; induction n with
 | zero => exact Grown.refl _
 | succ n ih => rw [<- World.drew_drewN]; exact Grown.drew ih
theorem Drawn0.below {w w' : World} (h : Drawn0 w w') : Below w.heap.size w w' := by
 obtain ⟨n, rfl⟩ := h; induction n with
 | zero => exact zpw _ _
 | succ n ih => rw [<- World.drew_drewN]; exact ih.drew
def rd (xs : List Int) (i : Int) : Int := xs.getD i.toNat 0
def bt (s : ByteArray) (i : Int) : Int := if h : i.toNat < s.size then ((s[i.toNat]'h).toNat : Int) else 0
def nums (k : IntKind) (xs : List Int) : List Value := xs.map fun x => .int k x
theorem zij (k : IntKind) (xs : List Int) : (nums k xs).length = xs.length := by simp [nums]
theorem zoD (k : IntKind) (xs ys : List Int) : nums k (xs ++ ys) = nums k xs ++ nums k ys := by simp [nums]
theorem zas {w W : World} (h : Below w.heap.size w W) (o : Obj) : Below w.heap.size w (W.alloc o) := h.alloc h.size o
theorem zaM {B : Nat} {w W : World} (h : Below B w W) : Below B w W.drew := ⟨h.os, h.tape, h.output, h.size, h.block⟩
theorem zaq {B : Nat} {w W : World} (h : Below B w W) (n : Nat) : Below B w (W.drewN n) := ⟨h.os, h.tape, h.output, h.size, h.block⟩
theorem zac {B : Nat} {w w1 w2 : World} (h : Below B w w1) (hB : B <= w1.heap.size) (k : Below w1.heap.size w1 w2) : Below B w w2 :=
 h.trans ⟨k.os, k.tape, k.output, k.size, fun i hi => k.block i (zpv hi hB)⟩
theorem zb0 {w w1 : World} (h : Below w.heap.size w w1) (row : Option Nat) : w.grownBy w1 row := ⟨h.os, h.tape, h.output, h.size, fun i hi _ => h.block i hi⟩
theorem zc7 {w w1 : World} (h : Below w.heap.size w w1) {a : Addr} {v : Value} (hc : w.cell? a = some v) : w1.cell? a = some v := (h.cell (zpu w a hc)).trans hc
theorem zfl (g j : Nat) : (⟨g, 0, none⟩ : Addr).add j = ⟨g, j, none⟩ := by unfold Addr.add; split <;> simp_all
def ReadsInt (w : World) (k : IntKind) (A : Option Addr) (n : Nat) (xs : List Int) : Prop :=
 xs.length = n /\ n <= 9223372036854775807 /\ (0 < n -> ∃ ad, A = some ad /\ ∀ j, j < n -> w.cell? (ad.add j) = some (.int k (xs.getD j 0)))
theorem ReadsInt.at_ {w : World} {k : IntKind} {A : Option Addr} {n : Nat} {xs : List Int} (h : ReadsInt w k A n xs) (i : Int) (h0 : 0 <= i) (h1 : i < n) : ∃ ad, A = some ad /\ w.cell? (ad.add i.toNat) = some (.int k (rd xs i)) := by
 obtain ⟨ad, e, hc⟩ := h.2.2 (by omega)
 exact ⟨ad, e, hc _ (by omega)⟩
theorem ReadsInt.below {w w1 : World} {k : IntKind} {A : Option Addr} {n : Nat} {xs : List Int} (h : ReadsInt w k A n xs) (hb : Below w.heap.size w w1) : ReadsInt w1 k A n xs :=
 ⟨h.1, h.2.1, fun hn => by
  obtain ⟨ad, e, hc⟩ := h.2.2 hn; exact ⟨ad, e, fun j hj => zc7 hb (hc j hj)⟩⟩
theorem zcX (W : World) (base : Nat) (e : TypeId) (size : Nat) : W.ownsRow base e size (.slice none 0 0) 0 [] := ⟨by simp, .inl ⟨rfl, rfl⟩⟩
theorem zcy {w : World} {base : Nat} {e : TypeId} {size n : Nat} {v : Value} {xs : List Value} (h : w.ownsRow base e size v n xs) (k : Nat) (hk : v.ownBlock = some k) : base <= k := by
 rcases h.2 with ⟨rfl, _⟩ | ⟨g, cap, cur, rfl, hb, _⟩
 . simp [Value.ownBlock] at hk
 . have : g = k := by simpa [Value.ownBlock] using hk
   omega
theorem zgt {w : World} {base : Nat} {e : TypeId} {size n : Nat} {v : Value} {xs : List Value} (h : w.ownsRow base e size v n xs) (k : Nat) (hk : v.ownBlock = some k) : k < w.heap.size := by
 rcases h.2 with ⟨rfl, _⟩ | ⟨g, cap, cur, rfl, hb, hh, _⟩
 . simp [Value.ownBlock] at hk
 . have : g = k := by simpa [Value.ownBlock] using hk
   subst this; exact (zpy.1 hh).1
theorem zgq {w w1 : World} {base : Nat} {e : TypeId} {size n : Nat} {v : Value} {xs : List Value} (h : w.ownsRow base e size v n xs) (hb : Below w.heap.size w w1) : w1.ownsRow base e size v n xs :=
 h.kept (zb0 hb none) (by cases v.ownBlock <;> simp)
theorem zpf {w w1 : World} {base : Nat} {e : TypeId} {size n : Nat} {v : Value} {xs : List Value} (h : w.ownsRow base e size v n xs) {row : Option Nat} (hg : w.grownBy w1 row) (hne : v.ownBlock = none \/ v.ownBlock ≠ row) : w1.ownsRow base e size v n xs := h.kept hg hne
theorem zox {w : World} {base n : Nat} {e : TypeId} {size : Nat} {v : Value} {xs : List Value} (h : w.ownsRow base e size v n xs) : ∃ A c, v = .slice A n c := by
 rcases h.2 with ⟨rfl, rfl⟩ | ⟨g, cap, cur, rfl, _⟩
 . exact ⟨none, 0, rfl⟩
 . exact ⟨_, cap, rfl⟩
theorem zhz {P : Program} {w : World} {base n : Nat} {e' src dst e : TypeId} {v : Value} {xs : List Int} (hs : P.underlying src = some (.slice e)) (he : P.underlying e = some (.int .u8)) (hd : P.underlying dst = some .string)
 (h : w.ownsRow base e' 1 v n (nums .u8 xs)) : (convert src dst v).run P w = .ok (.string (strOfNums xs)) w := by
 have hl : xs.length = n := by have := h.1; simp [nums] at this; exact this
 rcases h.2 with ⟨rfl, rfl⟩ | ⟨g, cap, cur, rfl, _⟩
 . obtain rfl : xs = [] := zpz hl
   exact run_convert_bytes_nil w src e hs he 0 0 dst hd
 . refine run_convert_bytes_arg w src e hs he g 0 n cap xs hl (fun i hi => ?_) dst hd
   have hc := h.cells (g := g) rfl i (.int .u8 (xs.getD i 0)) (by simp [nums, zpA (show i < xs.length by omega), zpB])
   have ha : (⟨g, 0, none⟩ : Addr).add i = ⟨g, 0 + i, none⟩ := by unfold Addr.add; split <;> simp_all
   rwa [ha] at hc
section
variable {P : Program} {ops : Array Oper} {rest : List Oper} {o : Oper} {a : Act} {Q : Exit -> Act -> World -> Prop}
theorem zlu {w0 W : World} (base : Nat) (hgd : o.guard = none) (s x : Operand) (t e : TypeId) (z : Value) (bytes : Nat)
 (ho : o.op = .call { callee := .builtin .append, args := #[s, x], argTypes := #[t, t] })
 (ht : P.underlying t = some (.slice e)) (hinfo : (P.info? e).map (fun i => (i.zero, i.size, i.bytes)) = some (some z, 1, bytes)) (hz : z.cells.size = 1) (hb0 : 0 < bytes)
 (v : Value) (xs : List Value) (y : Value) (hs : a.eval s = v) (hx : a.eval x = .slice (some ⟨W.heap.size, 0, none⟩) 1 1) (h1 : y.oneCell' = true)
 (HO : W.ownsRow base e 1 v xs.length xs) (HB : Below base w0 W) (hbase : base <= W.heap.size) (hl : (xs.length + 1) * bytes <= 140737488355328)
 (h : ∀ v1 w1, w1.ownsRow base e 1 v1 (xs ++ [y]).length (xs ++ [y]) -> Below base w0 w1 -> W.grownBy w1 v.ownBlock -> (v1.ownBlock = v.ownBlock \/ ∃ b, v1.ownBlock = some b /\ W.heap.size <= b) -> wpList P ops Q rest (a.put o.dst v1) w1) :
 wpList P ops Q (o :: rest) a (W.alloc (.cells #[y] e)) := by
 obtain ⟨i0, hi, hzz⟩ := zpC.1 hinfo; simp only [Prod.mk.injEq] at hzz; obtain ⟨hz0, hz1, hz2⟩ := hzz; have hlen : xs.length + 1 <= 140737488355328 := zpD (zpE _ hb0) hl; refine wpList_append_own_at (W.alloc (.cells #[y] e)) hgd s x t ho base e i0 z 1 bytes ht hi hz0 hz1 hz2 hz (by omega) v xs.length xs hs (HO.alloc _) ⟨W.heap.size, 0, none⟩ 1 1 [y] hx rfl
  (World.news_of_block (cs := #[y]) (t := e) (fr := (0, 0)) (heap_alloc_new W _)) (by simpa using h1) (by simp only [maxLen]; omega) hl (by simp; omega) ?_
 intro v1 w1 hown hg _ hat; refine h v1 w1 (by simpa using hown) ((HB.alloc hbase _).grown hg (by simp; omega) (zcy HO)) (zpF (zpG W _ _) hg) ?_
 rcases hat with hat | hat
 . exact .inl hat
 . exact .inr ⟨_, hat, by simp⟩
theorem zju {w0 W : World} (base : Nat) (hgd : o.guard = none) (s x : Operand) (t e : TypeId) (k : IntKind) (bytes : Nat)
 (ho : o.op = .call { callee := .builtin .append, args := #[s, x], argTypes := #[t, t] })
 (ht : P.underlying t = some (.slice e)) (hinfo : (P.info? e).map (fun i => (i.zero, i.size, i.bytes)) = some (some (.int k 0), 1, bytes)) (hb0 : 0 < bytes)
 (v : Value) (xs : List Int) (y : Int) (hs : a.eval s = v) (hx : a.eval x = .slice (some ⟨W.heap.size, 0, none⟩) 1 1)
 (HO : W.ownsRow base e 1 v xs.length (nums k xs)) (HB : Below base w0 W) (hbase : base <= W.heap.size) (hl : (xs.length + 1) * bytes <= 140737488355328)
 (h : ∀ v1 w1, w1.ownsRow base e 1 v1 (xs ++ [y]).length (nums k (xs ++ [y])) -> Below base w0 w1 -> W.grownBy w1 v.ownBlock -> (v1.ownBlock = v.ownBlock \/ ∃ b, v1.ownBlock = some b /\ W.heap.size <= b) -> wpList P ops Q rest (a.put o.dst v1) w1) :
 wpList P ops Q (o :: rest) a (W.alloc (.cells #[.int k y] e)) :=
 zlu base hgd s x t e (.int k 0) bytes ho ht hinfo rfl hb0 v (nums k xs) (.int k y) hs hx rfl (by rw [zij]; exact HO) HB hbase (by rw [zij]; exact hl)
  fun v1 w1 hown hB hg hat => h v1 w1 (by simpa [nums] using hown) hB hg hat
end
section
variable {P : Program}
end
theorem zlX (W : World) (base : Nat) (e : TypeId) (k : IntKind) (xs : List Int) (hb : base <= W.heap.size) (hm : xs.length <= 9223372036854775807) :
 (W.alloc (.cells (nums k xs).toArray e)).ownsRow base e 1 (.slice (some ⟨W.heap.size, 0, none⟩) xs.length xs.length) xs.length (nums k xs) := by
 have h := World.ownsRow_lit (base := base) (e := e) (size := 1) W (nums k xs).toArray xs.length hb (by simpa [maxLen] using hm) (by simp [nums])
 simpa using h
section
variable {P : Program} {ops : Array Oper} {rest : List Oper} {o : Oper} {a : Act} {Q : Exit -> Act -> World -> Prop}
end
def bytesOf (s : ByteArray) : List Int := s.data.toList.map fun b => (b.toNat : Int)
theorem znf (s : ByteArray) : s.data.toList.length = s.size := by rw [zpH]; rfl
theorem zne (s : ByteArray) : (bytesOf s).length = s.size := by rw [bytesOf, List.length_map, znf]
theorem ReadsInt.take_ {w : World} {k : IntKind} {A : Option Addr} {n : Nat} {xs : List Int} (h : ReadsInt w k A n xs) (i : Nat) (hi : i <= n) : ReadsInt w k A i (xs.take i) := by
 refine ⟨by rw [zpI, h.1]; omega, by have := h.2.1; omega, fun hp => ?_⟩
 obtain ⟨ad, e, hc⟩ := h.2.2 (by omega)
 refine ⟨ad, e, fun j hj => ?_⟩
 rw [hc j (by omega)]
 simp [zpB, hj]
def LeO {α : Type} (a b : Option α) : Prop := ∀ r, a = some r -> b = some r
theorem LeO.refl {α : Type} (a : Option α) : LeO a a := fun _ h => h
theorem LeO.none {α : Type} (b : Option α) : LeO Option.none b := fun _ h => by cases h
theorem LeO.trans {α : Type} {a b c : Option α} (h : LeO a b) (k : LeO b c) : LeO a c := fun r hr => k r (h r hr)
theorem LeO.ite {α : Type} {c : Prop} [Decidable c] {a a' b b' : Option α} (h : LeO a a') (k : LeO b b') : LeO (if c then a else b) (if c then a' else b') := by
 split
 . exact h
 . exact k
theorem LeO.bind {α β : Type} {a a' : Option α} {f f' : α -> Option β} (h : LeO a a') (k : ∀ x, LeO (f x) (f' x)) : LeO (a.bind f) (a'.bind f') := by
 intro r hr; obtain ⟨x, hx, hf⟩ := zpJ.1 hr; exact zpJ.2 ⟨x, h x hx, k x r hf⟩
theorem LeO.map {α β : Type} {a a' : Option α} (f : α -> β) (h : LeO a a') : LeO (a.map f) (a'.map f) := by
 intro r hr; obtain ⟨x, hx, hf⟩ := zpC.1 hr; exact zpC.2 ⟨x, h x hx, hf⟩
theorem zgL {α : Type} {g : Nat -> Option α} (h : ∀ k, LeO (g k) (g (k + 1))) (k : Nat) : ∀ j, LeO (g k) (g (k + j))
 | 0 => LeO.refl _
 | j + 1 => (zgL h k j).trans (h (k + j))
theorem zk6 {α : Type} {g : Nat -> Option α} (h : ∀ k, LeO (g k) (g (k + 1))) {k k' : Nat} (hk : k <= k') {r : α} (hr : g k = some r) : g k' = some r := by
 have := zgL h k (k' - k) r hr; rwa [Nat.add_sub_cancel' hk] at this
def Reps {α : Type} (R : α -> List Value -> Prop) (size : Nat) (ps : List α) (cs : List Value) : Prop :=
 cs.length = ps.length * size /\ ∀ j p, ps[j]? = some p -> R p ((cs.drop (j * size)).take size)
theorem Reps.none {α : Type} (R : α -> List Value -> Prop) (size : Nat) : Reps R size [] [] := ⟨by simp, fun j p h => by simp at h⟩
theorem Reps.snoc {α : Type} {R : α -> List Value -> Prop} {size : Nat} {ps : List α} {cs c : List Value} {p : α} (h : Reps R size ps cs) (hp : R p c) (hc : c.length = size) : Reps R size (ps ++ [p]) (cs ++ c) := by
 refine ⟨by rw [zpK, h.1, hc, zpK, zpL, Nat.add_mul, Nat.one_mul], fun j q hq => ?_⟩
 rcases zpM j ps.length with hj | hj
 . rw [zpN hj] at hq
   have h1 : j * size + size <= cs.length := by rw [h.1, <- zpO]; exact zpP _ hj
   have h2 := h.2 j q hq; rw [List.drop_append_of_le_length (by omega), zpQ (by rw [zpR]; omega)]
   exact h2
 . have hj' : j = ps.length := by
    have := (zpS.1 hq).1; rw [zpK, zpL] at this; omega
   subst hj'; have hq' : p = q := by simpa using hq
   subst hq'; rw [<- h.1, List.drop_left, <- hc, List.take_length]; exact hp
theorem Reps.imp_ {α : Type} {R R' : α -> List Value -> Prop} {size : Nat} {ps : List α} {cs : List Value} (h : Reps R size ps cs) (hR : ∀ p c, R p c -> R' p c) : Reps R' size ps cs := ⟨h.1, fun j p hj => hR _ _ (h.2 j p hj)⟩
def ReadsRow {α : Type} (R : α -> List Value -> Prop) (size : Nat) (w : World) (A : Option Addr) (n : Nat) (ps : List α) : Prop :=
 ps.length = n /\ n <= 9223372036854775807 /\ (0 < n -> ∃ ad, A = some ad /\ ∀ j p, ps[j]? = some p -> ∃ c, c.length = size /\ R p c /\ ∀ i u, c[i]? = some u -> w.cell? (ad.add (j * size + i)) = some u)
theorem ReadsRow.get_ {α : Type} {R : α -> List Value -> Prop} {size : Nat} {w : World} {A : Option Addr} {n : Nat} {ps : List α} (h : ReadsRow R size w A n ps) (d : α) (i : Int) (h0 : 0 <= i) (h1 : i < n) :
 ∃ ad c, A = some ad /\ c.length = size /\ R (ps.getD i.toNat d) c /\ ∀ j u, c[j]? = some u -> w.cell? (ad.add (i.toNat * size + j)) = some u := by
 obtain ⟨ad, e, hc⟩ := h.2.2 (by omega)
 have hl : i.toNat < ps.length := by have := h.1; omega
 obtain ⟨c, hs, hr, hcell⟩ := hc i.toNat _ (zpA hl); refine ⟨ad, c, e, hs, ?_, hcell⟩; rw [zpB, zpA hl]; exact hr
theorem ReadsRow.imp_ {α : Type} {R R' : α -> List Value -> Prop} {size : Nat} {w w1 : World} {A : Option Addr} {n : Nat} {ps : List α} (h : ReadsRow R size w A n ps) (hb : Below w.heap.size w w1) (hR : ∀ p c, R p c -> R' p c) : ReadsRow R' size w1 A n ps :=
 ⟨h.1, h.2.1, fun hn => by
  obtain ⟨ad, e, hc⟩ := h.2.2 hn; refine ⟨ad, e, fun j p hj => ?_⟩
  obtain ⟨c, hs, hr, hcell⟩ := hc j p hj; exact ⟨c, hs, hR _ _ hr, fun i u hu => zc7 hb (hcell i u hu)⟩⟩
theorem zph {α : Type} {R : α -> List Value -> Prop} {w : World} {base n size : Nat} {e : TypeId} {v : Value} {ps : List α} {cs : List Value} (h : w.ownsRow base e size v n cs) (hR : Reps R size ps cs) (hn : ps.length = n) :
 ∃ A c, v = .slice A n c /\ ReadsRow R size w A n ps := by
 rcases Nat.eq_zero_or_pos n with h0 | h0
 . rcases h.2 with ⟨rfl, rfl⟩ | ⟨g, cap, cur, rfl, _⟩
   . exact ⟨none, 0, rfl, hn, by omega, fun hp => absurd hp (by omega)⟩
   . exact ⟨_, cap, rfl, hn, by omega, fun hp => absurd hp (by omega)⟩
 . obtain ⟨g, cap, rfl, _, _⟩ := h.form h0
   have hm : n <= 9223372036854775807 := by
    rcases h.2 with ⟨_, h1⟩ | ⟨g', cap', cur, he, _, _, h1, h2, _⟩
    . omega
    . simp only [maxLen] at h2
      omega
   refine ⟨_, cap, rfl, hn, hm, fun _ => ⟨_, rfl, fun j p hj => ⟨(cs.drop (j * size)).take size, ?_, hR.2 j p hj, fun i u hu => ?_⟩⟩⟩
   . have hjl := (zpS.1 hj).1
     have h1 : j * size + size <= cs.length := by rw [hR.1, <- zpO]; exact zpP _ hjl
     rw [zpI, zpR]; omega
   . refine h.cells (g := g) rfl _ u ?_
     rw [zpT] at hu; split at hu
     . rw [zpU] at hu
       exact hu
     . cases hu
theorem zca (ad : Addr) (m j : Nat) (hj : 0 < j) : ad.add (m + j) = ⟨(ad.add m).block, (ad.add m).off + j, none⟩ := by
 unfold Addr.add; by_cases hm : m = 0
 . subst hm
   simp [Nat.ne_of_gt hj]
 . simp [hm, Nat.add_assoc]
section
variable {P : Program} {ops : Array Oper} {rest : List Oper} {o : Oper} {a : Act} {Q : Exit -> Act -> World -> Prop}
theorem zgD {w0 W : World} (base : Nat) (hgd : o.guard = none) (s x : Operand) (t e : TypeId) (z : Value) (size bytes : Nat)
 (ho : o.op = .call { callee := .builtin .append, args := #[s, x], argTypes := #[t, t] })
 (ht : P.underlying t = some (.slice e)) (hinfo : (P.info? e).map (fun i => (i.zero, i.size, i.bytes)) = some (some z, size, bytes)) (hz : z.cells.size = size) (hs0 : 0 < size) (hb0 : 0 < bytes)
 (v : Value) (n : Nat) (xs ys : List Value) (hs : a.eval s = v) (hx : a.eval x = .slice (some ⟨W.heap.size, 0, none⟩) 1 1) (hys : ys.length = size) (h1 : ∀ u ∈ ys, u.oneCell' = true)
 (HO : W.ownsRow base e size v n xs) (HB : Below base w0 W) (hbase : base <= W.heap.size) (hl : (n + 1) * bytes <= 140737488355328)
 (h : ∀ v1 w1, w1.ownsRow base e size v1 (n + 1) (xs ++ ys) -> Below base w0 w1 -> W.grownBy w1 v.ownBlock -> (v1.ownBlock = v.ownBlock \/ ∃ b, v1.ownBlock = some b /\ W.heap.size <= b) -> wpList P ops Q rest (a.put o.dst v1) w1) :
 wpList P ops Q (o :: rest) a (W.alloc (.cells ys.toArray e)) := by
 obtain ⟨i0, hi, hzz⟩ := zpC.1 hinfo; simp only [Prod.mk.injEq] at hzz; obtain ⟨hz0, hz1, hz2⟩ := hzz; have hlen : n + 1 <= 140737488355328 := zpD (zpE _ hb0) hl; refine wpList_append_own_at (W.alloc (.cells ys.toArray e)) hgd s x t ho base e i0 z size bytes ht hi hz0 hz1 hz2 hz hs0 v n xs hs (HO.alloc _) ⟨W.heap.size, 0, none⟩ 1 1 ys hx (by rw [hys]; simp)
  (by simpa using World.news_of_block (cs := ys.toArray) (t := e) (fr := (0, 0)) (heap_alloc_new W (.cells ys.toArray e))) h1 (by simp only [maxLen]; omega) hl (by simp; omega) ?_
 intro v1 w1 hown hg _ hat; refine h v1 w1 hown ((HB.alloc hbase _).grown hg (by simp; omega) (zcy HO)) (zpF (zpG W _ _) hg) ?_
 rcases hat with hat | hat
 . exact .inl hat
 . exact .inr ⟨_, hat, by simp⟩
end
theorem zdG {w : World} {base : Nat} {e t : TypeId} {size n g : Nat} {v : Value} {xs : List Value} {cs : Array Value} (h : w.ownsRow base e size v n xs) (hg : w.heap[g]? = some (.cells cs t (0, 0))) (hne : e ≠ t) : some g ≠ v.ownBlock := by
 rcases h.2 with ⟨rfl, _⟩ | ⟨g', cap, cur, rfl, _, hh, _⟩
 . simp [Value.ownBlock]
 . intro he
   have : g = g' := by simpa [Value.ownBlock] using he
   subst this; rw [hg] at hh; injection hh with hh; injection hh with _ ht; exact hne ht.symm
theorem zbT {w : World} {g : Nat} {t : TypeId} {cs : Array Value} (h : w.heap[g]? = some (.cells cs t (0, 0))) (i : Nat) (u : Value) : (w.setCell ⟨g, i, none⟩ u).heap[g]? = some (.cells (cs.setIfInBounds i u) t (0, 0)) := by
 simp [World.setCell, Array.getElem?_modify, h]
theorem zaP {w : World} {g : Nat} {t : TypeId} {cs : Array Value} (h : w.heap[g]? = some (.cells cs t (0, 0))) {p : Addr} (hp : g ≠ p.block) (u : Value) : (w.setCell p u).heap[g]? = some (.cells cs t (0, 0)) := (zpV w p u g hp).trans h
theorem za1 {w : World} {g : Nat} {o : Obj} (h : w.heap[g]? = some o) : g < w.heap.size := (zpy.1 h).1
theorem zah {w : World} {g : Nat} {t : TypeId} {cs : Array Value} (h : w.heap[g]? = some (.cells cs t (0, 0))) (i : Nat) : w.cell? ⟨g, i, none⟩ = cs[i]? := cell_of_row w g i cs t (0, 0) h
theorem zak {w : World} {g : Nat} {t : TypeId} {cs : Array Value} (h : w.heap[g]? = some (.cells cs t (0, 0))) (i : Nat) : w.frozen? ⟨g, i, none⟩ = false := by simp [World.frozen?, h]
theorem zaY {w w1 : World} {g : Nat} {o : Obj} {row : Option Nat} (h : w.heap[g]? = some o) (hg : w.grownBy w1 row) (hne : some g ≠ row) : w1.heap[g]? = some o := (hg.block g (za1 h) hne).trans h
theorem zfQ {w : World} {g g' : Nat} {t t' : TypeId} {cs cs' : Array Value} (h : w.heap[g]? = some (.cells cs t (0, 0))) (h' : w.heap[g']? = some (.cells cs' t' (0, 0))) (hne : t ≠ t') : g ≠ g' := by
 rintro rfl; rw [h] at h'; injection h' with h'; injection h' with _ ht; exact hne ht
def KeepBut (w w' : World) (g : Nat) (row : Option Nat) : Prop := w.heap.size <= w'.heap.size /\ ∀ i, i < w.heap.size -> i ≠ g -> some i ≠ row -> w'.heap[i]? = w.heap[i]?
theorem KeepBut.trans {w w1 w2 : World} {g : Nat} {row row1 : Option Nat} (h : KeepBut w w1 g row) (k : KeepBut w1 w2 g row1) (hr : row1 = row \/ ∃ b, row1 = some b /\ w.heap.size <= b) : KeepBut w w2 g row :=
 ⟨zpD h.1 k.1, fun i hi hg hn => by
  refine (k.2 i (zpv hi h.1) hg ?_).trans (h.2 i hi hg hn); rcases hr with rfl | ⟨b, rfl, hb⟩
  . exact hn
  . intro e
    injection e with e; omega⟩
theorem KeepBut.blk {w w1 : World} {g g' : Nat} {row : Option Nat} {o : Obj} (h : KeepBut w w1 g row) (hb : w.heap[g']? = some o) (hg : g' ≠ g) (hr : some g' ≠ row) : w1.heap[g']? = some o := (h.2 g' (za1 hb) hg hr).trans hb
theorem KeepBut.own {w w1 : World} {g : Nat} {row : Option Nat} {base : Nat} {e : TypeId} {size n : Nat} {v : Value} {xs : List Value} (h : KeepBut w w1 g row) (ho : w.ownsRow base e size v n xs) (hg : v.ownBlock ≠ some g) (hr : v.ownBlock = none \/ v.ownBlock ≠ row) : w1.ownsRow base e size v n xs := by
 obtain ⟨h1, h2⟩ := ho; refine ⟨h1, ?_⟩; rcases h2 with h2 | ⟨b, cap, cur, rfl, hb, hh, r⟩
 . exact .inl h2
 . refine .inr ⟨b, cap, cur, rfl, hb, h.blk hh ?_ ?_, r⟩
   . intro e
     exact hg (by rw [<- e]; rfl)
   . rcases hr with hr | hr
     . simp [Value.ownBlock] at hr
     . exact hr
def Ev {α : Type} (g : Nat -> Option α) (r : α) : Prop := ∃ K, ∀ k, K <= k -> g k = some r
theorem Ev.of {α : Type} {g : Nat -> Option α} {r : α} (hg : ∀ k, LeO (g k) (g (k + 1))) {k : Nat} (h : g k = some r) : Ev g r := ⟨k, fun _ hk => zk6 hg hk h⟩
theorem Ev.now {α : Type} (r : α) : Ev (fun _ => some r) r := ⟨0, fun _ _ => rfl⟩
theorem Ev.bind {α β : Type} {g : Nat -> Option α} {f : Nat -> α -> Option β} {a : α} {r : β} (h : Ev g a) (k : Ev (fun n => f n a) r) : Ev (fun n => (g n).bind (f n)) r := by
 obtain ⟨K, h⟩ := h; obtain ⟨K', k⟩ := k; refine ⟨max K K', fun n hn => ?_⟩
 have h1 := h n (by omega)
 have h2 := k n (by omega)
 simp only [h1, Option.bind_some]; exact h2
theorem Ev.step {α : Type} {g f : Nat -> Option α} {r : α} (h : ∀ k, g (k + 1) = f k) (k : Ev f r) : Ev g r := by
 obtain ⟨K, k⟩ := k; refine ⟨K + 1, fun n hn => ?_⟩
 obtain ⟨m, rfl⟩ : ∃ m, n = m + 1 := ⟨n - 1, by omega⟩
 rw [h]; exact k m (by omega)
theorem Ev.congr {α : Type} {g f : Nat -> Option α} {r : α} (h : ∀ k, g k = f k) (k : Ev f r) : Ev g r := by
 obtain ⟨K, k⟩ := k; exact ⟨K, fun n hn => (h n).trans (k n hn)⟩
section
variable {P : Program} {ops : Array Oper} {o : Oper} {a : Act} {Q : Exit -> Act -> World -> Prop} {K : Act -> World -> Prop}
theorem zjY {w0 W : World} (base : Nat) (hw : Region.wanted o (yielded ops a.tmps) = true) (s x : Operand) (t e : TypeId) (z : Value) (size bytes : Nat)
 (ho : o.op = .call { callee := .builtin .append, args := #[s, x], argTypes := #[t, t] })
 (ht : P.underlying t = some (.slice e)) (hinfo : (P.info? e).map (fun i => (i.zero, i.size, i.bytes)) = some (some z, size, bytes)) (hz : z.cells.size = size) (hs0 : 0 < size) (hb0 : 0 < bytes)
 (v : Value) (n : Nat) (xs ys : List Value) (hs : a.eval s = v) (hx : a.eval x = .slice (some ⟨W.heap.size, 0, none⟩) 1 1) (hys : ys.length = size) (h1 : ∀ u ∈ ys, u.oneCell' = true)
 (HO : W.ownsRow base e size v n xs) (HB : Below base w0 W) (hbase : base <= W.heap.size) (hl : (n + 1) * bytes <= 140737488355328)
 (h : ∀ v1 w1, w1.ownsRow base e size v1 (n + 1) (xs ++ ys) -> Below base w0 w1 -> W.grownBy w1 v.ownBlock -> (v1.ownBlock = v.ownBlock \/ ∃ b, v1.ownBlock = some b /\ W.heap.size <= b) -> K (a.put o.dst v1) w1) :
 if Region.wanted o (yielded ops a.tmps) = true then Oper.wp P o a (W.alloc (.cells ys.toArray e)) K Q else K (a.put o.dst undef) (W.alloc (.cells ys.toArray e)) := by
 obtain ⟨i0, hi, hzz⟩ := zpC.1 hinfo; simp only [Prod.mk.injEq] at hzz; obtain ⟨hz0, hz1, hz2⟩ := hzz; have hlen : n + 1 <= 140737488355328 := zpD (zpE _ hb0) hl; rw [if_pos hw]; obtain ⟨v1, w1, hr, hown, hg, _, hat⟩ := run_append_own_at (P := P) (W.alloc (.cells ys.toArray e)) base t o.type e i0 z size bytes ht hi hz0 hz1 hz2 hz hs0 v n xs (HO.alloc _) ⟨W.heap.size, 0, none⟩ 1 1 ys (by rw [hys]; simp)
  (by simpa using World.news_of_block (cs := ys.toArray) (t := e) (fr := (0, 0)) (heap_alloc_new W (.cells ys.toArray e))) h1 (by simp only [maxLen]; omega) hl (by simp; omega)
 unfold Oper.wp execOp; simp only [ho, resolve, invoke, builtin, Sem.run_bind, Sem.run_pure, Result.andThen_ok, zpW, zpX, zpY, hs, hx, hr]; refine h v1 w1 hown ((HB.alloc hbase _).grown hg (by simp; omega) (zcy HO)) (zpF (zpG W _ _) hg) ?_
 rcases hat with hat | hat
 . exact .inl hat
 . exact .inr ⟨_, hat, by simp⟩
end
theorem zkO {w : World} {base base' : Nat} {e : TypeId} {size n : Nat} {v : Value} {xs : List Value} (h : w.ownsRow base e size v n xs) (hb : base' <= base) : w.ownsRow base' e size v n xs := by
 obtain ⟨h1, h2⟩ := h; refine ⟨h1, ?_⟩; rcases h2 with h2 | ⟨g, cap, cur, rfl, hg, r⟩
 . exact .inl h2
 . exact .inr ⟨g, cap, cur, rfl, zpD hb hg, r⟩
section
variable {α : Type} {enc : α -> Value} {d : α}
def encs (enc : α -> Value) (xs : List α) : List Value := xs.map enc
def rdOf (d : α) (xs : List α) (i : Int) : α := xs.getD i.toNat d
theorem zh6 (xs : List α) : (encs enc xs).length = xs.length := by simp [encs]
theorem zjR (xs : List α) (j : Nat) (h : j < xs.length) : (encs enc xs)[j]? = some (enc (xs.getD j d)) := by
 simp [encs, zpA h, zpB]
def ReadsOf (enc : α -> Value) (d : α) (w : World) (A : Option Addr) (n : Nat) (xs : List α) : Prop :=
 xs.length = n /\ n <= 9223372036854775807 /\ (0 < n -> ∃ ad, A = some ad /\ ∀ j, j < n -> w.cell? (ad.add j) = some (enc (xs.getD j d)))
theorem ReadsOf.at_ {w : World} {A : Option Addr} {n : Nat} {xs : List α} (h : ReadsOf enc d w A n xs) (i : Int) (h0 : 0 <= i) (h1 : i < n) : ∃ ad, A = some ad /\ w.cell? (ad.add i.toNat) = some (enc (rdOf d xs i)) := by
 obtain ⟨ad, e, hc⟩ := h.2.2 (by omega)
 exact ⟨ad, e, hc _ (by omega)⟩
theorem ReadsOf.below {w w1 : World} {A : Option Addr} {n : Nat} {xs : List α} (h : ReadsOf enc d w A n xs) (hb : Below w.heap.size w w1) : ReadsOf enc d w1 A n xs :=
 ⟨h.1, h.2.1, fun hn => by
  obtain ⟨ad, e, hc⟩ := h.2.2 hn; exact ⟨ad, e, fun j hj => zc7 hb (hc j hj)⟩⟩
theorem ReadsOf.take_ {w : World} {A : Option Addr} {n : Nat} {xs : List α} (h : ReadsOf enc d w A n xs) (i : Nat) (hi : i <= n) : ReadsOf enc d w A i (xs.take i) := by
 refine ⟨by rw [zpI, h.1]; omega, by have := h.2.1; omega, fun hp => ?_⟩
 obtain ⟨ad, e, hc⟩ := h.2.2 (by omega)
 refine ⟨ad, e, fun j hj => ?_⟩
 rw [hc j (by omega)]
 simp [zpB, hj]
theorem zfp (W : World) (base : Nat) (e : TypeId) (xs : List α) (hb : base <= W.heap.size) (hm : xs.length <= 9223372036854775807) :
 (W.alloc (.cells (encs enc xs).toArray e)).ownsRow base e 1 (.slice (some ⟨W.heap.size, 0, none⟩) xs.length xs.length) xs.length (encs enc xs) := by
 have h := World.ownsRow_lit (base := base) (e := e) (size := 1) W (encs enc xs).toArray xs.length hb (by simpa [maxLen] using hm) (by simp [encs])
 simpa using h
theorem zm2 {W : World} {base g n cap : Nat} {e : TypeId} {xs : List α} (h : W.ownsRow base e 1 (.slice (some ⟨g, 0, none⟩) n cap) n (encs enc xs)) (i : Int) (h0 : 0 <= i) (h1 : i < n) :
 W.cell? ⟨g, i.toNat, none⟩ = some (enc (rdOf d xs i)) /\ W.frozen? ⟨g, i.toNat, none⟩ = false := by
 have hl : xs.length = n := by have := h.1; simp [encs] at this; exact this
 constructor
 . have hc := h.cells (g := g) rfl i.toNat _ (zjR (d := d) xs i.toNat (by omega))
   rwa [zfl] at hc
 . rcases h.2 with ⟨h', _⟩ | ⟨g', cap', cur, h', _, hh, _⟩
   . cases h'
   . have : g = g' := by injection h' with h'; injection h' with h'; injection h' with h'
     subst this; simp [World.frozen?, hh]
theorem zlQ {W : World} {base g n cap : Nat} {e : TypeId} {xs : List α} (h : W.ownsRow base e 1 (.slice (some ⟨g, 0, none⟩) n cap) n (encs enc xs)) (i : Int) (x : α) :
 (W.setCell ⟨g, i.toNat, none⟩ (enc x)).ownsRow base e 1 (.slice (some ⟨g, 0, none⟩) n cap) n (encs enc (xs.set i.toNat x)) /\ W.grownBy (W.setCell ⟨g, i.toNat, none⟩ (enc x)) (some g) := by
 have hs := h.stored i.toNat (enc x); have he : (encs enc xs).set i.toNat (enc x) = encs enc (xs.set i.toNat x) := by simp [encs, List.map_set]
 rwa [he] at hs
end
section
variable {α : Type} {P : Program} {ops : Array Oper} {rest : List Oper} {o : Oper} {a : Act} {Q : Exit -> Act -> World -> Prop}
end
theorem zaQ {w : World} {g : Nat} {o : Obj} (h : w.heap[g]? = some o) (o' : Obj) : (w.alloc o').heap[g]? = some o := (Below.heap_alloc w o' g (za1 h)).trans h
theorem zaH {w : World} {g : Nat} {o : Obj} (h : w.heap[g]? = some o) : w.drew.heap[g]? = some o := h
theorem zdK {w : World} {g : Nat} {o : Obj} (h : w.heap[g]? = some o) (n : Nat) : (w.drewN n).heap[g]? = some o := h
theorem zai {w w1 : World} {g : Nat} {o : Obj} (h : w.heap[g]? = some o) (hb : Below w.heap.size w w1) : w1.heap[g]? = some o := (hb.block g (za1 h)).trans h
theorem zap (w : World) (o : Obj) : (w.alloc o).heap[w.heap.size]? = some o := heap_alloc_new w o
section
variable {P : Program}
end
theorem znN {w : World} {base n m c size : Nat} {e : TypeId} {A : Option Addr} {xs : List Value} (h : w.ownsRow base e size (.slice A m c) n xs) : m <= c := by
 rcases h.2 with ⟨he, _⟩ | ⟨g, cap, cur, he, _, _, hnc, _⟩
 . injection he with _ h2 h3
   omega
 . injection he with _ h2 h3
   omega
def OwnRow {α : Type} (R : α -> List Value -> Prop) (e : TypeId) (size : Nat) (w : World) (base : Nat) (v : Value) (ps : List α) : Prop :=
 ∃ inner, w.ownsRow base e size v ps.length inner /\ Reps R size ps inner
section
variable {α : Type} {R R' : α -> List Value -> Prop} {e : TypeId} {size : Nat} {w w1 : World} {base : Nat} {v : Value} {ps : List α}
theorem OwnRow.none_ (R : α -> List Value -> Prop) (e : TypeId) (size : Nat) (w : World) (base : Nat) : OwnRow R e size w base (.slice none 0 0) [] := ⟨[], zcX _ _ _ _, Reps.none _ _⟩
theorem OwnRow.imp_ (h : OwnRow R e size w base v ps) (hR : ∀ p c, R p c -> R' p c) : OwnRow R' e size w base v ps := by
 obtain ⟨inner, ho, hr⟩ := h; exact ⟨inner, ho, hr.imp_ hR⟩
theorem OwnRow.below (h : OwnRow R e size w base v ps) (hb : Below w.heap.size w w1) : OwnRow R e size w1 base v ps := by
 obtain ⟨inner, ho, hr⟩ := h; exact ⟨inner, zgq ho hb, hr⟩
theorem OwnRow.reads (h : OwnRow R e size w base v ps) : ∃ A c, v = .slice A ps.length c /\ ps.length <= c /\ ReadsRow R size w A ps.length ps := by
 obtain ⟨inner, ho, hr⟩ := h; obtain ⟨A, c, rfl, hrow⟩ := zph ho hr rfl; exact ⟨A, c, rfl, znN ho, hrow⟩
theorem OwnRow.ne_block (h : OwnRow R e size w base v ps) {g : Nat} {t : TypeId} {cells : Array Value} (hb : w.heap[g]? = some (.cells cells t (0, 0))) (ht : e ≠ t) : some g ≠ v.ownBlock := by
 obtain ⟨inner, ho, hr⟩ := h; exact zdG ho hb ht
theorem OwnRow.lit (W : World) (base : Nat) {inner : List Value} (hr : Reps R size ps inner) (hb : base <= W.heap.size) (hm : ps.length <= 9223372036854775807) :
 OwnRow R e size (W.alloc (.cells inner.toArray e)) base (.slice (some ⟨W.heap.size, 0, none⟩) ps.length ps.length) ps := by
 have h := World.ownsRow_lit (base := base) (e := e) (size := size) W inner.toArray ps.length hb (by simpa [maxLen] using hm) (by simpa using hr.1)
 exact ⟨inner, by simpa using h, hr⟩
end
section
variable {P : Program} {ops : Array Oper} {rest : List Oper} {o : Oper} {a : Act} {Q : Exit -> Act -> World -> Prop} {α : Type} {R : α -> List Value -> Prop}
theorem OwnRow.append {w0 W : World} (base : Nat) (hgd : o.guard = none) (s x : Operand) (t e : TypeId) (z : Value) (size bytes : Nat)
 (ho : o.op = .call { callee := .builtin .append, args := #[s, x], argTypes := #[t, t] })
 (ht : P.underlying t = some (.slice e)) (hinfo : (P.info? e).map (fun i => (i.zero, i.size, i.bytes)) = some (some z, size, bytes)) (hz : z.cells.size = size) (hs0 : 0 < size) (hb0 : 0 < bytes)
 (v : Value) (ps : List α) (p : α) (cs : List Value) (hs : a.eval s = v) (hx : a.eval x = .slice (some ⟨W.heap.size, 0, none⟩) 1 1) (hp : R p cs) (hcs : cs.length = size) (h1 : ∀ u ∈ cs, u.oneCell' = true)
 (HO : OwnRow R e size W base v ps) (HB : Below base w0 W) (hbase : base <= W.heap.size) (hl : (ps.length + 1) * bytes <= 140737488355328)
 (h : ∀ v1 w1, OwnRow R e size w1 base v1 (ps ++ [p]) -> Below base w0 w1 -> W.grownBy w1 v.ownBlock -> (v1.ownBlock = v.ownBlock \/ ∃ b, v1.ownBlock = some b /\ W.heap.size <= b) -> wpList P ops Q rest (a.put o.dst v1) w1) :
 wpList P ops Q (o :: rest) a (W.alloc (.cells cs.toArray e)) := by
 obtain ⟨inner, hown, hr⟩ := HO; refine zgD base hgd s x t e z size bytes ho ht hinfo hz hs0 hb0 v ps.length inner cs hs hx hcs h1 hown HB hbase hl ?_; intro v1 w1 hown1 hb1 hg1 hat1; exact h v1 w1 ⟨inner ++ cs, by rw [zpK, zpL]; exact hown1, hr.snoc hp hcs⟩ hb1 hg1 hat1
end
section
variable {P : Program} {ops : Array Oper} {o : Oper} {a : Act} {Q : Exit -> Act -> World -> Prop} {K : Act -> World -> Prop} {α : Type} {R : α -> List Value -> Prop}
end
theorem ReadsRow.inner_ {α : Type} {R : α -> List Value -> Prop} {size : Nat} {w : World} {ad : Addr} {n : Nat} {ps : List α} (h : ReadsRow R size w (some ad) n ps) :
 ∃ inner, Reps R size ps inner /\ ∀ j u, inner[j]? = some u -> w.cell? (ad.add j) = some u := by
 have key : ∀ m, m <= ps.length -> ∃ inner, Reps R size (ps.take m) inner /\ ∀ j u, inner[j]? = some u -> w.cell? (ad.add j) = some u := by
  intro m; induction m with
  | zero => exact fun _ => ⟨[], Reps.none _ _, fun j u hu => by simp at hu⟩
  | succ m ih =>
   intro hm; obtain ⟨inner, hr, hc⟩ := ih (by omega)
   obtain ⟨ad', he, hcell⟩ := h.2.2 (by have := h.1; omega)
   injection he with he; subst he; obtain ⟨c, hcl, hp, hcc⟩ := hcell m _ (zpA (show m < ps.length by omega))
   refine ⟨inner ++ c, ?_, fun j u hu => ?_⟩
   . rw [zpZ (show m < ps.length by omega)]
     exact hr.snoc hp hcl
   . have hil : inner.length = m * size := by rw [hr.1, zpI, zp0 (by omega)]
     rcases zpM j inner.length with hj | hj
     . rw [zpN hj] at hu
       exact hc j u hu
     . rw [List.getElem?_append_right hj] at hu
       have := hcc (j - inner.length) u hu; rwa [hil, Nat.add_sub_cancel' (by omega)] at this
 obtain ⟨inner, hr, hc⟩ := key ps.length (zpx _); rw [List.take_length] at hr; exact ⟨inner, hr, hc⟩
section
variable {α : Type} {P : Program}
end
section
variable {P : Program} {ops : Array Oper} {rest : List Oper} {o : Oper} {a : Act} {Q : Exit -> Act -> World -> Prop}
theorem zj4 {w0 W : World} (base : Nat) (hgd : o.guard = none) (s x : Operand) (t u e : TypeId)
 (ho : o.op = .call { callee := .builtin .append, args := #[s, x], argTypes := #[t, u] })
 (ht : P.underlying t = some (.slice e)) (hu : P.underlying u = some .string) (hinfo : (P.info? e).map (fun i => (i.zero, i.size, i.bytes)) = some (some (.int .u8 0), 1, 1))
 (v : Value) (xs : List Int) (y : ByteArray) (hs : a.eval s = v) (hx : a.eval x = .string y)
 (HO : W.ownsRow base e 1 v xs.length (nums .u8 xs)) (HB : Below base w0 W) (hbase : base <= W.heap.size) (hl : xs.length + y.size <= 140737488355328)
 (h : ∀ v1 w1, w1.ownsRow base e 1 v1 (xs ++ bytesOf y).length (nums .u8 (xs ++ bytesOf y)) -> Below base w0 w1 -> W.grownBy w1 v.ownBlock -> wpList P ops Q rest (a.put o.dst v1) w1) :
 wpList P ops Q (o :: rest) a W := by
 obtain ⟨i0, hi, hzz⟩ := zpC.1 hinfo; simp only [Prod.mk.injEq] at hzz; obtain ⟨hz0, hz1, hz2⟩ := hzz; refine Lib.wpList_append_own_string W hgd s x t u ho base e i0 ht hu hi hz0 hz1 hz2 v xs.length (nums .u8 xs) hs HO y hx (by simp only [maxLen]; omega) hl hbase ?_
 intro v1 w1 hown hg _; have hl2 : (xs ++ bytesOf y).length = xs.length + y.size := by rw [zpK, zne]
 have hc : nums .u8 (xs ++ bytesOf y) = nums .u8 xs ++ Lib.strCells y := by
  rw [zoD]; congr 1
  simp [nums, bytesOf, Lib.strCells]
 exact h v1 w1 (by rw [hl2, hc]; exact hown) (HB.grown hg hbase (zcy HO)) hg
end
structure Kd (α : Type) where
 sz : Nat
 E : List Nat
 K : World -> α -> List Value -> Prop
 M : World -> Nat -> (Nat -> Prop) -> α -> List Value -> Prop
 K_len : ∀ {w x cs}, K w x cs -> cs.length = sz
 K_one : ∀ {w x cs}, K w x cs -> ∀ u ∈ cs, u.oneCell' = true
 K_below : ∀ {w w1 : World} {x cs}, Below w.heap.size w w1 -> K w x cs -> K w1 x cs
 K_of_M : ∀ {w base ok x cs}, M w base ok x cs -> K w x cs
 M_mono : ∀ {w base ok ok' x cs}, (∀ k, ok k -> ok' k) -> M w base ok x cs -> M w base ok' x cs
 M_bound : ∀ {w : World} {base ok x cs}, M w base ok x cs -> M w base (fun k => ok k /\ base <= k /\ k < w.heap.size /\ ∃ q, q ∈ E /\ ∃ cells, w.heap[k]? = some (.cells cells q (0, 0))) x cs
 M_move : ∀ {w w1 : World} {base ok x cs}, (∀ k, ok k -> w1.heap[k]? = w.heap[k]?) -> M w base ok x cs -> M w1 base ok x cs
 M_lower : ∀ {w base base' ok x cs}, base' <= base -> M w base ok x cs -> M w base' ok x cs
theorem zpm {w w1 : World} {base : Nat} {e : TypeId} {size n : Nat} {v : Value} {xs : List Value} (h : w.ownsRow base e size v n xs) (hm : ∀ k, v.ownBlock = some k -> w1.heap[k]? = w.heap[k]?) : w1.ownsRow base e size v n xs := by
 obtain ⟨h1, h2⟩ := h; refine ⟨h1, ?_⟩; rcases h2 with h2 | ⟨g, cap, cur, rfl, hg, hh, r⟩
 . exact .inl h2
 . exact .inr ⟨g, cap, cur, rfl, hg, (hm g (by simp [Value.ownBlock])).trans hh, r⟩
theorem zen {w : World} {base : Nat} {e : TypeId} {size n : Nat} {v : Value} {xs : List Value} (h : w.ownsRow base e size v n xs) (k : Nat) (hk : v.ownBlock = some k) : ∃ cells, w.heap[k]? = some (.cells cells e (0, 0)) := by
 rcases h.2 with ⟨rfl, _⟩ | ⟨g, cap, cur, rfl, hg, hh, r⟩
 . simp [Value.ownBlock] at hk
 . have : g = k := by simpa [Value.ownBlock] using hk
   subst this; exact ⟨cur, hh⟩
namespace Kd
def C {α : Type} (d : Kd α) (w : World) (A : Option Addr) (n : Nat) (xs : List α) : Prop := ReadsRow (d.K w) d.sz w A n xs
def R {α : Type} (d : Kd α) (e : Nat) (w : World) (base : Nat) (ok : Nat -> Prop) (v : Value) (xs : List α) : Prop :=
 (∀ k, v.ownBlock = some k -> ok k) /\ OwnRow (d.M w base (fun k => ok k /\ some k ≠ v.ownBlock)) e d.sz w base v xs
section
variable {α : Type} {d : Kd α} {e : Nat} {w w1 : World} {base : Nat} {ok ok' : Nat -> Prop} {v : Value} {xs : List α}
theorem C_below {A : Option Addr} {n : Nat} (h : d.C w A n xs) (hb : Below w.heap.size w w1) : d.C w1 A n xs := ReadsRow.imp_ h hb (fun _ _ hp => d.K_below hb hp)
theorem R_nil (d : Kd α) (e : Nat) (w : World) (base : Nat) (ok : Nat -> Prop) : d.R e w base ok (.slice none 0 0) [] := ⟨fun k hk => by simp [Value.ownBlock] at hk, OwnRow.none_ _ _ _ _ _⟩
theorem R_mono (h : d.R e w base ok v xs) (hok : ∀ k, ok k -> ok' k) : d.R e w base ok' v xs := ⟨fun k hk => hok k (h.1 k hk), h.2.imp_ (fun _ _ hp => d.M_mono (fun k hk => ⟨hok k hk.1, hk.2⟩) hp)⟩
theorem R_bound (h : d.R e w base ok v xs) : d.R e w base (fun k => ok k /\ base <= k /\ k < w.heap.size /\ ∃ q, q ∈ e :: d.E /\ ∃ cells, w.heap[k]? = some (.cells cells q (0, 0))) v xs := by
 obtain ⟨h0, inner, ho, hr⟩ := h; refine ⟨fun k hk => ?_, inner, ho, hr.imp_ (fun _ _ hp => d.M_mono (fun k hk => ?_) (d.M_bound hp))⟩
 . obtain ⟨cells, hc⟩ := zen ho k hk
   exact ⟨h0 k hk, zcy ho k hk, zgt ho k hk, e, List.mem_cons_self, cells, hc⟩
 . obtain ⟨⟨h1, h2⟩, h3, h4, q, hq, hc⟩ := hk
   exact ⟨⟨h1, h3, h4, q, List.mem_cons_of_mem _ hq, hc⟩, h2⟩
theorem R_move (h : d.R e w base ok v xs) (hm : ∀ k, ok k -> w1.heap[k]? = w.heap[k]?) : d.R e w1 base ok v xs := by
 obtain ⟨h0, inner, ho, hr⟩ := h; exact ⟨h0, inner, zpm ho (fun k hk => hm k (h0 k hk)), hr.imp_ (fun _ _ hp => d.M_move (fun k hk => hm k hk.1) hp)⟩
theorem R_lower {base' : Nat} (h : d.R e w base ok v xs) (hb : base' <= base) : d.R e w base' ok v xs := by
 obtain ⟨h0, inner, ho, hr⟩ := h; exact ⟨h0, inner, zkO ho hb, hr.imp_ (fun _ _ hp => d.M_lower hb hp)⟩
theorem R_step (h : d.R e w base ok v xs) (hm : ∀ k, ok k -> k < w.heap.size -> w1.heap[k]? = w.heap[k]?) : d.R e w1 base ok v xs :=
 R_mono (R_move (R_bound h) (fun k hk => hm k hk.1 hk.2.2.1)) (fun _ hk => hk.1)
theorem zhL {x : α} {cs : List Value} (h : d.M w base ok x cs) (hm : ∀ k, ok k -> k < w.heap.size -> w1.heap[k]? = w.heap[k]?) : d.M w1 base ok x cs :=
 d.M_mono (fun _ hk => hk.1) (d.M_move (fun k hk => hm k hk.1 hk.2.2.1) (d.M_bound h))
theorem R_below (h : d.R e w base ok v xs) (hb : Below w.heap.size w w1) : d.R e w1 base ok v xs := R_step h (fun k _ hk => hb.block k hk)
theorem zl0 {x : α} {cs : List Value} (h : d.M w base ok x cs) (hb : Below w.heap.size w w1) : d.M w1 base ok x cs := zhL h (fun k _ hk => hb.block k hk)
theorem R_grown (h : d.R e w base ok v xs) {row : Option Nat} (hg : w.grownBy w1 row) (hok : ∀ k, ok k -> some k ≠ row) : d.R e w1 base ok v xs := R_step h (fun k ho hk => hg.block k hk (hok k ho))
theorem R_far (h : d.R e w base ok v xs) {p : Addr} (hok : ∀ k, ok k -> k ≠ p.block) (u : Value) : d.R e (w.setCell p u) base ok v xs := R_step h (fun k ho _ => zpV w p u k (hok k ho))
theorem R_types (h : d.R e w base ok v xs) {g t : Nat} {cells : Array Value} (hb : w.heap[g]? = some (.cells cells t (0, 0))) (ht : ∀ q, q ∈ e :: d.E -> q ≠ t) : d.R e w base (fun k => ok k /\ k ≠ g) v xs :=
 R_mono (R_bound h) (fun k hk => ⟨hk.1, by
  obtain ⟨_, _, _, q, hq, cells', hc⟩ := hk; rintro rfl; rw [hc] at hb; injection hb with hb; injection hb with _ hb; exact ht q hq hb⟩)
theorem R_set (h : d.R e w base ok v xs) {g t : Nat} {cells : Array Value} (hb : w.heap[g]? = some (.cells cells t (0, 0))) (ht : ∀ q, q ∈ e :: d.E -> q ≠ t) (j : Nat) (u : Value) : d.R e (w.setCell ⟨g, j, none⟩ u) base ok v xs :=
 R_mono (R_far (p := ⟨g, j, none⟩) (R_types h hb ht) (fun _ hk => hk.2) u) (fun _ hk => hk.1)
theorem R_reads (h : d.R e w base ok v xs) : ∃ A c, v = .slice A xs.length c /\ xs.length <= c /\ d.C w A xs.length xs := by
 obtain ⟨A, c, he, hl, hr⟩ := OwnRow.reads h.2; exact ⟨A, c, he, hl, hr.imp_ (zpw _ _) (fun _ _ hp => d.K_of_M hp)⟩
theorem R_slice (h : d.R e w base ok v xs) : ∃ A c, v = .slice A xs.length c := by
 obtain ⟨A, c, he, _⟩ := R_reads h; exact ⟨A, c, he⟩
theorem R_own (h : d.R e w base ok v xs) : ∃ inner, w.ownsRow base e d.sz v xs.length inner := by
 obtain ⟨_, inner, ho, _⟩ := h; exact ⟨inner, ho⟩
theorem R_ne (h : d.R e w base ok v xs) {g t : Nat} {cells : Array Value} (hb : w.heap[g]? = some (.cells cells t (0, 0))) (ht : e ≠ t) : some g ≠ v.ownBlock := OwnRow.ne_block h.2 hb ht
theorem R_new {W : World} {b e0 s0 n0 : Nat} {u : Value} {ys : List Value} (h : d.R e w W.heap.size ok v xs) (ho : W.ownsRow b e0 s0 u n0 ys) : d.R e w W.heap.size (fun k => ok k /\ some k ≠ u.ownBlock) v xs :=
 R_mono (R_bound h) (fun k hk => ⟨hk.1, fun e => by have := zgt ho k e.symm; omega⟩)
end
def scalar {α : Type} (enc : α -> Value) (h1 : ∀ x, (enc x).oneCell' = true) : Kd α where
 sz := 1
 E := []
 K := fun _ x cs => cs = [enc x]
 M := fun _ _ _ x cs => cs = [enc x]
 K_len := fun h => by rw [h]; rfl
 K_one := fun h u hu => by
  rw [h] at hu; rw [List.mem_singleton.1 hu]; exact h1 _
 K_below := fun _ h => h
 K_of_M := fun h => h
 M_mono := fun _ h => h
 M_bound := fun h => h
 M_move := fun _ h => h
 M_lower := fun _ h => h
def int (k : IntKind) : Kd Int := scalar (Value.int k) (fun _ => rfl)
def bool : Kd Bool := scalar Value.bool (fun _ => rfl)
def string : Kd ByteArray := scalar Value.string (fun _ => rfl)
def slice {α : Type} (e : Nat) (d : Kd α) : Kd (List α) where
 sz := 1
 E := e :: d.E
 K := fun w xs cs => ∃ A c, cs = [.slice A xs.length c] /\ xs.length <= c /\ d.C w A xs.length xs
 M := fun w base ok xs cs => ∃ v, cs = [v] /\ d.R e w base ok v xs
 K_len := by
  rintro w x cs ⟨A, c, rfl, _⟩; rfl
 K_one := by
  rintro w x cs ⟨A, c, rfl, _⟩ u hu; rw [List.mem_singleton.1 hu]; rfl
 K_below := by
  rintro w w1 x cs hb ⟨A, c, rfl, hl, hr⟩; exact ⟨A, c, rfl, hl, C_below hr hb⟩
 K_of_M := by
  rintro w base ok x cs ⟨v, rfl, h⟩; obtain ⟨A, c, rfl, hl, hr⟩ := R_reads h; exact ⟨A, c, rfl, hl, hr⟩
 M_mono := by
  rintro w base ok ok' x cs hok ⟨v, rfl, h⟩; exact ⟨v, rfl, R_mono h hok⟩
 M_bound := by
  rintro w base ok x cs ⟨v, rfl, h⟩; exact ⟨v, rfl, R_bound h⟩
 M_move := by
  rintro w w1 base ok x cs hm ⟨v, rfl, h⟩; exact ⟨v, rfl, R_move h hm⟩
 M_lower := by
  rintro w base base' ok x cs hb ⟨v, rfl, h⟩; exact ⟨v, rfl, R_lower h hb⟩
def pair {α β : Type} (a : Kd α) (b : Kd β) : Kd (α × β) where
 sz := a.sz + b.sz
 E := a.E ++ b.E
 K := fun w x cs => ∃ c0 c1, cs = c0 ++ c1 /\ a.K w x.1 c0 /\ b.K w x.2 c1
 M := fun w base ok x cs => ∃ c0 c1, cs = c0 ++ c1 /\ a.M w base ok x.1 c0 /\ b.M w base ok x.2 c1
 K_len := by
  rintro w x cs ⟨c0, c1, rfl, h0, h1⟩; rw [zpK, a.K_len h0, b.K_len h1]
 K_one := by
  rintro w x cs ⟨c0, c1, rfl, h0, h1⟩ u hu; rcases List.mem_append.1 hu with hu | hu
  . exact a.K_one h0 u hu
  . exact b.K_one h1 u hu
 K_below := by
  rintro w w1 x cs hb ⟨c0, c1, rfl, h0, h1⟩; exact ⟨c0, c1, rfl, a.K_below hb h0, b.K_below hb h1⟩
 K_of_M := by
  rintro w base ok x cs ⟨c0, c1, rfl, h0, h1⟩; exact ⟨c0, c1, rfl, a.K_of_M h0, b.K_of_M h1⟩
 M_mono := by
  rintro w base ok ok' x cs hok ⟨c0, c1, rfl, h0, h1⟩; exact ⟨c0, c1, rfl, a.M_mono hok h0, b.M_mono hok h1⟩
 M_bound := by
  rintro w base ok x cs ⟨c0, c1, rfl, h0, h1⟩; refine ⟨c0, c1, rfl, a.M_mono ?_ (a.M_bound h0), b.M_mono ?_ (b.M_bound h1)⟩
  . rintro k ⟨h2, h3, h4, q, hq, hc⟩
    exact ⟨h2, h3, h4, q, List.mem_append_left _ hq, hc⟩
  . rintro k ⟨h2, h3, h4, q, hq, hc⟩
    exact ⟨h2, h3, h4, q, List.mem_append_right _ hq, hc⟩
 M_move := by
  rintro w w1 base ok x cs hm ⟨c0, c1, rfl, h0, h1⟩; exact ⟨c0, c1, rfl, a.M_move hm h0, b.M_move hm h1⟩
 M_lower := by
  rintro w base base' ok x cs hb ⟨c0, c1, rfl, h0, h1⟩; exact ⟨c0, c1, rfl, a.M_lower hb h0, b.M_lower hb h1⟩
def iso {α β : Type} (d : Kd α) (f : β -> α) : Kd β where
 sz := d.sz
 E := d.E
 K := fun w x cs => d.K w (f x) cs
 M := fun w base ok x cs => d.M w base ok (f x) cs
 K_len := d.K_len
 K_one := d.K_one
 K_below := d.K_below
 K_of_M := d.K_of_M
 M_mono := d.M_mono
 M_bound := d.M_bound
 M_move := d.M_move
 M_lower := d.M_lower
def bot {α : Type} (sz : Nat) (E : List Nat) : Kd α where
 sz := sz
 E := E
 K := fun _ _ _ => False
 M := fun _ _ _ _ _ => False
 K_len := fun h => h.elim
 K_one := fun h => h.elim
 K_below := fun _ h => h
 K_of_M := fun h => h
 M_mono := fun _ h => h
 M_bound := fun h => h
 M_move := fun _ h => h
 M_lower := fun _ h => h
def upto {α : Type} (F : Kd α -> Kd α) (sz : Nat) (E : List Nat) : Nat -> Kd α
 | 0 => bot sz E
 | n + 1 => F (upto F sz E n)
theorem C_get {α : Type} {d : Kd α} {w : World} {A : Option Addr} {n : Nat} {xs : List α} (h : d.C w A n xs) (z : α) (i : Int) (h0 : 0 <= i) (h1 : i < n) :
 ∃ ad c, A = some ad /\ c.length = d.sz /\ d.K w (xs.getD i.toNat z) c /\ ∀ j u, c[j]? = some u -> w.cell? (ad.add (i.toNat * d.sz + j)) = some u := ReadsRow.get_ h z i h0 h1
theorem ziN {α : Type} {d : Kd α} {e base : Nat} {ok okp : Nat -> Prop} {W w1 : World} {v v1 : Value} {xs : List α} {p : α} {inner cs : List Value} (h0 : ∀ k, v.ownBlock = some k -> ok k) (hr : Reps (d.M W base (fun k => ok k /\ some k ≠ v.ownBlock)) d.sz xs inner) (hp : d.M W base okp p cs) (hokp : ∀ k, okp k -> ok k /\ some k ≠ v.ownBlock) (hfresh : ∀ k, W.heap.size <= k -> ok k)
 (hown : w1.ownsRow base e d.sz v1 (xs.length + 1) (inner ++ cs)) (hg : W.grownBy w1 v.ownBlock) (hat : v1.ownBlock = v.ownBlock \/ ∃ b, v1.ownBlock = some b /\ W.heap.size <= b) : d.R e w1 base ok v1 (xs ++ [p]) := by
 have hne : ∀ k, some k ≠ v.ownBlock -> k < W.heap.size -> some k ≠ v1.ownBlock := by
  intro k hk hlt; rcases hat with hat | ⟨b, hb, hle⟩
  . rw [hat]; exact hk
  . rw [hb]
    intro he; injection he with he; omega
 have step : ∀ {q : α} {c : List Value} {o : Nat -> Prop}, d.M W base o q c -> (∀ k, o k -> ok k /\ some k ≠ v.ownBlock) -> d.M w1 base (fun k => ok k /\ some k ≠ v1.ownBlock) q c := by
  intro q c o hq ho; have h1 := d.M_move (w1 := w1) (fun k hk => hg.block k hk.2.2.1 (ho k hk.1).2) (d.M_bound hq)
  exact d.M_mono (fun k hk => ⟨(ho k hk.1).1, hne k (ho k hk.1).2 hk.2.2.1⟩) h1
 refine ⟨fun k hk => ?_, inner ++ cs, by rw [zpK, zpL]; exact hown, ?_⟩
 . rcases hat with hat | ⟨b, hb, hle⟩
   . exact h0 k (hat ▸ hk)
   . rw [hb] at hk
     injection hk with hk; exact hfresh k (by omega)
 . exact (hr.imp_ (fun _ _ hq => step hq (fun _ hk => hk))).snoc (step hp hokp) (d.K_len (d.K_of_M hp))
section
variable {P : Program} {ops : Array Oper} {rest : List Oper} {o : Oper} {a : Act} {Q : Exit -> Act -> World -> Prop} {α : Type}
theorem R_append (d : Kd α) {w0 W : World} (base : Nat) (hgd : o.guard = none) (s x : Operand) (t e : TypeId) (z : Value) (bytes : Nat)
 (ho : o.op = .call { callee := .builtin .append, args := #[s, x], argTypes := #[t, t] })
 (ht : P.underlying t = some (.slice e)) (hinfo : (P.info? e).map (fun i => (i.zero, i.size, i.bytes)) = some (some z, d.sz, bytes)) (hz : z.cells.size = d.sz) (hs0 : 0 < d.sz) (hb0 : 0 < bytes)
 (v : Value) (xs : List α) (p : α) (cs : List Value) (ok okp : Nat -> Prop) (hs : a.eval s = v) (hx : a.eval x = .slice (some ⟨W.heap.size, 0, none⟩) 1 1) (hp : d.M W base okp p cs) (hokp : ∀ k, okp k -> ok k /\ some k ≠ v.ownBlock) (hfresh : ∀ k, W.heap.size <= k -> ok k)
 (HO : d.R e W base ok v xs) (HB : Below base w0 W) (hbase : base <= W.heap.size) (hl : (xs.length + 1) * bytes <= 140737488355328)
 (h : ∀ v1 w1, d.R e w1 base ok v1 (xs ++ [p]) -> Below base w0 w1 -> W.grownBy w1 v.ownBlock -> (v1.ownBlock = v.ownBlock \/ ∃ b, v1.ownBlock = some b /\ W.heap.size <= b) -> wpList P ops Q rest (a.put o.dst v1) w1) :
 wpList P ops Q (o :: rest) a (W.alloc (.cells cs.toArray e)) := by
 obtain ⟨h0, inner, hown, hr⟩ := HO; refine zgD base hgd s x t e z d.sz bytes ho ht hinfo hz hs0 hb0 v xs.length inner cs hs hx (d.K_len (d.K_of_M hp)) (d.K_one (d.K_of_M hp)) hown HB hbase hl ?_; intro v1 w1 hown1 hb1 hg1 hat1; exact h v1 w1 (ziN h0 hr hp hokp hfresh hown1 hg1 hat1) hb1 hg1 hat1
end
section
variable {P : Program} {ops : Array Oper} {o : Oper} {a : Act} {Q : Exit -> Act -> World -> Prop} {Kc : Act -> World -> Prop} {α : Type}
theorem R_append_step (d : Kd α) {w0 W : World} (base : Nat) (hw : Region.wanted o (yielded ops a.tmps) = true) (s x : Operand) (t e : TypeId) (z : Value) (bytes : Nat)
 (ho : o.op = .call { callee := .builtin .append, args := #[s, x], argTypes := #[t, t] })
 (ht : P.underlying t = some (.slice e)) (hinfo : (P.info? e).map (fun i => (i.zero, i.size, i.bytes)) = some (some z, d.sz, bytes)) (hz : z.cells.size = d.sz) (hs0 : 0 < d.sz) (hb0 : 0 < bytes)
 (v : Value) (xs : List α) (p : α) (cs : List Value) (ok okp : Nat -> Prop) (hs : a.eval s = v) (hx : a.eval x = .slice (some ⟨W.heap.size, 0, none⟩) 1 1) (hp : d.M W base okp p cs) (hokp : ∀ k, okp k -> ok k /\ some k ≠ v.ownBlock) (hfresh : ∀ k, W.heap.size <= k -> ok k)
 (HO : d.R e W base ok v xs) (HB : Below base w0 W) (hbase : base <= W.heap.size) (hl : (xs.length + 1) * bytes <= 140737488355328)
 (h : ∀ v1 w1, d.R e w1 base ok v1 (xs ++ [p]) -> Below base w0 w1 -> W.grownBy w1 v.ownBlock -> (v1.ownBlock = v.ownBlock \/ ∃ b, v1.ownBlock = some b /\ W.heap.size <= b) -> Kc (a.put o.dst v1) w1) :
 if Region.wanted o (yielded ops a.tmps) = true then Oper.wp P o a (W.alloc (.cells cs.toArray e)) Kc Q else Kc (a.put o.dst undef) (W.alloc (.cells cs.toArray e)) := by
 obtain ⟨h0, inner, hown, hr⟩ := HO; refine zjY base hw s x t e z d.sz bytes ho ht hinfo hz hs0 hb0 v xs.length inner cs hs hx (d.K_len (d.K_of_M hp)) (d.K_one (d.K_of_M hp)) hown HB hbase hl ?_; intro v1 w1 hown1 hb1 hg1 hat1; exact h v1 w1 (ziN h0 hr hp hokp hfresh hown1 hg1 hat1) hb1 hg1 hat1
end
theorem reps_scalar {α : Type} {enc : α -> Value} (xs : List α) : Reps (fun (x : α) (cs : List Value) => cs = [enc x]) 1 xs (encs enc xs) := by
 refine ⟨by simp [encs], fun j p hj => ?_⟩
 obtain ⟨hl, hp⟩ := zpS.1 hj; have hl' : j < (encs enc xs).length := by rw [zh6]; exact hl
 rw [Nat.mul_one, zp1 hl']; simp [encs, hp]
theorem R_of_own {α : Type} {enc : α -> Value} {h1 : ∀ x, (enc x).oneCell' = true} {e : Nat} {w : World} {base : Nat} {ok : Nat -> Prop} {v : Value} {xs : List α} (ho : w.ownsRow base e 1 v xs.length (encs enc xs)) (hok : ∀ k, v.ownBlock = some k -> ok k) : (scalar enc h1).R e w base ok v xs := ⟨hok, encs enc xs, ho, reps_scalar xs⟩
theorem own_of_R {α : Type} {enc : α -> Value} {h1 : ∀ x, (enc x).oneCell' = true} {e : Nat} {w : World} {base : Nat} {ok : Nat -> Prop} {v : Value} {xs : List α} (h : (scalar enc h1).R e w base ok v xs) : w.ownsRow base e 1 v xs.length (encs enc xs) := by
 obtain ⟨_, inner, ho, hr⟩ := h; have : inner = encs enc xs := by
  apply zp2
  intro j; rcases zpM j xs.length with hj | hj
  . have h2 := hr.2 j _ (zpA hj)
    have hl : j < inner.length := by have := hr.1; simp [scalar] at this; omega
    have h3 : (inner.drop (j * 1)).take 1 = [enc xs[j]] := h2; rw [Nat.mul_one, zp1 hl] at h3; have h4 : inner[j] = enc xs[j] := by
     have h5 := congrArg List.head? h3; rw [List.take_succ_cons] at h5; exact Option.some.inj h5
    rw [zpA hl, h4]; simp [encs, zpA hj]
  . have h3 : inner.length = xs.length := by have := hr.1; simp [scalar] at this; omega
    rw [zp3 (by omega), zp3 (by rw [zh6]; omega)]
 rw [<- this]; exact ho
theorem zjI {α : Type} {enc : α -> Value} {d : α} {h1 : ∀ x, (enc x).oneCell' = true} {w : World} {A : Option Addr} {n : Nat} {xs : List α} (h : (scalar enc h1).C w A n xs) : ReadsOf enc d w A n xs := by
 refine ⟨h.1, h.2.1, fun hn => ?_⟩
 obtain ⟨ad, e, hc⟩ := h.2.2 hn; refine ⟨ad, e, fun j hj => ?_⟩
 have hl : j < xs.length := by have := h.1; omega
 obtain ⟨c, _, hK, hcell⟩ := hc j _ (zpA hl); have hK' : c = [enc xs[j]] := hK; subst hK'; have := hcell 0 _ rfl; simpa [scalar, zpB, zpA hl] using this
section
variable {α : Type} {F : Kd α -> Kd α} {sz : Nat} {E : List Nat} {hs : ∀ n, (upto F sz E n).sz = sz} {hE : ∀ n q, q ∈ (upto F sz E n).E -> q ∈ E}
end
theorem R_after {α : Type} {d : Kd α} {e base : Nat} {ok : Nat -> Prop} {W w1 : World} {u v v1 : Value} {xs : List α} (h : d.R e W base (fun k => ok k /\ some k ≠ v.ownBlock) u xs) (hg : W.grownBy w1 v.ownBlock) (hat : v1.ownBlock = v.ownBlock \/ ∃ b, v1.ownBlock = some b /\ W.heap.size <= b) : d.R e w1 base (fun k => ok k /\ some k ≠ v1.ownBlock) u xs := by
 refine R_mono (R_move (R_bound h) (fun k hk => hg.block k hk.2.2.1 hk.1.2)) (fun k hk => ⟨hk.1.1, ?_⟩)
 rcases hat with hat | ⟨b, hb, hle⟩
 . rw [hat]; exact hk.1.2
 . rw [hb]
   intro he; injection he with he; have := hk.2.2.1; omega
section
variable {α β : Type} {d : Kd α} {d' : Kd β} {e e' : Nat} {w w1 W : World} {base b b' : Nat} {ok ok' okv oku : Nat -> Prop} {v u : Value} {xs : List α} {ys : List β}
theorem R_alloc (h : d.R e w base ok v xs) (o : Obj) : d.R e (w.alloc o) base ok v xs := R_below h (zas (zpw _ _) o)
theorem R_drew (h : d.R e w base ok v xs) : d.R e w.drew base ok v xs := R_below h (zaM (zpw _ _))
theorem R_drewN (h : d.R e w base ok v xs) (m : Nat) : d.R e (w.drewN m) base ok v xs := R_below h (zaq (zpw _ _) m)
theorem C_alloc {A : Option Addr} {n : Nat} (h : d.C w A n xs) (o : Obj) : d.C (w.alloc o) A n xs := C_below h (zas (zpw _ _) o)
theorem C_drew {A : Option Addr} {n : Nat} (h : d.C w A n xs) : d.C w.drew A n xs := C_below h (zaM (zpw _ _))
theorem C_drewN {A : Option Addr} {n : Nat} (h : d.C w A n xs) (m : Nat) : d.C (w.drewN m) A n xs := C_below h (zaq (zpw _ _) m)
theorem C_nil (d : Kd α) (w : World) : d.C w none ([] : List α).length [] := ⟨rfl, by simp, fun h => absurd h (Nat.lt_irrefl 0)⟩
theorem R_reads' {A : Option Addr} {n c : Nat} (h : d.R e w base ok (.slice A n c) xs) : n = xs.length /\ n <= c /\ d.C w A xs.length xs := by
 obtain ⟨A', c', he, hl, hr⟩ := R_reads h; injection he with h1 h2 h3; subst h1; exact ⟨h2, by omega, hr⟩
theorem R_lt (h : d.R e w base ok v xs) : ∀ k, v.ownBlock = some k -> k < w.heap.size := by
 obtain ⟨inner, ho⟩ := R_own h; exact zgt ho
theorem R_base (h : d.R e w base ok v xs) : ∀ k, v.ownBlock = some k -> base <= k := by
 obtain ⟨inner, ho⟩ := R_own h; exact zcy ho
theorem R_form (h : d.R e w base ok v xs) (hp : 0 < xs.length) : ∃ g cap, v = .slice (some ⟨g, 0, none⟩) xs.length cap /\ base <= g /\ g < w.heap.size /\ ∃ cells, w.heap[g]? = some (.cells cells e (0, 0)) := by
 obtain ⟨inner, ho⟩ := R_own h; obtain ⟨g, cap, he, hb, hl⟩ := ho.form hp; obtain ⟨cells, hc⟩ := zen ho g (by rw [he]; simp [Value.ownBlock])
 exact ⟨g, cap, he, hb, hl, cells, hc⟩
end
section
variable {w W : World} {A : Option Addr} {n : Nat}
theorem at_string {xs : List ByteArray} (h : Kd.string.C w A n xs) (i : Int) (h0 : 0 <= i) (h1 : i < n) : ∃ ad, A = some ad /\ w.cell? (ad.add i.toNat) = some (.string (rdOf ByteArray.empty xs i)) :=
 ReadsOf.at_ (zjI (enc := Value.string) (d := ByteArray.empty) (h1 := fun _ => rfl) h) i h0 h1
variable {α : Type} {enc : α -> Value} {h1 : ∀ x, (enc x).oneCell' = true} {e base g cap : Nat} {ok : Nat -> Prop} {xs : List α}
theorem zmJ (d : α) (h : (scalar enc h1).R e W base ok (.slice (some ⟨g, 0, none⟩) xs.length cap) xs) (i : Int) (h0 : 0 <= i) (hi : i < xs.length) : W.cell? ⟨g, i.toNat, none⟩ = some (enc (rdOf d xs i)) /\ W.frozen? ⟨g, i.toNat, none⟩ = false := zm2 (own_of_R h) i h0 hi
theorem R_put (h : (scalar enc h1).R e W base ok (.slice (some ⟨g, 0, none⟩) xs.length cap) xs) (i : Int) (x : α) : (scalar enc h1).R e (W.setCell ⟨g, i.toNat, none⟩ (enc x)) base ok (.slice (some ⟨g, 0, none⟩) xs.length cap) (xs.set i.toNat x) /\ W.grownBy (W.setCell ⟨g, i.toNat, none⟩ (enc x)) (some g) := by
 obtain ⟨ho, hg⟩ := zlQ (own_of_R h) i x; exact ⟨R_of_own (by rw [zp4]; exact ho) h.1, hg⟩
end
section
variable {P : Program} {ops : Array Oper} {rest : List Oper} {o : Oper} {a : Act} {Q : Exit -> Act -> World -> Prop}
theorem event_run {W w1 : World} {v : Value} (hgd : o.guard = none) (hrun : (execOp a.eval o).run P W = .ok (.value v) w1) (h : wpList P ops Q rest (a.put o.dst v) w1) : wpList P ops Q (o :: rest) a W := by
 refine wpList_plain hgd fun K hK => ?_
 unfold Oper.wp; rw [hrun]; exact hK _ _ h
variable {α : Type}
theorem R_lit (d : Kd α) {w0 W : World} (base e : Nat) (hgd : o.guard = none) {N : Tmp} (_hd : o.dst = some N) {xs : List α} {inner : List Value} {ok okp : Nat -> Prop}
 (hrun : (execOp a.eval o).run P W = .ok (.value (.slice (some ⟨W.heap.size, 0, none⟩) xs.length xs.length)) (W.alloc (.cells inner.toArray e)))
 (hrep : Reps (d.M W base okp) d.sz xs inner) (hok : ∀ k, okp k -> ok k) (hfresh : ok W.heap.size) (HB : Below base w0 W) (hbase : base <= W.heap.size) (hm : xs.length <= 9223372036854775807)
 (h : ∀ v1 w1, d.R e w1 base ok v1 xs -> Below base w0 w1 -> W.grownBy w1 none -> (∃ b, v1.ownBlock = some b /\ W.heap.size <= b) -> wpList P ops Q rest (a.put o.dst v1) w1) : wpList P ops Q (o :: rest) a W := by
 refine event_run hgd hrun (h _ _ ⟨fun k hk => ?_, inner, ?_, ?_⟩ (HB.alloc hbase _) (zpG W _ none) ⟨W.heap.size, by simp [Value.ownBlock], zpx _⟩)
 . have : W.heap.size = k := by simpa [Value.ownBlock] using hk
   subst this; exact hfresh
 . have h2 := World.ownsRow_lit (base := base) (e := e) (size := d.sz) W inner.toArray xs.length hbase (by simpa [maxLen] using hm) (by simpa using hrep.1)
   simpa using h2
 . refine hrep.imp_ (fun p c hp => d.M_mono (fun k hk => ⟨hok k hk.1, fun he => ?_⟩) (zl0 (d.M_bound hp) (zas (zpw _ _) _)))
   have h3 : k = W.heap.size := by simpa [Value.ownBlock] using he
   have := hk.2.2.1; omega
theorem zle {α : Type} {R : α -> List Value -> Prop} {z : Value} {size : Nat} {z0 : α} (hz : z.cells.size = size) (hs : 0 < size) (h0 : R z0 z.cells.toList) (m : Nat) : Reps R size (List.replicate m z0) (madeCells z.cells (m * size)).toList := by
 refine ⟨by simp [size_madeCells], fun j p hj => ?_⟩
 obtain ⟨hjl, hp⟩ := zpS.1 hj; have hjm : j < m := by simpa using hjl
 have hp' : z0 = p := by simpa using hp
 subst hp'; have hle : j * size + size <= m * size := by rw [<- zpO]; exact zpP _ hjm
 have : ((madeCells z.cells (m * size)).toList.drop (j * size)).take size = z.cells.toList := by
  apply List.ext_getElem
  . simp [size_madeCells, hz]
    omega
  . intro i h1 h2
    have hi : i < size := by rw [zpH, hz] at h2; exact h2
    have hmod : (j * size + i) % size = i := by
     rw [Nat.mul_comm, Nat.mul_add_mod]; exact Nat.mod_eq_of_lt hi
    simp [madeCells, hz, hmod]
    rw [getElem!_pos z.cells i (by omega)]
 rw [this]; exact h0
theorem R_make (d : Kd α) {w0 W : World} (base e : Nat) (hgd : o.guard = none) {N : Tmp} (hd : o.dst = some N) (t : TypeId) (x y : Operand) (ho : o.op = .makeSlice t x y) (n : Int) (hx : a.eval x = .int .i64 n) (hy : a.eval y = .int .i64 n)
 (ht : P.underlying t = some (.slice e)) (z : Value) (bytes : Nat) (hinfo : (P.info? e).map (fun i => (i.zero, i.size, i.bytes)) = some (some z, d.sz, bytes)) (hz : z.cells.size = d.sz) (hs0 : 0 < d.sz) (hb0 : 0 < bytes)
 (z0 : α) {ok okp : Nat -> Prop} (hzero : d.M W base okp z0 z.cells.toList) (hok : ∀ k, okp k -> ok k) (hfresh : ok W.heap.size) (h0 : 0 <= n) (hl : n.toNat * bytes <= 281474976710656) (HB : Below base w0 W) (hbase : base <= W.heap.size)
 (h : ∀ v1 w1, d.R e w1 base ok v1 (List.replicate n.toNat z0) -> Below base w0 w1 -> W.grownBy w1 none -> (∃ b, v1.ownBlock = some b /\ W.heap.size <= b) -> wpList P ops Q rest (a.put o.dst v1) w1) : wpList P ops Q (o :: rest) a W := by
 obtain ⟨m, rfl⟩ := Int.eq_ofNat_of_zero_le h0; simp only [Int.toNat_natCast] at hl h; obtain ⟨i0, hi, hzz⟩ := zpC.1 hinfo; simp only [Prod.mk.injEq] at hzz; obtain ⟨hz0, hz1, hz2⟩ := hzz; have hm : m <= 281474976710656 := zpD (zpE _ hb0) hl; have hr := run_make (P := P) W t e i0 z ht hi hz0 .i64 .i64 (m : Int) (m : Int) (by omega) (by omega)
  (by
   have h3 : ((i0.bytes * m : Nat) : Int) <= 281474976710656 := by rw [hz2, Nat.mul_comm]; omega
   rwa [Int.natCast_mul] at h3) (by omega)
 simp only [Int.toNat_natCast] at hr; rw [hz1] at hr; refine R_lit d base e hgd hd (xs := List.replicate m z0) (inner := (madeCells z.cells (m * d.sz)).toList) (okp := okp) (ok := ok) ?_ (zle hz hs0 hzero m) hok hfresh HB hbase (by simp; omega) h
 simp [execOp, ho, hx, hy, hr]
end
end Kd
theorem zo9 {w : World} {base n m c size : Nat} {e : TypeId} {A : Option Addr} {xs : List Value} (h : w.ownsRow base e size (.slice A n c) n xs) (hm : m <= n) : w.ownsRow base e size (.slice A m c) m (xs.take (m * size)) := by
 obtain ⟨h1, h2⟩ := h; refine ⟨by rw [zpI, h1]; exact zp0 (zpP _ hm), ?_⟩
 rcases h2 with ⟨he, h0⟩ | ⟨g, cap, cur, he, hb, hh, hnc, hcm, hcs, ht⟩
 . injection he with ha _ hc
   subst ha; subst hc; exact .inl ⟨by rw [show m = 0 by omega], by omega⟩
 . injection he with ha _ hc
   subst ha; subst hc; refine .inr ⟨g, c, cur, rfl, hb, hh, by omega, hcm, hcs, ?_⟩
   rw [<- ht, List.take_take, zp0 (zpP _ hm)]
section
variable {P : Program}
theorem zoW (t e : TypeId) (kh : IntKind) {i : TypeInfo} (ht : P.underlying t = some (.slice e)) (hi : P.info? e = some i) (A : Option Addr) (n c : Nat) (j : Int) (h0 : 0 <= j) (hm : j <= n) (hc : n <= c) :
 ∀ W : World, (Instr.slice t (.slice A n c) none (some (.int kh j)) none).run P W = .ok (.slice A j.toNat c) W := by
 intro W; have hel : P.elem t = e := by simp [Program.elem, ht]
 have hu : P.underlying t = some (.slice (P.elem t)) := by rw [hel]; exact ht
 have ha : (A.map fun x => x.add 0) = A := by cases A <;> simp [Addr.add]
 rw [run_slice_h W t A n c hu kh j h0 (by omega), hel]
 simp [sizeOf, typeInfo, hi, sliced, Result.andThen, ha]
end
def QRow (w : World) (base : Nat) (e : TypeId) (size : Nat) (v : Value) (n : Nat) (xs : List Value) : Prop :=
 xs.length = n * size /\
 ((n = 0 /\ ∃ A, v = .slice A 0 0 /\ ∀ a, A = some a -> base <= a.block /\ ∃ cur, w.heap[a.block]? = some (.cells cur e (0, 0))) \/
  ∃ g off cap cur, v = .slice (some ⟨g, off * size, none⟩) n cap /\ base <= g /\ w.heap[g]? = some (.cells cur e (0, 0)) /\ n <= cap /\ off + cap <= maxLen /\ cur.size = (off + cap) * size /\ (cur.toList.drop (off * size)).take (n * size) = xs)
section
variable {w w1 : World} {base n size : Nat} {e : TypeId} {v : Value} {xs : List Value}
theorem zoi (h : w.ownsRow base e size v n xs) : QRow w base e size v n xs := by
 obtain ⟨h1, h2⟩ := h; refine ⟨h1, ?_⟩; rcases h2 with ⟨rfl, h0⟩ | ⟨g, cap, cur, rfl, hb, hh, hnc, hcm, hcs, ht⟩
 . exact .inl ⟨h0, none, rfl, fun a ha => by cases ha⟩
 . exact .inr ⟨g, 0, cap, cur, by rw [Nat.zero_mul], hb, hh, hnc, by rw [Nat.zero_add]; exact hcm, by rw [Nat.zero_add]; exact hcs, by rw [Nat.zero_mul, List.drop_zero]; exact ht⟩
theorem zga {g : Nat} : ∀ (vs : List Value) (o : Nat) {w : World} (k : Nat), k ≠ g -> (w.setCells g o vs).heap[k]? = w.heap[k]?
 | [], _, _, _, _ => rfl
 | v :: r, o, w, k, hk => by
  rw [World.setCells, zga r (o + 1) k hk]; exact zpV w ⟨g, o, none⟩ v k hk
theorem zh9 (g : Nat) : ∀ (vs : List Value) (o : Nat) (w : World), (w.setCells g o vs).os = w.os /\ (w.setCells g o vs).tape = w.tape /\ (w.setCells g o vs).output = w.output /\ (w.setCells g o vs).heap.size = w.heap.size
 | [], _, _ => ⟨rfl, rfl, rfl, rfl⟩
 | v :: r, o, w => by
  obtain ⟨h1, h2, h3, h4⟩ := zh9 g r (o + 1) (w.setCell ⟨g, o, none⟩ v); rw [World.setCells]; exact ⟨h1, h2, h3, by rw [h4]; simp [World.setCell]⟩
theorem zhQ {g : Nat} {e : TypeId} : ∀ (vs : List Value) (o : Nat) (w : World) (cur : Array Value), w.heap[g]? = some (.cells cur e (0, 0)) -> o + vs.length <= cur.size ->
 ∃ cur', (w.setCells g o vs).heap[g]? = some (.cells cur' e (0, 0)) /\ cur'.size = cur.size /\ cur'.toList = cur.toList.take o ++ vs ++ cur.toList.drop (o + vs.length)
 | [], o, w, cur, h, _ => ⟨cur, h, rfl, by simp⟩
 | v :: r, o, w, cur, h, hl => by
  have h2 := zbT h o v; simp only [List.length_cons] at hl; obtain ⟨cur', h3, h4, h5⟩ := zhQ r (o + 1) (w.setCell ⟨g, o, none⟩ v) _ h2 (by simp; omega)
  refine ⟨cur', h3, by rw [h4]; simp, ?_⟩
  rw [h5, Array.toList_setIfInBounds]; have ho : o < cur.toList.length := by rw [zpH]; omega
  rw [List.take_set, List.drop_set_of_lt (by omega)]
  simp only [List.length_cons]; rw [show o + 1 + r.length = o + (r.length + 1) by omega]
  congr 1
  rw [zpZ ho, List.set_append_right _ _ (by rw [zpI]; omega)]
  have ho' : o < cur.size := by omega
  simp [zp0 (Nat.le_of_lt ho')]
end
section
variable {P : Program}
end
namespace Kd
theorem zjX {α : Type} {R : α -> List Value -> Prop} {size m : Nat} {ps : List α} {cs : List Value} (h : Reps R size ps cs) (hm : m <= ps.length) : Reps R size (ps.take m) (cs.take (m * size)) := by
 refine ⟨by rw [zpI, zpI, h.1, zp0 hm, zp0 (zpP _ hm)], fun j p hj => ?_⟩
 rw [zpT] at hj; split at hj
 . rename_i hjm
   have := h.2 j p hj; have hle : j * size + size <= m * size := by rw [<- zpO]; exact zpP _ hjm
   rw [List.drop_take, List.take_take, zp0 (by omega)]
   exact this
 . cases hj
theorem R_take {α : Type} {d : Kd α} {e m n c : Nat} {w : World} {base : Nat} {ok : Nat -> Prop} {A : Option Addr} {xs : List α} (h : d.R e w base ok (.slice A n c) xs) (hm : m <= xs.length) : d.R e w base ok (.slice A m c) (xs.take m) := by
 obtain ⟨h0, inner, ho, hr⟩ := h; have hn : n = xs.length := by
  obtain ⟨A', c', he⟩ := zox ho; injection he
 subst hn; have hb : ∀ x y : Nat, (Value.slice A x c).ownBlock = (Value.slice A y c).ownBlock := by
  intro x y; cases A <;> rfl
 refine ⟨fun k hk => h0 k (by rw [hb _ m]; exact hk), inner.take (m * d.sz), ?_, ?_⟩
 . rw [zpI, zp0 hm]
   exact zo9 ho hm
 . rw [hb m xs.length]
   exact zjX hr hm
def Q {α : Type} (d : Kd α) (e : Nat) (w : World) (base : Nat) (ok : Nat -> Prop) (v : Value) (xs : List α) : Prop :=
 (∀ k, v.ownBlock = some k -> ok k) /\ ∃ inner, QRow w base e d.sz v xs.length inner /\ Reps (d.M w base (fun k => ok k /\ some k ≠ v.ownBlock)) d.sz xs inner
section
variable {α : Type} {d : Kd α} {e : Nat} {w w1 W : World} {base : Nat} {ok ok' : Nat -> Prop} {v : Value} {xs : List α}
theorem zms (h : d.R e w base ok v xs) : d.Q e w base ok v xs := by
 obtain ⟨h0, inner, ho, hr⟩ := h; exact ⟨h0, inner, zoi ho, hr⟩
theorem Q_nil (d : Kd α) (e : Nat) (w : World) (base : Nat) (ok : Nat -> Prop) : d.Q e w base ok (.slice none 0 0) [] := zms (R_nil d e w base ok)
end
section
variable {P : Program} {ops : Array Oper} {rest : List Oper} {o : Oper} {a : Act} {Q' : Exit -> Act -> World -> Prop} {Kc : Act -> World -> Prop} {α : Type}
end
section
variable {α : Type} {d : Kd α} {e e' : Nat} {w w1 W : World} {base : Nat} {ok : Nat -> Prop} {u v : Value} {xs : List α}
theorem R_typed (h : d.R e w base ok v xs) : ∀ k, v.ownBlock = some k -> ∃ cells, w.heap[k]? = some (.cells cells e (0, 0)) := by
 obtain ⟨inner, ho⟩ := R_own h; exact fun k hk => zen ho k hk
theorem fresh' (hlt : ∀ k, u.ownBlock = some k -> k < W.heap.size) : ∀ k, W.heap.size <= k -> some k ≠ u.ownBlock := fun k hk he => by have := hlt k he.symm; omega
end
end Kd
theorem zee {α : Type} (a seg : List α) (o : Nat) (h : o + seg.length <= a.length) (q : Nat) :
 (a.take o ++ seg ++ a.drop (o + seg.length))[q]? = if q < o then a[q]? else if q < o + seg.length then seg[q - o]? else a[q]? := by
 have hl : (a.take o).length = o := by rw [zpI]; omega
 rw [List.append_assoc]; by_cases h1 : q < o
 . rw [if_pos h1, zpN (by omega), zpT, if_pos h1]
 . rw [if_neg h1, List.getElem?_append_right (by omega), hl]
   by_cases h2 : q < o + seg.length
   . rw [if_pos h2, zpN (by omega)]
   . rw [if_neg h2, List.getElem?_append_right (by omega), zpU]
     congr 1
     omega
namespace Kd
section
variable {α : Type} {d : Kd α} {e base g n cap : Nat} {ok okp : Nat -> Prop} {W : World} {xs : List α}
theorem R_elem (h : d.R e W base ok (.slice (some ⟨g, 0, none⟩) n cap) xs) (z : α) (i : Int) (h0 : 0 <= i) (h1 : i < n) :
 ∃ c, c.length = d.sz /\ d.M W base (fun k => ok k /\ k ≠ g) (xs.getD i.toNat z) c /\ (∀ j u, c[j]? = some u -> W.cell? ⟨g, i.toNat * d.sz + j, none⟩ = some u) /\ ∀ j, W.frozen? ⟨g, i.toNat * d.sz + j, none⟩ = false := by
 obtain ⟨hn, hnc, hC⟩ := R_reads' h; obtain ⟨_, inner, ho, hr⟩ := h; have hil : i.toNat < xs.length := by omega
 have hseg : i.toNat * d.sz + d.sz <= inner.length := by rw [hr.1, <- zpO]; exact zpP _ hil
 have hM := hr.2 i.toNat _ (zpA hil); refine ⟨(inner.drop (i.toNat * d.sz)).take d.sz, by rw [zpI, zpR]; omega, ?_, fun j u hu => ?_, fun j => ?_⟩
 . rw [zpB, zpA hil]
   exact d.M_mono (fun k hk => ⟨hk.1, fun he => hk.2 (by rw [he]; simp [Value.ownBlock])⟩) hM
 . rw [zpT] at hu
   split at hu
   . rw [zpU] at hu
     have := ho.cells (g := g) (by simp [Value.ownBlock]) _ u hu
     rwa [zfl] at this
   . cases hu
 . obtain ⟨cells, hc⟩ := zen ho g (by simp [Value.ownBlock])
   exact zak hc _
theorem zit (h : d.R e W base ok (.slice (some ⟨g, 0, none⟩) n cap) xs) (i : Int) (h0 : 0 <= i) (h1 : i < n) {c seg : List Value} {j : Nat} (hcl : c.length = d.sz) (hcc : ∀ j u, c[j]? = some u -> W.cell? ⟨g, i.toNat * d.sz + j, none⟩ = some u)
 (hj : j + seg.length <= d.sz) {x' : α} (hM : d.M W base okp x' (c.take j ++ seg ++ c.drop (j + seg.length))) (hokp : ∀ k, okp k -> ok k /\ k ≠ g) :
 d.R e (W.setCells g (i.toNat * d.sz + j) seg) base ok (.slice (some ⟨g, 0, none⟩) n cap) (xs.set i.toNat x') /\ W.grownBy (W.setCells g (i.toNat * d.sz + j) seg) (some g) := by
 obtain ⟨hn, hnc, _⟩ := R_reads' h; obtain ⟨hok, inner, ho, hr⟩ := h; have hil : i.toNat < xs.length := by omega
 have hseg : i.toNat * d.sz + d.sz <= inner.length := by rw [hr.1, <- zpO]; exact zpP _ hil
 have hin : inner.length = n * d.sz := by rw [hr.1, hn]
 obtain ⟨ho1, ho2⟩ := ho; rcases ho2 with ⟨hv, _⟩ | ⟨g', cap', cur, hv, hb, hh, hnc', hcm, hcs, ht⟩
 . cases hv
 injection hv with ha _ hc; injection ha with ha; injection ha with hg; subst hg; subst hc; have hfit : i.toNat * d.sz + j + seg.length <= cur.size := by
  have : n * d.sz <= cap * d.sz := zpP _ hnc; omega
 obtain ⟨cur', h3, h4, h5⟩ := zhQ seg (i.toNat * d.sz + j) W cur hh hfit; obtain ⟨s1, s2, s3, s4⟩ := zh9 g seg (i.toNat * d.sz + j) W; have hfar : ∀ k, k ≠ g -> (W.setCells g (i.toNat * d.sz + j) seg).heap[k]? = W.heap[k]? := fun k hk => zga seg _ k hk
 -- the element's cells before are what was read
 have hcin : ∀ q, q < d.sz -> c[q]? = inner[i.toNat * d.sz + q]? := by
  intro q hq; have hq' : q < c.length := by omega
  have h6 := hcc q _ (zpA hq'); rw [cell_of_row W g _ cur e (0, 0) hh] at h6; rw [zpA hq', <- h6, <- ht, zpT, if_pos (by rw [<- hn]; omega), Array.getElem?_toList]
 refine ⟨⟨hok, inner.take (i.toNat * d.sz + j) ++ seg ++ inner.drop (i.toNat * d.sz + j + seg.length), ⟨?_, .inr ⟨g, cap, cur', by rw [zp4, hn], hb, h3, by rw [zp4, <- hn]; exact hnc, hcm, by rw [h4, hcs], ?_⟩⟩, ?_⟩,
  ⟨s1, s2, s3, by rw [s4]; exact zpx _, fun k _ hk => hfar k (fun he => hk (by rw [he]))⟩⟩
 . rw [zp4]
   simp only [zpK, zpI, zpR]; rw [hr.1] at hseg |-; omega
 . rw [zp4, <- hn]
   apply zp2
   intro q; rw [zpT, h5]; rw [zee cur.toList seg (i.toNat * d.sz + j) (by rw [zpH]; omega) q, zee inner seg (i.toNat * d.sz + j) (by omega) q]
   have hcur : ∀ q, q < n * d.sz -> cur.toList[q]? = inner[q]? := by
    intro q hq; rw [<- ht, zpT, if_pos (by rw [<- hn]; exact hq)]
   by_cases hq : q < n * d.sz
   . rw [if_pos hq, hcur q hq]
   . rw [if_neg hq, if_neg (by omega), if_neg (by omega), zp3 (by omega)]
 . refine ⟨?_, fun m p hm => ?_⟩
   . rw [zp4]
     simp only [zpK, zpI, zpR]; rw [hr.1] at hseg |-; omega
   . have hml : m < xs.length := by
      have := (zpS.1 hm).1; rwa [zp4] at this
     have hmfit : m * d.sz + d.sz <= inner.length := by rw [hr.1, <- zpO]; exact zpP _ hml
     have hgo : some g = (Value.slice (some ⟨g, 0, none⟩) n cap).ownBlock := by simp [Value.ownBlock]
     by_cases hmi : m = i.toNat
     . subst hmi
       rw [List.getElem?_set_self (by omega)] at hm
       injection hm with hm; subst hm; have hcells : ((inner.take (i.toNat * d.sz + j) ++ seg ++ inner.drop (i.toNat * d.sz + j + seg.length)).drop (i.toNat * d.sz)).take d.sz = c.take j ++ seg ++ c.drop (j + seg.length) := by
        apply zp2
        intro q; rw [zpT, zpU, zee inner seg _ (by omega), zee c seg j (by omega) q]
        by_cases hq : q < d.sz
        . rw [if_pos hq, hcin q hq]
          by_cases hq1 : q < j
          . rw [if_pos (by omega), if_pos hq1]
          . rw [if_neg (by omega), if_neg hq1]
            by_cases hq2 : q < j + seg.length
            . rw [if_pos (by omega), if_pos hq2]
              congr 1
              omega
            . rw [if_neg (by omega), if_neg hq2]
        . rw [if_neg hq, if_neg (by omega), if_neg (by omega), zp3 (by omega)]
       rw [hcells]; refine d.M_mono (fun k hk => ?_) (d.M_move (w1 := W.setCells g (i.toNat * d.sz + j) seg) (fun k hk => hfar k (hokp k hk).2) hM)
       exact ⟨(hokp k hk).1, fun he => (hokp k hk).2 (by rw [<- hgo] at he; injection he)⟩
     . rw [List.getElem?_set_ne (by omega)] at hm
       have hold := hr.2 m p hm; have hcells : ((inner.take (i.toNat * d.sz + j) ++ seg ++ inner.drop (i.toNat * d.sz + j + seg.length)).drop (m * d.sz)).take d.sz = (inner.drop (m * d.sz)).take d.sz := by
        apply zp2
        intro q; rw [zpT, zpT, zpU, zpU, zee inner seg _ (by omega)]
        by_cases hq : q < d.sz
        . rw [if_pos hq, if_pos hq]
          rcases Nat.lt_or_gt_of_ne hmi with hlt | hgt
          . have : m * d.sz + d.sz <= i.toNat * d.sz := by rw [<- zpO]; exact zpP _ hlt
            rw [if_pos (by omega)]
          . have : i.toNat * d.sz + d.sz <= m * d.sz := by rw [<- zpO]; exact zpP _ hgt
            rw [if_neg (by omega), if_neg (by omega)]
        . rw [if_neg hq, if_neg hq]
       rw [hcells]; refine d.M_move (fun k hk => hfar k (fun he => hk.2 (by rw [he]; exact hgo))) hold
end
section
variable {α : Type} {F : Kd α -> Kd α} {sz : Nat} {E : List Nat} {hs : ∀ n, (upto F sz E n).sz = sz} {hE : ∀ n q, q ∈ (upto F sz E n).E -> q ∈ E}
end
theorem zim {α : Type} {R : α -> List Value -> Prop} {size : Nat} {ps qs : List α} {cs ds : List Value} (h : Reps R size ps cs) (h' : Reps R size qs ds) : Reps R size (ps ++ qs) (cs ++ ds) := by
 refine ⟨by rw [zpK, zpK, h.1, h'.1, Nat.add_mul], fun j p hj => ?_⟩
 rcases zpM j ps.length with hlt | hge
 . rw [zpN hlt] at hj
   have hle : j * size + size <= cs.length := by rw [h.1, <- zpO]; exact zpP _ hlt
   rw [List.drop_append_of_le_length (by omega), zpQ (by rw [zpR]; omega)]
   exact h.2 j p hj
 . rw [List.getElem?_append_right hge] at hj
   have h2 := h'.2 (j - ps.length) p hj; have hle : ps.length * size <= j * size := zpP _ hge; rw [List.drop_append, List.drop_eq_nil_of_le (by rw [h.1]; exact hle), List.nil_append, h.1, <- Nat.sub_mul]
   exact h2
section
variable {P : Program} {ops : Array Oper} {rest : List Oper} {o : Oper} {a : Act} {Q : Exit -> Act -> World -> Prop} {α : Type}
theorem R_append_rows (d : Kd α) {Rr : α -> List Value -> Prop} {w0 W : World} (base : Nat) (hgd : o.guard = none) (s x : Operand) (t e : TypeId) (z : Value) (bytes : Nat)
 (ho : o.op = .call { callee := .builtin .append, args := #[s, x], argTypes := #[t, t] })
 (ht : P.underlying t = some (.slice e)) (hinfo : (P.info? e).map (fun i => (i.zero, i.size, i.bytes)) = some (some z, d.sz, bytes)) (hz : z.cells.size = d.sz) (hs0 : 0 < d.sz) (hb0 : 0 < bytes)
 (v : Value) (xs ys : List α) (A : Option Addr) (m c : Nat) (ok okp : Nat -> Prop) (hs : a.eval s = v) (hx : a.eval x = .slice A m c)
 (HO : d.R e W base ok v xs) (HR : ReadsRow Rr d.sz W A m ys) (hKM : ∀ x cs, Rr x cs -> d.M W base okp x cs) (hokp : ∀ k, okp k -> ok k /\ some k ≠ v.ownBlock) (hfresh : ∀ k, W.heap.size <= k -> ok k)
 (HB : Below base w0 W) (hbase : base <= W.heap.size) (hl : (xs.length + m) * bytes <= 140737488355328)
 (h : ∀ v1 w1, d.R e w1 base ok v1 (xs ++ ys) -> Below base w0 w1 -> W.grownBy w1 v.ownBlock -> (v1.ownBlock = v.ownBlock \/ ∃ b, v1.ownBlock = some b /\ W.heap.size <= b) -> wpList P ops Q rest (a.put o.dst v1) w1) :
 wpList P ops Q (o :: rest) a W := by
 obtain ⟨i0, hi, hzz⟩ := zpC.1 hinfo; simp only [Prod.mk.injEq] at hzz; obtain ⟨hz0, hz1, hz2⟩ := hzz; have hm : ys.length = m := HR.1; have hlen : xs.length + m <= 140737488355328 := zpD (zpE _ hb0) hl; obtain ⟨hok, inner, hown, hr⟩ := HO; have hrun : ∃ v1 w1, (Builtin.append_ #[t, t] o.type #[v, .slice A m c]).run P W = .ok v1 w1 /\ d.R e w1 base ok v1 (xs ++ ys) /\ W.grownBy w1 v.ownBlock /\ (v1.ownBlock = v.ownBlock \/ ∃ b, v1.ownBlock = some b /\ W.heap.size <= b) := by
  rcases A with _ | ad
  . have h0 : m = 0 := by
     rcases Nat.eq_zero_or_pos m with h0 | h0
     . exact h0
     . obtain ⟨ad, h, _⟩ := HR.2.2 h0
       cases h
    subst h0; obtain rfl : ys = [] := zpz hm; refine ⟨v, W, ?_, by rw [List.append_nil]; exact ⟨hok, inner, hown, hr⟩, World.grownBy.refl W _, .inl rfl⟩
    rcases hown.2 with ⟨rfl, hn⟩ | ⟨g, cap, cur, rfl, _, _, hnc, _⟩
    . simp [Builtin.append_, run_underlying ht, sizeOf, typeInfo, hi, Builtin.lenOf, Builtin.firstCells]
    . simp [Builtin.append_, run_underlying ht, sizeOf, typeInfo, hi, Builtin.lenOf, Builtin.firstCells, hnc, storeCells]
  . obtain ⟨news, hnr, hnc⟩ := ReadsRow.inner_ HR
    have hnM : Reps (d.M W base okp) d.sz ys news := hnr.imp_ (fun p c hp => hKM p c hp)
    have hone : ∀ u ∈ news, u.oneCell' = true := by
     intro u hu; obtain ⟨q, hq, rfl⟩ := List.mem_iff_getElem.1 hu; have hql : q / d.sz < ys.length := by
      rw [Nat.div_lt_iff_lt_mul hs0]; rw [<- hnM.1]; exact hq
     have hc := hnM.2 (q / d.sz) _ (zpA hql); refine d.K_one (d.K_of_M hc) _ ?_; rw [List.mem_iff_getElem?]; refine ⟨q % d.sz, ?_⟩; rw [zpT, if_pos (Nat.mod_lt _ hs0), zpU, Nat.mul_comm, Nat.div_add_mod, zpA hq]
    obtain ⟨v1, w1, hrun, h2, hg, _, hat⟩ := run_append_own_at (P := P) W base t o.type e i0 z d.sz bytes ht hi hz0 hz1 hz2 hz hs0 v xs.length inner hown ad m c news (by rw [hnM.1, hm]) hnc hone (by simp only [maxLen]; omega) hl hbase
    have hat' : v1.ownBlock = v.ownBlock \/ ∃ b, v1.ownBlock = some b /\ W.heap.size <= b := by
     rcases hat with hat | hat
     . exact .inl hat
     . exact .inr ⟨_, hat, zpx _⟩
    have hne : ∀ k, some k ≠ v.ownBlock -> k < W.heap.size -> some k ≠ v1.ownBlock := by
     intro k hk hlt; rcases hat' with hat | ⟨b, hb, hle⟩
     . rw [hat]; exact hk
     . rw [hb]
       intro he; injection he with he; omega
    have step : ∀ {q : α} {c : List Value} {o : Nat -> Prop}, d.M W base o q c -> (∀ k, o k -> ok k /\ some k ≠ v.ownBlock) -> d.M w1 base (fun k => ok k /\ some k ≠ v1.ownBlock) q c := by
     intro q c o hq ho; have h1 := d.M_move (w1 := w1) (fun k hk => hg.block k hk.2.2.1 (ho k hk.1).2) (d.M_bound hq)
     exact d.M_mono (fun k hk => ⟨(ho k hk.1).1, hne k (ho k hk.1).2 hk.2.2.1⟩) h1
    refine ⟨v1, w1, hrun, ⟨fun k hk => ?_, inner ++ news, by rw [zpK, hm]; exact h2, zim (hr.imp_ (fun _ _ hq => step hq (fun _ hk => hk))) (hnM.imp_ (fun _ _ hq => step hq hokp))⟩, hg, hat'⟩
    rcases hat' with hat | ⟨b, hb, hle⟩
    . exact hok k (hat ▸ hk)
    . rw [hb] at hk
      injection hk with hk; exact hfresh k (by omega)
 obtain ⟨v1, w1, hr1, h1, hg, hat⟩ := hrun; refine wpList_plain hgd fun K hK => ?_
 unfold Oper.wp execOp; simp only [ho, resolve, invoke, builtin, Sem.run_bind, Sem.run_pure, Result.andThen_ok, zpW, zpX, zpY, hs, hx, hr1]; exact hK _ _ (h v1 w1 h1 (HB.grown hg hbase (zcy hown)) hg hat)
end
end Kd
theorem znI {P : Program} {w : World} {g o : Nat} {e : TypeId} {cur : Array Value} (t : TypeId) (u : Value) (seg : List Value) (hh : w.heap[g]? = some (.cells cur e (0, 0))) (hu : u.cells.toList = seg) (ht : (P.info? t).map (·.size) = some seg.length)
 (hfit : o + seg.length <= cur.size) (h1 : ∀ q ∈ seg, q.oneCell' = true) : (Instr.storeAt t (.pointer (some ⟨g, o, none⟩)) u).run P w = .ok () (w.setCells g o seg) := by
 obtain ⟨i, hi, hsz⟩ := zpC.1 ht; have hc : u.cells.size = i.size := by rw [hsz, <- hu, zpH]
 have hst := run_storeCells_cells (P := P) g o seg 0 w (fun j hj => by rw [cell_of_row w g _ cur e (0, 0) hh]; simp; omega) (fun j _ => zak hh _) h1
 simp only [Nat.add_zero] at hst; simp [Instr.storeAt, Instr.sureAddr, storeVar, sizeOf, typeInfo, hi, hc, hu, hst]
theorem gate_ {P : Program} {ops : Array Oper} {rest : List Oper} {o : Oper} {a : Act} {Q : Exit -> Act -> World -> Prop} {W : World} (op : Op) (_ho : o.op = op) (h : wpList P ops Q (o :: rest) a W) : wpList P ops Q (o :: rest) a W := h
namespace Kd
section
variable {P : Program} {ops : Array Oper} {rest : List Oper} {o : Oper} {a : Act} {Q : Exit -> Act -> World -> Prop} {α : Type}
theorem R_store (d : Kd α) {w0 W : World} (base : Nat) (hN : o.dst = none) (hgd : o.guard = none) (t : TypeId) (p x : Operand) (ho : o.op = .store t p x) (e : TypeId) {g n cap o' : Nat} (i : Int) (j : Nat) (xs : List α) (x' : α) (u : Value) (seg c : List Value) (ok okp : Nat -> Prop)
 (haddr : a.eval p = .pointer (some ⟨g, o', none⟩)) (hoff : o' = i.toNat * d.sz + j) (hx : a.eval x = u) (hu : u.cells.toList = seg) (ht : (P.info? t).map (·.size) = some seg.length) (h1 : ∀ q ∈ seg, q.oneCell' = true)
 (HO : d.R e W base ok (.slice (some ⟨g, 0, none⟩) n cap) xs) (h0 : 0 <= i) (hi : i < n) (hcl : c.length = d.sz) (hcc : ∀ j u, c[j]? = some u -> W.cell? ⟨g, i.toNat * d.sz + j, none⟩ = some u)
 (hj : j + seg.length <= d.sz) (hM : d.M W base okp x' (c.take j ++ seg ++ c.drop (j + seg.length))) (hokp : ∀ k, okp k -> ok k /\ k ≠ g) (HB : Below base w0 W)
 (h : ∀ w1, d.R e w1 base ok (.slice (some ⟨g, 0, none⟩) n cap) (xs.set i.toNat x') -> Below base w0 w1 -> W.grownBy w1 (some g) -> wpList P ops Q rest a w1) : wpList P ops Q (o :: rest) a W := by
 subst hoff; obtain ⟨hrow, hg⟩ := zit HO i h0 hi hcl hcc hj hM hokp; have hbg : base <= g := R_base HO g (by simp [Value.ownBlock])
 have hnx : n = xs.length := (R_reads' HO).1; obtain ⟨_, inner, hown, hr⟩ := HO; have hil : i.toNat < n := by omega
 have hB : Below base w0 (W.setCells g (i.toNat * d.sz + j) seg) := HB.trans ⟨hg.os, hg.tape, hg.output, hg.size, fun k hk => by
  have hlt : k < W.heap.size \/ W.heap.size <= k := zpM _ _; rcases hlt with hlt | hge
  . exact hg.block k hlt (fun he => by injection he with he; omega)
  . exact zga seg _ k (by omega)⟩
 refine wpList_plain hgd fun K hK => ?_
 have hrun : (Instr.storeAt t (.pointer (some ⟨g, i.toNat * d.sz + j, none⟩)) u).run P W = .ok () (W.setCells g (i.toNat * d.sz + j) seg) := by
  rcases hown.2 with ⟨hv, _⟩ | ⟨g', cap', cur, hv, hb, hh, hnc, hcm, hcs, _⟩
  . cases hv
  injection hv with ha _ hc; injection ha with ha; injection ha with hg'; subst hg'; subst hc; refine znI t u seg hh hu ht ?_ h1; have h2 : i.toNat * d.sz + d.sz <= n * d.sz := by rw [<- zpO]; exact zpP _ hil
  have h3 : n * d.sz <= cap * d.sz := zpP _ (by omega)
  omega
 unfold Oper.wp execOp; simp only [ho, haddr, hx, Sem.run_bind, Sem.run_pure, Result.andThen_ok, hrun]; show K (a.put o.dst undef) _
 rw [hN]; exact hK a _ (h _ hrow hB hg)
end
section
variable {α : Type} {k : Kd α} {w : World} {A : Option Addr} {xs : List α} {m c : Nat}
theorem C_take (h : k.C w A xs.length xs) (hm : m <= xs.length) : k.C w A (xs.take m).length (xs.take m) := by
 have hl : (xs.take m).length = m := by rw [zpI]; omega
 refine ⟨rfl, by rw [hl]; have := h.2.1; omega, fun hp => ?_⟩
 obtain ⟨ad, e, hc⟩ := h.2.2 (by omega)
 refine ⟨ad, e, fun j p hj => hc j p ?_⟩
 rw [zpT] at hj; split at hj
 . exact hj
 . cases hj
end
end Kd
section
variable {P : Program}
end
theorem zcv {w W : World} (h : Below w.heap.size w W) : w.heap.size <= W.heap.size := h.size
theorem zbL {w W w2 : World} (h : Below w.heap.size w W) (k : Below W.heap.size W w2) : Below w.heap.size w w2 := zac h h.size k
theorem ReadsInt.nil (W : World) (k : IntKind) : ReadsInt W k none ([] : List Int).length [] := ⟨rfl, by simp, fun h => absurd h (Nat.lt_irrefl 0)⟩
theorem zds {w W : World} {g j : Nat} {v : Value} (h : Below w.heap.size w W) (hg : w.heap.size <= g) : Below w.heap.size w (W.setCell ⟨g, j, none⟩ v) := h.setCell hg _
theorem ReadsOf.nil {α : Type} (enc : α -> Value) (d : α) (W : World) : ReadsOf enc d W none ([] : List α).length [] := ⟨rfl, by simp, fun h => absurd h (Nat.lt_irrefl 0)⟩
theorem zav {w : World} {g : Nat} {t : TypeId} {cs cs' : Array Value} (h : w.heap[g]? = some (.cells cs t (0, 0))) (i : Nat) (u : Value) (e : cs.setIfInBounds i u = cs') : (w.setCell ⟨g, i, none⟩ u).heap[g]? = some (.cells cs' t (0, 0)) := e ▸ zbT h i u
theorem zat {base : Nat} {w W : World} (h : Below base w W) : Below base w W.drew := h.drew
namespace Kd
section
variable {α β : Type} {d : Kd α} {d' : Kd β} {e e' base base' n : Nat} {ok ok' : Nat -> Prop} {w W w1 W1 : World} {v u : Value} {xs : List α} {ys : List β} {A : Option Addr} {c : Nat}
end
section
variable {α : Type} {enc : α -> Value} {h1 : ∀ x, (enc x).oneCell' = true} {w W : World} {A : Option Addr} {n g : Nat} {xs : List α}
end
section
variable {α : Type} {d : Kd α} {e base g : Nat} {ok : Nat -> Prop} {w w1 : World} {v : Value} {xs : List α} {o : Obj}
end
end Kd
section
variable {P : Program} {ops : Array Oper} {rest : List Oper} {o : Oper} {a : Act} {Q : Exit -> Act -> World -> Prop}
theorem zhZ {W : World} (hgd : o.guard = none) {N : Tmp} (_hd : o.dst = some N) {cs : Array Value} {t : TypeId}
 (hrun : (execOp a.eval o).run P W = .ok (.value (.pointer (some ⟨W.heap.size, 0, none⟩))) (W.alloc (.cells cs t (0, 0))))
 (h : ∀ g, g = W.heap.size -> ∀ w1, w1.heap[g]? = some (.cells cs t (0, 0)) -> Below W.heap.size W w1 -> wpList P ops Q rest (a.put o.dst (.pointer (some ⟨g, 0, none⟩))) w1) : wpList P ops Q (o :: rest) a W :=
 Kd.event_run hgd hrun (h _ rfl _ (zap W _) (zas (zpw _ _) _))
end
namespace Kd
section
variable {α : Type} {enc : α -> Value} {h1 : ∀ x, (enc x).oneCell' = true} {e base g n cap : Nat} {ok : Nat -> Prop} {W : World} {xs : List α}
theorem R_celln (d : α) (h : (scalar enc h1).R e W base ok (.slice (some ⟨g, 0, none⟩) n cap) xs) (i : Int) (h0 : 0 <= i) (hi : i < n) : W.cell? ⟨g, i.toNat, none⟩ = some (enc (rdOf d xs i)) /\ W.frozen? ⟨g, i.toNat, none⟩ = false := by
 obtain ⟨rfl, _⟩ := R_reads' h; exact zmJ d h i h0 hi
theorem R_putn (h : (scalar enc h1).R e W base ok (.slice (some ⟨g, 0, none⟩) n cap) xs) (i : Int) (x : α) : (scalar enc h1).R e (W.setCell ⟨g, i.toNat, none⟩ (enc x)) base ok (.slice (some ⟨g, 0, none⟩) n cap) (xs.set i.toNat x) := by
 obtain ⟨rfl, _⟩ := R_reads' h; exact (R_put h i x).1
end
end Kd
section
variable {P : Program} {ops : Array Oper} {rest : List Oper} {o : Oper} {a : Act} {Q : Exit -> Act -> World -> Prop}
end
namespace Kd
section
variable {α : Type} {enc : α -> Value} {h1 : ∀ x, (enc x).oneCell' = true} {e base g n cap : Nat} {ok : Nat -> Prop} {W : World} {xs : List α}
end
end Kd
section
variable {P : Program} {ops : Array Oper} {rest : List Oper} {o : Oper} {a : Act} {Q : Exit -> Act -> World -> Prop} {W : World}
theorem zii {N : Tmp} (_hN : o.dst = some N) (h : wpList P ops Q (o :: rest) a W) : wpList P ops Q (o :: rest) a W := h
end
section
variable {P : Program} {ops : Array Oper} {o : Oper} {a : Act} {Q : Exit -> Act -> World -> Prop} {Kc : Act -> World -> Prop}
namespace Kd
variable {α : Type}
theorem R_append_rows_step (d : Kd α) {Rr : α -> List Value -> Prop} {w0 W : World} (base : Nat) (hw : Region.wanted o (yielded ops a.tmps) = true) (s x : Operand) (t e : TypeId) (z : Value) (bytes : Nat)
 (ho : o.op = .call { callee := .builtin .append, args := #[s, x], argTypes := #[t, t] })
 (ht : P.underlying t = some (.slice e)) (hinfo : (P.info? e).map (fun i => (i.zero, i.size, i.bytes)) = some (some z, d.sz, bytes)) (hz : z.cells.size = d.sz) (hs0 : 0 < d.sz) (hb0 : 0 < bytes)
 (v : Value) (xs ys : List α) (A : Option Addr) (m c : Nat) (ok okp : Nat -> Prop) (hs : a.eval s = v) (hx : a.eval x = .slice A m c)
 (HO : d.R e W base ok v xs) (HR : ReadsRow Rr d.sz W A m ys) (hKM : ∀ x cs, Rr x cs -> d.M W base okp x cs) (hokp : ∀ k, okp k -> ok k /\ some k ≠ v.ownBlock) (hfresh : ∀ k, W.heap.size <= k -> ok k)
 (HB : Below base w0 W) (hbase : base <= W.heap.size) (hl : (xs.length + m) * bytes <= 140737488355328)
 (h : ∀ v1 w1, d.R e w1 base ok v1 (xs ++ ys) -> Below base w0 w1 -> W.grownBy w1 v.ownBlock -> (v1.ownBlock = v.ownBlock \/ ∃ b, v1.ownBlock = some b /\ W.heap.size <= b) -> Kc (a.put o.dst v1) w1) :
 if Region.wanted o (yielded ops a.tmps) = true then Oper.wp P o a W Kc Q else Kc (a.put o.dst undef) W := by
 obtain ⟨i0, hi, hzz⟩ := zpC.1 hinfo; simp only [Prod.mk.injEq] at hzz; obtain ⟨hz0, hz1, hz2⟩ := hzz; have hm : ys.length = m := HR.1; have hlen : xs.length + m <= 140737488355328 := zpD (zpE _ hb0) hl; obtain ⟨hok, inner, hown, hr⟩ := HO; have hrun : ∃ v1 w1, (Builtin.append_ #[t, t] o.type #[v, .slice A m c]).run P W = .ok v1 w1 /\ d.R e w1 base ok v1 (xs ++ ys) /\ W.grownBy w1 v.ownBlock /\ (v1.ownBlock = v.ownBlock \/ ∃ b, v1.ownBlock = some b /\ W.heap.size <= b) := by
  rcases A with _ | ad
  . have h0 : m = 0 := by
     rcases Nat.eq_zero_or_pos m with h0 | h0
     . exact h0
     . obtain ⟨ad, h, _⟩ := HR.2.2 h0
       cases h
    subst h0; obtain rfl : ys = [] := zpz hm; refine ⟨v, W, ?_, by rw [List.append_nil]; exact ⟨hok, inner, hown, hr⟩, World.grownBy.refl W _, .inl rfl⟩
    rcases hown.2 with ⟨rfl, hn⟩ | ⟨g, cap, cur, rfl, _, _, hnc, _⟩
    . simp [Builtin.append_, run_underlying ht, sizeOf, typeInfo, hi, Builtin.lenOf, Builtin.firstCells]
    . simp [Builtin.append_, run_underlying ht, sizeOf, typeInfo, hi, Builtin.lenOf, Builtin.firstCells, hnc, storeCells]
  . obtain ⟨news, hnr, hnc⟩ := ReadsRow.inner_ HR
    have hnM : Reps (d.M W base okp) d.sz ys news := hnr.imp_ (fun p c hp => hKM p c hp)
    have hone : ∀ u ∈ news, u.oneCell' = true := by
     intro u hu; obtain ⟨q, hq, rfl⟩ := List.mem_iff_getElem.1 hu; have hql : q / d.sz < ys.length := by
      rw [Nat.div_lt_iff_lt_mul hs0]; rw [<- hnM.1]; exact hq
     have hc := hnM.2 (q / d.sz) _ (zpA hql); refine d.K_one (d.K_of_M hc) _ ?_; rw [List.mem_iff_getElem?]; refine ⟨q % d.sz, ?_⟩; rw [zpT, if_pos (Nat.mod_lt _ hs0), zpU, Nat.mul_comm, Nat.div_add_mod, zpA hq]
    obtain ⟨v1, w1, hrun, h2, hg, _, hat⟩ := run_append_own_at (P := P) W base t o.type e i0 z d.sz bytes ht hi hz0 hz1 hz2 hz hs0 v xs.length inner hown ad m c news (by rw [hnM.1, hm]) hnc hone (by simp only [maxLen]; omega) hl hbase
    have hat' : v1.ownBlock = v.ownBlock \/ ∃ b, v1.ownBlock = some b /\ W.heap.size <= b := by
     rcases hat with hat | hat
     . exact .inl hat
     . exact .inr ⟨_, hat, zpx _⟩
    have hne : ∀ k, some k ≠ v.ownBlock -> k < W.heap.size -> some k ≠ v1.ownBlock := by
     intro k hk hlt; rcases hat' with hat | ⟨b, hb, hle⟩
     . rw [hat]; exact hk
     . rw [hb]
       intro he; injection he with he; omega
    have step : ∀ {q : α} {c : List Value} {o : Nat -> Prop}, d.M W base o q c -> (∀ k, o k -> ok k /\ some k ≠ v.ownBlock) -> d.M w1 base (fun k => ok k /\ some k ≠ v1.ownBlock) q c := by
     intro q c o hq ho; have h1 := d.M_move (w1 := w1) (fun k hk => hg.block k hk.2.2.1 (ho k hk.1).2) (d.M_bound hq)
     exact d.M_mono (fun k hk => ⟨(ho k hk.1).1, hne k (ho k hk.1).2 hk.2.2.1⟩) h1
    refine ⟨v1, w1, hrun, ⟨fun k hk => ?_, inner ++ news, by rw [zpK, hm]; exact h2, zim (hr.imp_ (fun _ _ hq => step hq (fun _ hk => hk))) (hnM.imp_ (fun _ _ hq => step hq hokp))⟩, hg, hat'⟩
    rcases hat' with hat | ⟨b, hb, hle⟩
    . exact hok k (hat ▸ hk)
    . rw [hb] at hk
      injection hk with hk; exact hfresh k (by omega)
 obtain ⟨v1, w1, hr1, h1, hg, hat⟩ := hrun; rw [if_pos hw]; unfold Oper.wp execOp; simp only [ho, resolve, invoke, builtin, Sem.run_bind, Sem.run_pure, Result.andThen_ok, zpW, zpX, zpY, hs, hx, hr1]; exact h v1 w1 h1 (HB.grown hg hbase (zcy hown)) hg hat
end Kd
end
section
variable {P : Program} {tmps : Array Value} {w : World}
end
namespace Kd
section
variable {P : Program} {α : Type}
end
section
variable {P : Program} {ops : Array Oper} {rest : List Oper} {o : Oper} {a : Act} {Q : Exit -> Act -> World -> Prop} {Kc : Act -> World -> Prop} {α : Type}
end
end Kd
end YtdpgdnpddndeoaaGreatDoorW.PrintWords
end
end Go.Proofs
