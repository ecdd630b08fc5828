/-
  What the cards lean on (part V6): contracts of functions, by hand, and plain laws; what is printed by the kit's print for this seat is among them. What is not reached is left out.
-/
import Derived.Shelf.Strings.Prefix
import Derived.Shelf.Strings.Search3
import Derived.Shelf.Strings.Replace
import Derived.Shelf.Slices.Turned
import Derived.Shelf.Slices.CompactS
import Derived.Ground.NamesProg
import Derived.Test.YtdpgdnpddndeoaaGreatDoorProg
import Derived.BigQuiet
import Derived.BigRegion
import Derived.Deep.DeepCutAuto
import Derived.Deep.CutBlock
import Derived.Deep.RegionHeld3
import Derived.Test.YtdpgdnpddndeoaaGreatDoorV5
import Derived.Test.YtdpgdnpddndeoaaGreatDoorV4
set_option maxHeartbeats 16000000
set_option maxRecDepth 100000
set_option linter.unusedSimpArgs false
set_option linter.unusedVariables false
open Go.RowKit.Below renaming refl -> zpw
open Nat renaming le_refl -> zpx, le_trans -> zpD, add_zero -> zqO
open Go.Lib renaming size_eq -> zqc
open List renaming getElem?_eq_getElem -> zpA, getD_eq_getElem?_getD -> zpB, length_map -> zqe, length_append -> zpK, length_singleton -> zpL, map_cons -> zpX, take_succ_eq_append_getElem -> zpZ, mem_cons_self -> zqL, mem_cons_of_mem -> zqM, take_of_length_le -> zqP, getElem?_take_of_lt -> zql, length_filter_le -> zqn, map_append -> zqo, getElem_mem -> zqQ, mem_map -> zqR
open Array renaming getElem?_modify -> zqg, getElem?_toList -> zqi
open Int renaming toNat_natCast -> zqN
open Go.Proofs.Tryz renaming prog -> zp5
open ByteArray renaming empty -> zqa
open Go.Proofs.YtdpgdnpddndeoaaGreatDoorW.PrintWords.Kd renaming C_below -> zqS, string -> zqb, R_reads -> zqq
namespace Go.Proofs
namespace YtdpgdnpddndeoaaGreatDoor.X
structure zcm where
 name : zaa
 after : List zaa
 body : zb5
def zaL (l : List zaa) : Bool := !decide l.Nodup
def zcO (r : zcm) : Bool :=
 may r.name && !r.body.outs.isEmpty && (r.body.ins.all may && r.body.outs.all may && r.after.all may) && r.body.steps.all fun s => may s.out && s.args.all may && mayC s.cmd
def zcH (r : zcm) : Bool :=
 (r.body.steps.all fun s => zbj s.cmd) && ((r.name :: r.body.ins) ++ r.body.outs ++ r.after ++ r.body.steps.flatMap fun s => s.out :: s.args).all may && !r.body.outs.isEmpty
theorem zgY (r : zcm) : zcO r = zcH r := by
 unfold zcO zcH; have hs : (r.body.steps.all fun s => may s.out && s.args.all may && mayC s.cmd) = ((r.body.steps.all fun s => zbj s.cmd) && (r.body.steps.flatMap fun s => s.out :: s.args).all may) := by
  induction r.body.steps with
  | nil => rfl
  | cons s t ih =>
   rw [List.all_cons, List.all_cons, List.flatMap_cons, List.all_append, List.all_cons, ih, zkJ]; cases may s.out <;> cases s.args.all may <;> cases zbj s.cmd <;> simp
 rw [hs]; simp only [List.all_append, List.all_cons]; generalize may r.name = a; generalize r.body.outs.isEmpty = b; generalize r.body.ins.all may = c; generalize r.body.outs.all may = d; generalize r.after.all may = e; generalize (r.body.steps.all fun s => zbj s.cmd) = f
 generalize (r.body.steps.flatMap fun s => s.out :: s.args).all may = g
 cases a <;> cases b <;> cases c <;> cases d <;> cases e <;> cases f <;> cases g <;> rfl
def zcq : List zbg -> List zaa -> Option (List zaa)
 | [], known => some known
 | s :: r, known => if known.contains s.out || s.args.any (fun a => !known.contains a) then none else zcq r (known ++ [s.out])
def zbN (ins : List zaa) : List zbg -> List zaa -> Option (List zaa)
 | [], known => some known
 | s :: r, known => if (ins.contains s.out || known.contains s.out) || s.args.any (fun a => !ins.contains a && !known.contains a) then none else zbN ins r (known ++ [s.out])
theorem zhx (ins : List zaa) : ∀ (L : List zbg) (known : List zaa), zcq L (ins ++ known) = (zbN ins L known).map (ins ++ ·)
 | [], known => rfl
 | s :: r, known => by
  unfold zcq zbN; have hc : ∀ x, (ins ++ known).contains x = (ins.contains x || known.contains x) := fun x => by
   rw [Bool.eq_iff_iff]; simp
  have hany : s.args.any (fun a => !(ins ++ known).contains a) = s.args.any (fun a => !ins.contains a && !known.contains a) := by
   congr 1
   funext a
   rw [hc]; cases ins.contains a <;> cases known.contains a <;> rfl
  rw [hc, hany]; split
  . rfl
  . rw [List.append_assoc]
    exact zhx ins r (known ++ [s.out])
def zcL (r : zcm) : Bool :=
 !(zaL r.body.ins || zaL r.body.outs || zaL r.after || r.after.contains r.name) && !(r.body.outs.any fun o => r.body.ins.contains o) && match zcq r.body.steps r.body.ins with
  | none => false
  | some known => !(r.body.outs.any fun o => !known.contains o)
def zc8 (r : zcm) : Bool :=
 !(zaL r.body.ins || zaL r.body.outs || zaL r.after || r.after.contains r.name) && match zbN r.body.ins r.body.steps [] with
  | none => false
  | some known => !(r.body.outs.any fun o => r.body.ins.contains o || !known.contains o)
theorem zjg (ins known : List zaa) : ∀ outs : List zaa, (!(outs.any fun o => ins.contains o) && !(outs.any fun o => !(ins ++ known).contains o)) = !(outs.any fun o => ins.contains o || !known.contains o)
 | [] => rfl
 | o :: r => by
  have ih := zjg ins known r; have hc : (ins ++ known).contains o = (ins.contains o || known.contains o) := by
   rw [Bool.eq_iff_iff]; simp
  rw [List.any_cons, List.any_cons, List.any_cons, hc]; generalize (r.any fun o => ins.contains o) = u at ih |-
  generalize (r.any fun o => !(ins ++ known).contains o) = v at ih |-
  generalize (r.any fun o => ins.contains o || !known.contains o) = x at ih |-
  generalize ins.contains o = a; generalize known.contains o = b; revert ih
  cases u <;> cases v <;> cases x <;> cases a <;> cases b <;> decide
theorem ziS (r : zcm) : zcL r = zc8 r := by
 unfold zcL zc8; have hw := zhx r.body.ins r.body.steps []; rw [List.append_nil] at hw; rw [hw]; generalize (zaL r.body.ins || zaL r.body.outs || zaL r.after || r.after.contains r.name) = t
 cases hk : zbN r.body.ins r.body.steps [] with
 | none => simp
 | some known =>
  show (!t && !(r.body.outs.any fun o => r.body.ins.contains o) && !(r.body.outs.any fun o => !(r.body.ins ++ known).contains o)) = (!t && !(r.body.outs.any fun o => r.body.ins.contains o || !known.contains o))
  rw [Bool.and_assoc, zjg]
def zc9 (form names : zcm -> Bool) (r : zcm) : Int :=
 if form r = false then 1 else if 8 < r.body.ins.length \/ 4 < r.body.outs.length \/ 8 < r.after.length \/ 12 < r.body.steps.length then 4 else if names r = false then 2 else 0
theorem zmm (r : zcm) : zc9 zcO zcL r = zc9 zcH zc8 r := by
 unfold zc9; rw [zgY, ziS]
def zam (x : zaw) : Cmd := ⟨x.f1, x.f4, x.f2.length, x.f3.map (·.data.toList)⟩
def zab (l : List ByteArray) : List zaa := l.map (·.data.toList)
def zaC (x : zaw) : zbg := ⟨x.f0.data.toList, zam x, zab x.f2⟩
def zao (r : zaj) : zb5 := ⟨zab r.f1, zab r.f2, r.f4.map zaC⟩
def zbu (r : zaj) : zcm := ⟨r.f0.data.toList, zab r.f3, zao r⟩
theorem zaT (l : List ByteArray) : (zab l).length = l.length := by unfold zab; rw [zqe]
theorem zco (l : List ByteArray) (k : Nat) (h : k < l.length) : (zab l)[k]'(by rw [zaT]; exact h) = l[k].data.toList := by unfold zab; rw [List.getElem_map]
theorem zdV (l : List zaa) : zab (l.map mk) = l := by
 unfold zab; rw [List.map_map]; conv => rhs; rw [<- List.map_id l]
 exact List.map_congr_left fun x _ => zbd x
end YtdpgdnpddndeoaaGreatDoor.X
section
open Go.Shelf
def Tryz.lays102_ren : Go.Shelf.Ren := ⟨fun | 102 => 58 | 209 => 78 | 207 => 123 | n => n, fun | 9 => 9 | 4 => 4 | 3 => 3 | n => n, fun | n => n⟩
theorem Tryz.lays102 : Go.Proofs.Lays.n102 zp5 Tryz.lays102_ren := {
 mixed := by kernel_rfl
 f102 := Tryz.func58.trans (congrArg some (by kernel_rfl))
 f207 := Tryz.func123.trans (congrArg some (by kernel_rfl))
 f209 := Tryz.func78.trans (congrArg some (by kernel_rfl))
 t3 := Tryz.underlying3
 a3 := Tryz.isAgg3
 z3 := Tryz.sizeOf3
 v3 := Tryz.zeroValue3
 t4 := Tryz.underlying4
 a4 := Tryz.isAgg4
 z4 := Tryz.sizeOf4
 v4 := Tryz.zeroValue4
 t9 := Tryz.underlying9
 a9 := Tryz.isAgg9
 z9 := Tryz.sizeOf9
 v9 := Tryz.zeroValue9 }
def Tryz.lays144_ren : Go.Shelf.Ren := ⟨fun | 144 => 85 | 143 => 122 | 219 => 154 | 217 => 203 | 225 => 204 | 224 => 205 | 267 => 206 | 266 => 228 | 314 => 229 | n => n, fun | 9 => 9 | 4 => 4 | 3 => 3 | 5 => 5 | 46 => 160 | 146 => 237 | 51 => 191 | n => n, fun | 1 => 0 | n => n⟩
theorem Tryz.lays144 : Go.Proofs.Lays.n144 zp5 Tryz.lays144_ren := {
 mixed := by kernel_rfl
 f143 := Tryz.func122.trans (congrArg some (by kernel_rfl))
 f144 := Tryz.func85.trans (congrArg some (by kernel_rfl))
 f217 := Tryz.func203.trans (congrArg some (by kernel_rfl))
 f219 := Tryz.func154.trans (congrArg some (by kernel_rfl))
 f224 := Tryz.func205.trans (congrArg some (by kernel_rfl))
 f225 := Tryz.func204.trans (congrArg some (by kernel_rfl))
 f266 := Tryz.func228.trans (congrArg some (by kernel_rfl))
 f267 := Tryz.func206.trans (congrArg some (by kernel_rfl))
 f314 := Tryz.func229.trans (congrArg some (by kernel_rfl))
 t3 := Tryz.underlying3
 a3 := Tryz.isAgg3
 z3 := Tryz.sizeOf3
 v3 := Tryz.zeroValue3
 t4 := Tryz.underlying4
 a4 := Tryz.isAgg4
 z4 := Tryz.sizeOf4
 v4 := Tryz.zeroValue4
 t5 := Tryz.underlying5
 a5 := Tryz.isAgg5
 z5 := Tryz.sizeOf5
 v5 := Tryz.zeroValue5
 t9 := Tryz.underlying9
 a9 := Tryz.isAgg9
 z9 := Tryz.sizeOf9
 v9 := Tryz.zeroValue9
 t46 := Tryz.underlying160
 a46 := Tryz.isAgg160
 z46 := Tryz.sizeOf160
 v46 := Tryz.zeroValue160
 t51 := Tryz.underlying191
 a51 := Tryz.isAgg191
 z51 := Tryz.sizeOf191
 v51 := Tryz.zeroValue191
 t146 := Tryz.underlying237
 a146 := Tryz.isAgg237
 z146 := Tryz.sizeOf237
 v146 := Tryz.zeroValue237
 g1 := by kernel_rfl }
def Tryz.lays154_ren : Go.Shelf.Ren := ⟨fun | 154 => 130 | 138 => 121 | 165 => 129 | 143 => 122 | 166 => 124 | 197 => 152 | 169 => 125 | 195 => 151 | 218 => 153 | 240 => 155 | 241 => 158 | 219 => 154 | 260 => 202 | 276 => 207 | 277 => 209 | 217 => 203 | 225 => 204 | 224 => 205 | 267 => 206 | 266 => 228 | 314 => 229 | n => n, fun | 9 => 9 | 3 => 3 | 4 => 4 | 72 => 150 | 0 => 0 | 76 => 153 | 105 => 177 | 21 => 21 | 5 => 5 | 70 => 148 | 20 => 20 | 37 => 90 | 75 => 152 | 127 => 180 | 164 => 214 | 46 => 160 | 119 => 233 | 139 => 236 | 138 => 235 | 146 => 237 | 51 => 191 | 80 => 155 | n => n, fun | 1 => 0 | 3 => 1 | 4 => 2 | n => n⟩
theorem Tryz.lays154 : Go.Proofs.Lays.n154 zp5 Tryz.lays154_ren := {
 mixed := by kernel_rfl
 f138 := Tryz.func121.trans (congrArg some (by kernel_rfl))
 f143 := Tryz.func122.trans (congrArg some (by kernel_rfl))
 f154 := Tryz.func130.trans (congrArg some (by kernel_rfl))
 f165 := Tryz.func129.trans (congrArg some (by kernel_rfl))
 f166 := Tryz.func124.trans (congrArg some (by kernel_rfl))
 f169 := Tryz.func125.trans (congrArg some (by kernel_rfl))
 f195 := Tryz.func151.trans (congrArg some (by kernel_rfl))
 f197 := Tryz.func152.trans (congrArg some (by kernel_rfl))
 f217 := Tryz.func203.trans (congrArg some (by kernel_rfl))
 f218 := Tryz.func153.trans (congrArg some (by kernel_rfl))
 f219 := Tryz.func154.trans (congrArg some (by kernel_rfl))
 f224 := Tryz.func205.trans (congrArg some (by kernel_rfl))
 f225 := Tryz.func204.trans (congrArg some (by kernel_rfl))
 f240 := Tryz.func155.trans (congrArg some (by kernel_rfl))
 f241 := Tryz.func158.trans (congrArg some (by kernel_rfl))
 f260 := Tryz.func202.trans (congrArg some (by kernel_rfl))
 f266 := Tryz.func228.trans (congrArg some (by kernel_rfl))
 f267 := Tryz.func206.trans (congrArg some (by kernel_rfl))
 f276 := Tryz.func207.trans (congrArg some (by kernel_rfl))
 f277 := Tryz.func209.trans (congrArg some (by kernel_rfl))
 f314 := Tryz.func229.trans (congrArg some (by kernel_rfl))
 t0 := Tryz.underlying0
 a0 := Tryz.isAgg0
 z0 := Tryz.sizeOf0
 v0 := Tryz.zeroValue0
 t3 := Tryz.underlying3
 a3 := Tryz.isAgg3
 z3 := Tryz.sizeOf3
 v3 := Tryz.zeroValue3
 t4 := Tryz.underlying4
 a4 := Tryz.isAgg4
 z4 := Tryz.sizeOf4
 v4 := Tryz.zeroValue4
 t5 := Tryz.underlying5
 a5 := Tryz.isAgg5
 z5 := Tryz.sizeOf5
 v5 := Tryz.zeroValue5
 t9 := Tryz.underlying9
 a9 := Tryz.isAgg9
 z9 := Tryz.sizeOf9
 v9 := Tryz.zeroValue9
 t20 := Tryz.underlying20
 a20 := Tryz.isAgg20
 z20 := Tryz.sizeOf20
 v20 := Tryz.zeroValue20
 t21 := Tryz.underlying21
 a21 := Tryz.isAgg21
 z21 := Tryz.sizeOf21
 v21 := Tryz.zeroValue21
 t37 := Tryz.underlying90
 a37 := Tryz.isAgg90
 z37 := Tryz.sizeOf90
 v37 := Tryz.zeroValue90
 t46 := Tryz.underlying160
 a46 := Tryz.isAgg160
 z46 := Tryz.sizeOf160
 v46 := Tryz.zeroValue160
 t51 := Tryz.underlying191
 a51 := Tryz.isAgg191
 z51 := Tryz.sizeOf191
 v51 := Tryz.zeroValue191
 t70 := Tryz.underlying148
 a70 := Tryz.isAgg148
 z70 := Tryz.sizeOf148
 v70 := Tryz.zeroValue148
 t72 := Tryz.underlying150
 a72 := Tryz.isAgg150
 z72 := Tryz.sizeOf150
 v72 := Tryz.zeroValue150
 t75 := Tryz.underlying152
 a75 := Tryz.isAgg152
 z75 := Tryz.sizeOf152
 v75 := Tryz.zeroValue152
 t76 := Tryz.underlying153
 a76 := Tryz.isAgg153
 z76 := Tryz.sizeOf153
 v76 := Tryz.zeroValue153
 t105 := Tryz.underlying177
 a105 := Tryz.isAgg177
 z105 := Tryz.sizeOf177
 v105 := Tryz.zeroValue177
 t119 := Tryz.underlying233
 a119 := Tryz.isAgg233
 z119 := Tryz.sizeOf233
 t127 := Tryz.underlying180
 a127 := Tryz.isAgg180
 z127 := Tryz.sizeOf180
 v127 := Tryz.zeroValue180
 t138 := Tryz.underlying235
 a138 := Tryz.isAgg235
 z138 := Tryz.sizeOf235
 v138 := Tryz.zeroValue235
 t139 := Tryz.underlying236
 a139 := Tryz.isAgg236
 z139 := Tryz.sizeOf236
 v139 := Tryz.zeroValue236
 t146 := Tryz.underlying237
 a146 := Tryz.isAgg237
 z146 := Tryz.sizeOf237
 v146 := Tryz.zeroValue237
 t164 := Tryz.underlying214
 a164 := Tryz.isAgg214
 z164 := Tryz.sizeOf214
 v164 := Tryz.zeroValue214
 g1 := by kernel_rfl
 g3 := by kernel_rfl
 g4 := by kernel_rfl }
def Tryz.lays110_ren : Go.Shelf.Ren := ⟨fun | 110 => 92 | 109 => 64 | n => n, fun | 31 => 22 | 9 => 9 | 4 => 4 | 3 => 3 | 0 => 0 | n => n, fun | n => n⟩
theorem Tryz.lays110 : Go.Proofs.Lays.n110 zp5 Tryz.lays110_ren := {
 mixed := by kernel_rfl
 f109 := Tryz.func64.trans (congrArg some (by kernel_rfl))
 f110 := Tryz.func92.trans (congrArg some (by kernel_rfl))
 t0 := Tryz.underlying0
 a0 := Tryz.isAgg0
 z0 := Tryz.sizeOf0
 v0 := Tryz.zeroValue0
 t3 := Tryz.underlying3
 a3 := Tryz.isAgg3
 z3 := Tryz.sizeOf3
 v3 := Tryz.zeroValue3
 t4 := Tryz.underlying4
 a4 := Tryz.isAgg4
 z4 := Tryz.sizeOf4
 v4 := Tryz.zeroValue4
 t9 := Tryz.underlying9
 a9 := Tryz.isAgg9
 z9 := Tryz.sizeOf9
 v9 := Tryz.zeroValue9
 t31 := Tryz.underlying22
 a31 := Tryz.isAgg22
 z31 := Tryz.sizeOf22
 v31 := Tryz.zeroValue22 }
def Tryz.lays194_ren : Go.Shelf.Ren := ⟨fun | 194 => 94 | n => n, fun | 31 => 22 | 9 => 9 | 3 => 3 | 4 => 4 | 0 => 0 | n => n, fun | n => n⟩
theorem Tryz.lays194 : Go.Proofs.Lays.n194 zp5 Tryz.lays194_ren := {
 mixed := by kernel_rfl
 f194 := Tryz.func94.trans (congrArg some (by kernel_rfl))
 t0 := Tryz.underlying0
 a0 := Tryz.isAgg0
 z0 := Tryz.sizeOf0
 v0 := Tryz.zeroValue0
 t3 := Tryz.underlying3
 a3 := Tryz.isAgg3
 z3 := Tryz.sizeOf3
 v3 := Tryz.zeroValue3
 t4 := Tryz.underlying4
 a4 := Tryz.isAgg4
 z4 := Tryz.sizeOf4
 v4 := Tryz.zeroValue4
 t9 := Tryz.underlying9
 a9 := Tryz.isAgg9
 z9 := Tryz.sizeOf9
 v9 := Tryz.zeroValue9
 t31 := Tryz.underlying22
 a31 := Tryz.isAgg22
 z31 := Tryz.sizeOf22
 v31 := Tryz.zeroValue22 }
end
namespace YtdpgdnpddndeoaaGreatDoor.X
open Go.RowKit Go.Maps YtdpgdnpddndeoaaGreatDoorW.PrintWords YtdpgdnpddndeoaaGreatDoorW.PrintMore YtdpgdnpddndeoaaGreatDoorW.PrintLast
theorem zlx (s : ByteArray) (w : World) (hs : s.size <= 9223372036854775807) :
 Calls zp5 58 #[.string s, .string ⟨#[10]⟩] w fun e w' => e = .returned (.string (mk (zbC s.data.toList))) /\ w = w' := by
 have hcall := Go.Proofs.Any.strings_TrimSuffix Go.Proofs.Tryz.lays102 s (mk [10]) w hs; change Calls zp5 58 _ _ _ at hcall
 rw [zbd, zjw] at hcall; exact hcall.mono fun e w' ⟨he, hw⟩ => ⟨he, hw.symm⟩
def zbo (s : ByteArray) : List ByteArray := (zbA s.data.toList).map mk
theorem znc (b : zaa) : (zbC b).length <= b.length := by
 unfold zbC; split
 . rw [List.length_dropLast]; omega
 . exact zpx _
theorem zeO (s : ByteArray) (w : World) (hG : GOK w) (hs : s.size < 4294967281) :
 Calls zp5 23 #[.string s] w fun e w' => ∃ v, e = .returned v /\ RS w' w.heap.size v (zbo s) /\ Below w.heap.size w w' := by
 by_cases h : s.toList = []
 . have hl : zbo s = [] := by unfold zbo zbA; rw [<- zbh, if_pos h]; rfl
   rw [hl]; clear hl hs hG; go_enter Tryz.func23, Tryz.ntmps23
   go_wp2_with fail; go_ret
   exact ⟨.slice none 0 0, rfl, Kd.R_nil _ _ _ _ _, zpw _ _⟩
 . have d1 : (s.toList == []) = false := by simp [h]
   have hl : zbo s = (zaz 10 (zbC s.data.toList)).map mk := by unfold zbo zbA; rw [<- zbh, if_neg h]
   have hz : (mk (zbC s.data.toList)).size < 4294967281 := by rw [zbb]; have := znc s.data.toList; rw [<- zqc] at this; omega
   have hT := zlx s w (by omega)
   have hS := strings_Split.calls (mk (zbC s.data.toList)) ⟨#[10]⟩ (zbo s) w hG (by rw [strings_Split.one _ 10 hz, zbd, hl])
   have HT := zpt hT; have HS := zpt hS; clear hl hz hs hG hT hS; generalize mk (zbC s.data.toList) = t at HT HS; go_enter Tryz.func23, Tryz.ntmps23
   go_wp2_with (first | (go_at_call 58; refine HT.out.mono ?_; rintro e w' ⟨rfl, rfl⟩) | (go_at_call 57; refine HS.out.mono ?_; rintro e w2 ⟨v, rfl, hR, hb⟩; have HR := zpt hR; have HB := zpt hb; clear hR hb))
   go_ret
   exact ⟨v, rfl, HR.out, HB.out⟩
theorem zoe (l : List zaa) (k : Nat) (h : k < l.length) : zba (l.take (k + 1)) = zba (l.take k) ++ (l[k] ++ [10]) := by
 unfold zba; rw [zpZ h, zqo, List.flatten_append]; simp
theorem zna (l : List zaa) (k : Nat) : (zba (l.take k)).length <= (zba l).length := by
 have : zba l = zba (l.take k) ++ zba (l.drop k) := by
  unfold zba; rw [<- List.flatten_append, <- zqo, List.take_append_drop]
 rw [this, zpK]; omega
theorem zhf (A0 : Option Addr) (c0 : Nat) (l0 : List ByteArray) (w : World) (hr0 : Kd.C zqb w A0 l0.length l0) (hs : (zba (zab l0)).length <= 140737488355328) :
 Calls zp5 79 #[.slice A0 l0.length c0] w fun e w' => e = .returned (.string (mk (zba (zab l0)))) /\ Below w.heap.size w w' := by
 have hlen : l0.length <= 9223372036854775807 := hr0.2.1; obtain ⟨r, hr⟩ : ∃ r, r = mk (zba (zab l0)) := ⟨_, rfl⟩; rw [<- hr]; have HR := zpt hr; have HS : Hid ((zba (zab l0)).length <= 140737488355328) := hs; have HC : Hid (l0 = [] \/ ∃ b o, A0 = some ⟨b, o, none⟩ /\ b < w.heap.size /\ ∀ j, j < l0.length -> w.cell? ⟨b, o + j, none⟩ = some (.string (l0.getD j zqa))) := zaX hr0; clear hs hr hr0; go_enter Tryz.func79, Tryz.ntmps79
 go_wp2_with fail; go_loopg [5, 8] l0.length (fun gg _ s8 wr => ∃ kk : Nat, kk <= l0.length /\ l0.length - kk <= gg /\ s8 = .int .i64 kk /\ Aside0 (Lib.IsBuilder 150 5 w.heap.size w.heap.size (Lib.byteCells (zba ((zab l0).take kk))) wr) /\ Aside0 (Below w.heap.size w wr))
 case atStart =>
  refine ⟨0, Nat.zero_le _, by omega, rfl, ⟨.inl ⟨zpx _, .slice none 0 0, heap_alloc_new w _, zcX _ _ _ _, by simp [Value.ownBlock]⟩⟩, ⟨(zpw _ _).alloc (zpx _) _⟩⟩
 case round =>
  obtain ⟨kk, hkk, hgk, rfl, HB, HW⟩ := hrel; by_cases hlt : kk < l0.length
  . have hltz : (kk : Int) < (l0.length : Int) := by omega
    obtain ⟨y, hy⟩ : ∃ y, y = l0.getD kk zqa := ⟨_, rfl⟩; rcases HC.out with h0 | ⟨b, o, rfl, hb, hcell⟩
    . exfalso; rw [h0] at hlt; simp at hlt
    have hx : wr.cell? ⟨b, o + kk, none⟩ = some (.string y) := by rw [hy]; exact zad HW.out (hcell kk hlt)
    have hk : kk < (zab l0).length := by rw [zaT]; exact hlt
    have hyk : (zab l0)[kk] = y.data.toList := by rw [zco l0 kk hlt, hy]; simp [zpB, zpA hlt]
    have hput : zba ((zab l0).take (kk + 1)) = zba ((zab l0).take kk) ++ (y.data.toList ++ [10]) := by rw [zoe _ kk hk, hyk]
    have hle : (zba ((zab l0).take kk)).length + (y.data.toList ++ [10]).length <= 140737488355328 := by
     have := zna (zab l0) (kk + 1); rw [hput, zpK] at this; exact zpD this HS.out
    have hsz : y.size <= 140737488355328 := by
     have e := zqc y; simp only [zpK] at hle; omega
    clear hcell hb; have HP := zpt hput; have HL : Hid ((zba ((zab l0).take kk)).length + (y.data.toList ++ [10]).length <= 140737488355328) := hle; clear hy hput hle hyk hk; go_wp2_with fail; refine (zir w.heap.size w.heap.size _ _ _ HB.out ?_ HW.out.size).mono ?_
    . have h1 := HL.out
      have e4 := zqc y; simp only [zpK, zpL] at h1; simp only [ByteArray.size_append]; show _ + (y.size + 1) <= _
      omega
    rintro e w2 ⟨rfl, hB2, hb2⟩; go_wp2; go_roundg (l0.length - (kk + 1))
    case measure => omega
    case rel =>
     refine ⟨kk + 1, by omega, by omega, by go_num, ⟨?_⟩, ⟨HW.out.trans hb2⟩⟩
     rw [HP.out]; have e5 : (y ++ (⟨#[10]⟩ : ByteArray)).data.toList = y.data.toList ++ [10] := by rw [data_append]
     rw [<- e5]; exact hB2
  . have hltz : ¬ (kk : Int) < (l0.length : Int) := by omega
    obtain rfl : kk = l0.length := by omega
    have hB := HB.out; rw [zqP (by rw [zaT]; exact zpx _)] at hB
    clear HB; go_wp2_with (go_at_call 125; refine (zhG w.heap.size w.heap.size _ _ hB HW.out.size).mono ?_; rintro e w2 ⟨rfl, hb2⟩)
    go_ret
    exact ⟨by rw [HR.out]; rfl, HW.out.trans hb2⟩
theorem zml (n : Int) (w : World) :
 Calls zp5 54 #[.int .i64 n] w fun e w' => e = .returned (.tuple #[.int .i64 ((zbs n).1 : Nat), .int .i64 ((zbs n).2.1 : Nat), .int .i64 ((zbs n).2.2 : Nat)]) /\ w = w' := by
 have hc : zbs n = if n = 5 then (0, 6, 0) else if n = 6 then (0, 0, 1) else if n = 7 then (1, 1, 1) else if n = 8 then (1, 1, 2) else (1, 1, 0) := rfl
 generalize zbs n = c at hc |-; by_cases h5 : n = 5
 . rw [if_pos h5] at hc
   subst hc; have d5 : (n == 5) = true := by simp [h5]
   clear h5; go_enter Tryz.func54, Tryz.ntmps54
   go_wp2_with fail; go_ret3
   exact ⟨rfl, rfl⟩
 have d5 : (n == 5) = false := by simp [h5]
 rw [if_neg h5] at hc; by_cases h6 : n = 6
 . rw [if_pos h6] at hc
   subst hc; have d6 : (n == 6) = true := by simp [h6]
   clear h5 h6; go_enter Tryz.func54, Tryz.ntmps54
   go_wp2_with fail; go_ret3
   exact ⟨rfl, rfl⟩
 have d6 : (n == 6) = false := by simp [h6]
 rw [if_neg h6] at hc; by_cases h7 : n = 7
 . rw [if_pos h7] at hc
   subst hc; have d7 : (n == 7) = true := by simp [h7]
   clear h5 h6 h7; go_enter Tryz.func54, Tryz.ntmps54
   go_wp2_with fail; go_ret3
   exact ⟨rfl, rfl⟩
 have d7 : (n == 7) = false := by simp [h7]
 rw [if_neg h7] at hc; by_cases h8 : n = 8
 . rw [if_pos h8] at hc
   subst hc; have d8 : (n == 8) = true := by simp [h8]
   clear h5 h6 h7 h8; go_enter Tryz.func54, Tryz.ntmps54
   go_wp2_with fail; go_ret3
   exact ⟨rfl, rfl⟩
 have d8 : (n == 8) = false := by simp [h8]
 rw [if_neg h8] at hc; subst hc; clear h5 h6 h7 h8; go_enter Tryz.func54, Tryz.ntmps54
 go_wp2_with fail; go_ret3
 exact ⟨rfl, rfl⟩
theorem zmX : ∀ args w, (callFunc 55 args).run zp5 w = .ok (.enter 55 args) w := Go.Proofs.enters_of Tryz.func55 (by kernel_rfl) rfl
theorem zmR (w : World) : zd2 55 #[] (fun b => decide (100 < b.size)) w := by
 intro W x _; show Calls zp5 55 #[.string x] W fun e w2 => e = .returned (.bool (decide (100 < x.size))) /\ Below W.heap.size W w2
 by_cases hx : 100 < x.size
 . have hd : decide ((100 : Int) < (x.size : Int)) = true := by simp; omega
   have hF : decide (100 < x.size) = true := by simp [hx]
   rw [hF]; have hz : (100 : Int) < (x.size : Int) := by omega
   clear hF hx; go_enter Tryz.func55, Tryz.ntmps55
   go_wp2_with fail; go_ret
   exact ⟨rfl, zpw _ _⟩
 . have hd : decide ((100 : Int) < (x.size : Int)) = false := by simp; omega
   have hF : decide (100 < x.size) = false := by simp [hx]
   rw [hF]; have hz : ¬ (100 : Int) < (x.size : Int) := by omega
   clear hF hx; go_enter Tryz.func55, Tryz.ntmps55
   go_wp2_with fail; go_ret
   exact ⟨rfl, zpw _ _⟩
theorem znK (l : List ByteArray) : ((l.map (·.data.toList)).any fun b => decide (100 < b.length)) = l.any fun b => decide (100 < b.size) := by
 rw [List.any_map]; congr 1
--MAY
theorem zfx (x : zaw) (B2 : Option Addr) (c2 : Nat) (B3 : Option Addr) (c3 : Nat) (w : World) (h2 : Kd.C zqb w B2 x.f2.length x.f2) (h3 : Kd.C zqb w B3 x.f3.length x.f3) :
 Calls zp5 20 #[.agg #[.string x.f0, .int .i64 x.f1, .slice B2 x.f2.length c2, .slice B3 x.f3.length c3, .int .i64 x.f4]] w fun e w' => e = .returned (.bool (mayC (zam x))) /\ Below w.heap.size w w' := by
 have hl2 : x.f2.length <= 9223372036854775807 := h2.2.1; have hl3 : x.f3.length <= 9223372036854775807 := h3.2.1; have hab := (zpw w.heap.size w).alloc (zpx _) (.cells #[.string x.f0, .int .i64 x.f1, .slice B2 x.f2.length c2, .slice B3 x.f3.length c3, .int .i64 x.f4] 24); have HK := zpt (zap w (.cells #[.string x.f0, .int .i64 x.f1, .slice B2 x.f2.length c2, .slice B3 x.f3.length c3, .int .i64 x.f4] 24)); have H3 := zpt (zqS h3 hab); have HB1 := zpt hab; obtain ⟨T, hT⟩ : ∃ T, T = mayC (zam x) := ⟨_, rfl⟩; rw [<- hT]; have hT2 : T = (!(decide (x.f1 < 1) || decide (9 < x.f1) || decide (x.f2.length < (zbs x.f1).1) || decide ((zbs x.f1).2.1 < x.f2.length) || decide (x.f3.length ≠ (zbs x.f1).2.2) || x.f3.any (fun b => decide (100 < b.size))) &&
  !((x.f1 == 8 && (x.f3.map (·.data.toList)).getD 0 [] == []) || decide (x.f4 < 0) || decide (2000 < x.f4) || (x.f1 != 9 && x.f4 != 0))) := by
  rw [hT, <- znK]; unfold mayC zam; dsimp only; rw [zqe]
 have h8 : x.f1 = 8 -> (zbs x.f1).2.2 = 2 := by intro h; rw [h]; rfl
 have hC : ∀ W, Calls zp5 54 #[.int .i64 x.f1] W fun e w' => e = .returned (.tuple #[.int .i64 ((zbs x.f1).1 : Nat), .int .i64 ((zbs x.f1).2.1 : Nat), .int .i64 ((zbs x.f1).2.2 : Nat)]) /\ W = w' := fun W => zml x.f1 W
 obtain ⟨f0, f1, f2, f3, f4⟩ := x; dsimp only at *; generalize (zbs f1).1 = a at hC hT2; generalize (zbs f1).2.1 = m at hC hT2; generalize (zbs f1).2.2 = k at hC hT2 h8; have HC := zpt hC; have HT := zpt hT2; have H8 := zpt h8; clear h2 h3 hab hT hT2 h8 hC; go_enter Tryz.func20, Tryz.ntmps20
 go_upto_block 0 with (first | (go_at_call 54; refine (HC.out _).mono ?_; rintro e w' ⟨rfl, rfl⟩))
 generalize w.alloc (.cells #[.string f0, .int .i64 f1, .slice B2 f2.length c2, .slice B3 f3.length c3, .int .i64 f4] 24) = w1 at H3 HB1 HK |-; have k1 := bc1 HK.out; have k2 := bc2 HK.out; have k3 := bc3 HK.out; have k4 := bc4 HK.out; have hL := zdM 55 #[] zmX (fun b => decide (100 < b.size)) B3 c3 f3 w1 H3.out (zmR w1)
 obtain ⟨lg, hlg⟩ : ∃ lg, lg = f3.any (fun b => decide (100 < b.size)) := ⟨_, rfl⟩
 have hT3 := HT.out; rw [<- hlg] at hL hT3; have HL := zpt hL; have HU := zpt hT3; clear hlg hL hT3 HT HC; by_cases q1 : f1 < (1 : Int)
 . have d1 : decide (f1 < 1) = true := by simp [q1]
   have HF : Hid (T = false) := by show _ = _; first | (exfalso; omega) | (rw [HU.out]; simp [q1])
   clear HU H8; go_wp2_with (first | (go_at_call 56; refine HL.out.mono ?_; rintro e w2 ⟨rfl, hb2⟩; have k1' := zad hb2 k1; have k3' := zad hb2 k3; have k4' := zad hb2 k4))
   go_ret
   exact ⟨by rw [HF.out]; rfl, by first | exact HB1.out | exact zac HB1.out HB1.out.size hb2⟩
 . have d1 : decide (f1 < 1) = false := by simp [q1]
   by_cases q2 : (9 : Int) < f1
   . have d2 : decide (9 < f1) = true := by simp [q2]
     have HF : Hid (T = false) := by show _ = _; first | (exfalso; omega) | (rw [HU.out]; simp [q1, q2])
     clear HU H8; go_wp2_with (first | (go_at_call 56; refine HL.out.mono ?_; rintro e w2 ⟨rfl, hb2⟩; have k1' := zad hb2 k1; have k3' := zad hb2 k3; have k4' := zad hb2 k4))
     go_ret
     exact ⟨by rw [HF.out]; rfl, by first | exact HB1.out | exact zac HB1.out HB1.out.size hb2⟩
   . have d2 : decide (9 < f1) = false := by simp [q2]
     by_cases q3 : f2.length < a
     . have d3 : decide (f2.length < a) = true := by simp [q3]
       have HF : Hid (T = false) := by show _ = _; first | (exfalso; omega) | (rw [HU.out]; simp [q1, q2, q3])
       clear HU H8; go_wp2_with (first | (go_at_call 56; refine HL.out.mono ?_; rintro e w2 ⟨rfl, hb2⟩; have k1' := zad hb2 k1; have k3' := zad hb2 k3; have k4' := zad hb2 k4))
       go_ret
       exact ⟨by rw [HF.out]; rfl, by first | exact HB1.out | exact zac HB1.out HB1.out.size hb2⟩
     . have d3 : decide (f2.length < a) = false := by simp [q3]
       by_cases q4 : m < f2.length
       . have d4 : decide (m < f2.length) = true := by simp [q4]
         have HF : Hid (T = false) := by show _ = _; first | (exfalso; omega) | (rw [HU.out]; simp [q1, q2, q3, q4])
         clear HU H8; go_wp2_with (first | (go_at_call 56; refine HL.out.mono ?_; rintro e w2 ⟨rfl, hb2⟩; have k1' := zad hb2 k1; have k3' := zad hb2 k3; have k4' := zad hb2 k4))
         go_ret
         exact ⟨by rw [HF.out]; rfl, by first | exact HB1.out | exact zac HB1.out HB1.out.size hb2⟩
       . have d4 : decide (m < f2.length) = false := by simp [q4]
         by_cases q5 : f3.length = k
         . have d5 : ((f3.length : Int) != (k : Int)) = false := by simp [q5]
           have d5' : ((f3.length : Int) == (k : Int)) = true := by simp [q5]
           by_cases q6 : lg = true
           . subst q6
             have HF : Hid (T = false) := by show _ = _; first | (exfalso; omega) | (rw [HU.out]; simp [q1, q2, q3, q4, q5])
             clear HU H8 q5; go_wp2_with (first | (go_at_call 56; refine HL.out.mono ?_; rintro e w2 ⟨rfl, hb2⟩; have k1' := zad hb2 k1; have k3' := zad hb2 k3; have k4' := zad hb2 k4))
             go_ret
             exact ⟨by rw [HF.out]; rfl, by first | exact HB1.out | exact zac HB1.out HB1.out.size hb2⟩
           . have q6 : lg = false := by simpa using q6
             subst q6; by_cases q7 : f1 = 8
             . have d8 : (f1 == 8) = true := by simp [q7]
               have hk2 := H8.out q7; have hlen0 : (0 : Int) < (f3.length : Int) := by omega
               rcases zaX H3.out with h0 | ⟨b, o, rfl, _, hcell⟩
               . exfalso; rw [h0] at hlen0; simp at hlen0
               have p0 := hcell 0 (by omega)
               rw [zqO] at p0; have hsp : (f3.map (·.data.toList)).getD 0 [] = (f3.getD 0 zqa).data.toList := by cases f3 <;> rfl
               have hU := HU.out; rw [hsp] at hU; generalize f3.getD 0 zqa = y at p0 hU; clear HU; have HU := zpt hU; clear hcell hsp hU hk2; by_cases q8 : y.data.toList = []
               . have dy : y.toList = [] := by rw [zbh]; exact q8
                 have dz : (y.toList == []) = true := by simp [dy]
                 have hz : (y.data.toList == []) = true := by simp [q8]
                 have hU := HU.out; rw [hz] at hU; clear HU; have HU := zpt hU; clear hU hz; have HF : Hid (T = false) := by show _ = _; first | (exfalso; omega) | (rw [HU.out]; simp [q1, q2, q3, q4, q5, q7])
                 clear HU H8 q5 q7 q8; go_wp2_with (first | (go_at_call 56; refine HL.out.mono ?_; rintro e w2 ⟨rfl, hb2⟩; have k1' := zad hb2 k1; have k3' := zad hb2 k3; have k4' := zad hb2 k4; have p0' := zad hb2 p0))
                 go_ret
                 exact ⟨by rw [HF.out]; rfl, by first | exact HB1.out | exact zac HB1.out HB1.out.size hb2⟩
               . have dy : ¬ y.toList = [] := by rw [zbh]; exact q8
                 have dz : (y.toList == []) = false := by simp [dy]
                 have hz : (y.data.toList == []) = false := by rw [<- zbh]; exact dz
                 have hU := HU.out; rw [hz] at hU; clear HU; have HU := zpt hU; clear hU hz; by_cases q9 : f4 < (0 : Int)
                 . have d90 : decide (f4 < 0) = true := by simp [q9]
                   have HF : Hid (T = false) := by show _ = _; first | (exfalso; omega) | (rw [HU.out]; simp [q1, q2, q3, q4, q5, q7, q9])
                   clear HU H8 q5 q7 q8; go_wp2_with (first | (go_at_call 56; refine HL.out.mono ?_; rintro e w2 ⟨rfl, hb2⟩; have k1' := zad hb2 k1; have k3' := zad hb2 k3; have k4' := zad hb2 k4; have p0' := zad hb2 p0))
                   go_ret
                   exact ⟨by rw [HF.out]; rfl, by first | exact HB1.out | exact zac HB1.out HB1.out.size hb2⟩
                 . have d90 : decide (f4 < 0) = false := by simp [q9]
                   by_cases qa : (2000 : Int) < f4
                   . have d20 : decide (2000 < f4) = true := by simp [qa]
                     have HF : Hid (T = false) := by show _ = _; first | (exfalso; omega) | (rw [HU.out]; simp [q1, q2, q3, q4, q5, q7, q9, qa])
                     clear HU H8 q5 q7 q8; go_wp2_with (first | (go_at_call 56; refine HL.out.mono ?_; rintro e w2 ⟨rfl, hb2⟩; have k1' := zad hb2 k1; have k3' := zad hb2 k3; have k4' := zad hb2 k4; have p0' := zad hb2 p0))
                     go_ret
                     exact ⟨by rw [HF.out]; rfl, by first | exact HB1.out | exact zac HB1.out HB1.out.size hb2⟩
                   . have d20 : decide (2000 < f4) = false := by simp [qa]
                     by_cases qb : f1 = 9
                     . have d9 : (f1 == 9) = true := by simp [qb]
                       have e9 : (f1 != 9) = false := by simp [qb]
                       have HF : Hid (T = true) := by show _ = _; first | (exfalso; omega) | (rw [HU.out]; simp [q1, q2, q3, q4, q5, q7, q9, qa, qb])
                       clear HU H8 q5 q7 q8 qb; go_wp2_with (first | (go_at_call 56; refine HL.out.mono ?_; rintro e w2 ⟨rfl, hb2⟩; have k1' := zad hb2 k1; have k3' := zad hb2 k3; have k4' := zad hb2 k4; have p0' := zad hb2 p0))
                       go_ret
                       exact ⟨by rw [HF.out]; rfl, by first | exact HB1.out | exact zac HB1.out HB1.out.size hb2⟩
                     . have d9 : (f1 == 9) = false := by simp [qb]
                       have e9 : (f1 != 9) = true := by simp [qb]
                       by_cases qc : f4 = 0
                       . have d0 : (f4 == 0) = true := by simp [qc]
                         have e0 : (f4 != 0) = false := by simp [qc]
                         have HF : Hid (T = true) := by show _ = _; first | (exfalso; omega) | (rw [HU.out]; simp [q1, q2, q3, q4, q5, q7, q9, qa, qb, qc])
                         clear HU H8 q5 q7 q8 qb qc; go_wp2_with (first | (go_at_call 56; refine HL.out.mono ?_; rintro e w2 ⟨rfl, hb2⟩; have k1' := zad hb2 k1; have k3' := zad hb2 k3; have k4' := zad hb2 k4; have p0' := zad hb2 p0))
                         go_ret
                         exact ⟨by rw [HF.out]; rfl, by first | exact HB1.out | exact zac HB1.out HB1.out.size hb2⟩
                       . have d0 : (f4 == 0) = false := by simp [qc]
                         have e0 : (f4 != 0) = true := by simp [qc]
                         have HF : Hid (T = false) := by show _ = _; first | (exfalso; omega) | (rw [HU.out]; simp [q1, q2, q3, q4, q5, q7, q9, qa, qb, qc])
                         clear HU H8 q5 q7 q8 qb qc; go_wp2_with (first | (go_at_call 56; refine HL.out.mono ?_; rintro e w2 ⟨rfl, hb2⟩; have k1' := zad hb2 k1; have k3' := zad hb2 k3; have k4' := zad hb2 k4; have p0' := zad hb2 p0))
                         go_ret
                         exact ⟨by rw [HF.out]; rfl, by first | exact HB1.out | exact zac HB1.out HB1.out.size hb2⟩
             . have d8 : (f1 == 8) = false := by simp [q7]
               by_cases q9 : f4 < (0 : Int)
               . have d90 : decide (f4 < 0) = true := by simp [q9]
                 have HF : Hid (T = false) := by show _ = _; first | (exfalso; omega) | (rw [HU.out]; simp [q1, q2, q3, q4, q5, q7, q9])
                 clear HU H8 q5 q7; go_wp2_with (first | (go_at_call 56; refine HL.out.mono ?_; rintro e w2 ⟨rfl, hb2⟩; have k1' := zad hb2 k1; have k3' := zad hb2 k3; have k4' := zad hb2 k4))
                 go_ret
                 exact ⟨by rw [HF.out]; rfl, by first | exact HB1.out | exact zac HB1.out HB1.out.size hb2⟩
               . have d90 : decide (f4 < 0) = false := by simp [q9]
                 by_cases qa : (2000 : Int) < f4
                 . have d20 : decide (2000 < f4) = true := by simp [qa]
                   have HF : Hid (T = false) := by show _ = _; first | (exfalso; omega) | (rw [HU.out]; simp [q1, q2, q3, q4, q5, q7, q9, qa])
                   clear HU H8 q5 q7; go_wp2_with (first | (go_at_call 56; refine HL.out.mono ?_; rintro e w2 ⟨rfl, hb2⟩; have k1' := zad hb2 k1; have k3' := zad hb2 k3; have k4' := zad hb2 k4))
                   go_ret
                   exact ⟨by rw [HF.out]; rfl, by first | exact HB1.out | exact zac HB1.out HB1.out.size hb2⟩
                 . have d20 : decide (2000 < f4) = false := by simp [qa]
                   by_cases qb : f1 = 9
                   . have d9 : (f1 == 9) = true := by simp [qb]
                     have e9 : (f1 != 9) = false := by simp [qb]
                     have HF : Hid (T = true) := by show _ = _; first | (exfalso; omega) | (rw [HU.out]; simp [q1, q2, q3, q4, q5, q7, q9, qa, qb])
                     clear HU H8 q5 q7 qb; go_wp2_with (first | (go_at_call 56; refine HL.out.mono ?_; rintro e w2 ⟨rfl, hb2⟩; have k1' := zad hb2 k1; have k3' := zad hb2 k3; have k4' := zad hb2 k4))
                     go_ret
                     exact ⟨by rw [HF.out]; rfl, by first | exact HB1.out | exact zac HB1.out HB1.out.size hb2⟩
                   . have d9 : (f1 == 9) = false := by simp [qb]
                     have e9 : (f1 != 9) = true := by simp [qb]
                     by_cases qc : f4 = 0
                     . have d0 : (f4 == 0) = true := by simp [qc]
                       have e0 : (f4 != 0) = false := by simp [qc]
                       have HF : Hid (T = true) := by show _ = _; first | (exfalso; omega) | (rw [HU.out]; simp [q1, q2, q3, q4, q5, q7, q9, qa, qb, qc])
                       clear HU H8 q5 q7 qb qc; go_wp2_with (first | (go_at_call 56; refine HL.out.mono ?_; rintro e w2 ⟨rfl, hb2⟩; have k1' := zad hb2 k1; have k3' := zad hb2 k3; have k4' := zad hb2 k4))
                       go_ret
                       exact ⟨by rw [HF.out]; rfl, by first | exact HB1.out | exact zac HB1.out HB1.out.size hb2⟩
                     . have d0 : (f4 == 0) = false := by simp [qc]
                       have e0 : (f4 != 0) = true := by simp [qc]
                       have HF : Hid (T = false) := by show _ = _; first | (exfalso; omega) | (rw [HU.out]; simp [q1, q2, q3, q4, q5, q7, q9, qa, qb, qc])
                       clear HU H8 q5 q7 qb qc; go_wp2_with (first | (go_at_call 56; refine HL.out.mono ?_; rintro e w2 ⟨rfl, hb2⟩; have k1' := zad hb2 k1; have k3' := zad hb2 k3; have k4' := zad hb2 k4))
                       go_ret
                       exact ⟨by rw [HF.out]; rfl, by first | exact HB1.out | exact zac HB1.out HB1.out.size hb2⟩
         . have d5 : ((f3.length : Int) != (k : Int)) = true := by simp; omega
           have d5' : ((f3.length : Int) == (k : Int)) = false := by simp; omega
           have HF : Hid (T = false) := by show _ = _; first | (exfalso; omega) | (rw [HU.out]; simp [q1, q2, q3, q4, q5])
           clear HU H8 q5; go_wp2_with (first | (go_at_call 56; refine HL.out.mono ?_; rintro e w2 ⟨rfl, hb2⟩; have k1' := zad hb2 k1; have k3' := zad hb2 k3; have k4' := zad hb2 k4))
           go_ret
           exact ⟨by rw [HF.out]; rfl, by first | exact HB1.out | exact zac HB1.out HB1.out.size hb2⟩
end YtdpgdnpddndeoaaGreatDoor.X
namespace YtdpgdnpddndeoaaGreatDoor.X
open Go.RowKit Go.Maps Go.Sort YtdpgdnpddndeoaaGreatDoorW.PrintWords YtdpgdnpddndeoaaGreatDoorW.PrintMore YtdpgdnpddndeoaaGreatDoorW.PrintLast
theorem znd (A : Option Addr) (n c : Nat) (W : World) :
 Calls zp5 81 #[.slice A n c] W fun e W' => e = .returned (.func (.func 127) #[] #[.pointer (some ⟨W.heap.size, 0, none⟩)]) /\ W' = W.alloc (.cells #[.slice A n c] 22) := by
 go_enter Tryz.func81, Tryz.ntmps81
 go_wp2; go_ret
 exact ⟨rfl, rfl⟩
theorem zjM (A : Option Addr) (c : Nat) (l : List ByteArray) (w : World) (hr : Kd.C zqb w A l.length l) (hbytes : l.length * 16 <= 140737488355328) :
 Calls zp5 80 #[.func (.func 127) #[] #[.pointer (some ⟨w.heap.size, 0, none⟩)]] (w.alloc (.cells #[.slice A l.length c] 22)) fun e W' => ∃ v, e = .returned v /\ RS W' w.heap.size v (zae l) /\ Below w.heap.size w W' := by
 have hS0 : StrsAt w.heap.size w (.slice A l.length c) l := by
  rcases zaX hr with h0 | ⟨b, o, rfl, hb, hcell⟩
  . subst h0
    exact .inl ⟨⟨A, c, rfl⟩, rfl⟩
  . refine .inr ⟨b, o, c, rfl, hb, fun j hj => ?_⟩
    have := hcell j hj; rwa [zpB] at this
 have hS := hS0.below ((zpw w.heap.size w).alloc (zpx _) (.cells #[.slice A l.length c] 22)); have hS1 : StrsAt (w.alloc (.cells #[.slice A l.length c] 22)).heap.size (w.alloc (.cells #[.slice A l.length c] 22)) (.slice A l.length c) l := by
  rcases hS with h | ⟨b, o, cc, h1, hb, h2⟩
  . exact .inl h
  . exact .inr ⟨b, o, cc, h1, by simp; omega, h2⟩
 have h := zi2 w.heap.size _ l hbytes (w.alloc (.cells #[.slice A l.length c] 22)) (by simp) ((zah (zap w _) 0).trans rfl) hS1
 exact h.mono fun e W' ⟨v, he, ho, hb⟩ => ⟨v, he, Kd.R_lower ho (by simp), zac ((zpw w.heap.size w).alloc (zpx _) _) (by simp) hb⟩
theorem zeE (l : List ByteArray) : zab (zae l) = (zab l).mergeSort fun x y => decide (x <= y) := zdV _
theorem zpn (s t : ByteArray) (w : World) (hG : GOK w) (hs : s.size < 4294967281) :
 Calls zp5 85 #[.string s, .string t] w fun e w' => e = .returned (.bool (Lib.contains s.data.toList t.data.toList)) /\ w = w' := by
 obtain ⟨m, hm⟩ := hG.maxLen; have hcall := Go.Proofs.Any.strings_Contains Go.Proofs.Tryz.lays144 s t m w hs hm; change Calls zp5 85 _ _ _ at hcall
 exact hcall.mono fun e w' ⟨he, hw⟩ => ⟨he, hw.symm⟩
theorem zmw (s old : ByteArray) (h1 : 1 <= old.size) : Lib.countB s old <= s.size := by
 have h := Lib.countB_mul_le old h1 s.size s (zpx _); have h2 : Lib.countB s old <= Lib.countB s old * old.size := Nat.le_mul_of_pos_right _ h1; omega
theorem zjF : Go.Proofs.Builder.Extra zp5 Go.Proofs.Tryz.lays154_ren := {
 sizeBuilder := by kernel_rfl
 liesBuilder := by kernel_rfl
 t5 := Tryz.underlying5
 a5 := Tryz.isAgg5
 z5 := Tryz.sizeOf5
 v5 := Tryz.zeroValue5
 infoByte := by kernel_rfl
 cellsByte := by kernel_rfl
 sizeByte := by kernel_rfl
 neB5 := by decide }
theorem zjP (s old new : ByteArray) (w : World) (hG : GOK w) (h1 : 1 <= old.size) (hs : s.size <= 16777216) (hn : new.size <= 100) :
 Calls zp5 130 #[.string s, .string old, .string new, .int .i64 (-1)] w fun e w' => e = .returned (.string (mk (Lib.replaceAll s.data.toList old.data.toList new.data.toList))) /\ Below w.heap.size w w' := by
 obtain ⟨m, hm⟩ := hG.maxLen; by_cases he : old = new
 . have hcall := Go.Proofs.Any.strings_Replace_none Go.Proofs.Tryz.lays154 s old new (-1) w (.inl he)
   change Calls zp5 130 _ _ _ at hcall
   refine hcall.mono fun e w' ⟨he1, hw⟩ => ⟨?_, by rw [hw]; exact zpw _ _⟩
   have : Lib.replaceAll s.data.toList old.data.toList new.data.toList = s.data.toList := by
    unfold Lib.replaceAll Lib.replace; rw [if_pos (by simp [he])]
   rw [this, zbY]; exact he1
 . have hne2 : ¬ (old.data.toList == new.data.toList) = true := by
    intro h; exact he (zcn (by simpa using h))
   have hnum : Lib.replaceNum s.data.toList old.data.toList (-1) = Lib.count s.data.toList old.data.toList := by unfold Lib.replaceNum; rw [if_pos (by omega)]
   by_cases hc : Lib.countB s old = 0
   . have hcall := Go.Proofs.Any.strings_Replace_absent Go.Proofs.Tryz.lays154 s old new (-1) m w (by omega) hm h1 he (by decide) hc
     change Calls zp5 130 _ _ _ at hcall
     refine hcall.mono fun e w' ⟨he1, hw⟩ => ⟨?_, by rw [hw]; exact zpw _ _⟩
     have : Lib.replaceAll s.data.toList old.data.toList new.data.toList = s.data.toList := by
      unfold Lib.replaceAll Lib.replace; rw [if_neg (by simpa using hne2), hnum]
      have : Lib.count s.data.toList old.data.toList = 0 := hc; rw [this]; rfl
     rw [this, zbY]; exact he1
   . have hle := zmw s old h1
     have hmul : Lib.countB s old * new.size <= 16777216 * 100 := Nat.mul_le_mul (by omega) hn
     have hcall := Go.Proofs.Any.strings_Replace_some Go.Proofs.Tryz.lays154 zjF s old new (-1) m w (by omega) hm h1 he (by decide) hc (by omega)
     change Calls zp5 130 _ _ _ at hcall
     refine hcall.mono fun e w' ⟨he1, hw⟩ => ⟨?_, hw⟩
     have : Lib.replaceAll s.data.toList old.data.toList new.data.toList = Lib.replaceK old.data.toList new.data.toList (Lib.replaceNum s.data.toList old.data.toList (-1)) s.data.toList := by
      unfold Lib.replaceAll Lib.replace; rw [if_neg (by simpa using hne2)]
     rw [this]; exact he1
theorem zm9 (s old new : ByteArray) (w : World) (hG : GOK w) (h1 : 1 <= old.size) (hs : s.size <= 16777216) (hn : new.size <= 100) :
 Calls zp5 87 #[.string s, .string old, .string new] w fun e w' => e = .returned (.string (mk (Lib.replaceAll s.data.toList old.data.toList new.data.toList))) /\ Below w.heap.size w w' := by
 have hR := zjP s old new w hG h1 hs hn; generalize mk (Lib.replaceAll s.data.toList old.data.toList new.data.toList) = z at hR |-; have HR := zpt hR; clear hR hG h1 hs hn; go_enter Tryz.func87, Tryz.ntmps87
 go_wp2_with (first | (go_at_call 130; refine HR.out.mono ?_; rintro e w2 ⟨rfl, hb2⟩))
 go_ret
 exact ⟨rfl, hb2⟩
theorem zcf {s : Cmd} (h : mayC s = true) : (1 <= s.op /\ s.op <= 9) /\ (s.op ≠ 5 -> s.op ≠ 6 -> s.args = 1) /\ (s.op = 5 -> s.args <= 6) /\ (s.op = 6 -> s.args = 0 /\ s.lits.length = 1) /\ (s.op = 7 -> s.lits.length = 1) /\ (s.op = 8 -> s.lits.length = 2 /\ s.lits.getD 0 [] ≠ []) /\ (0 <= s.n /\ s.n <= 2000) /\ (∀ l ∈ s.lits, l.length <= 100) := by
 obtain ⟨h1, h2, h3⟩ := zop h; unfold mayC at h; rw [Bool.and_eq_true] at h; obtain ⟨g1, g2⟩ := h; simp only [Bool.not_eq_true', Bool.or_eq_false_iff, decide_eq_false_iff_not] at g1 g2; obtain ⟨⟨⟨⟨⟨_, _⟩, g3⟩, g4⟩, g5⟩, g6⟩ := g1; obtain ⟨⟨⟨_, g7⟩, g8⟩, _⟩ := g2; have hc : zbs s.op = if s.op = 5 then (0, 6, 0) else if s.op = 6 then (0, 0, 1) else if s.op = 7 then (1, 1, 1) else if s.op = 8 then (1, 1, 2) else (1, 1, 0) := rfl
 rw [hc] at g3 g4 g5; refine ⟨⟨h1, h2⟩, fun a b => ?_, fun a => ?_, fun a => ?_, fun a => ?_, fun a => ?_, ⟨by omega, by omega⟩, fun l hl => ?_⟩
 . rw [if_neg a, if_neg b] at g3 g4
   split at g3
   . rename_i e; rw [if_pos e] at g4; simp only at g3 g4; omega
   . rename_i e
     rw [if_neg e] at g4; split at g3 <;> rename_i e2
     . rw [if_pos e2] at g4; simp only at g3 g4; omega
     . rw [if_neg e2] at g4; simp only at g3 g4; omega
 . rw [if_pos a] at g4; simp only at g4; omega
 . rw [if_neg (by omega), if_pos a] at g4 g5; simp only at g4 g5; omega
 . rw [if_neg (by omega), if_neg (by omega), if_pos a] at g5; simp only at g5; omega
 . rw [if_neg (by omega), if_neg (by omega), if_neg (by omega), if_pos a] at g5; simp only at g5; exact ⟨by omega, h3 a⟩
 . have := List.any_eq_false.1 g6 l hl
   simpa using this
theorem zhj (b : zaa) : (zbA b).length <= b.length := (zfm b).1
theorem zia : ∀ l : List zaa, (zba l).length = (l.map fun x => x.length + 1).sum
 | [] => rfl
 | x :: l => by
  show ((x ++ [10]) ++ zba l).length = _
  rw [zpK, zia l, zpX, List.sum_cons, zpK]; rfl
theorem ziY : ∀ (l : List zaa) (k : Nat), (∀ x ∈ l, x.length <= k) -> (l.map fun x => x.length + 1).sum <= l.length * (k + 1)
 | [], _, _ => by simp
 | x :: l, k, h => by
  have := ziY l k (fun y hy => h y (zqM _ hy))
  have hx := h x zqL; rw [zpX, List.sum_cons, List.length_cons, Nat.add_mul, Nat.one_mul]; omega
theorem zgX (b : zaa) (l : List zaa) (hl : l.length <= (zbA b).length) (hs : ∀ x ∈ l, x ∈ zbA b) (hb : b.length <= 4194304) : (zba l).length <= 140737488355328 := by
 obtain ⟨h1, h2⟩ := zfm b; rw [zia]; have := ziY l b.length (fun x hx => h2 x (hs x hx))
 have h3 : l.length * (b.length + 1) <= 4194304 * 4194305 := Nat.mul_le_mul (by omega) (by omega)
 omega
theorem zhI : ∀ (l : List zaa) (k : Nat), (∀ x ∈ l, x.length <= k) -> l.flatten.length <= l.length * k
 | [], _, _ => by simp
 | x :: l, k, h => by
  have := zhI l k (fun y hy => h y (zqM _ hy))
  have hx := h x zqL; rw [List.flatten_cons, zpK, List.length_cons, Nat.add_mul, Nat.one_mul]; omega
theorem zgA : ∀ l : List zaa, Lib.join l [] = l.flatten
 | [] => rfl
 | [x] => by simp [Lib.join]
 | x :: y :: l => by
  have := zgA (y :: l); simp [Lib.join] at this |-
  exact this
theorem zoQ (n : Int) : (zaZ n).length <= n.toNat + 1 := by
 unfold zaZ; generalize n.toNat = u; induction u using Nat.strongRecOn with
 | ind u ih =>
  rw [Lib.decDigits]; split
  . simp
  . rename_i h
    have := ih (u / 10) (by omega)
    rw [zpK]; simp only [zpL]; omega
theorem zjN (y : ByteArray) (h : y.size < 4294967281) : ∀ x ∈ zbo y, x.size < 4294967281 := by
 intro x hx; unfold zbo at hx; obtain ⟨z, hz, rfl⟩ := zqR.1 hx; have := (zfm y.data.toList).2 z hz; rw [<- zqc] at this; rw [zbb]; omega
theorem ziZ (q : zaa -> Bool) (l : List ByteArray) : zab (l.filter fun x => q x.data.toList) = (zab l).filter q := by
 unfold zab; rw [List.filter_map]; rfl
theorem zlc {B : Nat} {w w1 : World} {row : Option Nat} (hg : w.grownBy w1 row) (hB : B <= w.heap.size) (hb : ∀ k, row = some k -> B <= k) : Below B w w1 := (zpw B w).grown hg hB hb
abbrev Sm := { x : ByteArray // x.size < 4294967281 }
instance : Inhabited Sm := ⟨⟨zqa, by decide⟩⟩
def zcd (x : Sm) : Value := .string x.1
theorem zoX (l : List ByteArray) (h : ∀ x ∈ l, x.size < 4294967281) : ∃ k : List Sm, k.map (·.1) = l := by
 induction l with
 | nil => exact ⟨[], rfl⟩
 | cons x r ih =>
  obtain ⟨k, hk⟩ := ih (fun y hy => h y (zqM _ hy))
  exact ⟨⟨x, h x zqL⟩ :: k, by rw [zpX, hk]⟩
theorem zoy {w : World} {g n : Nat} {os : Array Obj} {cur : Array Value} {e : TypeId} {fr : Nat × Nat} (d : Array Sm) (hb : w.heap[g]? = some (.cells cur e fr)) :
 (Sort.grow (putRow zcd (Sort.ahead w n) g 0 d) os).heap[g]? = some (.cells (putCells zcd 0 d cur) e fr) := by
 have hg : g < w.heap.size := (Array.getElem?_eq_some_iff.1 hb).1; rw [heap_grow_old _ _ (by simpa using hg)]
 simp [putRow, mapBlock, Sort.ahead, zqg, hb, onCells]
theorem ziv {w : World} {g n : Nat} {os : Array Obj} (d : Array Sm) : w.grownBy (Sort.grow (putRow zcd (Sort.ahead w n) g 0 d) os) (some g) := by
 refine ⟨rfl, rfl, rfl, by simp, fun k hk hne => ?_⟩
 rw [heap_grow_old _ _ (by simpa using hk)]
 have : g ≠ k := fun e => hne (by rw [e])
 simp [putRow, mapBlock, Sort.ahead, zqg, this]
theorem zpg (cur : Array Value) (ts rest : List Sm) (h : ts.length + rest.length <= cur.size) : (putCells zcd 0 (ts ++ rest).toArray cur).toList.take ts.length = ts.map zcd := by
 apply List.ext_getElem?
 intro j; by_cases hj : j < ts.length
 . rw [zql hj, zqi]
   simp [putCells, hj, show j < cur.size by omega, show j < ts.length + rest.length by omega, List.getElem_append_left]
 . rw [List.getElem?_take_eq_none (by omega), List.getElem?_eq_none (by simp; omega)]
theorem zom {w : World} {g : Nat} {cur : Array Value} {e : TypeId} {ss : List Sm} (hb : w.heap[g]? = some (.cells cur e (0, 0))) (ht : cur.toList.take ss.length = ss.map zcd) : Holds zcd w g 0 ss.toArray := by
 intro j hj; have hj' : j < ss.length := by simpa using hj
 refine ⟨?_, by simp [World.frozen?, hb]⟩
 have h1 : (cur.toList.take ss.length)[j]? = (ss.map zcd)[j]? := by rw [ht]
 rw [zql hj'] at h1; simp only [World.cell?, hb, Nat.zero_add]; simp only [Option.isSome_none, Bool.false_eq_true, if_false]; rw [<- zqi, h1]; simp [hj']
theorem zkY (g : Nat) (lb : Array Value) (A : Option Addr) (c : Nat) (w : World) :
 Calls zp5 76 #[.slice A 0 c, .func (.func g) #[] lb] w fun e w' => e = .returned (.int .i64 (-1)) /\ w = w' := by
 go_enter Tryz.func76, Tryz.ntmps76
 go_wp2; go_loopg [5, 8] 0 (fun _ _ s8 wr => s8 = .int .i64 0 /\ wr = w)
 case atStart => exact ⟨rfl, rfl⟩
 case round =>
  obtain ⟨rfl, rfl⟩ := hrel; go_wp2; go_ret
  exact ⟨rfl, rfl⟩
theorem zmD (B base g : Nat) (lb : Array Value) (eg : ∀ args w, (callFunc g args).run zp5 w = .ok (.enter g args) w) (q : ByteArray -> Bool) (v : Value) (l : List ByteArray) (w : World)
 (hown : w.ownsRow base 9 1 v l.length (encs Value.string l)) (hB : B <= base) (hBw : B <= w.heap.size) (hp : ∀ (W : World) (x : ByteArray), Below B w W -> x.size < 4294967281 -> Go.Proofs.FnGives zp5 g lb #[.string x] (.bool (!q x)) W) (hs : ∀ x ∈ l, x.size < 4294967281) :
 Calls zp5 86 #[v, .func (.func g) #[] lb] w fun e w' => ∃ v', e = .returned v' /\ w'.ownsRow base 9 1 v' (l.filter q).length (encs Value.string (l.filter q)) /\ v'.ownBlock = v.ownBlock /\ w.grownBy w' v.ownBlock := by
 obtain ⟨k, rfl⟩ := zoX l hs; have hfm : (k.map (·.1)).filter q = (k.filter fun x : Sm => q x.1).map (·.1) := by rw [List.filter_map]; rfl
 have hem : ∀ j : List Sm, encs Value.string (j.map (·.1)) = j.map zcd := fun j => by unfold encs; rw [List.map_map]; rfl
 rw [hfm]; rw [hem] at hown |-; rw [zqe] at hown |-; have hlen : k.length <= 9223372036854775807 := by
  rcases hown.2 with ⟨_, h0⟩ | ⟨_, cap, cur, _, _, _, h1, h2, _⟩
  . omega
  . simp only [maxLen] at h2; omega
 rcases hown.2 with ⟨rfl, h0⟩ | ⟨gb, cap, cur, rfl, hbase, hb, h1, h2, h3, h4⟩
 . obtain rfl : k = [] := List.eq_nil_of_length_eq_zero h0
   have hI := zkY g lb none 0 w; clear hp hown h0 hs hfm; go_enter Tryz.func86, Tryz.ntmps86
   go_wp2_with fail; refine hI.mono ?_; rintro e w2 ⟨rfl, rfl⟩; clear hI; go_wp2; go_ret
   exact ⟨.slice none 0 0, rfl, zcX _ _ _ _, rfl, World.grownBy.refl _ _⟩
 . have hH : Holds zcd w gb 0 k.toArray := zom hb (by simpa using h4)
   have hcall := Go.Proofs.AnyE.slices_DeleteFunc Go.Proofs.Tryz.laysDel zcd (fun _ => rfl) (fun x => !q x.1) g lb eg ⟨zqa, by decide⟩ Tryz.zeroValue9 gb 0 cap k.toArray w
    (fun W x hb => hp W x.1 (hb.mono hBw) x.2)
    (fun n os dk x _ => hp _ x.1 (zhE (ziv dk) hBw (by omega)) x.2) hH (by simpa using hlen) (by simpa using h1)
   change Calls zp5 86 _ _ _ at hcall
   refine hcall.mono fun e w' ⟨he, n, hw⟩ => ?_
   have hff : (k.filter fun x : Sm => !(!q x.1)) = k.filter fun x : Sm => q x.1 := by congr 1; funext x; rw [Bool.not_not]
   have hf : (k.filter fun x : Sm => q x.1).length <= k.length := zqn _ _
   have hg0 : w' = Sort.grow (putRow zcd (Sort.ahead w n) gb 0 ((k.filter fun x : Sm => q x.1) ++ List.replicate (k.length - (k.filter fun x : Sm => q x.1).length) (⟨zqa, by decide⟩ : Sm)).toArray) #[] := by
    rw [hw]; simp [hff]
   refine ⟨.slice (some ⟨gb, 0, none⟩) (k.filter fun x : Sm => q x.1).length cap, by rw [he]; simp [hff], ?_, rfl, ?_⟩
   . refine ⟨by simp, .inr ⟨gb, cap, _, rfl, hbase, by rw [hg0]; exact zoy _ hb, by simpa using zpD hf h1, h2, by simp [putCells, h3], ?_⟩⟩
     simp only [Nat.mul_one]; exact zpg cur _ _ (by rw [List.length_replicate]; omega)
   . rw [hg0]; exact ziv _
theorem znF : ∀ args w, (callFunc 84 args).run zp5 w = .ok (.enter 84 args) w := Go.Proofs.enters_of Tryz.func84 (by kernel_rfl) rfl
theorem znw (g : Nat) (c3 n : Nat) (b o : Nat) (t : ByteArray) (W : World) (hG : GOK W) (hk : W.cell? ⟨g, 3, none⟩ = some (.slice (some ⟨b, o, none⟩) n c3)) (hn : (0 : Int) < (n : Int)) (hx : W.cell? ⟨b, o, none⟩ = some (.string t)) (x : ByteArray) (hs : x.size < 4294967281) :
 Calls zp5 84 #[.string x, .pointer (some ⟨g, 0, none⟩)] W fun e w' => e = .returned (.bool (!Lib.contains x.data.toList t.data.toList)) /\ W = w' := by
 have hC := zpn x t W hG hs; generalize Lib.contains x.data.toList t.data.toList = q at hC |-; have HC := zpt hC; clear hC hG hs; go_enter Tryz.func84, Tryz.ntmps84
 go_wp2_with (first | (go_at_call 85; refine HC.out.mono ?_; rintro e w2 ⟨rfl, rfl⟩))
 go_ret
 exact ⟨rfl, rfl⟩
def IsOf (r : zaa × Bool) (w : World) (e : Ending) (w' : World) : Prop := e = .returned (.tuple #[.string (mk r.1), .bool r.2]) /\ Below w.heap.size w w'
--OF
theorem zkB (x : zaw) (B2 : Option Addr) (c2 : Nat) (B3 : Option Addr) (c3 : Nat) (A : Option Addr) (c : Nat) (bs : List ByteArray) (w : World) (hG : GOK w) (h3 : Kd.C zqb w B3 x.f3.length x.f3) (hr : Kd.C zqb w A bs.length bs) (hc : bs.length <= c)
 (hm : mayC (zam x) = true) (hn : bs.length = x.f2.length) (hsz : ∀ b ∈ bs, b.size <= 4194304) (hop : x.f1 = 1) :
 Calls zp5 59 #[.agg #[.string x.f0, .int .i64 x.f1, .slice B2 x.f2.length c2, .slice B3 x.f3.length c3, .int .i64 x.f4], .slice A bs.length c] w (IsOf (zaS (zam x) (zab bs)) w) := by
 obtain ⟨fop, f1, f5, f6, f7, f8, fn, fl⟩ := zcf hm; have e1 : (zam x).op = 1 := hop; have e2 : (zam x).args = bs.length := hn.symm; rw [e1] at f1 f5 f6 f7 f8; rw [e2] at f1 f5 f6; have h1 : bs.length = 1 := f1 (by omega) (by omega)
 obtain ⟨y, rfl⟩ : ∃ y, bs = [y] := by
  cases bs with
  | nil => simp at h1
  | cons y r => cases r with
   | nil => exact ⟨y, rfl⟩
   | cons z s => simp at h1
 have hy := hsz y (by simp)
 rcases zaX hr with h0 | ⟨b, o, rfl, hb, hcell⟩
 . cases h0
 have p0 := hcell 0 (by simp)
 rw [zqO] at p0; have p0 : w.cell? ⟨b, o, none⟩ = some (.string y) := p0; have HP := zpt p0; clear hcell p0 h1; have hM : zaS (zam x) (zab [y]) = (y.data.toList, true) := by unfold zaS; rw [e1]; rfl
 rw [hM]; clear hM; obtain ⟨f0, op, l2, l3, f4⟩ := x; dsimp only at *; subst hop; have hab := (zpw w.heap.size w).alloc (zpx _) (.cells #[.string f0, .int .i64 1, .slice B2 l2.length c2, .slice B3 l3.length c3, .int .i64 f4] 24); have HK := zpt (zap w (.cells #[.string f0, .int .i64 1, .slice B2 l2.length c2, .slice B3 l3.length c3, .int .i64 f4] 24)); have HB1 := zpt hab; have HR := zpt (zqS hr hab); have H3 := zpt (zqS h3 hab); have HG := zpt (hG.below hab); clear hab; clear hG h3 hr hm hn hsz fop f1 f5 f6 f7 f8 fn fl e1 e2; go_enter Tryz.func59, Tryz.ntmps59
 go_upto_block 0 with fail; generalize w.alloc (.cells #[.string f0, .int .i64 1, .slice B2 l2.length c2, .slice B3 l3.length c3, .int .i64 f4] 24) = w1 at HB1 HK HR H3 HG |-; have k1 := bc1 HK.out; have k3 := bc3 HK.out; have k4 := bc4 HK.out; have d1 : ((1 : Int) == 1) = true := by decide
 have p1 := zad HB1.out HP.out; have hl : (0 : Int) < (([y] : List ByteArray).length : Int) := by simp
 go_wp2_with fail; go_ret2
 exact ⟨by rw [zbY]; rfl, HB1.out⟩
theorem zo5 (x : zaw) (B2 : Option Addr) (c2 : Nat) (B3 : Option Addr) (c3 : Nat) (A : Option Addr) (c : Nat) (bs : List ByteArray) (w : World) (hG : GOK w) (h3 : Kd.C zqb w B3 x.f3.length x.f3) (hr : Kd.C zqb w A bs.length bs) (hc : bs.length <= c)
 (hm : mayC (zam x) = true) (hn : bs.length = x.f2.length) (hsz : ∀ b ∈ bs, b.size <= 4194304) (hop : x.f1 = 2) :
 Calls zp5 59 #[.agg #[.string x.f0, .int .i64 x.f1, .slice B2 x.f2.length c2, .slice B3 x.f3.length c3, .int .i64 x.f4], .slice A bs.length c] w (IsOf (zaS (zam x) (zab bs)) w) := by
 obtain ⟨fop, f1, f5, f6, f7, f8, fn, fl⟩ := zcf hm; have e1 : (zam x).op = 2 := hop; have e2 : (zam x).args = bs.length := hn.symm; rw [e1] at f1 f5 f6 f7 f8; rw [e2] at f1 f5 f6; have h1 : bs.length = 1 := f1 (by omega) (by omega)
 obtain ⟨y, rfl⟩ : ∃ y, bs = [y] := by
  cases bs with
  | nil => simp at h1
  | cons y r => cases r with
   | nil => exact ⟨y, rfl⟩
   | cons z s => simp at h1
 have hy := hsz y (by simp)
 rcases zaX hr with h0 | ⟨b, o, rfl, hb, hcell⟩
 . cases h0
 have p0 := hcell 0 (by simp)
 rw [zqO] at p0; have p0 : w.cell? ⟨b, o, none⟩ = some (.string y) := p0; have HP := zpt p0; clear hcell p0 h1; have hM : zaS (zam x) (zab [y]) = (y.data.toList, !(y.data.toList == [])) := by unfold zaS; rw [e1]; rfl
 rw [hM]; clear hM; obtain ⟨f0, op, l2, l3, f4⟩ := x; dsimp only at *; subst hop; have hab := (zpw w.heap.size w).alloc (zpx _) (.cells #[.string f0, .int .i64 2, .slice B2 l2.length c2, .slice B3 l3.length c3, .int .i64 f4] 24); have HK := zpt (zap w (.cells #[.string f0, .int .i64 2, .slice B2 l2.length c2, .slice B3 l3.length c3, .int .i64 f4] 24)); have HB1 := zpt hab; have HR := zpt (zqS hr hab); have H3 := zpt (zqS h3 hab); have HG := zpt (hG.below hab); clear hab; clear hG h3 hr hm hn hsz fop f1 f5 f6 f7 f8 fn fl e1 e2; go_enter Tryz.func59, Tryz.ntmps59
 go_upto_block 0 with fail; generalize w.alloc (.cells #[.string f0, .int .i64 2, .slice B2 l2.length c2, .slice B3 l3.length c3, .int .i64 f4] 24) = w1 at HB1 HK HR H3 HG |-; have k1 := bc1 HK.out; have k3 := bc3 HK.out; have k4 := bc4 HK.out; have d1 : ((2 : Int) == 1) = false := by decide
 have d2 : ((2 : Int) == 2) = true := by decide
 have p1 := zad HB1.out HP.out; have hl : (0 : Int) < (([y] : List ByteArray).length : Int) := by simp
 have hq : (y.toList != []) = !(y.data.toList == []) := by rw [zbh]; rfl
 by_cases hy0 : y.toList = []
 . have dy : (y.toList == []) = true := by simp [hy0]
   have dz : (y.toList != []) = false := by simp [hy0]
   have hv : (y.data.toList == []) = true := by rw [<- zbh]; exact dy
   have HV := zpt hv; clear hq hv; go_wp2_with fail; go_quiet (fail)
   go_wp2_with fail; go_ret2
   exact ⟨by rw [zbY, HV.out]; rfl, by first | exact HB1.out | exact zaq HB1.out _⟩
 . have dy : (y.toList == []) = false := by simp [hy0]
   have dz : (y.toList != []) = true := by simp [hy0]
   have hv : (y.data.toList == []) = false := by rw [<- zbh]; exact dy
   have HV := zpt hv; clear hq hv; go_wp2_with fail; go_quiet (fail)
   go_wp2_with fail; go_ret2
   exact ⟨by rw [zbY, HV.out]; rfl, by first | exact HB1.out | exact zaq HB1.out _⟩
theorem zk7 (x : zaw) (B2 : Option Addr) (c2 : Nat) (B3 : Option Addr) (c3 : Nat) (A : Option Addr) (c : Nat) (bs : List ByteArray) (w : World) (hG : GOK w) (h3 : Kd.C zqb w B3 x.f3.length x.f3) (hr : Kd.C zqb w A bs.length bs) (hc : bs.length <= c)
 (hm : mayC (zam x) = true) (hn : bs.length = x.f2.length) (hsz : ∀ b ∈ bs, b.size <= 4194304) (hop : x.f1 = 3) :
 Calls zp5 59 #[.agg #[.string x.f0, .int .i64 x.f1, .slice B2 x.f2.length c2, .slice B3 x.f3.length c3, .int .i64 x.f4], .slice A bs.length c] w (IsOf (zaS (zam x) (zab bs)) w) := by
 obtain ⟨fop, f1, f5, f6, f7, f8, fn, fl⟩ := zcf hm; have e1 : (zam x).op = 3 := hop; have e2 : (zam x).args = bs.length := hn.symm; rw [e1] at f1 f5 f6 f7 f8; rw [e2] at f1 f5 f6; have h1 : bs.length = 1 := f1 (by omega) (by omega)
 obtain ⟨y, rfl⟩ : ∃ y, bs = [y] := by
  cases bs with
  | nil => simp at h1
  | cons y r => cases r with
   | nil => exact ⟨y, rfl⟩
   | cons z s => simp at h1
 have hy := hsz y (by simp)
 rcases zaX hr with h0 | ⟨b, o, rfl, hb, hcell⟩
 . cases h0
 have p0 := hcell 0 (by simp)
 rw [zqO] at p0; have p0 : w.cell? ⟨b, o, none⟩ = some (.string y) := p0; have HP := zpt p0; clear hcell p0 h1; have hM : zaS (zam x) (zab [y]) = (zba ((zbA y.data.toList).mergeSort fun x y => decide (x <= y)), true) := by unfold zaS; rw [e1]; rfl
 rw [hM]; clear hM; obtain ⟨f0, op, l2, l3, f4⟩ := x; dsimp only at *; subst hop; have hab := (zpw w.heap.size w).alloc (zpx _) (.cells #[.string f0, .int .i64 3, .slice B2 l2.length c2, .slice B3 l3.length c3, .int .i64 f4] 24); have HK := zpt (zap w (.cells #[.string f0, .int .i64 3, .slice B2 l2.length c2, .slice B3 l3.length c3, .int .i64 f4] 24)); have HB1 := zpt hab; have HR := zpt (zqS hr hab); have H3 := zpt (zqS h3 hab); have HG := zpt (hG.below hab); clear hab; clear hG h3 hr hm hn hsz fop f1 f5 f6 f7 f8 fn fl e1 e2; go_enter Tryz.func59, Tryz.ntmps59
 go_upto_block 0 with fail; generalize w.alloc (.cells #[.string f0, .int .i64 3, .slice B2 l2.length c2, .slice B3 l3.length c3, .int .i64 f4] 24) = w1 at HB1 HK HR H3 HG |-; have k1 := bc1 HK.out; have k3 := bc3 HK.out; have k4 := bc4 HK.out; have d1 : ((3 : Int) == 1) = false := by decide
 have d2 : ((3 : Int) == 2) = false := by decide
 have d3 : ((3 : Int) == 3) = true := by decide
 have p1 := zad HB1.out HP.out; have hl : (0 : Int) < (([y] : List ByteArray).length : Int) := by simp
 have hLi := zeO y w1 HG.out (by omega)
 have HY := zpt hy; have HLi := zpt hLi; clear hLi hy; go_wp2_with (first
  | (go_at_call 23; refine HLi.out.mono ?_; rintro e w2 ⟨v, rfl, hR, hb2⟩; obtain ⟨A2, n2, rfl, hcap, hC2⟩ := zqq hR; have HC2 := zpt hC2; have HB2 := zpt hb2; clear hcap hR hC2 hb2)
  | (go_at_call 81; refine (znd _ _ _ _).mono ?_; rintro e w3 ⟨rfl, rfl⟩)
  | (go_at_call 80; refine (zjM A2 n2 (zbo y) w2 HC2.out (by have := zhj y.data.toList; rw [<- zqc] at this; have h2 := HY.out; unfold zbo; rw [zqe]; omega)).mono ?_; rintro e w4 ⟨v4, rfl, hR4, hb4⟩; obtain ⟨A4, n4, rfl, hcap4, hC4⟩ := zqq hR4; have HC4 := zpt hC4; have HB4 := zpt hb4; clear hcap4 hR4 hC4 hb4)
  | (go_at_call 79; refine (zhf A4 n4 (zae (zbo y)) w4 HC4.out (by rw [zeE]; unfold zbo; rw [zdV]; exact zgX y.data.toList _ (by rw [List.length_mergeSort]; exact zpx _) (fun x hx => List.mem_mergeSort.1 hx) (by have h2 := HY.out; rw [zqc] at h2; exact h2))).mono ?_; rintro e w5 ⟨rfl, hb5⟩; have HB5 := zpt hb5; clear hb5))
 go_ret2
 refine ⟨by rw [zeE]; unfold zbo; rw [zdV]; rfl, ?_⟩
 exact zac (zac (zac HB1.out HB1.out.size HB2.out) (zpD HB1.out.size HB2.out.size) HB4.out) (zpD (zpD HB1.out.size HB2.out.size) HB4.out.size) HB5.out
theorem zmy (x : zaw) (B2 : Option Addr) (c2 : Nat) (B3 : Option Addr) (c3 : Nat) (A : Option Addr) (c : Nat) (bs : List ByteArray) (w : World) (hG : GOK w) (h3 : Kd.C zqb w B3 x.f3.length x.f3) (hr : Kd.C zqb w A bs.length bs) (hc : bs.length <= c)
 (hm : mayC (zam x) = true) (hn : bs.length = x.f2.length) (hsz : ∀ b ∈ bs, b.size <= 4194304) (hop : x.f1 = 4) :
 Calls zp5 59 #[.agg #[.string x.f0, .int .i64 x.f1, .slice B2 x.f2.length c2, .slice B3 x.f3.length c3, .int .i64 x.f4], .slice A bs.length c] w (IsOf (zaS (zam x) (zab bs)) w) := by
 obtain ⟨fop, f1, f5, f6, f7, f8, fn, fl⟩ := zcf hm; have e1 : (zam x).op = 4 := hop; have e2 : (zam x).args = bs.length := hn.symm; rw [e1] at f1 f5 f6 f7 f8; rw [e2] at f1 f5 f6; have h1 : bs.length = 1 := f1 (by omega) (by omega)
 obtain ⟨y, rfl⟩ : ∃ y, bs = [y] := by
  cases bs with
  | nil => simp at h1
  | cons y r => cases r with
   | nil => exact ⟨y, rfl⟩
   | cons z s => simp at h1
 have hy := hsz y (by simp)
 rcases zaX hr with h0 | ⟨b, o, rfl, hb, hcell⟩
 . cases h0
 have p0 := hcell 0 (by simp)
 rw [zqO] at p0; have p0 : w.cell? ⟨b, o, none⟩ = some (.string y) := p0; have HP := zpt p0; clear hcell p0 h1; have hM : zaS (zam x) (zab [y]) = (zaZ ((zbA y.data.toList).length : Int) ++ [10], true) := by unfold zaS; rw [e1]; rfl
 rw [hM]; clear hM; obtain ⟨f0, op, l2, l3, f4⟩ := x; dsimp only at *; subst hop; have hab := (zpw w.heap.size w).alloc (zpx _) (.cells #[.string f0, .int .i64 4, .slice B2 l2.length c2, .slice B3 l3.length c3, .int .i64 f4] 24); have HK := zpt (zap w (.cells #[.string f0, .int .i64 4, .slice B2 l2.length c2, .slice B3 l3.length c3, .int .i64 f4] 24)); have HB1 := zpt hab; have HR := zpt (zqS hr hab); have H3 := zpt (zqS h3 hab); have HG := zpt (hG.below hab); clear hab; clear hG h3 hr hm hn hsz fop f1 f5 f6 f7 f8 fn fl e1 e2; go_enter Tryz.func59, Tryz.ntmps59
 go_upto_block 0 with fail; generalize w.alloc (.cells #[.string f0, .int .i64 4, .slice B2 l2.length c2, .slice B3 l3.length c3, .int .i64 f4] 24) = w1 at HB1 HK HR H3 HG |-; have k1 := bc1 HK.out; have k3 := bc3 HK.out; have k4 := bc4 HK.out; have d1 : ((4 : Int) == 1) = false := by decide
 have d2 : ((4 : Int) == 2) = false := by decide
 have d3 : ((4 : Int) == 3) = false := by decide
 have d4 : ((4 : Int) == 4) = true := by decide
 have p1 := zad HB1.out HP.out; have hl : (0 : Int) < (([y] : List ByteArray).length : Int) := by simp
 have hLi := zeO y w1 HG.out (by omega)
 have hll : (zbo y).length = (zbA y.data.toList).length := by unfold zbo; rw [zqe]
 have hle : (zbo y).length <= 4194304 := by rw [hll]; have := zhj y.data.toList; rw [<- zqc] at this; omega
 rw [<- hll]; generalize zbo y = ly at hLi hle |-; have hN : ∀ W, GOK W -> Calls zp5 82 #[.int .i64 (ly.length : Int)] W fun e w' => e = .returned (.string (mk (zaZ (ly.length : Int)))) /\ Below W.heap.size W w' := fun W h => zfb (ly.length : Int) (by omega) (by omega) W h
 have hap : mk (zaZ (ly.length : Int) ++ [10]) = mk (zaZ (ly.length : Int)) ++ ⟨#[10]⟩ := (zgG _ [10]).symm; have HLi := zpt hLi; have HN := zpt hN; have HA := zpt hap; have hnz : (mk (zaZ (ly.length : Int))).size <= 100000000 := by
  rw [zbb]; have := zoQ (ly.length : Int); omega
 generalize mk (zaZ (ly.length : Int)) = nv at HN HA hnz; clear hLi hN hap hll hy; go_wp2_with (first
  | (go_at_call 23; refine HLi.out.mono ?_; rintro e w2 ⟨v, rfl, hR, hb2⟩; obtain ⟨A2, n2, rfl, hcap, hC2⟩ := zqq hR; have HB2 := zpt hb2; clear hcap hR hC2 hb2)
  | (go_at_call 82; refine (HN.out _ (HG.out.below HB2.out)).mono ?_; rintro e w4 ⟨rfl, hb4⟩; have HB4 := zpt hb4; clear hb4))
 go_ret2
 exact ⟨by show _ = Ending.returned (.tuple #[.string (mk (zaZ (ly.length : Int) ++ [10])), .bool true]); rw [HA.out]; rfl, zac (zac HB1.out HB1.out.size HB2.out) (zpD HB1.out.size HB2.out.size) HB4.out⟩
theorem zj3 (x : zaw) (B2 : Option Addr) (c2 : Nat) (B3 : Option Addr) (c3 : Nat) (A : Option Addr) (c : Nat) (bs : List ByteArray) (w : World) (hG : GOK w) (h3 : Kd.C zqb w B3 x.f3.length x.f3) (hr : Kd.C zqb w A bs.length bs) (hc : bs.length <= c)
 (hm : mayC (zam x) = true) (hn : bs.length = x.f2.length) (hsz : ∀ b ∈ bs, b.size <= 4194304) (hop : x.f1 = 5) :
 Calls zp5 59 #[.agg #[.string x.f0, .int .i64 x.f1, .slice B2 x.f2.length c2, .slice B3 x.f3.length c3, .int .i64 x.f4], .slice A bs.length c] w (IsOf (zaS (zam x) (zab bs)) w) := by
 obtain ⟨fop, f1, f5, f6, f7, f8, fn, fl⟩ := zcf hm; have e1 : (zam x).op = 5 := hop; have e2 : (zam x).args = bs.length := hn.symm; rw [e1] at f1 f5 f6 f7 f8; rw [e2] at f1 f5 f6; have hM : zaS (zam x) (zab bs) = ((zab bs).flatten, true) := by unfold zaS; rw [e1]; rfl
 rw [hM]; clear hM; have hfl : (zab bs).flatten.length <= 140737488355328 := by
  have := zhI (zab bs) 4194304 (fun b hb => by
   obtain ⟨z, hz, rfl⟩ := zqR.1 hb; rw [<- zqc]; exact hsz z hz)
  rw [zaT] at this; have h6 := f5 rfl; have : bs.length * 4194304 <= 6 * 4194304 := Nat.mul_le_mul h6 (zpx _); omega
 have hJf : strings_Join.f bs ⟨#[]⟩ = some (mk (zab bs).flatten) := by
  unfold strings_Join.f; have e : Lib.join (bs.map (·.data.toList)) (⟨#[]⟩ : ByteArray).data.toList = (zab bs).flatten := zgA _; rw [e, if_pos ⟨by have := f5 rfl; omega, hfl⟩]
 obtain ⟨f0, op, l2, l3, f4⟩ := x; dsimp only at *; subst hop; have hab := (zpw w.heap.size w).alloc (zpx _) (.cells #[.string f0, .int .i64 5, .slice B2 l2.length c2, .slice B3 l3.length c3, .int .i64 f4] 24); have HK := zpt (zap w (.cells #[.string f0, .int .i64 5, .slice B2 l2.length c2, .slice B3 l3.length c3, .int .i64 f4] 24)); have HB1 := zpt hab; have HR := zpt (zqS hr hab); have H3 := zpt (zqS h3 hab); have HG := zpt (hG.below hab); clear hab; have hJ := strings_Join.calls A c bs ⟨#[]⟩ _ _ HG.out HR.out hc hJf; generalize (zab bs).flatten = fl0 at hJ |-; have HJ := zpt hJ; clear hJ hfl hJf; clear hG h3 hr hm hn hsz fop f1 f5 f6 f7 f8 fn fl e1 e2; go_enter Tryz.func59, Tryz.ntmps59
 go_upto_block 0 with fail; generalize w.alloc (.cells #[.string f0, .int .i64 5, .slice B2 l2.length c2, .slice B3 l3.length c3, .int .i64 f4] 24) = w1 at HB1 HK HR H3 HG HJ |-; have k1 := bc1 HK.out; have k3 := bc3 HK.out; have k4 := bc4 HK.out; have d1 : ((5 : Int) == 1) = false := by decide
 have d2 : ((5 : Int) == 2) = false := by decide
 have d3 : ((5 : Int) == 3) = false := by decide
 have d4 : ((5 : Int) == 4) = false := by decide
 have d5 : ((5 : Int) == 5) = true := by decide
 go_wp2_with (first | (go_at_call 83; refine HJ.out.mono ?_; rintro e w2 ⟨rfl, hb2⟩; have HB2 := zpt hb2; clear hb2))
 go_ret2
 exact ⟨rfl, zac HB1.out HB1.out.size HB2.out⟩
theorem znp (x : zaw) (B2 : Option Addr) (c2 : Nat) (B3 : Option Addr) (c3 : Nat) (A : Option Addr) (c : Nat) (bs : List ByteArray) (w : World) (hG : GOK w) (h3 : Kd.C zqb w B3 x.f3.length x.f3) (hr : Kd.C zqb w A bs.length bs) (hc : bs.length <= c)
 (hm : mayC (zam x) = true) (hn : bs.length = x.f2.length) (hsz : ∀ b ∈ bs, b.size <= 4194304) (hop : x.f1 = 6) :
 Calls zp5 59 #[.agg #[.string x.f0, .int .i64 x.f1, .slice B2 x.f2.length c2, .slice B3 x.f3.length c3, .int .i64 x.f4], .slice A bs.length c] w (IsOf (zaS (zam x) (zab bs)) w) := by
 obtain ⟨fop, f1, f5, f6, f7, f8, fn, fl⟩ := zcf hm; have e1 : (zam x).op = 6 := hop; have e2 : (zam x).args = bs.length := hn.symm; rw [e1] at f1 f5 f6 f7 f8; rw [e2] at f1 f5 f6; have hlen3 : 0 < x.f3.length := by have := (f6 rfl).2; unfold zam at this; dsimp only at this; rw [zqe] at this; omega
 rcases zaX h3 with h0 | ⟨b3, o3, hB3, hb3, hcell3⟩
 . exfalso; rw [h0] at hlen3; simp at hlen3
 have q0 := hcell3 0 hlen3; rw [zqO] at q0; have hlit : (zam x).lits.getD 0 [] = (x.f3.getD 0 zqa).data.toList := by unfold zam; dsimp only; cases x.f3 <;> rfl
 have hlz : (x.f3.getD 0 zqa).size <= 100 := by
  have := fl ((zam x).lits.getD 0 []) (by
   have h : 0 < (zam x).lits.length := by unfold zam; dsimp only; rw [zqe]; exact hlen3
   rw [zpB, zpA h]; exact zqQ h)
  rw [hlit, <- zqc] at this; exact this
 subst hB3; have hM : zaS (zam x) (zab bs) = ((x.f3.getD 0 zqa).data.toList, true) := by unfold zaS; rw [e1, hlit]; rfl
 rw [hM]; clear hM hcell3 hlit; obtain ⟨f0, op, l2, l3, f4⟩ := x; dsimp only at *; subst hop; have hab := (zpw w.heap.size w).alloc (zpx _) (.cells #[.string f0, .int .i64 6, .slice B2 l2.length c2, .slice (some ⟨b3, o3, none⟩) l3.length c3, .int .i64 f4] 24); have HK := zpt (zap w (.cells #[.string f0, .int .i64 6, .slice B2 l2.length c2, .slice (some ⟨b3, o3, none⟩) l3.length c3, .int .i64 f4] 24)); have HB1 := zpt hab; have HR := zpt (zqS hr hab); have H3 := zpt (zqS h3 hab); have HG := zpt (hG.below hab); clear hab; generalize l3.getD 0 zqa = t at q0 hlz |-; have HQ := zpt q0; have hl3 : (0 : Int) < (l3.length : Int) := by omega
 clear q0 hlen3; clear hG h3 hr hm hn hsz fop f1 f5 f6 f7 f8 fn fl e1 e2; go_enter Tryz.func59, Tryz.ntmps59
 go_upto_block 0 with fail; generalize w.alloc (.cells #[.string f0, .int .i64 6, .slice B2 l2.length c2, .slice (some ⟨b3, o3, none⟩) l3.length c3, .int .i64 f4] 24) = w1 at HB1 HK HR H3 HG |-; have k1 := bc1 HK.out; have k3 := bc3 HK.out; have k4 := bc4 HK.out; have d1 : ((6 : Int) == 1) = false := by decide
 have d2 : ((6 : Int) == 2) = false := by decide
 have d3 : ((6 : Int) == 3) = false := by decide
 have d4 : ((6 : Int) == 4) = false := by decide
 have d5 : ((6 : Int) == 5) = false := by decide
 have d6 : ((6 : Int) == 6) = true := by decide
 have p1 := zad HB1.out HQ.out; go_wp2_with fail; go_ret2
 exact ⟨by rw [zbY]; rfl, HB1.out⟩
theorem zlH (x : zaw) (B2 : Option Addr) (c2 : Nat) (B3 : Option Addr) (c3 : Nat) (A : Option Addr) (c : Nat) (bs : List ByteArray) (w : World) (hG : GOK w) (h3 : Kd.C zqb w B3 x.f3.length x.f3) (hr : Kd.C zqb w A bs.length bs) (hc : bs.length <= c)
 (hm : mayC (zam x) = true) (hn : bs.length = x.f2.length) (hsz : ∀ b ∈ bs, b.size <= 4194304) (hop : x.f1 = 7) :
 Calls zp5 59 #[.agg #[.string x.f0, .int .i64 x.f1, .slice B2 x.f2.length c2, .slice B3 x.f3.length c3, .int .i64 x.f4], .slice A bs.length c] w (IsOf (zaS (zam x) (zab bs)) w) := by
 obtain ⟨fop, f1, f5, f6, f7, f8, fn, fl⟩ := zcf hm; have e1 : (zam x).op = 7 := hop; have e2 : (zam x).args = bs.length := hn.symm; rw [e1] at f1 f5 f6 f7 f8; rw [e2] at f1 f5 f6; have h1 : bs.length = 1 := f1 (by omega) (by omega)
 obtain ⟨y, rfl⟩ : ∃ y, bs = [y] := by
  cases bs with
  | nil => simp at h1
  | cons y r => cases r with
   | nil => exact ⟨y, rfl⟩
   | cons z s => simp at h1
 have hy := hsz y (by simp)
 rcases zaX hr with h0 | ⟨b, o, rfl, hb, hcell⟩
 . cases h0
 have p0 := hcell 0 (by simp)
 rw [zqO] at p0; have p0 : w.cell? ⟨b, o, none⟩ = some (.string y) := p0; have HP := zpt p0; clear hcell p0 h1; have hlen3 : 0 < x.f3.length := by have := f7 rfl; unfold zam at this; dsimp only at this; rw [zqe] at this; omega
 rcases zaX h3 with h0 | ⟨b3, o3, hB3, hb3, hcell3⟩
 . exfalso; rw [h0] at hlen3; simp at hlen3
 have q0 := hcell3 0 hlen3; rw [zqO] at q0; have hlit : (zam x).lits.getD 0 [] = (x.f3.getD 0 zqa).data.toList := by unfold zam; dsimp only; cases x.f3 <;> rfl
 have hlz : (x.f3.getD 0 zqa).size <= 100 := by
  have := fl ((zam x).lits.getD 0 []) (by
   have h : 0 < (zam x).lits.length := by unfold zam; dsimp only; rw [zqe]; exact hlen3
   rw [zpB, zpA h]; exact zqQ h)
  rw [hlit, <- zqc] at this; exact this
 subst hB3; have hM : zaS (zam x) (zab [y]) = (zba ((zbA y.data.toList).filter fun z => Lib.contains z (x.f3.getD 0 zqa).data.toList), true) := by unfold zaS; rw [e1, hlit]; rfl
 rw [hM]; clear hM hcell3 hlit; obtain ⟨f0, op, l2, l3, f4⟩ := x; dsimp only at *; subst hop; have hab := (zpw w.heap.size w).alloc (zpx _) (.cells #[.string f0, .int .i64 7, .slice B2 l2.length c2, .slice (some ⟨b3, o3, none⟩) l3.length c3, .int .i64 f4] 24); have HK := zpt (zap w (.cells #[.string f0, .int .i64 7, .slice B2 l2.length c2, .slice (some ⟨b3, o3, none⟩) l3.length c3, .int .i64 f4] 24)); have HB1 := zpt hab; have HR := zpt (zqS hr hab); have H3 := zpt (zqS h3 hab); have HG := zpt (hG.below hab); clear hab; generalize l3.getD 0 zqa = t at q0 hlz |-; have HQ := zpt q0; have hl3 : (0 : Int) < (l3.length : Int) := by omega
 clear q0 hlen3; clear hG h3 hr hm hn hsz fop f1 f5 f6 f7 f8 fn fl e1 e2; go_enter Tryz.func59, Tryz.ntmps59
 go_upto_block 0 with fail; generalize w.alloc (.cells #[.string f0, .int .i64 7, .slice B2 l2.length c2, .slice (some ⟨b3, o3, none⟩) l3.length c3, .int .i64 f4] 24) = w1 at HB1 HK HR H3 HG |-; have k1 := bc1 HK.out; have k3 := bc3 HK.out; have k4 := bc4 HK.out; have d1 : ((7 : Int) == 1) = false := by decide
 have d2 : ((7 : Int) == 2) = false := by decide
 have d3 : ((7 : Int) == 3) = false := by decide
 have d4 : ((7 : Int) == 4) = false := by decide
 have d5 : ((7 : Int) == 5) = false := by decide
 have d6 : ((7 : Int) == 6) = false := by decide
 have d7 : ((7 : Int) == 7) = true := by decide
 have p1 := zad HB1.out HP.out; have hl : (0 : Int) < (([y] : List ByteArray).length : Int) := by simp
 have hLi := zeO y w1 HG.out (by omega)
 have HY := zpt hy; have HLi := zpt hLi; have hgw : w.heap.size < w1.heap.size := za1 HK.out; have hP : ∀ (W : World) (x : ByteArray), Below w1.heap.size w1 W -> x.size < 4294967281 -> Go.Proofs.FnGives zp5 84 #[.pointer (some ⟨w.heap.size, 0, none⟩)] #[.string x] (.bool (!Lib.contains x.data.toList t.data.toList)) W := fun W x hW hx =>
  (znw w.heap.size c3 l3.length b3 o3 t W (HG.out.below hW) ((hW.cell (p := ⟨w.heap.size, 3, none⟩) hgw).trans k3) hl3 ((hW.cell (p := ⟨b3, o3, none⟩) (Nat.lt_of_lt_of_le hb3 HB1.out.size)).trans (zad HB1.out HQ.out)) x hx).mono fun e w' ⟨he, hw⟩ => ⟨he, 0, hw.symm⟩
 have HPr := zpt hP; clear hLi hy hP hgw; go_wp2_with (first
  | (go_at_call 23; refine HLi.out.mono ?_; rintro e w2 ⟨v, rfl, hR, hb2⟩; have HR2 := zpt hR; have HB2 := zpt hb2; clear hR hb2)
  | (go_at_call 86; refine (zmD w1.heap.size w1.heap.size 84 #[.pointer (some ⟨w.heap.size, 0, none⟩)] znF (fun x => Lib.contains x.data.toList t.data.toList) v (zbo y) w2 (Kd.own_of_R HR2.out) (zpx _) HB2.out.size (fun W x hW hx => HPr.out W x (HB2.out.trans hW) hx) (zjN y (by have := HY.out; omega))).mono ?_; rintro e w3 ⟨v3, rfl, hown3, hob, hgr⟩; obtain ⟨A3, n3, rfl, hcap3, hC3⟩ := zqq (Kd.R_of_own (h1 := fun _ => rfl) (ok := fun _ => True) hown3 (fun _ _ => trivial)); have HC3 := zpt hC3; have HB3 : Hid (Below w1.heap.size w2 w3) := zpt (zlc hgr HB2.out.size (Kd.R_base HR2.out)); clear hcap3 hC3 hown3 hob hgr)
  | (go_at_call 79; refine (zhf A3 n3 _ w3 HC3.out (by rw [ziZ fun z => Lib.contains z t.data.toList]; unfold zbo; rw [zdV]; exact zgX y.data.toList _ (zqn _ _) (fun x hx => (List.mem_filter.1 hx).1) (by have h2 := HY.out; rw [zqc] at h2; exact h2))).mono ?_; rintro e w5 ⟨rfl, hb5⟩; have HB5 := zpt hb5; clear hb5))
 go_ret2
 refine ⟨by rw [ziZ fun z => Lib.contains z t.data.toList]; unfold zbo; rw [zdV]; rfl, ?_⟩
 exact zac HB1.out HB1.out.size (zac (HB2.out.trans HB3.out) (HB2.out.trans HB3.out).size HB5.out)
theorem znu (x : zaw) (B2 : Option Addr) (c2 : Nat) (B3 : Option Addr) (c3 : Nat) (A : Option Addr) (c : Nat) (bs : List ByteArray) (w : World) (hG : GOK w) (h3 : Kd.C zqb w B3 x.f3.length x.f3) (hr : Kd.C zqb w A bs.length bs) (hc : bs.length <= c)
 (hm : mayC (zam x) = true) (hn : bs.length = x.f2.length) (hsz : ∀ b ∈ bs, b.size <= 4194304) (hop : x.f1 = 8) :
 Calls zp5 59 #[.agg #[.string x.f0, .int .i64 x.f1, .slice B2 x.f2.length c2, .slice B3 x.f3.length c3, .int .i64 x.f4], .slice A bs.length c] w (IsOf (zaS (zam x) (zab bs)) w) := by
 obtain ⟨fop, f1, f5, f6, f7, f8, fn, fl⟩ := zcf hm; have e1 : (zam x).op = 8 := hop; have e2 : (zam x).args = bs.length := hn.symm; rw [e1] at f1 f5 f6 f7 f8; rw [e2] at f1 f5 f6; have h1 : bs.length = 1 := f1 (by omega) (by omega)
 obtain ⟨y, rfl⟩ : ∃ y, bs = [y] := by
  cases bs with
  | nil => simp at h1
  | cons y r => cases r with
   | nil => exact ⟨y, rfl⟩
   | cons z s => simp at h1
 have hy := hsz y (by simp)
 rcases zaX hr with h0 | ⟨b, o, rfl, hb, hcell⟩
 . cases h0
 have p0 := hcell 0 (by simp)
 rw [zqO] at p0; have p0 : w.cell? ⟨b, o, none⟩ = some (.string y) := p0; have HP := zpt p0; clear hcell p0 h1; have hlen3 : 0 < x.f3.length := by have := (f8 rfl).1; unfold zam at this; dsimp only at this; rw [zqe] at this; omega
 rcases zaX h3 with h0 | ⟨b3, o3, hB3, hb3, hcell3⟩
 . exfalso; rw [h0] at hlen3; simp at hlen3
 have q0 := hcell3 0 hlen3; rw [zqO] at q0; have hlit : (zam x).lits.getD 0 [] = (x.f3.getD 0 zqa).data.toList := by unfold zam; dsimp only; cases x.f3 <;> rfl
 have hlz : (x.f3.getD 0 zqa).size <= 100 := by
  have := fl ((zam x).lits.getD 0 []) (by
   have h : 0 < (zam x).lits.length := by unfold zam; dsimp only; rw [zqe]; exact hlen3
   rw [zpB, zpA h]; exact zqQ h)
  rw [hlit, <- zqc] at this; exact this
 subst hB3; have hlen4 : 1 < x.f3.length := by have := (f8 rfl).1; unfold zam at this; dsimp only at this; rw [zqe] at this; omega
 have q1 := hcell3 1 hlen4; have hlit2 : (zam x).lits.getD 1 [] = (x.f3.getD 1 zqa).data.toList := by
  unfold zam; dsimp only; rw [zpB, List.getElem?_map, zpB, zpA hlen4]; rfl
 have hlz2 : (x.f3.getD 1 zqa).size <= 100 := by
  have := fl ((zam x).lits.getD 1 []) (by
   have h : 1 < (zam x).lits.length := by unfold zam; dsimp only; rw [zqe]; exact hlen4
   rw [zpB, zpA h]; exact zqQ h)
  rw [hlit2, <- zqc] at this; exact this
 have hne := (f8 rfl).2; rw [hlit] at hne; have hM : zaS (zam x) (zab [y]) = (Lib.replaceAll y.data.toList (x.f3.getD 0 zqa).data.toList (x.f3.getD 1 zqa).data.toList, true) := by unfold zaS; rw [e1, hlit, hlit2]; rfl
 rw [hM]; clear hM hcell3 hlit hlit2; obtain ⟨f0, op, l2, l3, f4⟩ := x; dsimp only at *; subst hop; have hab := (zpw w.heap.size w).alloc (zpx _) (.cells #[.string f0, .int .i64 8, .slice B2 l2.length c2, .slice (some ⟨b3, o3, none⟩) l3.length c3, .int .i64 f4] 24); have HK := zpt (zap w (.cells #[.string f0, .int .i64 8, .slice B2 l2.length c2, .slice (some ⟨b3, o3, none⟩) l3.length c3, .int .i64 f4] 24)); have HB1 := zpt hab; have HR := zpt (zqS hr hab); have H3 := zpt (zqS h3 hab); have HG := zpt (hG.below hab); clear hab; generalize l3.getD 0 zqa = t at q0 hlz hne |-; generalize l3.getD 1 zqa = t2 at q1 hlz2 |-; have ht1 : 1 <= t.size := by rw [zqc]; cases h : t.data.toList with | nil => exact absurd h hne | cons _ _ => simp
 have HQ := zpt q0; have HQ1 := zpt q1; have hl3 : (0 : Int) < (l3.length : Int) := by omega
 have hl4 : (1 : Int) < (l3.length : Int) := by omega
 have HRa := zpt (fun W (hW : GOK W) => zm9 y t t2 W hW ht1 (by omega) hlz2)
 clear q0 q1 hlen3 hlen4 hne ht1 hlz hlz2; clear hG h3 hr hm hn hsz fop f1 f5 f6 f7 f8 fn fl e1 e2 hy; go_enter Tryz.func59, Tryz.ntmps59
 go_upto_block 0 with fail; generalize w.alloc (.cells #[.string f0, .int .i64 8, .slice B2 l2.length c2, .slice (some ⟨b3, o3, none⟩) l3.length c3, .int .i64 f4] 24) = w1 at HB1 HK HR H3 HG |-; have k1 := bc1 HK.out; have k3 := bc3 HK.out; have k4 := bc4 HK.out; have d1 : ((8 : Int) == 1) = false := by decide
 have d2 : ((8 : Int) == 2) = false := by decide
 have d3 : ((8 : Int) == 3) = false := by decide
 have d4 : ((8 : Int) == 4) = false := by decide
 have d5 : ((8 : Int) == 5) = false := by decide
 have d6 : ((8 : Int) == 6) = false := by decide
 have d7 : ((8 : Int) == 7) = false := by decide
 have d8 : ((8 : Int) == 8) = true := by decide
 generalize Lib.replaceAll y.data.toList t.data.toList t2.data.toList = z at HRa |-; have hl : (0 : Int) < (([y] : List ByteArray).length : Int) := by simp
 have hl3n : 0 < l3.length := by omega
 have hl4n : 1 < l3.length := by omega
 have Sof : ∀ W, Below w1.heap.size w1 W -> W.cell? ⟨b, o, none⟩ = some (.string y) /\ W.cell? ⟨b3, o3, none⟩ = some (.string t) /\ W.cell? ⟨b3, o3 + 1, none⟩ = some (.string t2) /\ W.cell? ⟨w.heap.size, 3, none⟩ = some (.slice (some ⟨b3, o3, none⟩) l3.length c3) := fun W hW =>
  ⟨zad hW (zad HB1.out HP.out), zad hW (zad HB1.out HQ.out), zad hW (zad HB1.out HQ1.out), zad hW k3⟩
 have HSo := zpt Sof; have HBx : Hid (Below w1.heap.size w1 w1.drew) := zpt (zaM (zpw _ _)); have HGx := zpt HG.out.drew; clear Sof; go_wp2_with fail; go_region_held3 (fun W => W.cell? ⟨b, o, none⟩ = some (.string y) /\ W.cell? ⟨b3, o3, none⟩ = some (.string t) /\ W.cell? ⟨b3, o3 + 1, none⟩ = some (.string t2) /\ W.cell? ⟨w.heap.size, 3, none⟩ = some (.slice (some ⟨b3, o3, none⟩) l3.length c3))
  (exact HSo.out _ HBx.out)
  (first | (go_at_call 87; refine (HRa.out _ HGx.out).mono ?_; rintro e w2 ⟨rfl, hb2⟩; have HBx := zpt (zac HBx.out HBx.out.size hb2); clear hb2))
 all_goals
  go_wp2_with fail; go_ret2
  exact ⟨rfl, zac HB1.out HB1.out.size HBx.out⟩
theorem zlf (x : zaw) (B2 : Option Addr) (c2 : Nat) (B3 : Option Addr) (c3 : Nat) (A : Option Addr) (c : Nat) (bs : List ByteArray) (w : World) (hG : GOK w) (h3 : Kd.C zqb w B3 x.f3.length x.f3) (hr : Kd.C zqb w A bs.length bs) (hc : bs.length <= c)
 (hm : mayC (zam x) = true) (hn : bs.length = x.f2.length) (hsz : ∀ b ∈ bs, b.size <= 4194304) (hop : x.f1 = 9) :
 Calls zp5 59 #[.agg #[.string x.f0, .int .i64 x.f1, .slice B2 x.f2.length c2, .slice B3 x.f3.length c3, .int .i64 x.f4], .slice A bs.length c] w (IsOf (zaS (zam x) (zab bs)) w) := by
 obtain ⟨fop, f1, f5, f6, f7, f8, fn, fl⟩ := zcf hm; have e1 : (zam x).op = 9 := hop; have e2 : (zam x).args = bs.length := hn.symm; rw [e1] at f1 f5 f6 f7 f8; rw [e2] at f1 f5 f6; have h1 : bs.length = 1 := f1 (by omega) (by omega)
 obtain ⟨y, rfl⟩ : ∃ y, bs = [y] := by
  cases bs with
  | nil => simp at h1
  | cons y r => cases r with
   | nil => exact ⟨y, rfl⟩
   | cons z s => simp at h1
 have hy := hsz y (by simp)
 rcases zaX hr with h0 | ⟨b, o, rfl, hb, hcell⟩
 . cases h0
 have p0 := hcell 0 (by simp)
 rw [zqO] at p0; have p0 : w.cell? ⟨b, o, none⟩ = some (.string y) := p0; have HP := zpt p0; clear hcell p0 h1; have hM : zaS (zam x) (zab [y]) = (y.data.toList.take x.f4.toNat, true) := by unfold zaS; rw [e1]; rfl
 rw [hM]; clear hM; have hf4 : 0 <= x.f4 /\ x.f4 <= 2000 := fn; obtain ⟨f0, op, l2, l3, f4⟩ := x; dsimp only at *; subst hop; have hab := (zpw w.heap.size w).alloc (zpx _) (.cells #[.string f0, .int .i64 9, .slice B2 l2.length c2, .slice B3 l3.length c3, .int .i64 f4] 24); have HK := zpt (zap w (.cells #[.string f0, .int .i64 9, .slice B2 l2.length c2, .slice B3 l3.length c3, .int .i64 f4] 24)); have HB1 := zpt hab; have HR := zpt (zqS hr hab); have H3 := zpt (zqS h3 hab); have HG := zpt (hG.below hab); clear hab; clear hG h3 hr hm hn hsz fop f1 f5 f6 f7 f8 fn fl e1 e2; go_enter Tryz.func59, Tryz.ntmps59
 go_upto_block 0 with fail; generalize w.alloc (.cells #[.string f0, .int .i64 9, .slice B2 l2.length c2, .slice B3 l3.length c3, .int .i64 f4] 24) = w1 at HB1 HK HR H3 HG |-; have k1 := bc1 HK.out; have k3 := bc3 HK.out; have k4 := bc4 HK.out; have d1 : ((9 : Int) == 1) = false := by decide
 have d2 : ((9 : Int) == 2) = false := by decide
 have d3 : ((9 : Int) == 3) = false := by decide
 have d4 : ((9 : Int) == 4) = false := by decide
 have d5 : ((9 : Int) == 5) = false := by decide
 have d6 : ((9 : Int) == 6) = false := by decide
 have d7 : ((9 : Int) == 7) = false := by decide
 have d8 : ((9 : Int) == 8) = false := by decide
 have p1 := zad HB1.out HP.out; have hl : (0 : Int) < (([y] : List ByteArray).length : Int) := by simp
 obtain ⟨n, rfl⟩ : ∃ n : Nat, f4 = (n : Int) := ⟨f4.toNat, by omega⟩
 have hn0 : n <= 2000 := by omega
 clear hf4; by_cases hmin : (y.size : Int) <= (n : Int)
 . have hz : min (y.size : Int) (n : Int) = (y.size : Int) := by omega
   have hv : mk (y.data.toList.take ((n : Int)).toNat) = y := by
    apply zcn
    rw [zbd, zqN, zqP (by rw [<- zqc]; omega)]
   have HV := zpt hv; have hb0 : (0 : Int) <= (y.size : Int) := by omega
   clear hv; go_wp2_with fail; go_quiet (fail)
   go_wp2_with fail; go_ret2
   exact ⟨by rw [HV.out]; rfl, by first | exact HB1.out | exact zaq HB1.out _⟩
 . have hz : min (y.size : Int) (n : Int) = (n : Int) := by omega
   have hv : mk (y.data.toList.take ((n : Int)).toNat) = y.extract 0 n := by
    rw [zeg, zqN, List.drop_zero, Nat.sub_zero]
   have HV := zpt hv; have hb0 : (0 : Int) <= (n : Int) := by omega
   have hb1 : (n : Int) <= (y.size : Int) := by omega
   clear hv; go_wp2_with fail; go_quiet (fail)
   go_wp2_with fail; go_ret2
   exact ⟨by rw [HV.out]; rfl, by first | exact HB1.out | exact zaq HB1.out _⟩
end YtdpgdnpddndeoaaGreatDoor.X
namespace YtdpgdnpddndeoaaGreatDoor.X
open Go.RowKit Go.Maps YtdpgdnpddndeoaaGreatDoorW.PrintWords YtdpgdnpddndeoaaGreatDoorW.PrintMore YtdpgdnpddndeoaaGreatDoorW.PrintLast
abbrev SVal := S34
def valO (v : SVal) : VB := if v.f0 then some v.f1.data.toList else none
def valS (o : VB) : SVal := match o with
 | some b => ⟨true, mk b⟩
 | none => ⟨false, ⟨#[]⟩⟩
def aggV (v : SVal) : Value := .agg #[.bool v.f0, .string v.f1]
def ziJ (v : SVal) (w : World) (e : Ending) (w' : World) : Prop := e = .returned (aggV v) /\ Below w.heap.size w w'
theorem zdp {fn : Func} {R : Ending -> World -> Prop} {a : Act} {W : World} {b k : Nat} {x0 x1 v0 v1 : Value} (hf : fn.results = #[ResultVar.cell k 34]) (ha : a.tmps.getD k undef = .pointer (some ⟨b, 0, none⟩)) (hd : a.defers = [])
 (hz : W.heap[b]? = some (.cells #[x0, x1] 34 (0, 0))) (hR : R (.returned (.agg #[v0, v1])) ((W.setCell ⟨b, 0, none⟩ v0).setCell ⟨b, 1, none⟩ v1)) : bodyPost zp5 fn R .ret a ((W.setCell ⟨b, 0, none⟩ v0).setCell ⟨b, 1, none⟩ v1) := by
 have hs := zdA v0 v1 hz; have g0 := bc0 hs; have g1 := bc1 hs; rw [Array.getD_eq_getD_getElem?] at ha; exact bodyPost_ret (v := .agg #[v0, v1]) (by simp [results, hf, ha, go_sem, g0, g1]) hd hR
theorem zdI {w W : World} (h : Below w.heap.size w W) (v0 v1 : Value) : Below w.heap.size w ((W.setCell ⟨w.heap.size + 1, 0, none⟩ v0).setCell ⟨w.heap.size + 1, 1, none⟩ v1) :=
 (h.setCell (p := ⟨w.heap.size + 1, 0, none⟩) (Nat.le_succ _) v0).setCell (p := ⟨w.heap.size + 1, 1, none⟩) (Nat.le_succ _) v1
theorem zkE (l : List SVal) (i : Nat) (h : i < l.length) : za9 l (i : Int) = l[i] := by
 unfold za9; rw [zqN, zpB, zpA h]; rfl
theorem zdZ {w : World} {ad : Addr} {v : Value} {n : Nat} (h : w.cell? (ad.add ((0 : Int).toNat * n)) = some v) : ∃ b o, ad = ⟨b, o, none⟩ := by
 rw [show (0 : Int).toNat * n = 0 by simp] at h
 obtain ⟨b, o, sp⟩ := ad; cases sp with
 | none => exact ⟨b, o, rfl⟩
 | some s =>
  exfalso
  unfold Addr.add at h; simp [World.cell?] at h
  split at h <;> simp at h
theorem zdn {w : World} {A : Option Addr} {l : List SVal} (h : Kd.C k34 w A l.length l) (i : Nat) (hi : i < l.length) :
 ∃ b o, A = some ⟨b, o, none⟩ /\ w.cell? ⟨b, o + i * 2, none⟩ = some (.bool l[i].f0) /\ w.cell? ⟨b, o + i * 2 + 1, none⟩ = some (.string l[i].f1) := by
 obtain ⟨ad, rfl, p0, p1⟩ := zeW h (i : Int) (by omega) (by omega)
 rw [zkE l i hi, zqN] at p0 p1; obtain ⟨ad0, had0, z0, _⟩ := zeW h 0 (by omega) (by omega)
 cases had0
 obtain ⟨b, o, rfl⟩ := zdZ z0; have e : ((⟨b, o, none⟩ : Addr).add (i * 2)) = ⟨b, o + i * 2, none⟩ := by
  unfold Addr.add; split
  . rename_i h0; simp [h0]
  . rfl
 rw [e] at p0 p1; exact ⟨b, o, rfl, p0, p1⟩
theorem zlm (x : zaw) (B2 : Option Addr) (c2 : Nat) (B3 : Option Addr) (c3 : Nat) (A : Option Addr) (c : Nat) (bs : List ByteArray) (w : World) (hG : GOK w) (h3 : Kd.C zqb w B3 x.f3.length x.f3) (hr : Kd.C zqb w A bs.length bs) (hc : bs.length <= c)
 (hm : mayC (zam x) = true) (hn : bs.length = x.f2.length) (hsz : ∀ b ∈ bs, b.size <= 4194304) :
 Calls zp5 59 #[.agg #[.string x.f0, .int .i64 x.f1, .slice B2 x.f2.length c2, .slice B3 x.f3.length c3, .int .i64 x.f4], .slice A bs.length c] w (IsOf (zaS (zam x) (zab bs)) w) := by
 have h := (zcf hm).1; have hop : x.f1 = 1 \/ x.f1 = 2 \/ x.f1 = 3 \/ x.f1 = 4 \/ x.f1 = 5 \/ x.f1 = 6 \/ x.f1 = 7 \/ x.f1 = 8 \/ x.f1 = 9 := by
  have e : (zam x).op = x.f1 := rfl; rw [e] at h; omega
 rcases hop with h1 | h1 | h1 | h1 | h1 | h1 | h1 | h1 | h1
 . exact zkB x B2 c2 B3 c3 A c bs w hG h3 hr hc hm hn hsz h1
 . exact zo5 x B2 c2 B3 c3 A c bs w hG h3 hr hc hm hn hsz h1
 . exact zk7 x B2 c2 B3 c3 A c bs w hG h3 hr hc hm hn hsz h1
 . exact zmy x B2 c2 B3 c3 A c bs w hG h3 hr hc hm hn hsz h1
 . exact zj3 x B2 c2 B3 c3 A c bs w hG h3 hr hc hm hn hsz h1
 . exact znp x B2 c2 B3 c3 A c bs w hG h3 hr hc hm hn hsz h1
 . exact zlH x B2 c2 B3 c3 A c bs w hG h3 hr hc hm hn hsz h1
 . exact znu x B2 c2 B3 c3 A c bs w hG h3 hr hc hm hn hsz h1
 . exact zlf x B2 c2 B3 c3 A c bs w hG h3 hr hc hm hn hsz h1
theorem zg7 : ∀ vs : List SVal, (vs.any fun v => !v.f0) = false -> ((vs.map valO).map fun o => o.getD []) = zab (vs.map (·.f1)) /\ ((vs.map valO).any fun o => o.isNone) = false
 | [], _ => ⟨rfl, rfl⟩
 | v :: r, h => by
  rw [List.any_cons, Bool.or_eq_false_iff] at h; obtain ⟨h1, h2⟩ := zg7 r h.2; have hv : valO v = some v.f1.data.toList := by unfold valO; rw [if_pos (by simpa using h.1)]
  unfold zab at *; simp only [zpX, List.any_cons, hv, h1, h2]; exact ⟨rfl, rfl⟩
theorem zos (x : zaw) (B2 : Option Addr) (c2 : Nat) (B3 : Option Addr) (c3 : Nat) (A : Option Addr) (c : Nat) (vs : List SVal) (w : World) (hG : GOK w) (h2 : Kd.C zqb w B2 x.f2.length x.f2) (h3 : Kd.C zqb w B3 x.f3.length x.f3)
 (hr : Kd.C k34 w A vs.length vs) (hsz : (vs.any fun v => !v.f0) = false -> ∀ v ∈ vs, v.f1.size <= 4194304) :
 Calls zp5 25 #[.agg #[.string x.f0, .int .i64 x.f1, .slice B2 x.f2.length c2, .slice B3 x.f3.length c3, .int .i64 x.f4], .slice A vs.length c] w (ziJ (valS (doP (zam x) (vs.map valO))) w) := by
 have hlen : vs.length <= 9223372036854775807 := hr.2.1; have hl2 : x.f2.length <= 9223372036854775807 := h2.2.1; obtain ⟨T, hT⟩ : ∃ T, T = doP (zam x) (vs.map valO) := ⟨_, rfl⟩; rw [<- hT]; unfold doP zfq at hT; rw [zqe] at hT; have HT := zpt hT; have hW : Below w.heap.size w ((w.alloc (.cells #[.string x.f0, .int .i64 x.f1, .slice B2 x.f2.length c2, .slice B3 x.f3.length c3, .int .i64 x.f4] 24)).alloc (.cells #[.bool false, .string ⟨#[]⟩] 34)) :=
  ((zpw w.heap.size w).alloc (zpx _) _).alloc (by simp) _
 have HK := zpt (zai (zap w (.cells #[.string x.f0, .int .i64 x.f1, .slice B2 x.f2.length c2, .slice B3 x.f3.length c3, .int .i64 x.f4] 24)) ((zpw _ _).alloc (zpx _) (.cells #[.bool false, .string ⟨#[]⟩] 34))); have HZ := zpt (zap (w.alloc (.cells #[.string x.f0, .int .i64 x.f1, .slice B2 x.f2.length c2, .slice B3 x.f3.length c3, .int .i64 x.f4] 24)) (.cells #[.bool false, .string ⟨#[]⟩] 34)); have hn1 : (w.alloc (.cells #[.string x.f0, .int .i64 x.f1, .slice B2 x.f2.length c2, .slice B3 x.f3.length c3, .int .i64 x.f4] 24)).heap.size = w.heap.size + 1 := by simp
 rw [hn1] at HZ; have HB := zpt hW; have H2 := zpt (zqS h2 hW); have H3 := zpt (zqS h3 hW); have HR := zpt (zqS hr hW); have HG := zpt (hG.below hW); have HS := zpt hsz; have HLs := zpt hlen; clear hT hW h2 h3 hr hG hsz hn1; go_enter Tryz.func25, Tryz.ntmps25
 go_upto_if 20 with fail; generalize (w.alloc (.cells #[.string x.f0, .int .i64 x.f1, .slice B2 x.f2.length c2, .slice B3 x.f3.length c3, .int .i64 x.f4] 24)).alloc (.cells #[.bool false, .string ⟨#[]⟩] 34) = w1 at HB HK HZ H2 H3 HR HG |-; have hM := zfx x B2 c2 B3 c3 w1 H2.out H3.out; have j0 := bc0 HK.out; have j1 := bc1 HK.out; have j2 := bc2 HK.out; have j3 := bc3 HK.out; have j4 := bc4 HK.out; have hT := HT.out; cases hm : mayC (zam x) with
 | false =>
  rw [if_pos (.inl hm)] at hT; rw [hm] at hM; have HV : Hid (valS T = ⟨false, ⟨#[]⟩⟩) := by show _ = _; rw [hT]; rfl
  have HM := zpt hM; clear hT HT hM hm; go_wp2_with (first | (go_at_call 20; refine HM.out.mono ?_; rintro e w2 ⟨rfl, hb2⟩; have HB2 := zpt (zac HB.out HB.out.size hb2); have HZ2 := zpt (zai HZ.out hb2); have z0 := bc0 HZ2.out; have z1 := bc1 HZ2.out; have y0 := zak HZ2.out 0; have y1 := zak HZ2.out 1; clear hb2))
  exact zdp rfl rfl rfl HZ2.out ⟨by rw [HV.out]; rfl, zdI HB2.out _ _⟩
 | true =>
  rw [hm] at hM; have HM := zpt hM; have HMy := zpt hm; clear hT hM hm; by_cases hn : vs.length = x.f2.length
  . have d0 : ((vs.length : Int) != (x.f2.length : Int)) = false := by simp [hn]
    have HN := zpt hn; have HAL : Hid (vs.length <= 6) := by
     show _ <= _
     obtain ⟨g1, g2, g3, _⟩ := zcf HMy.out; have ha : (zam x).args = vs.length := hn.symm; rw [ha] at g2 g3; by_cases h5 : (zam x).op = 5
     . exact g3 h5
     . by_cases h6 : (zam x).op = 6
       . obtain ⟨_, _, _, g4, _⟩ := zcf HMy.out
         have := (g4 h6).1; rw [ha] at this; omega
       . have := g2 h5 h6
         omega
    clear hn; go_wp2_with (first | (go_at_call 20; refine HM.out.mono ?_; rintro e w2 ⟨rfl, hb2⟩; have HB2 := zpt (zac HB.out HB.out.size hb2); have HK2 := zpt (zai HK.out hb2); have HZ2 := zpt (zai HZ.out hb2); have i2 := bc2 HK2.out; have HR2 := zpt (zqS HR.out hb2); have H22 := zpt (zqS H2.out hb2); have H32 := zpt (zqS H3.out hb2); have HG2 := zpt (HG.out.below hb2); clear hb2))
    go_loopg [5, 7, 24] vs.length (fun gg s5 _ s24 wr => ∃ kk : Nat, kk <= vs.length /\ vs.length - kk <= gg /\ s24 = .int .i64 kk /\ Aside0 (RS wr w2.heap.size s5 ((vs.take kk).map (·.f1))) /\ Aside0 (((vs.take kk).any fun v => !v.f0) = false) /\ Aside0 (Below w2.heap.size w2 wr))
    case atStart => exact ⟨0, Nat.zero_le _, by omega, rfl, ⟨Kd.R_nil _ _ _ _ _⟩, ⟨rfl⟩, ⟨zpw _ _⟩⟩
    case round =>
     obtain ⟨kk, hkk, hgk, rfl, HO, HA, HW⟩ := hrel; by_cases hlt : kk < vs.length
     . have hltz : (kk : Int) < (vs.length : Int) := by omega
       obtain ⟨b, o, rfl, p0, p1⟩ := zdn (zqS HR2.out HW.out) kk hlt; have hal : vs.length <= 6 := HAL.out; have hml : ((vs.take kk).map (·.f1)).length = kk := by rw [zqe, List.length_take]; omega
       have HML := zpt hml; have HSucc : Hid ((vs.take (kk + 1)).map (·.f1) = (vs.take kk).map (·.f1) ++ [vs[kk].f1]) := by show _ = _; rw [zpZ hlt, zqo]; rfl
       have HAny : Hid (((vs.take (kk + 1)).any fun v => !v.f0) = (((vs.take kk).any fun v => !v.f0) || !vs[kk].f0)) := by show _ = _; rw [zpZ hlt, List.any_append]; simp
       have HMem : Hid (vs[kk] ∈ vs) := zqQ hlt; generalize vs[kk] = y at p0 p1 HSucc HAny HMem; clear hml; have hwn : Below w2.heap.size w2 (wr.alloc (.cells #[.bool y.f0, .string y.f1] 34)) := HW.out.alloc HW.out.size _; have HWn := zpt hwn; have HOn := zpt (Kd.R_below HO.out ((zpw _ wr).alloc (zpx _) (.cells #[.bool y.f0, .string y.f1] 34))); have HYn := zpt (zap wr (.cells #[.bool y.f0, .string y.f1] 34)); clear hwn; go_upto_region 7 with fail; generalize hgn : wr.alloc (.cells #[.bool y.f0, .string y.f1] 34) = w3 at HWn HOn HYn |-; have q0 := bc0 HYn.out; have q1 := bc1 HYn.out; clear hgn; cases hok : y.f0 with
       | false =>
        rw [hok] at q0; have HV : Hid (valS T = ⟨false, ⟨#[]⟩⟩) := by
         have hany : ((vs.map valO).any fun x => x.isNone) = true := by
          rw [List.any_map]; refine List.any_eq_true.2 ⟨y, HMem.out, ?_⟩; show (valO y).isNone = true
          unfold valO; rw [hok]; rfl
         show _ = _
         rw [HT.out, if_pos (.inr (.inr hany))]; rfl
        have HZ3 := zpt (zai HZ2.out HWn.out); have z0 := bc0 HZ3.out; have z1 := bc1 HZ3.out; have y0 := zak HZ3.out 0; have y1 := zak HZ3.out 1; have HB3 := zpt (zac HB2.out HB2.out.size HWn.out); clear hok; go_wp2_with fail; exact zdp rfl rfl rfl HZ3.out ⟨by rw [HV.out]; rfl, zdI HB3.out _ _⟩
       | true =>
        rw [hok] at q0; have HA2 : Hid (((vs.take (kk + 1)).any fun v => !v.f0) = false) := by show _ = _; rw [HAny.out, HA.out, hok]; rfl
        clear hok; go_wp2_with (first | ((with_reducible refine zaG (b := .append) (xs := #[.tmp 32, .tmp 35]) rfl ?_); at_builtin; refine Kd.R_append zqb (w0 := w2) w2.heap.size rfl (.tmp 32) (.tmp 35) 22 9 (.string ⟨#[]⟩) 16 rfl Tryz.underlying22 zbi rfl (by decide) (by decide) u5 ((vs.take kk).map (·.f1)) y.f1 [.string y.f1] (fun _ => True) (fun k_ => True /\ some k_ ≠ u5.ownBlock) rfl rfl rfl (fun _ hk => hk) (fun _ _ => trivial) HOn.out HWn.out HWn.out.size ?aL ?_; (case aL => (have h1 := HML.out; omega)); intro v1 w4 ho hb hg hat; have HO4 : Hid (RS w4 w2.heap.size v1 ((vs.take (kk + 1)).map (·.f1))) := (by show RS _ _ _ _; rw [HSucc.out]; exact ho); have HB4 := zpt hb; clear ho hb hg hat))
        go_roundg (vs.length - (kk + 1))
        case measure => omega
        case rel => exact ⟨kk + 1, by omega, by omega, by first | rfl | go_num, ⟨HO4.out⟩, ⟨HA2.out⟩, ⟨HB4.out⟩⟩
     . have hltz : ¬ (kk : Int) < (vs.length : Int) := by omega
       obtain rfl : kk = vs.length := by omega
       have hO := HO.out; have hA := HA.out; rw [List.take_length] at hO hA; obtain ⟨A5, n5, rfl, hc5, hC5⟩ := zqq hO; have hlm : (vs.map (·.f1)).length = vs.length := zqe ..; rw [hlm] at hc5; obtain ⟨hvn, hva⟩ := zg7 vs hA; have hOf := zlm x B2 c2 B3 c3 A5 n5 (vs.map (·.f1)) wr (HG2.out.below HW.out) (zqS H32.out HW.out) hC5 (by rw [hlm]; exact hc5) HMy.out (by rw [hlm]; exact HN.out) (fun b hb => by
        obtain ⟨v, hv, rfl⟩ := zqR.1 hb; exact HS.out hA v hv)
       have hT := HT.out; rw [if_neg (by
        rintro (h | h | h)
        . rw [HMy.out] at h; cases h
        . exact h HN.out
        . rw [hva] at h; cases h)] at hT
       have hvn2 : (vs.map valO).map (·.getD []) = zab (vs.map (·.f1)) := hvn; rw [hvn2] at hT; rw [hlm] at hOf; generalize zaS (zam x) (zab (vs.map (·.f1))) = m at hOf hT; obtain ⟨t, ok⟩ := m; unfold IsOf at hOf; dsimp only at hT hOf; have ht : (mk t).size = t.length := zbb t; have HOf := zpt hOf; have HTt := zpt hT; have HKr := zpt (zai HK2.out HW.out); have HZr := zpt (zai HZ2.out HW.out); have HBr := zpt (zac HB2.out HB2.out.size HW.out); have r0 := bc0 HKr.out; have r1 := bc1 HKr.out; have r2 := bc2 HKr.out; have r3 := bc3 HKr.out; have r4 := bc4 HKr.out; clear hO hA hC5 hvn hva hvn2 hOf hT hlm hc5; cases ok with
       | false =>
        have HV : Hid (valS T = ⟨false, ⟨#[]⟩⟩) := by show _ = _; rw [HTt.out, if_pos (.inl rfl)]; rfl
        clear ht; go_wp2_with (first | (go_at_call 59; refine HOf.out.mono ?_; rintro e w7 ⟨rfl, hb7⟩; have HB7 := zpt (zac HBr.out HBr.out.size hb7); have HZ7 := zpt (zai HZr.out hb7); have z0 := bc0 HZ7.out; have z1 := bc1 HZ7.out; have y0 := zak HZ7.out 0; have y1 := zak HZ7.out 1; clear hb7))
        exact zdp rfl rfl rfl HZ7.out ⟨by rw [HV.out]; rfl, zdI HB7.out _ _⟩
       | true =>
        by_cases hlong : 2000 < t.length
        . have HV : Hid (valS T = ⟨false, ⟨#[]⟩⟩) := by show _ = _; rw [HTt.out, if_pos (.inr hlong)]; rfl
          have hd : decide ((2000 : Int) < ((mk t).size : Int)) = true := by rw [ht]; simp; omega
          have hd2 : (2000 : Int) < ((mk t).size : Int) := by rw [ht]; omega
          clear ht hlong; go_wp2_with (first | (go_at_call 59; refine HOf.out.mono ?_; rintro e w7 ⟨rfl, hb7⟩; have HB7 := zpt (zac HBr.out HBr.out.size hb7); have HZ7 := zpt (zai HZr.out hb7); have z0 := bc0 HZ7.out; have z1 := bc1 HZ7.out; have y0 := zak HZ7.out 0; have y1 := zak HZ7.out 1; clear hb7))
          exact zdp rfl rfl rfl HZ7.out ⟨by rw [HV.out]; rfl, zdI HB7.out _ _⟩
        . have HV : Hid (valS T = ⟨true, mk t⟩) := by
           show _ = _
           rw [HTt.out, if_neg (by rintro (h | h); cases h; exact hlong h)]
           rfl
          have hd : decide ((2000 : Int) < ((mk t).size : Int)) = false := by rw [ht]; simp; omega
          have hd2 : ¬ (2000 : Int) < ((mk t).size : Int) := by rw [ht]; omega
          have hd3 : ¬ 2000 < (mk t).size := by rw [ht]; exact hlong
          have hd4 : decide (2000 < (mk t).size) = false := by simp [hd3]
          clear ht hlong; generalize mk t = tt at HOf HV hd hd2 hd3 hd4; go_wp2_with (first | (go_at_call 59; refine HOf.out.mono ?_; rintro e w7 ⟨rfl, hb7⟩; have HB7 := zpt (zac HBr.out HBr.out.size hb7); have HZ7 := zpt (zai HZr.out hb7); have z0 := bc0 HZ7.out; have z1 := bc1 HZ7.out; have y0 := zak HZ7.out 0; have y1 := zak HZ7.out 1; clear hb7))
          exact zdp rfl rfl rfl HZ7.out ⟨by rw [HV.out]; rfl, zdI HB7.out _ _⟩
  . have d0 : ((vs.length : Int) != (x.f2.length : Int)) = true := by simp; omega
    have HV : Hid (valS T = ⟨false, ⟨#[]⟩⟩) := by show _ = _; rw [HT.out, if_pos (.inr (.inl hn))]; rfl
    clear hn; go_wp2_with (first | (go_at_call 20; refine HM.out.mono ?_; rintro e w2 ⟨rfl, hb2⟩; have HB2 := zpt (zac HB.out HB.out.size hb2); have HK2 := zpt (zai HK.out hb2); have i2 := bc2 HK2.out; have HZ2 := zpt (zai HZ.out hb2); have z0 := bc0 HZ2.out; have z1 := bc1 HZ2.out; have y0 := zak HZ2.out 0; have y1 := zak HZ2.out 1; clear hb2))
    exact zdp rfl rfl rfl HZ2.out ⟨by rw [HV.out]; rfl, zdI HB2.out _ _⟩
theorem zjW (x : zaw) (B2 : Option Addr) (c2 : Nat) (B3 : Option Addr) (c3 : Nat) (A : Option Addr) (c : Nat) (vs : List SVal) (w : World) (hG : GOK w) (h2 : Kd.C zqb w B2 x.f2.length x.f2) (h3 : Kd.C zqb w B3 x.f3.length x.f3)
 (hr : Kd.C k34 w A vs.length vs) (hsz : ∀ v ∈ vs, v.f1.size <= 4194304) :
 Calls zp5 25 #[.agg #[.string x.f0, .int .i64 x.f1, .slice B2 x.f2.length c2, .slice B3 x.f3.length c3, .int .i64 x.f4], .slice A vs.length c] w (ziJ (valS (doP (zam x) (vs.map valO))) w) :=
 zos x B2 c2 B3 c3 A c vs w hG h2 h3 hr (fun _ => hsz)
end YtdpgdnpddndeoaaGreatDoor.X
namespace YtdpgdnpddndeoaaGreatDoor.X
end YtdpgdnpddndeoaaGreatDoor.X
namespace YtdpgdnpddndeoaaGreatDoor.X
open Go.RowKit Go.Maps YtdpgdnpddndeoaaGreatDoorW.PrintWords YtdpgdnpddndeoaaGreatDoorW.PrintMore YtdpgdnpddndeoaaGreatDoorW.PrintLast
end YtdpgdnpddndeoaaGreatDoor.X
end Go.Proofs
