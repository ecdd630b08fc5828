/-
  What the cards lean on (part Y2): contracts of functions, by hand, and plain laws; what is printed by the kit's print for this seat is among them. What is not reached is left out.
-/
import Derived.Shelf.SlGeneric
import Derived.Shelf.Strings.Split
import Derived.Shelf.Strings.Cut
import Derived.Shelf.Strings.OnBuilder
import Derived.Shelf.LaysM
import Derived.Shelf.LaysC
import Derived.Shelf.GgClosure.StringsRunes
import Derived.Shelf.SlicesE.DeleteFunc
import Derived.Shelf.SlicesE.IndexFunc
import Derived.Shelf.Slices.Clone
import Derived.Shelf.Strconv.Itoa3
import Derived.Shelf.Strconv.AtoiAll
import Derived.Ground.NamesProg
import Derived.Ground.SlgfProg
import Derived.Ground.GgwProg
import Derived.Ground.Names2Prog
import Derived.Ground.SlmcProg
import Derived.Shelf.SlMaps.Clone
import Derived.Shelf.SlIter.Nil
import Derived.Shelf.SortM.Plain
import Derived.Shelf.SortM.SortNone
import Derived.Ground.GgzProg
import Derived.Ground.SlgmProg
import Derived.Test.YtdpgdnpddndeoaaGreatDoorProg
import Derived.Shelf.GgClosure.Gives
import Derived.Below
import Derived.Deep.Draws
import Derived.Deep.AppendLies
import Derived.Maps.AppendAt
import Derived.OwnWalk
import Derived.Laws.BytesArg
import Derived.Laws.MakeOwn
import Derived.Laws.OwnMore
import Derived.Deep.OwnRows
import Derived.Tactics
import Derived.Lib.ConvBytes
import Derived.Laws.Slices
import Derived.WalkKit
import Derived.KernelRfl
import Derived.RowKit3
import Derived.Deep.LoopGhost
import Derived.Deep.QuietTactic
import Derived.BigQuiet
import Derived.WideLaws
import Derived.Deep.DeepCutAuto
import Derived.Deep.CutBlock
import Derived.Deep.RegionHeld3
import Derived.Laws.Rows
import Derived.Lib.AppendStr
import Derived.ArgAppend
import Derived.Laws.IdiomCopy
import Derived.OrdersHeld
import Derived.Laws.BitsLemmas
import Derived.RowKit
import Derived.Test.YtdpgdnpddndeoaaGreatDoorY0
import Derived.Test.YtdpgdnpddndeoaaGreatDoorY1
set_option maxHeartbeats 8000000
set_option maxRecDepth 100000
set_option linter.unusedSimpArgs false
set_option linter.unusedVariables false
open Go.World renaming block_lt_of_cell? -> zpr
open Go.RowKit.Below renaming refl -> zpt
open Nat renaming le_refl -> zpu
open List renaming length_map -> zp6
open Option renaming bind_eq_some_iff -> zpG, bind_some -> zp7
open Option.some renaming inj -> zp2

namespace Go.Proofs
open Go.Shelf
def Tryz.laysM146_ren : Go.Shelf.Ren := ⟨fun | 146 => 57 | 221 => 77 | 268 => 120 | 138 => 121 | 143 => 122 | 195 => 151 | 197 => 152 | 218 => 153 | 219 => 154 | 260 => 202 | 217 => 203 | 225 => 204 | 224 => 205 | 267 => 206 | 266 => 228 | 314 => 229 | n => n, fun | 9 => 9 | 31 => 22 | 3 => 3 | 4 => 4 | 0 => 0 | 105 => 177 | 21 => 21 | 5 => 5 | 46 => 160 | 119 => 233 | 139 => 236 | 138 => 235 | 146 => 237 | 51 => 191 | n => n, fun | 1 => 0 | 3 => 1 | 4 => 2 | n => n⟩
theorem Tryz.laysM146 : Go.Proofs.LaysM.n146 Tryz.prog Tryz.laysM146_ren := {
 mixed := by kernel_rfl
 f138 := Tryz.func121.trans (congrArg some (by kernel_rfl))
 f143 := Tryz.func122.trans (congrArg some (by kernel_rfl))
 f146 := Tryz.func57.trans (congrArg some (by kernel_rfl))
 f195 := Tryz.func151.trans (congrArg some (by kernel_rfl))
 f197 := Tryz.func152.trans (congrArg some (by kernel_rfl))
 f217 := Tryz.func203.trans (congrArg some (by kernel_rfl))
 f218 := Tryz.func153.trans (congrArg some (by kernel_rfl))
 f219 := Tryz.func154.trans (congrArg some (by kernel_rfl))
 f221 := Tryz.func77.trans (congrArg some (by kernel_rfl))
 f224 := Tryz.func205.trans (congrArg some (by kernel_rfl))
 f225 := Tryz.func204.trans (congrArg some (by kernel_rfl))
 f260 := Tryz.func202.trans (congrArg some (by kernel_rfl))
 f266 := Tryz.func228.trans (congrArg some (by kernel_rfl))
 f267 := Tryz.func206.trans (congrArg some (by kernel_rfl))
 f268 := Tryz.func120.trans (congrArg some (by kernel_rfl))
 f314 := Tryz.func229.trans (congrArg some (by kernel_rfl))
 t0 := Tryz.underlying0
 a0 := Tryz.isAgg0
 z0 := Tryz.sizeOf0
 v0 := Tryz.zeroValue0
 t3 := Tryz.underlying3
 a3 := Tryz.isAgg3
 z3 := Tryz.sizeOf3
 v3 := Tryz.zeroValue3
 t4 := Tryz.underlying4
 a4 := Tryz.isAgg4
 z4 := Tryz.sizeOf4
 v4 := Tryz.zeroValue4
 t5 := Tryz.underlying5
 a5 := Tryz.isAgg5
 z5 := Tryz.sizeOf5
 v5 := Tryz.zeroValue5
 t9 := Tryz.underlying9
 a9 := Tryz.isAgg9
 z9 := Tryz.sizeOf9
 v9 := Tryz.zeroValue9
 t21 := Tryz.underlying21
 a21 := Tryz.isAgg21
 z21 := Tryz.sizeOf21
 v21 := Tryz.zeroValue21
 t31 := Tryz.underlying22
 a31 := Tryz.isAgg22
 z31 := Tryz.sizeOf22
 v31 := Tryz.zeroValue22
 t46 := Tryz.underlying160
 a46 := Tryz.isAgg160
 z46 := Tryz.sizeOf160
 v46 := Tryz.zeroValue160
 t51 := Tryz.underlying191
 a51 := Tryz.isAgg191
 z51 := Tryz.sizeOf191
 v51 := Tryz.zeroValue191
 t105 := Tryz.underlying177
 a105 := Tryz.isAgg177
 z105 := Tryz.sizeOf177
 v105 := Tryz.zeroValue177
 t119 := Tryz.underlying233
 a119 := Tryz.isAgg233
 z119 := Tryz.sizeOf233
 t138 := Tryz.underlying235
 a138 := Tryz.isAgg235
 z138 := Tryz.sizeOf235
 v138 := Tryz.zeroValue235
 t139 := Tryz.underlying236
 a139 := Tryz.isAgg236
 z139 := Tryz.sizeOf236
 v139 := Tryz.zeroValue236
 t146 := Tryz.underlying237
 a146 := Tryz.isAgg237
 z146 := Tryz.sizeOf237
 v146 := Tryz.zeroValue237
 g1 := by kernel_rfl
 g3 := by kernel_rfl
 g4 := by kernel_rfl
 i0 := by kernel_rfl
 i3 := by kernel_rfl
 i4 := by kernel_rfl
 i5 := by kernel_rfl
 i9 := by kernel_rfl
 i21 := by kernel_rfl
 i31 := by kernel_rfl
 i46 := by kernel_rfl
 i51 := by kernel_rfl
 i105 := by kernel_rfl
 i138 := by kernel_rfl
 i139 := by kernel_rfl
 i146 := by kernel_rfl
 m1 := by kernel_rfl
 s1_3 := fun w h => Go.Proofs.cell_of_shapedOpen_int (zero := #[.int .i64 0]) (t := 3) h (of_decide_eq_true (by kernel_rfl)) (by kernel_rfl) rfl (by kernel_rfl) (by kernel_rfl) Tryz.underlying3
 m3 := by kernel_rfl
 m4 := by kernel_rfl }
def Tryz.lays145_ren : Go.Shelf.Ren := ⟨fun | 145 => 222 | 220 => 237 | 219 => 154 | 217 => 203 | 225 => 204 | 224 => 205 | 267 => 206 | 266 => 228 | 314 => 229 | n => n, fun | 9 => 9 | 4 => 4 | 59 => 228 | 3 => 3 | 5 => 5 | 46 => 160 | 146 => 237 | 51 => 191 | n => n, fun | 1 => 0 | n => n⟩
theorem Tryz.lays145 : Go.Proofs.Lays.n145 Tryz.prog Tryz.lays145_ren := {
 mixed := by kernel_rfl
 f145 := Tryz.func222.trans (congrArg some (by kernel_rfl))
 f217 := Tryz.func203.trans (congrArg some (by kernel_rfl))
 f219 := Tryz.func154.trans (congrArg some (by kernel_rfl))
 f220 := Tryz.func237.trans (congrArg some (by kernel_rfl))
 f224 := Tryz.func205.trans (congrArg some (by kernel_rfl))
 f225 := Tryz.func204.trans (congrArg some (by kernel_rfl))
 f266 := Tryz.func228.trans (congrArg some (by kernel_rfl))
 f267 := Tryz.func206.trans (congrArg some (by kernel_rfl))
 f314 := Tryz.func229.trans (congrArg some (by kernel_rfl))
 t3 := Tryz.underlying3
 a3 := Tryz.isAgg3
 z3 := Tryz.sizeOf3
 v3 := Tryz.zeroValue3
 t4 := Tryz.underlying4
 a4 := Tryz.isAgg4
 z4 := Tryz.sizeOf4
 v4 := Tryz.zeroValue4
 t5 := Tryz.underlying5
 a5 := Tryz.isAgg5
 z5 := Tryz.sizeOf5
 v5 := Tryz.zeroValue5
 t9 := Tryz.underlying9
 a9 := Tryz.isAgg9
 z9 := Tryz.sizeOf9
 v9 := Tryz.zeroValue9
 t46 := Tryz.underlying160
 a46 := Tryz.isAgg160
 z46 := Tryz.sizeOf160
 v46 := Tryz.zeroValue160
 t51 := Tryz.underlying191
 a51 := Tryz.isAgg191
 z51 := Tryz.sizeOf191
 v51 := Tryz.zeroValue191
 t59 := Tryz.underlying228
 a59 := Tryz.isAgg228
 z59 := Tryz.sizeOf228
 v59 := Tryz.zeroValue228
 t146 := Tryz.underlying237
 a146 := Tryz.isAgg237
 z146 := Tryz.sizeOf237
 v146 := Tryz.zeroValue237
 g1 := by kernel_rfl }
def Tryz.lays156_ren : Go.Shelf.Ren := ⟨fun | 156 => 83 | 165 => 129 | 166 => 124 | 169 => 125 | 240 => 155 | 241 => 158 | 276 => 207 | 277 => 209 | n => n, fun | 31 => 22 | 9 => 9 | 3 => 3 | 4 => 4 | 0 => 0 | 20 => 20 | 72 => 150 | 76 => 153 | 70 => 148 | 37 => 90 | 75 => 152 | 127 => 180 | 164 => 214 | 5 => 5 | 80 => 155 | n => n, fun | n => n⟩
theorem Tryz.lays156 : Go.Proofs.Lays.n156 Tryz.prog Tryz.lays156_ren := {
 mixed := by kernel_rfl
 f156 := Tryz.func83.trans (congrArg some (by kernel_rfl))
 f165 := Tryz.func129.trans (congrArg some (by kernel_rfl))
 f166 := Tryz.func124.trans (congrArg some (by kernel_rfl))
 f169 := Tryz.func125.trans (congrArg some (by kernel_rfl))
 f240 := Tryz.func155.trans (congrArg some (by kernel_rfl))
 f241 := Tryz.func158.trans (congrArg some (by kernel_rfl))
 f276 := Tryz.func207.trans (congrArg some (by kernel_rfl))
 f277 := Tryz.func209.trans (congrArg some (by kernel_rfl))
 t0 := Tryz.underlying0
 a0 := Tryz.isAgg0
 z0 := Tryz.sizeOf0
 v0 := Tryz.zeroValue0
 t3 := Tryz.underlying3
 a3 := Tryz.isAgg3
 z3 := Tryz.sizeOf3
 v3 := Tryz.zeroValue3
 t4 := Tryz.underlying4
 a4 := Tryz.isAgg4
 z4 := Tryz.sizeOf4
 v4 := Tryz.zeroValue4
 t9 := Tryz.underlying9
 a9 := Tryz.isAgg9
 z9 := Tryz.sizeOf9
 v9 := Tryz.zeroValue9
 t20 := Tryz.underlying20
 a20 := Tryz.isAgg20
 z20 := Tryz.sizeOf20
 v20 := Tryz.zeroValue20
 t31 := Tryz.underlying22
 a31 := Tryz.isAgg22
 z31 := Tryz.sizeOf22
 v31 := Tryz.zeroValue22
 t37 := Tryz.underlying90
 a37 := Tryz.isAgg90
 z37 := Tryz.sizeOf90
 v37 := Tryz.zeroValue90
 t70 := Tryz.underlying148
 a70 := Tryz.isAgg148
 z70 := Tryz.sizeOf148
 v70 := Tryz.zeroValue148
 t72 := Tryz.underlying150
 a72 := Tryz.isAgg150
 z72 := Tryz.sizeOf150
 v72 := Tryz.zeroValue150
 t75 := Tryz.underlying152
 a75 := Tryz.isAgg152
 z75 := Tryz.sizeOf152
 v75 := Tryz.zeroValue152
 t76 := Tryz.underlying153
 a76 := Tryz.isAgg153
 z76 := Tryz.sizeOf153
 v76 := Tryz.zeroValue153
 t127 := Tryz.underlying180
 a127 := Tryz.isAgg180
 z127 := Tryz.sizeOf180
 v127 := Tryz.zeroValue180
 t164 := Tryz.underlying214
 a164 := Tryz.isAgg214
 z164 := Tryz.sizeOf214
 v164 := Tryz.zeroValue214 }
def Tryz.laysM171_ren : Go.Shelf.Ren := ⟨fun | 171 => 128 | 243 => 157 | 246 => 208 | 283 => 230 | 284 => 231 | 285 => 232 | 286 => 233 | 129 => 171 | 317 => 242 | 318 => 243 | 319 => 244 | 320 => 245 | 337 => 252 | 338 => 253 | n => n, fun | 3 => 3 | 9 => 9 | 2 => 2 | 4 => 4 | 171 => 239 | 0 => 0 | 53 => 193 | 37 => 90 | 5 => 5 | 173 => 241 | 212 => 249 | 51 => 191 | 20 => 20 | 213 => 250 | 46 => 160 | 232 => 263 | 233 => 264 | n => n, fun | 17 => 3 | 18 => 6 | 19 => 7 | n => n⟩
theorem Tryz.laysM171 : Go.Proofs.LaysM.n171 Tryz.prog Tryz.laysM171_ren := {
 mixed := by kernel_rfl
 f129 := Tryz.func171.trans (congrArg some (by kernel_rfl))
 f171 := Tryz.func128.trans (congrArg some (by kernel_rfl))
 f243 := Tryz.func157.trans (congrArg some (by kernel_rfl))
 f246 := Tryz.func208.trans (congrArg some (by kernel_rfl))
 f283 := Tryz.func230.trans (congrArg some (by kernel_rfl))
 f284 := Tryz.func231.trans (congrArg some (by kernel_rfl))
 f285 := Tryz.func232.trans (congrArg some (by kernel_rfl))
 f286 := Tryz.func233.trans (congrArg some (by kernel_rfl))
 f317 := Tryz.func242.trans (congrArg some (by kernel_rfl))
 f318 := Tryz.func243.trans (congrArg some (by kernel_rfl))
 f319 := Tryz.func244.trans (congrArg some (by kernel_rfl))
 f320 := Tryz.func245.trans (congrArg some (by kernel_rfl))
 f337 := Tryz.func252.trans (congrArg some (by kernel_rfl))
 f338 := Tryz.func253.trans (congrArg some (by kernel_rfl))
 t0 := Tryz.underlying0
 a0 := Tryz.isAgg0
 z0 := Tryz.sizeOf0
 v0 := Tryz.zeroValue0
 t2 := Tryz.underlying2
 a2 := Tryz.isAgg2
 z2 := Tryz.sizeOf2
 v2 := Tryz.zeroValue2
 t3 := Tryz.underlying3
 a3 := Tryz.isAgg3
 z3 := Tryz.sizeOf3
 v3 := Tryz.zeroValue3
 t4 := Tryz.underlying4
 a4 := Tryz.isAgg4
 z4 := Tryz.sizeOf4
 v4 := Tryz.zeroValue4
 t5 := Tryz.underlying5
 a5 := Tryz.isAgg5
 z5 := Tryz.sizeOf5
 v5 := Tryz.zeroValue5
 t9 := Tryz.underlying9
 a9 := Tryz.isAgg9
 z9 := Tryz.sizeOf9
 v9 := Tryz.zeroValue9
 t20 := Tryz.underlying20
 a20 := Tryz.isAgg20
 z20 := Tryz.sizeOf20
 v20 := Tryz.zeroValue20
 t37 := Tryz.underlying90
 a37 := Tryz.isAgg90
 z37 := Tryz.sizeOf90
 v37 := Tryz.zeroValue90
 t46 := Tryz.underlying160
 a46 := Tryz.isAgg160
 z46 := Tryz.sizeOf160
 v46 := Tryz.zeroValue160
 t51 := Tryz.underlying191
 a51 := Tryz.isAgg191
 z51 := Tryz.sizeOf191
 v51 := Tryz.zeroValue191
 t53 := Tryz.underlying193
 a53 := Tryz.isAgg193
 z53 := Tryz.sizeOf193
 v53 := Tryz.zeroValue193
 t171 := Tryz.underlying239
 a171 := Tryz.isAgg239
 z171 := Tryz.sizeOf239
 v171 := Tryz.zeroValue239
 t173 := Tryz.underlying241
 a173 := Tryz.isAgg241
 z173 := Tryz.sizeOf241
 v173 := Tryz.zeroValue241
 t212 := Tryz.underlying249
 a212 := Tryz.isAgg249
 z212 := Tryz.sizeOf249
 v212 := Tryz.zeroValue249
 t213 := Tryz.underlying250
 a213 := Tryz.isAgg250
 z213 := Tryz.sizeOf250
 t232 := Tryz.underlying263
 a232 := Tryz.isAgg263
 z232 := Tryz.sizeOf263
 v232 := Tryz.zeroValue263
 t233 := Tryz.underlying264
 a233 := Tryz.isAgg264
 z233 := Tryz.sizeOf264
 v233 := Tryz.zeroValue264
 g17 := by kernel_rfl
 g18 := by kernel_rfl
 g19 := by kernel_rfl
 i0 := by kernel_rfl
 i2 := by kernel_rfl
 i3 := by kernel_rfl
 i4 := by kernel_rfl
 i5 := by kernel_rfl
 i9 := by kernel_rfl
 i20 := by kernel_rfl
 i37 := by kernel_rfl
 i46 := by kernel_rfl
 i51 := by kernel_rfl
 i53 := by kernel_rfl
 i171 := by kernel_rfl
 i173 := by kernel_rfl
 i212 := by kernel_rfl
 i232 := by kernel_rfl
 i233 := by kernel_rfl
 m17 := by kernel_rfl
 m18 := by kernel_rfl
 m19 := by kernel_rfl }
def Tryz.laysC172_ren : Go.Shelf.Ren := ⟨fun | 172 => 223 | 244 => 238 | 245 => 239 | 247 => 246 | 279 => 247 | 280 => 248 | 281 => 249 | 282 => 250 | 287 => 254 | 316 => 255 | 171 => 128 | 205 => 256 | 321 => 257 | 322 => 258 | 243 => 157 | 246 => 208 | 283 => 230 | 284 => 231 | 285 => 232 | 286 => 233 | 129 => 171 | 317 => 242 | 318 => 243 | 319 => 244 | 320 => 245 | 337 => 252 | 338 => 253 | n => n, fun | 9 => 9 | 3 => 3 | 75 => 152 | 76 => 153 | 4 => 4 | 5 => 5 | 167 => 252 | 37 => 90 | 0 => 0 | 85 => 253 | 2 => 2 | 168 => 255 | 53 => 193 | 175 => 258 | 46 => 160 | 210 => 261 | 127 => 180 | 145 => 268 | 143 => 266 | 21 => 21 | 171 => 239 | 173 => 241 | 212 => 249 | 51 => 191 | 20 => 20 | 213 => 250 | 232 => 263 | 233 => 264 | 80 => 155 | n => n, fun | 15 => 4 | 16 => 5 | 17 => 3 | 18 => 6 | 19 => 7 | n => n⟩
theorem Tryz.laysC172 : Go.Proofs.LaysC.n172 Tryz.prog Tryz.laysC172_ren := {
 mixed := by kernel_rfl
 f129 := Tryz.func171.trans (congrArg some (by kernel_rfl))
 f171 := Tryz.func128.trans (congrArg some (by kernel_rfl))
 f172 := Tryz.func223.trans (congrArg some (by kernel_rfl))
 f205 := Tryz.func256.trans (congrArg some (by kernel_rfl))
 f243 := Tryz.func157.trans (congrArg some (by kernel_rfl))
 f244 := Tryz.func238.trans (congrArg some (by kernel_rfl))
 f245 := Tryz.func239.trans (congrArg some (by kernel_rfl))
 f246 := Tryz.func208.trans (congrArg some (by kernel_rfl))
 f247 := Tryz.func246.trans (congrArg some (by kernel_rfl))
 f279 := Tryz.func247.trans (congrArg some (by kernel_rfl))
 f280 := Tryz.func248.trans (congrArg some (by kernel_rfl))
 f281 := Tryz.func249.trans (congrArg some (by kernel_rfl))
 f282 := Tryz.func250.trans (congrArg some (by kernel_rfl))
 f283 := Tryz.func230.trans (congrArg some (by kernel_rfl))
 f284 := Tryz.func231.trans (congrArg some (by kernel_rfl))
 f285 := Tryz.func232.trans (congrArg some (by kernel_rfl))
 f286 := Tryz.func233.trans (congrArg some (by kernel_rfl))
 f287 := Tryz.func254.trans (congrArg some (by kernel_rfl))
 f316 := Tryz.func255.trans (congrArg some (by kernel_rfl))
 f317 := Tryz.func242.trans (congrArg some (by kernel_rfl))
 f318 := Tryz.func243.trans (congrArg some (by kernel_rfl))
 f319 := Tryz.func244.trans (congrArg some (by kernel_rfl))
 f320 := Tryz.func245.trans (congrArg some (by kernel_rfl))
 f321 := Tryz.func257.trans (congrArg some (by kernel_rfl))
 f322 := Tryz.func258.trans (congrArg some (by kernel_rfl))
 f337 := Tryz.func252.trans (congrArg some (by kernel_rfl))
 f338 := Tryz.func253.trans (congrArg some (by kernel_rfl))
 t0 := Tryz.underlying0
 a0 := Tryz.isAgg0
 z0 := Tryz.sizeOf0
 v0 := Tryz.zeroValue0
 t2 := Tryz.underlying2
 a2 := Tryz.isAgg2
 z2 := Tryz.sizeOf2
 v2 := Tryz.zeroValue2
 t3 := Tryz.underlying3
 a3 := Tryz.isAgg3
 z3 := Tryz.sizeOf3
 v3 := Tryz.zeroValue3
 t4 := Tryz.underlying4
 a4 := Tryz.isAgg4
 z4 := Tryz.sizeOf4
 v4 := Tryz.zeroValue4
 t5 := Tryz.underlying5
 a5 := Tryz.isAgg5
 z5 := Tryz.sizeOf5
 v5 := Tryz.zeroValue5
 t9 := Tryz.underlying9
 a9 := Tryz.isAgg9
 z9 := Tryz.sizeOf9
 v9 := Tryz.zeroValue9
 t20 := Tryz.underlying20
 a20 := Tryz.isAgg20
 z20 := Tryz.sizeOf20
 v20 := Tryz.zeroValue20
 t21 := Tryz.underlying21
 a21 := Tryz.isAgg21
 z21 := Tryz.sizeOf21
 v21 := Tryz.zeroValue21
 t37 := Tryz.underlying90
 a37 := Tryz.isAgg90
 z37 := Tryz.sizeOf90
 v37 := Tryz.zeroValue90
 t46 := Tryz.underlying160
 a46 := Tryz.isAgg160
 z46 := Tryz.sizeOf160
 v46 := Tryz.zeroValue160
 t51 := Tryz.underlying191
 a51 := Tryz.isAgg191
 z51 := Tryz.sizeOf191
 v51 := Tryz.zeroValue191
 t53 := Tryz.underlying193
 a53 := Tryz.isAgg193
 z53 := Tryz.sizeOf193
 v53 := Tryz.zeroValue193
 t75 := Tryz.underlying152
 a75 := Tryz.isAgg152
 z75 := Tryz.sizeOf152
 v75 := Tryz.zeroValue152
 t76 := Tryz.underlying153
 a76 := Tryz.isAgg153
 z76 := Tryz.sizeOf153
 v76 := Tryz.zeroValue153
 t85 := Tryz.underlying253
 a85 := Tryz.isAgg253
 z85 := Tryz.sizeOf253
 v85 := Tryz.zeroValue253
 t127 := Tryz.underlying180
 a127 := Tryz.isAgg180
 z127 := Tryz.sizeOf180
 v127 := Tryz.zeroValue180
 t143 := Tryz.underlying266
 a143 := Tryz.isAgg266
 z143 := Tryz.sizeOf266
 v143 := Tryz.zeroValue266
 t145 := Tryz.underlying268
 a145 := Tryz.isAgg268
 z145 := Tryz.sizeOf268
 v145 := Tryz.zeroValue268
 t167 := Tryz.underlying252
 a167 := Tryz.isAgg252
 z167 := Tryz.sizeOf252
 v167 := Tryz.zeroValue252
 t168 := Tryz.underlying255
 a168 := Tryz.isAgg255
 z168 := Tryz.sizeOf255
 v168 := Tryz.zeroValue255
 t171 := Tryz.underlying239
 a171 := Tryz.isAgg239
 z171 := Tryz.sizeOf239
 v171 := Tryz.zeroValue239
 t173 := Tryz.underlying241
 a173 := Tryz.isAgg241
 z173 := Tryz.sizeOf241
 v173 := Tryz.zeroValue241
 t175 := Tryz.underlying258
 a175 := Tryz.isAgg258
 z175 := Tryz.sizeOf258
 v175 := Tryz.zeroValue258
 t210 := Tryz.underlying261
 a210 := Tryz.isAgg261
 z210 := Tryz.sizeOf261
 v210 := Tryz.zeroValue261
 t212 := Tryz.underlying249
 a212 := Tryz.isAgg249
 z212 := Tryz.sizeOf249
 v212 := Tryz.zeroValue249
 t213 := Tryz.underlying250
 a213 := Tryz.isAgg250
 z213 := Tryz.sizeOf250
 t232 := Tryz.underlying263
 a232 := Tryz.isAgg263
 z232 := Tryz.sizeOf263
 v232 := Tryz.zeroValue263
 t233 := Tryz.underlying264
 a233 := Tryz.isAgg264
 z233 := Tryz.sizeOf264
 v233 := Tryz.zeroValue264
 g15 := by kernel_rfl
 g16 := by kernel_rfl
 g17 := by kernel_rfl
 g18 := by kernel_rfl
 g19 := by kernel_rfl
 t80 := Tryz.underlying155
 a80 := Tryz.isAgg155
 z80 := Tryz.sizeOf155
 v80 := Tryz.zeroValue155
 i0 := by kernel_rfl
 i2 := by kernel_rfl
 i3 := by kernel_rfl
 i4 := by kernel_rfl
 i5 := by kernel_rfl
 i9 := by kernel_rfl
 i20 := by kernel_rfl
 i21 := by kernel_rfl
 i37 := by kernel_rfl
 i46 := by kernel_rfl
 i51 := by kernel_rfl
 i53 := by kernel_rfl
 i75 := by kernel_rfl
 i76 := by kernel_rfl
 i80 := by kernel_rfl
 i85 := by kernel_rfl
 i127 := by kernel_rfl
 i143 := by kernel_rfl
 i145 := by kernel_rfl
 i167 := by kernel_rfl
 i168 := by kernel_rfl
 i171 := by kernel_rfl
 i173 := by kernel_rfl
 i175 := by kernel_rfl
 i210 := by kernel_rfl
 i212 := by kernel_rfl
 i232 := by kernel_rfl
 i233 := by kernel_rfl
 m15 := by kernel_rfl
 m16 := by kernel_rfl
 m17 := by kernel_rfl
 m18 := by kernel_rfl
 m19 := by kernel_rfl
 c0 := by kernel_rfl
 c2 := by kernel_rfl
 c3 := by kernel_rfl
 c4 := by kernel_rfl
 c5 := by kernel_rfl
 c9 := by kernel_rfl
 c20 := by kernel_rfl
 c21 := by kernel_rfl
 c37 := by kernel_rfl
 c46 := by kernel_rfl
 c51 := by kernel_rfl
 c53 := by kernel_rfl
 c75 := by kernel_rfl
 c76 := by kernel_rfl
 c80 := by kernel_rfl
 c85 := by kernel_rfl
 c127 := by kernel_rfl
 c143 := by kernel_rfl
 c145 := by kernel_rfl
 c167 := by kernel_rfl
 c168 := by kernel_rfl
 c171 := by kernel_rfl
 c173 := by kernel_rfl
 c175 := by kernel_rfl
 c210 := by kernel_rfl
 c212 := by kernel_rfl
 c213 := by kernel_rfl
 c232 := by kernel_rfl
 c233 := by kernel_rfl }
def Tryz.laysGw17_ren : Go.Shelf.Ren := ⟨fun | 17 => 172 | 15 => 215 | 20 => 235 | n => n, fun | 9 => 9 | 23 => 195 | 4 => 4 | 3 => 3 | 0 => 0 | 21 => 21 | n => n, fun | n => n⟩
theorem Tryz.laysGw17 : Go.Proofs.LaysGw.n17 Tryz.prog Tryz.laysGw17_ren := {
 mixed := by kernel_rfl
 f15 := Tryz.func215.trans (congrArg some (by kernel_rfl))
 f17 := Tryz.func172.trans (congrArg some (by kernel_rfl))
 f20 := Tryz.func235.trans (congrArg some (by kernel_rfl))
 t0 := Tryz.underlying0
 a0 := Tryz.isAgg0
 z0 := Tryz.sizeOf0
 v0 := Tryz.zeroValue0
 i0 := by kernel_rfl
 t3 := Tryz.underlying3
 a3 := Tryz.isAgg3
 z3 := Tryz.sizeOf3
 v3 := Tryz.zeroValue3
 i3 := by kernel_rfl
 t4 := Tryz.underlying4
 a4 := Tryz.isAgg4
 z4 := Tryz.sizeOf4
 v4 := Tryz.zeroValue4
 i4 := by kernel_rfl
 t9 := Tryz.underlying9
 a9 := Tryz.isAgg9
 z9 := Tryz.sizeOf9
 v9 := Tryz.zeroValue9
 i9 := by kernel_rfl
 t21 := Tryz.underlying21
 a21 := Tryz.isAgg21
 z21 := Tryz.sizeOf21
 v21 := Tryz.zeroValue21
 i21 := by kernel_rfl
 t23 := Tryz.underlying195
 a23 := Tryz.isAgg195
 z23 := Tryz.sizeOf195
 v23 := Tryz.zeroValue195
 i23 := by kernel_rfl }
def Tryz.laysDel_ren : Go.Shelf.Ren := ⟨fun | 10 => 86 | 6 => 76 | n => n, fun | 22 => 22 | 23 => 9 | 25 => 68 | 3 => 3 | 4 => 4 | 0 => 0 | n => n, fun | n => n⟩
theorem Tryz.laysDel : Go.Proofs.SlLaysH.n10 Tryz.prog Tryz.laysDel_ren := {
 mixed := by kernel_rfl
 f6 := ⟨Tryz.f76.name, by decide, Tryz.func76.trans (congrArg some (by kernel_rfl))⟩
 f10 := ⟨Tryz.f86.name, by decide, Tryz.func86.trans (congrArg some (by kernel_rfl))⟩
 t0 := Tryz.underlying0
 a0 := Tryz.isAgg0
 z0 := Tryz.sizeOf0
 v0 := Tryz.zeroValue0
 t3 := Tryz.underlying3
 a3 := Tryz.isAgg3
 z3 := Tryz.sizeOf3
 v3 := Tryz.zeroValue3
 t4 := Tryz.underlying4
 a4 := Tryz.isAgg4
 z4 := Tryz.sizeOf4
 v4 := Tryz.zeroValue4
 t22 := Tryz.underlying22
 a22 := Tryz.isAgg22
 z22 := Tryz.sizeOf22
 v22 := Tryz.zeroValue22
 a23 := Tryz.isAgg9
 z23 := Tryz.sizeOf9
 t25 := Tryz.underlying68
 a25 := Tryz.isAgg68
 z25 := Tryz.sizeOf68
 v25 := Tryz.zeroValue68 }
def Tryz.laysClone_ren : Go.Shelf.Ren := ⟨fun | 16 => 99 | n => n, fun | 24 => 22 | 9 => 9 | 4 => 4 | n => n, fun | n => n⟩
theorem Tryz.laysClone : Go.Proofs.Lays2.n16 Tryz.prog Tryz.laysClone_ren := {
 mixed := by kernel_rfl
 f16 := Tryz.func99.trans (congrArg some (by kernel_rfl))
 t4 := Tryz.underlying4
 a4 := Tryz.isAgg4
 z4 := Tryz.sizeOf4
 v4 := Tryz.zeroValue4
 t9 := Tryz.underlying9
 a9 := Tryz.isAgg9
 z9 := Tryz.sizeOf9
 v9 := Tryz.zeroValue9
 t24 := Tryz.underlying22
 a24 := Tryz.isAgg22
 z24 := Tryz.sizeOf22
 v24 := Tryz.zeroValue22
 i9 := by kernel_rfl }
def Tryz.laysKeys_ren : Go.Shelf.Ren := ⟨fun | 7 => 225 | 10 => 240 | n => n, fun | 23 => 98 | 26 => 9 | 3 => 9 | 28 => 112 | 0 => 0 | 27 => 111 | 33 => 68 | 4 => 4 | n => n, fun | n => n⟩
theorem Tryz.laysKeys : Go.Proofs.SlLaysZ.n7 Tryz.prog Tryz.laysKeys_ren := {
 mixed := by kernel_rfl
 f7 := ⟨Tryz.f225.name, by decide, Tryz.func225.trans (congrArg some (by kernel_rfl))⟩
 f10 := ⟨Tryz.f240.name, by decide, Tryz.func240.trans (congrArg some (by kernel_rfl))⟩
 t0 := Tryz.underlying0
 a0 := Tryz.isAgg0
 z0 := Tryz.sizeOf0
 v0 := Tryz.zeroValue0
 t4 := Tryz.underlying4
 a4 := Tryz.isAgg4
 z4 := Tryz.sizeOf4
 v4 := Tryz.zeroValue4
 t23 := Tryz.underlying98
 a23 := Tryz.isAgg98
 z23 := Tryz.sizeOf98
 v23 := Tryz.zeroValue98
 t26 := Tryz.underlying9
 a26 := Tryz.isAgg9
 z26 := Tryz.sizeOf9
 v26 := Tryz.zeroValue9
 t27 := Tryz.underlying111
 a27 := Tryz.isAgg111
 z27 := Tryz.sizeOf111
 v27 := Tryz.zeroValue111
 t28 := Tryz.underlying112
 a28 := Tryz.isAgg112
 z28 := Tryz.sizeOf112
 v28 := Tryz.zeroValue112
 t33 := Tryz.underlying68
 a33 := Tryz.isAgg68
 z33 := Tryz.sizeOf68
 v33 := Tryz.zeroValue68 }
def Tryz.laysSorted_ren : Go.Shelf.Ren := ⟨fun | 6 => 80 | 8 => 126 | 9 => 93 | 11 => 156 | 13 => 133 | 12 => 132 | 23 => 170 | 24 => 171 | 14 => 161 | 15 => 162 | 16 => 163 | 17 => 164 | 18 => 165 | 19 => 166 | 20 => 167 | 21 => 168 | 22 => 169 | 25 => 210 | 26 => 211 | 27 => 212 | 28 => 213 | 29 => 214 | 30 => 201 | 31 => 234 | n => n, fun | 26 => 9 | 28 => 112 | 24 => 22 | 0 => 0 | 3 => 3 | 37 => 160 | 48 => 191 | 50 => 193 | 4 => 4 | 40 => 185 | 39 => 184 | 45 => 163 | 5 => 5 | 9 => 9 | 51 => 218 | 55 => 222 | 57 => 243 | 58 => 244 | 33 => 68 | n => n, fun | n => n⟩
theorem Tryz.laysSorted : Go.Proofs.SlLaysZ.n6 Tryz.prog Tryz.laysSorted_ren := {
 mixed := by kernel_rfl
 f6 := ⟨Tryz.f80.name, by decide, Tryz.func80.trans (congrArg some (by kernel_rfl))⟩
 f8 := ⟨Tryz.f126.name, by decide, Tryz.func126.trans (congrArg some (by kernel_rfl))⟩
 f11 := ⟨Tryz.f156.name, by decide, Tryz.func156.trans (congrArg some (by kernel_rfl))⟩
 t0 := Tryz.underlying0
 a0 := Tryz.isAgg0
 z0 := Tryz.sizeOf0
 v0 := Tryz.zeroValue0
 t24 := Tryz.underlying22
 a24 := Tryz.isAgg22
 z24 := Tryz.sizeOf22
 v24 := Tryz.zeroValue22
 t26 := Tryz.underlying9
 a26 := Tryz.isAgg9
 z26 := Tryz.sizeOf9
 v26 := Tryz.zeroValue9
 t28 := Tryz.underlying112
 a28 := Tryz.isAgg112
 z28 := Tryz.sizeOf112
 v28 := Tryz.zeroValue112
 i26 := by kernel_rfl }
def Tryz.laysSort_ren : Go.Shelf.Ren := ⟨fun | 6 => 93 | 8 => 133 | 9 => 132 | 19 => 170 | 20 => 171 | 21 => 161 | 22 => 162 | 23 => 163 | 24 => 164 | 25 => 165 | 26 => 166 | 27 => 167 | 28 => 168 | 29 => 169 | 36 => 210 | 31 => 211 | 32 => 212 | 37 => 213 | 38 => 214 | 39 => 201 | 41 => 234 | n => n, fun | 27 => 22 | 29 => 9 | 3 => 3 | 32 => 160 | 26 => 22 | 0 => 0 | 44 => 191 | 46 => 193 | 4 => 4 | 36 => 185 | 35 => 184 | 41 => 163 | 5 => 5 | 9 => 9 | 53 => 218 | 57 => 222 | 63 => 243 | 64 => 244 | n => n, fun | n => n⟩
theorem Tryz.laysSort : Go.Proofs.SlLaysM.n6 Tryz.prog Tryz.laysSort_ren := {
 mixed := by kernel_rfl
 f6 := ⟨Tryz.f93.name, by decide, Tryz.func93.trans (congrArg some (by kernel_rfl))⟩
 f8 := Tryz.func133.trans (congrArg some (by kernel_rfl))
 f9 := ⟨Tryz.f132.name, by decide, Tryz.func132.trans (congrArg some (by kernel_rfl))⟩
 f19 := Tryz.func170.trans (congrArg some (by kernel_rfl))
 f20 := Tryz.func171.trans (congrArg some (by kernel_rfl))
 f21 := ⟨Tryz.f161.name, by decide, Tryz.func161.trans (congrArg some (by kernel_rfl))⟩
 f22 := ⟨Tryz.f162.name, by decide, Tryz.func162.trans (congrArg some (by kernel_rfl))⟩
 f23 := ⟨Tryz.f163.name, by decide, Tryz.func163.trans (congrArg some (by kernel_rfl))⟩
 f24 := ⟨Tryz.f164.name, by decide, Tryz.func164.trans (congrArg some (by kernel_rfl))⟩
 f25 := ⟨Tryz.f165.name, by decide, Tryz.func165.trans (congrArg some (by kernel_rfl))⟩
 f26 := ⟨Tryz.f166.name, by decide, Tryz.func166.trans (congrArg some (by kernel_rfl))⟩
 f27 := ⟨Tryz.f167.name, by decide, Tryz.func167.trans (congrArg some (by kernel_rfl))⟩
 f28 := ⟨Tryz.f168.name, by decide, Tryz.func168.trans (congrArg some (by kernel_rfl))⟩
 f29 := ⟨Tryz.f169.name, by decide, Tryz.func169.trans (congrArg some (by kernel_rfl))⟩
 f31 := Tryz.func211.trans (congrArg some (by kernel_rfl))
 f32 := Tryz.func212.trans (congrArg some (by kernel_rfl))
 f36 := ⟨Tryz.f210.name, by decide, Tryz.func210.trans (congrArg some (by kernel_rfl))⟩
 f37 := ⟨Tryz.f213.name, by decide, Tryz.func213.trans (congrArg some (by kernel_rfl))⟩
 f38 := ⟨Tryz.f214.name, by decide, Tryz.func214.trans (congrArg some (by kernel_rfl))⟩
 f39 := ⟨Tryz.f201.name, by decide, Tryz.func201.trans (congrArg some (by kernel_rfl))⟩
 f41 := ⟨Tryz.f234.name, by decide, Tryz.func234.trans (congrArg some (by kernel_rfl))⟩
 t0 := Tryz.underlying0
 a0 := Tryz.isAgg0
 z0 := Tryz.sizeOf0
 v0 := Tryz.zeroValue0
 t3 := Tryz.underlying3
 a3 := Tryz.isAgg3
 z3 := Tryz.sizeOf3
 v3 := Tryz.zeroValue3
 t4 := Tryz.underlying4
 a4 := Tryz.isAgg4
 z4 := Tryz.sizeOf4
 v4 := Tryz.zeroValue4
 t5 := Tryz.underlying5
 a5 := Tryz.isAgg5
 z5 := Tryz.sizeOf5
 v5 := Tryz.zeroValue5
 t9 := Tryz.underlying9
 a9 := Tryz.isAgg9
 z9 := Tryz.sizeOf9
 v9 := Tryz.zeroValue9
 t26 := Tryz.underlying22
 a26 := Tryz.isAgg22
 z26 := Tryz.sizeOf22
 v26 := Tryz.zeroValue22
 t27 := Tryz.underlying22
 a27 := Tryz.isAgg22
 z27 := Tryz.sizeOf22
 v27 := Tryz.zeroValue22
 t29 := Tryz.underlying9
 a29 := Tryz.isAgg9
 z29 := Tryz.sizeOf9
 v29 := Tryz.zeroValue9
 t32 := Tryz.underlying160
 a32 := Tryz.isAgg160
 z32 := Tryz.sizeOf160
 v32 := Tryz.zeroValue160
 t35 := Tryz.underlying184
 a35 := Tryz.isAgg184
 z35 := Tryz.sizeOf184
 v35 := Tryz.zeroValue184
 t36 := Tryz.underlying185
 a36 := Tryz.isAgg185
 z36 := Tryz.sizeOf185
 v36 := Tryz.zeroValue185
 t41 := Tryz.underlying163
 a41 := Tryz.isAgg163
 z41 := Tryz.sizeOf163
 v41 := Tryz.zeroValue163
 t44 := Tryz.underlying191
 a44 := Tryz.isAgg191
 z44 := Tryz.sizeOf191
 v44 := Tryz.zeroValue191
 t46 := Tryz.underlying193
 a46 := Tryz.isAgg193
 z46 := Tryz.sizeOf193
 v46 := Tryz.zeroValue193
 t53 := Tryz.underlying218
 a53 := Tryz.isAgg218
 z53 := Tryz.sizeOf218
 v53 := Tryz.zeroValue218
 t57 := Tryz.underlying222
 a57 := Tryz.isAgg222
 z57 := Tryz.sizeOf222
 v57 := Tryz.zeroValue222
 t63 := Tryz.underlying243
 a63 := Tryz.isAgg243
 z63 := Tryz.sizeOf243
 v63 := Tryz.zeroValue243
 t64 := Tryz.underlying244
 a64 := Tryz.isAgg244
 z64 := Tryz.sizeOf244
 v64 := Tryz.zeroValue244 }
end Go.Proofs

namespace Go.Proofs.YtdpgdnpddndeoaaGreatDoor.X
open Go.RowKit Go.Proofs.YtdpgdnpddndeoaaGreatDoorW.PrintWords
def strings_Split.f (a0 a1 : ByteArray) : Option (List ByteArray) :=
 match a1.data.toList with
 | [c] => if a0.size < 4294967281 then some ((za1 c a0.data.toList).map mk) else none
 | _ => none
theorem strings_Split.one (s : ByteArray) (c : UInt8) (hs : s.size < 4294967281) : strings_Split.f s (⟨#[c]⟩ : ByteArray) = some ((za1 c s.data.toList).map mk) := by
 unfold strings_Split.f; show (if s.size < 4294967281 then some _ else none) = _
 rw [if_pos hs]
theorem ziw (c : UInt8) : ∀ l, (za1 c l).length <= l.length + 1
 | [] => by simp [za1]
 | x :: r => by
  have := ziw c r; unfold za1; split
  . simp; omega
  . split
    . simp
    . rename_i h; rw [h] at this; simp at this |-; omega
theorem strings_Split.calls (a0 a1 : ByteArray) (r : List ByteArray) (w : World) (hG : GOK w) (h : strings_Split.f a0 a1 = some r) :
 Calls Tryz.prog 57 #[.string a0, .string a1] w fun e w' => ∃ v0_ : Value, e = .returned v0_ /\ Kd.R Kd.string 9 w' w.heap.size (fun _ => True) v0_ r /\ Below w.heap.size w w' := by
 unfold strings_Split.f at h; split at h
 . rename_i c hc
   have hs : a0.size < 4294967281 := by
    by_cases hs : a0.size < 4294967281
    . exact hs
    . rw [if_neg hs] at h; cases h
   rw [if_pos hs] at h; have hr := zp2 h; have ha1 : a1 = mk [c] := by rw [<- zbh a1, hc]
   subst ha1; obtain ⟨m, hm⟩ := hG.maxLen; have L := Go.Proofs.Tryz.laysM146; have hcall := Go.Proofs.Any.strings_Split { L with } L.i9 a0 (mk [c]) m w hs hm (by rw [zaZ]; simp)
   change Calls Tryz.prog 57 _ _ _ at hcall
   refine hcall.mono fun e w' ⟨he, hw⟩ => ?_
   rw [zgS] at hw; have hlen : Lib.countB a0 (mk [c]) + 1 = r.length := by
    rw [<- hr, zp6, <- Lib.splitB_all (mk [c]) (by rw [zaZ]; simp) 0 _ a0 rfl, zgS, zp6]
   have hle : r.length <= a0.size + 1 := by rw [<- hr, zp6, Lib.size_eq]; exact ziw c _
   rw [hr] at hw; subst hw; refine ⟨_, he, ?_, (zpt _ _).alloc (zpu _) _⟩; rw [hlen]; exact Kd.R_of_own (zfv (enc := Value.string) w w.heap.size 9 r (zpu _) (by omega)) (fun _ _ => trivial)
 . cases h

def strings_Cut.f (a0 a1 : ByteArray) : Option (ByteArray × ByteArray × Bool) :=
 if a0.size < 4294967281 then some (mk (Lib.cut a0.data.toList a1.data.toList).1, mk (Lib.cut a0.data.toList a1.data.toList).2.1, (Lib.cut a0.data.toList a1.data.toList).2.2) else none
theorem strings_Cut.calls (a0 a1 r1 r2 : ByteArray) (r3 : Bool) (w : World) (hG : GOK w) (h : strings_Cut.f a0 a1 = some (r1, r2, r3)) :
 Calls Tryz.prog 222 #[.string a0, .string a1] w fun e w' => e = .returned (.tuple #[.string r1, .string r2, .bool r3]) /\ Below w.heap.size w w' := by
 unfold strings_Cut.f at h; split at h
 . rename_i hs
   have h' := zp2 h; simp only [Prod.mk.injEq] at h'; obtain ⟨rfl, rfl, rfl⟩ := h'; obtain ⟨m, hm⟩ := hG.maxLen; have hcall := Go.Proofs.Any.strings_Cut Go.Proofs.Tryz.lays145 a0 a1 m w hs hm; change Calls Tryz.prog 222 _ _ _ at hcall
   refine hcall.mono fun e w' ⟨he, n, hw⟩ => ⟨he, ?_⟩
   subst hw; exact zak (zpt _ _) n
 . cases h

theorem zet : Go.Proofs.Builder.Extra Tryz.prog Go.Proofs.Tryz.lays156_ren := {
 sizeBuilder := by kernel_rfl
 liesBuilder := by kernel_rfl
 t5 := Tryz.underlying5
 a5 := Tryz.isAgg5
 z5 := Tryz.sizeOf5
 v5 := Tryz.zeroValue5
 infoByte := by kernel_rfl
 cellsByte := by kernel_rfl
 sizeByte := by kernel_rfl
 neB5 := by decide }
def strings_Join.f (l0 : List ByteArray) (a1 : ByteArray) : Option ByteArray :=
 if l0.length <= 140737488355328 /\ (Lib.join (l0.map (·.data.toList)) a1.data.toList).length <= 140737488355328 then some (mk (Lib.join (l0.map (·.data.toList)) a1.data.toList)) else none
theorem strings_Join.calls (A0 : Option Addr) (c0 : Nat) (l0 : List ByteArray) (a1 : ByteArray) (r : ByteArray) (w : World) (_hG : GOK w) (hr0 : Kd.C Kd.string w A0 l0.length l0) (hc0 : l0.length <= c0) (h : strings_Join.f l0 a1 = some r) :
 Calls Tryz.prog 83 #[.slice A0 l0.length c0, .string a1] w fun e w' => e = .returned (.string r) /\ Below w.heap.size w w' := by
 unfold strings_Join.f at h; split at h
 . rename_i hs
   have hr := zp2 h; rcases zaL hr0 with rfl | ⟨b, o, rfl, hb, hcell⟩
   . have hcall := Go.Proofs.Any.strings_Join_none Go.Proofs.Tryz.lays156 zet A0 c0 a1 w
     change Calls Tryz.prog 83 _ _ _ at hcall
     refine hcall.mono fun e w' ⟨he, hw⟩ => ?_
     subst hw; refine ⟨?_, zpt _ _⟩; rw [he, <- hr]; rfl
   . have hcall := Go.Proofs.Any.strings_Join Go.Proofs.Tryz.lays156 zet b o c0 l0 a1 w (fun j x hx => by
      obtain ⟨hj, he⟩ := List.getElem?_eq_some_iff.1 hx; have := hcell j hj; rwa [show l0.getD j ByteArray.empty = x by simp [List.getD_eq_getElem?_getD, hx]] at this) hb hs.1 hc0 hs.2
     change Calls Tryz.prog 83 _ _ _ at hcall
     refine hcall.mono fun e w' ⟨he, hw⟩ => ⟨?_, hw⟩
     rw [he, <- hr]; rfl
 . cases h

def strconv_Itoa.f (a0 : Int) : Option ByteArray := if -9223372036854775808 <= a0 /\ a0 <= 9223372036854775807 then some (mk (Lib.itoa a0)) else none
theorem strconv_Itoa.calls (a0 : Int) (r : ByteArray) (w : World) (hG : GOK w) (h : strconv_Itoa.f a0 = some r) :
 Calls Tryz.prog 128 #[.int .i64 a0] w fun e w' => e = .returned (.string r) /\ Below w.heap.size w w' := by
 unfold strconv_Itoa.f at h; split at h
 . rename_i hs
   have hr := zp2 h; have hcall := Go.Proofs.Any.strconv_Itoa Go.Proofs.Tryz.laysM171 a0 hs.1 hs.2 w hG.pow10; change Calls Tryz.prog 128 _ _ _ at hcall
   refine hcall.mono fun e w' ⟨he, k, os, hw⟩ => ⟨?_, ?_⟩
   . rw [he, <- hr]; rfl
   . subst hw
     exact Go.Proofs.below_grown w k os
 . cases h

end Go.Proofs.YtdpgdnpddndeoaaGreatDoor.X

namespace Go.Proofs.YtdpgdnpddndeoaaGreatDoor.Pb
open Go.Proofs.YtdpgdnpddndeoaaGreatDoor.X
open Go.RowKit Go.Proofs.YtdpgdnpddndeoaaGreatDoorW.PrintWords Go.Proofs.YtdpgdnpddndeoaaGreatDoorW.PrintLast Go.Proofs.YtdpgdnpddndeoaaGreatDoorW.PrintMore
attribute [local go_sem] zdk zdG zdx zdg zdo zdi zdp zdm   -- for this text's walks alone



def errW : Option Int -> Value
 | none => .nilIface
 | some c => .iface 0 (.int .i64 c)
theorem za9 : errW none = .nilIface := rfl
theorem za7 (c : Int) : errW (some c) = .iface 0 (.int .i64 c) := rfl

-- the values' own types

attribute [local go_sem] zdk zdG zdx zdg zdo zdi zdp zdm   -- for this text's walks alone

-- EXT: function 57 (strings_Split)

def path_Parts.f (a0 : ByteArray) : Option (List ByteArray) := (strings_Split.f a0 (⟨#[47]⟩ : ByteArray)).bind fun t101 => (some t101)
theorem path_Parts.calls (a0 : ByteArray) (r : List ByteArray) (w : World) (hG : GOK w) (h : path_Parts.f a0 = some r) :
 Calls Tryz.prog 135 #[.string a0] w fun e w' => ∃ v0_ : Value, e = .returned (v0_) /\ Kd.R Kd.string 9 w' w.heap.size (fun _ => True) v0_ r /\ Below w.heap.size w w' := by
 have HB := Aside0.mk (zpt w.heap.size w); have HG := Aside0.mk hG; clear hG; have H : ((strings_Split.f a0 (⟨#[47]⟩ : ByteArray)).bind fun t101 => (some t101)) = some r := h
 clear h; replace H := zpG.mp H
 obtain ⟨t101, A20, H⟩ := H; replace H : (some t101) = some r := H
 have A2 := Aside0.mk A20; clear A20; obtain rfl := zp2 H; go_enter Tryz.func135, Tryz.ntmps135
 go_wp2_with (first | ((with_reducible refine zbP (f := 57) rfl ?_); refine zbO (some 4) rfl rfl Tryz.func57 (by kernel_rfl) rfl #[.string a0, .string (⟨#[47]⟩ : ByteArray)] rfl (by (try simp only [List.map_toArray, List.map_cons, List.map_nil]); first | done | rfl | (simp only [List.length_drop, List.length_take]; rfl)) ?_; (with_reducible refine (strings_Split.calls a0 (⟨#[47]⟩ : ByteArray) t101 _ ?side99 A2.out).mono ?_); (case side99 => exact GOK.below HG.out (by repeat (first | (with_reducible first | exact HB.out | apply zam | apply zak | apply zan) | exact HB.out))); rintro e w3 ⟨v102, rfl, ho0, hb⟩; refine ⟨_, rfl, ?_⟩; have n0_ := Aside0.mk (Kd.R_lower ho0 (zbG (by repeat (first | (with_reducible first | exact HB.out | apply zam | apply zak | apply zan) | exact HB.out)))); have n1_ := Aside0.mk (zbx (by repeat (first | (with_reducible first | exact HB.out | apply zam | apply zak | apply zan) | exact HB.out)) hb); clear HB; have HO103 := n0_; have HB := n1_; clear n0_ n1_; (try clear hb); (try clear hb2); (try clear hk); (try clear hi); (try clear ho0)))
 go_ret
 exact ⟨_, by first | rfl | (simp [za9, za7] <;> rfl) | (simp [*, za9, za7] <;> rfl), by (with_reducible repeat (first | apply Kd.R_alloc | apply Kd.R_drewN | apply Kd.R_drew)); exact HO103.out, by repeat (first | (with_reducible first | exact HB.out | apply zam | apply zak | apply zan) | exact HB.out)⟩

-- EXT: function 128 (strconv_Itoa)

def mint_Number.f (a0 : Int) : Option (ByteArray) := (strconv_Itoa.f (mx a0 0)).bind fun t104 => (some t104)
theorem mint_Number.calls (a0 : Int) (r : ByteArray) (w : World) (hG : GOK w) (h : mint_Number.f a0 = some r) :
 Calls Tryz.prog 82 #[.int .i64 a0] w fun e w' => e = .returned (.string r) /\ Below w.heap.size w w' := by
 have HB := Aside0.mk (zpt w.heap.size w); have HG := Aside0.mk hG; clear hG; have H : ((strconv_Itoa.f (mx a0 0)).bind fun t104 => (some t104)) = some r := h
 clear h; obtain ⟨ji2, hji2⟩ : ∃ j_ : Int, (mx a0 0) = j_ := ⟨_, rfl⟩; replace H : ((strconv_Itoa.f (ji2)).bind fun t104 => (some t104)) = some r := by first | (rw [hji2] at H; exact H) | (simp only [hji2] at H |-; exact H)
 (try (have hji2l : 0 <= ji2 := by (rw [<- hji2]; unfold mx; (repeat' split) <;> omega)))
 (try (have hji2m : 0 <= ji2 := by omega))
 have hji2_ : (if a0 < 0 then 0 else a0) = ji2 := hji2
 replace H := zpG.mp H
 obtain ⟨t104, A30, H⟩ := H; replace H : (some t104) = some r := H
 have A3 := Aside0.mk A30; clear A30; obtain rfl := zp2 H; go_enter Tryz.func82, Tryz.ntmps82
 go_wp2_with (first | ((with_reducible refine zbP (f := 128) rfl ?_); refine zbO (some 5) rfl rfl Tryz.func128 (by kernel_rfl) rfl #[.int .i64 ji2] rfl (by (try simp only [List.map_toArray, List.map_cons, List.map_nil]); first | done | (simp only [hji2]; rfl) | rfl | (simp only [List.length_drop, List.length_take]; rfl)) ?_; (with_reducible refine (strconv_Itoa.calls ji2 t104 _ ?side99 A3.out).mono ?_); (case side99 => exact GOK.below HG.out (by repeat (first | (with_reducible first | exact HB.out | apply zam | apply zak | apply zan) | exact HB.out))); rintro e w4 ⟨rfl, hb⟩; refine ⟨_, rfl, ?_⟩; have n0_ := Aside0.mk (zbx (by repeat (first | (with_reducible first | exact HB.out | apply zam | apply zak | apply zan) | exact HB.out)) hb); clear HB; have HB := n0_; clear n0_; (try clear hb); (try clear hb2); (try clear hk); (try clear hi)))
 go_ret
 exact ⟨by first | rfl | (simp [za9, za7] <;> rfl) | (simp only [<- hji2]; first | rfl | (simp [za9, za7] <;> rfl)) | (simp [*, za9, za7] <;> rfl), by repeat (first | (with_reducible first | exact HB.out | apply zam | apply zak | apply zan) | exact HB.out)⟩

def shipwrightlaw1_Short.f (a0 : ByteArray) (a1 : Int) : Option (ByteArray) := if 0 <= (mn (a0.size : Int) a1) then (if (mn (a0.size : Int) a1) <= (a0.size : Int) then (some (a0.extract 0 ((mn (a0.size : Int) a1) : Int).toNat)) else (none)) else (none)
theorem shipwrightlaw1_Short.calls (a0 : ByteArray) (a1 : Int) (r : ByteArray) (w : World) (hG : GOK w) (h : shipwrightlaw1_Short.f a0 a1 = some r) :
 Calls Tryz.prog 19 #[.string a0, .int .i64 a1] w fun e w' => e = .returned (.string r) /\ Below w.heap.size w w' := by
 have HB := Aside0.mk (zpt w.heap.size w); have HG := Aside0.mk hG; clear hG; have H : (if 0 <= (mn (a0.size : Int) a1) then (if (mn (a0.size : Int) a1) <= (a0.size : Int) then (some (a0.extract 0 ((mn (a0.size : Int) a1) : Int).toNat)) else (none)) else (none)) = some r := h
 clear h; obtain ⟨ji3, hji3⟩ : ∃ j_ : Int, (mn (a0.size : Int) a1) = j_ := ⟨_, rfl⟩; replace H : (if 0 <= (ji3) then (if (ji3) <= (a0.size : Int) then (some (a0.extract 0 ((ji3) : Int).toNat)) else (none)) else (none)) = some r := by first | (rw [hji3] at H; exact H) | (simp only [hji3] at H |-; exact H)
 have hji3_ : (if a1 < (a0.size : Int) then a1 else (a0.size : Int)) = ji3 := hji3
 by_cases c4 : 0 <= (ji3)
 . rw [if_pos c4] at H
   have c4b0 := eq_true c4; have c4b1 : decide (0 <= (ji3)) = true := decide_eq_true c4; clear c4; by_cases c5 : (ji3) <= (a0.size : Int)
   . rw [if_pos c5] at H
     have c5b0 := eq_true c5; have c5b1 : decide ((ji3) <= (a0.size : Int)) = true := decide_eq_true c5; clear c5; obtain rfl := zp2 H; go_enter Tryz.func19, Tryz.ntmps19
     go_wp2; go_ret
     exact ⟨by first | rfl | (simp [za9, za7] <;> rfl) | (simp only [<- hji3]; first | rfl | (simp [za9, za7] <;> rfl)) | (simp [*, za9, za7] <;> rfl), by repeat (first | (with_reducible first | exact HB.out | apply zam | apply zak | apply zan) | exact HB.out)⟩
   . rw [if_neg c5] at H
     exact absurd H (by simp)
 . rw [if_neg c4] at H
   exact absurd H (by simp)

mutual
def shipwrightlaw1_Vals.l0 : Nat -> List (S34) -> List (S34) -> Int -> Option ((List (S34)))
 | 0, _, _, _ => none
 | k + 1, x0, x3, x4 => if x4 < (x0.length : Int) then (shipwrightlaw1_Vals.j1 k x0 x3 x4 (decide (x4 < 10))) else (shipwrightlaw1_Vals.j1 k x0 x3 x4 false)
def shipwrightlaw1_Vals.j1 : Nat -> List (S34) -> List (S34) -> Int -> Bool -> Option ((List (S34)))
 | 0, _, _, _, _ => none
 | k + 1, x0, x3, x4, x13 => if x13 = true then (if 0 <= x4 then (if x4 < (x0.length : Int) then (if ((zaE x0 x4).f0 = true) then (if x3.length < 5864062014805 then (shipwrightlaw1_Vals.l0 k x0 (x3 ++ [(⟨(zaE x0 x4).f0, (zaE x0 x4).f1⟩ : S34)]) (wrap64 (x4 + 1))) else (none)) else (if x3.length < 5864062014805 then (shipwrightlaw1_Vals.l0 k x0 (x3 ++ [(⟨(zaE x0 x4).f0, (⟨#[]⟩ : ByteArray)⟩ : S34)]) (wrap64 (x4 + 1))) else (none))) else (none)) else (none)) else (some x3)
end
def shipwrightlaw1_Vals.f (k : Nat) (l0 : List (S34)) : Option ((List (S34))) := shipwrightlaw1_Vals.l0 k l0 ([] : List (S34)) 0
theorem shipwrightlaw1_Vals.mono_l : ∀ k, (∀ y0 y1 y2, LeO (shipwrightlaw1_Vals.l0 k y0 y1 y2) (shipwrightlaw1_Vals.l0 (k + 1) y0 y1 y2)) /\ (∀ y0 y1 y2 y3, LeO (shipwrightlaw1_Vals.j1 k y0 y1 y2 y3) (shipwrightlaw1_Vals.j1 (k + 1) y0 y1 y2 y3))
 | 0 => ⟨fun _ _ _ r h => by simp [shipwrightlaw1_Vals.l0] at h, fun _ _ _ _ r h => by simp [shipwrightlaw1_Vals.j1] at h⟩
 | k + 1 => by
  obtain ⟨ih0, ih1⟩ := shipwrightlaw1_Vals.mono_l k; refine ⟨?_, ?_⟩
  . intro y0 y1 y2
    unfold shipwrightlaw1_Vals.l0; repeat' first
    | (with_reducible exact ih0 _ _ _)
    | (with_reducible exact ih1 _ _ _ _)
    | (with_reducible exact LeO.refl _)
    | (with_reducible exact LeO.none _)
    | (with_reducible refine LeO.ite ?_ ?_)
    | (with_reducible refine LeO.bind ?_ (fun _ => ?_))
    | exact ih0 _ _ _
    | exact ih1 _ _ _ _
    | exact LeO.none _
    | refine LeO.ite ?_ ?_
    | refine LeO.bind ?_ (fun _ => ?_)
  . intro y0 y1 y2 y3
    unfold shipwrightlaw1_Vals.j1; repeat' first
    | (with_reducible exact ih0 _ _ _)
    | (with_reducible exact ih1 _ _ _ _)
    | (with_reducible exact LeO.refl _)
    | (with_reducible exact LeO.none _)
    | (with_reducible refine LeO.ite ?_ ?_)
    | (with_reducible refine LeO.bind ?_ (fun _ => ?_))
    | exact ih0 _ _ _
    | exact ih1 _ _ _ _
    | exact LeO.none _
    | refine LeO.ite ?_ ?_
    | refine LeO.bind ?_ (fun _ => ?_)
theorem shipwrightlaw1_Vals.mono : ∀ a0 k, LeO (shipwrightlaw1_Vals.f k a0) (shipwrightlaw1_Vals.f (k + 1) a0) := by
 intro a0 k; obtain ⟨ih0, ih1⟩ := shipwrightlaw1_Vals.mono_l k; unfold shipwrightlaw1_Vals.f; repeat' first
  | (with_reducible exact ih0 _ _ _)
  | (with_reducible exact ih1 _ _ _ _)
  | (with_reducible exact LeO.refl _)
  | (with_reducible exact LeO.none _)
  | (with_reducible refine LeO.ite ?_ ?_)
  | (with_reducible refine LeO.bind ?_ (fun _ => ?_))
  | exact ih0 _ _ _
  | exact ih1 _ _ _ _
  | exact LeO.none _
  | refine LeO.ite ?_ ?_
  | refine LeO.bind ?_ (fun _ => ?_)
theorem shipwrightlaw1_Vals.calls (k : Nat) (A0 : Option Addr) (c0 : Nat) (l0 : List (S34)) (r : List (S34)) (w : World) (hG : GOK w) (hr0 : Kd.C k34 w A0 l0.length l0) (hc0 : l0.length <= c0) (h : shipwrightlaw1_Vals.f k l0 = some r) :
 Calls Tryz.prog 18 #[.slice A0 l0.length c0] w fun e w' => ∃ v0_ : Value, e = .returned (v0_) /\ Kd.R k34 34 w' w.heap.size (fun _ => True) v0_ r /\ Below w.heap.size w w' := by
 have hss := fun (w : World) (b o : Nat) (v : Value) => X.cell_set w b o v
 have hu34 := Tryz.underlying34; have HR0 := Aside0.mk hr0; have HC0 := Aside0.mk hc0; clear hr0 hc0; have HB := Aside0.mk (zpt w.heap.size w); have HG := Aside0.mk hG; clear hG; have H : (shipwrightlaw1_Vals.l0 k l0 ([] : List (S34)) 0) = some r := h; clear h; have H' := Aside0.mk H; clear H; go_enter Tryz.func18, Tryz.ntmps18
 go_wp2; go_loopg [3, 4] k (fun kq v3 v4 w' => ∃ (x3_1 : List (S34)) (x4_1 : Int), v4 = .int .i64 x4_1 /\ Aside0 (shipwrightlaw1_Vals.l0 kq l0 x3_1 x4_1 = some r) /\ Aside0 (kq <= k) /\ Aside0 (Kd.R k34 34 w' w.heap.size (fun _ => True) v3 x3_1) /\ Aside0 (Below w.heap.size w w'))
 case atStart => exact ⟨(([] : List (S34))), (0), (by first | rfl | (simp; done) | (simp [*]; done) | (simp [bne]; done) | (simp [*, bne]; done)), H', ⟨zpu _⟩, ⟨by first | exact Kd.R_nil _ _ _ _ _ | exact Kd.N_nil _ _ _ _ _ | exact Kd.V_nil _ _ _ _ _ | exact Kd.Q_nil _ _ _ _ _ | exact Kd.S_nil _ _ _ _ _⟩, ⟨by repeat (first | (with_reducible first | exact HB.out | apply zam | apply zak | apply zan) | exact HB.out)⟩⟩
 case round =>
  clear H'; try clear c1
  obtain ⟨x3_1, x4_1, rfl, HA, HK1, HO_3, HB⟩ := hrel; cases gk with
  | zero => exact absurd HA.out (by simp [shipwrightlaw1_Vals.l0])
  | succ k1 =>
   have H := HA.out; clear HA; simp only [shipwrightlaw1_Vals.l0] at H; have HC2 := Aside0.mk H; clear H; go_upto_region 3 with (fail)
   go_cut [13] (fun v13 wc => ∃ (kq : Nat) (x13_1 : Bool), v13 = .bool x13_1 /\ Aside0 (shipwrightlaw1_Vals.j1 kq l0 x3_1 x4_1 x13_1 = some r) /\ Aside0 (kq <= k1) /\ Aside0 (Kd.R k34 34 wc w.heap.size (fun _ => True) u3 x3_1) /\ Aside0 (Below w.heap.size w wc))
   case first =>
    have H := HC2.out; clear HC2; by_cases c3 : x4_1 < (l0.length : Int)
    . rw [if_pos c3] at H
      have c3b0 : decide (x4_1 < (l0.length : Int)) = true := decide_eq_true c3; clear c3
      (first | rw [c3b0] | (simp only [zao, zap]; rw [c3b0]) | skip)
      have H' := Aside0.mk H; clear H; go_wp2; go_meet
      case rel => exact ⟨_, (decide (x4_1 < 10)), (by first | rfl | (simp; done) | (simp [*]; done) | (simp [bne]; done) | (simp [*, bne]; done)), H', ⟨by have := HK1.out; first | omega | exact zpu _⟩, ⟨by (with_reducible repeat (first | apply Kd.R_alloc | apply Kd.R_drewN | apply Kd.R_drew)); first | exact HO_3.out | (set_option smartUnfolding false in exact HO_3.out)⟩, ⟨by repeat (first | (with_reducible first | exact HB.out | apply zam | apply zak | apply zan) | exact HB.out)⟩⟩
    . rw [if_neg c3] at H
      have c3b0 : decide (x4_1 < (l0.length : Int)) = false := decide_eq_false c3; clear c3
      (first | rw [c3b0] | (simp only [zao, zap]; rw [c3b0]) | skip)
      have H' := Aside0.mk H; clear H; go_wp2; go_meet
      case rel => exact ⟨_, (false), (by first | rfl | (simp; done) | (simp [*]; done) | (simp [bne]; done) | (simp [*, bne]; done)), H', ⟨by have := HK1.out; first | omega | exact zpu _⟩, ⟨by (with_reducible repeat (first | apply Kd.R_alloc | apply Kd.R_drewN | apply Kd.R_drew)); first | exact HO_3.out | (set_option smartUnfolding false in exact HO_3.out)⟩, ⟨by repeat (first | (with_reducible first | exact HB.out | apply zam | apply zak | apply zan) | exact HB.out)⟩⟩
   case rest =>
    clear HC2; try clear c1
    try clear p2
    try clear c3
    try clear c3b0
    obtain ⟨kq, x13_1, rfl, HA, HJ1, HO_3, HB⟩ := hcut; cases kq with
    | zero => exact absurd HA.out (by simp [shipwrightlaw1_Vals.j1])
    | succ kj1 =>
     have H := HA.out; clear HA; simp only [shipwrightlaw1_Vals.j1] at H; by_cases c4 : x13_1 = true
     . subst c4
       have H1 : (if 0 <= x4_1 then (if x4_1 < (l0.length : Int) then (if ((zaE l0 x4_1).f0 = true) then (if x3_1.length < 5864062014805 then (shipwrightlaw1_Vals.l0 kj1 l0 (x3_1 ++ [(⟨(zaE l0 x4_1).f0, (zaE l0 x4_1).f1⟩ : S34)]) (wrap64 (x4_1 + 1))) else (none)) else (if x3_1.length < 5864062014805 then (shipwrightlaw1_Vals.l0 kj1 l0 (x3_1 ++ [(⟨(zaE l0 x4_1).f0, (⟨#[]⟩ : ByteArray)⟩ : S34)]) (wrap64 (x4_1 + 1))) else (none))) else (none)) else (none)) = some r := by rw [if_pos rfl] at H; exact H
       clear H; have H := H1; clear H1; by_cases c5 : 0 <= x4_1
       . rw [if_pos c5] at H
         have c5b0 : decide (0 <= x4_1) = true := decide_eq_true c5; clear c5; by_cases c6 : x4_1 < (l0.length : Int)
         . rw [if_pos c6] at H
           have c6b0 : decide (x4_1 < (l0.length : Int)) = true := decide_eq_true c6; clear c6; obtain ⟨bq7, hbq7⟩ : ∃ b_ : Bool, b_ = ((zaE l0 x4_1).f0) := ⟨_, rfl⟩; replace H : (if (bq7 = true) then (if x3_1.length < 5864062014805 then (shipwrightlaw1_Vals.l0 kj1 l0 (x3_1 ++ [(⟨bq7, (zaE l0 x4_1).f1⟩ : S34)]) (wrap64 (x4_1 + 1))) else (none)) else (if x3_1.length < 5864062014805 then (shipwrightlaw1_Vals.l0 kj1 l0 (x3_1 ++ [(⟨bq7, (⟨#[]⟩ : ByteArray)⟩ : S34)]) (wrap64 (x4_1 + 1))) else (none))) = some r := by rw [<- hbq7] at H; exact H
           have Nbq7 := Aside0.mk hbq7; clear hbq7; by_cases c8 : (bq7 = true)
           . subst c8
             have H1 : (if x3_1.length < 5864062014805 then (shipwrightlaw1_Vals.l0 kj1 l0 (x3_1 ++ [(⟨true, (zaE l0 x4_1).f1⟩ : S34)]) (wrap64 (x4_1 + 1))) else (none)) = some r := by rw [if_pos rfl] at H; exact H
             clear H; have H := H1; clear H1; by_cases c9 : x3_1.length < 5864062014805
             . rw [if_pos c9] at H
               have LMc9 := Aside0.mk c9; clear c9; obtain ⟨y107, hy107⟩ : ∃ y_ : List (S34), y_ = (x3_1 ++ [(⟨true, (zaE l0 x4_1).f1⟩ : S34)]) := ⟨_, rfl⟩; replace H : (shipwrightlaw1_Vals.l0 kj1 l0 y107 (wrap64 (x4_1 + 1))) = some r := by first | (rw [hy107]; with_reducible exact H) | (have H2_ := (zp7 _ _).symm.trans H; rw [hy107]; with_reducible exact H2_) | (have H2_ := (zp7 _ _).symm.trans H; with_reducible exact H2_) | with_reducible exact H | (rw [hy107]; exact H) | exact H
               have Ny107 := Aside0.mk hy107; clear hy107; have H' := Aside0.mk H; clear H; have p105 : 0 <= (x4_1 : Int) := of_decide_eq_true (by first | (with_reducible assumption) | assumption)
               have q105 : x4_1 < (l0.length : Int) := of_decide_eq_true (by first | (with_reducible assumption) | assumption)
               obtain ⟨ad105, e105, hx105_0, hx105_1⟩ := zdw HR0.out x4_1 p105 q105
               (try rw [<- Nbq7.out] at hx105_0)
               cases e105
               replace hx105_0 := (HB.out.cell (zpr w _ hx105_0)).trans hx105_0
               replace hx105_1 := (HB.out.cell (zpr w _ hx105_1)).trans hx105_1
               replace p105 := eq_true p105
               replace q105 := eq_true q105
               go_wp2_with (first | ((with_reducible refine zeF (N := 5) rfl ?_); refine zel ?hg (N := 5) ?hd (cs := #[.bool false, .string (⟨#[]⟩ : ByteArray)]) (t := 34) ?hr ?_; (case hd => rfl); (case hg => rfl); (case hr => first | (go_simp; done) | (go_simp; rfl)); intro gb106 hg w10 hbox hb; have n0_ := Aside0.mk (Kd.R_below (Kd.R_elderB (by (with_reducible repeat (first | apply Kd.R_alloc | apply Kd.R_drewN | apply Kd.R_drew)); exact HO_3.out) gb106 (Nat.le_of_eq hg.symm)) hb); have n1_ := Aside0.mk (zbx (by repeat (first | (with_reducible first | exact HB.out | apply zam | apply zak | apply zan) | exact HB.out)) hb); have n2_ := Aside0.mk (hbox); have n3_ := Aside0.mk ((by rw [hg]; exact (zbG (by repeat (first | (with_reducible first | exact HB.out | apply zam | apply zak | apply zan) | exact HB.out))) : w.heap.size <= gb106)); have n4_ := Aside0.mk ((by rw [hg]; exact (zbG (by repeat (first | (with_reducible first | exact HB.out | apply zam | apply zak | apply zan) | exact HB.out))) : w.heap.size <= gb106)); clear HO_3; clear HB; have HO_3 := n0_; have HB := n1_; have BK106 := n2_; have GW106 := n3_; have GE106 := n4_; clear n0_ n1_ n2_ n3_ n4_; clear hb hbox hg; have hcz11_0 : w10.cell? ⟨gb106, 0, none⟩ = some (.bool false) := (zab BK106.out 0).trans rfl; have hcz11_1 : w10.cell? ⟨gb106, 1, none⟩ = some (.string (⟨#[]⟩ : ByteArray)) := (zab BK106.out 1).trans rfl; have hfz11_0 := zai BK106.out 0; have hfz11_1 := zai BK106.out 1) | ((with_reducible refine zaG (b := .append) (xs := #[.tmp 24, .tmp 26]) rfl ?_); at_builtin; refine Kd.R_append k34 (w0 := w) w.heap.size rfl (.tmp 24) (.tmp 26) 25 34 (.agg #[(.bool false), (.string ⟨#[]⟩)]) 24 rfl Tryz.underlying25 zcH rfl (by decide) (by omega) u3 x3_1 (⟨true, (zaE l0 x4_1).f1⟩ : S34) [.bool true, .string ((zaE l0 x4_1).f1)] (fun k_ => k_ ≠ gb106) (fun _ => False) rfl (by first | (go_simp; done) | (go_simp; rfl)) ?aP (fun _ hk => hk.elim) ?aF ?aO ?aB ?aS ?aL ?_; (case aP => exact zco _ _ _ (⟨true, (zaE l0 x4_1).f1⟩ : S34)); (case aB => exact (by repeat (first | (with_reducible first | exact HB.out | apply zam | apply zak | apply zan | refine zca ?_ GE106.out) | exact HB.out))); (case aF => exact (fun k_ hk => Kd.freshB (g := gb106) (o := .cells #[.bool true, .string ((zaE l0 x4_1).f1)] 34 (0, 0)) (by (with_reducible repeat (first | refine zbm ?_ _ | refine zax ?_ | refine zaB ?_ _)); refine zat (cs := #[.bool true, .string (⟨#[]⟩ : ByteArray)]) ?_ 1 _ rfl; (with_reducible repeat (first | refine zbm ?_ _ | refine zax ?_ | refine zaB ?_ _)); refine zat (cs := #[.bool false, .string (⟨#[]⟩ : ByteArray)]) ?_ 0 _ rfl; (with_reducible repeat (first | refine zbm ?_ _ | refine zax ?_ | refine zaB ?_ _)); exact BK106.out) k_ hk)); (case aO => exact (by (with_reducible repeat (first | apply Kd.R_alloc | apply Kd.R_drewN | apply Kd.R_drew)); exact Kd.R_mono (Kd.R_far (p := ⟨gb106, 1, none⟩) (Kd.R_far (p := ⟨gb106, 0, none⟩) (Kd.R_mono HO_3.out (fun k_ hk => (⟨hk, hk.2⟩ : _ /\ k_ ≠ gb106))) (fun _ hk => hk.2) (.bool true)) (fun _ hk => hk.2) (.string ((zaE l0 x4_1).f1))) (fun _ hk => hk.1.2))); (case aS => exact (zbG (by repeat (first | (with_reducible first | exact HB.out | apply zam | apply zak | apply zan | refine zca ?_ GE106.out) | exact HB.out)))); (case aL => have := LMc9.out; omega); intro v108 w12 ho hb hg hat; rw [<- Ny107.out] at ho; have n0_ := Aside0.mk (zaT (g := gb106) (o := .cells #[.bool true, .string ((zaE l0 x4_1).f1)] 34 (0, 0)) (by (with_reducible repeat (first | refine zbm ?_ _ | refine zax ?_ | refine zaB ?_ _)); refine zat (cs := #[.bool true, .string (⟨#[]⟩ : ByteArray)]) ?_ 1 _ rfl; (with_reducible repeat (first | refine zbm ?_ _ | refine zax ?_ | refine zaB ?_ _)); refine zat (cs := #[.bool false, .string (⟨#[]⟩ : ByteArray)]) ?_ 0 _ rfl; (with_reducible repeat (first | refine zbm ?_ _ | refine zax ?_ | refine zaB ?_ _)); exact BK106.out) hg (Kd.R_away HO_3.out (fun _ hk => hk.2))); have n1_ := Aside0.mk (hb); have n2_ := Aside0.mk (ho); clear BK106; clear HB; clear HO_3; have BK106 := n0_; have HB := n1_; have HO109 := n2_; clear n0_ n1_ n2_; clear ho hb hg hat))
               go_roundg kj1
               case measure => have := HK1.out; have := HJ1.out; omega
               case rel => exact ⟨(y107), (wrap64 (x4_1 + 1)), (by first | rfl | (simp; done) | (simp [*]; done) | (simp [bne]; done) | (simp [*, bne]; done)), H', ⟨by have := HK1.out; have := HJ1.out; omega⟩, ⟨by (with_reducible repeat (first | apply Kd.R_alloc | apply Kd.R_drewN | apply Kd.R_drew)); exact Kd.R_mono HO109.out (fun _ hk => trivial)⟩, ⟨by repeat (first | (with_reducible first | exact HB.out | apply zam | apply zak | apply zan | refine zca ?_ GE106.out) | exact HB.out)⟩⟩
             . rw [if_neg c9] at H
               exact absurd H (by simp)
           . replace c8 := Bool.eq_false_iff.mpr c8
             subst c8; have H1 : (if x3_1.length < 5864062014805 then (shipwrightlaw1_Vals.l0 kj1 l0 (x3_1 ++ [(⟨false, (⟨#[]⟩ : ByteArray)⟩ : S34)]) (wrap64 (x4_1 + 1))) else (none)) = some r := by rw [if_neg (show ¬ (false = true) by decide)] at H; exact H
             clear H; have H := H1; clear H1; by_cases c13 : x3_1.length < 5864062014805
             . rw [if_pos c13] at H
               have LMc13 := Aside0.mk c13; clear c13; obtain ⟨y110, hy110⟩ : ∃ y_ : List (S34), y_ = (x3_1 ++ [(⟨false, (⟨#[]⟩ : ByteArray)⟩ : S34)]) := ⟨_, rfl⟩; replace H : (shipwrightlaw1_Vals.l0 kj1 l0 y110 (wrap64 (x4_1 + 1))) = some r := by first | (rw [hy110]; with_reducible exact H) | (have H2_ := (zp7 _ _).symm.trans H; rw [hy110]; with_reducible exact H2_) | (have H2_ := (zp7 _ _).symm.trans H; with_reducible exact H2_) | with_reducible exact H | (rw [hy110]; exact H) | exact H
               have Ny110 := Aside0.mk hy110; clear hy110; have H' := Aside0.mk H; clear H; have p105 : 0 <= (x4_1 : Int) := of_decide_eq_true (by first | (with_reducible assumption) | assumption)
               have q105 : x4_1 < (l0.length : Int) := of_decide_eq_true (by first | (with_reducible assumption) | assumption)
               obtain ⟨ad105, e105, hx105_0, hx105_1⟩ := zdw HR0.out x4_1 p105 q105
               (try rw [<- Nbq7.out] at hx105_0)
               cases e105
               replace hx105_0 := (HB.out.cell (zpr w _ hx105_0)).trans hx105_0
               replace hx105_1 := (HB.out.cell (zpr w _ hx105_1)).trans hx105_1
               replace p105 := eq_true p105
               replace q105 := eq_true q105
               go_wp2_with (first | ((with_reducible refine zeF (N := 5) rfl ?_); refine zel ?hg (N := 5) ?hd (cs := #[.bool false, .string (⟨#[]⟩ : ByteArray)]) (t := 34) ?hr ?_; (case hd => rfl); (case hg => rfl); (case hr => first | (go_simp; done) | (go_simp; rfl)); intro gb106 hg w14 hbox hb; have n0_ := Aside0.mk (Kd.R_below (Kd.R_elderB (by (with_reducible repeat (first | apply Kd.R_alloc | apply Kd.R_drewN | apply Kd.R_drew)); exact HO_3.out) gb106 (Nat.le_of_eq hg.symm)) hb); have n1_ := Aside0.mk (zbx (by repeat (first | (with_reducible first | exact HB.out | apply zam | apply zak | apply zan) | exact HB.out)) hb); have n2_ := Aside0.mk (hbox); have n3_ := Aside0.mk ((by rw [hg]; exact (zbG (by repeat (first | (with_reducible first | exact HB.out | apply zam | apply zak | apply zan) | exact HB.out))) : w.heap.size <= gb106)); have n4_ := Aside0.mk ((by rw [hg]; exact (zbG (by repeat (first | (with_reducible first | exact HB.out | apply zam | apply zak | apply zan) | exact HB.out))) : w.heap.size <= gb106)); clear HO_3; clear HB; have HO_3 := n0_; have HB := n1_; have BK106 := n2_; have GW106 := n3_; have GE106 := n4_; clear n0_ n1_ n2_ n3_ n4_; clear hb hbox hg; have hcz15_0 : w14.cell? ⟨gb106, 0, none⟩ = some (.bool false) := (zab BK106.out 0).trans rfl; have hcz15_1 : w14.cell? ⟨gb106, 1, none⟩ = some (.string (⟨#[]⟩ : ByteArray)) := (zab BK106.out 1).trans rfl; have hfz15_0 := zai BK106.out 0; have hfz15_1 := zai BK106.out 1) | ((with_reducible refine zaG (b := .append) (xs := #[.tmp 24, .tmp 26]) rfl ?_); at_builtin; refine Kd.R_append k34 (w0 := w) w.heap.size rfl (.tmp 24) (.tmp 26) 25 34 (.agg #[(.bool false), (.string ⟨#[]⟩)]) 24 rfl Tryz.underlying25 zcH rfl (by decide) (by omega) u3 x3_1 (⟨false, (⟨#[]⟩ : ByteArray)⟩ : S34) [.bool false, .string (⟨#[]⟩ : ByteArray)] (fun k_ => k_ ≠ gb106) (fun _ => False) rfl (by first | (go_simp; done) | (go_simp; rfl)) ?aP (fun _ hk => hk.elim) ?aF ?aO ?aB ?aS ?aL ?_; (case aP => exact zco _ _ _ (⟨false, (⟨#[]⟩ : ByteArray)⟩ : S34)); (case aB => exact (by repeat (first | (with_reducible first | exact HB.out | apply zam | apply zak | apply zan | refine zca ?_ GE106.out) | exact HB.out))); (case aF => exact (fun k_ hk => Kd.freshB (g := gb106) (o := .cells #[.bool false, .string (⟨#[]⟩ : ByteArray)] 34 (0, 0)) (by (with_reducible repeat (first | refine zbm ?_ _ | refine zax ?_ | refine zaB ?_ _)); refine zat (cs := #[.bool false, .string ((zaE l0 x4_1).f1)]) ?_ 1 _ rfl; (with_reducible repeat (first | refine zbm ?_ _ | refine zax ?_ | refine zaB ?_ _)); refine zat (cs := #[.bool false, .string (⟨#[]⟩ : ByteArray)]) ?_ 1 _ rfl; (with_reducible repeat (first | refine zbm ?_ _ | refine zax ?_ | refine zaB ?_ _)); refine zat (cs := #[.bool false, .string (⟨#[]⟩ : ByteArray)]) ?_ 0 _ rfl; (with_reducible repeat (first | refine zbm ?_ _ | refine zax ?_ | refine zaB ?_ _)); exact BK106.out) k_ hk)); (case aO => exact (by (with_reducible repeat (first | apply Kd.R_alloc | apply Kd.R_drewN | apply Kd.R_drew)); exact Kd.R_mono (Kd.R_far (p := ⟨gb106, 1, none⟩) (Kd.R_far (p := ⟨gb106, 1, none⟩) (Kd.R_far (p := ⟨gb106, 0, none⟩) (Kd.R_mono HO_3.out (fun k_ hk => (⟨hk, hk.2⟩ : _ /\ k_ ≠ gb106))) (fun _ hk => hk.2) (.bool false)) (fun _ hk => hk.2) (.string ((zaE l0 x4_1).f1))) (fun _ hk => hk.2) (.string (⟨#[]⟩ : ByteArray))) (fun _ hk => hk.1.2))); (case aS => exact (zbG (by repeat (first | (with_reducible first | exact HB.out | apply zam | apply zak | apply zan | refine zca ?_ GE106.out) | exact HB.out)))); (case aL => have := LMc13.out; omega); intro v111 w16 ho hb hg hat; rw [<- Ny110.out] at ho; have n0_ := Aside0.mk (zaT (g := gb106) (o := .cells #[.bool false, .string (⟨#[]⟩ : ByteArray)] 34 (0, 0)) (by (with_reducible repeat (first | refine zbm ?_ _ | refine zax ?_ | refine zaB ?_ _)); refine zat (cs := #[.bool false, .string ((zaE l0 x4_1).f1)]) ?_ 1 _ rfl; (with_reducible repeat (first | refine zbm ?_ _ | refine zax ?_ | refine zaB ?_ _)); refine zat (cs := #[.bool false, .string (⟨#[]⟩ : ByteArray)]) ?_ 1 _ rfl; (with_reducible repeat (first | refine zbm ?_ _ | refine zax ?_ | refine zaB ?_ _)); refine zat (cs := #[.bool false, .string (⟨#[]⟩ : ByteArray)]) ?_ 0 _ rfl; (with_reducible repeat (first | refine zbm ?_ _ | refine zax ?_ | refine zaB ?_ _)); exact BK106.out) hg (Kd.R_away HO_3.out (fun _ hk => hk.2))); have n1_ := Aside0.mk (hb); have n2_ := Aside0.mk (ho); clear BK106; clear HB; clear HO_3; have BK106 := n0_; have HB := n1_; have HO112 := n2_; clear n0_ n1_ n2_; clear ho hb hg hat))
               go_roundg kj1
               case measure => have := HK1.out; have := HJ1.out; omega
               case rel => exact ⟨(y110), (wrap64 (x4_1 + 1)), (by first | rfl | (simp; done) | (simp [*]; done) | (simp [bne]; done) | (simp [*, bne]; done)), H', ⟨by have := HK1.out; have := HJ1.out; omega⟩, ⟨by (with_reducible repeat (first | apply Kd.R_alloc | apply Kd.R_drewN | apply Kd.R_drew)); exact Kd.R_mono HO112.out (fun _ hk => trivial)⟩, ⟨by repeat (first | (with_reducible first | exact HB.out | apply zam | apply zak | apply zan | refine zca ?_ GE106.out) | exact HB.out)⟩⟩
             . rw [if_neg c13] at H
               exact absurd H (by simp)
         . rw [if_neg c6] at H
           exact absurd H (by simp)
       . rw [if_neg c5] at H
         exact absurd H (by simp)
     . replace c4 := Bool.eq_false_iff.mpr c4
       subst c4; have H1 : (some x3_1) = some r := by rw [if_neg (show ¬ (false = true) by decide)] at H; exact H
       clear H; have H := H1; clear H1; obtain rfl := zp2 H; go_wp2; go_ret
       exact ⟨_, by first | rfl | (simp [za9, za7] <;> rfl) | (simp [*, za9, za7] <;> rfl), by (with_reducible repeat (first | apply Kd.R_alloc | apply Kd.R_drewN | apply Kd.R_drew)); exact HO_3.out, by repeat (first | (with_reducible first | exact HB.out | apply zam | apply zak | apply zan) | exact HB.out)⟩

end Go.Proofs.YtdpgdnpddndeoaaGreatDoor.Pb
