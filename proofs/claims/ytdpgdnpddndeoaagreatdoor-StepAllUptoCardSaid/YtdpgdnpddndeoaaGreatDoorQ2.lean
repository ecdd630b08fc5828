/-
  What the cards lean on (part Q2): contracts of functions, by hand, and plain laws; what is printed by the kit's print for this seat is among them. What is not reached is left out.
-/
import Derived.Shelf.SlGeneric
import Derived.Shelf.Strings.Split
import Derived.Shelf.Strings.Cut
import Derived.Shelf.Strings.OnBuilder
import Derived.Shelf.LaysM
import Derived.Shelf.LaysC
import Derived.Shelf.GgClosure.StringsRunes
import Derived.Shelf.SlicesE.DeleteFunc
import Derived.Shelf.SlicesE.IndexFunc
import Derived.Shelf.Slices.Clone
import Derived.Shelf.Strconv.Itoa3
import Derived.Shelf.Strconv.AtoiAll
import Derived.Ground.NamesProg
import Derived.Ground.SlgfProg
import Derived.Ground.GgwProg
import Derived.Ground.Names2Prog
import Derived.Ground.SlmcProg
import Derived.Shelf.SlMaps.Clone
import Derived.Shelf.SlIter.Nil
import Derived.Shelf.SortM.Plain
import Derived.Shelf.SortM.SortNone
import Derived.Ground.GgzProg
import Derived.Ground.SlgmProg
import Derived.Test.YtdpgdnpddndeoaaGreatDoorProg
import Derived.Shelf.GgClosure.Gives
import Derived.Below
import Derived.Deep.Draws
import Derived.Deep.AppendLies
import Derived.Maps.AppendAt
import Derived.OwnWalk
import Derived.Laws.BytesArg
import Derived.Laws.MakeOwn
import Derived.Laws.OwnMore
import Derived.Deep.OwnRows
import Derived.Tactics
import Derived.Lib.ConvBytes
import Derived.Laws.Slices
import Derived.WalkKit
import Derived.KernelRfl
import Derived.RowKit3
import Derived.Deep.LoopGhost
import Derived.Deep.QuietTactic
import Derived.BigQuiet
import Derived.WideLaws
import Derived.Deep.DeepCutAuto
import Derived.Deep.CutBlock
import Derived.Deep.RegionHeld3
import Derived.Laws.Rows
import Derived.Lib.AppendStr
import Derived.ArgAppend
import Derived.Laws.IdiomCopy
import Derived.OrdersHeld
import Derived.Laws.BitsLemmas
import Derived.RowKit
import Derived.Laws.RangeAny
import Derived.Sort.Grow
import Derived.Lib.AtoiAllCases
import Derived.Lib.SmallJoins
import Derived.Maps.OwnSet
import Derived.Maps.StringElems
import Derived.WalkSpells
import Derived.ChangeMaps5
import Derived.Sort.KeysCollected
import Derived.Sort.Walk0
import Derived.Test.YtdpgdnpddndeoaaGreatDoorQ0
import Derived.Test.YtdpgdnpddndeoaaGreatDoorQ1
set_option maxHeartbeats 8000000
set_option maxRecDepth 100000
set_option linter.unusedSimpArgs false
set_option linter.unusedVariables false
open Go.RowKit.Below renaming refl -> zpr
open Nat renaming le_refl -> zps, le_trans -> zpy, zero_le -> zqf
open Go.Lib renaming size_eq -> zp7
open List renaming map_map -> zp8, getElem?_eq_getElem -> zpv, getD_eq_getElem?_getD -> zpw, length_map -> zp9, length_take -> zpD, length_append -> zpF, take_length -> zqa, map_cons -> zpS, map_nil -> zpT, take_succ_eq_append_getElem -> zpU, length_cons -> zqc, drop_eq_nil_of_le -> zqe, getElem?_take_of_lt -> zqg, length_filter_le -> zqi, map_append -> zqj
open Array renaming getElem?_eq_some_iff -> zpt, getElem?_modify -> zqb, getElem?_toList -> zqd
open Option renaming bind_eq_some_iff -> zpE, isSome_none -> zqh, getD_some -> zqk
open Option.some renaming inj -> zp2
open Go.Proofs.Tryz renaming prog -> zp0
open ByteArray renaming empty -> zp1
open Go.Proofs.YtdpgdnpddndeoaaGreatDoorW.PrintWords.Kd renaming string -> zp6, R_reads -> zql
namespace Go.Proofs
section
open Go.Shelf
def Tryz.laysM146_ren : Go.Shelf.Ren := ⟨fun | 146 => 57 | 221 => 77 | 268 => 120 | 138 => 121 | 143 => 122 | 195 => 151 | 197 => 152 | 218 => 153 | 219 => 154 | 260 => 202 | 217 => 203 | 225 => 204 | 224 => 205 | 267 => 206 | 266 => 228 | 314 => 229 | n => n, fun | 9 => 9 | 31 => 22 | 3 => 3 | 4 => 4 | 0 => 0 | 105 => 177 | 21 => 21 | 5 => 5 | 46 => 160 | 119 => 233 | 139 => 236 | 138 => 235 | 146 => 237 | 51 => 191 | n => n, fun | 1 => 0 | 3 => 1 | 4 => 2 | n => n⟩
theorem Tryz.laysM146 : Go.Proofs.LaysM.n146 zp0 Tryz.laysM146_ren := {
 mixed := by kernel_rfl
 f138 := Tryz.func121.trans (congrArg some (by kernel_rfl))
 f143 := Tryz.func122.trans (congrArg some (by kernel_rfl))
 f146 := Tryz.func57.trans (congrArg some (by kernel_rfl))
 f195 := Tryz.func151.trans (congrArg some (by kernel_rfl))
 f197 := Tryz.func152.trans (congrArg some (by kernel_rfl))
 f217 := Tryz.func203.trans (congrArg some (by kernel_rfl))
 f218 := Tryz.func153.trans (congrArg some (by kernel_rfl))
 f219 := Tryz.func154.trans (congrArg some (by kernel_rfl))
 f221 := Tryz.func77.trans (congrArg some (by kernel_rfl))
 f224 := Tryz.func205.trans (congrArg some (by kernel_rfl))
 f225 := Tryz.func204.trans (congrArg some (by kernel_rfl))
 f260 := Tryz.func202.trans (congrArg some (by kernel_rfl))
 f266 := Tryz.func228.trans (congrArg some (by kernel_rfl))
 f267 := Tryz.func206.trans (congrArg some (by kernel_rfl))
 f268 := Tryz.func120.trans (congrArg some (by kernel_rfl))
 f314 := Tryz.func229.trans (congrArg some (by kernel_rfl))
 t0 := Tryz.underlying0
 a0 := Tryz.isAgg0
 z0 := Tryz.sizeOf0
 v0 := Tryz.zeroValue0
 t3 := Tryz.underlying3
 a3 := Tryz.isAgg3
 z3 := Tryz.sizeOf3
 v3 := Tryz.zeroValue3
 t4 := Tryz.underlying4
 a4 := Tryz.isAgg4
 z4 := Tryz.sizeOf4
 v4 := Tryz.zeroValue4
 t5 := Tryz.underlying5
 a5 := Tryz.isAgg5
 z5 := Tryz.sizeOf5
 v5 := Tryz.zeroValue5
 t9 := Tryz.underlying9
 a9 := Tryz.isAgg9
 z9 := Tryz.sizeOf9
 v9 := Tryz.zeroValue9
 t21 := Tryz.underlying21
 a21 := Tryz.isAgg21
 z21 := Tryz.sizeOf21
 v21 := Tryz.zeroValue21
 t31 := Tryz.underlying22
 a31 := Tryz.isAgg22
 z31 := Tryz.sizeOf22
 v31 := Tryz.zeroValue22
 t46 := Tryz.underlying160
 a46 := Tryz.isAgg160
 z46 := Tryz.sizeOf160
 v46 := Tryz.zeroValue160
 t51 := Tryz.underlying191
 a51 := Tryz.isAgg191
 z51 := Tryz.sizeOf191
 v51 := Tryz.zeroValue191
 t105 := Tryz.underlying177
 a105 := Tryz.isAgg177
 z105 := Tryz.sizeOf177
 v105 := Tryz.zeroValue177
 t119 := Tryz.underlying233
 a119 := Tryz.isAgg233
 z119 := Tryz.sizeOf233
 t138 := Tryz.underlying235
 a138 := Tryz.isAgg235
 z138 := Tryz.sizeOf235
 v138 := Tryz.zeroValue235
 t139 := Tryz.underlying236
 a139 := Tryz.isAgg236
 z139 := Tryz.sizeOf236
 v139 := Tryz.zeroValue236
 t146 := Tryz.underlying237
 a146 := Tryz.isAgg237
 z146 := Tryz.sizeOf237
 v146 := Tryz.zeroValue237
 g1 := by kernel_rfl
 g3 := by kernel_rfl
 g4 := by kernel_rfl
 i0 := by kernel_rfl
 i3 := by kernel_rfl
 i4 := by kernel_rfl
 i5 := by kernel_rfl
 i9 := by kernel_rfl
 i21 := by kernel_rfl
 i31 := by kernel_rfl
 i46 := by kernel_rfl
 i51 := by kernel_rfl
 i105 := by kernel_rfl
 i138 := by kernel_rfl
 i139 := by kernel_rfl
 i146 := by kernel_rfl
 m1 := by kernel_rfl
 s1_3 := fun w h => Go.Proofs.cell_of_shapedOpen_int (zero := #[.int .i64 0]) (t := 3) h (of_decide_eq_true (by kernel_rfl)) (by kernel_rfl) rfl (by kernel_rfl) (by kernel_rfl) Tryz.underlying3
 m3 := by kernel_rfl
 m4 := by kernel_rfl }
def Tryz.lays145_ren : Go.Shelf.Ren := ⟨fun | 145 => 222 | 220 => 237 | 219 => 154 | 217 => 203 | 225 => 204 | 224 => 205 | 267 => 206 | 266 => 228 | 314 => 229 | n => n, fun | 9 => 9 | 4 => 4 | 59 => 228 | 3 => 3 | 5 => 5 | 46 => 160 | 146 => 237 | 51 => 191 | n => n, fun | 1 => 0 | n => n⟩
theorem Tryz.lays145 : Go.Proofs.Lays.n145 zp0 Tryz.lays145_ren := {
 mixed := by kernel_rfl
 f145 := Tryz.func222.trans (congrArg some (by kernel_rfl))
 f217 := Tryz.func203.trans (congrArg some (by kernel_rfl))
 f219 := Tryz.func154.trans (congrArg some (by kernel_rfl))
 f220 := Tryz.func237.trans (congrArg some (by kernel_rfl))
 f224 := Tryz.func205.trans (congrArg some (by kernel_rfl))
 f225 := Tryz.func204.trans (congrArg some (by kernel_rfl))
 f266 := Tryz.func228.trans (congrArg some (by kernel_rfl))
 f267 := Tryz.func206.trans (congrArg some (by kernel_rfl))
 f314 := Tryz.func229.trans (congrArg some (by kernel_rfl))
 t3 := Tryz.underlying3
 a3 := Tryz.isAgg3
 z3 := Tryz.sizeOf3
 v3 := Tryz.zeroValue3
 t4 := Tryz.underlying4
 a4 := Tryz.isAgg4
 z4 := Tryz.sizeOf4
 v4 := Tryz.zeroValue4
 t5 := Tryz.underlying5
 a5 := Tryz.isAgg5
 z5 := Tryz.sizeOf5
 v5 := Tryz.zeroValue5
 t9 := Tryz.underlying9
 a9 := Tryz.isAgg9
 z9 := Tryz.sizeOf9
 v9 := Tryz.zeroValue9
 t46 := Tryz.underlying160
 a46 := Tryz.isAgg160
 z46 := Tryz.sizeOf160
 v46 := Tryz.zeroValue160
 t51 := Tryz.underlying191
 a51 := Tryz.isAgg191
 z51 := Tryz.sizeOf191
 v51 := Tryz.zeroValue191
 t59 := Tryz.underlying228
 a59 := Tryz.isAgg228
 z59 := Tryz.sizeOf228
 v59 := Tryz.zeroValue228
 t146 := Tryz.underlying237
 a146 := Tryz.isAgg237
 z146 := Tryz.sizeOf237
 v146 := Tryz.zeroValue237
 g1 := by kernel_rfl }
def Tryz.lays156_ren : Go.Shelf.Ren := ⟨fun | 156 => 83 | 165 => 129 | 166 => 124 | 169 => 125 | 240 => 155 | 241 => 158 | 276 => 207 | 277 => 209 | n => n, fun | 31 => 22 | 9 => 9 | 3 => 3 | 4 => 4 | 0 => 0 | 20 => 20 | 72 => 150 | 76 => 153 | 70 => 148 | 37 => 90 | 75 => 152 | 127 => 180 | 164 => 214 | 5 => 5 | 80 => 155 | n => n, fun | n => n⟩
theorem Tryz.lays156 : Go.Proofs.Lays.n156 zp0 Tryz.lays156_ren := {
 mixed := by kernel_rfl
 f156 := Tryz.func83.trans (congrArg some (by kernel_rfl))
 f165 := Tryz.func129.trans (congrArg some (by kernel_rfl))
 f166 := Tryz.func124.trans (congrArg some (by kernel_rfl))
 f169 := Tryz.func125.trans (congrArg some (by kernel_rfl))
 f240 := Tryz.func155.trans (congrArg some (by kernel_rfl))
 f241 := Tryz.func158.trans (congrArg some (by kernel_rfl))
 f276 := Tryz.func207.trans (congrArg some (by kernel_rfl))
 f277 := Tryz.func209.trans (congrArg some (by kernel_rfl))
 t0 := Tryz.underlying0
 a0 := Tryz.isAgg0
 z0 := Tryz.sizeOf0
 v0 := Tryz.zeroValue0
 t3 := Tryz.underlying3
 a3 := Tryz.isAgg3
 z3 := Tryz.sizeOf3
 v3 := Tryz.zeroValue3
 t4 := Tryz.underlying4
 a4 := Tryz.isAgg4
 z4 := Tryz.sizeOf4
 v4 := Tryz.zeroValue4
 t9 := Tryz.underlying9
 a9 := Tryz.isAgg9
 z9 := Tryz.sizeOf9
 v9 := Tryz.zeroValue9
 t20 := Tryz.underlying20
 a20 := Tryz.isAgg20
 z20 := Tryz.sizeOf20
 v20 := Tryz.zeroValue20
 t31 := Tryz.underlying22
 a31 := Tryz.isAgg22
 z31 := Tryz.sizeOf22
 v31 := Tryz.zeroValue22
 t37 := Tryz.underlying90
 a37 := Tryz.isAgg90
 z37 := Tryz.sizeOf90
 v37 := Tryz.zeroValue90
 t70 := Tryz.underlying148
 a70 := Tryz.isAgg148
 z70 := Tryz.sizeOf148
 v70 := Tryz.zeroValue148
 t72 := Tryz.underlying150
 a72 := Tryz.isAgg150
 z72 := Tryz.sizeOf150
 v72 := Tryz.zeroValue150
 t75 := Tryz.underlying152
 a75 := Tryz.isAgg152
 z75 := Tryz.sizeOf152
 v75 := Tryz.zeroValue152
 t76 := Tryz.underlying153
 a76 := Tryz.isAgg153
 z76 := Tryz.sizeOf153
 v76 := Tryz.zeroValue153
 t127 := Tryz.underlying180
 a127 := Tryz.isAgg180
 z127 := Tryz.sizeOf180
 v127 := Tryz.zeroValue180
 t164 := Tryz.underlying214
 a164 := Tryz.isAgg214
 z164 := Tryz.sizeOf214
 v164 := Tryz.zeroValue214 }
def Tryz.laysM171_ren : Go.Shelf.Ren := ⟨fun | 171 => 128 | 243 => 157 | 246 => 208 | 283 => 230 | 284 => 231 | 285 => 232 | 286 => 233 | 129 => 171 | 317 => 242 | 318 => 243 | 319 => 244 | 320 => 245 | 337 => 252 | 338 => 253 | n => n, fun | 3 => 3 | 9 => 9 | 2 => 2 | 4 => 4 | 171 => 239 | 0 => 0 | 53 => 193 | 37 => 90 | 5 => 5 | 173 => 241 | 212 => 249 | 51 => 191 | 20 => 20 | 213 => 250 | 46 => 160 | 232 => 263 | 233 => 264 | n => n, fun | 17 => 3 | 18 => 6 | 19 => 7 | n => n⟩
theorem Tryz.laysM171 : Go.Proofs.LaysM.n171 zp0 Tryz.laysM171_ren := {
 mixed := by kernel_rfl
 f129 := Tryz.func171.trans (congrArg some (by kernel_rfl))
 f171 := Tryz.func128.trans (congrArg some (by kernel_rfl))
 f243 := Tryz.func157.trans (congrArg some (by kernel_rfl))
 f246 := Tryz.func208.trans (congrArg some (by kernel_rfl))
 f283 := Tryz.func230.trans (congrArg some (by kernel_rfl))
 f284 := Tryz.func231.trans (congrArg some (by kernel_rfl))
 f285 := Tryz.func232.trans (congrArg some (by kernel_rfl))
 f286 := Tryz.func233.trans (congrArg some (by kernel_rfl))
 f317 := Tryz.func242.trans (congrArg some (by kernel_rfl))
 f318 := Tryz.func243.trans (congrArg some (by kernel_rfl))
 f319 := Tryz.func244.trans (congrArg some (by kernel_rfl))
 f320 := Tryz.func245.trans (congrArg some (by kernel_rfl))
 f337 := Tryz.func252.trans (congrArg some (by kernel_rfl))
 f338 := Tryz.func253.trans (congrArg some (by kernel_rfl))
 t0 := Tryz.underlying0
 a0 := Tryz.isAgg0
 z0 := Tryz.sizeOf0
 v0 := Tryz.zeroValue0
 t2 := Tryz.underlying2
 a2 := Tryz.isAgg2
 z2 := Tryz.sizeOf2
 v2 := Tryz.zeroValue2
 t3 := Tryz.underlying3
 a3 := Tryz.isAgg3
 z3 := Tryz.sizeOf3
 v3 := Tryz.zeroValue3
 t4 := Tryz.underlying4
 a4 := Tryz.isAgg4
 z4 := Tryz.sizeOf4
 v4 := Tryz.zeroValue4
 t5 := Tryz.underlying5
 a5 := Tryz.isAgg5
 z5 := Tryz.sizeOf5
 v5 := Tryz.zeroValue5
 t9 := Tryz.underlying9
 a9 := Tryz.isAgg9
 z9 := Tryz.sizeOf9
 v9 := Tryz.zeroValue9
 t20 := Tryz.underlying20
 a20 := Tryz.isAgg20
 z20 := Tryz.sizeOf20
 v20 := Tryz.zeroValue20
 t37 := Tryz.underlying90
 a37 := Tryz.isAgg90
 z37 := Tryz.sizeOf90
 v37 := Tryz.zeroValue90
 t46 := Tryz.underlying160
 a46 := Tryz.isAgg160
 z46 := Tryz.sizeOf160
 v46 := Tryz.zeroValue160
 t51 := Tryz.underlying191
 a51 := Tryz.isAgg191
 z51 := Tryz.sizeOf191
 v51 := Tryz.zeroValue191
 t53 := Tryz.underlying193
 a53 := Tryz.isAgg193
 z53 := Tryz.sizeOf193
 v53 := Tryz.zeroValue193
 t171 := Tryz.underlying239
 a171 := Tryz.isAgg239
 z171 := Tryz.sizeOf239
 v171 := Tryz.zeroValue239
 t173 := Tryz.underlying241
 a173 := Tryz.isAgg241
 z173 := Tryz.sizeOf241
 v173 := Tryz.zeroValue241
 t212 := Tryz.underlying249
 a212 := Tryz.isAgg249
 z212 := Tryz.sizeOf249
 v212 := Tryz.zeroValue249
 t213 := Tryz.underlying250
 a213 := Tryz.isAgg250
 z213 := Tryz.sizeOf250
 t232 := Tryz.underlying263
 a232 := Tryz.isAgg263
 z232 := Tryz.sizeOf263
 v232 := Tryz.zeroValue263
 t233 := Tryz.underlying264
 a233 := Tryz.isAgg264
 z233 := Tryz.sizeOf264
 v233 := Tryz.zeroValue264
 g17 := by kernel_rfl
 g18 := by kernel_rfl
 g19 := by kernel_rfl
 i0 := by kernel_rfl
 i2 := by kernel_rfl
 i3 := by kernel_rfl
 i4 := by kernel_rfl
 i5 := by kernel_rfl
 i9 := by kernel_rfl
 i20 := by kernel_rfl
 i37 := by kernel_rfl
 i46 := by kernel_rfl
 i51 := by kernel_rfl
 i53 := by kernel_rfl
 i171 := by kernel_rfl
 i173 := by kernel_rfl
 i212 := by kernel_rfl
 i232 := by kernel_rfl
 i233 := by kernel_rfl
 m17 := by kernel_rfl
 m18 := by kernel_rfl
 m19 := by kernel_rfl }
def Tryz.laysC172_ren : Go.Shelf.Ren := ⟨fun | 172 => 223 | 244 => 238 | 245 => 239 | 247 => 246 | 279 => 247 | 280 => 248 | 281 => 249 | 282 => 250 | 287 => 254 | 316 => 255 | 171 => 128 | 205 => 256 | 321 => 257 | 322 => 258 | 243 => 157 | 246 => 208 | 283 => 230 | 284 => 231 | 285 => 232 | 286 => 233 | 129 => 171 | 317 => 242 | 318 => 243 | 319 => 244 | 320 => 245 | 337 => 252 | 338 => 253 | n => n, fun | 9 => 9 | 3 => 3 | 75 => 152 | 76 => 153 | 4 => 4 | 5 => 5 | 167 => 252 | 37 => 90 | 0 => 0 | 85 => 253 | 2 => 2 | 168 => 255 | 53 => 193 | 175 => 258 | 46 => 160 | 210 => 261 | 127 => 180 | 145 => 268 | 143 => 266 | 21 => 21 | 171 => 239 | 173 => 241 | 212 => 249 | 51 => 191 | 20 => 20 | 213 => 250 | 232 => 263 | 233 => 264 | 80 => 155 | n => n, fun | 15 => 4 | 16 => 5 | 17 => 3 | 18 => 6 | 19 => 7 | n => n⟩
theorem Tryz.laysC172 : Go.Proofs.LaysC.n172 zp0 Tryz.laysC172_ren := {
 mixed := by kernel_rfl
 f129 := Tryz.func171.trans (congrArg some (by kernel_rfl))
 f171 := Tryz.func128.trans (congrArg some (by kernel_rfl))
 f172 := Tryz.func223.trans (congrArg some (by kernel_rfl))
 f205 := Tryz.func256.trans (congrArg some (by kernel_rfl))
 f243 := Tryz.func157.trans (congrArg some (by kernel_rfl))
 f244 := Tryz.func238.trans (congrArg some (by kernel_rfl))
 f245 := Tryz.func239.trans (congrArg some (by kernel_rfl))
 f246 := Tryz.func208.trans (congrArg some (by kernel_rfl))
 f247 := Tryz.func246.trans (congrArg some (by kernel_rfl))
 f279 := Tryz.func247.trans (congrArg some (by kernel_rfl))
 f280 := Tryz.func248.trans (congrArg some (by kernel_rfl))
 f281 := Tryz.func249.trans (congrArg some (by kernel_rfl))
 f282 := Tryz.func250.trans (congrArg some (by kernel_rfl))
 f283 := Tryz.func230.trans (congrArg some (by kernel_rfl))
 f284 := Tryz.func231.trans (congrArg some (by kernel_rfl))
 f285 := Tryz.func232.trans (congrArg some (by kernel_rfl))
 f286 := Tryz.func233.trans (congrArg some (by kernel_rfl))
 f287 := Tryz.func254.trans (congrArg some (by kernel_rfl))
 f316 := Tryz.func255.trans (congrArg some (by kernel_rfl))
 f317 := Tryz.func242.trans (congrArg some (by kernel_rfl))
 f318 := Tryz.func243.trans (congrArg some (by kernel_rfl))
 f319 := Tryz.func244.trans (congrArg some (by kernel_rfl))
 f320 := Tryz.func245.trans (congrArg some (by kernel_rfl))
 f321 := Tryz.func257.trans (congrArg some (by kernel_rfl))
 f322 := Tryz.func258.trans (congrArg some (by kernel_rfl))
 f337 := Tryz.func252.trans (congrArg some (by kernel_rfl))
 f338 := Tryz.func253.trans (congrArg some (by kernel_rfl))
 t0 := Tryz.underlying0
 a0 := Tryz.isAgg0
 z0 := Tryz.sizeOf0
 v0 := Tryz.zeroValue0
 t2 := Tryz.underlying2
 a2 := Tryz.isAgg2
 z2 := Tryz.sizeOf2
 v2 := Tryz.zeroValue2
 t3 := Tryz.underlying3
 a3 := Tryz.isAgg3
 z3 := Tryz.sizeOf3
 v3 := Tryz.zeroValue3
 t4 := Tryz.underlying4
 a4 := Tryz.isAgg4
 z4 := Tryz.sizeOf4
 v4 := Tryz.zeroValue4
 t5 := Tryz.underlying5
 a5 := Tryz.isAgg5
 z5 := Tryz.sizeOf5
 v5 := Tryz.zeroValue5
 t9 := Tryz.underlying9
 a9 := Tryz.isAgg9
 z9 := Tryz.sizeOf9
 v9 := Tryz.zeroValue9
 t20 := Tryz.underlying20
 a20 := Tryz.isAgg20
 z20 := Tryz.sizeOf20
 v20 := Tryz.zeroValue20
 t21 := Tryz.underlying21
 a21 := Tryz.isAgg21
 z21 := Tryz.sizeOf21
 v21 := Tryz.zeroValue21
 t37 := Tryz.underlying90
 a37 := Tryz.isAgg90
 z37 := Tryz.sizeOf90
 v37 := Tryz.zeroValue90
 t46 := Tryz.underlying160
 a46 := Tryz.isAgg160
 z46 := Tryz.sizeOf160
 v46 := Tryz.zeroValue160
 t51 := Tryz.underlying191
 a51 := Tryz.isAgg191
 z51 := Tryz.sizeOf191
 v51 := Tryz.zeroValue191
 t53 := Tryz.underlying193
 a53 := Tryz.isAgg193
 z53 := Tryz.sizeOf193
 v53 := Tryz.zeroValue193
 t75 := Tryz.underlying152
 a75 := Tryz.isAgg152
 z75 := Tryz.sizeOf152
 v75 := Tryz.zeroValue152
 t76 := Tryz.underlying153
 a76 := Tryz.isAgg153
 z76 := Tryz.sizeOf153
 v76 := Tryz.zeroValue153
 t85 := Tryz.underlying253
 a85 := Tryz.isAgg253
 z85 := Tryz.sizeOf253
 v85 := Tryz.zeroValue253
 t127 := Tryz.underlying180
 a127 := Tryz.isAgg180
 z127 := Tryz.sizeOf180
 v127 := Tryz.zeroValue180
 t143 := Tryz.underlying266
 a143 := Tryz.isAgg266
 z143 := Tryz.sizeOf266
 v143 := Tryz.zeroValue266
 t145 := Tryz.underlying268
 a145 := Tryz.isAgg268
 z145 := Tryz.sizeOf268
 v145 := Tryz.zeroValue268
 t167 := Tryz.underlying252
 a167 := Tryz.isAgg252
 z167 := Tryz.sizeOf252
 v167 := Tryz.zeroValue252
 t168 := Tryz.underlying255
 a168 := Tryz.isAgg255
 z168 := Tryz.sizeOf255
 v168 := Tryz.zeroValue255
 t171 := Tryz.underlying239
 a171 := Tryz.isAgg239
 z171 := Tryz.sizeOf239
 v171 := Tryz.zeroValue239
 t173 := Tryz.underlying241
 a173 := Tryz.isAgg241
 z173 := Tryz.sizeOf241
 v173 := Tryz.zeroValue241
 t175 := Tryz.underlying258
 a175 := Tryz.isAgg258
 z175 := Tryz.sizeOf258
 v175 := Tryz.zeroValue258
 t210 := Tryz.underlying261
 a210 := Tryz.isAgg261
 z210 := Tryz.sizeOf261
 v210 := Tryz.zeroValue261
 t212 := Tryz.underlying249
 a212 := Tryz.isAgg249
 z212 := Tryz.sizeOf249
 v212 := Tryz.zeroValue249
 t213 := Tryz.underlying250
 a213 := Tryz.isAgg250
 z213 := Tryz.sizeOf250
 t232 := Tryz.underlying263
 a232 := Tryz.isAgg263
 z232 := Tryz.sizeOf263
 v232 := Tryz.zeroValue263
 t233 := Tryz.underlying264
 a233 := Tryz.isAgg264
 z233 := Tryz.sizeOf264
 v233 := Tryz.zeroValue264
 g15 := by kernel_rfl
 g16 := by kernel_rfl
 g17 := by kernel_rfl
 g18 := by kernel_rfl
 g19 := by kernel_rfl
 t80 := Tryz.underlying155
 a80 := Tryz.isAgg155
 z80 := Tryz.sizeOf155
 v80 := Tryz.zeroValue155
 i0 := by kernel_rfl
 i2 := by kernel_rfl
 i3 := by kernel_rfl
 i4 := by kernel_rfl
 i5 := by kernel_rfl
 i9 := by kernel_rfl
 i20 := by kernel_rfl
 i21 := by kernel_rfl
 i37 := by kernel_rfl
 i46 := by kernel_rfl
 i51 := by kernel_rfl
 i53 := by kernel_rfl
 i75 := by kernel_rfl
 i76 := by kernel_rfl
 i80 := by kernel_rfl
 i85 := by kernel_rfl
 i127 := by kernel_rfl
 i143 := by kernel_rfl
 i145 := by kernel_rfl
 i167 := by kernel_rfl
 i168 := by kernel_rfl
 i171 := by kernel_rfl
 i173 := by kernel_rfl
 i175 := by kernel_rfl
 i210 := by kernel_rfl
 i212 := by kernel_rfl
 i232 := by kernel_rfl
 i233 := by kernel_rfl
 m15 := by kernel_rfl
 m16 := by kernel_rfl
 m17 := by kernel_rfl
 m18 := by kernel_rfl
 m19 := by kernel_rfl
 c0 := by kernel_rfl
 c2 := by kernel_rfl
 c3 := by kernel_rfl
 c4 := by kernel_rfl
 c5 := by kernel_rfl
 c9 := by kernel_rfl
 c20 := by kernel_rfl
 c21 := by kernel_rfl
 c37 := by kernel_rfl
 c46 := by kernel_rfl
 c51 := by kernel_rfl
 c53 := by kernel_rfl
 c75 := by kernel_rfl
 c76 := by kernel_rfl
 c80 := by kernel_rfl
 c85 := by kernel_rfl
 c127 := by kernel_rfl
 c143 := by kernel_rfl
 c145 := by kernel_rfl
 c167 := by kernel_rfl
 c168 := by kernel_rfl
 c171 := by kernel_rfl
 c173 := by kernel_rfl
 c175 := by kernel_rfl
 c210 := by kernel_rfl
 c212 := by kernel_rfl
 c213 := by kernel_rfl
 c232 := by kernel_rfl
 c233 := by kernel_rfl }
def Tryz.laysGw17_ren : Go.Shelf.Ren := ⟨fun | 17 => 172 | 15 => 215 | 20 => 235 | n => n, fun | 9 => 9 | 23 => 195 | 4 => 4 | 3 => 3 | 0 => 0 | 21 => 21 | n => n, fun | n => n⟩
theorem Tryz.laysGw17 : Go.Proofs.LaysGw.n17 zp0 Tryz.laysGw17_ren := {
 mixed := by kernel_rfl
 f15 := Tryz.func215.trans (congrArg some (by kernel_rfl))
 f17 := Tryz.func172.trans (congrArg some (by kernel_rfl))
 f20 := Tryz.func235.trans (congrArg some (by kernel_rfl))
 t0 := Tryz.underlying0
 a0 := Tryz.isAgg0
 z0 := Tryz.sizeOf0
 v0 := Tryz.zeroValue0
 i0 := by kernel_rfl
 t3 := Tryz.underlying3
 a3 := Tryz.isAgg3
 z3 := Tryz.sizeOf3
 v3 := Tryz.zeroValue3
 i3 := by kernel_rfl
 t4 := Tryz.underlying4
 a4 := Tryz.isAgg4
 z4 := Tryz.sizeOf4
 v4 := Tryz.zeroValue4
 i4 := by kernel_rfl
 t9 := Tryz.underlying9
 a9 := Tryz.isAgg9
 z9 := Tryz.sizeOf9
 v9 := Tryz.zeroValue9
 i9 := by kernel_rfl
 t21 := Tryz.underlying21
 a21 := Tryz.isAgg21
 z21 := Tryz.sizeOf21
 v21 := Tryz.zeroValue21
 i21 := by kernel_rfl
 t23 := Tryz.underlying195
 a23 := Tryz.isAgg195
 z23 := Tryz.sizeOf195
 v23 := Tryz.zeroValue195
 i23 := by kernel_rfl }
def Tryz.laysDel_ren : Go.Shelf.Ren := ⟨fun | 10 => 86 | 6 => 76 | n => n, fun | 22 => 22 | 23 => 9 | 25 => 68 | 3 => 3 | 4 => 4 | 0 => 0 | n => n, fun | n => n⟩
theorem Tryz.laysDel : Go.Proofs.SlLaysH.n10 zp0 Tryz.laysDel_ren := {
 mixed := by kernel_rfl
 f6 := ⟨Tryz.f76.name, by decide, Tryz.func76.trans (congrArg some (by kernel_rfl))⟩
 f10 := ⟨Tryz.f86.name, by decide, Tryz.func86.trans (congrArg some (by kernel_rfl))⟩
 t0 := Tryz.underlying0
 a0 := Tryz.isAgg0
 z0 := Tryz.sizeOf0
 v0 := Tryz.zeroValue0
 t3 := Tryz.underlying3
 a3 := Tryz.isAgg3
 z3 := Tryz.sizeOf3
 v3 := Tryz.zeroValue3
 t4 := Tryz.underlying4
 a4 := Tryz.isAgg4
 z4 := Tryz.sizeOf4
 v4 := Tryz.zeroValue4
 t22 := Tryz.underlying22
 a22 := Tryz.isAgg22
 z22 := Tryz.sizeOf22
 v22 := Tryz.zeroValue22
 a23 := Tryz.isAgg9
 z23 := Tryz.sizeOf9
 t25 := Tryz.underlying68
 a25 := Tryz.isAgg68
 z25 := Tryz.sizeOf68
 v25 := Tryz.zeroValue68 }
def Tryz.laysClone_ren : Go.Shelf.Ren := ⟨fun | 16 => 99 | n => n, fun | 24 => 22 | 9 => 9 | 4 => 4 | n => n, fun | n => n⟩
theorem Tryz.laysClone : Go.Proofs.Lays2.n16 zp0 Tryz.laysClone_ren := {
 mixed := by kernel_rfl
 f16 := Tryz.func99.trans (congrArg some (by kernel_rfl))
 t4 := Tryz.underlying4
 a4 := Tryz.isAgg4
 z4 := Tryz.sizeOf4
 v4 := Tryz.zeroValue4
 t9 := Tryz.underlying9
 a9 := Tryz.isAgg9
 z9 := Tryz.sizeOf9
 v9 := Tryz.zeroValue9
 t24 := Tryz.underlying22
 a24 := Tryz.isAgg22
 z24 := Tryz.sizeOf22
 v24 := Tryz.zeroValue22
 i9 := by kernel_rfl }
def Tryz.laysKeys_ren : Go.Shelf.Ren := ⟨fun | 7 => 225 | 10 => 240 | n => n, fun | 23 => 98 | 26 => 9 | 3 => 9 | 28 => 112 | 0 => 0 | 27 => 111 | 33 => 68 | 4 => 4 | n => n, fun | n => n⟩
theorem Tryz.laysKeys : Go.Proofs.SlLaysZ.n7 zp0 Tryz.laysKeys_ren := {
 mixed := by kernel_rfl
 f7 := ⟨Tryz.f225.name, by decide, Tryz.func225.trans (congrArg some (by kernel_rfl))⟩
 f10 := ⟨Tryz.f240.name, by decide, Tryz.func240.trans (congrArg some (by kernel_rfl))⟩
 t0 := Tryz.underlying0
 a0 := Tryz.isAgg0
 z0 := Tryz.sizeOf0
 v0 := Tryz.zeroValue0
 t4 := Tryz.underlying4
 a4 := Tryz.isAgg4
 z4 := Tryz.sizeOf4
 v4 := Tryz.zeroValue4
 t23 := Tryz.underlying98
 a23 := Tryz.isAgg98
 z23 := Tryz.sizeOf98
 v23 := Tryz.zeroValue98
 t26 := Tryz.underlying9
 a26 := Tryz.isAgg9
 z26 := Tryz.sizeOf9
 v26 := Tryz.zeroValue9
 t27 := Tryz.underlying111
 a27 := Tryz.isAgg111
 z27 := Tryz.sizeOf111
 v27 := Tryz.zeroValue111
 t28 := Tryz.underlying112
 a28 := Tryz.isAgg112
 z28 := Tryz.sizeOf112
 v28 := Tryz.zeroValue112
 t33 := Tryz.underlying68
 a33 := Tryz.isAgg68
 z33 := Tryz.sizeOf68
 v33 := Tryz.zeroValue68 }
def Tryz.laysSorted_ren : Go.Shelf.Ren := ⟨fun | 6 => 80 | 8 => 126 | 9 => 93 | 11 => 156 | 13 => 133 | 12 => 132 | 23 => 170 | 24 => 171 | 14 => 161 | 15 => 162 | 16 => 163 | 17 => 164 | 18 => 165 | 19 => 166 | 20 => 167 | 21 => 168 | 22 => 169 | 25 => 210 | 26 => 211 | 27 => 212 | 28 => 213 | 29 => 214 | 30 => 201 | 31 => 234 | n => n, fun | 26 => 9 | 28 => 112 | 24 => 22 | 0 => 0 | 3 => 3 | 37 => 160 | 48 => 191 | 50 => 193 | 4 => 4 | 40 => 185 | 39 => 184 | 45 => 163 | 5 => 5 | 9 => 9 | 51 => 218 | 55 => 222 | 57 => 243 | 58 => 244 | 33 => 68 | n => n, fun | n => n⟩
theorem Tryz.laysSorted : Go.Proofs.SlLaysZ.n6 zp0 Tryz.laysSorted_ren := {
 mixed := by kernel_rfl
 f6 := ⟨Tryz.f80.name, by decide, Tryz.func80.trans (congrArg some (by kernel_rfl))⟩
 f8 := ⟨Tryz.f126.name, by decide, Tryz.func126.trans (congrArg some (by kernel_rfl))⟩
 f11 := ⟨Tryz.f156.name, by decide, Tryz.func156.trans (congrArg some (by kernel_rfl))⟩
 t0 := Tryz.underlying0
 a0 := Tryz.isAgg0
 z0 := Tryz.sizeOf0
 v0 := Tryz.zeroValue0
 t24 := Tryz.underlying22
 a24 := Tryz.isAgg22
 z24 := Tryz.sizeOf22
 v24 := Tryz.zeroValue22
 t26 := Tryz.underlying9
 a26 := Tryz.isAgg9
 z26 := Tryz.sizeOf9
 v26 := Tryz.zeroValue9
 t28 := Tryz.underlying112
 a28 := Tryz.isAgg112
 z28 := Tryz.sizeOf112
 v28 := Tryz.zeroValue112
 i26 := by kernel_rfl }
def Tryz.laysSort_ren : Go.Shelf.Ren := ⟨fun | 6 => 93 | 8 => 133 | 9 => 132 | 19 => 170 | 20 => 171 | 21 => 161 | 22 => 162 | 23 => 163 | 24 => 164 | 25 => 165 | 26 => 166 | 27 => 167 | 28 => 168 | 29 => 169 | 36 => 210 | 31 => 211 | 32 => 212 | 37 => 213 | 38 => 214 | 39 => 201 | 41 => 234 | n => n, fun | 27 => 22 | 29 => 9 | 3 => 3 | 32 => 160 | 26 => 22 | 0 => 0 | 44 => 191 | 46 => 193 | 4 => 4 | 36 => 185 | 35 => 184 | 41 => 163 | 5 => 5 | 9 => 9 | 53 => 218 | 57 => 222 | 63 => 243 | 64 => 244 | n => n, fun | n => n⟩
theorem Tryz.laysSort : Go.Proofs.SlLaysM.n6 zp0 Tryz.laysSort_ren := {
 mixed := by kernel_rfl
 f6 := ⟨Tryz.f93.name, by decide, Tryz.func93.trans (congrArg some (by kernel_rfl))⟩
 f8 := Tryz.func133.trans (congrArg some (by kernel_rfl))
 f9 := ⟨Tryz.f132.name, by decide, Tryz.func132.trans (congrArg some (by kernel_rfl))⟩
 f19 := Tryz.func170.trans (congrArg some (by kernel_rfl))
 f20 := Tryz.func171.trans (congrArg some (by kernel_rfl))
 f21 := ⟨Tryz.f161.name, by decide, Tryz.func161.trans (congrArg some (by kernel_rfl))⟩
 f22 := ⟨Tryz.f162.name, by decide, Tryz.func162.trans (congrArg some (by kernel_rfl))⟩
 f23 := ⟨Tryz.f163.name, by decide, Tryz.func163.trans (congrArg some (by kernel_rfl))⟩
 f24 := ⟨Tryz.f164.name, by decide, Tryz.func164.trans (congrArg some (by kernel_rfl))⟩
 f25 := ⟨Tryz.f165.name, by decide, Tryz.func165.trans (congrArg some (by kernel_rfl))⟩
 f26 := ⟨Tryz.f166.name, by decide, Tryz.func166.trans (congrArg some (by kernel_rfl))⟩
 f27 := ⟨Tryz.f167.name, by decide, Tryz.func167.trans (congrArg some (by kernel_rfl))⟩
 f28 := ⟨Tryz.f168.name, by decide, Tryz.func168.trans (congrArg some (by kernel_rfl))⟩
 f29 := ⟨Tryz.f169.name, by decide, Tryz.func169.trans (congrArg some (by kernel_rfl))⟩
 f31 := Tryz.func211.trans (congrArg some (by kernel_rfl))
 f32 := Tryz.func212.trans (congrArg some (by kernel_rfl))
 f36 := ⟨Tryz.f210.name, by decide, Tryz.func210.trans (congrArg some (by kernel_rfl))⟩
 f37 := ⟨Tryz.f213.name, by decide, Tryz.func213.trans (congrArg some (by kernel_rfl))⟩
 f38 := ⟨Tryz.f214.name, by decide, Tryz.func214.trans (congrArg some (by kernel_rfl))⟩
 f39 := ⟨Tryz.f201.name, by decide, Tryz.func201.trans (congrArg some (by kernel_rfl))⟩
 f41 := ⟨Tryz.f234.name, by decide, Tryz.func234.trans (congrArg some (by kernel_rfl))⟩
 t0 := Tryz.underlying0
 a0 := Tryz.isAgg0
 z0 := Tryz.sizeOf0
 v0 := Tryz.zeroValue0
 t3 := Tryz.underlying3
 a3 := Tryz.isAgg3
 z3 := Tryz.sizeOf3
 v3 := Tryz.zeroValue3
 t4 := Tryz.underlying4
 a4 := Tryz.isAgg4
 z4 := Tryz.sizeOf4
 v4 := Tryz.zeroValue4
 t5 := Tryz.underlying5
 a5 := Tryz.isAgg5
 z5 := Tryz.sizeOf5
 v5 := Tryz.zeroValue5
 t9 := Tryz.underlying9
 a9 := Tryz.isAgg9
 z9 := Tryz.sizeOf9
 v9 := Tryz.zeroValue9
 t26 := Tryz.underlying22
 a26 := Tryz.isAgg22
 z26 := Tryz.sizeOf22
 v26 := Tryz.zeroValue22
 t27 := Tryz.underlying22
 a27 := Tryz.isAgg22
 z27 := Tryz.sizeOf22
 v27 := Tryz.zeroValue22
 t29 := Tryz.underlying9
 a29 := Tryz.isAgg9
 z29 := Tryz.sizeOf9
 v29 := Tryz.zeroValue9
 t32 := Tryz.underlying160
 a32 := Tryz.isAgg160
 z32 := Tryz.sizeOf160
 v32 := Tryz.zeroValue160
 t35 := Tryz.underlying184
 a35 := Tryz.isAgg184
 z35 := Tryz.sizeOf184
 v35 := Tryz.zeroValue184
 t36 := Tryz.underlying185
 a36 := Tryz.isAgg185
 z36 := Tryz.sizeOf185
 v36 := Tryz.zeroValue185
 t41 := Tryz.underlying163
 a41 := Tryz.isAgg163
 z41 := Tryz.sizeOf163
 v41 := Tryz.zeroValue163
 t44 := Tryz.underlying191
 a44 := Tryz.isAgg191
 z44 := Tryz.sizeOf191
 v44 := Tryz.zeroValue191
 t46 := Tryz.underlying193
 a46 := Tryz.isAgg193
 z46 := Tryz.sizeOf193
 v46 := Tryz.zeroValue193
 t53 := Tryz.underlying218
 a53 := Tryz.isAgg218
 z53 := Tryz.sizeOf218
 v53 := Tryz.zeroValue218
 t57 := Tryz.underlying222
 a57 := Tryz.isAgg222
 z57 := Tryz.sizeOf222
 v57 := Tryz.zeroValue222
 t63 := Tryz.underlying243
 a63 := Tryz.isAgg243
 z63 := Tryz.sizeOf243
 v63 := Tryz.zeroValue243
 t64 := Tryz.underlying244
 a64 := Tryz.isAgg244
 z64 := Tryz.sizeOf244
 v64 := Tryz.zeroValue244 }
end
namespace YtdpgdnpddndeoaaGreatDoor.X
open Go.RowKit YtdpgdnpddndeoaaGreatDoorW.PrintWords
def strings_Split.f (a0 a1 : ByteArray) : Option (List ByteArray) :=
 match a1.data.toList with
 | [c] => if a0.size < 4294967281 then some ((za0 c a0.data.toList).map mk) else none
 | _ => none
theorem strings_Split.one (s : ByteArray) (c : UInt8) (hs : s.size < 4294967281) : strings_Split.f s (⟨#[c]⟩ : ByteArray) = some ((za0 c s.data.toList).map mk) := by
 unfold strings_Split.f; show (if s.size < 4294967281 then some _ else none) = _
 rw [if_pos hs]
theorem zih (c : UInt8) : ∀ l, (za0 c l).length <= l.length + 1
 | [] => by simp [za0]
 | x :: r => by
  have := zih c r; unfold za0; split
  . simp; omega
  . split
    . simp
    . rename_i h; rw [h] at this; simp at this |-; omega
theorem strings_Split.calls (a0 a1 : ByteArray) (r : List ByteArray) (w : World) (hG : GOK w) (h : strings_Split.f a0 a1 = some r) :
 Calls zp0 57 #[.string a0, .string a1] w fun e w' => ∃ v0_ : Value, e = .returned v0_ /\ Kd.R zp6 9 w' w.heap.size (fun _ => True) v0_ r /\ Below w.heap.size w w' := by
 unfold strings_Split.f at h; split at h
 . rename_i c hc
   have hs : a0.size < 4294967281 := by
    by_cases hs : a0.size < 4294967281
    . exact hs
    . rw [if_neg hs] at h; cases h
   rw [if_pos hs] at h; have hr := zp2 h; have ha1 : a1 = mk [c] := by rw [<- zbh a1, hc]
   subst ha1; obtain ⟨m, hm⟩ := hG.maxLen; have L := Go.Proofs.Tryz.laysM146; have hcall := Go.Proofs.Any.strings_Split { L with } L.i9 a0 (mk [c]) m w hs hm (by rw [zaX]; simp)
   change Calls zp0 57 _ _ _ at hcall
   refine hcall.mono fun e w' ⟨he, hw⟩ => ?_
   rw [zgG] at hw; have hlen : Lib.countB a0 (mk [c]) + 1 = r.length := by
    rw [<- hr, zp9, <- Lib.splitB_all (mk [c]) (by rw [zaX]; simp) 0 _ a0 rfl, zgG, zp9]
   have hle : r.length <= a0.size + 1 := by rw [<- hr, zp9, zp7]; exact zih c _
   rw [hr] at hw; subst hw; refine ⟨_, he, ?_, (zpr _ _).alloc (zps _) _⟩; rw [hlen]; exact Kd.R_of_own (zfo (enc := Value.string) w w.heap.size 9 r (zps _) (by omega)) (fun _ _ => trivial)
 . cases h
def strings_Cut.f (a0 a1 : ByteArray) : Option (ByteArray × ByteArray × Bool) :=
 if a0.size < 4294967281 then some (mk (Lib.cut a0.data.toList a1.data.toList).1, mk (Lib.cut a0.data.toList a1.data.toList).2.1, (Lib.cut a0.data.toList a1.data.toList).2.2) else none
theorem strings_Cut.calls (a0 a1 r1 r2 : ByteArray) (r3 : Bool) (w : World) (hG : GOK w) (h : strings_Cut.f a0 a1 = some (r1, r2, r3)) :
 Calls zp0 222 #[.string a0, .string a1] w fun e w' => e = .returned (.tuple #[.string r1, .string r2, .bool r3]) /\ Below w.heap.size w w' := by
 unfold strings_Cut.f at h; split at h
 . rename_i hs
   have h' := zp2 h; simp only [Prod.mk.injEq] at h'; obtain ⟨rfl, rfl, rfl⟩ := h'; obtain ⟨m, hm⟩ := hG.maxLen; have hcall := Go.Proofs.Any.strings_Cut Go.Proofs.Tryz.lays145 a0 a1 m w hs hm; change Calls zp0 222 _ _ _ at hcall
   refine hcall.mono fun e w' ⟨he, n, hw⟩ => ⟨he, ?_⟩
   subst hw; exact zal (zpr _ _) n
 . cases h
theorem zef : Go.Proofs.Builder.Extra zp0 Go.Proofs.Tryz.lays156_ren := {
 sizeBuilder := by kernel_rfl
 liesBuilder := by kernel_rfl
 t5 := Tryz.underlying5
 a5 := Tryz.isAgg5
 z5 := Tryz.sizeOf5
 v5 := Tryz.zeroValue5
 infoByte := by kernel_rfl
 cellsByte := by kernel_rfl
 sizeByte := by kernel_rfl
 neB5 := by decide }
def strings_Join.f (l0 : List ByteArray) (a1 : ByteArray) : Option ByteArray :=
 if l0.length <= 140737488355328 /\ (Lib.join (l0.map (·.data.toList)) a1.data.toList).length <= 140737488355328 then some (mk (Lib.join (l0.map (·.data.toList)) a1.data.toList)) else none
theorem strings_Join.calls (A0 : Option Addr) (c0 : Nat) (l0 : List ByteArray) (a1 : ByteArray) (r : ByteArray) (w : World) (_hG : GOK w) (hr0 : Kd.C zp6 w A0 l0.length l0) (hc0 : l0.length <= c0) (h : strings_Join.f l0 a1 = some r) :
 Calls zp0 83 #[.slice A0 l0.length c0, .string a1] w fun e w' => e = .returned (.string r) /\ Below w.heap.size w w' := by
 unfold strings_Join.f at h; split at h
 . rename_i hs
   have hr := zp2 h; rcases zaJ hr0 with rfl | ⟨b, o, rfl, hb, hcell⟩
   . have hcall := Go.Proofs.Any.strings_Join_none Go.Proofs.Tryz.lays156 zef A0 c0 a1 w
     change Calls zp0 83 _ _ _ at hcall
     refine hcall.mono fun e w' ⟨he, hw⟩ => ?_
     subst hw; refine ⟨?_, zpr _ _⟩; rw [he, <- hr]; rfl
   . have hcall := Go.Proofs.Any.strings_Join Go.Proofs.Tryz.lays156 zef b o c0 l0 a1 w (fun j x hx => by
      obtain ⟨hj, he⟩ := List.getElem?_eq_some_iff.1 hx; have := hcell j hj; rwa [show l0.getD j zp1 = x by simp [zpw, hx]] at this) hb hs.1 hc0 hs.2
     change Calls zp0 83 _ _ _ at hcall
     refine hcall.mono fun e w' ⟨he, hw⟩ => ⟨?_, hw⟩
     rw [he, <- hr]; rfl
 . cases h
def strconv_Itoa.f (a0 : Int) : Option ByteArray := if -9223372036854775808 <= a0 /\ a0 <= 9223372036854775807 then some (mk (Lib.itoa a0)) else none
theorem strconv_Itoa.calls (a0 : Int) (r : ByteArray) (w : World) (hG : GOK w) (h : strconv_Itoa.f a0 = some r) :
 Calls zp0 128 #[.int .i64 a0] w fun e w' => e = .returned (.string r) /\ Below w.heap.size w w' := by
 unfold strconv_Itoa.f at h; split at h
 . rename_i hs
   have hr := zp2 h; have hcall := Go.Proofs.Any.strconv_Itoa Go.Proofs.Tryz.laysM171 a0 hs.1 hs.2 w hG.pow10; change Calls zp0 128 _ _ _ at hcall
   refine hcall.mono fun e w' ⟨he, k, os, hw⟩ => ⟨?_, ?_⟩
   . rw [he, <- hr]; rfl
   . subst hw
     exact Go.Proofs.below_grown w k os
 . cases h
end YtdpgdnpddndeoaaGreatDoor.X
namespace YtdpgdnpddndeoaaGreatDoor.Pb
open Go.RowKit YtdpgdnpddndeoaaGreatDoorW.PrintWords YtdpgdnpddndeoaaGreatDoorW.PrintLast YtdpgdnpddndeoaaGreatDoorW.PrintMore
open YtdpgdnpddndeoaaGreatDoor.X
attribute [local go_sem] zdf zdC zdl zdA zdD zdB zdp zdH   -- for this text's walks alone
def errW : Option Int -> Value
 | none => .nilIface
 | some c => .iface 0 (.int .i64 c)
theorem zbd : errW none = .nilIface := rfl
theorem zbg (c : Int) : errW (some c) = .iface 0 (.int .i64 c) := rfl
-- the values' own types
attribute [local go_sem] zdf zdC zdl zdA zdD zdB zdp zdH   -- for this text's walks alone
-- EXT: function 57 (strings_Split)
def path_Parts.f (a0 : ByteArray) : Option (List ByteArray) := (strings_Split.f a0 (⟨#[47]⟩ : ByteArray)).bind fun t101 => (some t101)
theorem path_Parts.calls (a0 : ByteArray) (r : List ByteArray) (w : World) (hG : GOK w) (h : path_Parts.f a0 = some r) :
 Calls zp0 135 #[.string a0] w fun e w' => ∃ v0_ : Value, e = .returned (v0_) /\ Kd.R zp6 9 w' w.heap.size (fun _ => True) v0_ r /\ Below w.heap.size w w' := by
 have HB := Aside0.mk (zpr w.heap.size w); have HG := Aside0.mk hG; clear hG; have H : ((strings_Split.f a0 (⟨#[47]⟩ : ByteArray)).bind fun t101 => (some t101)) = some r := h
 clear h; replace H := zpE.mp H
 obtain ⟨t101, A20, H⟩ := H; replace H : (some t101) = some r := H
 have A2 := Aside0.mk A20; clear A20; obtain rfl := zp2 H; go_enter Tryz.func135, Tryz.ntmps135
 go_wp2_with (first | ((with_reducible refine zbL (f := 57) rfl ?_); refine zbN (some 4) rfl rfl Tryz.func57 (by kernel_rfl) rfl #[.string a0, .string (⟨#[47]⟩ : ByteArray)] rfl (by (try simp only [List.map_toArray, zpS, zpT]); first | done | rfl | (simp only [List.length_drop, zpD]; rfl)) ?_; (with_reducible refine (strings_Split.calls a0 (⟨#[47]⟩ : ByteArray) t101 _ ?side99 A2.out).mono ?_); (case side99 => exact GOK.below HG.out (by repeat (first | (with_reducible first | exact HB.out | apply zaq | apply zal | apply zas) | exact HB.out))); rintro e w3 ⟨v102, rfl, ho0, hb⟩; refine ⟨_, rfl, ?_⟩; have n0_ := Aside0.mk (Kd.R_lower ho0 (zco (by repeat (first | (with_reducible first | exact HB.out | apply zaq | apply zal | apply zas) | exact HB.out)))); have n1_ := Aside0.mk (zbD (by repeat (first | (with_reducible first | exact HB.out | apply zaq | apply zal | apply zas) | exact HB.out)) hb); clear HB; have HO103 := n0_; have HB := n1_; clear n0_ n1_; (try clear hb); (try clear hb2); (try clear hk); (try clear hi); (try clear ho0)))
 go_ret
 exact ⟨_, by first | rfl | (simp [zbd, zbg] <;> rfl) | (simp [*, zbd, zbg] <;> rfl), by (with_reducible repeat (first | apply Kd.R_alloc | apply Kd.R_drewN | apply Kd.R_drew)); exact HO103.out, by repeat (first | (with_reducible first | exact HB.out | apply zaq | apply zal | apply zas) | exact HB.out)⟩
-- EXT: function 128 (strconv_Itoa)
def mint_Number.f (a0 : Int) : Option (ByteArray) := (strconv_Itoa.f (mx a0 0)).bind fun t104 => (some t104)
theorem mint_Number.calls (a0 : Int) (r : ByteArray) (w : World) (hG : GOK w) (h : mint_Number.f a0 = some r) :
 Calls zp0 82 #[.int .i64 a0] w fun e w' => e = .returned (.string r) /\ Below w.heap.size w w' := by
 have HB := Aside0.mk (zpr w.heap.size w); have HG := Aside0.mk hG; clear hG; have H : ((strconv_Itoa.f (mx a0 0)).bind fun t104 => (some t104)) = some r := h
 clear h; obtain ⟨ji2, hji2⟩ : ∃ j_ : Int, (mx a0 0) = j_ := ⟨_, rfl⟩; replace H : ((strconv_Itoa.f (ji2)).bind fun t104 => (some t104)) = some r := by first | (rw [hji2] at H; exact H) | (simp only [hji2] at H |-; exact H)
 (try (have hji2l : 0 <= ji2 := by (rw [<- hji2]; unfold mx; (repeat' split) <;> omega)))
 (try (have hji2m : 0 <= ji2 := by omega))
 have hji2_ : (if a0 < 0 then 0 else a0) = ji2 := hji2
 replace H := zpE.mp H
 obtain ⟨t104, A30, H⟩ := H; replace H : (some t104) = some r := H
 have A3 := Aside0.mk A30; clear A30; obtain rfl := zp2 H; go_enter Tryz.func82, Tryz.ntmps82
 go_wp2_with (first | ((with_reducible refine zbL (f := 128) rfl ?_); refine zbN (some 5) rfl rfl Tryz.func128 (by kernel_rfl) rfl #[.int .i64 ji2] rfl (by (try simp only [List.map_toArray, zpS, zpT]); first | done | (simp only [hji2]; rfl) | rfl | (simp only [List.length_drop, zpD]; rfl)) ?_; (with_reducible refine (strconv_Itoa.calls ji2 t104 _ ?side99 A3.out).mono ?_); (case side99 => exact GOK.below HG.out (by repeat (first | (with_reducible first | exact HB.out | apply zaq | apply zal | apply zas) | exact HB.out))); rintro e w4 ⟨rfl, hb⟩; refine ⟨_, rfl, ?_⟩; have n0_ := Aside0.mk (zbD (by repeat (first | (with_reducible first | exact HB.out | apply zaq | apply zal | apply zas) | exact HB.out)) hb); clear HB; have HB := n0_; clear n0_; (try clear hb); (try clear hb2); (try clear hk); (try clear hi)))
 go_ret
 exact ⟨by first | rfl | (simp [zbd, zbg] <;> rfl) | (simp only [<- hji2]; first | rfl | (simp [zbd, zbg] <;> rfl)) | (simp [*, zbd, zbg] <;> rfl), by repeat (first | (with_reducible first | exact HB.out | apply zaq | apply zal | apply zas) | exact HB.out)⟩
def shipwrightlaw1_Short.f (a0 : ByteArray) (a1 : Int) : Option (ByteArray) := if 0 <= (mn (a0.size : Int) a1) then (if (mn (a0.size : Int) a1) <= (a0.size : Int) then (some (a0.extract 0 ((mn (a0.size : Int) a1) : Int).toNat)) else (none)) else (none)
theorem shipwrightlaw1_Short.calls (a0 : ByteArray) (a1 : Int) (r : ByteArray) (w : World) (hG : GOK w) (h : shipwrightlaw1_Short.f a0 a1 = some r) :
 Calls zp0 19 #[.string a0, .int .i64 a1] w fun e w' => e = .returned (.string r) /\ Below w.heap.size w w' := by
 have HB := Aside0.mk (zpr w.heap.size w); have HG := Aside0.mk hG; clear hG; have H : (if 0 <= (mn (a0.size : Int) a1) then (if (mn (a0.size : Int) a1) <= (a0.size : Int) then (some (a0.extract 0 ((mn (a0.size : Int) a1) : Int).toNat)) else (none)) else (none)) = some r := h
 clear h; obtain ⟨ji3, hji3⟩ : ∃ j_ : Int, (mn (a0.size : Int) a1) = j_ := ⟨_, rfl⟩; replace H : (if 0 <= (ji3) then (if (ji3) <= (a0.size : Int) then (some (a0.extract 0 ((ji3) : Int).toNat)) else (none)) else (none)) = some r := by first | (rw [hji3] at H; exact H) | (simp only [hji3] at H |-; exact H)
 have hji3_ : (if a1 < (a0.size : Int) then a1 else (a0.size : Int)) = ji3 := hji3
 by_cases c4 : 0 <= (ji3)
 . rw [if_pos c4] at H
   have c4b0 := eq_true c4; have c4b1 : decide (0 <= (ji3)) = true := decide_eq_true c4; clear c4; by_cases c5 : (ji3) <= (a0.size : Int)
   . rw [if_pos c5] at H
     have c5b0 := eq_true c5; have c5b1 : decide ((ji3) <= (a0.size : Int)) = true := decide_eq_true c5; clear c5; obtain rfl := zp2 H; go_enter Tryz.func19, Tryz.ntmps19
     go_wp2; go_ret
     exact ⟨by first | rfl | (simp [zbd, zbg] <;> rfl) | (simp only [<- hji3]; first | rfl | (simp [zbd, zbg] <;> rfl)) | (simp [*, zbd, zbg] <;> rfl), by repeat (first | (with_reducible first | exact HB.out | apply zaq | apply zal | apply zas) | exact HB.out)⟩
   . rw [if_neg c5] at H
     exact absurd H (by simp)
 . rw [if_neg c4] at H
   exact absurd H (by simp)
mutual
def shipwrightlaw1_Vals.l0 : Nat -> List (S34) -> List (S34) -> Int -> Option ((List (S34)))
 | 0, _, _, _ => none
 | k + 1, x0, x3, x4 => if x4 < (x0.length : Int) then (shipwrightlaw1_Vals.j1 k x0 x3 x4 (decide (x4 < 10))) else (shipwrightlaw1_Vals.j1 k x0 x3 x4 false)
def shipwrightlaw1_Vals.j1 : Nat -> List (S34) -> List (S34) -> Int -> Bool -> Option ((List (S34)))
 | 0, _, _, _, _ => none
 | k + 1, x0, x3, x4, x13 => if x13 = true then (if 0 <= x4 then (if x4 < (x0.length : Int) then (if ((za6 x0 x4).f0 = true) then (if x3.length < 5864062014805 then (shipwrightlaw1_Vals.l0 k x0 (x3 ++ [(⟨(za6 x0 x4).f0, (za6 x0 x4).f1⟩ : S34)]) (wrap64 (x4 + 1))) else (none)) else (if x3.length < 5864062014805 then (shipwrightlaw1_Vals.l0 k x0 (x3 ++ [(⟨(za6 x0 x4).f0, (⟨#[]⟩ : ByteArray)⟩ : S34)]) (wrap64 (x4 + 1))) else (none))) else (none)) else (none)) else (some x3)
end
def shipwrightlaw1_Vals.f (k : Nat) (l0 : List (S34)) : Option ((List (S34))) := shipwrightlaw1_Vals.l0 k l0 ([] : List (S34)) 0
theorem shipwrightlaw1_Vals.mono_l : ∀ k, (∀ y0 y1 y2, LeO (shipwrightlaw1_Vals.l0 k y0 y1 y2) (shipwrightlaw1_Vals.l0 (k + 1) y0 y1 y2)) /\ (∀ y0 y1 y2 y3, LeO (shipwrightlaw1_Vals.j1 k y0 y1 y2 y3) (shipwrightlaw1_Vals.j1 (k + 1) y0 y1 y2 y3))
 | 0 => ⟨fun _ _ _ r h => by simp [shipwrightlaw1_Vals.l0] at h, fun _ _ _ _ r h => by simp [shipwrightlaw1_Vals.j1] at h⟩
 | k + 1 => by
  obtain ⟨ih0, ih1⟩ := shipwrightlaw1_Vals.mono_l k; refine ⟨?_, ?_⟩
  . intro y0 y1 y2
    unfold shipwrightlaw1_Vals.l0; repeat' first
    | (with_reducible exact ih0 _ _ _)
    | (with_reducible exact ih1 _ _ _ _)
    | (with_reducible exact LeO.refl _)
    | (with_reducible exact LeO.none _)
    | (with_reducible refine LeO.ite ?_ ?_)
    | (with_reducible refine LeO.bind ?_ (fun _ => ?_))
    | exact ih0 _ _ _
    | exact ih1 _ _ _ _
    | exact LeO.none _
    | refine LeO.ite ?_ ?_
    | refine LeO.bind ?_ (fun _ => ?_)
  . intro y0 y1 y2 y3
    unfold shipwrightlaw1_Vals.j1; repeat' first
    | (with_reducible exact ih0 _ _ _)
    | (with_reducible exact ih1 _ _ _ _)
    | (with_reducible exact LeO.refl _)
    | (with_reducible exact LeO.none _)
    | (with_reducible refine LeO.ite ?_ ?_)
    | (with_reducible refine LeO.bind ?_ (fun _ => ?_))
    | exact ih0 _ _ _
    | exact ih1 _ _ _ _
    | exact LeO.none _
    | refine LeO.ite ?_ ?_
    | refine LeO.bind ?_ (fun _ => ?_)
theorem shipwrightlaw1_Vals.mono : ∀ a0 k, LeO (shipwrightlaw1_Vals.f k a0) (shipwrightlaw1_Vals.f (k + 1) a0) := by
 intro a0 k; obtain ⟨ih0, ih1⟩ := shipwrightlaw1_Vals.mono_l k; unfold shipwrightlaw1_Vals.f; repeat' first
  | (with_reducible exact ih0 _ _ _)
  | (with_reducible exact ih1 _ _ _ _)
  | (with_reducible exact LeO.refl _)
  | (with_reducible exact LeO.none _)
  | (with_reducible refine LeO.ite ?_ ?_)
  | (with_reducible refine LeO.bind ?_ (fun _ => ?_))
  | exact ih0 _ _ _
  | exact ih1 _ _ _ _
  | exact LeO.none _
  | refine LeO.ite ?_ ?_
  | refine LeO.bind ?_ (fun _ => ?_)
end YtdpgdnpddndeoaaGreatDoor.Pb
namespace YtdpgdnpddndeoaaGreatDoor.X
open Go.RowKit YtdpgdnpddndeoaaGreatDoorW.PrintWords
def zcy (n : Nat) : Bool := decide (97 <= n /\ n <= 122 \/ 65 <= n /\ n <= 90 \/ 48 <= n /\ n <= 57 \/ n = 46 \/ n = 95 \/ n = 45)
theorem zly (c : UInt8) : zcy c.toNat = sign c := by
 unfold zcy sign; rw [Bool.eq_iff_iff]; simp only [decide_eq_true_eq, Bool.or_eq_true, Bool.and_eq_true, beq_iff_eq, UInt8.le_iff_toNat_le, <- UInt8.toNat_inj]; simp
 omega
theorem zjB (n : Nat) (h : 128 <= n) : zcy n = false := by
 unfold zcy; simp
 omega
theorem zmX (n : Nat) : Pa.path_sign.f (n : Int) = some (zcy n) := by
 unfold Pa.path_sign.f zcy; rw [Option.some.injEq, Bool.eq_iff_iff]; simp
 omega
theorem zhP (p : Nat -> Bool) (hp : ∀ x, 128 <= x -> p x = true) (s : ByteArray) : ∀ (f pos : Nat), s.size <= pos + f ->
 decide (0 <= Lib.idxFuncFrom p true s f pos) = (s.data.toList.drop pos).any (fun c => p c.toNat)
 | 0, pos, h => by
  have : s.data.toList.drop pos = [] := zqe (by rw [<- zp7]; omega)
  rw [this]; rfl
 | f + 1, pos, h => by
  unfold Lib.idxFuncFrom; by_cases hps : pos < s.size
  . rw [if_pos hps]
    have hl : pos < s.data.toList.length := by rw [<- zp7]; exact hps
    have hd : s.data.toList.drop pos = s.data.toList[pos] :: s.data.toList.drop (pos + 1) := (List.drop_eq_getElem_cons hl); have hb : s.data.toList[pos] = s[pos]'hps := rfl; rw [hd, hb, List.any_cons]; by_cases ha : (s[pos]'hps).toNat < 128
    . rw [decode_ascii s pos hps ha]
      by_cases hq : p (s[pos]'hps).toNat = true
      . rw [if_pos hq, hq]
        simp
      . rw [if_neg hq, zhP p hp s f (pos + 1) (by omega)]
        simp only [Bool.not_eq_true] at hq; rw [hq]; simp
    . obtain ⟨h1, _⟩ := decode_high s pos hps (by omega)
      rw [if_pos (hp _ h1), hp _ (by omega)]
      simp
  . rw [if_neg hps]
    have : s.data.toList.drop pos = [] := zqe (by rw [<- zp7]; omega)
    rw [this]; rfl
theorem zjx (p : Nat -> Bool) (hp : ∀ x, 128 <= x -> p x = true) (s : ByteArray) : decide (0 <= Lib.idxFunc p true s) = s.data.toList.any (fun c => p c.toNat) := by
 unfold Lib.idxFunc; rw [zhP p hp s s.size 0 (by omega)]
 rfl
theorem eg64 : ∀ args w, (callFunc 173 args).run zp0 w = .ok (.enter 173 args) w := Go.Proofs.enters_of Tryz.func173 (by kernel_rfl) rfl
theorem zlR (s : ByteArray) (w : World) (hG : GOK w) :
 Calls zp0 172 #[.string s, .func (.func 173) #[] #[]] w fun e w' => e = .returned (.bool (s.data.toList.any (fun c => !sign c))) /\ Below w.heap.size w w' := by
 have hp : Go.Proofs.PredAtRunes zp0 173 #[] (fun n => !zcy n) w := by
  intro W x _ hb; refine (Pa.path_bad_1.calls (x : Int) (!zcy x) W (hG.below hb) ?_).mono fun e w' ⟨he, hd⟩ => ⟨he, hd.out⟩
  unfold Pa.path_bad_1.f; rw [zmX]; rfl
 have h := Go.Proofs.Any.strings_ContainsFunc_runes Go.Proofs.Tryz.laysGw17 173 #[] eg64 (fun n => !zcy n) s w hp
 refine h.mono fun e w' ⟨he, hb⟩ => ⟨?_, hb⟩
 rw [he, zjx _ (fun x hx => by rw [zjB x hx]; rfl)]
 simp only [zly]
def path_bad.f (a0 : ByteArray) : Option Bool := some (bad a0.data.toList)
theorem path_bad.calls (a0 : ByteArray) (r : Bool) (w : World) (hG : GOK w) (h : path_bad.f a0 = some r) :
 Calls zp0 136 #[.string a0] w fun e w' => e = .returned (.bool r) /\ Below w.heap.size w w' := by
 unfold path_bad.f bad at h; have hc := zlR a0 w hG; generalize (a0.data.toList.any fun c => !sign c) = q at hc h
 rw [<- za2] at h; by_cases h1 : a0.toList = []
 . have e1 : (a0.toList == []) = true := by simp [h1]
   have hr : r = true := by rw [h1] at h; simpa using h.symm
   subst hr; clear h hc h1; go_enter Tryz.func136, Tryz.ntmps136
   go_wp2; go_ret
   exact ⟨rfl, zpr _ _⟩
 . have e1 : (a0.toList == []) = false := by simp [h1]
   by_cases h2 : a0.toList = [46]
   . have e2 : (a0.toList == [46]) = true := by simp [h2]
     have hr : r = true := by rw [h2] at h; simpa using h.symm
     subst hr; clear h hc h1 h2; go_enter Tryz.func136, Tryz.ntmps136
     go_wp2; go_ret
     exact ⟨rfl, zpr _ _⟩
   . have e2 : (a0.toList == [46]) = false := by simp [h2]
     by_cases h3 : a0.toList = [46, 46]
     . have e3 : (a0.toList == [46, 46]) = true := by simp [h3]
       have hr : r = true := by rw [h3] at h; simpa using h.symm
       subst hr; clear h hc h1 h2 h3; go_enter Tryz.func136, Tryz.ntmps136
       go_wp2; go_ret
       exact ⟨rfl, zpr _ _⟩
     . have e3 : (a0.toList == [46, 46]) = false := by simp [h3]
       have hr : r = q := by rw [e1, e2, e3] at h; simpa using h.symm
       subst hr; clear h h1 h2 h3; go_enter Tryz.func136, Tryz.ntmps136
       go_wp2_with (go_at_call 172; refine hc.mono ?_; rintro e w2 ⟨rfl, hb2⟩)
       go_ret
       exact ⟨rfl, hb2⟩
end YtdpgdnpddndeoaaGreatDoor.X
namespace YtdpgdnpddndeoaaGreatDoor.X
open Go.RowKit Go.Sort YtdpgdnpddndeoaaGreatDoorW.PrintWords
theorem zoa {w : World} {g n : Nat} {os : Array Obj} {cur : Array Value} {e : TypeId} {fr : Nat × Nat} (d : Array ByteArray) (hb : w.heap[g]? = some (.cells cur e fr)) :
 (grow (putRow Value.string (Sort.ahead w n) g 0 d) os).heap[g]? = some (.cells (putCells Value.string 0 d cur) e fr) := by
 have hg : g < w.heap.size := (zpt.1 hb).1; rw [heap_grow_old _ _ (by simpa using hg)]
 simp [putRow, mapBlock, Sort.ahead, zqb, hb, onCells]
theorem zgD {w : World} {g n : Nat} {os : Array Obj} (d : Array ByteArray) : w.grownBy (grow (putRow Value.string (Sort.ahead w n) g 0 d) os) (some g) := by
 refine ⟨rfl, rfl, rfl, by simp, fun k hk hne => ?_⟩
 rw [heap_grow_old _ _ (by simpa using hk)]
 have : g ≠ k := fun e => hne (by rw [e])
 simp [putRow, mapBlock, Sort.ahead, zqb, this]
theorem zmu (cur : Array Value) (ts rest : List ByteArray) (h : ts.length + rest.length <= cur.size) : (putCells Value.string 0 (ts ++ rest).toArray cur).toList.take ts.length = ts.map Value.string := by
 apply List.ext_getElem?
 intro j; by_cases hj : j < ts.length
 . rw [zqg hj, zqd]
   simp [putCells, hj, show j < cur.size by omega, show j < ts.length + rest.length by omega, List.getElem_append_left]
 . rw [List.getElem?_take_eq_none (by omega), List.getElem?_eq_none (by simp; omega)]
theorem zhj {B : Nat} {w w1 : World} {g : Nat} (hg : w.grownBy w1 (some g)) (hB : B <= w.heap.size) (hBg : B <= g) : Below B w w1 := (zpr B w).grown hg hB (fun k hk => by cases hk; exact hBg)
theorem zma {w : World} {g : Nat} {cur : Array Value} {e : TypeId} {ss : List ByteArray} (hb : w.heap[g]? = some (.cells cur e (0, 0))) (ht : cur.toList.take ss.length = ss.map Value.string) : Holds Value.string w g 0 ss.toArray := by
 intro j hj; have hj' : j < ss.length := by simpa using hj
 refine ⟨?_, by simp [World.frozen?, hb]⟩
 have h1 : (cur.toList.take ss.length)[j]? = (ss.map Value.string)[j]? := by rw [ht]
 rw [zqg hj'] at h1; simp only [World.cell?, hb, Nat.zero_add]; simp only [zqh, Bool.false_eq_true, if_false]; rw [<- zqd, h1]; simp [hj']
theorem zjM (B base g : Nat) (lb : Array Value) (eg : ∀ args w, (callFunc g args).run zp0 w = .ok (.enter g args) w) (p : ByteArray -> Bool) (v : Value) (l : List ByteArray) (w : World)
 (hown : w.ownsRow base 9 1 v l.length (encs Value.string l)) (hB : B <= base) (hBw : B <= w.heap.size) (hp : ∀ (W : World) (x : ByteArray), Below B w W -> Go.Proofs.FnGives zp0 g lb #[.string x] (.bool (p x)) W) :
 Calls zp0 86 #[v, .func (.func g) #[] lb] w fun e w' => ∃ v', e = .returned v' /\ w'.ownsRow base 9 1 v' (l.filter fun x => !p x).length (encs Value.string (l.filter fun x => !p x)) /\ v'.ownBlock = v.ownBlock /\ w.grownBy w' v.ownBlock := by
 have hlen : l.length <= 9223372036854775807 := by
  rcases hown.2 with ⟨_, h0⟩ | ⟨_, cap, cur, _, _, _, h1, h2, _⟩
  . omega
  . simp only [maxLen] at h2; omega
 rcases hown.2 with ⟨rfl, h0⟩ | ⟨gb, cap, cur, rfl, hbase, hb, h1, h2, h3, h4⟩
 . obtain rfl : l = [] := List.eq_nil_of_length_eq_zero h0
   have hI := zgS g lb eg p none 0 [] w ⟨rfl, by simp, fun h => absurd h (by simp)⟩ (fun W x hb => (hp W x (hb.mono hBw)).mono fun e w' ⟨he, q, hw⟩ => ⟨he, by subst hw; exact zal (zpr _ _) q⟩)
   clear hp hown h0; go_enter Tryz.func86, Tryz.ntmps86
   go_wp2_with fail; refine hI.mono ?_; rintro e w2 ⟨i, rfl, hq, hi, hb2⟩; have hi' : i = -1 := by
    rcases hi with hi | hi
    . exact hi
    . simp [hi] at hq
   subst hi'; clear hq hi hI; go_wp2; go_ret
   exact ⟨.slice none 0 0, rfl, zcX _ _ _ _, rfl, zb2 hb2 _⟩
 . have hH : Holds Value.string w gb 0 l.toArray := zma hb (by simpa [encs] using h4)
   have hcall := Go.Proofs.AnyE.slices_DeleteFunc Go.Proofs.Tryz.laysDel Value.string (fun _ => rfl) p g lb eg zp1 Tryz.zeroValue9 gb 0 cap l.toArray w
    (fun W x hb => hp W x (hb.mono hBw))
    (fun n os dk x _ => hp _ x (zhj (zgD dk) hBw (by omega))) hH (by simpa using hlen) (by simpa using h1)
   change Calls zp0 86 _ _ _ at hcall
   refine hcall.mono fun e w' ⟨he, q, hw⟩ => ?_
   have hf : (l.filter fun x => !p x).length <= l.length := zqi _ _
   have hg0 : w' = grow (putRow Value.string (Sort.ahead w q) gb 0 ((l.filter fun x => !p x) ++ List.replicate (l.length - (l.filter fun x => !p x).length) zp1).toArray) #[] := by rw [hw]; simp
   refine ⟨_, he, ?_, rfl, ?_⟩
   . refine ⟨by simp [encs], .inr ⟨gb, cap, _, rfl, hbase, by rw [hg0]; exact zoa _ hb, by simpa using zpy hf h1, h2, by simp [putCells, h3], ?_⟩⟩
     simp only [Nat.mul_one]; exact zmu cur _ _ (by rw [List.length_replicate]; omega)
   . rw [hg0]; exact zgD _
end YtdpgdnpddndeoaaGreatDoor.X
namespace YtdpgdnpddndeoaaGreatDoor.X
open Go.RowKit YtdpgdnpddndeoaaGreatDoorW.PrintWords
theorem eg44 : ∀ args w, (callFunc 136 args).run zp0 w = .ok (.enter 136 args) w := Go.Proofs.enters_of Tryz.func136 (by kernel_rfl) rfl
theorem zkt (w : World) (hG : GOK w) : zdM 136 #[] (fun x => bad x.data.toList) w := fun W x hb => path_bad.calls x _ W (hG.below hb) rfl
theorem zni (s : ByteArray) (w : World) (hG : GOK w) (hs : s.size < 4294967281) :
 Calls zp0 135 #[.string s] w fun e w' => ∃ v : Value, e = .returned v /\ Kd.R zp6 9 w' w.heap.size (fun _ => True) v ((parts s.data.toList).map mk) /\ Below w.heap.size w w' :=
 Pb.path_Parts.calls s _ w hG (by unfold Pb.path_Parts.f; rw [strings_Split.one s 47 hs]; rfl)
def path_May.f (a0 : ByteArray) : Option Bool := some (may a0.data.toList)
theorem path_May.calls (a0 : ByteArray) (r : Bool) (w : World) (hG : GOK w) (h : path_May.f a0 = some r) :
 Calls zp0 102 #[.string a0] w fun e w' => e = .returned (.bool r) /\ Below w.heap.size w w' := by
 have hr : may a0.data.toList = r := zp2 h; clear h; unfold may at hr; rw [<- zp7, <- za2] at hr; by_cases h1 : a0.toList = [114, 117, 108, 101]
 . have e1 : (a0.toList == [114, 117, 108, 101]) = true := by simp [h1]
   rw [e1] at hr; have hr' : r = false := by simpa using hr.symm
   subst hr'; clear hr h1; go_enter Tryz.func102, Tryz.ntmps102
   go_wp2; go_ret
   exact ⟨rfl, zpr _ _⟩
 have e1 : (a0.toList == [114, 117, 108, 101]) = false := by simp [h1]
 by_cases h2 : a0.toList = [105, 110]
 . have e2 : (a0.toList == [105, 110]) = true := by simp [h2]
   rw [e2] at hr; have hr' : r = false := by simpa using hr.symm
   subst hr'; clear hr h1 h2; go_enter Tryz.func102, Tryz.ntmps102
   go_wp2; go_ret
   exact ⟨rfl, zpr _ _⟩
 have e2 : (a0.toList == [105, 110]) = false := by simp [h2]
 by_cases h3 : a0.toList = [111, 117, 116]
 . have e3 : (a0.toList == [111, 117, 116]) = true := by simp [h3]
   rw [e3] at hr; have hr' : r = false := by simpa using hr.symm
   subst hr'; clear hr h1 h2 h3; go_enter Tryz.func102, Tryz.ntmps102
   go_wp2; go_ret
   exact ⟨rfl, zpr _ _⟩
 have e3 : (a0.toList == [111, 117, 116]) = false := by simp [h3]
 by_cases h4 : a0.toList = [97, 102, 116, 101, 114]
 . have e4 : (a0.toList == [97, 102, 116, 101, 114]) = true := by simp [h4]
   rw [e4] at hr; have hr' : r = false := by simpa using hr.symm
   subst hr'; clear hr h1 h2 h3 h4; go_enter Tryz.func102, Tryz.ntmps102
   go_wp2; go_ret
   exact ⟨rfl, zpr _ _⟩
 have e4 : (a0.toList == [97, 102, 116, 101, 114]) = false := by simp [h4]
 rw [e1, e2, e3, e4] at hr; clear h1 h2 h3 h4; by_cases hl : a0.size <= 40
 . have hl1 : decide ((a0.size : Int) <= 40) = true := by simp; omega
   have hl2 : decide (a0.size <= 40) = true := by simp [hl]
   have hr' : r = !(parts a0.toList).any bad := by rw [hl2] at hr; simpa using hr.symm
   clear hr hl2; have hP := zni a0 w hG (by omega)
   rw [<- za2] at hP; generalize hps : (parts a0.toList).map mk = ps at hP; have HPS := zpo hps; clear hps; have HG := zpo hG; clear hG; have HR := zpo hr'; clear hr'; go_enter Tryz.func102, Tryz.ntmps102
   go_wp2_with fail; refine hP.mono ?_; rintro e w2 ⟨v, rfl, hv, hb2⟩; obtain ⟨A, c, rfl, hc, hrd⟩ := zql hv; have hC := zdX 136 #[] eg44 (fun x => bad x.data.toList) A c _ w2 hrd (zkt w2 (HG.out.below hb2))
   have ea : ps.any (fun x => bad x.data.toList) = (parts a0.toList).any bad := by
    rw [<- HPS.out]; simp only [List.any_map, Function.comp_def, za9]
   rw [ea] at hC; clear hv hrd hc ea hP HPS; generalize (parts a0.toList).any bad = q at hC HR; go_wp2_with fail; refine hC.mono ?_; rintro e w3 ⟨rfl, hb3⟩; go_wp2; go_ret
   exact ⟨by rw [HR.out]; rfl, zac hb2 hb2.size hb3⟩
 . have hl1 : decide ((a0.size : Int) <= 40) = false := by simp; omega
   have hl2 : decide (a0.size <= 40) = false := by simp [hl]
   have hr' : r = false := by rw [hl2] at hr; simpa using hr.symm
   subst hr'; clear hr hl2; go_enter Tryz.func102, Tryz.ntmps102
   go_wp2; go_ret
   exact ⟨rfl, zpr _ _⟩
theorem zjH {B : Nat} {w w1 w2 : World} {v : Value} (h : Below B w w1) (hB : B <= w1.heap.size) (hg : w1.grownBy w2 v.ownBlock) (hv : ∀ k, v.ownBlock = some k -> B <= k) : Below B w w2 := h.grown hg hB hv
theorem zc1 (A : Option Addr) (c : Nat) (l : List ByteArray) (w : World) (hr : Kd.C zp6 w A l.length l) (hl : l.length * 16 <= 140737488355328) :
 Calls zp0 99 #[.slice A l.length c] w fun e w' => ∃ v', e = .returned v' /\ w'.ownsRow w.heap.size 9 1 v' l.length (encs Value.string l) /\ Below w.heap.size w w' := by
 rcases zaJ hr with rfl | ⟨b, o, rfl, _, hcell⟩
 . cases A with
   | none =>
    have h := Go.Proofs.Any.slices_Clone_string_nil Go.Proofs.Tryz.laysClone 0 c w; change Calls zp0 99 _ _ _ at h
    exact h.mono fun e w' ⟨he, hw⟩ => ⟨_, he, zcX _ _ _ _, by subst hw; exact zpr _ _⟩
   | some a =>
    have h := Go.Proofs.Any.slices_Clone_string_zero Go.Proofs.Tryz.laysClone a c w; change Calls zp0 99 _ _ _ at h
    exact h.mono fun e w' ⟨v', he, ho, _, hb⟩ => ⟨v', he, ho, hb⟩
 . have h := Go.Proofs.Any.slices_Clone_string Go.Proofs.Tryz.laysClone b o l.length c l w (zps _) hl hcell
   change Calls zp0 99 _ _ _ at h
   exact h.mono fun e w' ⟨v', he, ho, _, hb⟩ => ⟨v', he, by rw [zqa] at ho; exact ho, hb⟩
theorem eg46 : ∀ args w, (callFunc 224 args).run zp0 w = .ok (.enter 224 args) w := Go.Proofs.enters_of Tryz.func224 (by kernel_rfl) rfl
def path_Join.f (l0 : List ByteArray) : Option ByteArray :=
 if l0.length * 16 <= 140737488355328 /\ (join (l0.map (·.data.toList))).length <= 140737488355328 then some (mk (join (l0.map (·.data.toList)))) else none
theorem zkZ (l : List ByteArray) : ((l.filter fun x => !(x.toList == [])).map (·.data.toList)) = (l.map (·.data.toList)).filter fun s => !(s == []) := by
 rw [List.filter_map]; congr 1
 simp only [za2]; rfl
theorem path_Join.calls (A0 : Option Addr) (c0 : Nat) (l0 : List ByteArray) (r : ByteArray) (w : World) (hG : GOK w) (hr0 : Kd.C zp6 w A0 l0.length l0) (_hc0 : l0.length <= c0) (h : path_Join.f l0 = some r) :
 Calls zp0 187 #[.slice A0 l0.length c0] w fun e w' => e = .returned (.string r) /\ Below w.heap.size w w' := by
 unfold path_Join.f at h; split at h
 . rename_i hs
   have hr := zp2 h; have h1 := zc1 A0 c0 l0 w hr0 hs.1; have hjoin : strings_Join.f (l0.filter fun x => !(x.toList == [])) (⟨#[47]⟩ : ByteArray) = some r := by
    unfold strings_Join.f; rw [zkZ]; have hlen : (l0.filter fun x => !(x.toList == [])).length <= l0.length := zqi _ _
    rw [if_pos ⟨by omega, hs.2⟩, <- hr]
    rfl
   clear h hr hr0; generalize hf : (l0.filter fun x => !(x.toList == [])) = lf at hjoin
   have HF := zpo hf; clear hf; have HJ := zpo hjoin; clear hjoin; have HG := zpo hG; clear hG hs; go_enter Tryz.func187, Tryz.ntmps187
   go_wp2_with fail; refine h1.mono ?_; rintro e w1 ⟨v1, rfl, ho1, hb1⟩; have h2 := zjM w.heap.size w.heap.size 224 #[] eg46 (fun x => x.toList == []) v1 l0 w1 ho1 (zps _) hb1.size (fun W x hb => by
    refine (Pa.path_Join_1.calls x (x.toList == []) W (HG.out.below (hb1.trans hb)) rfl).mono fun e w' ⟨he, hd⟩ => ⟨he, hd.out⟩)
   rw [HF.out] at h2; have HB1 := zpo hb1; have HV1 : Hid (∀ k, v1.ownBlock = some k -> w.heap.size <= k) := zcr ho1; clear hb1 ho1 h1; go_wp2_with fail; refine h2.mono ?_; rintro e w2 ⟨v2, rfl, ho2, _, hg2⟩; have hb2 : Below w.heap.size w w2 := zjH HB1.out HB1.out.size hg2 HV1.out; obtain ⟨A, c, rfl, hc, hrd⟩ := zql (Kd.R_of_own (h1 := fun _ => rfl) (ok := fun _ => True) ho2 (fun _ _ => trivial))
   have h3 := strings_Join.calls A c lf (⟨#[47]⟩ : ByteArray) r w2 (HG.out.below hb2) hrd hc HJ.out; clear ho2 hg2 hc hrd h2; go_wp2_with fail; refine h3.mono ?_; rintro e w3 ⟨rfl, hb3⟩; go_wp2; go_ret
   exact ⟨rfl, zac hb2 hb2.size hb3⟩
 . cases h
theorem zod (n : Int) (h : 0 <= n) : Lib.itoa n = zaH n := by
 unfold Lib.itoa zaH; rw [if_neg (by omega)]
theorem zfi (n : Int) (h0 : 0 <= n) (h1 : n <= 9223372036854775807) (w : World) (hG : GOK w) :
 Calls zp0 82 #[.int .i64 n] w fun e w' => e = .returned (.string (mk (zaH n))) /\ Below w.heap.size w w' := by
 refine Pb.mint_Number.calls n _ w hG ?_; unfold Pb.mint_Number.f; have e : mx n 0 = n := by unfold mx; omega
 rw [e]; unfold strconv_Itoa.f; rw [if_pos ⟨by omega, h1⟩, zod n h0]
 rfl
def zeF (s : zaa) (most : Int) : Int × Bool :=
 match Lib.atoiAll s with
 | .ok v => if v < 0 then (0, false) else if most < v then (0, false) else if zaH v == s then (v, true) else (0, false)
 | _ => (0, false)
def mint_GetNumber.f (a0 : ByteArray) (a1 : Int) : Option (Int × Bool) := if a0.size <= 281474976710656 then some (zeF a0.data.toList a1) else none
theorem mint_GetNumber.calls (a0 : ByteArray) (a1 : Int) (r1 : Int) (r2 : Bool) (w : World) (hG : GOK w) (h : mint_GetNumber.f a0 a1 = some (r1, r2)) :
 Calls zp0 186 #[.string a0, .int .i64 a1] w fun e w' => e = .returned (.tuple #[.int .i64 r1, .bool r2]) /\ Below w.heap.size w w' := by
 unfold mint_GetNumber.f at h; split at h
 . rename_i hs
   have hr := zp2 h; clear h; unfold zeF at hr; cases ha : Lib.atoiAll a0.data.toList
   . rename_i v
     rw [ha] at hr; dsimp only at hr; obtain ⟨hv0, hv1⟩ := Lib.atoiAll_bounds ha; have hA := Go.Proofs.Any.strconv_Atoi_ok Go.Proofs.Tryz.laysC172 a0 (by omega) v ha w
     change Calls zp0 223 _ _ _ at hA
     have hA' : Calls zp0 223 #[.string a0] w fun e w' => e = .returned (.tuple #[.int .i64 v, .nilIface]) /\ Below w.heap.size w w' := hA.mono fun e w' ⟨he, hw⟩ => ⟨he, by
      rcases hw with hw | ⟨t, hw⟩
      . subst hw; exact zpr _ _
      . subst hw; exact Go.Joins.below_bytesWorld _ _ _ _ (zps _)⟩
     clear hA ha; by_cases hn : v < 0
     . have hd : decide (v < 0) = true := by simp [hn]
       rw [if_pos hn] at hr; cases hr
       clear hG; go_enter Tryz.func186, Tryz.ntmps186
       go_wp2_with (go_at_call 223; refine hA'.mono ?_; rintro e w2 ⟨rfl, hb2⟩)
       go_ret2
       exact ⟨rfl, hb2⟩
     have hd : decide (v < 0) = false := by simp; omega
     rw [if_neg hn] at hr; by_cases hm : a1 < v
     . have hd2 : decide (a1 < v) = true := by simp [hm]
       rw [if_pos hm] at hr; cases hr
       clear hG; go_enter Tryz.func186, Tryz.ntmps186
       go_wp2_with (go_at_call 223; refine hA'.mono ?_; rintro e w2 ⟨rfl, hb2⟩)
       go_ret2
       exact ⟨rfl, hb2⟩
     have hd2 : decide (a1 < v) = false := by simp; omega
     rw [if_neg hm, <- za2] at hr; have HG := zpo hG; clear hG; have hN := fun W (h : GOK W) => zfi v (by omega) hv1 W h
     have et : (mk (zaH v)).toList = zaH v := zlf _; generalize mk (zaH v) = nv at hN et; rw [<- et] at hr; clear et; by_cases hq : nv.toList = a0.toList
     . have e1 : (nv.toList != a0.toList) = false := by simp [hq]
       have e2 : (nv.toList == a0.toList) = true := by simp [hq]
       rw [e2] at hr; cases hr
       clear hq; have HN := zpo hN; clear hN; go_enter Tryz.func186, Tryz.ntmps186
       go_wp2_with fail; refine hA'.mono ?_; rintro e w2 ⟨rfl, hb2⟩; go_wp2_with (go_at_call 82; refine (HN.out _ (HG.out.below hb2)).mono ?_; rintro e w3 ⟨rfl, hb3⟩)
       go_ret2
       exact ⟨rfl, zac hb2 hb2.size hb3⟩
     . have e1 : (nv.toList != a0.toList) = true := by simp [hq]
       have e2 : (nv.toList == a0.toList) = false := by simp [hq]
       rw [e2] at hr; cases hr
       clear hq; have HN := zpo hN; clear hN; go_enter Tryz.func186, Tryz.ntmps186
       go_wp2_with fail; refine hA'.mono ?_; rintro e w2 ⟨rfl, hb2⟩; go_wp2_with (go_at_call 82; refine (HN.out _ (HG.out.below hb2)).mono ?_; rintro e w3 ⟨rfl, hb3⟩)
       go_ret2
       exact ⟨rfl, zac hb2 hb2.size hb3⟩
   . rw [ha] at hr
     cases hr
     obtain ⟨te, pe, hev⟩ := hG.errS; have hA := Go.Proofs.Any.strconv_Atoi_syntax Go.Proofs.Tryz.laysC172 a0 hs ha _ w hev (.inr ⟨te, pe, rfl⟩); change Calls zp0 223 _ _ fun e w' => ∃ N, e = .returned (.tuple #[_, .iface 255 _]) /\ _ at hA
     clear hG hev ha; go_enter Tryz.func186, Tryz.ntmps186
     go_wp2_with (go_at_call 223; refine hA.mono ?_; rintro e w2 ⟨N, rfl, _, _, hb2⟩)
     go_ret2
     exact ⟨rfl, hb2⟩
   . rw [ha] at hr
     cases hr
     obtain ⟨te, pe, hev⟩ := hG.errR; have hA := Go.Proofs.Any.strconv_Atoi_range Go.Proofs.Tryz.laysC172 a0 hs ha _ w hev (.inr ⟨te, pe, rfl⟩); change Calls zp0 223 _ _ fun e w' => ∃ N, e = .returned (.tuple #[_, .iface 255 _]) /\ _ at hA
     clear hG hev ha; generalize Lib.atoiSat a0.data.toList = sat at hA; go_enter Tryz.func186, Tryz.ntmps186
     go_wp2_with (go_at_call 223; refine hA.mono ?_; rintro e w2 ⟨N, rfl, _, _, hb2⟩)
     go_ret2
     exact ⟨rfl, hb2⟩
 . cases h
theorem zmA {T e : TypeId} {B b : Nat} {bs : List Value} {w w1 : World} (h : Lib.IsBuilder T e B b bs w) (hb : Below w.heap.size w w1) : Lib.IsBuilder T e B b bs w1 := by
 have one : ∀ p, Lib.BuilderAt T e B b p bs w -> Lib.BuilderAt T e B b p bs w1 := by
  rintro p ⟨hB, v, hh, ho, hne⟩; exact ⟨hB, v, (hb.block b (zpt.1 hh).1).trans hh, zgc ho hb, hne⟩
 rcases h with h | h
 . exact .inl (one _ h)
 . exact .inr (one _ h)
theorem zmp (l m : zaa) (s : ByteArray) (h : s.data.toList = m) : Lib.byteCells l ++ Lib.strCells s = Lib.byteCells (l ++ m) := by
 subst h; unfold Lib.byteCells Lib.strCells; rw [zqj]
theorem zng (l : zaa) : (Lib.byteCells l).length = l.length := by simp [Lib.byteCells]
theorem zmk (l : List zaa) (k : Nat) (h : k < l.length) : put (l.take (k + 1)) = put (l.take k) ++ (zaH (l[k].length) ++ [58] ++ l[k]) := by
 unfold put; rw [zpU h, zqj, List.flatten_append]; simp
theorem zmN (l : List zaa) (k : Nat) : (put (l.take k)).length <= (put l).length := by
 have : put l = put (l.take k) ++ put (l.drop k) := by
  unfold put; rw [<- List.flatten_append, <- zqj, List.take_append_drop]
 rw [this, zpF]; omega
theorem zh0 (B b : Nat) (l : zaa) (s : ByteArray) (w : World) (h : Lib.IsBuilder 150 5 B b (Lib.byteCells l) w) (hlen : l.length + s.size <= 140737488355328) (hBw : B <= w.heap.size) :
 Calls zp0 124 #[.pointer (some ⟨b, 0, none⟩), .string s] w fun e w' => e = .returned (.tuple #[.int .i64 s.size, .nilIface]) /\ Lib.IsBuilder 150 5 B b (Lib.byteCells (l ++ s.data.toList)) w' /\ Below B w w' := by
 have hcall := Go.Proofs.Any.Builder_WriteString { Go.Proofs.Tryz.lays156 with } zef B b (Lib.byteCells l) s w h (by rw [zng]; exact hlen) hBw
 change Calls zp0 124 _ _ _ at hcall
 refine hcall.mono fun e w' ⟨he, hb, hB⟩ => ⟨he, .inr ?_, hB⟩
 rw [zmp l s.data.toList s rfl] at hb; exact hb
theorem zi6 (B b : Nat) (l : zaa) (w : World) (h : Lib.IsBuilder 150 5 B b (Lib.byteCells l) w) (hBw : B <= w.heap.size) :
 Calls zp0 125 #[.pointer (some ⟨b, 0, none⟩)] w fun e w' => e = .returned (.string (mk l)) /\ Below B w w' := by
 have hcall := Go.Proofs.Any.Builder_String_any { Go.Proofs.Tryz.lays156 with } zef B b l w h hBw; change Calls zp0 125 _ _ _ at hcall
 exact hcall
def mint_Put.f (l0 : List ByteArray) : Option ByteArray := if (put (l0.map (·.data.toList))).length <= 140737488355328 then some (mk (put (l0.map (·.data.toList)))) else none
theorem mint_Put.calls (A0 : Option Addr) (c0 : Nat) (l0 : List ByteArray) (r : ByteArray) (w : World) (hG : GOK w) (hr0 : Kd.C zp6 w A0 l0.length l0) (_hc0 : l0.length <= c0) (h : mint_Put.f l0 = some r) :
 Calls zp0 188 #[.slice A0 l0.length c0] w fun e w' => e = .returned (.string r) /\ Below w.heap.size w w' := by
 unfold mint_Put.f at h; split at h
 . rename_i hs
   have hr : mk (put (l0.map (·.data.toList))) = r := zp2 h; clear h; have hlen : l0.length <= 9223372036854775807 := hr0.2.1; have HS : Hid ((put (l0.map (·.data.toList))).length <= 140737488355328) := hs; have HR := zpo hr; have HG := zpo hG; have HC : Hid (l0 = [] \/ ∃ b o, A0 = some ⟨b, o, none⟩ /\ b < w.heap.size /\ ∀ j, j < l0.length -> w.cell? ⟨b, o + j, none⟩ = some (.string (l0.getD j zp1))) := zaJ hr0; clear hs hr hG hr0; go_enter Tryz.func188, Tryz.ntmps188
   go_wp2_with fail; go_loopg [5, 8] l0.length (fun gg _ s8 wr => ∃ kk : Nat, kk <= l0.length /\ l0.length - kk <= gg /\ s8 = .int .i64 kk /\ Aside0 (Lib.IsBuilder 150 5 w.heap.size w.heap.size (Lib.byteCells (put ((l0.map (·.data.toList)).take kk))) wr) /\ Aside0 (Below w.heap.size w wr))
   case atStart =>
    refine ⟨0, zqf _, by omega, rfl, ⟨.inl ⟨zps _, .slice none 0 0, heap_alloc_new w _, zcX _ _ _ _, by simp [Value.ownBlock]⟩⟩, ⟨(zpr _ _).alloc (zps _) _⟩⟩
   case round =>
    obtain ⟨kk, hkk, hgk, rfl, HB, HW⟩ := hrel; by_cases hlt : kk < l0.length
    . have hltz : (kk : Int) < (l0.length : Int) := by omega
      obtain ⟨y, hy⟩ : ∃ y, y = l0.getD kk zp1 := ⟨_, rfl⟩; rcases HC.out with h0 | ⟨b, o, rfl, hb, hcell⟩
      . exfalso; rw [h0] at hlt; simp at hlt
      have hx : wr.cell? ⟨b, o + kk, none⟩ = some (.string y) := by rw [hy]; exact zad HW.out (hcell kk hlt)
      have hk : kk < (l0.map (·.data.toList)).length := by simpa using hlt
      have hyk : (l0.map (·.data.toList))[kk] = y.data.toList := by rw [hy]; simp [zpw, zpv hlt]
      have hput : put ((l0.map (·.data.toList)).take (kk + 1)) = put ((l0.map (·.data.toList)).take kk) ++ (zaH (y.size) ++ [58] ++ y.data.toList) := by
       rw [zmk _ kk hk, hyk, <- zp7]
      have hle : (put ((l0.map (·.data.toList)).take kk)).length + (zaH y.size ++ [58] ++ y.data.toList).length <= 140737488355328 := by
       have := zmN (l0.map (·.data.toList)) (kk + 1); rw [hput, zpF] at this; exact zpy this HS.out
      have hsz : y.size <= 140737488355328 := by
       have e := zp7 y; simp only [zpF] at hle; omega
      have hnl : (zaH y.size).length <= 140737488355328 := by simp only [zpF] at hle; omega
      clear hcell hb; have HP := zpo hput; have HL : Hid ((put ((l0.map (·.data.toList)).take kk)).length + (zaH y.size ++ [58] ++ y.data.toList).length <= 140737488355328) := hle; have HN := zfi (y.size : Int) (by omega) (by omega) wr (HG.out.below HW.out)
      have ens : (mk (zaH y.size)).size = (zaH (y.size : Int)).length := zaX _; have end_ : (mk (zaH y.size)).data.toList = zaH (y.size : Int) := za9 _; generalize mk (zaH (y.size : Int)) = nv at HN ens end_; have hnv : nv.size <= 140737488355328 := by omega
      have END := zpo end_; clear hy hput hle hyk hk ens end_ hnl; have hd1 : nv.size + 1 <= 9223372036854775807 := by omega
      go_wp2_with fail; refine HN.mono ?_; rintro e w1 ⟨rfl, hb1⟩; go_wp2_with fail; refine (zh0 w.heap.size w.heap.size _ _ _ (zmA HB.out hb1) ?_ (zpy HW.out.size hb1.size)).mono ?_
      . have h1 := HL.out
        have e3 := congrArg List.length END.out; rw [<- zp7] at e3; have e4 := zp7 y; simp only [zpF, List.length_singleton] at h1; simp only [ByteArray.size_append]; show _ + (nv.size + 1 + y.size) <= _
        omega
      rintro e w2 ⟨rfl, hB2, hb2⟩; go_wp2; go_roundg (l0.length - (kk + 1))
      case measure => omega
      case rel =>
       refine ⟨kk + 1, by omega, by omega, by go_num, ⟨?_⟩, ⟨(HW.out.trans (hb1.mono HW.out.size)).trans hb2⟩⟩
       rw [HP.out]; have e5 : (nv ++ (⟨#[58]⟩ : ByteArray) ++ y).data.toList = zaH y.size ++ [58] ++ y.data.toList := by
        rw [data_append, data_append, END.out]
       rw [<- e5]; exact hB2
    . have hltz : ¬ (kk : Int) < (l0.length : Int) := by omega
      obtain rfl : kk = l0.length := by omega
      have hB := HB.out; rw [List.take_of_length_le (by simp)] at hB
      clear HB; go_wp2_with (go_at_call 125; refine (zi6 w.heap.size w.heap.size _ _ hB HW.out.size).mono ?_; rintro e w2 ⟨rfl, hb2⟩)
      go_ret
      exact ⟨by rw [<- HR.out]; rfl, HW.out.trans hb2⟩
 . cases h
end YtdpgdnpddndeoaaGreatDoor.X
namespace YtdpgdnpddndeoaaGreatDoor.X
open Go.RowKit Go.Maps YtdpgdnpddndeoaaGreatDoorW.PrintWords
abbrev TM := List (zaa × zaa)
def encT (m : TM) : DataW Unit := .map (m.map fun p => (.string p.1, .lit (.string p.2)))
def insT (x : zaa × zaa) : TM -> TM
 | [] => [x]
 | y :: r => if bytesBefore x.1 y.1 then x :: y :: r else y :: insT x r
def delT (m : TM) (k : zaa) : TM := m.filter fun p => !(p.1 == k)
def putT (m : TM) (k v : zaa) : TM := insT (k, v) (delT m k)
def getT (m : TM) (k : zaa) : Option zaa := (m.find? fun p => p.1 == k).map (·.2)
def keyT (m : TM) : zaa := put (m.flatMap fun p => [p.1, p.2])
def zb5 (m : TM) (k v : zaa) : TM × Int := if may k = false then (m, 1) else if 2000 < v.length \/ getT m k = none /\ 60 <= m.length then (m, 4) else (putT m k v, 0)
def zeJ (m : TM) (k : zaa) : TM × Int := if getT m k = none then (m, 6) else (delT m k, 0)
theorem ziq (m : TM) (k : zaa) : (encT m).del (.string k) = encT (delT m k) := by
 unfold encT delT DataW.del; simp only [List.filter_map]; rfl
theorem zhO (x : zaa × zaa) : ∀ m : TM, DataW.insert (H := Unit) (.string x.1, .lit (.string x.2)) (m.map fun p => (.string p.1, .lit (.string p.2))) = (insT x m).map fun p => (.string p.1, .lit (.string p.2))
 | [] => rfl
 | y :: r => by
  simp only [zpS, DataW.insert, insT]; show (if bytesBefore x.1 y.1 = true then _ else _) = _
  split
  . rfl
  . rw [zhO x r]; rfl
theorem zms (m : TM) (k v : zaa) : (encT m).put (.string k) (.lit (.string v)) = encT (putT m k v) := by
 have h := ziq m k; unfold encT DataW.del at h; unfold DataW.put encT putT; simp only [DataW.map.injEq] at h |-; rw [h]; exact zhO (k, v) _
theorem zlu (m : TM) (k : zaa) : ((m.map fun p => ((.string p.1 : Lit), (.lit (.string p.2) : DataW Unit))).find? fun p => p.1.sameKey (.string k)) = (m.find? fun p => p.1 == k).map fun p => (.string p.1, .lit (.string p.2)) := by
 rw [List.find?_map]; rfl
theorem zky (m : TM) (k : zaa) : Maps.has (encT m) (.string k) = (getT m k).isSome := by
 unfold encT getT; rw [Maps.has_eq, List.any_map]; rw [Option.isSome_map, List.isSome_find?]; rfl
theorem zh3 (m : TM) (k : zaa) : (encT m).atKey (.string k) (.lit (.string [])) = .lit (.string ((getT m k).getD [])) := by
 unfold encT getT DataW.atKey; simp only [zlu]; cases m.find? fun p => p.1 == k <;> rfl
theorem zey (m : TM) : Maps.size (encT m) = m.length := by
 unfold encT; rw [Maps.size_eq, zp9]
structure IsTree (w : World) (g b : Nat) (m : TM) : Prop where
 cell : w.heap[g]? = some (.cells #[.map (some b)] 100 (0, 0))
 map : w.ownsMap zp0 9 (plainElem zp0 9) b m.length (encT m)
theorem zhE {w : World} {b n : Nat} {m : TM} (h : w.ownsMap zp0 9 (plainElem zp0 9) b n (encT m)) : w.ownsMap zp0 9 (plainElem zp0 9) b m.length (encT m) := by
 obtain ⟨es, clock, hb, F, _, hD⟩ := h; refine ⟨es, clock, hb, F, ?_, hD⟩; have := zey m; rw [hD] at this; simp only [Maps.size, length_sorted, zp9, Array.length_toList] at this; omega
theorem IsTree.c {w : World} {g b : Nat} {m : TM} (h : IsTree w g b m) : w.cell? ⟨g, 0, none⟩ = some (.map (some b)) := by
 simp [World.cell?, h.cell]
theorem IsTree.lt {w : World} {g b : Nat} {m : TM} (h : IsTree w g b m) : g < w.heap.size /\ b < w.heap.size := ⟨(zpt.1 h.cell).1, h.map.lt⟩
theorem IsTree.ne {w : World} {g b : Nat} {m : TM} (h : IsTree w g b m) : g ≠ b := by
 rintro rfl; obtain ⟨es, clock, hb, _⟩ := h.map; rw [h.cell] at hb; cases hb
theorem IsTree.kept {w w1 : World} {g b : Nat} {m : TM} (h : IsTree w g b m) (hg : w1.heap[g]? = w.heap[g]?) (hb : w1.heap[b]? = w.heap[b]?) : IsTree w1 g b m := by
 refine ⟨hg.trans h.cell, ?_⟩; obtain ⟨es, clock, h1, r⟩ := h.map; exact ⟨es, clock, hb.trans h1, r⟩
theorem IsTree.below {w w1 : World} {g b : Nat} {m : TM} (h : IsTree w g b m) (hb : Below w.heap.size w w1) : IsTree w1 g b m := h.kept (hb.block g h.lt.1) (hb.block b h.lt.2)
theorem kS : Keyed zp0 9 := string_keyed Tryz.underlying9
theorem zS (w : World) : (zeroValue 9).run zp0 w = .ok (.string ⟨#[]⟩) w := Tryz.zeroValue9 w
theorem pS : plainElem (H := Unit) zp0 9 (.string ⟨#[]⟩) = some (.lit (.string []), []) := plainElem_string Tryz.underlying9 (by simp [ByteArray.size, maxLen])
theorem IsTree.look {w : World} {g b : Nat} {m : TM} (h : IsTree w g b m) (k : ByteArray) (hk : k.size <= maxLen) :
 (Instr.lookup 98 (.map (some b)) (.string k) true).run zp0 w = .ok (.tuple #[(.string (X.mk ((getT m k.data.toList).getD []))), .bool (getT m k.data.toList).isSome]) w := by
 obtain ⟨v, ps, hrun, hR⟩ := h.map.look_ok kS Tryz.underlying98 (zS w) pS (Go.WideMaps.keyOf_string_mk Tryz.underlying9 hk); rw [zh3] at hR; obtain ⟨s, rfl, hs, _⟩ := plainElem_string_inv Tryz.underlying9 hR; rw [hrun, zky]; have : s = X.mk ((getT m k.data.toList).getD []) := by
  have h0 := (Prod.mk.inj hs).1; simp only [DataW.lit.injEq, Lit.string.injEq] at h0; rw [<- zbh s, <- h0]
 rw [this]
theorem IsTree.len {w : World} {g b : Nat} {m : TM} (h : IsTree w g b m) (ty : TypeId) :
 (Builtin.len_ #[98] ty #[.map (some b)]).run zp0 w = .ok (.int .i64 m.length) w := by
 have := h.map.len Tryz.underlying98 ty; rwa [zey] at this
theorem IsTree.store {w : World} {g b : Nat} {m : TM} (h : IsTree w g b m) (k v : ByteArray) (hk : k.size <= maxLen) (hv : v.size <= maxLen) (hm : m.length < maxLen) :
 ∃ w', (Instr.mapUpdate 98 (.map (some b)) (.string k) (.string v)).run zp0 w = .ok () w' /\ IsTree w' g b (putT m k.data.toList v.data.toList) /\ w.grownBy w' (some b) := by
 obtain ⟨w', hrun, ho, ht⟩ := h.map.store kS Tryz.underlying98 hm (Go.WideMaps.keyOf_string_mk Tryz.underlying9 hk) (plainElem_string Tryz.underlying9 hv); rw [zms] at ho; have hg := ht.grown; exact ⟨w', hrun, ⟨(hg.block g h.lt.1 (by have := h.ne; intro e; injection e; omega)).trans h.cell, zhE ho⟩, hg⟩
theorem IsTree.drop {w : World} {g b : Nat} {m : TM} (h : IsTree w g b m) (k : ByteArray) (hk : k.size <= maxLen) (ty : TypeId) :
 ∃ w', (Builtin.delete_ #[98, 9] ty #[.map (some b), .string k]).run zp0 w = .ok (.tuple #[]) w' /\ IsTree w' g b (delT m k.data.toList) /\ w.grownBy w' (some b) := by
 obtain ⟨w', hrun, ho, ht⟩ := h.map.drop kS Tryz.underlying98 (Go.WideMaps.keyOf_string_mk Tryz.underlying9 hk) ty; rw [ziq] at ho; have hg := ht.grown; exact ⟨w', hrun, ⟨(hg.block g h.lt.1 (by have := h.ne; intro e; injection e; omega)).trans h.cell, zhE ho⟩, hg⟩
theorem tree_Len.calls (w : World) (g b : Nat) (m : TM) (h : IsTree w g b m) :
 Calls zp0 190 #[.pointer (some ⟨g, 0, none⟩)] w fun e w' => e = .returned (.int .i64 m.length) /\ Drawn0 w w' := by
 have hc := h.c; have hl := h.len; clear h; go_enter Tryz.func190, Tryz.ntmps190
 go_wp2; go_ret
 exact ⟨rfl, Drawn0.refl _⟩
theorem tree_Len.none (w : World) : Calls zp0 190 #[.pointer none] w fun e w' => e = .returned (.int .i64 0) /\ Drawn0 w w' := by
 go_enter Tryz.func190, Tryz.ntmps190
 go_wp2; go_ret
 exact ⟨rfl, Drawn0.refl _⟩
theorem tree_Read.calls (w : World) (g b : Nat) (m : TM) (h : IsTree w g b m) (k : ByteArray) (hk : k.size <= maxLen) :
 Calls zp0 109 #[.pointer (some ⟨g, 0, none⟩), .string k] w fun e w' => e = .returned (.tuple #[.string (mk ((getT m k.data.toList).getD [])), .bool (getT m k.data.toList).isSome]) /\ Drawn0 w w' := by
 have hc := h.c; have hl := h.look k hk; clear h; generalize mk ((getT m k.data.toList).getD []) = v at hl |-; generalize (getT m k.data.toList).isSome = is at hl |-; go_enter Tryz.func109, Tryz.ntmps109
 go_wp2; go_ret2
 exact ⟨rfl, Drawn0.refl _⟩
theorem zg5 {w w1 w2 : World} {row : Option Nat} (h : Below w.heap.size w w1) (hg : w1.grownBy w2 row) : w.grownBy w2 row :=
 ⟨hg.os.trans h.os, hg.tape.trans h.tape, hg.output.trans h.output, zpy h.size hg.size, fun i hi hne => (hg.block i (Nat.lt_of_lt_of_le hi h.size) hne).trans (h.block i hi)⟩
theorem tree_Write.calls (w : World) (hG : GOK w) (g b : Nat) (m : TM) (h : IsTree w g b m) (k v : ByteArray) (hk : k.size <= maxLen) (hv : v.size <= maxLen) (hm : m.length <= 60) :
 Calls zp0 71 #[.pointer (some ⟨g, 0, none⟩), .string k, .string v] w fun e w' => e = .returned (.int .i64 (zb5 m k.data.toList v.data.toList).2) /\ IsTree w' g b (zb5 m k.data.toList v.data.toList).1 /\ w.grownBy w' (some b) := by
 have hM := path_May.calls k (may k.data.toList) w hG rfl; have HT : Hid (IsTree w g b m) := h; have hc := h.c; have hl := h.look k hk; unfold zb5; rw [<- zp7]; cases hmay : may k.data.toList with
 | false =>
  rw [if_pos rfl]; rw [hmay] at hM; clear hG h hk hv hm hmay; generalize X.mk ((getT m k.data.toList).getD []) = v0 at hl; generalize (getT m k.data.toList).isSome = is at hl; go_enter Tryz.func71, Tryz.ntmps71
  go_wp2_with (go_at_call 102; refine hM.mono ?_; rintro e w2 ⟨rfl, hb2⟩)
  go_ret
  exact ⟨rfl, HT.out.below hb2, zb2 hb2 _⟩
 | true =>
  rw [if_neg (by simp)]
  rw [hmay] at hM; clear hmay hG; by_cases hv2 : 2000 < v.size
  . rw [if_pos (.inl hv2)]
    clear h hk hv hm; generalize X.mk ((getT m k.data.toList).getD []) = v0 at hl; generalize (getT m k.data.toList).isSome = is at hl; go_enter Tryz.func71, Tryz.ntmps71
    go_wp2_with (go_at_call 102; refine hM.mono ?_; rintro e w2 ⟨rfl, hb2⟩)
    go_ret
    exact ⟨rfl, HT.out.below hb2, zb2 hb2 _⟩
  . cases hget : getT m k.data.toList with
    | none =>
     rw [hget] at hl; simp only [zqh, Option.getD_none] at hl; by_cases h60 : 60 <= m.length
     . rw [if_pos (.inr ⟨rfl, h60⟩)]
       clear h hk hv hm hget; generalize X.mk [] = v0 at hl; go_enter Tryz.func71, Tryz.ntmps71
       go_wp2_with fail; refine hM.mono ?_; rintro e w2 ⟨rfl, hb2⟩; have hc2 := (HT.out.below hb2).c; have hl2 := (HT.out.below hb2).len; go_wp2; go_ret
       exact ⟨rfl, HT.out.below hb2, zb2 hb2 _⟩
     . rw [if_neg (by omega)]
       generalize X.mk [] = v0 at hl; have HK : Hid (k.size <= maxLen) := hk; have HV : Hid (v.size <= maxLen) := hv; have hm2 : m.length < 60 := by omega
       clear h hget hk hv h60 hm; go_enter Tryz.func71, Tryz.ntmps71
       go_wp2_with fail; refine hM.mono ?_; rintro e w2 ⟨rfl, hb2⟩; have hc2 := (HT.out.below hb2).c; have hl2 := (HT.out.below hb2).len; obtain ⟨w3, hrun, hT3, hg3⟩ := (HT.out.below hb2).store k v HK.out HV.out (by unfold maxLen; omega)
       have HT3 : Hid (IsTree w3 g b (putT m k.data.toList v.data.toList)) := hT3; have HG3 : Hid (w2.grownBy w3 (some b)) := hg3; clear hT3 hg3; go_wp2; go_ret
       exact ⟨rfl, HT3.out, zg5 hb2 HG3.out⟩
    | some x =>
     rw [hget] at hl; simp only [Option.isSome_some, zqk] at hl; rw [if_neg (by simp; omega)]
     generalize X.mk x = v0 at hl; have HK : Hid (k.size <= maxLen) := hk; have HV : Hid (v.size <= maxLen) := hv; clear h hget hk hv; go_enter Tryz.func71, Tryz.ntmps71
     go_wp2_with fail; refine hM.mono ?_; rintro e w2 ⟨rfl, hb2⟩; have hc2 := (HT.out.below hb2).c; obtain ⟨w3, hrun, hT3, hg3⟩ := (HT.out.below hb2).store k v HK.out HV.out (by unfold maxLen; omega)
     have HT3 : Hid (IsTree w3 g b (putT m k.data.toList v.data.toList)) := hT3; have HG3 : Hid (w2.grownBy w3 (some b)) := hg3; clear hT3 hg3; go_wp2; go_ret
     exact ⟨rfl, HT3.out, zg5 hb2 HG3.out⟩
theorem tree_Erase.calls (w : World) (g b : Nat) (m : TM) (h : IsTree w g b m) (k : ByteArray) (hk : k.size <= maxLen) :
 Calls zp0 193 #[.pointer (some ⟨g, 0, none⟩), .string k] w fun e w' => e = .returned (.int .i64 (zeJ m k.data.toList).2) /\ IsTree w' g b (zeJ m k.data.toList).1 /\ w.grownBy w' (some b) := by
 have HT : Hid (IsTree w g b m) := h; have hc := h.c; have hl := h.look k hk; unfold zeJ; cases hget : getT m k.data.toList with
 | none =>
  rw [hget] at hl; simp only [zqh, Option.getD_none] at hl; rw [if_pos rfl]; generalize X.mk [] = v0 at hl; clear h hk hget; go_enter Tryz.func193, Tryz.ntmps193
  go_wp2; go_ret
  exact ⟨rfl, HT.out, World.grownBy.refl _ _⟩
 | some x =>
  rw [hget] at hl; simp only [Option.isSome_some, zqk] at hl; rw [if_neg (by simp)]
  generalize X.mk x = v0 at hl; have hd : ∀ ty, ∃ w', (Builtin.delete_ #[98, 9] ty #[.map (some b), .string k]).run zp0 w = .ok (.tuple #[]) w' /\ IsTree w' g b (delT m k.data.toList) /\ w.grownBy w' (some b) := fun ty => h.drop k hk ty
  clear h hk hget; go_enter Tryz.func193, Tryz.ntmps193
  obtain ⟨w3, hrun, hT3, hg3⟩ := hd 0; have HT3 : Hid (IsTree w3 g b (delT m k.data.toList)) := hT3; have HG3 : Hid (w.grownBy w3 (some b)) := hg3; clear hT3 hg3 hd; go_wp2; go_ret
  exact ⟨rfl, HT3.out, HG3.out⟩
end YtdpgdnpddndeoaaGreatDoor.X
namespace YtdpgdnpddndeoaaGreatDoor.X
open Go.RowKit Go.Maps YtdpgdnpddndeoaaGreatDoorW.PrintWords YtdpgdnpddndeoaaGreatDoorW.PrintLast
theorem ziK (x : zaa × zaa) : ∀ m : TM, (insT x m).length = m.length + 1
 | [] => rfl
 | y :: r => by
  unfold insT; split
  . rfl
  . rw [zqc, ziK x r, zqc]
theorem zgP (m : TM) (k : zaa) : (delT m k).length <= m.length := zqi _ _
theorem zkN (m : TM) (k v : zaa) (h : getT m k = some v) : (delT m k).length + 1 <= m.length := by
 unfold getT at h; cases hf : m.find? (fun p => p.1 == k) with
 | none => rw [hf] at h; cases h
 | some p =>
  have hp := List.find?_some hf; have hm := List.mem_of_find?_eq_some hf; have : (delT m k).length < m.length := by
   rcases Nat.lt_or_ge (delT m k).length m.length with hl | hl
   . exact hl
   . have e := List.length_filter_eq_length_iff.1 (Nat.le_antisymm (zgP m k) hl) p hm
     simp at hp e
     exact absurd hp e
  omega
theorem zpc (m : TM) (k v : zaa) (h : m.length <= 60) : (zb5 m k v).1.length <= 60 := by
 unfold zb5; split
 . exact h
 . split
   . exact h
   . rename_i h2
     show (putT m k v).length <= 60
     unfold putT; rw [ziK]; cases hg : getT m k with
     | none =>
      have := zgP m k; have h3 : ¬ 60 <= m.length := fun h4 => h2 (.inr ⟨hg, h4⟩)
      omega
     | some x =>
      have := zkN m k x hg; omega
def newT (l : List (zaa × zaa)) : TM := l.foldl (fun m f => (zb5 m f.1 f.2).1) []
theorem zjk (l : List (zaa × zaa)) (f : zaa × zaa) : newT (l ++ [f]) = (zb5 (newT l) f.1 f.2).1 := by
 unfold newT; rw [List.foldl_append]; rfl
theorem znc (l : List (zaa × zaa)) : ∀ m : TM, m.length <= 60 -> (l.foldl (fun m f => (zb5 m f.1 f.2).1) m).length <= 60 := by
 induction l with
 | nil => exact fun _ h => h
 | cons f r ih => exact fun m h => ih _ (zpc m _ _ h)
theorem zjR (l : List (zaa × zaa)) : (newT l).length <= 60 := znc l [] (by simp)
def Made (w : World) (m : TM) (e : Ending) (w' : World) : Prop := ∃ g b, e = .returned (.pointer (some ⟨g, 0, none⟩)) /\ IsTree w' g b m /\ w.heap.size <= g /\ w.heap.size <= b /\ Below w.heap.size w w'
def zcW (f : S77) : zaa × zaa := (f.f0.data.toList, f.f1.data.toList)
theorem tree_New.calls (A : Option Addr) (c : Nat) (l : List S77) (w : World) (hG : GOK w) (hr : Kd.C k77 w A l.length l) (hsz : ∀ f ∈ l, f.f0.size <= maxLen /\ f.f1.size <= maxLen) :
 Calls zp0 48 #[.slice A l.length c] w (Made w (newT (l.map zcW))) := by
 have hlen : l.length <= 9223372036854775807 := hr.2.1; have HG := zpo hG; have HR := zpo hr; have HZ := zpo hsz; clear hG hr hsz; have hmm := @run_makeMap zp0; go_enter Tryz.func48, Tryz.ntmps48
 go_wp2_with fail; go_loopg [5, 11] l.length (fun gg _ s11 wr => ∃ kk : Nat, kk <= l.length /\ l.length - kk <= gg /\ s11 = .int .i64 kk /\ Aside0 (IsTree wr (w.heap.size + 1) w.heap.size (newT ((l.take kk).map zcW))) /\ Aside0 (Below w.heap.size w wr))
 case atStart =>
  refine ⟨0, zqf _, by omega, rfl, ⟨⟨?_, ?_⟩⟩, ⟨((zpr _ _).alloc (zps _) _).alloc (by simp) _⟩⟩
  . have := heap_alloc_new (w.alloc (.map #[] 0)) (.cells #[.map (some w.heap.size)] 100)
    simpa using this
  . exact ((World.ownsMap_made w zp0 9 _).alloc _)
 case round =>
  obtain ⟨kk, hkk, hgk, rfl, HT, HW⟩ := hrel; by_cases hlt : kk < l.length
  . have hltz : (kk : Int) < (l.length : Int) := by omega
    have hx := zjq HR.out (kk : Int) (by omega) hltz
    obtain ⟨ad, rfl, hx0, hx1⟩ := hx; simp only [Int.toNat_natCast] at hx0 hx1; obtain ⟨y, hy⟩ : ∃ y, y = zes l (kk : Int) := ⟨_, rfl⟩; rw [<- hy] at hx0 hx1; have hym : y = l[kk] := by rw [hy]; unfold zes; simp [zpw, zpv hlt]
    have HY : Hid (y = l[kk]) := hym; clear hy hym; replace hx0 := zad HW.out hx0
    replace hx1 := zad HW.out hx1
    have HN : Hid (newT ((l.take (kk + 1)).map zcW) = (zb5 (newT ((l.take kk).map zcW)) y.f0.data.toList y.f1.data.toList).1) := by
     show _ = _
     rw [zpU hlt, zqj, zpS, zpT, zjk, HY.out]; rfl
    have HL : Hid ((newT ((l.take kk).map zcW)).length <= 60) := zjR _; have HZ1 : Hid (y.f0.size <= maxLen /\ y.f1.size <= maxLen) := by rw [HY.out]; exact HZ.out _ (List.getElem_mem hlt)
    go_wp2_with fail; have hb1 : ∀ o, Below wr.heap.size wr (wr.alloc o) := fun o => (zpr _ _).alloc (zps _) o
    refine (tree_Write.calls _ (HG.out.below (zac HW.out HW.out.size (hb1 _))) _ _ _ (HT.out.below (hb1 _)) y.f0 y.f1 HZ1.out.1 HZ1.out.2 HL.out).mono ?_; rintro e w2 ⟨rfl, hT2, hg2⟩; rw [<- HN.out] at hT2; have HT2 : Hid (IsTree w2 (w.heap.size + 1) w.heap.size (newT ((l.take (kk + 1)).map zcW))) := hT2; have HW2 : Hid (Below w.heap.size w w2) := (zac HW.out HW.out.size (hb1 _)).grown hg2 (zpy HW.out.size (hb1 _).size) (fun k hk => by cases hk; exact zps _)
    clear hT2 hg2 hb1 hx0 hx1 HN HL HZ1 HY; go_wp2; go_roundg (l.length - (kk + 1))
    case measure => omega
    case rel => exact ⟨kk + 1, by omega, by omega, by go_num, ⟨HT2.out⟩, ⟨HW2.out⟩⟩
  . have hltz : ¬ (kk : Int) < (l.length : Int) := by omega
    obtain rfl : kk = l.length := by omega
    have hT := HT.out; rw [zqa] at hT; have HT' : Hid (IsTree wr (w.heap.size + 1) w.heap.size (newT (l.map zcW))) := hT; clear HT hT; go_wp2; go_ret
    exact ⟨w.heap.size + 1, w.heap.size, rfl, HT'.out, by omega, zps _, HW.out⟩
end YtdpgdnpddndeoaaGreatDoor.X
namespace YtdpgdnpddndeoaaGreatDoor.X
open Go.RowKit Go.Maps Go.Sort Go.Shelf YtdpgdnpddndeoaaGreatDoorW.PrintWords
theorem zhT : ∀ (x y : zaa), bytesBefore x y = decide (x < y)
 | [], [] => by simp [bytesBefore]
 | _ :: _, [] => by simp [bytesBefore]
 | [], _ :: _ => by simp [bytesBefore]
 | a :: x, b :: y => by
  rw [bytesBefore, zhT x y]; simp only [List.cons_lt_cons_iff]; by_cases h1 : a < b <;> by_cases h2 : a = b <;> by_cases h3 : x < y <;> simp [h1, h2, h3]
def SortedT (m : TM) : Prop := m.Pairwise fun p q => bytesBefore p.1 q.1 = true
theorem SortedT.del {m : TM} (h : SortedT m) (k : zaa) : SortedT (delT m k) := List.Pairwise.filter _ h
theorem ziz (x : zaa × zaa) (p : zaa × zaa) : ∀ m : TM, p ∈ insT x m ↔ p = x \/ p ∈ m
 | [] => by simp [insT]
 | y :: r => by
  unfold insT; split
  . simp
  . simp only [List.mem_cons, ziz x p r]
    constructor
    . rintro (h | h | h)
      . exact .inr (.inl h)
      . exact .inl h
      . exact .inr (.inr h)
    . rintro (h | h | h)
      . exact .inr (.inl h)
      . exact .inl h
      . exact .inr (.inr h)
theorem SortedT.ins (x : zaa × zaa) : ∀ m : TM, SortedT m -> (∀ p ∈ m, p.1 ≠ x.1) -> SortedT (insT x m)
 | [], _, _ => by simp [insT, SortedT]
 | y :: r, h, hne => by
  unfold insT; have hy := List.pairwise_cons.1 h; split
  . rename_i hb
    refine List.pairwise_cons.2 ⟨fun p hp => ?_, h⟩
    rcases List.mem_cons.1 hp with rfl | hp
    . exact hb
    . exact WideShapes.bytes_trans _ _ _ hb (hy.1 p hp)
  . rename_i hb
    refine List.pairwise_cons.2 ⟨fun p hp => ?_, SortedT.ins x r hy.2 (fun p hp => hne p (List.mem_cons_of_mem _ hp))⟩
    rcases (ziz x p r).1 hp with rfl | hp
    . rcases WideAt.bytes_total y.1 p.1 (hne y List.mem_cons_self) with h1 | h1
      . exact h1
      . exact absurd h1 hb
    . exact hy.1 p hp
theorem SortedT.put {m : TM} (h : SortedT m) (k v : zaa) : SortedT (putT m k v) := by
 refine SortedT.ins (k, v) _ (h.del k) fun p hp e => ?_
 have := (List.mem_filter.1 hp).2; simp at this
 exact this e
theorem SortedT.write {m : TM} (h : SortedT m) (k v : zaa) : SortedT (zb5 m k v).1 := by
 unfold zb5; split
 . exact h
 . split
   . exact h
   . exact h.put k v
theorem SortedT.nil : SortedT [] := List.Pairwise.nil
theorem SortedT.fold (l : List (zaa × zaa)) : ∀ m : TM, SortedT m -> SortedT (l.foldl (fun m f => (zb5 m f.1 f.2).1) m) := by
 induction l with
 | nil => exact fun _ h => h
 | cons f r ih => exact fun m h => ih _ (h.write _ _)
theorem SortedT.new (l : List (zaa × zaa)) : SortedT (newT l) := SortedT.fold l [] SortedT.nil
theorem zmH {m : TM} (h : SortedT m) : (m.map (·.1)).mergeSort leB = m.map (·.1) := by
 refine List.mergeSort_of_pairwise ?_; refine List.pairwise_map.2 (h.imp fun {p q} hb => ?_)
 rw [zhT] at hb; simp only [leB, decide_eq_true_eq] at hb |-; exact List.le_of_lt hb
theorem zne (mb : Option Nat) (W : World) : Calls zp0 225 #[.map mb] W fun e w' => e = .returned (.func (.func 240) #[] #[.pointer (some ⟨W.heap.size, 0, none⟩)]) /\ w' = W.alloc (.cells #[.map mb] 98) :=
 callsIn_wide.1 (Go.Proofs.AnyZ.keys_in Go.Proofs.Tryz.laysKeys Fence.wide 5 trivial rfl mb W)
theorem sorts (m : Nat) : Go.Proofs.AnyZ.SortsIn zp0 Go.Proofs.Tryz.laysSorted_ren Fence.wide m :=
 ⟨fun blk off cap ss W hH hblk hsz => callsIn_wide.2 (Go.Proofs.AnyM.slices_Sort_string Go.Proofs.Tryz.laysSort blk off cap ss W hH hblk hsz),
  fun p cap W => callsIn_wide.2 (Go.Proofs.AnyM.slices_Sort_string_none Go.Proofs.Tryz.laysSort p cap W)⟩
theorem zoX (b : Nat) (m : TM) (hm : SortedT m) (hl : m.length <= 60) (w : World) (hown : w.ownsMap zp0 9 (plainElem zp0 9) b m.length (encT m)) :
 Calls zp0 80 #[.func (.func 240) #[] #[.pointer (some ⟨w.heap.size, 0, none⟩)]] (w.alloc (.cells #[.map (some b)] 98)) fun e w' => ∃ v : Value, e = .returned v /\
  w'.ownsRow w.heap.size 9 1 v (m.map fun p => mk p.1).length (encs Value.string (m.map fun p => mk p.1)) /\ Below w.heap.size w w' := by
 have hbl := hown.lt; have hmax : Maps.size (encT m) <= maxLen := by rw [zey]; unfold maxLen; omega
 have hbytes : Maps.size (encT m) * 16 <= 140737488355328 := by rw [zey]; omega
 have hseq : Go.SeqGives Fence.wide 2 zp0 240 #[.pointer (some ⟨w.heap.size, 0, none⟩)] encStr (fun ss => ss.Perm (strKeys (encT m))) (Maps.size (encT m)) (w.alloc (.cells #[.map (some b)] 98)) :=
  Go.Proofs.AnyZ.keys_gives (ρ := Go.Proofs.Tryz.laysKeys_ren) { Go.Proofs.Tryz.laysKeys with } Fence.wide _ trivial rfl (by omega) w.heap.size b m.length (encT m) _ (by simp) (by simp) (by
   obtain ⟨es, clock, hb, Ft, hs, hD⟩ := hown; exact ⟨es, clock, (Below.heap_alloc _ _ b hbl).trans hb, Ft, hs, hD⟩)
 have h := Go.Proofs.AnyZ.sorted_in Go.Proofs.Tryz.laysSorted Fence.wide 5 trivial trivial trivial trivial rfl (by omega) (sorts _) (Go.Proofs.enters_of Tryz.func93 (by kernel_rfl) rfl) 240 #[.pointer (some ⟨w.heap.size, 0, none⟩)] trivial (Go.Proofs.enters_of Tryz.func240 (by kernel_rfl) rfl) _ _ hmax hbytes _ hseq
 refine (callsIn_wide.1 h).mono fun e w' ⟨v, ss, he, hS, hrow, _, hb⟩ => ⟨v, he, ?_, ((zpr _ w).alloc (zps _) _).trans (hb.mono (by simp))⟩
 have hk : strKeys (encT m) = m.map (·.1) := by
  show (m.map fun p => ((.string p.1 : Lit), (.lit (.string p.2) : DataW Unit))).map (fun p => strOf p.1) = _
  rw [zp8]; rfl
 rw [hk] at hS; have e1 := mergeSort_of_perm hS; rw [zmH hm] at e1; have e2 : ss.length = m.length := by rw [hS.length_eq, zp9]
 rw [show (fun x y : List UInt8 => decide (x <= y)) = leB from rfl, e1, e2, zp8] at hrow
 rw [zp9]; have e3 : encs Value.string (m.map fun p => mk p.1) = m.map (encStr ∘ fun x => x.1) := by
  unfold encs; rw [zp8]; rfl
 rw [e3]; exact ownsRow_base_a hrow (by simp)
theorem tree_Names.calls (w : World) (g b : Nat) (m : TM) (h : IsTree w g b m) (hm : SortedT m) (hl : m.length <= 60) :
 Calls zp0 191 #[.pointer (some ⟨g, 0, none⟩)] w fun e w' => ∃ v : Value, e = .returned v /\
  w'.ownsRow w.heap.size 9 1 v (m.map fun p => mk p.1).length (encs Value.string (m.map fun p => mk p.1)) /\ Below w.heap.size w w' := by
 have hc := h.c; have hK := zne (some b) w; have hS := zoX b m hm hl w h.map; clear h hm hl; generalize (m.map fun p => mk p.1) = nm at hS |-
 go_enter Tryz.func191, Tryz.ntmps191
 go_wp2_with (first
  | (go_at_call 225; refine hK.mono ?_; rintro e w2 ⟨rfl, rfl⟩)
  | (go_at_call 80; refine hS.mono ?_; rintro e w3 ⟨v, rfl, hrow, hb⟩))
 go_ret
 exact ⟨v, rfl, hrow, hb⟩
end YtdpgdnpddndeoaaGreatDoor.X
namespace YtdpgdnpddndeoaaGreatDoor.X
open Go.RowKit Go.Maps YtdpgdnpddndeoaaGreatDoorW.PrintWords
section
variable {P : Program} {ops : Array Oper} {rest : List Oper} {o : Oper} {a : Act} {Q : Exit -> Act -> World -> Prop}
theorem zm2 {w0 W : World} (base : Nat) (hgd : o.guard = none) (s x : Operand) (t e : TypeId) (z : Value) (bytes : Nat)
 (ho : o.op = .call { callee := .builtin .append, args := #[s, x], argTypes := #[t, t] })
 (ht : P.underlying t = some (.slice e)) (hinfo : (P.info? e).map (fun i => (i.zero, i.size, i.bytes)) = some (some z, 1, bytes)) (hz : z.cells.size = 1) (hb0 : 0 < bytes)
 (v : Value) (xs : List Value) (y1 y2 : Value) (hs : a.eval s = v) (hx : a.eval x = .slice (some ⟨W.heap.size, 0, none⟩) 2 2) (h1 : y1.oneCell' = true) (h2 : y2.oneCell' = true)
 (HO : W.ownsRow base e 1 v xs.length xs) (HB : Below base w0 W) (hbase : base <= W.heap.size) (hl : (xs.length + 2) * bytes <= 140737488355328)
 (h : ∀ v1 w1, w1.ownsRow base e 1 v1 (xs ++ [y1, y2]).length (xs ++ [y1, y2]) -> Below base w0 w1 -> W.grownBy w1 v.ownBlock -> (v1.ownBlock = v.ownBlock \/ ∃ b, v1.ownBlock = some b /\ W.heap.size <= b) -> wpList P ops Q rest (a.put o.dst v1) w1) :
 wpList P ops Q (o :: rest) a (W.alloc (.cells #[y1, y2] e)) := by
 obtain ⟨i0, hi, hzz⟩ := Option.map_eq_some_iff.1 hinfo; simp only [Prod.mk.injEq] at hzz; obtain ⟨hz0, hz1, hz2⟩ := hzz; have hlen : xs.length + 2 <= 140737488355328 := zpy (Nat.le_mul_of_pos_right _ hb0) hl; refine wpList_append_own_at (W.alloc (.cells #[y1, y2] e)) hgd s x t ho base e i0 z 1 bytes ht hi hz0 hz1 hz2 hz (by omega) v xs.length xs hs (HO.alloc _) ⟨W.heap.size, 0, none⟩ 2 2 [y1, y2] hx rfl
  (World.news_of_block (cs := #[y1, y2]) (t := e) (fr := (0, 0)) (heap_alloc_new W _)) (by simp [h1, h2]) (by simp only [maxLen]; omega) hl (by simp; omega) ?_
 intro v1 w1 hown hg _ hat; refine h v1 w1 (by simpa using hown) ((HB.alloc hbase _).grown hg (by simp; omega) (zcr HO)) (World.grownBy.trans (World.grownBy_alloc W _ _) hg) ?_
 rcases hat with hat | hat
 . exact .inl hat
 . exact .inr ⟨_, hat, by simp⟩
end
theorem IsTree.look1 {w : World} {g b : Nat} {m : TM} (h : IsTree w g b m) (k : ByteArray) (hk : k.size <= maxLen) :
 (Instr.lookup 98 (.map (some b)) (.string k) false).run zp0 w = .ok (.string (X.mk ((getT m k.data.toList).getD []))) w := by
 obtain ⟨v, ps, hrun, hR⟩ := h.map.lookup kS Tryz.underlying98 (zS w) pS (Go.WideMaps.keyOf_string_mk Tryz.underlying9 hk); rw [zh3] at hR; obtain ⟨s, rfl, hs, _⟩ := plainElem_string_inv Tryz.underlying9 hR; rw [hrun]; have h0 := (Prod.mk.inj hs).1; simp only [DataW.lit.injEq, Lit.string.injEq] at h0; rw [h0, zbh]
def zbv (m : TM) : List ByteArray := m.flatMap fun p => [mk p.1, mk p.2]
theorem zoz (m : TM) : put ((zbv m).map (·.data.toList)) = keyT m := by
 unfold zbv keyT; congr 1
 rw [List.map_flatMap]; simp only [zpS, zpT, za9]
theorem zl5 (m : TM) (k : Nat) (h : k < m.length) : zbv (m.take (k + 1)) = zbv (m.take k) ++ [mk (m[k]).1, mk (m[k]).2] := by
 unfold zbv; rw [zpU h, List.flatMap_append]; simp
theorem zmC (m : TM) : (zbv m).length = 2 * m.length := by
 induction m with
 | nil => rfl
 | cons p r ih => simp only [zbv, List.flatMap_cons, zpF, zqc, List.length_nil] at ih |-; omega
theorem zkw {m : TM} (h : SortedT m) (k : Nat) (hk : k < m.length) : getT m (m[k]).1 = some (m[k]).2 := by
 unfold getT; have : m.find? (fun p => p.1 == (m[k]).1) = some m[k] := by
  rw [List.find?_eq_some_iff_getElem]; refine ⟨by simp, k, hk, rfl, fun j hj => ?_⟩
  have := List.pairwise_iff_getElem.1 h j k (by omega) hk hj
  simp only [Bool.not_eq_true']; rw [beq_eq_false_iff_ne]; intro e; rw [e, WideAt.bytes_irrefl] at this; cases this
 rw [this]; rfl
theorem infoS : (Tryz.prog.info? 9).map (fun i => (i.zero, i.size, i.bytes)) = some (some (.string ⟨#[]⟩), 1, 16) := by kernel_rfl
theorem tree_Key.calls (w : World) (hG : GOK w) (g b : Nat) (m : TM) (h : IsTree w g b m) (hm : SortedT m) (hl : m.length <= 60) (hkey : ∀ p ∈ m, p.1.length <= maxLen) (hput : (keyT m).length <= 140737488355328) :
 Calls zp0 192 #[.pointer (some ⟨g, 0, none⟩)] w fun e w' => e = .returned (.string (mk (keyT m))) /\ Below w.heap.size w w' := by
 have hN := tree_Names.calls w g b m h hm hl; have HT := zpo h; have HM := zpo hm; have HG := zpo hG; have HP : Hid ((keyT m).length <= 140737488355328) := hput; have HKey := zpo hkey; clear hG h hm hput hkey; generalize hnm : (m.map fun p => mk p.1) = nm at hN
 have hnl : nm.length = m.length := by rw [<- hnm, zp9]
 have HNM := zpo hnm; clear hnm; go_enter Tryz.func192, Tryz.ntmps192
 go_wp2_with fail; refine hN.mono ?_; rintro e w1 ⟨vn, rfl, hrow, hb1⟩; obtain ⟨A, c, rfl, hc, hrd⟩ := zql (Kd.R_of_own (h1 := fun _ => rfl) (ok := fun _ => True) hrow (fun _ _ => trivial))
 have HROW : Hid (w1.ownsRow w.heap.size 9 1 (.slice A nm.length c) nm.length (encs Value.string nm)) := hrow; have HB1 := zpo hb1; clear hrow hb1 hc hrd; have hnl2 : nm.length <= 60 := by omega
 have HNL : Hid (nm.length = m.length) := hnl; clear hnl; go_wp2_with fail; go_loopg [3, 5, 9] nm.length (fun gg s3 _ s9 wr => ∃ kk : Nat, kk <= nm.length /\ nm.length - kk <= gg /\ s9 = .int .i64 kk /\ Aside0 (wr.ownsRow w.heap.size 9 1 s3 (encs Value.string (zbv (m.take kk))).length (encs Value.string (zbv (m.take kk)))) /\
  Aside0 (wr.ownsRow w.heap.size 9 1 (.slice A nm.length c) nm.length (encs Value.string nm)) /\ Aside0 (s3.ownBlock = none \/ s3.ownBlock ≠ (Value.slice A nm.length c).ownBlock) /\ Aside0 (Below w.heap.size w wr))
 case atStart =>
  exact ⟨0, zqf _, by omega, rfl, ⟨zcX _ _ _ _⟩, ⟨HROW.out⟩, ⟨.inl rfl⟩, ⟨HB1.out⟩⟩
 case round =>
  obtain ⟨kk, hkk, hgk, rfl, HO, HR, HNE, HW⟩ := hrel; by_cases hlt : kk < nm.length
  . have hltz : (kk : Int) < (nm.length : Int) := by omega
    have hkm : kk < m.length := by have := HNL.out; omega
    obtain ⟨A', c', he, _, hrd⟩ := zql (Kd.R_of_own (h1 := fun _ => rfl) (ok := fun _ => True) HR.out (fun _ _ => trivial))
    obtain rfl : A = A' := by injection he
    obtain ⟨y, hy⟩ : ∃ y, y = nm.getD kk zp1 := ⟨_, rfl⟩; have hym : y = mk (m[kk]).1 := by
     rw [hy, zpw, zpv hlt]; simp only [zqk]; have := HNM.out; subst this; rw [List.getElem_map]
    rcases zaJ hrd with h0 | ⟨b', o, rfl, _, hcell⟩
    . exfalso; rw [h0] at hlt; simp at hlt
    have hx : wr.cell? ⟨b', o + kk, none⟩ = some (.string y) := by rw [hy]; exact hcell kk hlt
    have hTW := HT.out.below HW.out; have hc := hTW.c; have hsz : y.size <= maxLen := by rw [hym, zaX]; exact HKey.out _ (List.getElem_mem hkm)
    have hlk := hTW.look1 y hsz; obtain ⟨z, hz⟩ : ∃ z, z = mk (m[kk]).2 := ⟨_, rfl⟩; have hget : mk ((getT m y.data.toList).getD []) = z := by rw [hym, za9, zkw HM.out kk hkm, hz]; rfl
    rw [hget] at hlk; have HF : Hid (zbv (m.take (kk + 1)) = zbv (m.take kk) ++ [y, z]) := by show _ = _; rw [zl5 m kk hkm, hym, hz]
    have HL2 : Hid ((zbv (m.take kk)).length = 2 * kk) := by show _ = _; rw [zmC, zpD]; omega
    have hwb : w.heap.size <= wr.heap.size := HW.out.size; have HWB := zpo hwb; clear hcell hrd hy hym hget hz he hsz hTW; go_wp2_with (first | ((with_reducible refine zaD (b := .append) (xs := #[.tmp 13, .tmp 21]) rfl ?_); at_builtin; refine zm2 (w0 := w) w.heap.size rfl (.tmp 13) (.tmp 21) 22 9 (.string ⟨#[]⟩) 16 rfl Tryz.underlying22 infoS rfl (by decide) u3 (encs Value.string (zbv (m.take kk))) (.string y) (.string z) rfl ?aX rfl rfl HO.out HW.out HWB.out ?aL ?_; (case aX => exact rfl); (case aL => have := HL2.out; unfold encs; rw [zp9, this]; omega); intro v1 w2 ho hb hg hat))
    rw [show encs Value.string (zbv (m.take kk)) ++ [.string y, .string z] = encs Value.string (zbv (m.take (kk + 1))) by rw [HF.out]; unfold encs; rw [zqj]; rfl] at ho
    have HR2 : Hid (w2.ownsRow w.heap.size 9 1 (.slice (some ⟨b', o, none⟩) nm.length c) nm.length (encs Value.string nm)) :=
     zkY HR.out hg (by
      rcases HNE.out with h | h
      . exact .inr (by rw [h]; simp [Value.ownBlock])
      . exact .inr (Ne.symm h))
    have HNE2 : Hid (v1.ownBlock = none \/ v1.ownBlock ≠ (Value.slice (some ⟨b', o, none⟩) nm.length c).ownBlock) := by
     rcases hat with h | ⟨q, h, hq⟩
     . exact h ▸ HNE.out
     . refine .inr ?_
       rw [h]; simp only [Value.ownBlock, ne_eq, Option.some.injEq]; omega
    have HO2 := zpo ho; have HB2 := zpo hb; clear ho hb hg hat hx hc hlk HF HL2 HWB; go_wp2; go_roundg (nm.length - (kk + 1))
    case measure => omega
    case rel => exact ⟨kk + 1, by omega, by omega, by go_num, ⟨HO2.out⟩, ⟨HR2.out⟩, ⟨HNE2.out⟩, ⟨HB2.out⟩⟩
  . have hltz : ¬ (kk : Int) < (nm.length : Int) := by omega
    obtain rfl : kk = nm.length := by omega
    have ho := HO.out; rw [HNL.out, zqa] at ho; obtain ⟨A', c', rfl, hc', hrd⟩ := zql (Kd.R_of_own (h1 := fun _ => rfl) (ok := fun _ => True) (show wr.ownsRow w.heap.size 9 1 u3 (zbv m).length (encs Value.string (zbv m)) by unfold encs at ho; rw [zp9] at ho; exact ho) (fun _ _ => trivial))
    have hP := mint_Put.calls A' c' (zbv m) (mk (keyT m)) wr (HG.out.below HW.out) hrd hc' (by unfold mint_Put.f; rw [zoz, if_pos HP.out])
    clear hrd ho hc'; go_wp2_with fail; refine hP.mono ?_; rintro e w2 ⟨rfl, hb2⟩; go_wp2; go_ret
    exact ⟨rfl, zac HW.out HW.out.size hb2⟩
end YtdpgdnpddndeoaaGreatDoor.X
end Go.Proofs
