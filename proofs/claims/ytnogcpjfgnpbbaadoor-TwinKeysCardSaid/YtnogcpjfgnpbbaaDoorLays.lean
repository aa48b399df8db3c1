/- The library's contracts that are proved once over any program, at this seat's numbers. Conditions: none. -/
import Derived.Test.YtnogcpjfgnpbbaaDoorProg
import Derived.Shelf.Spec.DecodeRune
import Derived.Shelf.Utf8.AppendRunePlain
import Derived.Shelf.Small.Utf8
set_option linter.unusedSimpArgs false
set_option linter.unusedVariables false
namespace Go.Proofs.YtnogcpjfgnpbbaaDoor
open Go.Shelf
def laysDecode_ren : Go.Shelf.Ren := ⟨fun | 0 => 0 | 1 => 1 | 2 => 2 | 32 => 40 | 49 => 47 | 57 => 30 | 62 => 29 | 63 => 42 | 71 => 57 | 72 => 58 | 73 => 59 | 74 => 60 | 75 => 61 | 76 => 62 | 77 => 63 | 78 => 64 | 79 => 65 | 80 => 66 | 81 => 67 | 82 => 68 | 83 => 69 | 84 => 70 | 85 => 71 | 88 => 73 | 89 => 78 | n => n, fun | 0 => 0 | 1 => 1 | 2 => 2 | 3 => 3 | 4 => 4 | 5 => 5 | 6 => 6 | 7 => 7 | 8 => 8 | 9 => 9 | 10 => 10 | 11 => 11 | 12 => 12 | 13 => 13 | 14 => 14 | 15 => 15 | 16 => 16 | 17 => 17 | 18 => 18 | 19 => 19 | 20 => 20 | 21 => 21 | 22 => 91 | 25 => 93 | 27 => 24 | 30 => 22 | 33 => 87 | 34 => 88 | 42 => 28 | 47 => 76 | 48 => 75 | 66 => 98 | 67 => 99 | 68 => 100 | 69 => 101 | 73 => 117 | 85 => 84 | 89 => 102 | 90 => 103 | 91 => 104 | 92 => 105 | 93 => 106 | 94 => 107 | 95 => 108 | 96 => 109 | 97 => 110 | 98 => 111 | 99 => 112 | 100 => 113 | 101 => 114 | 102 => 115 | 103 => 116 | n => n, fun | 2 => 0 | 3 => 1 | n => n⟩
theorem laysDecode : Lays7.n32 Tryd.prog laysDecode_ren where
  mixed := by kernel_rfl
  f32 := Tryd.func40.trans (congrArg some (by kernel_rfl))
  f49 := Tryd.func47.trans (congrArg some (by kernel_rfl))
  t0 := Tryd.underlying0
  a0 := Tryd.isAgg0
  z0 := Tryd.sizeOf0
  v0 := Tryd.zeroValue0
  i0 := by kernel_rfl
  t3 := Tryd.underlying3
  a3 := Tryd.isAgg3
  z3 := Tryd.sizeOf3
  v3 := Tryd.zeroValue3
  i3 := by kernel_rfl
  t4 := Tryd.underlying4
  a4 := Tryd.isAgg4
  z4 := Tryd.sizeOf4
  v4 := Tryd.zeroValue4
  i4 := by kernel_rfl
  t5 := Tryd.underlying5
  a5 := Tryd.isAgg5
  z5 := Tryd.sizeOf5
  v5 := Tryd.zeroValue5
  i5 := by kernel_rfl
  t21 := Tryd.underlying21
  a21 := Tryd.isAgg21
  z21 := Tryd.sizeOf21
  v21 := Tryd.zeroValue21
  i21 := by kernel_rfl
  t25 := Tryd.underlying93
  a25 := Tryd.isAgg93
  z25 := Tryd.sizeOf93
  v25 := Tryd.zeroValue93
  i25 := by kernel_rfl
  t30 := Tryd.underlying22
  a30 := Tryd.isAgg22
  z30 := Tryd.sizeOf22
  v30 := Tryd.zeroValue22
  i30 := by kernel_rfl
  t33 := Tryd.underlying87
  a33 := Tryd.isAgg87
  z33 := Tryd.sizeOf87
  v33 := Tryd.zeroValue87
  i33 := by kernel_rfl
  t66 := Tryd.underlying98
  a66 := Tryd.isAgg98
  z66 := Tryd.sizeOf98
  t68 := Tryd.underlying100
  a68 := Tryd.isAgg100
  z68 := Tryd.sizeOf100
  v68 := Tryd.zeroValue100
  i68 := by kernel_rfl
  t69 := Tryd.underlying101
  a69 := Tryd.isAgg101
  z69 := Tryd.sizeOf101
  v69 := Tryd.zeroValue101
  i69 := by kernel_rfl
  g2 := by kernel_rfl
  g3 := by kernel_rfl
def laysAppendRune_ren : Go.Shelf.Ren := ⟨fun | 0 => 0 | 1 => 1 | 2 => 2 | 119 => 29 | 242 => 30 | 278 => 42 | 326 => 40 | 342 => 47 | 347 => 57 | 348 => 58 | 349 => 59 | 350 => 60 | 351 => 61 | 352 => 62 | 353 => 63 | 354 => 64 | 355 => 65 | 356 => 66 | 357 => 67 | 358 => 68 | 359 => 69 | 360 => 70 | 361 => 71 | 366 => 73 | 367 => 78 | n => n, fun | 0 => 0 | 1 => 1 | 2 => 2 | 3 => 3 | 4 => 4 | 5 => 5 | 6 => 6 | 7 => 7 | 8 => 8 | 9 => 9 | 10 => 10 | 11 => 11 | 12 => 12 | 13 => 13 | 14 => 14 | 15 => 15 | 16 => 16 | 17 => 17 | 18 => 18 | 19 => 19 | 20 => 20 | 21 => 21 | 28 => 28 | 37 => 22 | 40 => 75 | 43 => 79 | 46 => 93 | 48 => 81 | 51 => 24 | 53 => 91 | 80 => 102 | 81 => 108 | 99 => 53 | 105 => 87 | 111 => 73 | 112 => 67 | 119 => 98 | 126 => 76 | 127 => 112 | 131 => 84 | 137 => 99 | 138 => 100 | 139 => 101 | 164 => 117 | 166 => 44 | 217 => 88 | 238 => 103 | 239 => 104 | 240 => 105 | 241 => 106 | 242 => 107 | 243 => 109 | 244 => 110 | 245 => 111 | 246 => 113 | 247 => 114 | 248 => 115 | 249 => 116 | n => n, fun | 3 => 0 | 4 => 1 | n => n⟩
theorem laysAppendRune : Lays.n242 Tryd.prog laysAppendRune_ren where
  mixed := by kernel_rfl
  f242 := Tryd.func30.trans (congrArg some (by kernel_rfl))
  f278 := Tryd.func42.trans (congrArg some (by kernel_rfl))
  t4 := Tryd.underlying4
  a4 := Tryd.isAgg4
  z4 := Tryd.sizeOf4
  v4 := Tryd.zeroValue4
  t5 := Tryd.underlying5
  a5 := Tryd.isAgg5
  z5 := Tryd.sizeOf5
  v5 := Tryd.zeroValue5
  t21 := Tryd.underlying21
  a21 := Tryd.isAgg21
  z21 := Tryd.sizeOf21
  v21 := Tryd.zeroValue21
  t37 := Tryd.underlying22
  a37 := Tryd.isAgg22
  z37 := Tryd.sizeOf22
  v37 := Tryd.zeroValue22
  t46 := Tryd.underlying93
  a46 := Tryd.isAgg93
  z46 := Tryd.sizeOf93
  v46 := Tryd.zeroValue93
  t51 := Tryd.underlying24
  a51 := Tryd.isAgg24
  z51 := Tryd.sizeOf24
  v51 := Tryd.zeroValue24
def laysValidRune_ren : Go.Shelf.Ren := ⟨fun | 0 => 0 | 1 => 1 | 2 => 2 | 119 => 29 | 242 => 30 | 278 => 42 | 326 => 40 | 342 => 47 | 347 => 57 | 348 => 58 | 349 => 59 | 350 => 60 | 351 => 61 | 352 => 62 | 353 => 63 | 354 => 64 | 355 => 65 | 356 => 66 | 357 => 67 | 358 => 68 | 359 => 69 | 360 => 70 | 361 => 71 | 366 => 73 | 367 => 78 | n => n, fun | 0 => 0 | 1 => 1 | 2 => 2 | 3 => 3 | 4 => 4 | 5 => 5 | 6 => 6 | 7 => 7 | 8 => 8 | 9 => 9 | 10 => 10 | 11 => 11 | 12 => 12 | 13 => 13 | 14 => 14 | 15 => 15 | 16 => 16 | 17 => 17 | 18 => 18 | 19 => 19 | 20 => 20 | 21 => 21 | 28 => 28 | 37 => 22 | 40 => 75 | 43 => 79 | 46 => 93 | 48 => 81 | 51 => 24 | 53 => 91 | 80 => 102 | 81 => 108 | 99 => 53 | 105 => 87 | 111 => 73 | 112 => 67 | 119 => 98 | 126 => 76 | 127 => 112 | 131 => 84 | 137 => 99 | 138 => 100 | 139 => 101 | 164 => 117 | 166 => 44 | 217 => 88 | 238 => 103 | 239 => 104 | 240 => 105 | 241 => 106 | 242 => 107 | 243 => 109 | 244 => 110 | 245 => 111 | 246 => 113 | 247 => 114 | 248 => 115 | 249 => 116 | n => n, fun | 3 => 0 | 4 => 1 | n => n⟩
theorem laysValidRune : Lays.n119 Tryd.prog laysValidRune_ren where
  mixed := by kernel_rfl
  f119 := Tryd.func29.trans (congrArg some (by kernel_rfl))
  t4 := Tryd.underlying4
  a4 := Tryd.isAgg4
  z4 := Tryd.sizeOf4
  v4 := Tryd.zeroValue4
  t21 := Tryd.underlying21
  a21 := Tryd.isAgg21
  z21 := Tryd.sizeOf21
  v21 := Tryd.zeroValue21
end Go.Proofs.YtnogcpjfgnpbbaaDoor
