
/-
  What Go's library gives at strings.Cut and strings.Split in this translation (laid by the kit's own tool, in plain words).
-/
import Derived.Shelf.Strings.Cut
import Derived.Shelf.Strings.Split
import Derived.Shelf.Vars
import Derived.Test.YtpboaadjbkaidaaDoorProg
namespace Go.Proofs
set_option maxRecDepth 100000
open Go.Shelf
def Tryd.lays145_ren : Go.Shelf.Ren := ⟨fun | 145 => 52 | 220 => 85 | 219 => 100 | 217 => 106 | 225 => 107 | 224 => 108 | 267 => 109 | 266 => 115 | 314 => 116 | n => n, fun | 9 => 9 | 4 => 4 | 59 => 89 | 3 => 3 | 5 => 5 | 46 => 71 | 146 => 130 | 51 => 129 | n => n, fun | 1 => 0 | n => n⟩
theorem Tryd.lays145 : Go.Proofs.Lays.n145 Tryd.prog Tryd.lays145_ren := {
  mixed := by kernel_rfl
  f145 := Tryd.func52.trans (congrArg some (by kernel_rfl))
  f217 := Tryd.func106.trans (congrArg some (by kernel_rfl))
  f219 := Tryd.func100.trans (congrArg some (by kernel_rfl))
  f220 := Tryd.func85.trans (congrArg some (by kernel_rfl))
  f224 := Tryd.func108.trans (congrArg some (by kernel_rfl))
  f225 := Tryd.func107.trans (congrArg some (by kernel_rfl))
  f266 := Tryd.func115.trans (congrArg some (by kernel_rfl))
  f267 := Tryd.func109.trans (congrArg some (by kernel_rfl))
  f314 := Tryd.func116.trans (congrArg some (by kernel_rfl))
  t3 := Tryd.underlying3
  a3 := Tryd.isAgg3
  z3 := Tryd.sizeOf3
  v3 := Tryd.zeroValue3
  t4 := Tryd.underlying4
  a4 := Tryd.isAgg4
  z4 := Tryd.sizeOf4
  v4 := Tryd.zeroValue4
  t5 := Tryd.underlying5
  a5 := Tryd.isAgg5
  z5 := Tryd.sizeOf5
  v5 := Tryd.zeroValue5
  t9 := Tryd.underlying9
  a9 := Tryd.isAgg9
  z9 := Tryd.sizeOf9
  v9 := Tryd.zeroValue9
  t46 := Tryd.underlying71
  a46 := Tryd.isAgg71
  z46 := Tryd.sizeOf71
  v46 := Tryd.zeroValue71
  t51 := Tryd.underlying129
  a51 := Tryd.isAgg129
  z51 := Tryd.sizeOf129
  v51 := Tryd.zeroValue129
  t59 := Tryd.underlying89
  a59 := Tryd.isAgg89
  z59 := Tryd.sizeOf89
  v59 := Tryd.zeroValue89
  t146 := Tryd.underlying130
  a146 := Tryd.isAgg130
  z146 := Tryd.sizeOf130
  v146 := Tryd.zeroValue130
  g1 := by kernel_rfl }
open Go.RowKit Go.Lib in
/-- strings.Cut: "Cut slices s around the first instance of sep, returning the text before and after sep. The found result reports whether sep appears in s. If sep does not appear in s, cut returns s, "", false.": IT RETURNS 'Lib.cut s sep'; the world is as it was but for the count of draws. (LAID: no walk: one application.) -/
theorem Tryd.strings_Cut (s sep : ByteArray) (m : Int) (w : World) (hs : s.size < 4294967281) (hm : w.cell? ⟨0, 0, none⟩ = some (.int .i64 m)) :
    Calls Tryd.prog 52 #[.string s, .string sep] w fun e w' => e = .returned (.tuple #[.string ⟨(Lib.cut s.data.toList sep.data.toList).1.toArray⟩, .string ⟨(Lib.cut s.data.toList sep.data.toList).2.1.toArray⟩, .bool (Lib.cut s.data.toList sep.data.toList).2.2]) ∧ ∃ n, w' = w.drewN n := Any.strings_Cut Tryd.lays145 s sep m w hs hm
def Tryd.lays146_ren : Go.Shelf.Ren := ⟨fun | 146 => 86 | 221 => 101 | 268 => 110 | 138 => 111 | 143 => 112 | 195 => 117 | 197 => 118 | 218 => 119 | 219 => 100 | 260 => 126 | 217 => 106 | 225 => 107 | 224 => 108 | 267 => 109 | 266 => 115 | 314 => 116 | n => n, fun | 9 => 9 | 31 => 68 | 3 => 3 | 4 => 4 | 0 => 0 | 105 => 133 | 21 => 21 | 5 => 5 | 46 => 71 | 119 => 153 | 139 => 156 | 138 => 155 | 146 => 130 | 51 => 129 | n => n, fun | 1 => 0 | 3 => 1 | 4 => 2 | n => n⟩
theorem Tryd.lays146 : Go.Proofs.Lays.n146 Tryd.prog Tryd.lays146_ren := {
  mixed := by kernel_rfl
  f138 := Tryd.func111.trans (congrArg some (by kernel_rfl))
  f143 := Tryd.func112.trans (congrArg some (by kernel_rfl))
  f146 := Tryd.func86.trans (congrArg some (by kernel_rfl))
  f195 := Tryd.func117.trans (congrArg some (by kernel_rfl))
  f197 := Tryd.func118.trans (congrArg some (by kernel_rfl))
  f217 := Tryd.func106.trans (congrArg some (by kernel_rfl))
  f218 := Tryd.func119.trans (congrArg some (by kernel_rfl))
  f219 := Tryd.func100.trans (congrArg some (by kernel_rfl))
  f221 := Tryd.func101.trans (congrArg some (by kernel_rfl))
  f224 := Tryd.func108.trans (congrArg some (by kernel_rfl))
  f225 := Tryd.func107.trans (congrArg some (by kernel_rfl))
  f260 := Tryd.func126.trans (congrArg some (by kernel_rfl))
  f266 := Tryd.func115.trans (congrArg some (by kernel_rfl))
  f267 := Tryd.func109.trans (congrArg some (by kernel_rfl))
  f268 := Tryd.func110.trans (congrArg some (by kernel_rfl))
  f314 := Tryd.func116.trans (congrArg some (by kernel_rfl))
  t0 := Tryd.underlying0
  a0 := Tryd.isAgg0
  z0 := Tryd.sizeOf0
  v0 := Tryd.zeroValue0
  t3 := Tryd.underlying3
  a3 := Tryd.isAgg3
  z3 := Tryd.sizeOf3
  v3 := Tryd.zeroValue3
  t4 := Tryd.underlying4
  a4 := Tryd.isAgg4
  z4 := Tryd.sizeOf4
  v4 := Tryd.zeroValue4
  t5 := Tryd.underlying5
  a5 := Tryd.isAgg5
  z5 := Tryd.sizeOf5
  v5 := Tryd.zeroValue5
  t9 := Tryd.underlying9
  a9 := Tryd.isAgg9
  z9 := Tryd.sizeOf9
  v9 := Tryd.zeroValue9
  t21 := Tryd.underlying21
  a21 := Tryd.isAgg21
  z21 := Tryd.sizeOf21
  v21 := Tryd.zeroValue21
  t31 := Tryd.underlying68
  a31 := Tryd.isAgg68
  z31 := Tryd.sizeOf68
  v31 := Tryd.zeroValue68
  t46 := Tryd.underlying71
  a46 := Tryd.isAgg71
  z46 := Tryd.sizeOf71
  v46 := Tryd.zeroValue71
  t51 := Tryd.underlying129
  a51 := Tryd.isAgg129
  z51 := Tryd.sizeOf129
  v51 := Tryd.zeroValue129
  t105 := Tryd.underlying133
  a105 := Tryd.isAgg133
  z105 := Tryd.sizeOf133
  v105 := Tryd.zeroValue133
  t119 := Tryd.underlying153
  a119 := Tryd.isAgg153
  z119 := Tryd.sizeOf153
  t138 := Tryd.underlying155
  a138 := Tryd.isAgg155
  z138 := Tryd.sizeOf155
  v138 := Tryd.zeroValue155
  t139 := Tryd.underlying156
  a139 := Tryd.isAgg156
  z139 := Tryd.sizeOf156
  v139 := Tryd.zeroValue156
  t146 := Tryd.underlying130
  a146 := Tryd.isAgg130
  z146 := Tryd.sizeOf130
  v146 := Tryd.zeroValue130
  g1 := by kernel_rfl
  g3 := by kernel_rfl
  g4 := by kernel_rfl }
open Go.RowKit Go.Lib in
/-- strings.Split. (LAID: no walk: one application.) -/
theorem Tryd.strings_Split (s sep : ByteArray) (m : Int) (w : World) (hs : s.size < 4294967281) (hm : w.cell? ⟨0, 0, none⟩ = some (.int .i64 m)) (h1 : 1 ≤ sep.size) :
    Calls Tryd.prog 86 #[.string s, .string sep] w fun e w' =>
      e = .returned (.slice (some ⟨w.heap.size, 0, none⟩) (Lib.countB s sep + 1) (Lib.countB s sep + 1)) ∧ w' = w.alloc (.cells ((Lib.splitB sep 0 (Lib.countB s sep) s).map Value.string).toArray 9) := Any.strings_Split Tryd.lays146 (by kernel_rfl) s sep m w hs hm h1
end Go.Proofs
