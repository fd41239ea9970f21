/-
  DERIVED: THE SHELF's CONTRACTS AT THIS DUMP, IN PLAIN WORDS (tools/lay-plain.mjs out of 'YtlhkkffljjbdmaaSz.lean', which tools/lay-shelf.mjs wrote): THE SAME DECLARATIONS UNDER THE SAME NAMES: 'import', 'namespace', 'open', 'def', 'theorem' AND NOTHING ELSE: no command of the shelf's: FOR A HAND-IN. Each laying: the table of numbers ('.._ren') and one theorem, a field a fact of the dump's own or the kernel's comparison; each contract: ONE APPLICATION.
-/
import Derived.Shelf.Lays
import Derived.Test.YtlhkkffljjbdmaaProg
namespace Go.Proofs
open Go.Shelf
def Try.sortStrs_ren : Go.Shelf.Ren := ⟨fun | 190 => 54 | 125 => 69 | 258 => 74 | 128 => 91 | 129 => 92 | 302 => 97 | 303 => 98 | 304 => 99 | 305 => 100 | 306 => 101 | 307 => 102 | 308 => 103 | 309 => 104 | 310 => 105 | 333 => 113 | 329 => 108 | 330 => 109 | 334 => 114 | 335 => 115 | 336 => 116 | 344 => 118 | n => n, fun | 31 => 68 | 9 => 9 | 3 => 3 | 46 => 125 | 0 => 0 | 51 => 116 | 53 => 72 | 4 => 4 | 183 => 142 | 182 => 141 | 131 => 146 | 5 => 5 | 218 => 161 | 222 => 165 | 228 => 169 | 229 => 170 | n => n, fun | n => n⟩
theorem Try.sortStrs : Go.Proofs.Lays.n190 Try.prog Try.sortStrs_ren := {
  mixed := by kernel_rfl
  f125 := Try.func69.trans (congrArg some (by kernel_rfl))
  f128 := Try.func91.trans (congrArg some (by kernel_rfl))
  f129 := Try.func92.trans (congrArg some (by kernel_rfl))
  f190 := Try.func54.trans (congrArg some (by kernel_rfl))
  f258 := Try.func74.trans (congrArg some (by kernel_rfl))
  f302 := Try.func97.trans (congrArg some (by kernel_rfl))
  f303 := Try.func98.trans (congrArg some (by kernel_rfl))
  f304 := Try.func99.trans (congrArg some (by kernel_rfl))
  f305 := Try.func100.trans (congrArg some (by kernel_rfl))
  f306 := Try.func101.trans (congrArg some (by kernel_rfl))
  f307 := Try.func102.trans (congrArg some (by kernel_rfl))
  f308 := Try.func103.trans (congrArg some (by kernel_rfl))
  f309 := Try.func104.trans (congrArg some (by kernel_rfl))
  f310 := Try.func105.trans (congrArg some (by kernel_rfl))
  f329 := Try.func108.trans (congrArg some (by kernel_rfl))
  f330 := Try.func109.trans (congrArg some (by kernel_rfl))
  f333 := Try.func113.trans (congrArg some (by kernel_rfl))
  f334 := Try.func114.trans (congrArg some (by kernel_rfl))
  f335 := Try.func115.trans (congrArg some (by kernel_rfl))
  f336 := Try.func116.trans (congrArg some (by kernel_rfl))
  f344 := Try.func118.trans (congrArg some (by kernel_rfl))
  t0 := Try.underlying0
  a0 := Try.isAgg0
  z0 := Try.sizeOf0
  v0 := Try.zeroValue0
  t3 := Try.underlying3
  a3 := Try.isAgg3
  z3 := Try.sizeOf3
  v3 := Try.zeroValue3
  t4 := Try.underlying4
  a4 := Try.isAgg4
  z4 := Try.sizeOf4
  v4 := Try.zeroValue4
  t5 := Try.underlying5
  a5 := Try.isAgg5
  z5 := Try.sizeOf5
  v5 := Try.zeroValue5
  t9 := Try.underlying9
  a9 := Try.isAgg9
  z9 := Try.sizeOf9
  v9 := Try.zeroValue9
  t31 := Try.underlying68
  a31 := Try.isAgg68
  z31 := Try.sizeOf68
  v31 := Try.zeroValue68
  t46 := Try.underlying125
  a46 := Try.isAgg125
  z46 := Try.sizeOf125
  v46 := Try.zeroValue125
  t51 := Try.underlying116
  a51 := Try.isAgg116
  z51 := Try.sizeOf116
  v51 := Try.zeroValue116
  t53 := Try.underlying72
  a53 := Try.isAgg72
  z53 := Try.sizeOf72
  v53 := Try.zeroValue72
  t131 := Try.underlying146
  a131 := Try.isAgg146
  z131 := Try.sizeOf146
  v131 := Try.zeroValue146
  t182 := Try.underlying141
  a182 := Try.isAgg141
  z182 := Try.sizeOf141
  v182 := Try.zeroValue141
  t183 := Try.underlying142
  a183 := Try.isAgg142
  z183 := Try.sizeOf142
  v183 := Try.zeroValue142
  t218 := Try.underlying161
  a218 := Try.isAgg161
  z218 := Try.sizeOf161
  v218 := Try.zeroValue161
  t222 := Try.underlying165
  a222 := Try.isAgg165
  z222 := Try.sizeOf165
  v222 := Try.zeroValue165
  t228 := Try.underlying169
  a228 := Try.isAgg169
  z228 := Try.sizeOf169
  v228 := Try.zeroValue169
  t229 := Try.underlying170
  a229 := Try.isAgg170
  z229 := Try.sizeOf170
  v229 := Try.zeroValue170 }
end Go.Proofs
