/- Closed facts on arrayNil, each worked out by the kernel. -/
import Derived.Test.YtofjmfjgicdjjaaGreatFacts0
set_option linter.unusedVariables false
set_option maxRecDepth 100000
namespace Go.Proofs.YtofjmfjgicdjjaaGreat.arrayNilFacts
open Go
open Go.Proofs.YtofjmfjgicdjjaaGreat.Facts
/-- What it reaches. -/
def reached : List FuncId := [3, 5, 31, 69, 70, 71, 127, 231, 232, 128, 233, 317, 319, 390, 391, 392, 318, 234, 235, 320, 236, 129, 237, 131, 239, 130, 238, 72, 74, 73, 132, 240, 321, 241, 227, 133, 242, 134, 243, 322, 135, 68, 124, 188, 226, 314, 383, 385, 437, 438, 436, 439, 473, 474, 502, 512, 440, 441, 435, 411, 471, 472, 442, 116, 387, 384, 386, 315, 316, 388, 389, 443, 444, 114, 75, 136, 244, 77, 60, 119, 59, 125, 126, 228, 40, 76, 230, 229, 247, 284, 105, 191, 283, 62, 120, 209, 121, 101, 103, 189, 190, 280, 281, 282, 44, 357, 358, 412, 413, 457, 356, 279, 355, 277, 353, 354, 181, 122, 210, 212, 213, 294, 295, 362, 363, 414, 211, 214, 183, 278, 48, 49, 99, 184, 185, 186, 100, 187, 46, 97, 98, 182, 88, 79, 50, 102, 63, 104, 106, 192, 141, 194, 286, 360, 359, 193, 285, 107, 195, 287, 198, 199, 290, 291, 197, 289, 196, 288, 200, 108, 201, 292, 253, 335, 336, 152, 254, 255, 337, 338, 256, 151, 252, 64, 9, 33, 34, 43, 94, 168, 169, 93, 159, 165, 268, 160, 263, 161, 264, 265, 162, 266, 267, 346, 163, 164, 166, 167, 45, 35, 41, 82, 147, 208, 111, 203, 202, 115, 206, 110, 207, 57, 117, 118, 83, 78, 137, 138, 139, 245, 323, 324, 393, 394, 445, 246, 325, 326, 140, 80, 142, 37, 95, 170, 38, 81, 143, 144, 145, 248, 327, 330, 328, 275, 351, 350, 251, 249, 329, 332, 331, 333, 334, 250, 146, 96, 171, 172, 270, 269, 347, 174, 173, 175, 271, 55, 272, 349, 348, 176, 273, 177, 178, 274, 179, 180, 276, 352, 42, 84, 85, 148, 86, 150, 149, 61, 67, 87, 153, 89, 90, 91, 154, 109, 257, 258, 156, 261, 155, 259, 339, 341, 340, 395, 260, 53, 112, 113, 204, 205, 293, 361, 92, 157, 158, 262, 342, 343, 397, 398, 446, 476, 475, 503, 448, 396, 447, 477, 478, 504, 479, 480, 399, 344, 400, 402, 401, 449, 481, 482, 505, 483, 484, 506, 507, 513, 485, 486, 487, 488, 403, 450, 451, 453, 489, 345, 407, 454, 408, 455, 409, 410, 456, 404, 405, 406, 452, 32, 6, 36, 39, 7, 8, 10, 47, 11, 12, 13, 14, 51, 52, 54, 56, 15, 58, 16, 17, 18, 19, 20, 21]
theorem clo : Tryz.pinned.checked.prog.closure 3 = reached := by kernel_rfl
theorem inPlace : (Rows.arrayNilRow.inPlace == Tryz.pinned.checked.prog.inPlace 3) = true := by
  unfold Program.inPlace
  rw [clo]
  kernel_rfl
theorem unf : Tryz.pinned.checked.prog.unfollowed 3 = true := by
  unfold Program.unfollowed
  rw [clo]
  kernel_rfl
theorem unfollowed : (Rows.arrayNilRow.unfollowed == Tryz.pinned.checked.prog.unfollowed 3) = true := by
  rw [unf]
  kernel_rfl
theorem recurses : (Rows.arrayNilRow.recurses == Tryz.pinned.checked.prog.recurses 3) = true := by
  unfold Program.recurses
  rw [unf]
  kernel_rfl
theorem named : (Rows.arrayNilRow.named == Tryz.pinned.checked.prog.varsNamed 3) = true := by
  unfold Program.varsNamed
  rw [clo]
  kernel_rfl
theorem wf : Rows.arrayNilRow.wf (OpenSpec.ofChange Rows.arrayNilSpec) = true := by kernel_rfl
theorem params : Tryz.f3.params.all (Tryz.pinned.checked.prog.readableRec ·) = true := by kernel_rfl
theorem tie : namedTie Tryz.pinned.checked.prog Rows.arrayNilRow.named Rows.arrayNilSpec.vars = true := by kernel_rfl
theorem rstops : (Rows.arrayNilRow.stops == []) = true := by kernel_rfl
theorem rknobs : (Rows.arrayNilRow.knobs == []) = true := by kernel_rfl
theorem rmaps : (Rows.arrayNilRow.maps == (Tryz.f3.params.toList ++ Rows.arrayNilSpec.plain.varTypes Tryz.pinned.checked.prog).any (Tryz.pinned.checked.prog.mapsRec ·)) = true := by kernel_rfl
theorem rifaces : (Rows.arrayNilRow.ifaces == (Tryz.f3.params.toList ++ Rows.arrayNilSpec.plain.varTypes Tryz.pinned.checked.prog).any (Tryz.pinned.checked.prog.ifacesRec ·)) = true := by kernel_rfl
theorem rmapsOut : (Rows.arrayNilRow.mapsOut == Tryz.pinned.checked.prog.mapsAmong Tryz.f3.resultTypes.toList) = true := by kernel_rfl
theorem rloops : (Rows.arrayNilRow.loops == (Tryz.f3.params.toList ++ Rows.arrayNilSpec.plain.varTypes Tryz.pinned.checked.prog).any (Tryz.pinned.checked.prog.loopsFrom ·)) = true := by kernel_rfl
theorem rwide : (Rows.arrayNilRow.wideKeys == (Tryz.f3.params.toList ++ Rows.arrayNilSpec.plain.varTypes Tryz.pinned.checked.prog ++ Tryz.f3.resultTypes.toList).any (Tryz.pinned.checked.prog.wideKeysFrom ·)) = true := by kernel_rfl
theorem rvars : Rows.arrayNilSpec.vars.all (Tryz.pinned.checked.prog.varReadable ·) = true := by kernel_rfl
theorem results : Tryz.f3.resultTypes.all (fun t => Tryz.pinned.checked.prog.readableRec t && decide (t < Tryz.pinned.checked.prog.types.size)) = true := by kernel_rfl
theorem rifacesOut : (Rows.arrayNilRow.ifacesOut == Tryz.f3.resultTypes.toList.any (Tryz.pinned.checked.prog.ifacesRec ·)) = true := by kernel_rfl
theorem rloopsOut : (Rows.arrayNilRow.loopsOut == Tryz.f3.resultTypes.toList.any (Tryz.pinned.checked.prog.loopsFrom ·)) = true := by kernel_rfl
theorem rplain : (Rows.arrayNilRow.plainKeys == Tryz.pinned.checked.prog.plainKeys) = true := plain
theorem rshort : Rows.arrayNilRow.shortTexts.isNone = true := by kernel_rfl
theorem rlifted : (Rows.arrayNilRow.lifted == Tryz.pinned.checked.prog.liftsFinal) = true := by kernel_rfl
theorem rmake : (Tryz.pinned.checked.prog.make == some Rows.arrayNilRow.make) = true := by kernel_rfl
theorem rkinds : (Rows.arrayNilRow.kinds == (if Rows.arrayNilRow.domain.isEmpty then [] else Tryz.f3.params.toList.map fun t => match Tryz.pinned.checked.prog.underlying t with | some (.int k) => some k | _ => none)) = true := by kernel_rfl
theorem rpinned : (Rows.arrayNilRow.pinned == Rows.arrayNilRow.pinnedBy) = true := by kernel_rfl
theorem rveiled : (Rows.arrayNilRow.veiled == (Tryz.f3.params.toList ++ Rows.arrayNilSpec.plain.varTypes Tryz.pinned.checked.prog ++ Tryz.f3.resultTypes.toList).any (Tryz.pinned.checked.prog.veiledRec ·)) = true := by kernel_rfl
theorem rveil : Rows.arrayNilRow.veiledFits Tryz.pinned.checked.prog Tryz.f3.params.toList (Tryz.f3.params.toList ++ Rows.arrayNilSpec.plain.varTypes Tryz.pinned.checked.prog ++ Tryz.f3.resultTypes.toList) = true := by kernel_rfl
theorem funcNamed : Tryz.pinned.checked.prog.funcNamed Rows.arrayNilRow.func = some 3 := by kernel_rfl
theorem closed : joinedFacts Tryz.pinned.checked.prog 3 Tryz.f3 Rows.arrayNilSpec Rows.arrayNilRow = true := (and_mk (and_mk (and_mk (and_mk (and_mk (and_mk (and_mk (and_mk (and_mk (and_mk (and_mk (and_mk (and_mk (and_mk (and_mk (and_mk (and_mk (and_mk (and_mk (and_mk (and_mk (and_mk (and_mk (and_mk (and_mk (and_mk (and_mk (and_mk (and_mk (and_mk (and_mk wf laid) maps) params) tie) rstops) stops) rknobs) stopKnobs) inPlace) unfollowed) recurses) named) rmaps) rifaces) rmapsOut) rloops) rwide) rvars) results) rifacesOut) rloopsOut) rplain) rshort) heard) enter) rlifted) rmake) rkinds) rpinned) rveiled) rveil)
end Go.Proofs.YtofjmfjgicdjjaaGreat.arrayNilFacts
