/- Closed facts on failoverNil, each worked out by the kernel. -/
import Derived.Test.YtofjmfjgicdjjaaGreatFacts0
set_option linter.unusedVariables false
set_option maxRecDepth 100000
namespace Go.Proofs.YtofjmfjgicdjjaaGreat.failoverNilFacts
open Go
open Go.Proofs.YtofjmfjgicdjjaaGreat.Facts
/-- What it reaches. -/
def reached : List FuncId := [4, 22, 65, 69, 70, 72, 73, 132, 240, 321, 241, 227, 133, 242, 134, 243, 322, 135, 25, 67, 68, 124, 188, 226, 314, 383, 385, 437, 438, 436, 439, 473, 474, 502, 512, 440, 441, 435, 411, 471, 472, 442, 116, 387, 384, 386, 315, 316, 388, 389, 443, 444, 114, 75, 136, 244, 77, 60, 119, 59, 125, 126, 228, 40, 76, 230, 229, 247, 284, 105, 191, 283, 62, 120, 209, 121, 101, 103, 189, 190, 280, 281, 282, 44, 357, 358, 412, 413, 457, 356, 279, 355, 277, 353, 354, 181, 122, 210, 212, 213, 294, 295, 362, 363, 414, 211, 214, 183, 278, 48, 49, 99, 184, 185, 186, 100, 187, 46, 97, 98, 182, 88, 79, 50, 102, 63, 104, 106, 192, 141, 194, 286, 360, 359, 193, 285, 107, 195, 287, 198, 199, 290, 291, 197, 289, 196, 288, 200, 108, 201, 292, 253, 335, 336, 152, 254, 255, 337, 338, 256, 151, 252, 64, 27, 28, 30, 23, 66, 123, 215, 296, 297, 364, 324, 393, 394, 445, 298, 365, 415, 419, 373, 374, 427, 428, 375, 377, 378, 416, 417, 418, 216, 299, 366, 421, 300, 47, 420, 367, 368, 424, 423, 422, 301, 217, 218, 245, 323, 302, 246, 325, 326, 369, 370, 94, 168, 169, 425, 458, 459, 490, 460, 264, 265, 461, 491, 492, 508, 462, 463, 464, 465, 371, 219, 220, 303, 304, 372, 426, 466, 493, 305, 376, 154, 109, 82, 147, 208, 111, 203, 268, 202, 115, 206, 110, 43, 93, 159, 165, 160, 263, 161, 162, 266, 267, 346, 163, 164, 166, 167, 207, 257, 331, 258, 221, 222, 306, 307, 223, 224, 308, 309, 379, 429, 430, 467, 468, 431, 310, 61, 311, 153, 312, 313, 156, 261, 155, 259, 339, 341, 340, 395, 260, 53, 57, 117, 118, 112, 113, 204, 205, 293, 361, 381, 434, 380, 432, 469, 433, 470, 494, 495, 509, 496, 497, 510, 511, 514, 498, 499, 500, 501, 382, 92, 41, 83, 157, 138, 158, 262, 137, 342, 343, 397, 398, 446, 476, 475, 503, 448, 396, 447, 477, 478, 504, 479, 480, 399, 344, 400, 402, 401, 449, 481, 482, 505, 483, 484, 506, 507, 513, 485, 486, 487, 488, 139, 403, 450, 451, 453, 489, 345, 407, 454, 408, 455, 409, 140, 410, 456, 404, 405, 406, 452, 225, 10, 33, 24, 26, 29, 16]
theorem clo : Tryz.pinned.checked.prog.closure 4 = reached := by kernel_rfl
theorem inPlace : (Rows.failoverNilRow.inPlace == Tryz.pinned.checked.prog.inPlace 4) = true := by
  unfold Program.inPlace
  rw [clo]
  kernel_rfl
theorem unf : Tryz.pinned.checked.prog.unfollowed 4 = true := by
  unfold Program.unfollowed
  rw [clo]
  kernel_rfl
theorem unfollowed : (Rows.failoverNilRow.unfollowed == Tryz.pinned.checked.prog.unfollowed 4) = true := by
  rw [unf]
  kernel_rfl
theorem recurses : (Rows.failoverNilRow.recurses == Tryz.pinned.checked.prog.recurses 4) = true := by
  unfold Program.recurses
  rw [unf]
  kernel_rfl
theorem named : (Rows.failoverNilRow.named == Tryz.pinned.checked.prog.varsNamed 4) = true := by
  unfold Program.varsNamed
  rw [clo]
  kernel_rfl
theorem wf : Rows.failoverNilRow.wf (OpenSpec.ofChange Rows.failoverNilSpec) = true := by kernel_rfl
theorem params : Tryz.f4.params.all (Tryz.pinned.checked.prog.readableRec ·) = true := by kernel_rfl
theorem tie : namedTie Tryz.pinned.checked.prog Rows.failoverNilRow.named Rows.failoverNilSpec.vars = true := by kernel_rfl
theorem rstops : (Rows.failoverNilRow.stops == []) = true := by kernel_rfl
theorem rknobs : (Rows.failoverNilRow.knobs == []) = true := by kernel_rfl
theorem rmaps : (Rows.failoverNilRow.maps == (Tryz.f4.params.toList ++ Rows.failoverNilSpec.plain.varTypes Tryz.pinned.checked.prog).any (Tryz.pinned.checked.prog.mapsRec ·)) = true := by kernel_rfl
theorem rifaces : (Rows.failoverNilRow.ifaces == (Tryz.f4.params.toList ++ Rows.failoverNilSpec.plain.varTypes Tryz.pinned.checked.prog).any (Tryz.pinned.checked.prog.ifacesRec ·)) = true := by kernel_rfl
theorem rmapsOut : (Rows.failoverNilRow.mapsOut == Tryz.pinned.checked.prog.mapsAmong Tryz.f4.resultTypes.toList) = true := by kernel_rfl
theorem rloops : (Rows.failoverNilRow.loops == (Tryz.f4.params.toList ++ Rows.failoverNilSpec.plain.varTypes Tryz.pinned.checked.prog).any (Tryz.pinned.checked.prog.loopsFrom ·)) = true := by kernel_rfl
theorem rwide : (Rows.failoverNilRow.wideKeys == (Tryz.f4.params.toList ++ Rows.failoverNilSpec.plain.varTypes Tryz.pinned.checked.prog ++ Tryz.f4.resultTypes.toList).any (Tryz.pinned.checked.prog.wideKeysFrom ·)) = true := by kernel_rfl
theorem rvars : Rows.failoverNilSpec.vars.all (Tryz.pinned.checked.prog.varReadable ·) = true := by kernel_rfl
theorem results : Tryz.f4.resultTypes.all (fun t => Tryz.pinned.checked.prog.readableRec t && decide (t < Tryz.pinned.checked.prog.types.size)) = true := by kernel_rfl
theorem rifacesOut : (Rows.failoverNilRow.ifacesOut == Tryz.f4.resultTypes.toList.any (Tryz.pinned.checked.prog.ifacesRec ·)) = true := by kernel_rfl
theorem rloopsOut : (Rows.failoverNilRow.loopsOut == Tryz.f4.resultTypes.toList.any (Tryz.pinned.checked.prog.loopsFrom ·)) = true := by kernel_rfl
theorem rplain : (Rows.failoverNilRow.plainKeys == Tryz.pinned.checked.prog.plainKeys) = true := plain
theorem rshort : Rows.failoverNilRow.shortTexts.isNone = true := by kernel_rfl
theorem rlifted : (Rows.failoverNilRow.lifted == Tryz.pinned.checked.prog.liftsFinal) = true := by kernel_rfl
theorem rmake : (Tryz.pinned.checked.prog.make == some Rows.failoverNilRow.make) = true := by kernel_rfl
theorem rkinds : (Rows.failoverNilRow.kinds == (if Rows.failoverNilRow.domain.isEmpty then [] else Tryz.f4.params.toList.map fun t => match Tryz.pinned.checked.prog.underlying t with | some (.int k) => some k | _ => none)) = true := by kernel_rfl
theorem rpinned : (Rows.failoverNilRow.pinned == Rows.failoverNilRow.pinnedBy) = true := by kernel_rfl
theorem rveiled : (Rows.failoverNilRow.veiled == (Tryz.f4.params.toList ++ Rows.failoverNilSpec.plain.varTypes Tryz.pinned.checked.prog ++ Tryz.f4.resultTypes.toList).any (Tryz.pinned.checked.prog.veiledRec ·)) = true := by kernel_rfl
theorem rveil : Rows.failoverNilRow.veiledFits Tryz.pinned.checked.prog Tryz.f4.params.toList (Tryz.f4.params.toList ++ Rows.failoverNilSpec.plain.varTypes Tryz.pinned.checked.prog ++ Tryz.f4.resultTypes.toList) = true := by kernel_rfl
theorem funcNamed : Tryz.pinned.checked.prog.funcNamed Rows.failoverNilRow.func = some 4 := by kernel_rfl
theorem closed : joinedFacts Tryz.pinned.checked.prog 4 Tryz.f4 Rows.failoverNilSpec Rows.failoverNilRow = true := (and_mk (and_mk (and_mk (and_mk (and_mk (and_mk (and_mk (and_mk (and_mk (and_mk (and_mk (and_mk (and_mk (and_mk (and_mk (and_mk (and_mk (and_mk (and_mk (and_mk (and_mk (and_mk (and_mk (and_mk (and_mk (and_mk (and_mk (and_mk (and_mk (and_mk (and_mk wf laid) maps) params) tie) rstops) stops) rknobs) stopKnobs) inPlace) unfollowed) recurses) named) rmaps) rifaces) rmapsOut) rloops) rwide) rvars) results) rifacesOut) rloopsOut) rplain) rshort) heard) enter) rlifted) rmake) rkinds) rpinned) rveiled) rveil)
end Go.Proofs.YtofjmfjgicdjjaaGreat.failoverNilFacts
