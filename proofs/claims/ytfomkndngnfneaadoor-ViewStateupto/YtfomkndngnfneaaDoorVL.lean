/- The listed tables hold what the library's contracts ask. -/
import Derived.Test.YtfomkndngnfneaaDoorRows
import Derived.Test.YtfomkndngnfneaaDoorVM
import Derived.Lib.LaidU8
import Derived.Lib.LaidPrint
import Derived.PinnedBridge
import Derived.MakeChecks
namespace Go.Proofs.YtfomkndngnfneaaDoor.VL
open Go Go.RowKit Go.Shelf Go.Lib Go.Proofs Go.Proofs.YtfomkndngnfneaaDoor.Sx
def tabs : List (String × DataW Unit) := [("math/bits.deBruijn32tab", Rows.laid_math_bits_deBruijn32tab), ("math/bits.deBruijn64tab", Rows.laid_math_bits_deBruijn64tab), ("internal/strconv.uint64pow10", Rows.laid_internal_strconv_uint64pow10), ("unicode/utf8.acceptRanges", Rows.laid_unicode_utf8_acceptRanges), ("strconv.isGraphic", Rows.laid_strconv_isGraphic), ("strconv.isNotPrint16", Rows.laid_strconv_isNotPrint16), ("strconv.isNotPrint32", Rows.laid_strconv_isNotPrint32), ("strconv.isPrint16", Rows.laid_strconv_isPrint16), ("strconv.isPrint32", Rows.laid_strconv_isPrint32), ("unicode/utf8.first", Rows.laid_unicode_utf8_first)]
theorem xP : PrintExtra Tryd.prog Tryd.lays177_ren := ⟨by kernel_rfl, by kernel_rfl, by kernel_rfl, by kernel_rfl, by kernel_rfl, by kernel_rfl, by kernel_rfl, by kernel_rfl, by kernel_rfl, by kernel_rfl⟩
theorem xU : U8Extra Tryd.prog Tryd.lays177_ren := ⟨by kernel_rfl, by kernel_rfl, by kernel_rfl, by kernel_rfl, by kernel_rfl, by kernel_rfl, by kernel_rfl⟩
theorem pow10 : (Rows.laid_internal_strconv_uint64pow10 : DataW Unit) = tabData .u64 pow10Tab := by kernel_rfl
theorem accept : (Rows.laid_unicode_utf8_acceptRanges : DataW Unit) = acceptData := by kernel_rfl
theorem tbw {W : World} (hL : laidMetH Tryd.prog tabs W) : VM.TBw W := by
  rw [MakeChecks.laidMetH_plain _ _ _ (by kernel_rfl)] at hL
  have hr := fun n d (h : (n, d) ∈ tabs) => laidMet.reads hL h
  refine ⟨?_, ?_, ?_⟩
  · obtain ⟨g, t, cs, fuel, p, hg, hty, hvar, hd⟩ := hr "internal/strconv.uint64pow10" _ (.tail _ (.tail _ (.head _)))
    have hg0 : Tryd.prog.globalNamed "internal/strconv.uint64pow10" = some 0 := by kernel_rfl
    obtain rfl := Option.some.inj (hg0.symm.trans hg)
    have hty0 : (Tryd.prog.globals[0]?).map (·.type) = some 143 := by kernel_rfl
    obtain rfl := Option.some.inj (hty0.symm.trans hty)
    rw [pow10] at hd
    have hcs := cells_of_tab (n := 20) (e := 113) Tryd.underlying143 Tryd.underlying113 (by kernel_rfl) (by kernel_rfl) hd
    unfold TabIs
    rw [hvar, ← hcs]
  · refine printTabs_of_reads { Tryd.lays177 with } xP ?_ ?_ ?_ ?_
    · rw [← Pinned.isPrint16_eq]; exact hr _ _ (.tail _ (.tail _ (.tail _ (.tail _ (.tail _ (.tail _ (.tail _ (.head _))))))))
    · rw [← Pinned.isNotPrint16_eq]; exact hr _ _ (.tail _ (.tail _ (.tail _ (.tail _ (.tail _ (.head _))))))
    · rw [← Pinned.isPrint32_eq]; exact hr _ _ (.tail _ (.tail _ (.tail _ (.tail _ (.tail _ (.tail _ (.tail _ (.tail _ (.head _)))))))))
    · rw [← Pinned.isNotPrint32_eq]; exact hr _ _ (.tail _ (.tail _ (.tail _ (.tail _ (.tail _ (.tail _ (.head _)))))))
  · refine utf8Tabs_of_reads { Tryd.lays177 with } xU ?_ ?_
    · rw [← Pinned.utf8First_eq]; exact hr _ _ (.tail _ (.tail _ (.tail _ (.tail _ (.tail _ (.tail _ (.tail _ (.tail _ (.tail _ (.head _))))))))))
    · rw [← accept]; exact hr _ _ (.tail _ (.tail _ (.tail _ (.head _))))
theorem tb {W : World} (hL : laidMetH Tryd.prog tabs W) : VM.TB (hp W) := VM.TB.of (tbw hL)
end Go.Proofs.YtfomkndngnfneaaDoor.VL
