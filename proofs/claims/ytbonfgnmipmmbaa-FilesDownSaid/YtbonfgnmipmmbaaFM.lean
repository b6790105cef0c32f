/- maps.Clone at this program: the library's contract, in words of resources. -/
import Derived.Shelf.SlLaysW
import Derived.Shelf.SlGeneric
import Derived.Shelf.SlMaps.Clone
import Derived.Test.YtbonfgnmipmmbaaProg
import Derived.Test.YtbonfgnmipmmbaaGnQ
namespace Go.Proofs
open Go.Shelf
def Try.cloneM_ren : Go.Shelf.Ren := ⟨fun | 5 => 38 | 7 => 49 | n => n, fun | 23 => 65 | 25 => 9 | 3 => 69 | 4 => 4 | 20 => 20 | n => n, fun | n => n⟩
theorem Try.cloneM : Go.Proofs.SlLaysW.n5 Try.prog Try.cloneM_ren := {
  mixed := by kernel_rfl
  f5 := ⟨Try.f38.name, by decide, Try.func38.trans (congrArg some (by kernel_rfl))⟩
  f7 := Try.func49.trans (congrArg some (by kernel_rfl))
  t4 := Try.underlying4
  a4 := Try.isAgg4
  z4 := Try.sizeOf4
  v4 := Try.zeroValue4
  t20 := Try.underlying20
  a20 := Try.isAgg20
  z20 := Try.sizeOf20
  v20 := Try.zeroValue20
  t23 := Try.underlying65
  a23 := Try.isAgg65
  z23 := Try.sizeOf65
  v23 := Try.zeroValue65 }
end Go.Proofs
namespace Go.Proofs.Ytbonfgnmipmmbaa.FM
open Go Go.RowKit Go.Proofs.Ytbonfgnmipmmbaa.Sx
theorem cloneM.walk {w0 w : World} {R0 : Res} {H : List Res} {r ck : Nat} {es : Array MapEntry} (i : Nat) (hst : Ht w0 (R0 :: H) w) (hi : (R0 :: H)[i]? = some (ob r (.map es ck))) :
    Calls Try.prog 38 #[.map (some r)] w fun e w' => ∃ r', e = .returned (.map (some r')) ∧ Ht w0 (R0 :: ob r' (.map es ck) :: H) w' := by
  have h : Calls Try.prog 38 #[.map (some r)] w fun e w' => e = .returned (.map (some w.heap.size)) ∧ w' = w.alloc (.map es ck) := AnyW.maps_Clone Try.cloneM r es ck w (hst.get hi)
  refine h.mono ?_
  rintro e w' ⟨rfl, rfl⟩
  exact ⟨_, rfl, St.cloneM hst⟩
end Go.Proofs.Ytbonfgnmipmmbaa.FM
