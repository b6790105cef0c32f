/- View: items. -/
import Derived.Test.YtfomkndngnfneaaDoorV2
namespace Go.Proofs.YtfomkndngnfneaaDoor.V3
open Go Go.RowKit Go.Proofs.YtfomkndngnfneaaDoor.Sx Go.Proofs.YtfomkndngnfneaaDoor.V1 Go.Proofs.YtfomkndngnfneaaDoor.V2
set_option linter.unusedVariables false
set_option linter.unusedSimpArgs false
structure sorteditemstringstring where
  key_ : Str
  value_ : Str
  deriving DecidableEq
def tsorteditemstringstring : Ty sorteditemstringstring where
  sz := 2
  R := fun ζ cs x => cs = [vs x.key_, vs x.value_]
  len := by rintro ζ cs x rfl; rfl
  one := by
    rintro ζ cs x rfl u hu
    simp only [List.mem_cons, List.not_mem_nil, or_false] at hu
    rcases hu with rfl | rfl <;> rfl
  mono := by rintro ζ ζ' cs x rfl hl; exact rfl
structure sorteditemintapiSession where
  key_ : Int
  value_ : apiSession
  deriving DecidableEq
def tsorteditemintapiSession : Ty sorteditemintapiSession where
  sz := 5
  R := fun ζ cs x => cs = [vi x.key_, vi x.value_.Client, vi x.value_.Seq, vi x.value_.Reply.Err, vs x.value_.Reply.Value]
  len := by rintro ζ cs x rfl; rfl
  one := by
    rintro ζ cs x rfl u hu
    simp only [List.mem_cons, List.not_mem_nil, or_false] at hu
    rcases hu with rfl | rfl | rfl | rfl | rfl <;> rfl
  mono := by rintro ζ ζ' cs x rfl hl; exact rfl
end Go.Proofs.YtfomkndngnfneaaDoor.V3
