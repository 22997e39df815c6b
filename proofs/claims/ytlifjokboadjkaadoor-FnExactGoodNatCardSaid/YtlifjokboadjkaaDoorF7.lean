/- strings.Trim at the ten digits: by the library's shelf. Condition: the cutset is the ten digits, the text no longer than an int can say. -/
import Derived.Test.YtlifjokboadjkaaDoorK
import Derived.Ground.NamesProg
import Derived.Shelf.Lay
import Derived.Shelf.Strings.SlTrimAscii
namespace Go.Proofs
open Go.Shelf
shelf_lay Lays.n160 Nm 160 at Tryd as Tryd.lays160
end Go.Proofs
namespace Go.Proofs.YtlifjokboadjkaaDoor.G
open Go.RowKit Go.Shelf Go.Proofs.YtlifjokboadjkaaDoorW.PrintWords
set_option linter.unusedVariables false

def digits : List UInt8 := [48, 49, 50, 51, 52, 53, 54, 55, 56, 57]
def strings_Trim.f (k : Nat) (a0 : ByteArray) (a1 : ByteArray) : Option (ByteArray) := if a1.data.toList = digits ∧ a0.size ≤ 9223372036854775807 then some ⟨(Lib.trimS a0.data.toList digits).toArray⟩ else none
theorem strings_Trim.mono : ∀ a0 a1 k, LeO (strings_Trim.f k a0 a1) (strings_Trim.f (k + 1) a0 a1) := fun _ _ _ => LeO.refl _
theorem strings_Trim.calls (k : Nat) (a0 : ByteArray) (a1 : ByteArray) (r : ByteArray) (w : World) (h : strings_Trim.f k a0 a1 = some r) :
    Calls Tryd.prog 7 #[.string a0, .string a1] w fun e w' => e = .returned (.string r) ∧ Below w.heap.size w w' := by
  unfold strings_Trim.f at h
  by_cases c : a1.data.toList = digits ∧ a0.size ≤ 9223372036854775807
  case neg => rw [if_neg c] at h; cases h
  rw [if_pos c] at h
  obtain rfl := Option.some.inj h
  obtain ⟨⟨l⟩⟩ := a1
  have e : l = digits := c.1
  subst e
  have hcon := Any.strings_Trim_laid Tryd.lays160 (by kernel_rfl) a0 ⟨#[48, 49, 50, 51, 52, 53, 54, 55, 56, 57]⟩ w c.2 (by decide) (ascii_of_all (by decide))
  exact hcon
end Go.Proofs.YtlifjokboadjkaaDoor.G
