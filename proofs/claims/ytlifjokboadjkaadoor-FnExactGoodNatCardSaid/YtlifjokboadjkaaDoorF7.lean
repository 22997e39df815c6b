/- strings.Trim at the ten digits: by the library's shelf. Condition: the cutset is the ten digits, the text no longer than an int can say. -/
import Derived.Test.YtlifjokboadjkaaDoorK
import Derived.Ground.NamesProg
import Derived.Shelf.Lay
import Derived.Shelf.Strings.SlTrimAscii
namespace Go.Proofs
open Go.Shelf
def Tryd.lays160_ren : Go.Shelf.Ren := ⟨fun | 160 => 7 | 232 => 9 | 231 => 8 | 227 => 10 | 234 => 12 | 233 => 11 | 236 => 14 | 235 => 13 | 228 => 15 | 271 => 18 | 151 => 17 | 197 => 16 | 120 => 21 | 152 => 20 | 260 => 19 | 137 => 22 | 119 => 23 | 224 => 24 | 225 => 25 | 217 => 26 | 266 => 27 | n => n, fun | 9 => 9 | 4 => 4 | 3 => 3 | 5 => 5 | 117 => 27 | 116 => 26 | 0 => 0 | 124 => 30 | 21 => 21 | 105 => 32 | 46 => 37 | 119 => 36 | 139 => 40 | 138 => 39 | n => n, fun | 3 => 0 | 4 => 1 | n => n⟩
theorem Tryd.lays160 : Go.Proofs.Lays.n160 Tryd.prog Tryd.lays160_ren := {
 mixed := by kernel_rfl
 f119 := Tryd.func23.trans (congrArg some (by kernel_rfl))
 f120 := Tryd.func21.trans (congrArg some (by kernel_rfl))
 f137 := Tryd.func22.trans (congrArg some (by kernel_rfl))
 f151 := Tryd.func17.trans (congrArg some (by kernel_rfl))
 f152 := Tryd.func20.trans (congrArg some (by kernel_rfl))
 f160 := Tryd.func7.trans (congrArg some (by kernel_rfl))
 f197 := Tryd.func16.trans (congrArg some (by kernel_rfl))
 f217 := Tryd.func26.trans (congrArg some (by kernel_rfl))
 f224 := Tryd.func24.trans (congrArg some (by kernel_rfl))
 f225 := Tryd.func25.trans (congrArg some (by kernel_rfl))
 f227 := Tryd.func10.trans (congrArg some (by kernel_rfl))
 f228 := Tryd.func15.trans (congrArg some (by kernel_rfl))
 f231 := Tryd.func8.trans (congrArg some (by kernel_rfl))
 f232 := Tryd.func9.trans (congrArg some (by kernel_rfl))
 f233 := Tryd.func11.trans (congrArg some (by kernel_rfl))
 f234 := Tryd.func12.trans (congrArg some (by kernel_rfl))
 f235 := Tryd.func13.trans (congrArg some (by kernel_rfl))
 f236 := Tryd.func14.trans (congrArg some (by kernel_rfl))
 f260 := Tryd.func19.trans (congrArg some (by kernel_rfl))
 f266 := Tryd.func27.trans (congrArg some (by kernel_rfl))
 f271 := Tryd.func18.trans (congrArg some (by kernel_rfl))
 t0 := Tryd.underlying0
 a0 := Tryd.isAgg0
 z0 := Tryd.sizeOf0
 v0 := Tryd.zeroValue0
 t3 := Tryd.underlying3
 a3 := Tryd.isAgg3
 z3 := Tryd.sizeOf3
 v3 := Tryd.zeroValue3
 t4 := Tryd.underlying4
 a4 := Tryd.isAgg4
 z4 := Tryd.sizeOf4
 v4 := Tryd.zeroValue4
 t5 := Tryd.underlying5
 a5 := Tryd.isAgg5
 z5 := Tryd.sizeOf5
 v5 := Tryd.zeroValue5
 t9 := Tryd.underlying9
 a9 := Tryd.isAgg9
 z9 := Tryd.sizeOf9
 v9 := Tryd.zeroValue9
 t21 := Tryd.underlying21
 a21 := Tryd.isAgg21
 z21 := Tryd.sizeOf21
 v21 := Tryd.zeroValue21
 t46 := Tryd.underlying37
 a46 := Tryd.isAgg37
 z46 := Tryd.sizeOf37
 v46 := Tryd.zeroValue37
 t105 := Tryd.underlying32
 a105 := Tryd.isAgg32
 z105 := Tryd.sizeOf32
 v105 := Tryd.zeroValue32
 t116 := Tryd.underlying26
 a116 := Tryd.isAgg26
 z116 := Tryd.sizeOf26
 t117 := Tryd.underlying27
 a117 := Tryd.isAgg27
 z117 := Tryd.sizeOf27
 v117 := Tryd.zeroValue27
 t119 := Tryd.underlying36
 a119 := Tryd.isAgg36
 z119 := Tryd.sizeOf36
 t124 := Tryd.underlying30
 a124 := Tryd.isAgg30
 z124 := Tryd.sizeOf30
 v124 := Tryd.zeroValue30
 t138 := Tryd.underlying39
 a138 := Tryd.isAgg39
 z138 := Tryd.sizeOf39
 v138 := Tryd.zeroValue39
 t139 := Tryd.underlying40
 a139 := Tryd.isAgg40
 z139 := Tryd.sizeOf40
 v139 := Tryd.zeroValue40
 g3 := by kernel_rfl
 g4 := by kernel_rfl }
end Go.Proofs
namespace Go.Proofs.YtlifjokboadjkaaDoor.G
open Go.RowKit Go.Shelf Go.Proofs.YtlifjokboadjkaaDoorW.PrintWords
set_option linter.unusedVariables false

def digits : List UInt8 := [48, 49, 50, 51, 52, 53, 54, 55, 56, 57]
def strings_Trim.f (k : Nat) (a0 : ByteArray) (a1 : ByteArray) : Option (ByteArray) := if a1.data.toList = digits ∧ a0.size ≤ 9223372036854775807 then some ⟨(Lib.trimS a0.data.toList digits).toArray⟩ else none
theorem strings_Trim.mono : ∀ a0 a1 k, LeO (strings_Trim.f k a0 a1) (strings_Trim.f (k + 1) a0 a1) := fun _ _ _ => LeO.refl _
theorem strings_Trim.calls (k : Nat) (a0 : ByteArray) (a1 : ByteArray) (r : ByteArray) (w : World) (h : strings_Trim.f k a0 a1 = some r) :
    Calls Tryd.prog 7 #[.string a0, .string a1] w fun e w' => e = .returned (.string r) ∧ Below w.heap.size w w' := by
  unfold strings_Trim.f at h
  by_cases c : a1.data.toList = digits ∧ a0.size ≤ 9223372036854775807
  case neg => rw [if_neg c] at h; cases h
  rw [if_pos c] at h
  obtain rfl := Option.some.inj h
  obtain ⟨⟨l⟩⟩ := a1
  have e : l = digits := c.1
  subst e
  have hcon := Any.strings_Trim_laid Tryd.lays160 (by kernel_rfl) a0 ⟨#[48, 49, 50, 51, 52, 53, 54, 55, 56, 57]⟩ w c.2 (by decide) (ascii_of_all (by decide))
  exact hcon
end Go.Proofs.YtlifjokboadjkaaDoor.G
