/- Part 1 of 2 of the proof that the law FnExactReadCodeCardSaid holds: for every input that can be read the call returns true and leaves its arguments as they were; no condition but those each theorem names. -/
import Derived.Test.YtlkgimnafnmgpaaDoorProg
import Derived.Below
import Derived.Deep.Draws
import Derived.Deep.AppendLies
import Derived.Maps.AppendAt
import Derived.OwnWalk
import Derived.Laws.BytesArg
import Derived.Laws.MakeOwn
import Derived.Laws.OwnMore
import Derived.Deep.OwnRows
import Derived.Tactics
import Derived.Lib.ConvBytes
import Derived.Laws.Slices
import Derived.WalkKit
import Derived.KernelRfl
import Derived.RowKit3
import Derived.Deep.LoopGhost
import Derived.Deep.QuietTactic
import Derived.BigQuiet
import Derived.WideLaws
import Derived.Deep.DeepCutAuto
import Derived.Deep.CutBlock
import Derived.Deep.RegionHeld3
import Derived.Laws.Rows
import Derived.Lib.AppendStr
import Derived.ArgAppend
import Derived.Laws.IdiomCopy
import Derived.OrdersHeld
import Derived.Laws.BitsLemmas
import Derived.RowKit
import Derived.Ground.NamesProg
import Derived.Shelf.Lay
import Derived.Shelf.Strings.SplitShaped
import Derived.Shelf.Strings.Shaped
import Derived.Shelf.Strconv.ErrVarAll
import Derived.Shelf.Strconv.Itoa3
import Derived.Shelf.Strings.Search3
import Derived.Shelf.Strings.BuilderK
import Derived.Shelf.Strings.BuilderF
import Derived.Test.YtlkgimnafnmgpaaDoorQReadCodeW1
namespace Go.Proofs.YtlkgimnafnmgpaaDoor.G
open Go.RowKit Go.Proofs.YtlkgimnafnmgpaaDoorW.PrintWords Go.Proofs.YtlkgimnafnmgpaaDoorW.PrintLast Go.Proofs.YtlkgimnafnmgpaaDoorW.PrintMore
attribute [local go_sem] max2_int min2_int max_two min_two max_three min_three max_four min_four   -- for this text's walks alone
set_option linter.unusedVariables false
set_option linter.unusedSimpArgs false



def errW : Option Int → Value
  | none => .nilIface
  | some c => .iface 70 (.int .i64 c)
theorem errW_none : errW none = .nilIface := rfl
theorem errW_some (c : Int) : errW (some c) = .iface 70 (.int .i64 c) := rfl

theorem info37 : (Tryd.prog.info? 37).map (fun i => (i.zero, i.size, i.bytes)) = some (some (.agg #[(.int .i64 0), (.int .i64 0), (.string ⟨#[]⟩)]), 3, 32) := by kernel_rfl
-- the values' own types
structure S37 where
  f0 : Int
  f1 : Int
  f2 : ByteArray
def z37 : S37 := ⟨(0 : Int), (0 : Int), (⟨#[]⟩ : ByteArray)⟩
def k37 : Kd S37 := Kd.iso (Kd.pair (Kd.int .i64) (Kd.pair (Kd.int .i64) Kd.string)) (fun x : S37 => (x.f0, x.f1, x.f2))
theorem k37_open {w : World} {x : S37} {cs : List Value} (h : k37.K w x cs) : cs = [.int .i64 x.f0, .int .i64 x.f1, .string x.f2] := by
  obtain ⟨_, _, rfl, rfl, ⟨_, _, rfl, rfl, rfl⟩⟩ := h
  exact rfl
theorem k37_openM {w : World} {base : Nat} {ok : Nat → Prop} {x : S37} {cs : List Value} (h : k37.M w base ok x cs) : cs = [.int .i64 x.f0, .int .i64 x.f1, .string x.f2] := by
  obtain ⟨_, _, rfl, rfl, ⟨_, _, rfl, rfl, rfl⟩⟩ := h
  exact rfl
theorem k37_mkM (w : World) (base : Nat) (ok : Nat → Prop) (x : S37)  : k37.M w base ok x [.int .i64 x.f0, .int .i64 x.f1, .string x.f2] := ⟨[.int .i64 x.f0], [.int .i64 x.f1, .string x.f2], rfl, rfl, ⟨[.int .i64 x.f1], [.string x.f2], rfl, rfl, rfl⟩⟩
def rd_T37 (xs : List S37) (i : Int) : S37 := xs.getD i.toNat z37
theorem at_T37 {w : World} {A : Option Addr} {n : Nat} {xs : List S37} (h : Kd.C k37 w A n xs) (i : Int) (h0 : 0 ≤ i) (h1 : i < n) : ∃ ad , A = some ad ∧ w.cell? (ad.add (i.toNat * 3)) = some (.int .i64 (rd_T37 xs i).f0) ∧ w.cell? ⟨(ad.add (i.toNat * 3)).block, (ad.add (i.toNat * 3)).off + 1, none⟩ = some (.int .i64 (rd_T37 xs i).f1) ∧ w.cell? ⟨(ad.add (i.toNat * 3)).block, (ad.add (i.toNat * 3)).off + 2, none⟩ = some (.string (rd_T37 xs i).f2) := by
  obtain ⟨ad, c, e, _, hK, hc0⟩ := Kd.C_get h z37 i h0 h1
  have hc : ∀ j u, c[j]? = some u → w.cell? (ad.add (i.toNat * 3 + j)) = some u := hc0
  obtain rfl := k37_open hK
  exact ⟨ad, e, hc 0 _ rfl, by rw [← add_field _ _ 1 (by omega)]; exact hc 1 _ rfl, by rw [← add_field _ _ 2 (by omega)]; exact hc 2 _ rfl⟩

end Go.Proofs.YtlkgimnafnmgpaaDoor.G

namespace Go.Proofs
open Go.Shelf
def Tryd.laysM147_ren : Go.Shelf.Ren := ⟨fun | 147 => 28 | 221 => 38 | 268 => 45 | 138 => 46 | 143 => 41 | 195 => 60 | 197 => 61 | 218 => 62 | 219 => 44 | 260 => 73 | 217 => 56 | 225 => 57 | 224 => 58 | 267 => 59 | 266 => 71 | 314 => 72 | n => n, fun | 9 => 9 | 3 => 3 | 31 => 58 | 4 => 4 | 0 => 0 | 105 => 85 | 21 => 21 | 5 => 5 | 46 => 84 | 119 => 106 | 139 => 109 | 138 => 108 | 146 => 99 | 51 => 95 | n => n, fun | 1 => 0 | 3 => 4 | 4 => 5 | n => n⟩
theorem Tryd.laysM147 : Go.Proofs.LaysM.n147 Tryd.prog Tryd.laysM147_ren := {
 mixed := by kernel_rfl
 f138 := Tryd.func46.trans (congrArg some (by kernel_rfl))
 f143 := Tryd.func41.trans (congrArg some (by kernel_rfl))
 f147 := Tryd.func28.trans (congrArg some (by kernel_rfl))
 f195 := Tryd.func60.trans (congrArg some (by kernel_rfl))
 f197 := Tryd.func61.trans (congrArg some (by kernel_rfl))
 f217 := Tryd.func56.trans (congrArg some (by kernel_rfl))
 f218 := Tryd.func62.trans (congrArg some (by kernel_rfl))
 f219 := Tryd.func44.trans (congrArg some (by kernel_rfl))
 f221 := Tryd.func38.trans (congrArg some (by kernel_rfl))
 f224 := Tryd.func58.trans (congrArg some (by kernel_rfl))
 f225 := Tryd.func57.trans (congrArg some (by kernel_rfl))
 f260 := Tryd.func73.trans (congrArg some (by kernel_rfl))
 f266 := Tryd.func71.trans (congrArg some (by kernel_rfl))
 f267 := Tryd.func59.trans (congrArg some (by kernel_rfl))
 f268 := Tryd.func45.trans (congrArg some (by kernel_rfl))
 f314 := Tryd.func72.trans (congrArg some (by kernel_rfl))
 t0 := Tryd.underlying0
 a0 := Tryd.isAgg0
 z0 := Tryd.sizeOf0
 v0 := Tryd.zeroValue0
 t3 := Tryd.underlying3
 a3 := Tryd.isAgg3
 z3 := Tryd.sizeOf3
 v3 := Tryd.zeroValue3
 t4 := Tryd.underlying4
 a4 := Tryd.isAgg4
 z4 := Tryd.sizeOf4
 v4 := Tryd.zeroValue4
 t5 := Tryd.underlying5
 a5 := Tryd.isAgg5
 z5 := Tryd.sizeOf5
 v5 := Tryd.zeroValue5
 t9 := Tryd.underlying9
 a9 := Tryd.isAgg9
 z9 := Tryd.sizeOf9
 v9 := Tryd.zeroValue9
 t21 := Tryd.underlying21
 a21 := Tryd.isAgg21
 z21 := Tryd.sizeOf21
 v21 := Tryd.zeroValue21
 t31 := Tryd.underlying58
 a31 := Tryd.isAgg58
 z31 := Tryd.sizeOf58
 v31 := Tryd.zeroValue58
 t46 := Tryd.underlying84
 a46 := Tryd.isAgg84
 z46 := Tryd.sizeOf84
 v46 := Tryd.zeroValue84
 t51 := Tryd.underlying95
 a51 := Tryd.isAgg95
 z51 := Tryd.sizeOf95
 v51 := Tryd.zeroValue95
 t105 := Tryd.underlying85
 a105 := Tryd.isAgg85
 z105 := Tryd.sizeOf85
 v105 := Tryd.zeroValue85
 t119 := Tryd.underlying106
 a119 := Tryd.isAgg106
 z119 := Tryd.sizeOf106
 t138 := Tryd.underlying108
 a138 := Tryd.isAgg108
 z138 := Tryd.sizeOf108
 v138 := Tryd.zeroValue108
 t139 := Tryd.underlying109
 a139 := Tryd.isAgg109
 z139 := Tryd.sizeOf109
 v139 := Tryd.zeroValue109
 t146 := Tryd.underlying99
 a146 := Tryd.isAgg99
 z146 := Tryd.sizeOf99
 v146 := Tryd.zeroValue99
 g1 := by kernel_rfl
 g3 := by kernel_rfl
 g4 := by kernel_rfl
 i0 := by kernel_rfl
 i3 := by kernel_rfl
 i4 := by kernel_rfl
 i5 := by kernel_rfl
 i9 := by kernel_rfl
 i21 := by kernel_rfl
 i31 := by kernel_rfl
 i46 := by kernel_rfl
 i51 := by kernel_rfl
 i105 := by kernel_rfl
 i138 := by kernel_rfl
 i139 := by kernel_rfl
 i146 := by kernel_rfl
 m1 := by kernel_rfl
 s1_3 := fun w h => Go.Proofs.cell_of_shapedOpen_int (zero := #[.int .i64 0]) (t := 3) h (of_decide_eq_true (by kernel_rfl)) (by kernel_rfl) rfl (by kernel_rfl) (by kernel_rfl) Tryd.underlying3
 m3 := by kernel_rfl
 m4 := by kernel_rfl }
def Tryd.laysM145_ren : Go.Shelf.Ren := ⟨fun | 145 => 27 | 220 => 37 | 219 => 44 | 217 => 56 | 225 => 57 | 224 => 58 | 267 => 59 | 266 => 71 | 314 => 72 | n => n, fun | 9 => 9 | 4 => 4 | 59 => 38 | 3 => 3 | 5 => 5 | 46 => 84 | 146 => 99 | 51 => 95 | n => n, fun | 1 => 0 | n => n⟩
theorem Tryd.laysM145 : Go.Proofs.LaysM.n145 Tryd.prog Tryd.laysM145_ren := {
 mixed := by kernel_rfl
 f145 := Tryd.func27.trans (congrArg some (by kernel_rfl))
 f217 := Tryd.func56.trans (congrArg some (by kernel_rfl))
 f219 := Tryd.func44.trans (congrArg some (by kernel_rfl))
 f220 := Tryd.func37.trans (congrArg some (by kernel_rfl))
 f224 := Tryd.func58.trans (congrArg some (by kernel_rfl))
 f225 := Tryd.func57.trans (congrArg some (by kernel_rfl))
 f266 := Tryd.func71.trans (congrArg some (by kernel_rfl))
 f267 := Tryd.func59.trans (congrArg some (by kernel_rfl))
 f314 := Tryd.func72.trans (congrArg some (by kernel_rfl))
 t3 := Tryd.underlying3
 a3 := Tryd.isAgg3
 z3 := Tryd.sizeOf3
 v3 := Tryd.zeroValue3
 t4 := Tryd.underlying4
 a4 := Tryd.isAgg4
 z4 := Tryd.sizeOf4
 v4 := Tryd.zeroValue4
 t5 := Tryd.underlying5
 a5 := Tryd.isAgg5
 z5 := Tryd.sizeOf5
 v5 := Tryd.zeroValue5
 t9 := Tryd.underlying9
 a9 := Tryd.isAgg9
 z9 := Tryd.sizeOf9
 v9 := Tryd.zeroValue9
 t46 := Tryd.underlying84
 a46 := Tryd.isAgg84
 z46 := Tryd.sizeOf84
 v46 := Tryd.zeroValue84
 t51 := Tryd.underlying95
 a51 := Tryd.isAgg95
 z51 := Tryd.sizeOf95
 v51 := Tryd.zeroValue95
 t59 := Tryd.underlying38
 a59 := Tryd.isAgg38
 z59 := Tryd.sizeOf38
 v59 := Tryd.zeroValue38
 t146 := Tryd.underlying99
 a146 := Tryd.isAgg99
 z146 := Tryd.sizeOf99
 v146 := Tryd.zeroValue99
 g1 := by kernel_rfl
 i3 := by kernel_rfl
 i4 := by kernel_rfl
 i5 := by kernel_rfl
 i9 := by kernel_rfl
 i46 := by kernel_rfl
 i51 := by kernel_rfl
 i59 := by kernel_rfl
 i146 := by kernel_rfl
 m1 := by kernel_rfl
 s1_3 := fun w h => Go.Proofs.cell_of_shapedOpen_int (zero := #[.int .i64 0]) (t := 3) h (of_decide_eq_true (by kernel_rfl)) (by kernel_rfl) rfl (by kernel_rfl) (by kernel_rfl) Tryd.underlying3 }
def Tryd.laysC172_ren : Go.Shelf.Ren := ⟨fun | 172 => 29 | 244 => 39 | 245 => 40 | 247 => 47 | 279 => 48 | 280 => 49 | 281 => 50 | 282 => 51 | 287 => 63 | 316 => 64 | 171 => 23 | 205 => 65 | 321 => 74 | 322 => 75 | 243 => 35 | 246 => 43 | 283 => 52 | 284 => 53 | 285 => 54 | 286 => 55 | 129 => 67 | 317 => 66 | 318 => 68 | 319 => 69 | 320 => 70 | 337 => 76 | 338 => 77 | n => n, fun | 9 => 9 | 3 => 3 | 75 => 50 | 76 => 51 | 4 => 4 | 5 => 5 | 167 => 70 | 37 => 46 | 0 => 0 | 85 => 71 | 2 => 2 | 168 => 73 | 53 => 77 | 175 => 87 | 46 => 84 | 210 => 91 | 127 => 62 | 145 => 104 | 143 => 102 | 21 => 21 | 171 => 76 | 173 => 80 | 212 => 94 | 51 => 95 | 20 => 20 | 213 => 96 | 232 => 110 | 233 => 111 | 80 => 54 | n => n, fun | 15 => 1 | 16 => 2 | 17 => 3 | 18 => 6 | 19 => 7 | n => n⟩
theorem Tryd.laysC172 : Go.Proofs.LaysC.n172 Tryd.prog Tryd.laysC172_ren := {
 mixed := by kernel_rfl
 f129 := Tryd.func67.trans (congrArg some (by kernel_rfl))
 f171 := Tryd.func23.trans (congrArg some (by kernel_rfl))
 f172 := Tryd.func29.trans (congrArg some (by kernel_rfl))
 f205 := Tryd.func65.trans (congrArg some (by kernel_rfl))
 f243 := Tryd.func35.trans (congrArg some (by kernel_rfl))
 f244 := Tryd.func39.trans (congrArg some (by kernel_rfl))
 f245 := Tryd.func40.trans (congrArg some (by kernel_rfl))
 f246 := Tryd.func43.trans (congrArg some (by kernel_rfl))
 f247 := Tryd.func47.trans (congrArg some (by kernel_rfl))
 f279 := Tryd.func48.trans (congrArg some (by kernel_rfl))
 f280 := Tryd.func49.trans (congrArg some (by kernel_rfl))
 f281 := Tryd.func50.trans (congrArg some (by kernel_rfl))
 f282 := Tryd.func51.trans (congrArg some (by kernel_rfl))
 f283 := Tryd.func52.trans (congrArg some (by kernel_rfl))
 f284 := Tryd.func53.trans (congrArg some (by kernel_rfl))
 f285 := Tryd.func54.trans (congrArg some (by kernel_rfl))
 f286 := Tryd.func55.trans (congrArg some (by kernel_rfl))
 f287 := Tryd.func63.trans (congrArg some (by kernel_rfl))
 f316 := Tryd.func64.trans (congrArg some (by kernel_rfl))
 f317 := Tryd.func66.trans (congrArg some (by kernel_rfl))
 f318 := Tryd.func68.trans (congrArg some (by kernel_rfl))
 f319 := Tryd.func69.trans (congrArg some (by kernel_rfl))
 f320 := Tryd.func70.trans (congrArg some (by kernel_rfl))
 f321 := Tryd.func74.trans (congrArg some (by kernel_rfl))
 f322 := Tryd.func75.trans (congrArg some (by kernel_rfl))
 f337 := Tryd.func76.trans (congrArg some (by kernel_rfl))
 f338 := Tryd.func77.trans (congrArg some (by kernel_rfl))
 t0 := Tryd.underlying0
 a0 := Tryd.isAgg0
 z0 := Tryd.sizeOf0
 v0 := Tryd.zeroValue0
 t2 := Tryd.underlying2
 a2 := Tryd.isAgg2
 z2 := Tryd.sizeOf2
 v2 := Tryd.zeroValue2
 t3 := Tryd.underlying3
 a3 := Tryd.isAgg3
 z3 := Tryd.sizeOf3
 v3 := Tryd.zeroValue3
 t4 := Tryd.underlying4
 a4 := Tryd.isAgg4
 z4 := Tryd.sizeOf4
 v4 := Tryd.zeroValue4
 t5 := Tryd.underlying5
 a5 := Tryd.isAgg5
 z5 := Tryd.sizeOf5
 v5 := Tryd.zeroValue5
 t9 := Tryd.underlying9
 a9 := Tryd.isAgg9
 z9 := Tryd.sizeOf9
 v9 := Tryd.zeroValue9
 t20 := Tryd.underlying20
 a20 := Tryd.isAgg20
 z20 := Tryd.sizeOf20
 v20 := Tryd.zeroValue20
 t21 := Tryd.underlying21
 a21 := Tryd.isAgg21
 z21 := Tryd.sizeOf21
 v21 := Tryd.zeroValue21
 t37 := Tryd.underlying46
 a37 := Tryd.isAgg46
 z37 := Tryd.sizeOf46
 v37 := Tryd.zeroValue46
 t46 := Tryd.underlying84
 a46 := Tryd.isAgg84
 z46 := Tryd.sizeOf84
 v46 := Tryd.zeroValue84
 t51 := Tryd.underlying95
 a51 := Tryd.isAgg95
 z51 := Tryd.sizeOf95
 v51 := Tryd.zeroValue95
 t53 := Tryd.underlying77
 a53 := Tryd.isAgg77
 z53 := Tryd.sizeOf77
 v53 := Tryd.zeroValue77
 t75 := Tryd.underlying50
 a75 := Tryd.isAgg50
 z75 := Tryd.sizeOf50
 v75 := Tryd.zeroValue50
 t76 := Tryd.underlying51
 a76 := Tryd.isAgg51
 z76 := Tryd.sizeOf51
 v76 := Tryd.zeroValue51
 t85 := Tryd.underlying71
 a85 := Tryd.isAgg71
 z85 := Tryd.sizeOf71
 v85 := Tryd.zeroValue71
 t127 := Tryd.underlying62
 a127 := Tryd.isAgg62
 z127 := Tryd.sizeOf62
 v127 := Tryd.zeroValue62
 t143 := Tryd.underlying102
 a143 := Tryd.isAgg102
 z143 := Tryd.sizeOf102
 v143 := Tryd.zeroValue102
 t145 := Tryd.underlying104
 a145 := Tryd.isAgg104
 z145 := Tryd.sizeOf104
 v145 := Tryd.zeroValue104
 t167 := Tryd.underlying70
 a167 := Tryd.isAgg70
 z167 := Tryd.sizeOf70
 v167 := Tryd.zeroValue70
 t168 := Tryd.underlying73
 a168 := Tryd.isAgg73
 z168 := Tryd.sizeOf73
 v168 := Tryd.zeroValue73
 t171 := Tryd.underlying76
 a171 := Tryd.isAgg76
 z171 := Tryd.sizeOf76
 v171 := Tryd.zeroValue76
 t173 := Tryd.underlying80
 a173 := Tryd.isAgg80
 z173 := Tryd.sizeOf80
 v173 := Tryd.zeroValue80
 t175 := Tryd.underlying87
 a175 := Tryd.isAgg87
 z175 := Tryd.sizeOf87
 v175 := Tryd.zeroValue87
 t210 := Tryd.underlying91
 a210 := Tryd.isAgg91
 z210 := Tryd.sizeOf91
 v210 := Tryd.zeroValue91
 t212 := Tryd.underlying94
 a212 := Tryd.isAgg94
 z212 := Tryd.sizeOf94
 v212 := Tryd.zeroValue94
 t213 := Tryd.underlying96
 a213 := Tryd.isAgg96
 z213 := Tryd.sizeOf96
 t232 := Tryd.underlying110
 a232 := Tryd.isAgg110
 z232 := Tryd.sizeOf110
 v232 := Tryd.zeroValue110
 t233 := Tryd.underlying111
 a233 := Tryd.isAgg111
 z233 := Tryd.sizeOf111
 v233 := Tryd.zeroValue111
 g15 := by kernel_rfl
 g16 := by kernel_rfl
 g17 := by kernel_rfl
 g18 := by kernel_rfl
 g19 := by kernel_rfl
 t80 := Tryd.underlying54
 a80 := Tryd.isAgg54
 z80 := Tryd.sizeOf54
 v80 := Tryd.zeroValue54
 i0 := by kernel_rfl
 i2 := by kernel_rfl
 i3 := by kernel_rfl
 i4 := by kernel_rfl
 i5 := by kernel_rfl
 i9 := by kernel_rfl
 i20 := by kernel_rfl
 i21 := by kernel_rfl
 i37 := by kernel_rfl
 i46 := by kernel_rfl
 i51 := by kernel_rfl
 i53 := by kernel_rfl
 i75 := by kernel_rfl
 i76 := by kernel_rfl
 i80 := by kernel_rfl
 i85 := by kernel_rfl
 i127 := by kernel_rfl
 i143 := by kernel_rfl
 i145 := by kernel_rfl
 i167 := by kernel_rfl
 i168 := by kernel_rfl
 i171 := by kernel_rfl
 i173 := by kernel_rfl
 i175 := by kernel_rfl
 i210 := by kernel_rfl
 i212 := by kernel_rfl
 i232 := by kernel_rfl
 i233 := by kernel_rfl
 m15 := by kernel_rfl
 m16 := by kernel_rfl
 m17 := by kernel_rfl
 m18 := by kernel_rfl
 m19 := by kernel_rfl
 c0 := by kernel_rfl
 c2 := by kernel_rfl
 c3 := by kernel_rfl
 c4 := by kernel_rfl
 c5 := by kernel_rfl
 c9 := by kernel_rfl
 c20 := by kernel_rfl
 c21 := by kernel_rfl
 c37 := by kernel_rfl
 c46 := by kernel_rfl
 c51 := by kernel_rfl
 c53 := by kernel_rfl
 c75 := by kernel_rfl
 c76 := by kernel_rfl
 c80 := by kernel_rfl
 c85 := by kernel_rfl
 c127 := by kernel_rfl
 c143 := by kernel_rfl
 c145 := by kernel_rfl
 c167 := by kernel_rfl
 c168 := by kernel_rfl
 c171 := by kernel_rfl
 c173 := by kernel_rfl
 c175 := by kernel_rfl
 c210 := by kernel_rfl
 c212 := by kernel_rfl
 c213 := by kernel_rfl
 c232 := by kernel_rfl
 c233 := by kernel_rfl }
end Go.Proofs
namespace Go.Proofs.YtlkgimnafnmgpaaDoor.G
open Go.RowKit Go.Shelf Go.Proofs.YtlkgimnafnmgpaaDoorW.PrintWords
set_option linter.unusedVariables false

theorem var_below {n : String} {cs : Array Value} {w w' : World} (h : w.var? Tryd.prog n = some cs) (hb : Below w.heap.size w w') : w'.var? Tryd.prog n = some cs := by
  rw [← h]
  unfold World.var?
  cases hg : Tryd.prog.globalNamed n with
  | none => rfl
  | some g =>
    have hlt : g < w.heap.size := by
      rcases Nat.lt_or_ge g w.heap.size with h' | h'
      · exact h'
      · exfalso
        unfold World.var? at h
        rw [hg] at h
        simp [Array.getElem?_eq_none h'] at h
    simp [hb.block g hlt]
structure LibMet (w : World) : Prop where
  mach : ∃ m : Int, w.cell? ⟨0, 0, none⟩ = some (.int .i64 m)
  wrong : ∃ tp p, w.var? Tryd.prog "strconv.ErrSyntax" = some #[.iface tp p]
  range : ∃ tp p, w.var? Tryd.prog "strconv.ErrRange" = some #[.iface tp p]
theorem LibMet.below {w w' : World} (h : LibMet w) (hb : Below w.heap.size w w') : LibMet w' where
  mach := by
    obtain ⟨m, hm⟩ := h.mach
    exact ⟨m, (hb.cell (World.block_lt_of_cell? w _ hm)).trans hm⟩
  wrong := by obtain ⟨t, p, h⟩ := h.wrong; exact ⟨t, p, var_below h hb⟩
  range := by obtain ⟨t, p, h⟩ := h.range; exact ⟨t, p, var_below h hb⟩
end Go.Proofs.YtlkgimnafnmgpaaDoor.G

namespace Go.Proofs
open Go.Shelf
def Tryd.laysM171_ren : Go.Shelf.Ren := ⟨fun | 171 => 23 | 243 => 35 | 246 => 43 | 283 => 52 | 284 => 53 | 285 => 54 | 286 => 55 | 129 => 67 | 317 => 66 | 318 => 68 | 319 => 69 | 320 => 70 | 337 => 76 | 338 => 77 | n => n, fun | 3 => 3 | 9 => 9 | 2 => 2 | 4 => 4 | 171 => 76 | 0 => 0 | 53 => 77 | 37 => 46 | 5 => 5 | 173 => 80 | 212 => 94 | 51 => 95 | 20 => 20 | 213 => 96 | 46 => 84 | 232 => 110 | 233 => 111 | n => n, fun | 17 => 3 | 18 => 6 | 19 => 7 | n => n⟩
theorem Tryd.laysM171 : Go.Proofs.LaysM.n171 Tryd.prog Tryd.laysM171_ren := {
 mixed := by kernel_rfl
 f129 := Tryd.func67.trans (congrArg some (by kernel_rfl))
 f171 := Tryd.func23.trans (congrArg some (by kernel_rfl))
 f243 := Tryd.func35.trans (congrArg some (by kernel_rfl))
 f246 := Tryd.func43.trans (congrArg some (by kernel_rfl))
 f283 := Tryd.func52.trans (congrArg some (by kernel_rfl))
 f284 := Tryd.func53.trans (congrArg some (by kernel_rfl))
 f285 := Tryd.func54.trans (congrArg some (by kernel_rfl))
 f286 := Tryd.func55.trans (congrArg some (by kernel_rfl))
 f317 := Tryd.func66.trans (congrArg some (by kernel_rfl))
 f318 := Tryd.func68.trans (congrArg some (by kernel_rfl))
 f319 := Tryd.func69.trans (congrArg some (by kernel_rfl))
 f320 := Tryd.func70.trans (congrArg some (by kernel_rfl))
 f337 := Tryd.func76.trans (congrArg some (by kernel_rfl))
 f338 := Tryd.func77.trans (congrArg some (by kernel_rfl))
 t0 := Tryd.underlying0
 a0 := Tryd.isAgg0
 z0 := Tryd.sizeOf0
 v0 := Tryd.zeroValue0
 t2 := Tryd.underlying2
 a2 := Tryd.isAgg2
 z2 := Tryd.sizeOf2
 v2 := Tryd.zeroValue2
 t3 := Tryd.underlying3
 a3 := Tryd.isAgg3
 z3 := Tryd.sizeOf3
 v3 := Tryd.zeroValue3
 t4 := Tryd.underlying4
 a4 := Tryd.isAgg4
 z4 := Tryd.sizeOf4
 v4 := Tryd.zeroValue4
 t5 := Tryd.underlying5
 a5 := Tryd.isAgg5
 z5 := Tryd.sizeOf5
 v5 := Tryd.zeroValue5
 t9 := Tryd.underlying9
 a9 := Tryd.isAgg9
 z9 := Tryd.sizeOf9
 v9 := Tryd.zeroValue9
 t20 := Tryd.underlying20
 a20 := Tryd.isAgg20
 z20 := Tryd.sizeOf20
 v20 := Tryd.zeroValue20
 t37 := Tryd.underlying46
 a37 := Tryd.isAgg46
 z37 := Tryd.sizeOf46
 v37 := Tryd.zeroValue46
 t46 := Tryd.underlying84
 a46 := Tryd.isAgg84
 z46 := Tryd.sizeOf84
 v46 := Tryd.zeroValue84
 t51 := Tryd.underlying95
 a51 := Tryd.isAgg95
 z51 := Tryd.sizeOf95
 v51 := Tryd.zeroValue95
 t53 := Tryd.underlying77
 a53 := Tryd.isAgg77
 z53 := Tryd.sizeOf77
 v53 := Tryd.zeroValue77
 t171 := Tryd.underlying76
 a171 := Tryd.isAgg76
 z171 := Tryd.sizeOf76
 v171 := Tryd.zeroValue76
 t173 := Tryd.underlying80
 a173 := Tryd.isAgg80
 z173 := Tryd.sizeOf80
 v173 := Tryd.zeroValue80
 t212 := Tryd.underlying94
 a212 := Tryd.isAgg94
 z212 := Tryd.sizeOf94
 v212 := Tryd.zeroValue94
 t213 := Tryd.underlying96
 a213 := Tryd.isAgg96
 z213 := Tryd.sizeOf96
 t232 := Tryd.underlying110
 a232 := Tryd.isAgg110
 z232 := Tryd.sizeOf110
 v232 := Tryd.zeroValue110
 t233 := Tryd.underlying111
 a233 := Tryd.isAgg111
 z233 := Tryd.sizeOf111
 v233 := Tryd.zeroValue111
 g17 := by kernel_rfl
 g18 := by kernel_rfl
 g19 := by kernel_rfl
 i0 := by kernel_rfl
 i2 := by kernel_rfl
 i3 := by kernel_rfl
 i4 := by kernel_rfl
 i5 := by kernel_rfl
 i9 := by kernel_rfl
 i20 := by kernel_rfl
 i37 := by kernel_rfl
 i46 := by kernel_rfl
 i51 := by kernel_rfl
 i53 := by kernel_rfl
 i171 := by kernel_rfl
 i173 := by kernel_rfl
 i212 := by kernel_rfl
 i232 := by kernel_rfl
 i233 := by kernel_rfl
 m17 := by kernel_rfl
 m18 := by kernel_rfl
 m19 := by kernel_rfl }
end Go.Proofs
namespace Go.Proofs.YtlkgimnafnmgpaaDoor.G
open Go.RowKit Go.Shelf Go.Sort Go.Proofs.YtlkgimnafnmgpaaDoorW.PrintWords
set_option linter.unusedVariables false

def Tab (w : World) : Prop := Lib.TabIs Tryd.prog w "internal/strconv.uint64pow10" .u64 Lib.pow10Tab
theorem Tab.below {w w' : World} (h : Tab w) (hb : Below w.heap.size w w') : Tab w' := by
  unfold Tab Lib.TabIs at *
  rw [← h]
  unfold World.var?
  cases hg : Tryd.prog.globalNamed "internal/strconv.uint64pow10" with
  | none => rfl
  | some g =>
    have hlt : g < w.heap.size := by
      rcases Nat.lt_or_ge g w.heap.size with h' | h'
      · exact h'
      · exfalso
        unfold World.var? at h
        rw [hg] at h
        simp [Array.getElem?_eq_none h'] at h
    simp [hb.block g hlt]
def strconv_Itoa_23.f (a0 : Int) : Option (ByteArray) := if 0 ≤ a0 ∧ a0 ≤ 9223372036854775807 then some ⟨(Lib.decDigits a0.toNat).toArray⟩ else none
theorem strconv_Itoa_23.calls (a0 : Int) (r : ByteArray) (w : World) (h : strconv_Itoa_23.f a0 = some r) (hT : Tab w) :
    Calls Tryd.prog 23 #[.int .i64 a0] w fun e w' => e = .returned (.string r) ∧ Below w.heap.size w w' := by
  unfold strconv_Itoa_23.f at h
  by_cases c : 0 ≤ a0 ∧ a0 ≤ 9223372036854775807
  case neg => rw [if_neg c] at h; cases h
  rw [if_pos c] at h
  obtain rfl := Option.some.inj h
  refine (Any.strconv_Itoa Tryd.laysM171 a0 (by omega) c.2 w hT).mono ?_
  rintro e w' ⟨rfl, k, os, rfl⟩
  refine ⟨?_, ?_⟩
  · obtain ⟨i, rfl⟩ : ∃ i : Nat, a0 = i := ⟨a0.toNat, by omega⟩
    rw [Lib.itoa_nonneg]; rfl
  · exact ⟨rfl, rfl, rfl, by simp [grow, World.drewN], fun b hb => by simp [grow, World.drewN, Array.getElem?_append_left hb]⟩
end Go.Proofs.YtlkgimnafnmgpaaDoor.G

namespace Go.Proofs
open Go.Shelf
def Tryd.lays144_ren : Go.Shelf.Ren := ⟨fun | 144 => 33 | 143 => 41 | 219 => 44 | 217 => 56 | 225 => 57 | 224 => 58 | 267 => 59 | 266 => 71 | 314 => 72 | n => n, fun | 9 => 9 | 4 => 4 | 3 => 3 | 5 => 5 | 46 => 84 | 146 => 99 | 51 => 95 | n => n, fun | 1 => 0 | n => n⟩
theorem Tryd.lays144 : Go.Proofs.Lays.n144 Tryd.prog Tryd.lays144_ren := {
 mixed := by kernel_rfl
 f143 := Tryd.func41.trans (congrArg some (by kernel_rfl))
 f144 := Tryd.func33.trans (congrArg some (by kernel_rfl))
 f217 := Tryd.func56.trans (congrArg some (by kernel_rfl))
 f219 := Tryd.func44.trans (congrArg some (by kernel_rfl))
 f224 := Tryd.func58.trans (congrArg some (by kernel_rfl))
 f225 := Tryd.func57.trans (congrArg some (by kernel_rfl))
 f266 := Tryd.func71.trans (congrArg some (by kernel_rfl))
 f267 := Tryd.func59.trans (congrArg some (by kernel_rfl))
 f314 := Tryd.func72.trans (congrArg some (by kernel_rfl))
 t3 := Tryd.underlying3
 a3 := Tryd.isAgg3
 z3 := Tryd.sizeOf3
 v3 := Tryd.zeroValue3
 t4 := Tryd.underlying4
 a4 := Tryd.isAgg4
 z4 := Tryd.sizeOf4
 v4 := Tryd.zeroValue4
 t5 := Tryd.underlying5
 a5 := Tryd.isAgg5
 z5 := Tryd.sizeOf5
 v5 := Tryd.zeroValue5
 t9 := Tryd.underlying9
 a9 := Tryd.isAgg9
 z9 := Tryd.sizeOf9
 v9 := Tryd.zeroValue9
 t46 := Tryd.underlying84
 a46 := Tryd.isAgg84
 z46 := Tryd.sizeOf84
 v46 := Tryd.zeroValue84
 t51 := Tryd.underlying95
 a51 := Tryd.isAgg95
 z51 := Tryd.sizeOf95
 v51 := Tryd.zeroValue95
 t146 := Tryd.underlying99
 a146 := Tryd.isAgg99
 z146 := Tryd.sizeOf99
 v146 := Tryd.zeroValue99
 g1 := by kernel_rfl }
end Go.Proofs
namespace Go.Proofs.YtlkgimnafnmgpaaDoor.G
open Go.RowKit Go.Shelf Go.Proofs.YtlkgimnafnmgpaaDoorW.PrintWords Go.Proofs.YtlkgimnafnmgpaaDoorW.PrintLast Go.Proofs.YtlkgimnafnmgpaaDoorW.PrintMore
set_option linter.unusedVariables false
set_option linter.unusedSimpArgs false

namespace Ins
def Tells (g : Nat) (lb : Array Value) (p : S37 → Bool) (l : List S37) (w : World) : Prop :=
  ∀ (W : World) (x : S37), x ∈ l → Below w.heap.size w W → Calls Tryd.prog g (#[.agg #[.int .i64 x.f0, .int .i64 x.f1, .string x.f2]] ++ lb) W fun e w' => e = .returned (.bool (p x)) ∧ Below W.heap.size W w'

theorem rd_mem (l : List S37) (i : Int) (h0 : 0 ≤ i) (h1 : i < l.length) : rd_T37 l i ∈ l := by
  have hlt : i.toNat < l.length := by omega
  have e : rd_T37 l i = l[i.toNat] := by unfold rd_T37; rw [List.getD_eq_getElem?_getD, List.getElem?_eq_getElem hlt]; rfl
  rw [e]; exact List.getElem_mem hlt
theorem any_take_succ (p : S37 → Bool) (l : List S37) (i : Int) (h0 : 0 ≤ i) (h1 : i < l.length) (h : (l.take i.toNat).any p = false) (hx : p (rd_T37 l i) = false) : (l.take (i + 1).toNat).any p = false := by
  have hlt : i.toNat < l.length := by omega
  rw [show (i + 1).toNat = i.toNat + 1 by omega, List.take_succ_eq_append_getElem hlt, List.any_append, h]
  have e : rd_T37 l i = l[i.toNat] := by unfold rd_T37; rw [List.getD_eq_getElem?_getD, List.getElem?_eq_getElem hlt]; rfl
  rw [← e]; simp [hx]
theorem any_at (p : S37 → Bool) (l : List S37) (i : Int) (h0 : 0 ≤ i) (h1 : i < l.length) (hx : p (rd_T37 l i) = true) : l.any p = true := by
  rw [List.any_eq_true]
  exact ⟨_, rd_mem l i h0 h1, hx⟩

set_option maxHeartbeats 1000000 in
set_option maxRecDepth 100000 in
theorem index_some (g : Nat) (lb : Array Value) (p : S37 → Bool) (A0 : Option Addr) (c0 : Nat) (l0 : List S37) (w : World) (hr0 : Kd.C k37 w A0 l0.length l0)
    (eg : ∀ (args : Array Value) (w : World), (callFunc g args).run Tryd.prog w = .ok (.enter g args) w) (hp : Tells g lb p l0 w) :
    Calls Tryd.prog 32 #[.slice A0 l0.length c0, .func (.func g) #[] lb] w fun e w' => (∃ r : Int, e = .returned (.int .i64 r) ∧ decide (0 ≤ r) = l0.any p) ∧ Below w.heap.size w w' := by
  have hu37 := Tryd.underlying37
  have HR0 := Aside0.mk hr0
  have HL := Aside0.mk hr0.2.1
  clear hr0
  have HP := Aside0.mk hp
  clear hp
  have HB := Aside0.mk (Below.refl w.heap.size w)
  go_enter Tryd.func32, Tryd.ntmps32
  go_wp2
  go_loopg [8] (l0.length + 1) (fun kq v8 w' => ∃ (i : Int), v8 = .int .i64 i ∧ Aside0 (0 ≤ i ∧ i ≤ l0.length ∧ (kq : Int) = l0.length - i + 1 ∧ (l0.take i.toNat).any p = false) ∧ Aside0 (Below w.heap.size w w'))
  case atStart => exact ⟨0, rfl, ⟨by omega, by omega, by omega, by simp⟩, HB⟩
  case round =>
    clear HB
    obtain ⟨i, rfl, HA, HB1⟩ := hrel
    by_cases c : i < (l0.length : Int)
    · have cb : decide (i < (l0.length : Int)) = true := decide_eq_true c
      have cz : decide (0 ≤ i) = true := decide_eq_true HA.out.1
      obtain ⟨ad, e1, hx0, hx1, hx2⟩ := at_T37 (Kd.C_below HR0.out HB1.out) i HA.out.1 c
      cases e1
      have p1 := eq_true HA.out.1
      have q1 := eq_true c
      have w1 : wrap64 (i + 1) = i + 1 := by have := HA.out.1; have := HA.out.2.1; have := HL.out; unfold wrap64; omega
      have W1 := Aside0.mk w1
      have Cc := Aside0.mk c
      clear c w1
      go_wp2_with fail
      refine (HP.out _ (rd_T37 l0 i) (rd_mem l0 i HA.out.1 Cc.out) HB1.out).mono ?_
      rintro e w' ⟨rfl, hb⟩
      have HB2 := Aside0.mk (below_step HB1.out hb)
      clear hb
      by_cases hpx : p (rd_T37 l0 i) = true
      · have HX := Aside0.mk hpx
        go_wp2
        go_ret
        exact ⟨⟨i, rfl, by rw [any_at p l0 i HA.out.1 Cc.out HX.out]; exact decide_eq_true HA.out.1⟩, HB2.out⟩
      · replace hpx := Bool.eq_false_iff.mpr hpx
        have HX := Aside0.mk hpx
        obtain ⟨k1, rfl⟩ : ∃ m, gk = m + 1 := ⟨gk - 1, by have := HA.out; omega⟩
        go_wp2
        go_roundg k1
        case measure => omega
        case rel => exact ⟨i + 1, by first | rfl | rw [W1.out], ⟨by have := HA.out; omega, by have := HA.out; have := Cc.out; omega, by have := HA.out; omega, any_take_succ p l0 i HA.out.1 Cc.out HA.out.2.2.2 HX.out⟩, HB2⟩
    · have cb : decide (i < (l0.length : Int)) = false := decide_eq_false c
      have Cc := Aside0.mk c
      clear c
      go_wp2
      go_ret
      refine ⟨⟨-1, rfl, ?_⟩, HB1.out⟩
      have h := HA.out.2.2.2
      rw [List.take_of_length_le (by have := HA.out; have := Cc.out; omega)] at h
      rw [h]; rfl

set_option maxHeartbeats 1000000 in
set_option maxRecDepth 100000 in
theorem contains_some (g : Nat) (lb : Array Value) (p : S37 → Bool) (A0 : Option Addr) (c0 : Nat) (l0 : List S37) (w : World) (hr0 : Kd.C k37 w A0 l0.length l0)
    (eg : ∀ (args : Array Value) (w : World), (callFunc g args).run Tryd.prog w = .ok (.enter g args) w) (hp : Tells g lb p l0 w) :
    Calls Tryd.prog 19 #[.slice A0 l0.length c0, .func (.func g) #[] lb] w fun e w' => e = .returned (.bool (l0.any p)) ∧ Below w.heap.size w w' := by
  go_enter Tryd.func19, Tryd.ntmps19
  go_wp2_with fail
  refine (index_some g lb p A0 c0 l0 _ hr0 eg hp).mono ?_
  rintro e w' ⟨⟨r, rfl, hr⟩, hb⟩
  have HR := Aside0.mk hr
  clear hr
  go_wp2
  go_ret
  exact ⟨by rw [← HR.out]; rfl, hb⟩


def Mach (w : World) : Prop := ∃ m : Int, w.cell? ⟨(Tryd.lays144_ren).g 1, 0, none⟩ = some (.int .i64 m)
theorem Mach.below {w w' : World} (h : Mach w) (hb : Below w.heap.size w w') : Mach w' := by
  obtain ⟨m, hm⟩ := h
  exact ⟨m, (hb.cell (World.block_lt_of_cell? w _ hm)).trans hm⟩

def okI (x : S37) : Bool := decide (1 ≤ x.f0) && decide (x.f0 ≤ 13) && decide (0 ≤ x.f1) && decide (x.f1 ≤ 100000) && decide (x.f2.size ≤ 1500) && !(Lib.contains x.f2.data.toList [10])
set_option maxHeartbeats 4000000 in
set_option maxRecDepth 100000 in
theorem isInstr (x : S37) (w : World) (hM : Mach w) : Calls Tryd.prog 21 #[.agg #[.int .i64 x.f0, .int .i64 x.f1, .string x.f2]] w fun e w' => e = .returned (.bool (okI x)) ∧ Below w.heap.size w w' := by
  have hu37 := Tryd.underlying37
  obtain ⟨m, hm⟩ := hM
  have HM := Aside0.mk hm
  clear hm
  by_cases c1 : 1 ≤ x.f0
  case neg =>
    have c1b0 : decide (1 ≤ x.f0) = false := decide_eq_false c1
    have e0 : okI x = false := by unfold okI; rw [c1b0]; simp
    rw [e0]
    clear e0 c1
    go_enter Tryd.func21, Tryd.ntmps21
    go_wp2_with (first | ((with_reducible refine gate_dst (N := 1) rfl ?_); refine box_event ?hg (N := 1) ?hd (cs := #[.int .i64 x.f0, .int .i64 x.f1, .string x.f2]) (t := 37) ?hr ?_; (case hd => rfl); (case hg => rfl); (case hr => first | (go_simp; done) | (go_simp; rfl)); intro gb101 hg w5 hbox hb; have HB := Aside0.mk hb; have BK := Aside0.mk hbox; clear hb hbox hg; have hcz_0 : w5.cell? ⟨gb101, 0, none⟩ = some (.int .i64 x.f0) := (blk_cell BK.out 0).trans rfl; have hcz_1 : w5.cell? ⟨gb101, 1, none⟩ = some (.int .i64 x.f1) := (blk_cell BK.out 1).trans rfl; have hcz_2 : w5.cell? ⟨gb101, 2, none⟩ = some (.string x.f2) := (blk_cell BK.out 2).trans rfl; have hfz_0 := blk_frozen BK.out 0; have hfz_1 := blk_frozen BK.out 1; have hfz_2 := blk_frozen BK.out 2))
    go_ret
    exact ⟨rfl, HB.out⟩
  have c1b0 : decide (1 ≤ x.f0) = true := decide_eq_true c1
  by_cases c2 : x.f0 ≤ 13
  case neg =>
    have c2b0 : decide (x.f0 ≤ 13) = false := decide_eq_false c2
    have e0 : okI x = false := by unfold okI; rw [c2b0]; simp
    rw [e0]
    clear e0 c2
    go_enter Tryd.func21, Tryd.ntmps21
    go_wp2_with (first | ((with_reducible refine gate_dst (N := 1) rfl ?_); refine box_event ?hg (N := 1) ?hd (cs := #[.int .i64 x.f0, .int .i64 x.f1, .string x.f2]) (t := 37) ?hr ?_; (case hd => rfl); (case hg => rfl); (case hr => first | (go_simp; done) | (go_simp; rfl)); intro gb101 hg w5 hbox hb; have HB := Aside0.mk hb; have BK := Aside0.mk hbox; clear hb hbox hg; have hcz_0 : w5.cell? ⟨gb101, 0, none⟩ = some (.int .i64 x.f0) := (blk_cell BK.out 0).trans rfl; have hcz_1 : w5.cell? ⟨gb101, 1, none⟩ = some (.int .i64 x.f1) := (blk_cell BK.out 1).trans rfl; have hcz_2 : w5.cell? ⟨gb101, 2, none⟩ = some (.string x.f2) := (blk_cell BK.out 2).trans rfl; have hfz_0 := blk_frozen BK.out 0; have hfz_1 := blk_frozen BK.out 1; have hfz_2 := blk_frozen BK.out 2))
    go_ret
    exact ⟨rfl, HB.out⟩
  have c2b0 : decide (x.f0 ≤ 13) = true := decide_eq_true c2
  by_cases c3 : 0 ≤ x.f1
  case neg =>
    have c3b0 : decide (0 ≤ x.f1) = false := decide_eq_false c3
    have e0 : okI x = false := by unfold okI; rw [c3b0]; simp
    rw [e0]
    clear e0 c3
    go_enter Tryd.func21, Tryd.ntmps21
    go_wp2_with (first | ((with_reducible refine gate_dst (N := 1) rfl ?_); refine box_event ?hg (N := 1) ?hd (cs := #[.int .i64 x.f0, .int .i64 x.f1, .string x.f2]) (t := 37) ?hr ?_; (case hd => rfl); (case hg => rfl); (case hr => first | (go_simp; done) | (go_simp; rfl)); intro gb101 hg w5 hbox hb; have HB := Aside0.mk hb; have BK := Aside0.mk hbox; clear hb hbox hg; have hcz_0 : w5.cell? ⟨gb101, 0, none⟩ = some (.int .i64 x.f0) := (blk_cell BK.out 0).trans rfl; have hcz_1 : w5.cell? ⟨gb101, 1, none⟩ = some (.int .i64 x.f1) := (blk_cell BK.out 1).trans rfl; have hcz_2 : w5.cell? ⟨gb101, 2, none⟩ = some (.string x.f2) := (blk_cell BK.out 2).trans rfl; have hfz_0 := blk_frozen BK.out 0; have hfz_1 := blk_frozen BK.out 1; have hfz_2 := blk_frozen BK.out 2))
    go_ret
    exact ⟨rfl, HB.out⟩
  have c3b0 : decide (0 ≤ x.f1) = true := decide_eq_true c3
  by_cases c4 : x.f1 ≤ 100000
  case neg =>
    have c4b0 : decide (x.f1 ≤ 100000) = false := decide_eq_false c4
    have e0 : okI x = false := by unfold okI; rw [c4b0]; simp
    rw [e0]
    clear e0 c4
    go_enter Tryd.func21, Tryd.ntmps21
    go_wp2_with (first | ((with_reducible refine gate_dst (N := 1) rfl ?_); refine box_event ?hg (N := 1) ?hd (cs := #[.int .i64 x.f0, .int .i64 x.f1, .string x.f2]) (t := 37) ?hr ?_; (case hd => rfl); (case hg => rfl); (case hr => first | (go_simp; done) | (go_simp; rfl)); intro gb101 hg w5 hbox hb; have HB := Aside0.mk hb; have BK := Aside0.mk hbox; clear hb hbox hg; have hcz_0 : w5.cell? ⟨gb101, 0, none⟩ = some (.int .i64 x.f0) := (blk_cell BK.out 0).trans rfl; have hcz_1 : w5.cell? ⟨gb101, 1, none⟩ = some (.int .i64 x.f1) := (blk_cell BK.out 1).trans rfl; have hcz_2 : w5.cell? ⟨gb101, 2, none⟩ = some (.string x.f2) := (blk_cell BK.out 2).trans rfl; have hfz_0 := blk_frozen BK.out 0; have hfz_1 := blk_frozen BK.out 1; have hfz_2 := blk_frozen BK.out 2))
    go_ret
    exact ⟨rfl, HB.out⟩
  have c4b0 : decide (x.f1 ≤ 100000) = true := decide_eq_true c4
  by_cases c5 : (x.f2.size : Int) ≤ 1500
  case neg =>
    have c5b0 : decide ((x.f2.size : Int) ≤ 1500) = false := decide_eq_false c5
    have c5b1 : decide (x.f2.size ≤ 1500) = false := decide_eq_false (by omega)
    have e0 : okI x = false := by unfold okI; rw [c5b1]; simp
    rw [e0]
    clear e0 c5
    go_enter Tryd.func21, Tryd.ntmps21
    go_wp2_with (first | ((with_reducible refine gate_dst (N := 1) rfl ?_); refine box_event ?hg (N := 1) ?hd (cs := #[.int .i64 x.f0, .int .i64 x.f1, .string x.f2]) (t := 37) ?hr ?_; (case hd => rfl); (case hg => rfl); (case hr => first | (go_simp; done) | (go_simp; rfl)); intro gb101 hg w5 hbox hb; have HB := Aside0.mk hb; have BK := Aside0.mk hbox; clear hb hbox hg; have hcz_0 : w5.cell? ⟨gb101, 0, none⟩ = some (.int .i64 x.f0) := (blk_cell BK.out 0).trans rfl; have hcz_1 : w5.cell? ⟨gb101, 1, none⟩ = some (.int .i64 x.f1) := (blk_cell BK.out 1).trans rfl; have hcz_2 : w5.cell? ⟨gb101, 2, none⟩ = some (.string x.f2) := (blk_cell BK.out 2).trans rfl; have hfz_0 := blk_frozen BK.out 0; have hfz_1 := blk_frozen BK.out 1; have hfz_2 := blk_frozen BK.out 2))
    go_ret
    exact ⟨rfl, HB.out⟩
  have c5b0 : decide ((x.f2.size : Int) ≤ 1500) = true := decide_eq_true c5
  have c5b1 : decide (x.f2.size ≤ 1500) = true := decide_eq_true (by omega)
  have e0 : okI x = !(Lib.contains x.f2.data.toList [10]) := by unfold okI; rw [c1b0, c2b0, c3b0, c4b0, c5b1]; simp
  rw [e0]
  clear e0 c1 c2 c3 c4 c5
  go_enter Tryd.func21, Tryd.ntmps21
  go_wp2_with (first | ((with_reducible refine gate_dst (N := 1) rfl ?_); refine box_event ?hg (N := 1) ?hd (cs := #[.int .i64 x.f0, .int .i64 x.f1, .string x.f2]) (t := 37) ?hr ?_; (case hd => rfl); (case hg => rfl); (case hr => first | (go_simp; done) | (go_simp; rfl)); intro gb101 hg w5 hbox hb; have HB := Aside0.mk hb; have BK := Aside0.mk hbox; clear hb hbox hg; have hcz_0 : w5.cell? ⟨gb101, 0, none⟩ = some (.int .i64 x.f0) := (blk_cell BK.out 0).trans rfl; have hcz_1 : w5.cell? ⟨gb101, 1, none⟩ = some (.int .i64 x.f1) := (blk_cell BK.out 1).trans rfl; have hcz_2 : w5.cell? ⟨gb101, 2, none⟩ = some (.string x.f2) := (blk_cell BK.out 2).trans rfl; have hfz_0 := blk_frozen BK.out 0; have hfz_1 := blk_frozen BK.out 1; have hfz_2 := blk_frozen BK.out 2) | ((with_reducible refine gate_callee (f := 33) rfl ?_); refine gate_guard ?hw ?_; (case hw => first | rfl | (go_simp; done) | (simp [Region.wanted, yielded]; done)); refine goesL_ (some 30) rfl rfl Tryd.func33 (by kernel_rfl) rfl #[.string x.f2, .string ⟨#[10]⟩] rfl (by (try simp only [List.map_toArray, List.map_cons, List.map_nil]); first | done | rfl) ?_; refine (Any.strings_Contains Tryd.lays144 x.f2 ⟨#[10]⟩ m _ (by have := of_decide_eq_true c5b1; omega) ((HB.out.cell (World.block_lt_of_cell? w _ HM.out)).trans HM.out)).mono ?_; rintro e w7 ⟨rfl, rfl⟩; refine ⟨_, rfl, ?_⟩))
  go_ret
  exact ⟨rfl, HB.out⟩

set_option maxHeartbeats 1000000 in
set_option maxRecDepth 100000 in
theorem notInstr (x : S37) (w : World) (hM : Mach w) : Calls Tryd.prog 20 #[.agg #[.int .i64 x.f0, .int .i64 x.f1, .string x.f2]] w fun e w' => e = .returned (.bool (!okI x)) ∧ Below w.heap.size w w' := by
  have hu37 := Tryd.underlying37
  have HM := Aside0.mk hM
  clear hM
  go_enter Tryd.func20, Tryd.ntmps20
  go_wp2_with (first | ((with_reducible refine gate_dst (N := 1) rfl ?_); refine box_event ?hg (N := 1) ?hd (cs := #[.int .i64 x.f0, .int .i64 x.f1, .string x.f2]) (t := 37) ?hr ?_; (case hd => rfl); (case hg => rfl); (case hr => first | (go_simp; done) | (go_simp; rfl)); intro gb101 hg w5 hbox hb; have HB := Aside0.mk hb; have BK := Aside0.mk hbox; clear hb hbox hg; have hcz_0 : w5.cell? ⟨gb101, 0, none⟩ = some (.int .i64 x.f0) := (blk_cell BK.out 0).trans rfl; have hcz_1 : w5.cell? ⟨gb101, 1, none⟩ = some (.int .i64 x.f1) := (blk_cell BK.out 1).trans rfl; have hcz_2 : w5.cell? ⟨gb101, 2, none⟩ = some (.string x.f2) := (blk_cell BK.out 2).trans rfl; have hfz_0 := blk_frozen BK.out 0; have hfz_1 := blk_frozen BK.out 1; have hfz_2 := blk_frozen BK.out 2) | ((with_reducible refine gate_callee (f := 21) rfl ?_); refine goesL_ (some 4) rfl rfl Tryd.func21 (by kernel_rfl) rfl #[.agg #[.int .i64 x.f0, .int .i64 x.f1, .string x.f2]] rfl (by (try simp only [List.map_toArray, List.map_cons, List.map_nil]); first | done | rfl) ?_; refine (isInstr x _ (HM.out.below HB.out)).mono ?_; rintro e w7 ⟨rfl, hb⟩; refine ⟨_, rfl, ?_⟩; have n0_ := Aside0.mk (below_step HB.out hb); clear HB BK hb; have HB := n0_; clear n0_))
  go_ret
  exact ⟨rfl, HB.out⟩
theorem anyBad (A0 : Option Addr) (c0 : Nat) (l0 : List S37) (w : World) (hr0 : Kd.C k37 w A0 l0.length l0) (hM : Mach w) :
    Calls Tryd.prog 19 #[.slice A0 l0.length c0, .func (.func 20) #[] #[]] w fun e w' => e = .returned (.bool (l0.any fun x => !okI x)) ∧ Below w.heap.size w w' :=
  contains_some 20 #[] (fun x => !okI x) A0 c0 l0 w hr0 (enters_ Tryd.func20 (by kernel_rfl) rfl) (fun W x _ hb => by
    have h := notInstr x W (hM.below hb)
    simpa using h)
end Ins
def impl_Instr_19.f (l : List S37) (_n : Int) : Option Bool := some (l.any fun x => !Ins.okI x)
theorem impl_Instr_19.calls (A0 : Option Addr) (c0 : Nat) (l0 : List S37) (n : Int) (r : Bool) (w : World) (hr0 : Kd.C k37 w A0 l0.length l0) (hc0 : l0.length ≤ c0) (h : impl_Instr_19.f l0 n = some r) (hM : Ins.Mach w) :
    Calls Tryd.prog 19 #[.slice A0 l0.length c0, .func (.func 20) #[] #[]] w fun e w' => e = .returned (.bool r) ∧ Below w.heap.size w w' := by
  obtain rfl := Option.some.inj h
  exact Ins.anyBad A0 c0 l0 w hr0 hM
end Go.Proofs.YtlkgimnafnmgpaaDoor.G

namespace Go.Proofs.YtlkgimnafnmgpaaDoor.G
open Go.RowKit
structure Met (w : World) : Prop where
  tab : Tab w
  mach : Ins.Mach w
  lib : LibMet w
theorem Met.below {w w' : World} (h : Met w) (hb : Below w.heap.size w w') : Met w' := ⟨h.tab.below hb, h.mach.below hb, h.lib.below hb⟩
end Go.Proofs.YtlkgimnafnmgpaaDoor.G

namespace Go.Proofs.YtlkgimnafnmgpaaDoor.G
open Go.RowKit Go.Proofs.YtlkgimnafnmgpaaDoorW.PrintWords Go.Proofs.YtlkgimnafnmgpaaDoorW.PrintLast Go.Proofs.YtlkgimnafnmgpaaDoorW.PrintMore
attribute [local go_sem] max2_int min2_int max_two min_two max_three min_three max_four min_four   -- for this text's walks alone
set_option linter.unusedVariables false
set_option linter.unusedSimpArgs false

def spec_l2Cut.l0 : Nat → ByteArray → Int → Int → Option (ByteArray × ByteArray × Bool)
  | 0, _, _, _ => none
  | k + 1, x0, x1, x7 => if x7 < (x0.size : Int) then (if 0 ≤ x7 then (if (bt x0 x7) = x1 then (if x7 ≤ (x0.size : Int) then (if 0 ≤ (wrap64 (x7 + 1)) then (if (wrap64 (x7 + 1)) ≤ (x0.size : Int) then (some (x0.extract 0 (x7 : Int).toNat, x0.extract ((wrap64 (x7 + 1)) : Int).toNat x0.size, true)) else (none)) else (none)) else (none)) else (spec_l2Cut.l0 k x0 x1 (wrap64 (x7 + 1)))) else (none)) else (some (x0, (⟨#[]⟩ : ByteArray), false))
def spec_l2Cut.f (k : Nat) (a0 : ByteArray) (a1 : Int) : Option (ByteArray × ByteArray × Bool) := spec_l2Cut.l0 k a0 a1 0
set_option maxHeartbeats 8000000 in
set_option maxRecDepth 100000 in
theorem spec_l2Cut.calls (k : Nat) (a0 : ByteArray) (a1 : Int) (r1 : ByteArray) (r2 : ByteArray) (r3 : Bool) (w : World) (h : spec_l2Cut.f k a0 a1 = some (r1, r2, r3)) :
    Calls Tryd.prog 15 #[.string a0, .int .u8 a1] w fun e w' => e = .returned (.tuple #[.string r1, .string r2, .bool r3]) ∧ Drawn0 w w' := by
  have H : (spec_l2Cut.l0 k a0 a1 0) = some (r1, r2, r3) := h
  clear h
  have H' := Aside0.mk H
  clear H
  go_enter Tryd.func15, Tryd.ntmps15
  go_wp2
  repeat (go_quiet (fail); try go_wp2)
  go_loopg [7] k (fun kq v7 w' => ∃ (x7_1 : Int), v7 = .int .i64 x7_1 ∧ Aside0 (spec_l2Cut.l0 kq a0 a1 x7_1 = some (r1, r2, r3)) ∧ Aside0 (kq ≤ k) ∧ Drawn0 w w')
  case atStart => exact ⟨(0), (by first | rfl | (simp; done) | (simp [*]; done)), H', ⟨Nat.le_refl _⟩, by repeat (first | exact Drawn0.refl _ | apply Drawn0.step)⟩
  case round =>
    clear H'
    try clear c1
    try clear p2
    obtain ⟨x7_1, rfl, HA, HK1, ⟨m1, rfl⟩⟩ := hrel
    cases gk with
    | zero => exact absurd HA.out (by simp [spec_l2Cut.l0])
    | succ k1 =>
      have H := HA.out
      clear HA
      simp only [spec_l2Cut.l0] at H
      by_cases c3 : x7_1 < (a0.size : Int)
      · rw [if_pos c3] at H
        have c3b0 : decide (x7_1 < (a0.size : Int)) = true := decide_eq_true c3
        clear c3
        by_cases c4 : 0 ≤ x7_1
        · rw [if_pos c4] at H
          have c4b0 : decide (0 ≤ x7_1) = true := decide_eq_true c4
          clear c4
          by_cases c6 : (bt a0 x7_1) = a1
          · rw [if_pos c6] at H
            have c6b0 : ((bt a0 x7_1) == a1) = true := beq_iff_eq.mpr c6
            have c6b1 : ((bt a0 x7_1) != a1) = false := bne_eq_false_iff_eq.mpr c6
            clear c6
            have c7b0 := eq_true (of_decide_eq_true (by first | (with_reducible assumption) | assumption) : 0 ≤ x7_1)
            by_cases c8 : x7_1 ≤ (a0.size : Int)
            · rw [if_pos c8] at H
              have c8b0 := eq_true c8
              have c8b1 : decide (x7_1 ≤ (a0.size : Int)) = true := decide_eq_true c8
              clear c8
              obtain ⟨ji9, hji9⟩ : ∃ j_ : Int, (wrap64 (x7_1 + 1)) = j_ := ⟨_, rfl⟩
              replace H : (if 0 ≤ (ji9) then (if (ji9) ≤ (a0.size : Int) then (some (a0.extract 0 (x7_1 : Int).toNat, a0.extract ((ji9) : Int).toNat a0.size, true)) else (none)) else (none)) = some (r1, r2, r3) := by first | (rw [hji9] at H; exact H) | (simp only [hji9] at H ⊢; exact H)
              have hji9w : (IntKind.i64.wrap (x7_1 + 1)) = ji9 := (i64_w _).trans hji9
              by_cases c10 : 0 ≤ (ji9)
              · rw [if_pos c10] at H
                have c10b0 := eq_true c10
                have c10b1 : decide (0 ≤ (ji9)) = true := decide_eq_true c10
                clear c10
                by_cases c11 : (ji9) ≤ (a0.size : Int)
                · rw [if_pos c11] at H
                  have c11b0 := eq_true c11
                  have c11b1 : decide ((ji9) ≤ (a0.size : Int)) = true := decide_eq_true c11
                  clear c11
                  simp only [Option.some.injEq, Prod.mk.injEq] at H
                  obtain ⟨rfl, rfl, rfl⟩ := H
                  have p5 : 0 ≤ (x7_1 : Int) := of_decide_eq_true (by first | (with_reducible assumption) | assumption)
                  have q5 : x7_1 < (a0.size : Int) := of_decide_eq_true (by first | (with_reducible assumption) | assumption)
                  have hx5 := bt_at a0 x7_1
                  replace p5 := eq_true p5
                  replace q5 := eq_true q5
                  go_wp2
                  repeat (go_quiet (fail); try go_wp2)
                  go_ret3
                  exact ⟨by first | rfl | (simp; done) | (simp only [← hji9] <;> (first | rfl | simp)) | (simp [*]; done), by repeat (first | exact Drawn0.refl _ | apply Drawn0.step)⟩
                · rw [if_neg c11] at H
                  exact absurd H (by simp)
              · rw [if_neg c10] at H
                exact absurd H (by simp)
            · rw [if_neg c8] at H
              exact absurd H (by simp)
          · rw [if_neg c6] at H
            have c6b0 : ((bt a0 x7_1) == a1) = false := beq_eq_false_iff_ne.mpr c6
            have c6b1 : ((bt a0 x7_1) != a1) = true := bne_iff_ne.mpr c6
            have H' := Aside0.mk H
            clear H
            have p5 : 0 ≤ (x7_1 : Int) := of_decide_eq_true (by first | (with_reducible assumption) | assumption)
            have q5 : x7_1 < (a0.size : Int) := of_decide_eq_true (by first | (with_reducible assumption) | assumption)
            have hx5 := bt_at a0 x7_1
            replace p5 := eq_true p5
            replace q5 := eq_true q5
            go_wp2
            repeat (go_quiet (fail); try go_wp2)
            go_roundg k1
            case measure => have := HK1.out; omega
            case rel => exact ⟨(wrap64 (x7_1 + 1)), (by first | rfl | (simp; done) | (simp [*]; done)), H', ⟨by have := HK1.out; omega⟩, by repeat (first | exact Drawn0.refl _ | apply Drawn0.step)⟩
        · rw [if_neg c4] at H
          exact absurd H (by simp)
      · rw [if_neg c3] at H
        have c3b0 : decide (x7_1 < (a0.size : Int)) = false := decide_eq_false c3
        clear c3
        simp only [Option.some.injEq, Prod.mk.injEq] at H
        obtain ⟨rfl, rfl, rfl⟩ := H
        go_wp2
        repeat (go_quiet (fail); try go_wp2)
        go_ret3
        exact ⟨by first | rfl | (simp; done) | (simp [*]; done), by repeat (first | exact Drawn0.refl _ | apply Drawn0.step)⟩

end Go.Proofs.YtlkgimnafnmgpaaDoor.G

namespace Go.Proofs.YtlkgimnafnmgpaaDoor.G
open Go.RowKit Go.Proofs.YtlkgimnafnmgpaaDoorW.PrintWords Go.Proofs.YtlkgimnafnmgpaaDoorW.PrintLast Go.Proofs.YtlkgimnafnmgpaaDoorW.PrintMore
attribute [local go_sem] max2_int min2_int max_two min_two max_three min_three max_four min_four   -- for this text's walks alone
set_option linter.unusedVariables false
set_option linter.unusedSimpArgs false

def spec_l1Digits.l0 : Nat → ByteArray → Int → Option (Bool)
  | 0, _, _ => none
  | k + 1, x0, x3 => if x3 < (x0.size : Int) then (if 0 ≤ x3 then (if (bt x0 x3) < 48 then (some false) else (if (bt x0 x3) > 57 then (some false) else (spec_l1Digits.l0 k x0 (wrap64 (x3 + 1))))) else (none)) else (if (x0.size : Int) > 0 then (if 0 < (x0.size : Int) then (if (bt x0 0) = 48 then (some ((x0.size : Int) == 1)) else (some true)) else (none)) else (some false))
def spec_l1Digits.f (k : Nat) (a0 : ByteArray) : Option (Bool) := spec_l1Digits.l0 k a0 0
set_option maxHeartbeats 8000000 in
set_option maxRecDepth 100000 in
theorem spec_l1Digits.calls (k : Nat) (a0 : ByteArray) (r : Bool) (w : World) (h : spec_l1Digits.f k a0 = some r) :
    Calls Tryd.prog 36 #[.string a0] w fun e w' => e = .returned (.bool r) ∧ Drawn0 w w' := by
  have H : (spec_l1Digits.l0 k a0 0) = some r := h
  clear h
  have H' := Aside0.mk H
  clear H
  go_enter Tryd.func36, Tryd.ntmps36
  go_wp2
  go_loopg [3] k (fun kq v3 w' => ∃ (x3_1 : Int), v3 = .int .i64 x3_1 ∧ Aside0 (spec_l1Digits.l0 kq a0 x3_1 = some r) ∧ Aside0 (kq ≤ k) ∧ Drawn0 w w')
  case atStart => exact ⟨(0), (by first | rfl | (simp; done) | (simp [*]; done)), H', ⟨Nat.le_refl _⟩, by repeat (first | exact Drawn0.refl _ | apply Drawn0.step)⟩
  case round =>
    clear H'
    obtain ⟨x3_1, rfl, HA, HK1, ⟨m1, rfl⟩⟩ := hrel
    cases gk with
    | zero => exact absurd HA.out (by simp [spec_l1Digits.l0])
    | succ k1 =>
      have H := HA.out
      clear HA
      simp only [spec_l1Digits.l0] at H
      by_cases c2 : x3_1 < (a0.size : Int)
      · rw [if_pos c2] at H
        have c2b0 : decide (x3_1 < (a0.size : Int)) = true := decide_eq_true c2
        clear c2
        by_cases c3 : 0 ≤ x3_1
        · rw [if_pos c3] at H
          have c3b0 : decide (0 ≤ x3_1) = true := decide_eq_true c3
          clear c3
          by_cases c5 : (bt a0 x3_1) < 48
          · rw [if_pos c5] at H
            have c5b0 : decide ((bt a0 x3_1) < 48) = true := decide_eq_true c5
            clear c5
            obtain rfl := Option.some.inj H
            have p4 : 0 ≤ (x3_1 : Int) := of_decide_eq_true (by first | (with_reducible assumption) | assumption)
            have q4 : x3_1 < (a0.size : Int) := of_decide_eq_true (by first | (with_reducible assumption) | assumption)
            have hx4 := bt_at a0 x3_1
            replace p4 := eq_true p4
            replace q4 := eq_true q4
            go_wp2
            go_ret
            exact ⟨by first | rfl | (simp; done) | (simp [*]; done), by repeat (first | exact Drawn0.refl _ | apply Drawn0.step)⟩
          · rw [if_neg c5] at H
            have c5b0 : decide ((bt a0 x3_1) < 48) = false := decide_eq_false c5
            clear c5
            by_cases c7 : (bt a0 x3_1) > 57
            · rw [if_pos c7] at H
              have c7b0 : decide (57 < (bt a0 x3_1)) = true := decide_eq_true c7
              clear c7
              obtain rfl := Option.some.inj H
              have p4 : 0 ≤ (x3_1 : Int) := of_decide_eq_true (by first | (with_reducible assumption) | assumption)
              have q4 : x3_1 < (a0.size : Int) := of_decide_eq_true (by first | (with_reducible assumption) | assumption)
              have hx4 := bt_at a0 x3_1
              replace p4 := eq_true p4
              replace q4 := eq_true q4
              have p6 : 0 ≤ (x3_1 : Int) := of_decide_eq_true (by first | (with_reducible assumption) | assumption)
              have q6 : x3_1 < (a0.size : Int) := of_decide_eq_true (by first | (with_reducible assumption) | assumption)
              have hx6 := bt_at a0 x3_1
              replace p6 := eq_true p6
              replace q6 := eq_true q6
              go_wp2
              go_ret
              exact ⟨by first | rfl | (simp; done) | (simp [*]; done), by repeat (first | exact Drawn0.refl _ | apply Drawn0.step)⟩
            · rw [if_neg c7] at H
              have c7b0 : decide (57 < (bt a0 x3_1)) = false := decide_eq_false c7
              clear c7
              have H' := Aside0.mk H
              clear H
              have p4 : 0 ≤ (x3_1 : Int) := of_decide_eq_true (by first | (with_reducible assumption) | assumption)
              have q4 : x3_1 < (a0.size : Int) := of_decide_eq_true (by first | (with_reducible assumption) | assumption)
              have hx4 := bt_at a0 x3_1
              replace p4 := eq_true p4
              replace q4 := eq_true q4
              have p6 : 0 ≤ (x3_1 : Int) := of_decide_eq_true (by first | (with_reducible assumption) | assumption)
              have q6 : x3_1 < (a0.size : Int) := of_decide_eq_true (by first | (with_reducible assumption) | assumption)
              have hx6 := bt_at a0 x3_1
              replace p6 := eq_true p6
              replace q6 := eq_true q6
              go_wp2
              go_roundg k1
              case measure => have := HK1.out; omega
              case rel => exact ⟨(wrap64 (x3_1 + 1)), (by first | rfl | (simp; done) | (simp [*]; done)), H', ⟨by have := HK1.out; omega⟩, by repeat (first | exact Drawn0.refl _ | apply Drawn0.step)⟩
        · rw [if_neg c3] at H
          exact absurd H (by simp)
      · rw [if_neg c2] at H
        have c2b0 : decide (x3_1 < (a0.size : Int)) = false := decide_eq_false c2
        clear c2
        by_cases c8 : (a0.size : Int) > 0
        · rw [if_pos c8] at H
          have c8b0 : decide (0 < (a0.size : Int)) = true := decide_eq_true c8
          have c8b1 : decide (0 < a0.size) = true := decide_eq_true (by omega)
          clear c8
          by_cases c9 : 0 < (a0.size : Int)
          · rw [if_pos c9] at H
            have c9b0 : decide (0 < (a0.size : Int)) = true := decide_eq_true c9
            have c9b1 : decide (0 < a0.size) = true := decide_eq_true (by omega)
            clear c9
            by_cases c11 : (bt a0 0) = 48
            · rw [if_pos c11] at H
              have c11b0 : ((bt a0 0) == 48) = true := beq_iff_eq.mpr c11
              have c11b1 : ((bt a0 0) != 48) = false := bne_eq_false_iff_eq.mpr c11
              clear c11
              obtain rfl := Option.some.inj H
              have p10 : 0 ≤ (0 : Int) := (by omega)
              have q10 : 0 < a0.size := (by have : (0 : Int) < (a0.size : Int) := of_decide_eq_true (by first | (with_reducible assumption) | assumption); omega)
              have hx10 : ∀ h : 0 < a0.size, ((a0[0]'h).toNat : Int) = bt a0 0 := bt_at a0 0
              clear p10
              have qi10 : (0 < (a0.size : Int)) = True := eq_true (of_decide_eq_true (by first | (with_reducible assumption) | assumption))
              replace q10 := eq_true q10
              go_wp2
              go_ret
              exact ⟨by first | rfl | (simp; done) | (simp [*]; done), by repeat (first | exact Drawn0.refl _ | apply Drawn0.step)⟩
            · rw [if_neg c11] at H
              have c11b0 : ((bt a0 0) == 48) = false := beq_eq_false_iff_ne.mpr c11
              have c11b1 : ((bt a0 0) != 48) = true := bne_iff_ne.mpr c11
              obtain rfl := Option.some.inj H
              have p10 : 0 ≤ (0 : Int) := (by omega)
              have q10 : 0 < a0.size := (by have : (0 : Int) < (a0.size : Int) := of_decide_eq_true (by first | (with_reducible assumption) | assumption); omega)
              have hx10 : ∀ h : 0 < a0.size, ((a0[0]'h).toNat : Int) = bt a0 0 := bt_at a0 0
              clear p10
              have qi10 : (0 < (a0.size : Int)) = True := eq_true (of_decide_eq_true (by first | (with_reducible assumption) | assumption))
              replace q10 := eq_true q10
              go_wp2
              go_ret
              exact ⟨by first | rfl | (simp; done) | (simp [*]; done), by repeat (first | exact Drawn0.refl _ | apply Drawn0.step)⟩
          · rw [if_neg c9] at H
            exact absurd H (by simp)
        · rw [if_neg c8] at H
          have c8b0 : decide (0 < (a0.size : Int)) = false := decide_eq_false c8
          have c8b1 : decide (0 < a0.size) = false := decide_eq_false (by omega)
          clear c8
          obtain rfl := Option.some.inj H
          go_wp2
          go_ret
          exact ⟨by first | rfl | (simp; done) | (simp [*]; done), by repeat (first | exact Drawn0.refl _ | apply Drawn0.step)⟩

end Go.Proofs.YtlkgimnafnmgpaaDoor.G

namespace Go.Proofs.YtlkgimnafnmgpaaDoor.G
open Go.RowKit Go.Proofs.YtlkgimnafnmgpaaDoorW.PrintWords Go.Proofs.YtlkgimnafnmgpaaDoorW.PrintLast Go.Proofs.YtlkgimnafnmgpaaDoorW.PrintMore
attribute [local go_sem] max2_int min2_int max_two min_two max_three min_three max_four min_four   -- for this text's walks alone
set_option linter.unusedVariables false
set_option linter.unusedSimpArgs false

mutual
def spec_l6Number.j0 : Nat → ByteArray → Bool → Option (Int)
  | 0, _, _ => none
  | k + 1, x0, x12 => if x12 = true then (some (-1)) else (spec_l6Number.l0 k x0 0 0)
def spec_l6Number.l0 : Nat → ByteArray → Int → Int → Option (Int)
  | 0, _, _, _ => none
  | k + 1, x0, x3, x4 => if x4 < (x0.size : Int) then (if 0 ≤ x4 then (spec_l6Number.l0 k x0 (wrap64 ((wrap64 (10 * x3)) + (((bt x0 x4) - 48) % 256))) (wrap64 (x4 + 1))) else (none)) else (some x3)
end
def spec_l6Number.f (k : Nat) (a0 : ByteArray) : Option (Int) := if (a0.size : Int) > 6 then (spec_l6Number.j0 k a0 true) else ((spec_l1Digits.f k a0).bind fun t101 => (spec_l6Number.j0 k a0 (!t101)))
set_option maxHeartbeats 8000000 in
set_option maxRecDepth 100000 in
theorem spec_l6Number.calls (k : Nat) (a0 : ByteArray) (r : Int) (w : World) (h : spec_l6Number.f k a0 = some r) :
    Calls Tryd.prog 26 #[.string a0] w fun e w' => e = .returned (.int .i64 r) ∧ Drawn0 w w' := by
  have H : (if (a0.size : Int) > 6 then (spec_l6Number.j0 k a0 true) else ((spec_l1Digits.f k a0).bind fun t101 => (spec_l6Number.j0 k a0 (!t101)))) = some r := h
  clear h
  have HC2 := Aside0.mk H
  clear H
  go_enter Tryd.func26, Tryd.ntmps26
  go_upto_region 1 with (fail)
  go_cut [12] (fun v12 wc => ∃ (kq : Nat) (x12_1 : Bool), v12 = .bool x12_1 ∧ Aside0 (spec_l6Number.j0 kq a0 x12_1 = some r) ∧ Aside0 (kq ≤ k) ∧ Drawn0 w wc)
  case first =>
    have H := HC2.out
    clear HC2
    by_cases c3 : (a0.size : Int) > 6
    · rw [if_pos c3] at H
      have c3b0 : decide (6 < (a0.size : Int)) = true := decide_eq_true c3
      have c3b1 : decide (6 < a0.size) = true := decide_eq_true (by omega)
      clear c3
      (first | rw [c3b0] | (simp only [i64_w, i32_w]; rw [c3b0]) | skip)
      have H' := Aside0.mk H
      clear H
      go_wp2
      go_meet
      case rel => exact ⟨_, (true), (by first | rfl | (simp; done) | (simp [*]; done)), H', ⟨by first | omega | exact Nat.le_refl _⟩, by repeat (first | exact Drawn0.refl _ | apply Drawn0.step)⟩
    · rw [if_neg c3] at H
      have c3b0 : decide (6 < (a0.size : Int)) = false := decide_eq_false c3
      have c3b1 : decide (6 < a0.size) = false := decide_eq_false (by omega)
      clear c3
      (first | rw [c3b0] | (simp only [i64_w, i32_w]; rw [c3b0]) | skip)
      replace H := Option.bind_eq_some_iff.mp H
      obtain ⟨t101, A40, H⟩ := H
      replace H : (spec_l6Number.j0 k a0 (!t101)) = some r := H
      have A4 := Aside0.mk A40
      clear A40
      have H' := Aside0.mk H
      clear H
      go_wp2_with (first | (go_at_call 36; (with_reducible refine (spec_l1Digits.calls k a0 t101 _ A4.out).mono ?_); rintro e w' ⟨rfl, ⟨nd, rfl⟩⟩))
      go_meet
      case rel => exact ⟨_, (!t101), (by first | rfl | (simp; done) | (simp [*]; done)), H', ⟨by first | omega | exact Nat.le_refl _⟩, by repeat (first | exact Drawn0.refl _ | apply Drawn0.step)⟩
  case rest =>
    clear HC2
    try clear c2
    try clear p2
    try clear c3
    try clear c3b0
    try clear c3b1
    obtain ⟨kq, x12_1, rfl, HA, HJ1, ⟨mc1, rfl⟩⟩ := hcut
    cases kq with
    | zero => exact absurd HA.out (by simp [spec_l6Number.j0])
    | succ kj1 =>
      have H := HA.out
      clear HA
      simp only [spec_l6Number.j0] at H
      by_cases c5 : x12_1 = true
      · subst c5
        have H1 : (some (-1)) = some r := by rw [if_pos rfl] at H; exact H
        clear H
        have H := H1
        clear H1
        obtain rfl := Option.some.inj H
        go_wp2
        go_ret
        exact ⟨by first | rfl | (simp; done) | (simp [*]; done), by repeat (first | exact Drawn0.refl _ | apply Drawn0.step)⟩
      · replace c5 := Bool.eq_false_iff.mpr c5
        subst c5
        have H1 : (spec_l6Number.l0 kj1 a0 0 0) = some r := by rw [if_neg (show ¬ (false = true) by decide)] at H; exact H
        clear H
        have H := H1
        clear H1
        have H' := Aside0.mk H
        clear H
        go_wp2
        go_loopg [3, 4] kj1 (fun kq v3 v4 w' => ∃ (x3_2 : Int) (x4_2 : Int), v3 = .int .i64 x3_2 ∧ v4 = .int .i64 x4_2 ∧ Aside0 (spec_l6Number.l0 kq a0 x3_2 x4_2 = some r) ∧ Aside0 (kq ≤ kj1) ∧ Drawn0 w w')
        case atStart => exact ⟨(0), (0), (by first | rfl | (simp; done) | (simp [*]; done)), (by first | rfl | (simp; done) | (simp [*]; done)), H', ⟨Nat.le_refl _⟩, by repeat (first | exact Drawn0.refl _ | apply Drawn0.step)⟩
        case round =>
          clear H'
          try clear c1
          try clear c2
          try clear p2
          try clear c3
          try clear c3b0
          try clear c3b1
          try clear c5
          try clear p2
          obtain ⟨x3_2, x4_2, rfl, rfl, HA, HK2, ⟨m2, rfl⟩⟩ := hrel
          cases gk with
          | zero => exact absurd HA.out (by simp [spec_l6Number.l0])
          | succ k2 =>
            have H := HA.out
            clear HA
            simp only [spec_l6Number.l0] at H
            by_cases c6 : x4_2 < (a0.size : Int)
            · rw [if_pos c6] at H
              have c6b0 : decide (x4_2 < (a0.size : Int)) = true := decide_eq_true c6
              clear c6
              by_cases c7 : 0 ≤ x4_2
              · rw [if_pos c7] at H
                have c7b0 : decide (0 ≤ x4_2) = true := decide_eq_true c7
                clear c7
                have H' := Aside0.mk H
                clear H
                have p8 : 0 ≤ (x4_2 : Int) := of_decide_eq_true (by first | (with_reducible assumption) | assumption)
                have q8 : x4_2 < (a0.size : Int) := of_decide_eq_true (by first | (with_reducible assumption) | assumption)
                have hx8 := bt_at a0 x4_2
                replace p8 := eq_true p8
                replace q8 := eq_true q8
                go_wp2
                go_roundg k2
                case measure => have := HJ1.out; have := HK2.out; omega
                case rel => exact ⟨(wrap64 ((wrap64 (10 * x3_2)) + (((bt a0 x4_2) - 48) % 256))), (wrap64 (x4_2 + 1)), (by first | rfl | (simp; done) | (simp [*]; done)), (by first | rfl | (simp; done) | (simp [*]; done)), H', ⟨by have := HJ1.out; have := HK2.out; omega⟩, by repeat (first | exact Drawn0.refl _ | apply Drawn0.step)⟩
              · rw [if_neg c7] at H
                exact absurd H (by simp)
            · rw [if_neg c6] at H
              have c6b0 : decide (x4_2 < (a0.size : Int)) = false := decide_eq_false c6
              clear c6
              obtain rfl := Option.some.inj H
              go_wp2
              go_ret
              exact ⟨by first | rfl | (simp; done) | (simp [*]; done), by repeat (first | exact Drawn0.refl _ | apply Drawn0.step)⟩

end Go.Proofs.YtlkgimnafnmgpaaDoor.G

namespace Go.Proofs.YtlkgimnafnmgpaaDoor.G
open Go.RowKit Go.Proofs.YtlkgimnafnmgpaaDoorW.PrintWords Go.Proofs.YtlkgimnafnmgpaaDoorW.PrintLast Go.Proofs.YtlkgimnafnmgpaaDoorW.PrintMore
attribute [local go_sem] max2_int min2_int max_two min_two max_three min_three max_four min_four   -- for this text's walks alone
set_option linter.unusedVariables false
set_option linter.unusedSimpArgs false

def spec_l1In.f (a0 : Int) (a1 : Int) (a2 : Int) : Option (Bool) := if a0 ≥ a1 then (some (decide (a0 ≤ a2))) else (some false)
set_option maxHeartbeats 8000000 in
set_option maxRecDepth 100000 in
theorem spec_l1In.calls (a0 : Int) (a1 : Int) (a2 : Int) (r : Bool) (w : World) (h : spec_l1In.f a0 a1 a2 = some r) :
    Calls Tryd.prog 16 #[.int .i64 a0, .int .i64 a1, .int .i64 a2] w fun e w' => e = .returned (.bool r) ∧ Drawn0 w w' := by
  have H : (if a0 ≥ a1 then (some (decide (a0 ≤ a2))) else (some false)) = some r := h
  clear h
  by_cases c4 : a0 ≥ a1
  · rw [if_pos c4] at H
    have c4b0 : decide (a1 ≤ a0) = true := decide_eq_true c4
    clear c4
    obtain rfl := Option.some.inj H
    go_enter Tryd.func16, Tryd.ntmps16
    go_wp2
    go_ret
    exact ⟨by first | rfl | (simp; done) | (simp [*]; done), by repeat (first | exact Drawn0.refl _ | apply Drawn0.step)⟩
  · rw [if_neg c4] at H
    have c4b0 : decide (a1 ≤ a0) = false := decide_eq_false c4
    clear c4
    obtain rfl := Option.some.inj H
    go_enter Tryd.func16, Tryd.ntmps16
    go_wp2
    go_ret
    exact ⟨by first | rfl | (simp; done) | (simp [*]; done), by repeat (first | exact Drawn0.refl _ | apply Drawn0.step)⟩

end Go.Proofs.YtlkgimnafnmgpaaDoor.G

namespace Go.Proofs.YtlkgimnafnmgpaaDoor.G
open Go.RowKit Go.Proofs.YtlkgimnafnmgpaaDoorW.PrintWords Go.Proofs.YtlkgimnafnmgpaaDoorW.PrintLast Go.Proofs.YtlkgimnafnmgpaaDoorW.PrintMore
attribute [local go_sem] max2_int min2_int max_two min_two max_three min_three max_four min_four   -- for this text's walks alone
set_option linter.unusedVariables false
set_option linter.unusedSimpArgs false

def spec_l1Num.f : Nat → Int → Option (ByteArray)
  | 0, _ => none
  | k + 1, a0 => if a0 < 0 then (if a0 = (-9223372036854775808) then (some (⟨#[45, 57, 50, 50, 51, 51, 55, 50, 48, 51, 54, 56, 53, 52, 55, 55, 53, 56, 48, 56]⟩ : ByteArray)) else ((spec_l1Num.f k (wrap64 (-a0))).bind fun t101 => (if 1 + t101.size ≤ 9223372036854775807 then (some ((⟨#[45]⟩ : ByteArray) ++ t101)) else (none)))) else (if a0 < 10 then (some (strOfNums (([(wrap64 (48 + a0)) % 256] : List Int)))) else ((spec_l1Num.f k (wrap64 (Int.tdiv a0 10))).bind fun t105 => ((some (([(wrap64 (48 + (Int.tmod a0 10))) % 256] : List Int) : List Int)).bind fun y106 => (if t105.size + (strOfNums y106).size ≤ 9223372036854775807 then (some (t105 ++ (strOfNums y106))) else (none)))))
def spec_l1Num.T7 : Bool × List (List Nat × List Nat) := (true, [([], []), ([0], [0]), ([1], [1]), ([], []), ([3], [3]), ([4], [4]), ([5], [5]), ([6], [6]), ([7], [7]), ([2, 8], [2, 8]), ([9, 2, 0, 1, 2, 3, 4, 5, 6, 7, 8, 9], [9])])
def spec_l1Num.B7 : List Nat := [0, 1, 3, 0, 8, 24, 56, 120, 248, 511, 1023]
theorem spec_l1Num.tab7 : rtab .any (opsOf Tryd.f31 7) = spec_l1Num.T7 := by kernel_rfl
theorem spec_l1Num.bits7 : waitsOk spec_l1Num.T7.2 spec_l1Num.B7 = true := by kernel_rfl
set_option maxHeartbeats 8000000 in
set_option maxRecDepth 100000 in
theorem spec_l1Num.calls (k : Nat) : ∀ (a0 : Int) (r : ByteArray) (w : World) (h : spec_l1Num.f k a0 = some r),
    Calls Tryd.prog 31 #[.int .i64 a0] w fun e w' => e = .returned (.string r) ∧ Below w.heap.size w w' := by
  induction k using Nat.strongRecOn with
  | _ k ih =>
  intro a0 r w h
  cases k with
  | zero => exact absurd h (by simp [spec_l1Num.f])
  | succ k =>
  simp only [spec_l1Num.f] at h
  have HB := Aside0.mk (Below.refl w.heap.size w)
  have H : (if a0 < 0 then (if a0 = (-9223372036854775808) then (some (⟨#[45, 57, 50, 50, 51, 51, 55, 50, 48, 51, 54, 56, 53, 52, 55, 55, 53, 56, 48, 56]⟩ : ByteArray)) else ((spec_l1Num.f k (wrap64 (-a0))).bind fun t101 => (if 1 + t101.size ≤ 9223372036854775807 then (some ((⟨#[45]⟩ : ByteArray) ++ t101)) else (none)))) else (if a0 < 10 then (some (strOfNums (([(wrap64 (48 + a0)) % 256] : List Int)))) else ((spec_l1Num.f k (wrap64 (Int.tdiv a0 10))).bind fun t105 => ((some (([(wrap64 (48 + (Int.tmod a0 10))) % 256] : List Int) : List Int)).bind fun y106 => (if t105.size + (strOfNums y106).size ≤ 9223372036854775807 then (some (t105 ++ (strOfNums y106))) else (none)))))) = some r := h
  clear h
  by_cases c2 : a0 < 0
  · rw [if_pos c2] at H
    have c2b0 : decide (a0 < 0) = true := decide_eq_true c2
    clear c2
    by_cases c3 : a0 = (-9223372036854775808)
    · rw [if_pos c3] at H
      have c3b0 : (a0 == (-9223372036854775808)) = true := beq_iff_eq.mpr c3
      have c3b1 : (a0 != (-9223372036854775808)) = false := bne_eq_false_iff_eq.mpr c3
      clear c3
      obtain rfl := Option.some.inj H
      go_enter Tryd.func31, Tryd.ntmps31
      go_wp2
      go_ret
      exact ⟨by first | rfl | (simp [errW_none, errW_some] <;> rfl) | (simp [*, errW_none, errW_some] <;> rfl), by repeat (first | (with_reducible first | exact HB.out | apply below_alloc | apply pw_below_drewN | apply below_drew1) | exact HB.out)⟩
    · rw [if_neg c3] at H
      have c3b0 : (a0 == (-9223372036854775808)) = false := beq_eq_false_iff_ne.mpr c3
      have c3b1 : (a0 != (-9223372036854775808)) = true := bne_iff_ne.mpr c3
      replace H := Option.bind_eq_some_iff.mp H
      obtain ⟨t101, A40, H⟩ := H
      replace H : (if 1 + t101.size ≤ 9223372036854775807 then (some ((⟨#[45]⟩ : ByteArray) ++ t101)) else (none)) = some r := H
      have A4 := Aside0.mk A40
      clear A40
      by_cases c5 : 1 + t101.size ≤ 9223372036854775807
      · rw [if_pos c5] at H
        have c5b0 := eq_true c5
        have c5b1 : decide (1 + t101.size ≤ 9223372036854775807) = true := decide_eq_true c5
        try have c5b2 : (9223372036854775807 < 1 + t101.size) = False := eq_false (Nat.not_lt.2 c5)
        obtain rfl := Option.some.inj H
        go_enter Tryd.func31, Tryd.ntmps31
        go_wp2_with (first | ((with_reducible refine gate_callee (f := 31) rfl ?_); refine goesL_ (some 9) rfl rfl Tryd.func31 (by kernel_rfl) rfl #[.int .i64 (wrap64 (-a0))] rfl (by (try simp only [List.map_toArray, List.map_cons, List.map_nil]); first | done | rfl | (simp only [List.length_drop, List.length_take]; rfl)) ?_; (with_reducible refine (ih k (by omega) (wrap64 (-a0)) t101 _ A4.out).mono ?_); rintro e w6 ⟨rfl, hb⟩; refine ⟨_, rfl, ?_⟩; have n0_ := Aside0.mk (below_step (by repeat (first | (with_reducible first | exact HB.out | apply below_alloc | apply pw_below_drewN | apply below_drew1) | exact HB.out)) hb); clear HB; have HB := n0_; clear n0_; (try clear hb); (try clear hb2); (try clear hk); (try clear hi)))
        go_ret
        exact ⟨by first | rfl | (simp [errW_none, errW_some] <;> rfl) | (simp [*, errW_none, errW_some] <;> rfl), by repeat (first | (with_reducible first | exact HB.out | apply below_alloc | apply pw_below_drewN | apply below_drew1) | exact HB.out)⟩
      · rw [if_neg c5] at H
        exact absurd H (by simp)
  · rw [if_neg c2] at H
    have c2b0 : decide (a0 < 0) = false := decide_eq_false c2
    clear c2
    by_cases c7 : a0 < 10
    · rw [if_pos c7] at H
      have c7b0 : decide (a0 < 10) = true := decide_eq_true c7
      clear c7
      obtain ⟨y102, hy102⟩ : ∃ y_ : List Int, y_ = (([(wrap64 (48 + a0)) % 256] : List Int)) := ⟨_, rfl⟩
      replace H : (some (strOfNums y102)) = some r := by first | (rw [hy102]; with_reducible exact H) | (have H2_ := (Option.bind_some _ _).symm.trans H; rw [hy102]; with_reducible exact H2_) | (have H2_ := (Option.bind_some _ _).symm.trans H; with_reducible exact H2_) | with_reducible exact H | (rw [hy102]; exact H) | exact H
      have Ny102 := Aside0.mk hy102
      clear hy102
      obtain rfl := Option.some.inj H
      go_enter Tryd.func31, Tryd.ntmps31
      go_wp2_with (first | ((with_reducible refine gate_dst (N := 16) rfl ?_); refine Kd.R_lit (Kd.int .u8) _ 5 ?hg (N := 16) ?hd (xs := ([(wrap64 (48 + a0)) % 256] : List Int)) (inner := [.int .u8 ((wrap64 (48 + a0)) % 256)]) (ok := fun _ => True) (okp := fun _ => True) ?hr ?hp (fun _ hk => hk) trivial (Below.refl _ _) (Nat.le_refl _) (by simp) ?_; (case hd => rfl); (case hg => rfl); (case hr => first | (go_simp; done) | (go_simp; rfl)); (case hp => exact (Reps.one (show Kd.M (Kd.int .u8) _ _ _ ((wrap64 (48 + a0)) % 256) [.int .u8 ((wrap64 (48 + a0)) % 256)] from rfl) (Reps.none _ _))); intro v103 w8 ho9 hb hg_ hnew_; clear hg_ hnew_; (first | rw [← Ny102.out] at ho9 | (simp only [Int.reduceToNat] at ho9; rw [← Ny102.out] at ho9)); have n0_ := Aside0.mk (Kd.R_lower ho9 (below_size (by repeat (first | (with_reducible first | exact HB.out | apply below_alloc | apply pw_below_drewN | apply below_drew1) | exact HB.out)))); have n1_ := Aside0.mk (below_step (by repeat (first | (with_reducible first | exact HB.out | apply below_alloc | apply pw_below_drewN | apply below_drew1) | exact HB.out)) hb); clear HB; have HO104 := n0_; have HB := n1_; clear n0_ n1_; clear hb ho9; have hcv10 := own_string (P := Tryd.prog) Tryd.underlying46 Tryd.underlying5 Tryd.underlying9 (Kd.own_of_R HO104.out)))
      go_ret
      exact ⟨by first | rfl | (simp [errW_none, errW_some] <;> rfl) | (simp [*, errW_none, errW_some] <;> rfl), by repeat (first | (with_reducible first | exact HB.out | apply below_alloc | apply pw_below_drewN | apply below_drew1) | exact HB.out)⟩
    · rw [if_neg c7] at H
      have c7b0 : decide (a0 < 10) = false := decide_eq_false c7
      clear c7
      replace H := Option.bind_eq_some_iff.mp H
      obtain ⟨t105, A110, H⟩ := H
      replace H : ((some (([(wrap64 (48 + (Int.tmod a0 10))) % 256] : List Int) : List Int)).bind fun y106 => (if t105.size + (strOfNums y106).size ≤ 9223372036854775807 then (some (t105 ++ (strOfNums y106))) else (none))) = some r := H
      have A11 := Aside0.mk A110
      clear A110
      obtain ⟨y106, hy106⟩ : ∃ y_ : List Int, y_ = (([(wrap64 (48 + (Int.tmod a0 10))) % 256] : List Int)) := ⟨_, rfl⟩
      replace H : (if t105.size + (strOfNums y106).size ≤ 9223372036854775807 then (some (t105 ++ (strOfNums y106))) else (none)) = some r := by first | (rw [hy106]; with_reducible exact H) | (have H2_ := (Option.bind_some _ _).symm.trans H; rw [hy106]; with_reducible exact H2_) | (have H2_ := (Option.bind_some _ _).symm.trans H; with_reducible exact H2_) | with_reducible exact H | (rw [hy106]; exact H) | exact H
      have Ny106 := Aside0.mk hy106
      clear hy106
      by_cases c12 : t105.size + (strOfNums y106).size ≤ 9223372036854775807
      · rw [if_pos c12] at H
        have c12b0 := eq_true c12
        have c12b1 : decide (t105.size + (strOfNums y106).size ≤ 9223372036854775807) = true := decide_eq_true c12
        try have c12b2 : (9223372036854775807 < t105.size + (strOfNums y106).size) = False := eq_false (Nat.not_lt.2 c12)
        obtain rfl := Option.some.inj H
        go_enter Tryd.func31, Tryd.ntmps31
        try go_wp2
        have n0_ := Aside0.mk (below_drew1 HB.out)
        clear HB
        have HB := n0_
        clear n0_
        refine start_ (n := 11) (S := fun w' => True) (ds := []) #[false, false, false, false, false, false, false, false, false, false, false] (by kernel_rfl) rfl rfl trivial (fun hHeld => ?_); refine with_tabW spec_l1Num.tab7 spec_l1Num.bits7 (fun HT_ HW_ => ?_)
        generalize w.drew = w13 at HB hHeld ⊢
        refine pure_ (i := 0) (N := some 18) (v := ?_) (a' := ?_) #[true, false, false, false, false, false, false, false, false, false, false] rfl rfl (any_of HT_.out (by kernel_rfl)) (fun _ _ _ h => h) (Or.inl ⟨by rfl, ?_⟩) ?_ ?_
        rotate_left
        · intro w'
          go_simp
          with_reducible rfl
        rotate_left
        · simp only [Act.put, List.setIfInBounds_toArray, List.set_cons_zero, List.set_cons_succ, i64_w, i32_w]
          rfl
        refine pure_ (i := 1) (N := some 19) (v := ?_) (a' := ?_) #[true, true, false, false, false, false, false, false, false, false, false] rfl rfl (any_of HT_.out (by kernel_rfl)) (fun _ _ _ h => h) (Or.inl ⟨by rfl, ?_⟩) ?_ ?_
        rotate_left
        · intro w'
          go_simp
          with_reducible rfl
        rotate_left
        · simp only [Act.put, List.setIfInBounds_toArray, List.set_cons_zero, List.set_cons_succ, i64_w, i32_w]
          rfl
        refine pure_ (i := 3) (N := some 21) (v := ?_) (a' := ?_) #[true, true, false, true, false, false, false, false, false, false, false] rfl rfl (any_of HT_.out (by kernel_rfl)) (fun _ _ _ h => h) (Or.inl ⟨by rfl, ?_⟩) ?_ ?_
        rotate_left
        · intro w'
          go_simp
          with_reducible rfl
        rotate_left
        · simp only [Act.put, List.setIfInBounds_toArray, List.set_cons_zero, List.set_cons_succ, i64_w, i32_w]
          rfl
        refine pure_ (i := 4) (N := some 22) (v := ?_) (a' := ?_) #[true, true, false, true, true, false, false, false, false, false, false] rfl rfl (any_of HT_.out (by kernel_rfl)) (fun _ _ _ h => h) (Or.inl ⟨by rfl, ?_⟩) ?_ ?_
        rotate_left
        · intro w'
          go_simp
          with_reducible rfl
        rotate_left
        · simp only [Act.put, List.setIfInBounds_toArray, List.set_cons_zero, List.set_cons_succ, i64_w, i32_w]
          rfl
        refine pure_ (i := 5) (N := some 23) (v := ?_) (a' := ?_) #[true, true, false, true, true, true, false, false, false, false, false] rfl rfl (any_of HT_.out (by kernel_rfl)) (fun _ _ _ h => h) (Or.inl ⟨by rfl, ?_⟩) ?_ ?_
        rotate_left
        · intro w'
          go_simp
          with_reducible rfl
        rotate_left
        · simp only [Act.put, List.setIfInBounds_toArray, List.set_cons_zero, List.set_cons_succ, i64_w, i32_w]
          rfl
        refine pure_ (i := 6) (N := some 24) (v := ?_) (a' := ?_) #[true, true, false, true, true, true, true, false, false, false, false] rfl rfl (any_of HT_.out (by kernel_rfl)) (fun _ _ _ h => h) (Or.inl ⟨by rfl, ?_⟩) ?_ ?_
        rotate_left
        · intro w'
          go_simp
          with_reducible rfl
        rotate_left
        · simp only [Act.put, List.setIfInBounds_toArray, List.set_cons_zero, List.set_cons_succ, i64_w, i32_w]
          rfl
        refine join_ (σ := Value) 2 #[true, true, true, true, true, true, true, true, true, false, false] (fun s_ => [(20, .string t105), (25, s_), (26, .string (strOfNums y106))]) (fun s_ w' => (Kd.R (Kd.int .u8) 5 w' w.heap.size (fun _ => True) s_ y106) ∧ (Below w.heap.size w w')) ?_ ?_
        rotate_left
        · intro hCont
          refine two_ (i := 2) (j := 7) (Ni := some 20) (Nj := some 25) #[true, true, true, true, true, true, true, false, false, false, false] #[true, true, false, true, true, true, true, true, false, false, false] rfl rfl rfl rfl (two_of HT_.out (by kernel_rfl)) (by decide) (by decide) (fun K hK => ?_) (fun K hK => ?_)
          · skip
            refine goes_ Tryd.func31 (by kernel_rfl) rfl #[.int .i64 (wrap64 (Int.tdiv a0 10))] (by rfl) rfl rfl (by (try simp only [List.map_toArray, List.map_cons, List.map_nil]); first | done | rfl | (simp only [List.length_drop, List.length_take]; rfl)) ?_
            with_reducible refine (ih k (by omega) (wrap64 (Int.tdiv a0 10)) t105 _ A11.out).mono ?_
            rintro e w14 ⟨rfl, hb⟩
            refine ⟨_, rfl, ?_⟩
            have n0_ := Aside0.mk (below_step (by repeat (first | (with_reducible first | exact HB.out | apply below_alloc | apply pw_below_drewN | apply below_drew1) | exact HB.out)) hb)
            clear HB
            have HB := n0_
            clear n0_
            (try clear hb)
            (try clear hb2)
            (try clear hk)
            (try clear hi)
            refine hK.out _ _ trivial (fun hHeld => ?_)
            clear hK K
            refine norm_ (a' := ?_) ?_ ?_
            rotate_left
            · show Act.put _ (some 20) _ = _
              simp only [Act.put, List.setIfInBounds_toArray, List.set_cons_zero, List.set_cons_succ, i64_w, i32_w]
              rfl
            refine one_ (i := 7) (N := some 25) #[true, true, true, true, true, true, true, true, false, false, false] rfl rfl (one_of HT_.out (by kernel_rfl)) (by decide) (fun K hK => ?_)
            refine Kd.R_lit_step (Kd.int .u8) _ 5 ?hg (N := 25) ?hd (xs := ([(wrap64 (48 + (Int.tmod a0 10))) % 256] : List Int)) (inner := [.int .u8 ((wrap64 (48 + (Int.tmod a0 10))) % 256)]) (ok := fun _ => True) (okp := fun _ => True) ?hr ?hp (fun _ hk => hk) trivial (Below.refl _ _) (Nat.le_refl _) (by simp) ?_; (case hd => rfl); (case hg => rfl); (case hr => first | (go_simp; done) | (go_simp; rfl)); (case hp => exact (Reps.one (show Kd.M (Kd.int .u8) _ _ _ ((wrap64 (48 + (Int.tmod a0 10))) % 256) [.int .u8 ((wrap64 (48 + (Int.tmod a0 10))) % 256)] from rfl) (Reps.none _ _)))
            intro v107 w15 ho16 hb hg_ hnew_
            clear hg_ hnew_
            (first | rw [← Ny106.out] at ho16 | (simp only [Int.reduceToNat] at ho16; rw [← Ny106.out] at ho16))
            have n0_ := Aside0.mk (Kd.R_lower ho16 (below_size (by repeat (first | (with_reducible first | exact HB.out | apply below_alloc | apply pw_below_drewN | apply below_drew1) | exact HB.out))))
            have n1_ := Aside0.mk (below_step (by repeat (first | (with_reducible first | exact HB.out | apply below_alloc | apply pw_below_drewN | apply below_drew1) | exact HB.out)) hb)
            clear HB
            have HO108 := n0_
            have HB := n1_
            clear n0_ n1_
            clear hb ho16
            refine hK.out _ _ trivial (fun hHeld => ?_)
            clear hK K
            refine norm_ (a' := ?_) ?_ ?_
            rotate_left
            · show Act.put _ (some 25) _ = _
              simp only [Act.put, List.setIfInBounds_toArray, List.set_cons_zero, List.set_cons_succ, i64_w, i32_w]
              rfl
            refine one_ (i := 8) (N := some 26) #[true, true, true, true, true, true, true, true, true, false, false] rfl rfl (one_of HT_.out (by kernel_rfl)) (by decide) (fun K hK => ?_)
            have hcv17 := own_string (P := Tryd.prog) Tryd.underlying46 Tryd.underlying5 Tryd.underlying9 (Kd.own_of_R HO108.out)
            refine value_ (w1 := ?_) (v := ?_) (by rfl) rfl ?_ ?_
            rotate_left 2
            · go_simp
              constructor
              · rfl
              · rfl
            clear hcv17
            refine hK.out _ _ trivial (fun hHeld => ?_)
            clear hK K
            refine norm_ (a' := ?_) ?_ ?_
            rotate_left
            · show Act.put _ (some 26) _ = _
              simp only [Act.put, List.setIfInBounds_toArray, List.set_cons_zero, List.set_cons_succ, i64_w, i32_w]
              rfl
            exact norm_ (by simp only [putAll, Act.put, List.setIfInBounds_toArray, List.set_cons_zero, List.set_cons_succ]) (hCont (v107) _ ⟨(by (with_reducible repeat (first | apply Kd.R_alloc | apply Kd.R_drewN | apply Kd.R_drew)); exact HO108.out), (by repeat (first | (with_reducible first | exact HB.out | apply below_alloc | apply pw_below_drewN | apply below_drew1) | exact HB.out))⟩)
          · skip
            refine Kd.R_lit_step (Kd.int .u8) _ 5 ?hg (N := 25) ?hd (xs := ([(wrap64 (48 + (Int.tmod a0 10))) % 256] : List Int)) (inner := [.int .u8 ((wrap64 (48 + (Int.tmod a0 10))) % 256)]) (ok := fun _ => True) (okp := fun _ => True) ?hr ?hp (fun _ hk => hk) trivial (Below.refl _ _) (Nat.le_refl _) (by simp) ?_; (case hd => rfl); (case hg => rfl); (case hr => first | (go_simp; done) | (go_simp; rfl)); (case hp => exact (Reps.one (show Kd.M (Kd.int .u8) _ _ _ ((wrap64 (48 + (Int.tmod a0 10))) % 256) [.int .u8 ((wrap64 (48 + (Int.tmod a0 10))) % 256)] from rfl) (Reps.none _ _)))
            intro v107 w14 ho15 hb hg_ hnew_
            clear hg_ hnew_
            (first | rw [← Ny106.out] at ho15 | (simp only [Int.reduceToNat] at ho15; rw [← Ny106.out] at ho15))
            have n0_ := Aside0.mk (Kd.R_lower ho15 (below_size (by repeat (first | (with_reducible first | exact HB.out | apply below_alloc | apply pw_below_drewN | apply below_drew1) | exact HB.out))))
            have n1_ := Aside0.mk (below_step (by repeat (first | (with_reducible first | exact HB.out | apply below_alloc | apply pw_below_drewN | apply below_drew1) | exact HB.out)) hb)
            clear HB
            have HO108 := n0_
            have HB := n1_
            clear n0_ n1_
            clear hb ho15
            refine hK.out _ _ trivial (fun hHeld => ?_)
            clear hK K
            refine norm_ (a' := ?_) ?_ ?_
            rotate_left
            · show Act.put _ (some 25) _ = _
              simp only [Act.put, List.setIfInBounds_toArray, List.set_cons_zero, List.set_cons_succ, i64_w, i32_w]
              rfl
            refine two_ (i := 2) (j := 8) (Ni := some 20) (Nj := some 26) #[true, true, true, true, true, true, true, true, false, false, false] #[true, true, false, true, true, true, true, true, true, false, false] rfl rfl rfl rfl (two_of HT_.out (by kernel_rfl)) (by decide) (by decide) (fun K hK => ?_) (fun K hK => ?_)
            · skip
              refine goes_ Tryd.func31 (by kernel_rfl) rfl #[.int .i64 (wrap64 (Int.tdiv a0 10))] (by rfl) rfl rfl (by (try simp only [List.map_toArray, List.map_cons, List.map_nil]); first | done | rfl | (simp only [List.length_drop, List.length_take]; rfl)) ?_
              with_reducible refine (ih k (by omega) (wrap64 (Int.tdiv a0 10)) t105 _ A11.out).mono ?_
              rintro e w16 ⟨rfl, hb⟩
              refine ⟨_, rfl, ?_⟩
              have n0_ := Aside0.mk (Kd.R_below (by (with_reducible repeat (first | apply Kd.R_alloc | apply Kd.R_drewN | apply Kd.R_drew)); exact HO108.out) hb)
              have n1_ := Aside0.mk (below_step (by repeat (first | (with_reducible first | exact HB.out | apply below_alloc | apply pw_below_drewN | apply below_drew1) | exact HB.out)) hb)
              clear HO108
              clear HB
              have HO108 := n0_
              have HB := n1_
              clear n0_ n1_
              (try clear hb)
              (try clear hb2)
              (try clear hk)
              (try clear hi)
              refine hK.out _ _ trivial (fun hHeld => ?_)
              clear hK K
              refine norm_ (a' := ?_) ?_ ?_
              rotate_left
              · show Act.put _ (some 20) _ = _
                simp only [Act.put, List.setIfInBounds_toArray, List.set_cons_zero, List.set_cons_succ, i64_w, i32_w]
                rfl
              refine one_ (i := 8) (N := some 26) #[true, true, true, true, true, true, true, true, true, false, false] rfl rfl (one_of HT_.out (by kernel_rfl)) (by decide) (fun K hK => ?_)
              have hcv17 := own_string (P := Tryd.prog) Tryd.underlying46 Tryd.underlying5 Tryd.underlying9 (Kd.own_of_R HO108.out)
              refine value_ (w1 := ?_) (v := ?_) (by rfl) rfl ?_ ?_
              rotate_left 2
              · go_simp
                constructor
                · rfl
                · rfl
              clear hcv17
              refine hK.out _ _ trivial (fun hHeld => ?_)
              clear hK K
              refine norm_ (a' := ?_) ?_ ?_
              rotate_left
              · show Act.put _ (some 26) _ = _
                simp only [Act.put, List.setIfInBounds_toArray, List.set_cons_zero, List.set_cons_succ, i64_w, i32_w]
                rfl
              exact norm_ (by simp only [putAll, Act.put, List.setIfInBounds_toArray, List.set_cons_zero, List.set_cons_succ]) (hCont (v107) _ ⟨(by (with_reducible repeat (first | apply Kd.R_alloc | apply Kd.R_drewN | apply Kd.R_drew)); exact HO108.out), (by repeat (first | (with_reducible first | exact HB.out | apply below_alloc | apply pw_below_drewN | apply below_drew1) | exact HB.out))⟩)
            · skip
              have hcv16 := own_string (P := Tryd.prog) Tryd.underlying46 Tryd.underlying5 Tryd.underlying9 (Kd.own_of_R HO108.out)
              refine value_ (w1 := ?_) (v := ?_) (by rfl) rfl ?_ ?_
              rotate_left 2
              · go_simp
                constructor
                · rfl
                · rfl
              clear hcv16
              refine hK.out _ _ trivial (fun hHeld => ?_)
              clear hK K
              refine norm_ (a' := ?_) ?_ ?_
              rotate_left
              · show Act.put _ (some 26) _ = _
                simp only [Act.put, List.setIfInBounds_toArray, List.set_cons_zero, List.set_cons_succ, i64_w, i32_w]
                rfl
              refine one_ (i := 2) (N := some 20) #[true, true, true, true, true, true, true, true, true, false, false] rfl rfl (one_of HT_.out (by kernel_rfl)) (by decide) (fun K hK => ?_)
              refine goes_ Tryd.func31 (by kernel_rfl) rfl #[.int .i64 (wrap64 (Int.tdiv a0 10))] (by rfl) rfl rfl (by (try simp only [List.map_toArray, List.map_cons, List.map_nil]); first | done | rfl | (simp only [List.length_drop, List.length_take]; rfl)) ?_
              with_reducible refine (ih k (by omega) (wrap64 (Int.tdiv a0 10)) t105 _ A11.out).mono ?_
              rintro e w17 ⟨rfl, hb⟩
              refine ⟨_, rfl, ?_⟩
              have n0_ := Aside0.mk (Kd.R_below (by (with_reducible repeat (first | apply Kd.R_alloc | apply Kd.R_drewN | apply Kd.R_drew)); exact HO108.out) hb)
              have n1_ := Aside0.mk (below_step (by repeat (first | (with_reducible first | exact HB.out | apply below_alloc | apply pw_below_drewN | apply below_drew1) | exact HB.out)) hb)
              clear HO108
              clear HB
              have HO108 := n0_
              have HB := n1_
              clear n0_ n1_
              (try clear hb)
              (try clear hb2)
              (try clear hk)
              (try clear hi)
              refine hK.out _ _ trivial (fun hHeld => ?_)
              clear hK K
              refine norm_ (a' := ?_) ?_ ?_
              rotate_left
              · show Act.put _ (some 20) _ = _
                simp only [Act.put, List.setIfInBounds_toArray, List.set_cons_zero, List.set_cons_succ, i64_w, i32_w]
                rfl
              exact norm_ (by simp only [putAll, Act.put, List.setIfInBounds_toArray, List.set_cons_zero, List.set_cons_succ]) (hCont (v107) _ ⟨(by (with_reducible repeat (first | apply Kd.R_alloc | apply Kd.R_drewN | apply Kd.R_drew)); exact HO108.out), (by repeat (first | (with_reducible first | exact HB.out | apply below_alloc | apply pw_below_drewN | apply below_drew1) | exact HB.out))⟩)
        rintro v107 w18 ⟨h0_, h1_⟩
        have n0_ : Aside0 (Kd.R (Kd.int .u8) 5 w18 w.heap.size (fun _ => True) v107 y106) := ⟨h0_⟩
        have n1_ : Aside0 (Below w.heap.size w w18) := ⟨h1_⟩
        clear HB
        clear h0_ h1_
        have HO108 := n0_
        have HB := n1_
        clear n0_ n1_
        have hHeld := trivial
        refine norm_ (a' := ?_) ?_ ?_
        rotate_left
        · simp only [putAll, Act.put, List.setIfInBounds_toArray, List.set_cons_zero, List.set_cons_succ]
          rfl
        refine pure_ (i := 9) (N := some 27) (v := ?_) (a' := ?_) #[true, true, true, true, true, true, true, true, true, true, false] rfl rfl (any_of HT_.out (by kernel_rfl)) (fun _ _ _ h => h) (Or.inl ⟨by rfl, ?_⟩) ?_ ?_
        rotate_left
        · intro w'
          go_simp
          with_reducible rfl
        rotate_left
        · simp only [Act.put, List.setIfInBounds_toArray, List.set_cons_zero, List.set_cons_succ, i64_w, i32_w]
          rfl
        refine pure_ (i := 10) (N := some 2) (v := ?_) (a' := ?_) #[true, true, true, true, true, true, true, true, true, true, true] rfl rfl (any_of HT_.out (by kernel_rfl)) (fun _ _ _ h => h) (Or.inl ⟨by rfl, ?_⟩) ?_ ?_
        rotate_left
        · intro w'
          go_simp
          with_reducible rfl
        rotate_left
        · simp only [Act.put, List.setIfInBounds_toArray, List.set_cons_zero, List.set_cons_succ, i64_w, i32_w]
          rfl
        refine done_ (done_of HT_.out (by kernel_rfl)) ?_
        try go_wp2
        go_ret
        exact ⟨by first | rfl | (simp [errW_none, errW_some] <;> rfl) | (simp [*, errW_none, errW_some] <;> rfl), by repeat (first | (with_reducible first | exact HB.out | apply below_alloc | apply pw_below_drewN | apply below_drew1) | exact HB.out)⟩
      · rw [if_neg c12] at H
        exact absurd H (by simp)

end Go.Proofs.YtlkgimnafnmgpaaDoor.G

namespace Go.Proofs.YtlkgimnafnmgpaaDoor.G
open Go.RowKit Go.Proofs.YtlkgimnafnmgpaaDoorW.PrintWords Go.Proofs.YtlkgimnafnmgpaaDoorW.PrintLast Go.Proofs.YtlkgimnafnmgpaaDoorW.PrintMore
attribute [local go_sem] max2_int min2_int max_two min_two max_three min_three max_four min_four   -- for this text's walks alone
set_option linter.unusedVariables false
set_option linter.unusedSimpArgs false

def spec_l6Text.l0 : Nat → ByteArray → List (S37) → Int → Int → Option (ByteArray)
  | 0, _, _, _, _ => none
  | k + 1, x3, x6, x7, x8 => if x8 < x7 then (if 0 ≤ x8 then (if x8 < (x6.length : Int) then ((spec_l1Num.f k ((rd_T37 x6 x8).f0)).bind fun t103 => (if t103.size + 1 ≤ 9223372036854775807 then ((spec_l1Num.f k ((rd_T37 x6 x8).f1)).bind fun t104 => (if (t103 ++ (⟨#[32]⟩ : ByteArray)).size + t104.size ≤ 9223372036854775807 then (if ((t103 ++ (⟨#[32]⟩ : ByteArray)) ++ t104).size + 1 ≤ 9223372036854775807 then (if (((t103 ++ (⟨#[32]⟩ : ByteArray)) ++ t104) ++ (⟨#[32]⟩ : ByteArray)).size + ((rd_T37 x6 x8).f2).size ≤ 9223372036854775807 then (if ((((t103 ++ (⟨#[32]⟩ : ByteArray)) ++ t104) ++ (⟨#[32]⟩ : ByteArray)) ++ ((rd_T37 x6 x8).f2)).size + 1 ≤ 9223372036854775807 then (if x3.size + (((((t103 ++ (⟨#[32]⟩ : ByteArray)) ++ t104) ++ (⟨#[32]⟩ : ByteArray)) ++ ((rd_T37 x6 x8).f2)) ++ (⟨#[10]⟩ : ByteArray)).size ≤ 9223372036854775807 then (spec_l6Text.l0 k (x3 ++ (((((t103 ++ (⟨#[32]⟩ : ByteArray)) ++ t104) ++ (⟨#[32]⟩ : ByteArray)) ++ ((rd_T37 x6 x8).f2)) ++ (⟨#[10]⟩ : ByteArray))) x6 x7 (wrap64 (x8 + 1))) else (none)) else (none)) else (none)) else (none)) else (none))) else (none))) else (none)) else (none)) else (some x3)
def spec_l6Text.f (k : Nat) (l0 : List (S37)) : Option (ByteArray) := spec_l6Text.l0 k (⟨#[]⟩ : ByteArray) l0 (l0.length : Int) 0
def spec_l6Text.T5 : Bool × List (List Nat × List Nat) := (true, [([], []), ([], []), ([1], [1]), ([2], [2]), ([3], [3]), ([], []), ([5], [5]), ([6, 3], [6]), ([4, 7], [4, 7]), ([8], [8]), ([], []), ([10], [10]), ([9, 11], [9, 11]), ([12], [12]), ([0, 13], [0, 13]), ([14, 7, 0, 1, 2, 3, 4, 5, 6, 7, 8, 9, 10, 11, 12, 13, 14], [0, 14])])
def spec_l6Text.B5 : List Nat := [0, 0, 2, 6, 14, 0, 32, 110, 254, 510, 0, 1024, 4094, 8190, 16383, 32767]
theorem spec_l6Text.tab5 : rtab .any (opsOf Tryd.f17 5) = spec_l6Text.T5 := by kernel_rfl
theorem spec_l6Text.bits5 : waitsOk spec_l6Text.T5.2 spec_l6Text.B5 = true := by kernel_rfl
set_option maxHeartbeats 8000000 in
set_option maxRecDepth 100000 in
theorem spec_l6Text.calls (k : Nat) (A0 : Option Addr) (c0 : Nat) (l0 : List (S37)) (r : ByteArray) (w : World) (hr0 : Kd.C k37 w A0 l0.length l0) (hc0 : l0.length ≤ c0) (h : spec_l6Text.f k l0 = some r) :
    Calls Tryd.prog 17 #[.slice A0 l0.length c0] w fun e w' => e = .returned (.string r) ∧ Below w.heap.size w w' := by
  have hu37 := Tryd.underlying37
  have HR0 := Aside0.mk hr0
  have HC0 := Aside0.mk hc0
  clear hr0 hc0
  have HB := Aside0.mk (Below.refl w.heap.size w)
  have H : (spec_l6Text.l0 k (⟨#[]⟩ : ByteArray) l0 (l0.length : Int) 0) = some r := h
  clear h
  have H' := Aside0.mk H
  clear H
  go_enter Tryd.func17, Tryd.ntmps17
  go_wp2
  go_loopg [3, 8] k (fun kq v3 v8 w' => ∃ (x3_1 : ByteArray) (x8_1 : Int), v3 = .string x3_1 ∧ v8 = .int .i64 x8_1 ∧ Aside0 (spec_l6Text.l0 kq x3_1 l0 (l0.length : Int) x8_1 = some r) ∧ Aside0 (kq ≤ k) ∧ Aside0 (Below w.heap.size w w'))
  case atStart => exact ⟨((⟨#[]⟩ : ByteArray)), (0), (by first | rfl | (simp; done) | (simp [*]; done)), (by first | rfl | (simp; done) | (simp [*]; done)), H', ⟨Nat.le_refl _⟩, ⟨by repeat (first | (with_reducible first | exact HB.out | apply below_alloc | apply pw_below_drewN | apply below_drew1) | exact HB.out)⟩⟩
  case round =>
    clear H'
    try clear c1
    obtain ⟨x3_1, x8_1, rfl, rfl, HA, HK1, HB⟩ := hrel
    cases gk with
    | zero => exact absurd HA.out (by simp [spec_l6Text.l0])
    | succ k1 =>
      have H := HA.out
      clear HA
      simp only [spec_l6Text.l0] at H
      by_cases c2 : x8_1 < (l0.length : Int)
      · rw [if_pos c2] at H
        have c2b0 : decide (x8_1 < (l0.length : Int)) = true := decide_eq_true c2
        clear c2
        by_cases c3 : 0 ≤ x8_1
        · rw [if_pos c3] at H
          have c3b0 : decide (0 ≤ x8_1) = true := decide_eq_true c3
          clear c3
          by_cases c4 : x8_1 < (l0.length : Int)
          · rw [if_pos c4] at H
            have c4b0 : decide (x8_1 < (l0.length : Int)) = true := decide_eq_true c4
            clear c4
            replace H := Option.bind_eq_some_iff.mp H
            obtain ⟨t103, A50, H⟩ := H
            replace H : (if t103.size + 1 ≤ 9223372036854775807 then ((spec_l1Num.f k1 ((rd_T37 l0 x8_1).f1)).bind fun t104 => (if (t103 ++ (⟨#[32]⟩ : ByteArray)).size + t104.size ≤ 9223372036854775807 then (if ((t103 ++ (⟨#[32]⟩ : ByteArray)) ++ t104).size + 1 ≤ 9223372036854775807 then (if (((t103 ++ (⟨#[32]⟩ : ByteArray)) ++ t104) ++ (⟨#[32]⟩ : ByteArray)).size + ((rd_T37 l0 x8_1).f2).size ≤ 9223372036854775807 then (if ((((t103 ++ (⟨#[32]⟩ : ByteArray)) ++ t104) ++ (⟨#[32]⟩ : ByteArray)) ++ ((rd_T37 l0 x8_1).f2)).size + 1 ≤ 9223372036854775807 then (if x3_1.size + (((((t103 ++ (⟨#[32]⟩ : ByteArray)) ++ t104) ++ (⟨#[32]⟩ : ByteArray)) ++ ((rd_T37 l0 x8_1).f2)) ++ (⟨#[10]⟩ : ByteArray)).size ≤ 9223372036854775807 then (spec_l6Text.l0 k1 (x3_1 ++ (((((t103 ++ (⟨#[32]⟩ : ByteArray)) ++ t104) ++ (⟨#[32]⟩ : ByteArray)) ++ ((rd_T37 l0 x8_1).f2)) ++ (⟨#[10]⟩ : ByteArray))) l0 (l0.length : Int) (wrap64 (x8_1 + 1))) else (none)) else (none)) else (none)) else (none)) else (none))) else (none)) = some r := H
            have A5 := Aside0.mk A50
            clear A50
            by_cases c6 : t103.size + 1 ≤ 9223372036854775807
            · rw [if_pos c6] at H
              have c6b0 := eq_true c6
              have c6b1 : decide (t103.size + 1 ≤ 9223372036854775807) = true := decide_eq_true c6
              try have c6b2 : (9223372036854775807 < t103.size + 1) = False := eq_false (Nat.not_lt.2 c6)
              replace H := Option.bind_eq_some_iff.mp H
              obtain ⟨t104, A70, H⟩ := H
              replace H : (if (t103 ++ (⟨#[32]⟩ : ByteArray)).size + t104.size ≤ 9223372036854775807 then (if ((t103 ++ (⟨#[32]⟩ : ByteArray)) ++ t104).size + 1 ≤ 9223372036854775807 then (if (((t103 ++ (⟨#[32]⟩ : ByteArray)) ++ t104) ++ (⟨#[32]⟩ : ByteArray)).size + ((rd_T37 l0 x8_1).f2).size ≤ 9223372036854775807 then (if ((((t103 ++ (⟨#[32]⟩ : ByteArray)) ++ t104) ++ (⟨#[32]⟩ : ByteArray)) ++ ((rd_T37 l0 x8_1).f2)).size + 1 ≤ 9223372036854775807 then (if x3_1.size + (((((t103 ++ (⟨#[32]⟩ : ByteArray)) ++ t104) ++ (⟨#[32]⟩ : ByteArray)) ++ ((rd_T37 l0 x8_1).f2)) ++ (⟨#[10]⟩ : ByteArray)).size ≤ 9223372036854775807 then (spec_l6Text.l0 k1 (x3_1 ++ (((((t103 ++ (⟨#[32]⟩ : ByteArray)) ++ t104) ++ (⟨#[32]⟩ : ByteArray)) ++ ((rd_T37 l0 x8_1).f2)) ++ (⟨#[10]⟩ : ByteArray))) l0 (l0.length : Int) (wrap64 (x8_1 + 1))) else (none)) else (none)) else (none)) else (none)) else (none)) = some r := H
              have A7 := Aside0.mk A70
              clear A70
              by_cases c8 : (t103 ++ (⟨#[32]⟩ : ByteArray)).size + t104.size ≤ 9223372036854775807
              · rw [if_pos c8] at H
                have c8b0 := eq_true c8
                have c8b1 : decide ((t103 ++ (⟨#[32]⟩ : ByteArray)).size + t104.size ≤ 9223372036854775807) = true := decide_eq_true c8
                try have c8b2 : (9223372036854775807 < (t103 ++ (⟨#[32]⟩ : ByteArray)).size + t104.size) = False := eq_false (Nat.not_lt.2 c8)
                have c8b3 : (9223372036854775807 < t103.size + 1 + t104.size) = False := by have e := c8b2; simp only [ByteArray.size_append] at e; exact e
                by_cases c9 : ((t103 ++ (⟨#[32]⟩ : ByteArray)) ++ t104).size + 1 ≤ 9223372036854775807
                · rw [if_pos c9] at H
                  have c9b0 := eq_true c9
                  have c9b1 : decide (((t103 ++ (⟨#[32]⟩ : ByteArray)) ++ t104).size + 1 ≤ 9223372036854775807) = true := decide_eq_true c9
                  try have c9b2 : (9223372036854775807 < ((t103 ++ (⟨#[32]⟩ : ByteArray)) ++ t104).size + 1) = False := eq_false (Nat.not_lt.2 c9)
                  have c9b3 : (9223372036854775807 < t103.size + 1 + t104.size + 1) = False := by have e := c9b2; simp only [ByteArray.size_append] at e; exact e
                  by_cases c10 : (((t103 ++ (⟨#[32]⟩ : ByteArray)) ++ t104) ++ (⟨#[32]⟩ : ByteArray)).size + ((rd_T37 l0 x8_1).f2).size ≤ 9223372036854775807
                  · rw [if_pos c10] at H
                    have c10b0 := eq_true c10
                    have c10b1 : decide ((((t103 ++ (⟨#[32]⟩ : ByteArray)) ++ t104) ++ (⟨#[32]⟩ : ByteArray)).size + ((rd_T37 l0 x8_1).f2).size ≤ 9223372036854775807) = true := decide_eq_true c10
                    try have c10b2 : (9223372036854775807 < (((t103 ++ (⟨#[32]⟩ : ByteArray)) ++ t104) ++ (⟨#[32]⟩ : ByteArray)).size + ((rd_T37 l0 x8_1).f2).size) = False := eq_false (Nat.not_lt.2 c10)
                    have c10b3 : (9223372036854775807 < t103.size + 1 + t104.size + 1 + ((rd_T37 l0 x8_1).f2).size) = False := by have e := c10b2; simp only [ByteArray.size_append] at e; exact e
                    by_cases c11 : ((((t103 ++ (⟨#[32]⟩ : ByteArray)) ++ t104) ++ (⟨#[32]⟩ : ByteArray)) ++ ((rd_T37 l0 x8_1).f2)).size + 1 ≤ 9223372036854775807
                    · rw [if_pos c11] at H
                      have c11b0 := eq_true c11
                      have c11b1 : decide (((((t103 ++ (⟨#[32]⟩ : ByteArray)) ++ t104) ++ (⟨#[32]⟩ : ByteArray)) ++ ((rd_T37 l0 x8_1).f2)).size + 1 ≤ 9223372036854775807) = true := decide_eq_true c11
                      try have c11b2 : (9223372036854775807 < ((((t103 ++ (⟨#[32]⟩ : ByteArray)) ++ t104) ++ (⟨#[32]⟩ : ByteArray)) ++ ((rd_T37 l0 x8_1).f2)).size + 1) = False := eq_false (Nat.not_lt.2 c11)
                      have c11b3 : (9223372036854775807 < t103.size + 1 + t104.size + 1 + (rd_T37 l0 x8_1).f2.size + 1) = False := by have e := c11b2; simp only [ByteArray.size_append] at e; exact e
                      by_cases c12 : x3_1.size + (((((t103 ++ (⟨#[32]⟩ : ByteArray)) ++ t104) ++ (⟨#[32]⟩ : ByteArray)) ++ ((rd_T37 l0 x8_1).f2)) ++ (⟨#[10]⟩ : ByteArray)).size ≤ 9223372036854775807
                      · rw [if_pos c12] at H
                        have c12b0 := eq_true c12
                        have c12b1 : decide (x3_1.size + (((((t103 ++ (⟨#[32]⟩ : ByteArray)) ++ t104) ++ (⟨#[32]⟩ : ByteArray)) ++ ((rd_T37 l0 x8_1).f2)) ++ (⟨#[10]⟩ : ByteArray)).size ≤ 9223372036854775807) = true := decide_eq_true c12
                        try have c12b2 : (9223372036854775807 < x3_1.size + (((((t103 ++ (⟨#[32]⟩ : ByteArray)) ++ t104) ++ (⟨#[32]⟩ : ByteArray)) ++ ((rd_T37 l0 x8_1).f2)) ++ (⟨#[10]⟩ : ByteArray)).size) = False := eq_false (Nat.not_lt.2 c12)
                        have c12b3 : (9223372036854775807 < x3_1.size + (t103.size + 1 + t104.size + 1 + (rd_T37 l0 x8_1).f2.size + 1)) = False := by have e := c12b2; simp only [ByteArray.size_append] at e; exact e
                        have H' := Aside0.mk H
                        clear H
                        have p101 : 0 ≤ (x8_1 : Int) := of_decide_eq_true (by first | (with_reducible assumption) | assumption)
                        have q101 : x8_1 < (l0.length : Int) := of_decide_eq_true (by first | (with_reducible assumption) | assumption)
                        obtain ⟨ad101, e101, hx101_0, hx101_1, hx101_2⟩ := at_T37 HR0.out x8_1 p101 q101
                        cases e101
                        replace hx101_0 := (HB.out.cell (World.block_lt_of_cell? w _ hx101_0)).trans hx101_0
                        replace hx101_1 := (HB.out.cell (World.block_lt_of_cell? w _ hx101_1)).trans hx101_1
                        replace hx101_2 := (HB.out.cell (World.block_lt_of_cell? w _ hx101_2)).trans hx101_2
                        replace p101 := eq_true p101
                        replace q101 := eq_true q101
                        try go_wp2_with (first | ((with_reducible refine gate_dst (N := 5) rfl ?_); refine box_event ?hg (N := 5) ?hd (cs := #[.int .i64 0, .int .i64 0, .string (⟨#[]⟩ : ByteArray)]) (t := 37) ?hr ?_; (case hd => rfl); (case hg => rfl); (case hr => first | (go_simp; done) | (go_simp; rfl)); intro gb102 hg w13 hbox hb; have n0_ := Aside0.mk (below_step (by repeat (first | (with_reducible first | exact HB.out | apply below_alloc | apply pw_below_drewN | apply below_drew1) | exact HB.out)) hb); have n1_ := Aside0.mk (hbox); have n2_ := Aside0.mk ((by rw [hg]; exact (below_size (by repeat (first | (with_reducible first | exact HB.out | apply below_alloc | apply pw_below_drewN | apply below_drew1) | exact HB.out))) : w.heap.size ≤ gb102)); have n3_ := Aside0.mk ((by rw [hg]; exact (below_size (by repeat (first | (with_reducible first | exact HB.out | apply below_alloc | apply pw_below_drewN | apply below_drew1) | exact HB.out))) : w.heap.size ≤ gb102)); clear HB; have HB := n0_; have BK102 := n1_; have GW102 := n2_; have GE102 := n3_; clear n0_ n1_ n2_ n3_; clear hb hbox hg; have hcz14_0 : w13.cell? ⟨gb102, 0, none⟩ = some (.int .i64 0) := (blk_cell BK102.out 0).trans rfl; have hcz14_1 : w13.cell? ⟨gb102, 1, none⟩ = some (.int .i64 0) := (blk_cell BK102.out 1).trans rfl; have hcz14_2 : w13.cell? ⟨gb102, 2, none⟩ = some (.string (⟨#[]⟩ : ByteArray)) := (blk_cell BK102.out 2).trans rfl; have hfz14_0 := blk_frozen BK102.out 0; have hfz14_1 := blk_frozen BK102.out 1; have hfz14_2 := blk_frozen BK102.out 2))
                        have n0_ : Aside0 ((((w13.setCell ⟨gb102, 0, none⟩ (.int .i64 ((rd_T37 l0 x8_1).f0))).setCell ⟨gb102, 1, none⟩ (.int .i64 ((rd_T37 l0 x8_1).f1))).setCell ⟨gb102, 2, none⟩ (.string ((rd_T37 l0 x8_1).f2))).heap[gb102]? = some (.cells #[.int .i64 ((rd_T37 l0 x8_1).f0), .int .i64 ((rd_T37 l0 x8_1).f1), .string ((rd_T37 l0 x8_1).f2)] 37 (0, 0))) := ⟨by (with_reducible repeat (first | refine blk_drewN ?_ _ | refine blk_drew ?_ | refine blk_alloc ?_ _)); refine blk_put (cs := #[.int .i64 ((rd_T37 l0 x8_1).f0), .int .i64 ((rd_T37 l0 x8_1).f1), .string (⟨#[]⟩ : ByteArray)]) ?_ 2 _ rfl; (with_reducible repeat (first | refine blk_drewN ?_ _ | refine blk_drew ?_ | refine blk_alloc ?_ _)); refine blk_put (cs := #[.int .i64 ((rd_T37 l0 x8_1).f0), .int .i64 0, .string (⟨#[]⟩ : ByteArray)]) ?_ 1 _ rfl; (with_reducible repeat (first | refine blk_drewN ?_ _ | refine blk_drew ?_ | refine blk_alloc ?_ _)); refine blk_put (cs := #[.int .i64 0, .int .i64 0, .string (⟨#[]⟩ : ByteArray)]) ?_ 0 _ rfl; (with_reducible repeat (first | refine blk_drewN ?_ _ | refine blk_drew ?_ | refine blk_alloc ?_ _)); exact BK102.out⟩
                        have n1_ : Aside0 (Below w.heap.size w (((w13.setCell ⟨gb102, 0, none⟩ (.int .i64 ((rd_T37 l0 x8_1).f0))).setCell ⟨gb102, 1, none⟩ (.int .i64 ((rd_T37 l0 x8_1).f1))).setCell ⟨gb102, 2, none⟩ (.string ((rd_T37 l0 x8_1).f2)))) := ⟨by repeat (first | (with_reducible first | exact HB.out | apply below_alloc | apply pw_below_drewN | apply below_drew1 | refine below_set ?_ GE102.out) | exact HB.out)⟩
                        (try clear BK102)
                        (try clear HB)
                        generalize (((w13.setCell ⟨gb102, 0, none⟩ (.int .i64 ((rd_T37 l0 x8_1).f0))).setCell ⟨gb102, 1, none⟩ (.int .i64 ((rd_T37 l0 x8_1).f1))).setCell ⟨gb102, 2, none⟩ (.string ((rd_T37 l0 x8_1).f2))) = w15 at n0_ n1_ ⊢
                        have BK102 := n0_
                        have HB := n1_
                        clear n0_ n1_
                        have n0_ := Aside0.mk (blk_drew BK102.out)
                        have n1_ := Aside0.mk (below_drew1 HB.out)
                        clear BK102
                        clear HB
                        have BK102 := n0_
                        have HB := n1_
                        clear n0_ n1_
                        refine start_ (n := 16) (S := fun w' => w'.cell? ⟨gb102, 0, none⟩ = some (.int .i64 ((rd_T37 l0 x8_1).f0)) ∧ w'.cell? ⟨gb102, 1, none⟩ = some (.int .i64 ((rd_T37 l0 x8_1).f1)) ∧ w'.cell? ⟨gb102, 2, none⟩ = some (.string ((rd_T37 l0 x8_1).f2))) (ds := []) #[false, false, false, false, false, false, false, false, false, false, false, false, false, false, false, false] (by kernel_rfl) rfl rfl ⟨(blk_cell BK102.out 0).trans rfl, (blk_cell BK102.out 1).trans rfl, (blk_cell BK102.out 2).trans rfl⟩ (fun hHeld => ?_); refine with_tabW spec_l6Text.tab5 spec_l6Text.bits5 (fun HT_ HW_ => ?_)
                        generalize w15.drew = w16 at BK102 HB hHeld ⊢
                        refine pure_ (i := 0) (N := some 12) (v := ?_) (a' := ?_) #[true, false, false, false, false, false, false, false, false, false, false, false, false, false, false, false] rfl rfl (any_of HT_.out (by kernel_rfl)) (fun _ _ _ h => h) (Or.inl ⟨by rfl, ?_⟩) ?_ ?_
                        rotate_left
                        · intro w'
                          go_simp
                          with_reducible rfl
                        rotate_left
                        · simp only [Act.put, List.setIfInBounds_toArray, List.set_cons_zero, List.set_cons_succ, i64_w, i32_w]
                          rfl
                        refine pure_ (i := 1) (N := some 13) (v := ?_) (a' := ?_) #[true, true, false, false, false, false, false, false, false, false, false, false, false, false, false, false] rfl rfl (any_of HT_.out (by kernel_rfl)) (fun _ _ _ h => h) (Or.inl ⟨by rfl, ?_⟩) ?_ ?_
                        rotate_left
                        · intro w'
                          go_simp
                          with_reducible rfl
                        rotate_left
                        · simp only [Act.put, List.setIfInBounds_toArray, List.set_cons_zero, List.set_cons_succ, i64_w, i32_w]
                          rfl
                        refine pure_ (i := 5) (N := some 17) (v := ?_) (a' := ?_) #[true, true, false, false, false, true, false, false, false, false, false, false, false, false, false, false] rfl rfl (any_of HT_.out (by kernel_rfl)) (fun _ _ _ h => h) (Or.inl ⟨by rfl, ?_⟩) ?_ ?_
                        rotate_left
                        · intro w'
                          go_simp
                          with_reducible rfl
                        rotate_left
                        · simp only [Act.put, List.setIfInBounds_toArray, List.set_cons_zero, List.set_cons_succ, i64_w, i32_w]
                          rfl
                        refine pure_ (i := 10) (N := some 22) (v := ?_) (a' := ?_) #[true, true, false, false, false, true, false, false, false, false, true, false, false, false, false, false] rfl rfl (any_of HT_.out (by kernel_rfl)) (fun _ _ _ h => h) (Or.inl ⟨by rfl, ?_⟩) ?_ ?_
                        rotate_left
                        · intro w'
                          go_simp
                          with_reducible rfl
                        rotate_left
                        · simp only [Act.put, List.setIfInBounds_toArray, List.set_cons_zero, List.set_cons_succ, i64_w, i32_w]
                          rfl
                        refine take_ (i := 2) (N := some 14) (v := ?_) (a' := ?_) #[true, true, true, false, false, true, false, false, false, false, true, false, false, false, false, false] rfl rfl (take_ofW HT_.out HW_.out (by kernel_rfl)) (fun _ _ _ h => h) (Or.inl ⟨by rfl, ?_⟩) hHeld ?_ ?_
                        rotate_left
                        · rintro w' ⟨s0, s1, s2⟩
                          go_simp
                          with_reducible rfl
                        rotate_left
                        · simp only [Act.put, List.setIfInBounds_toArray, List.set_cons_zero, List.set_cons_succ, i64_w, i32_w]
                          rfl
                        refine take_ (i := 6) (N := some 18) (v := ?_) (a' := ?_) #[true, true, true, false, false, true, true, false, false, false, true, false, false, false, false, false] rfl rfl (take_ofW HT_.out HW_.out (by kernel_rfl)) (fun _ _ _ h => h) (Or.inl ⟨by rfl, ?_⟩) hHeld ?_ ?_
                        rotate_left
                        · rintro w' ⟨s0, s1, s2⟩
                          go_simp
                          with_reducible rfl
                        rotate_left
                        · simp only [Act.put, List.setIfInBounds_toArray, List.set_cons_zero, List.set_cons_succ, i64_w, i32_w]
                          rfl
                        refine take_ (i := 11) (N := some 23) (v := ?_) (a' := ?_) #[true, true, true, false, false, true, true, false, false, false, true, true, false, false, false, false] rfl rfl (take_ofW HT_.out HW_.out (by kernel_rfl)) (fun _ _ _ h => h) (Or.inl ⟨by rfl, ?_⟩) hHeld ?_ ?_
                        rotate_left
                        · rintro w' ⟨s0, s1, s2⟩
                          go_simp
                          with_reducible rfl
                        rotate_left
                        · simp only [Act.put, List.setIfInBounds_toArray, List.set_cons_zero, List.set_cons_succ, i64_w, i32_w]
                          rfl
                        refine one_ (i := 3) (N := some 15) #[true, true, true, true, false, true, true, false, false, false, true, true, false, false, false, false] rfl rfl (one_of HT_.out (by kernel_rfl)) (by decide) (fun K hK => ?_)
                        refine goes_ Tryd.func31 (by kernel_rfl) rfl #[.int .i64 ((rd_T37 l0 x8_1).f0)] (by rfl) rfl rfl (by (try simp only [List.map_toArray, List.map_cons, List.map_nil]); first | done | rfl | (simp only [List.length_drop, List.length_take]; rfl)) ?_
                        with_reducible refine (spec_l1Num.calls k1 ((rd_T37 l0 x8_1).f0) t103 _ A5.out).mono ?_
                        rintro e w17 ⟨rfl, hb⟩
                        refine ⟨_, rfl, ?_⟩
                        have n0_ := Aside0.mk (blk_below (g := gb102) (o := .cells #[.int .i64 ((rd_T37 l0 x8_1).f0), .int .i64 ((rd_T37 l0 x8_1).f1), .string ((rd_T37 l0 x8_1).f2)] 37 (0, 0)) (by (with_reducible repeat (first | refine blk_drewN ?_ _ | refine blk_drew ?_ | refine blk_alloc ?_ _)); exact BK102.out) hb)
                        have n1_ := Aside0.mk (below_step (by repeat (first | (with_reducible first | exact HB.out | apply below_alloc | apply pw_below_drewN | apply below_drew1 | refine below_set ?_ GE102.out) | exact HB.out)) hb)
                        clear BK102
                        clear HB
                        have BK102 := n0_
                        have HB := n1_
                        clear n0_ n1_
                        (try clear hb)
                        (try clear hb2)
                        (try clear hk)
                        (try clear hi)
                        refine hK.out _ _ ⟨(blk_cell BK102.out 0).trans rfl, (blk_cell BK102.out 1).trans rfl, (blk_cell BK102.out 2).trans rfl⟩ (fun hHeld => ?_)
                        clear hK K
                        refine norm_ (a' := ?_) ?_ ?_
                        rotate_left
                        · show Act.put _ (some 15) _ = _
                          simp only [Act.put, List.setIfInBounds_toArray, List.set_cons_zero, List.set_cons_succ, i64_w, i32_w]
                          rfl
                        refine pure_ (i := 4) (N := some 16) (v := ?_) (a' := ?_) #[true, true, true, true, true, true, true, false, false, false, true, true, false, false, false, false] rfl rfl (any_of HT_.out (by kernel_rfl)) (fun _ _ _ h => h) (Or.inl ⟨by rfl, ?_⟩) ?_ ?_
                        rotate_left
                        · intro w'
                          go_simp
                          with_reducible rfl
                        rotate_left
                        · simp only [Act.put, List.setIfInBounds_toArray, List.set_cons_zero, List.set_cons_succ, i64_w, i32_w]
                          rfl
                        refine one_ (i := 7) (N := some 19) #[true, true, true, true, true, true, true, true, false, false, true, true, false, false, false, false] rfl rfl (one_of HT_.out (by kernel_rfl)) (by decide) (fun K hK => ?_)
                        refine goes_ Tryd.func31 (by kernel_rfl) rfl #[.int .i64 ((rd_T37 l0 x8_1).f1)] (by rfl) rfl rfl (by (try simp only [List.map_toArray, List.map_cons, List.map_nil]); first | done | rfl | (simp only [List.length_drop, List.length_take]; rfl)) ?_
                        with_reducible refine (spec_l1Num.calls k1 ((rd_T37 l0 x8_1).f1) t104 _ A7.out).mono ?_
                        rintro e w18 ⟨rfl, hb⟩
                        refine ⟨_, rfl, ?_⟩
                        have n0_ := Aside0.mk (blk_below (g := gb102) (o := .cells #[.int .i64 ((rd_T37 l0 x8_1).f0), .int .i64 ((rd_T37 l0 x8_1).f1), .string ((rd_T37 l0 x8_1).f2)] 37 (0, 0)) (by (with_reducible repeat (first | refine blk_drewN ?_ _ | refine blk_drew ?_ | refine blk_alloc ?_ _)); exact BK102.out) hb)
                        have n1_ := Aside0.mk (below_step (by repeat (first | (with_reducible first | exact HB.out | apply below_alloc | apply pw_below_drewN | apply below_drew1 | refine below_set ?_ GE102.out) | exact HB.out)) hb)
                        clear BK102
                        clear HB
                        have BK102 := n0_
                        have HB := n1_
                        clear n0_ n1_
                        (try clear hb)
                        (try clear hb2)
                        (try clear hk)
                        (try clear hi)
                        refine hK.out _ _ ⟨(blk_cell BK102.out 0).trans rfl, (blk_cell BK102.out 1).trans rfl, (blk_cell BK102.out 2).trans rfl⟩ (fun hHeld => ?_)
                        clear hK K
                        refine norm_ (a' := ?_) ?_ ?_
                        rotate_left
                        · show Act.put _ (some 19) _ = _
                          simp only [Act.put, List.setIfInBounds_toArray, List.set_cons_zero, List.set_cons_succ, i64_w, i32_w]
                          rfl
                        refine pure_ (i := 8) (N := some 20) (v := ?_) (a' := ?_) #[true, true, true, true, true, true, true, true, true, false, true, true, false, false, false, false] rfl rfl (any_of HT_.out (by kernel_rfl)) (fun _ _ _ h => h) (Or.inl ⟨by rfl, ?_⟩) ?_ ?_
                        rotate_left
                        · intro w'
                          go_simp
                          with_reducible rfl
                        rotate_left
                        · simp only [Act.put, List.setIfInBounds_toArray, List.set_cons_zero, List.set_cons_succ, i64_w, i32_w]
                          rfl
                        refine pure_ (i := 9) (N := some 21) (v := ?_) (a' := ?_) #[true, true, true, true, true, true, true, true, true, true, true, true, false, false, false, false] rfl rfl (any_of HT_.out (by kernel_rfl)) (fun _ _ _ h => h) (Or.inl ⟨by rfl, ?_⟩) ?_ ?_
                        rotate_left
                        · intro w'
                          go_simp
                          with_reducible rfl
                        rotate_left
                        · simp only [Act.put, List.setIfInBounds_toArray, List.set_cons_zero, List.set_cons_succ, i64_w, i32_w]
                          rfl
                        refine pure_ (i := 12) (N := some 24) (v := ?_) (a' := ?_) #[true, true, true, true, true, true, true, true, true, true, true, true, true, false, false, false] rfl rfl (any_of HT_.out (by kernel_rfl)) (fun _ _ _ h => h) (Or.inl ⟨by rfl, ?_⟩) ?_ ?_
                        rotate_left
                        · intro w'
                          go_simp
                          with_reducible rfl
                        rotate_left
                        · simp only [Act.put, List.setIfInBounds_toArray, List.set_cons_zero, List.set_cons_succ, i64_w, i32_w]
                          rfl
                        refine pure_ (i := 13) (N := some 25) (v := ?_) (a' := ?_) #[true, true, true, true, true, true, true, true, true, true, true, true, true, true, false, false] rfl rfl (any_of HT_.out (by kernel_rfl)) (fun _ _ _ h => h) (Or.inl ⟨by rfl, ?_⟩) ?_ ?_
                        rotate_left
                        · intro w'
                          go_simp
                          with_reducible rfl
                        rotate_left
                        · simp only [Act.put, List.setIfInBounds_toArray, List.set_cons_zero, List.set_cons_succ, i64_w, i32_w]
                          rfl
                        refine pure_ (i := 14) (N := some 26) (v := ?_) (a' := ?_) #[true, true, true, true, true, true, true, true, true, true, true, true, true, true, true, false] rfl rfl (any_of HT_.out (by kernel_rfl)) (fun _ _ _ h => h) (Or.inl ⟨by rfl, ?_⟩) ?_ ?_
                        rotate_left
                        · intro w'
                          go_simp
                          with_reducible rfl
                        rotate_left
                        · simp only [Act.put, List.setIfInBounds_toArray, List.set_cons_zero, List.set_cons_succ, i64_w, i32_w]
                          rfl
                        refine pure_ (i := 15) (N := some 3) (v := ?_) (a' := ?_) #[true, true, true, true, true, true, true, true, true, true, true, true, true, true, true, true] rfl rfl (any_of HT_.out (by kernel_rfl)) (fun _ _ _ h => h) (Or.inl ⟨by rfl, ?_⟩) ?_ ?_
                        rotate_left
                        · intro w'
                          go_simp
                          with_reducible rfl
                        rotate_left
                        · simp only [Act.put, List.setIfInBounds_toArray, List.set_cons_zero, List.set_cons_succ, i64_w, i32_w]
                          rfl
                        refine done_ (done_of HT_.out (by kernel_rfl)) ?_
                        try go_wp2
                        go_roundg k1
                        case measure => have := HK1.out; omega
                        case rel => exact ⟨(x3_1 ++ (((((t103 ++ (⟨#[32]⟩ : ByteArray)) ++ t104) ++ (⟨#[32]⟩ : ByteArray)) ++ ((rd_T37 l0 x8_1).f2)) ++ (⟨#[10]⟩ : ByteArray))), (wrap64 (x8_1 + 1)), (by first | rfl | (simp; done) | (simp [*]; done)), (by first | rfl | (simp; done) | (simp [*]; done)), H', ⟨by have := HK1.out; omega⟩, ⟨by repeat (first | (with_reducible first | exact HB.out | apply below_alloc | apply pw_below_drewN | apply below_drew1 | refine below_set ?_ GE102.out) | exact HB.out)⟩⟩
                      · rw [if_neg c12] at H
                        exact absurd H (by simp)
                    · rw [if_neg c11] at H
                      exact absurd H (by simp)
                  · rw [if_neg c10] at H
                    exact absurd H (by simp)
                · rw [if_neg c9] at H
                  exact absurd H (by simp)
              · rw [if_neg c8] at H
                exact absurd H (by simp)
            · rw [if_neg c6] at H
              exact absurd H (by simp)
          · rw [if_neg c4] at H
            exact absurd H (by simp)
        · rw [if_neg c3] at H
          exact absurd H (by simp)
      · rw [if_neg c2] at H
        have c2b0 : decide (x8_1 < (l0.length : Int)) = false := decide_eq_false c2
        clear c2
        obtain rfl := Option.some.inj H
        go_wp2
        go_ret
        exact ⟨by first | rfl | (simp [errW_none, errW_some] <;> rfl) | (simp [*, errW_none, errW_some] <;> rfl), by repeat (first | (with_reducible first | exact HB.out | apply below_alloc | apply pw_below_drewN | apply below_drew1) | exact HB.out)⟩

end Go.Proofs.YtlkgimnafnmgpaaDoor.G

namespace Go.Proofs.YtlkgimnafnmgpaaDoor.G
open Go.RowKit Go.Proofs.YtlkgimnafnmgpaaDoorW.PrintWords Go.Proofs.YtlkgimnafnmgpaaDoorW.PrintLast Go.Proofs.YtlkgimnafnmgpaaDoorW.PrintMore
attribute [local go_sem] max2_int min2_int max_two min_two max_three min_three max_four min_four   -- for this text's walks alone
set_option linter.unusedVariables false
set_option linter.unusedSimpArgs false

def spec_CodeText.l0 : Nat → List (S37) → List (S37) → Int → Int → Option (ByteArray × Bool)
  | 0, _, _, _, _ => none
  | k + 1, x0, x12, x13, x14 => if x14 < x13 then (if 0 ≤ x14 then (if x14 < (x12.length : Int) then ((spec_l2Cut.f k ((rd_T37 x12 x14).f2) 10).bind fun bt104 => (if bt104.2.2 = true then (some ((⟨#[]⟩ : ByteArray), false)) else ((spec_l1In.f ((rd_T37 x12 x14).f0) 1 13).bind fun t107 => (if t107 = true then ((spec_l1In.f ((rd_T37 x12 x14).f1) 0 100000).bind fun t108 => (if t108 = true then (if (((rd_T37 x12 x14).f2).size : Int) > 1500 then (some ((⟨#[]⟩ : ByteArray), false)) else (spec_CodeText.l0 k x0 x12 x13 (wrap64 (x14 + 1)))) else (some ((⟨#[]⟩ : ByteArray), false)))) else (some ((⟨#[]⟩ : ByteArray), false)))))) else (none)) else (none)) else ((spec_l6Text.f k x0).bind fun t101 => (some (t101, true)))
def spec_CodeText.f (k : Nat) (l0 : List (S37)) : Option (ByteArray × Bool) := if (l0.length : Int) > 3000 then (some ((⟨#[]⟩ : ByteArray), false)) else (spec_CodeText.l0 k l0 l0 (l0.length : Int) 0)
set_option maxHeartbeats 8000000 in
set_option maxRecDepth 100000 in
theorem spec_CodeText.calls (k : Nat) (A0 : Option Addr) (c0 : Nat) (l0 : List (S37)) (r1 : ByteArray) (r2 : Bool) (w : World) (hr0 : Kd.C k37 w A0 l0.length l0) (hc0 : l0.length ≤ c0) (h : spec_CodeText.f k l0 = some (r1, r2)) :
    Calls Tryd.prog 6 #[.slice A0 l0.length c0] w fun e w' => e = .returned (.tuple #[.string r1, .bool r2]) ∧ Below w.heap.size w w' := by
  have hu37 := Tryd.underlying37
  have HR0 := Aside0.mk hr0
  have HC0 := Aside0.mk hc0
  clear hr0 hc0
  have HB := Aside0.mk (Below.refl w.heap.size w)
  have H : (if (l0.length : Int) > 3000 then (some ((⟨#[]⟩ : ByteArray), false)) else (spec_CodeText.l0 k l0 l0 (l0.length : Int) 0)) = some (r1, r2) := h
  clear h
  by_cases c2 : (l0.length : Int) > 3000
  · rw [if_pos c2] at H
    have c2b0 : decide (3000 < (l0.length : Int)) = true := decide_eq_true c2
    have c2b1 : decide (3000 < l0.length) = true := decide_eq_true (by omega)
    clear c2
    simp only [Option.some.injEq, Prod.mk.injEq] at H
    obtain ⟨rfl, rfl⟩ := H
    go_enter Tryd.func6, Tryd.ntmps6
    go_wp2
    go_ret2
    exact ⟨by first | rfl | (simp [errW_none, errW_some] <;> rfl) | (simp [*, errW_none, errW_some] <;> rfl), by repeat (first | (with_reducible first | exact HB.out | apply below_alloc | apply pw_below_drewN | apply below_drew1) | exact HB.out)⟩
  · rw [if_neg c2] at H
    have c2b0 : decide (3000 < (l0.length : Int)) = false := decide_eq_false c2
    have c2b1 : decide (3000 < l0.length) = false := decide_eq_false (by omega)
    clear c2
    have H' := Aside0.mk H
    clear H
    go_enter Tryd.func6, Tryd.ntmps6
    go_wp2
    go_loopg [14] k (fun kq v14 w' => ∃ (x14_1 : Int), v14 = .int .i64 x14_1 ∧ Aside0 (spec_CodeText.l0 kq l0 l0 (l0.length : Int) x14_1 = some (r1, r2)) ∧ Aside0 (kq ≤ k) ∧ Aside0 (Below w.heap.size w w'))
    case atStart => exact ⟨(0), (by first | rfl | (simp; done) | (simp [*]; done)), H', ⟨Nat.le_refl _⟩, ⟨by repeat (first | (with_reducible first | exact HB.out | apply below_alloc | apply pw_below_drewN | apply below_drew1) | exact HB.out)⟩⟩
    case round =>
      clear H'
      try clear c2
      try clear c2b0
      try clear c2b1
      try clear p2
      obtain ⟨x14_1, rfl, HA, HK1, HB⟩ := hrel
      cases gk with
      | zero => exact absurd HA.out (by simp [spec_CodeText.l0])
      | succ k1 =>
        have H := HA.out
        clear HA
        simp only [spec_CodeText.l0] at H
        by_cases c3 : x14_1 < (l0.length : Int)
        · rw [if_pos c3] at H
          have c3b0 : decide (x14_1 < (l0.length : Int)) = true := decide_eq_true c3
          clear c3
          by_cases c4 : 0 ≤ x14_1
          · rw [if_pos c4] at H
            have c4b0 : decide (0 ≤ x14_1) = true := decide_eq_true c4
            clear c4
            by_cases c5 : x14_1 < (l0.length : Int)
            · rw [if_pos c5] at H
              have c5b0 : decide (x14_1 < (l0.length : Int)) = true := decide_eq_true c5
              clear c5
              replace H := Option.bind_eq_some_iff.mp H
              obtain ⟨⟨t104, t105, t106⟩, A60, H⟩ := H
              replace H : (if t106 = true then (some ((⟨#[]⟩ : ByteArray), false)) else ((spec_l1In.f ((rd_T37 l0 x14_1).f0) 1 13).bind fun t107 => (if t107 = true then ((spec_l1In.f ((rd_T37 l0 x14_1).f1) 0 100000).bind fun t108 => (if t108 = true then (if (((rd_T37 l0 x14_1).f2).size : Int) > 1500 then (some ((⟨#[]⟩ : ByteArray), false)) else (spec_CodeText.l0 k1 l0 l0 (l0.length : Int) (wrap64 (x14_1 + 1)))) else (some ((⟨#[]⟩ : ByteArray), false)))) else (some ((⟨#[]⟩ : ByteArray), false))))) = some (r1, r2) := H
              have A6 := Aside0.mk A60
              clear A60
              by_cases c7 : t106 = true
              · subst c7
                have H1 : (some ((⟨#[]⟩ : ByteArray), false)) = some (r1, r2) := by rw [if_pos rfl] at H; exact H
                clear H
                have H := H1
                clear H1
                simp only [Option.some.injEq, Prod.mk.injEq] at H
                obtain ⟨rfl, rfl⟩ := H
                have p102 : 0 ≤ (x14_1 : Int) := of_decide_eq_true (by first | (with_reducible assumption) | assumption)
                have q102 : x14_1 < (l0.length : Int) := of_decide_eq_true (by first | (with_reducible assumption) | assumption)
                obtain ⟨ad102, e102, hx102_0, hx102_1, hx102_2⟩ := at_T37 HR0.out x14_1 p102 q102
                cases e102
                replace hx102_0 := (HB.out.cell (World.block_lt_of_cell? w _ hx102_0)).trans hx102_0
                replace hx102_1 := (HB.out.cell (World.block_lt_of_cell? w _ hx102_1)).trans hx102_1
                replace hx102_2 := (HB.out.cell (World.block_lt_of_cell? w _ hx102_2)).trans hx102_2
                replace p102 := eq_true p102
                replace q102 := eq_true q102
                go_wp2_with (first | ((with_reducible refine gate_dst (N := 5) rfl ?_); (try (refine gate_guard (by rfl) ?_; dsimp only)); refine box_event ?hg (N := 5) ?hd (cs := #[.int .i64 0, .int .i64 0, .string (⟨#[]⟩ : ByteArray)]) (t := 37) ?hr ?_; (case hd => rfl); (case hg => rfl); (case hr => first | (go_simp; done) | (go_simp; rfl)); intro gb103 hg w8 hbox hb; have n0_ := Aside0.mk (below_step (by repeat (first | (with_reducible first | exact HB.out | apply below_alloc | apply pw_below_drewN | apply below_drew1) | exact HB.out)) hb); have n1_ := Aside0.mk (hbox); have n2_ := Aside0.mk ((by rw [hg]; exact (below_size (by repeat (first | (with_reducible first | exact HB.out | apply below_alloc | apply pw_below_drewN | apply below_drew1) | exact HB.out))) : w.heap.size ≤ gb103)); have n3_ := Aside0.mk ((by rw [hg]; exact (below_size (by repeat (first | (with_reducible first | exact HB.out | apply below_alloc | apply pw_below_drewN | apply below_drew1) | exact HB.out))) : w.heap.size ≤ gb103)); clear HB; have HB := n0_; have BK103 := n1_; have GW103 := n2_; have GE103 := n3_; clear n0_ n1_ n2_ n3_; clear hb hbox hg; have hcz9_0 : w8.cell? ⟨gb103, 0, none⟩ = some (.int .i64 0) := (blk_cell BK103.out 0).trans rfl; have hcz9_1 : w8.cell? ⟨gb103, 1, none⟩ = some (.int .i64 0) := (blk_cell BK103.out 1).trans rfl; have hcz9_2 : w8.cell? ⟨gb103, 2, none⟩ = some (.string (⟨#[]⟩ : ByteArray)) := (blk_cell BK103.out 2).trans rfl; have hfz9_0 := blk_frozen BK103.out 0; have hfz9_1 := blk_frozen BK103.out 1; have hfz9_2 := blk_frozen BK103.out 2) | ((with_reducible refine gate_callee (f := 15) rfl ?_); refine goesL_ (some 21) rfl rfl Tryd.func15 (by kernel_rfl) rfl #[.string ((rd_T37 l0 x14_1).f2), .int .u8 10] rfl (by (try simp only [List.map_toArray, List.map_cons, List.map_nil]); first | done | rfl | (simp only [List.length_drop, List.length_take]; rfl)) ?_; (with_reducible refine (spec_l2Cut.calls k1 ((rd_T37 l0 x14_1).f2) 10 t104 t105 true _ A6.out).mono ?_); rintro e w' ⟨rfl, ⟨nd, rfl⟩⟩; refine ⟨_, rfl, ?_⟩))
                go_ret2
                exact ⟨by first | rfl | (simp [errW_none, errW_some] <;> rfl) | (simp [*, errW_none, errW_some] <;> rfl), by repeat (first | (with_reducible first | exact HB.out | apply below_alloc | apply pw_below_drewN | apply below_drew1 | refine below_set ?_ GE103.out) | exact HB.out)⟩
              · replace c7 := Bool.eq_false_iff.mpr c7
                subst c7
                have H1 : ((spec_l1In.f ((rd_T37 l0 x14_1).f0) 1 13).bind fun t107 => (if t107 = true then ((spec_l1In.f ((rd_T37 l0 x14_1).f1) 0 100000).bind fun t108 => (if t108 = true then (if (((rd_T37 l0 x14_1).f2).size : Int) > 1500 then (some ((⟨#[]⟩ : ByteArray), false)) else (spec_CodeText.l0 k1 l0 l0 (l0.length : Int) (wrap64 (x14_1 + 1)))) else (some ((⟨#[]⟩ : ByteArray), false)))) else (some ((⟨#[]⟩ : ByteArray), false)))) = some (r1, r2) := by rw [if_neg (show ¬ (false = true) by decide)] at H; exact H
                clear H
                have H := H1
                clear H1
                replace H := Option.bind_eq_some_iff.mp H
                obtain ⟨t107, A100, H⟩ := H
                replace H : (if t107 = true then ((spec_l1In.f ((rd_T37 l0 x14_1).f1) 0 100000).bind fun t108 => (if t108 = true then (if (((rd_T37 l0 x14_1).f2).size : Int) > 1500 then (some ((⟨#[]⟩ : ByteArray), false)) else (spec_CodeText.l0 k1 l0 l0 (l0.length : Int) (wrap64 (x14_1 + 1)))) else (some ((⟨#[]⟩ : ByteArray), false)))) else (some ((⟨#[]⟩ : ByteArray), false))) = some (r1, r2) := H
                have A10 := Aside0.mk A100
                clear A100
                by_cases c11 : t107 = true
                · subst c11
                  have H1 : ((spec_l1In.f ((rd_T37 l0 x14_1).f1) 0 100000).bind fun t108 => (if t108 = true then (if (((rd_T37 l0 x14_1).f2).size : Int) > 1500 then (some ((⟨#[]⟩ : ByteArray), false)) else (spec_CodeText.l0 k1 l0 l0 (l0.length : Int) (wrap64 (x14_1 + 1)))) else (some ((⟨#[]⟩ : ByteArray), false)))) = some (r1, r2) := by rw [if_pos rfl] at H; exact H
                  clear H
                  have H := H1
                  clear H1
                  replace H := Option.bind_eq_some_iff.mp H
                  obtain ⟨t108, A120, H⟩ := H
                  replace H : (if t108 = true then (if (((rd_T37 l0 x14_1).f2).size : Int) > 1500 then (some ((⟨#[]⟩ : ByteArray), false)) else (spec_CodeText.l0 k1 l0 l0 (l0.length : Int) (wrap64 (x14_1 + 1)))) else (some ((⟨#[]⟩ : ByteArray), false))) = some (r1, r2) := H
                  have A12 := Aside0.mk A120
                  clear A120
                  by_cases c13 : t108 = true
                  · subst c13
                    have H1 : (if (((rd_T37 l0 x14_1).f2).size : Int) > 1500 then (some ((⟨#[]⟩ : ByteArray), false)) else (spec_CodeText.l0 k1 l0 l0 (l0.length : Int) (wrap64 (x14_1 + 1)))) = some (r1, r2) := by rw [if_pos rfl] at H; exact H
                    clear H
                    have H := H1
                    clear H1
                    by_cases c14 : (((rd_T37 l0 x14_1).f2).size : Int) > 1500
                    · rw [if_pos c14] at H
                      have c14b0 : decide (1500 < (((rd_T37 l0 x14_1).f2).size : Int)) = true := decide_eq_true c14
                      have c14b1 : decide (1500 < ((rd_T37 l0 x14_1).f2).size) = true := decide_eq_true (by omega)
                      clear c14
                      simp only [Option.some.injEq, Prod.mk.injEq] at H
                      obtain ⟨rfl, rfl⟩ := H
                      have p102 : 0 ≤ (x14_1 : Int) := of_decide_eq_true (by first | (with_reducible assumption) | assumption)
                      have q102 : x14_1 < (l0.length : Int) := of_decide_eq_true (by first | (with_reducible assumption) | assumption)
                      obtain ⟨ad102, e102, hx102_0, hx102_1, hx102_2⟩ := at_T37 HR0.out x14_1 p102 q102
                      cases e102
                      replace hx102_0 := (HB.out.cell (World.block_lt_of_cell? w _ hx102_0)).trans hx102_0
                      replace hx102_1 := (HB.out.cell (World.block_lt_of_cell? w _ hx102_1)).trans hx102_1
                      replace hx102_2 := (HB.out.cell (World.block_lt_of_cell? w _ hx102_2)).trans hx102_2
                      replace p102 := eq_true p102
                      replace q102 := eq_true q102
                      go_wp2_with (first | ((with_reducible refine gate_dst (N := 5) rfl ?_); (try (refine gate_guard (by rfl) ?_; dsimp only)); refine box_event ?hg (N := 5) ?hd (cs := #[.int .i64 0, .int .i64 0, .string (⟨#[]⟩ : ByteArray)]) (t := 37) ?hr ?_; (case hd => rfl); (case hg => rfl); (case hr => first | (go_simp; done) | (go_simp; rfl)); intro gb103 hg w15 hbox hb; have n0_ := Aside0.mk (below_step (by repeat (first | (with_reducible first | exact HB.out | apply below_alloc | apply pw_below_drewN | apply below_drew1) | exact HB.out)) hb); have n1_ := Aside0.mk (hbox); have n2_ := Aside0.mk ((by rw [hg]; exact (below_size (by repeat (first | (with_reducible first | exact HB.out | apply below_alloc | apply pw_below_drewN | apply below_drew1) | exact HB.out))) : w.heap.size ≤ gb103)); have n3_ := Aside0.mk ((by rw [hg]; exact (below_size (by repeat (first | (with_reducible first | exact HB.out | apply below_alloc | apply pw_below_drewN | apply below_drew1) | exact HB.out))) : w.heap.size ≤ gb103)); clear HB; have HB := n0_; have BK103 := n1_; have GW103 := n2_; have GE103 := n3_; clear n0_ n1_ n2_ n3_; clear hb hbox hg; have hcz16_0 : w15.cell? ⟨gb103, 0, none⟩ = some (.int .i64 0) := (blk_cell BK103.out 0).trans rfl; have hcz16_1 : w15.cell? ⟨gb103, 1, none⟩ = some (.int .i64 0) := (blk_cell BK103.out 1).trans rfl; have hcz16_2 : w15.cell? ⟨gb103, 2, none⟩ = some (.string (⟨#[]⟩ : ByteArray)) := (blk_cell BK103.out 2).trans rfl; have hfz16_0 := blk_frozen BK103.out 0; have hfz16_1 := blk_frozen BK103.out 1; have hfz16_2 := blk_frozen BK103.out 2) | ((with_reducible refine gate_callee (f := 15) rfl ?_); refine goesL_ (some 21) rfl rfl Tryd.func15 (by kernel_rfl) rfl #[.string ((rd_T37 l0 x14_1).f2), .int .u8 10] rfl (by (try simp only [List.map_toArray, List.map_cons, List.map_nil]); first | done | rfl | (simp only [List.length_drop, List.length_take]; rfl)) ?_; (with_reducible refine (spec_l2Cut.calls k1 ((rd_T37 l0 x14_1).f2) 10 t104 t105 false _ A6.out).mono ?_); rintro e w' ⟨rfl, ⟨nd, rfl⟩⟩; refine ⟨_, rfl, ?_⟩) | (go_at_call 16; (with_reducible refine (spec_l1In.calls ((rd_T37 l0 x14_1).f0) 1 13 true _ A10.out).mono ?_); rintro e w' ⟨rfl, ⟨nd, rfl⟩⟩) | (go_at_call 16; (with_reducible refine (spec_l1In.calls ((rd_T37 l0 x14_1).f1) 0 100000 true _ A12.out).mono ?_); rintro e w' ⟨rfl, ⟨nd, rfl⟩⟩))
                      go_ret2
                      exact ⟨by first | rfl | (simp [errW_none, errW_some] <;> rfl) | (simp [*, errW_none, errW_some] <;> rfl), by repeat (first | (with_reducible first | exact HB.out | apply below_alloc | apply pw_below_drewN | apply below_drew1 | refine below_set ?_ GE103.out) | exact HB.out)⟩
                    · rw [if_neg c14] at H
                      have c14b0 : decide (1500 < (((rd_T37 l0 x14_1).f2).size : Int)) = false := decide_eq_false c14
                      have c14b1 : decide (1500 < ((rd_T37 l0 x14_1).f2).size) = false := decide_eq_false (by omega)
                      clear c14
                      have H' := Aside0.mk H
                      clear H
                      have p102 : 0 ≤ (x14_1 : Int) := of_decide_eq_true (by first | (with_reducible assumption) | assumption)
                      have q102 : x14_1 < (l0.length : Int) := of_decide_eq_true (by first | (with_reducible assumption) | assumption)
                      obtain ⟨ad102, e102, hx102_0, hx102_1, hx102_2⟩ := at_T37 HR0.out x14_1 p102 q102
                      cases e102
                      replace hx102_0 := (HB.out.cell (World.block_lt_of_cell? w _ hx102_0)).trans hx102_0
                      replace hx102_1 := (HB.out.cell (World.block_lt_of_cell? w _ hx102_1)).trans hx102_1
                      replace hx102_2 := (HB.out.cell (World.block_lt_of_cell? w _ hx102_2)).trans hx102_2
                      replace p102 := eq_true p102
                      replace q102 := eq_true q102
                      go_wp2_with (first | ((with_reducible refine gate_dst (N := 5) rfl ?_); (try (refine gate_guard (by rfl) ?_; dsimp only)); refine box_event ?hg (N := 5) ?hd (cs := #[.int .i64 0, .int .i64 0, .string (⟨#[]⟩ : ByteArray)]) (t := 37) ?hr ?_; (case hd => rfl); (case hg => rfl); (case hr => first | (go_simp; done) | (go_simp; rfl)); intro gb103 hg w17 hbox hb; have n0_ := Aside0.mk (below_step (by repeat (first | (with_reducible first | exact HB.out | apply below_alloc | apply pw_below_drewN | apply below_drew1) | exact HB.out)) hb); have n1_ := Aside0.mk (hbox); have n2_ := Aside0.mk ((by rw [hg]; exact (below_size (by repeat (first | (with_reducible first | exact HB.out | apply below_alloc | apply pw_below_drewN | apply below_drew1) | exact HB.out))) : w.heap.size ≤ gb103)); have n3_ := Aside0.mk ((by rw [hg]; exact (below_size (by repeat (first | (with_reducible first | exact HB.out | apply below_alloc | apply pw_below_drewN | apply below_drew1) | exact HB.out))) : w.heap.size ≤ gb103)); clear HB; have HB := n0_; have BK103 := n1_; have GW103 := n2_; have GE103 := n3_; clear n0_ n1_ n2_ n3_; clear hb hbox hg; have hcz18_0 : w17.cell? ⟨gb103, 0, none⟩ = some (.int .i64 0) := (blk_cell BK103.out 0).trans rfl; have hcz18_1 : w17.cell? ⟨gb103, 1, none⟩ = some (.int .i64 0) := (blk_cell BK103.out 1).trans rfl; have hcz18_2 : w17.cell? ⟨gb103, 2, none⟩ = some (.string (⟨#[]⟩ : ByteArray)) := (blk_cell BK103.out 2).trans rfl; have hfz18_0 := blk_frozen BK103.out 0; have hfz18_1 := blk_frozen BK103.out 1; have hfz18_2 := blk_frozen BK103.out 2) | ((with_reducible refine gate_callee (f := 15) rfl ?_); refine goesL_ (some 21) rfl rfl Tryd.func15 (by kernel_rfl) rfl #[.string ((rd_T37 l0 x14_1).f2), .int .u8 10] rfl (by (try simp only [List.map_toArray, List.map_cons, List.map_nil]); first | done | rfl | (simp only [List.length_drop, List.length_take]; rfl)) ?_; (with_reducible refine (spec_l2Cut.calls k1 ((rd_T37 l0 x14_1).f2) 10 t104 t105 false _ A6.out).mono ?_); rintro e w' ⟨rfl, ⟨nd, rfl⟩⟩; refine ⟨_, rfl, ?_⟩) | (go_at_call 16; (with_reducible refine (spec_l1In.calls ((rd_T37 l0 x14_1).f0) 1 13 true _ A10.out).mono ?_); rintro e w' ⟨rfl, ⟨nd, rfl⟩⟩) | (go_at_call 16; (with_reducible refine (spec_l1In.calls ((rd_T37 l0 x14_1).f1) 0 100000 true _ A12.out).mono ?_); rintro e w' ⟨rfl, ⟨nd, rfl⟩⟩))
                      go_roundg k1
                      case measure => have := HK1.out; omega
                      case rel => exact ⟨(wrap64 (x14_1 + 1)), (by first | rfl | (simp; done) | (simp [*]; done)), H', ⟨by have := HK1.out; omega⟩, ⟨by repeat (first | (with_reducible first | exact HB.out | apply below_alloc | apply pw_below_drewN | apply below_drew1 | refine below_set ?_ GE103.out) | exact HB.out)⟩⟩
                  · replace c13 := Bool.eq_false_iff.mpr c13
                    subst c13
                    have H1 : (some ((⟨#[]⟩ : ByteArray), false)) = some (r1, r2) := by rw [if_neg (show ¬ (false = true) by decide)] at H; exact H
                    clear H
                    have H := H1
                    clear H1
                    simp only [Option.some.injEq, Prod.mk.injEq] at H
                    obtain ⟨rfl, rfl⟩ := H
                    have p102 : 0 ≤ (x14_1 : Int) := of_decide_eq_true (by first | (with_reducible assumption) | assumption)
                    have q102 : x14_1 < (l0.length : Int) := of_decide_eq_true (by first | (with_reducible assumption) | assumption)
                    obtain ⟨ad102, e102, hx102_0, hx102_1, hx102_2⟩ := at_T37 HR0.out x14_1 p102 q102
                    cases e102
                    replace hx102_0 := (HB.out.cell (World.block_lt_of_cell? w _ hx102_0)).trans hx102_0
                    replace hx102_1 := (HB.out.cell (World.block_lt_of_cell? w _ hx102_1)).trans hx102_1
                    replace hx102_2 := (HB.out.cell (World.block_lt_of_cell? w _ hx102_2)).trans hx102_2
                    replace p102 := eq_true p102
                    replace q102 := eq_true q102
                    go_wp2_with (first | ((with_reducible refine gate_dst (N := 5) rfl ?_); (try (refine gate_guard (by rfl) ?_; dsimp only)); refine box_event ?hg (N := 5) ?hd (cs := #[.int .i64 0, .int .i64 0, .string (⟨#[]⟩ : ByteArray)]) (t := 37) ?hr ?_; (case hd => rfl); (case hg => rfl); (case hr => first | (go_simp; done) | (go_simp; rfl)); intro gb103 hg w19 hbox hb; have n0_ := Aside0.mk (below_step (by repeat (first | (with_reducible first | exact HB.out | apply below_alloc | apply pw_below_drewN | apply below_drew1) | exact HB.out)) hb); have n1_ := Aside0.mk (hbox); have n2_ := Aside0.mk ((by rw [hg]; exact (below_size (by repeat (first | (with_reducible first | exact HB.out | apply below_alloc | apply pw_below_drewN | apply below_drew1) | exact HB.out))) : w.heap.size ≤ gb103)); have n3_ := Aside0.mk ((by rw [hg]; exact (below_size (by repeat (first | (with_reducible first | exact HB.out | apply below_alloc | apply pw_below_drewN | apply below_drew1) | exact HB.out))) : w.heap.size ≤ gb103)); clear HB; have HB := n0_; have BK103 := n1_; have GW103 := n2_; have GE103 := n3_; clear n0_ n1_ n2_ n3_; clear hb hbox hg; have hcz20_0 : w19.cell? ⟨gb103, 0, none⟩ = some (.int .i64 0) := (blk_cell BK103.out 0).trans rfl; have hcz20_1 : w19.cell? ⟨gb103, 1, none⟩ = some (.int .i64 0) := (blk_cell BK103.out 1).trans rfl; have hcz20_2 : w19.cell? ⟨gb103, 2, none⟩ = some (.string (⟨#[]⟩ : ByteArray)) := (blk_cell BK103.out 2).trans rfl; have hfz20_0 := blk_frozen BK103.out 0; have hfz20_1 := blk_frozen BK103.out 1; have hfz20_2 := blk_frozen BK103.out 2) | ((with_reducible refine gate_callee (f := 15) rfl ?_); refine goesL_ (some 21) rfl rfl Tryd.func15 (by kernel_rfl) rfl #[.string ((rd_T37 l0 x14_1).f2), .int .u8 10] rfl (by (try simp only [List.map_toArray, List.map_cons, List.map_nil]); first | done | rfl | (simp only [List.length_drop, List.length_take]; rfl)) ?_; (with_reducible refine (spec_l2Cut.calls k1 ((rd_T37 l0 x14_1).f2) 10 t104 t105 false _ A6.out).mono ?_); rintro e w' ⟨rfl, ⟨nd, rfl⟩⟩; refine ⟨_, rfl, ?_⟩) | (go_at_call 16; (with_reducible refine (spec_l1In.calls ((rd_T37 l0 x14_1).f0) 1 13 true _ A10.out).mono ?_); rintro e w' ⟨rfl, ⟨nd, rfl⟩⟩) | (go_at_call 16; (with_reducible refine (spec_l1In.calls ((rd_T37 l0 x14_1).f1) 0 100000 false _ A12.out).mono ?_); rintro e w' ⟨rfl, ⟨nd, rfl⟩⟩))
                    go_ret2
                    exact ⟨by first | rfl | (simp [errW_none, errW_some] <;> rfl) | (simp [*, errW_none, errW_some] <;> rfl), by repeat (first | (with_reducible first | exact HB.out | apply below_alloc | apply pw_below_drewN | apply below_drew1 | refine below_set ?_ GE103.out) | exact HB.out)⟩
                · replace c11 := Bool.eq_false_iff.mpr c11
                  subst c11
                  have H1 : (some ((⟨#[]⟩ : ByteArray), false)) = some (r1, r2) := by rw [if_neg (show ¬ (false = true) by decide)] at H; exact H
                  clear H
                  have H := H1
                  clear H1
                  simp only [Option.some.injEq, Prod.mk.injEq] at H
                  obtain ⟨rfl, rfl⟩ := H
                  have p102 : 0 ≤ (x14_1 : Int) := of_decide_eq_true (by first | (with_reducible assumption) | assumption)
                  have q102 : x14_1 < (l0.length : Int) := of_decide_eq_true (by first | (with_reducible assumption) | assumption)
                  obtain ⟨ad102, e102, hx102_0, hx102_1, hx102_2⟩ := at_T37 HR0.out x14_1 p102 q102
                  cases e102
                  replace hx102_0 := (HB.out.cell (World.block_lt_of_cell? w _ hx102_0)).trans hx102_0
                  replace hx102_1 := (HB.out.cell (World.block_lt_of_cell? w _ hx102_1)).trans hx102_1
                  replace hx102_2 := (HB.out.cell (World.block_lt_of_cell? w _ hx102_2)).trans hx102_2
                  replace p102 := eq_true p102
                  replace q102 := eq_true q102
                  go_wp2_with (first | ((with_reducible refine gate_dst (N := 5) rfl ?_); (try (refine gate_guard (by rfl) ?_; dsimp only)); refine box_event ?hg (N := 5) ?hd (cs := #[.int .i64 0, .int .i64 0, .string (⟨#[]⟩ : ByteArray)]) (t := 37) ?hr ?_; (case hd => rfl); (case hg => rfl); (case hr => first | (go_simp; done) | (go_simp; rfl)); intro gb103 hg w21 hbox hb; have n0_ := Aside0.mk (below_step (by repeat (first | (with_reducible first | exact HB.out | apply below_alloc | apply pw_below_drewN | apply below_drew1) | exact HB.out)) hb); have n1_ := Aside0.mk (hbox); have n2_ := Aside0.mk ((by rw [hg]; exact (below_size (by repeat (first | (with_reducible first | exact HB.out | apply below_alloc | apply pw_below_drewN | apply below_drew1) | exact HB.out))) : w.heap.size ≤ gb103)); have n3_ := Aside0.mk ((by rw [hg]; exact (below_size (by repeat (first | (with_reducible first | exact HB.out | apply below_alloc | apply pw_below_drewN | apply below_drew1) | exact HB.out))) : w.heap.size ≤ gb103)); clear HB; have HB := n0_; have BK103 := n1_; have GW103 := n2_; have GE103 := n3_; clear n0_ n1_ n2_ n3_; clear hb hbox hg; have hcz22_0 : w21.cell? ⟨gb103, 0, none⟩ = some (.int .i64 0) := (blk_cell BK103.out 0).trans rfl; have hcz22_1 : w21.cell? ⟨gb103, 1, none⟩ = some (.int .i64 0) := (blk_cell BK103.out 1).trans rfl; have hcz22_2 : w21.cell? ⟨gb103, 2, none⟩ = some (.string (⟨#[]⟩ : ByteArray)) := (blk_cell BK103.out 2).trans rfl; have hfz22_0 := blk_frozen BK103.out 0; have hfz22_1 := blk_frozen BK103.out 1; have hfz22_2 := blk_frozen BK103.out 2) | ((with_reducible refine gate_callee (f := 15) rfl ?_); refine goesL_ (some 21) rfl rfl Tryd.func15 (by kernel_rfl) rfl #[.string ((rd_T37 l0 x14_1).f2), .int .u8 10] rfl (by (try simp only [List.map_toArray, List.map_cons, List.map_nil]); first | done | rfl | (simp only [List.length_drop, List.length_take]; rfl)) ?_; (with_reducible refine (spec_l2Cut.calls k1 ((rd_T37 l0 x14_1).f2) 10 t104 t105 false _ A6.out).mono ?_); rintro e w' ⟨rfl, ⟨nd, rfl⟩⟩; refine ⟨_, rfl, ?_⟩) | (go_at_call 16; (with_reducible refine (spec_l1In.calls ((rd_T37 l0 x14_1).f0) 1 13 false _ A10.out).mono ?_); rintro e w' ⟨rfl, ⟨nd, rfl⟩⟩))
                  go_ret2
                  exact ⟨by first | rfl | (simp [errW_none, errW_some] <;> rfl) | (simp [*, errW_none, errW_some] <;> rfl), by repeat (first | (with_reducible first | exact HB.out | apply below_alloc | apply pw_below_drewN | apply below_drew1 | refine below_set ?_ GE103.out) | exact HB.out)⟩
            · rw [if_neg c5] at H
              exact absurd H (by simp)
          · rw [if_neg c4] at H
            exact absurd H (by simp)
        · rw [if_neg c3] at H
          have c3b0 : decide (x14_1 < (l0.length : Int)) = false := decide_eq_false c3
          clear c3
          replace H := Option.bind_eq_some_iff.mp H
          obtain ⟨t101, A230, H⟩ := H
          replace H : (some (t101, true)) = some (r1, r2) := H
          have A23 := Aside0.mk A230
          clear A230
          simp only [Option.some.injEq, Prod.mk.injEq] at H
          obtain ⟨rfl, rfl⟩ := H
          go_wp2_with (first | ((with_reducible refine gate_callee (f := 17) rfl ?_); refine goesL_ (some 46) rfl rfl Tryd.func17 (by kernel_rfl) rfl #[.slice A0 l0.length c0] rfl (by (try simp only [List.map_toArray, List.map_cons, List.map_nil]); first | done | rfl | (simp only [List.length_drop, List.length_take]; rfl)) ?_; (with_reducible refine (spec_l6Text.calls k1 _ _ l0 t101 _ ?side1 ?side2 A23.out).mono ?_); (case side1 => repeat (first | exact (Kd.C_below HR0.out HB.out) | (with_reducible refine Kd.C_alloc ?_ _) | (with_reducible refine Kd.C_drewN ?_ _) | (with_reducible refine Kd.C_drew ?_))); (case side2 => exact HC0.out); rintro e w24 ⟨rfl, hb⟩; refine ⟨_, rfl, ?_⟩; have n0_ := Aside0.mk (below_step (by repeat (first | (with_reducible first | exact HB.out | apply below_alloc | apply pw_below_drewN | apply below_drew1) | exact HB.out)) hb); clear HB; have HB := n0_; clear n0_; (try clear hb); (try clear hb2); (try clear hk); (try clear hi)))
          go_ret2
          exact ⟨by first | rfl | (simp [errW_none, errW_some] <;> rfl) | (simp [*, errW_none, errW_some] <;> rfl), by repeat (first | (with_reducible first | exact HB.out | apply below_alloc | apply pw_below_drewN | apply below_drew1) | exact HB.out)⟩

end Go.Proofs.YtlkgimnafnmgpaaDoor.G

namespace Go.Proofs.YtlkgimnafnmgpaaDoor.G
open Go.RowKit Go.Proofs.YtlkgimnafnmgpaaDoorW.PrintWords Go.Proofs.YtlkgimnafnmgpaaDoorW.PrintLast Go.Proofs.YtlkgimnafnmgpaaDoorW.PrintMore
attribute [local go_sem] max2_int min2_int max_two min_two max_three min_three max_four min_four   -- for this text's walks alone
set_option linter.unusedVariables false
set_option linter.unusedSimpArgs false

mutual
def spec_ReadCode.l0 : Nat → List (S37) → ByteArray → Option ((List (S37)) × Bool)
  | 0, _, _ => none
  | k + 1, x4, x5 => if x5.toList = ([] : List UInt8) then ((spec_CodeText.f k x4).bind fun bt101 => (if bt101.2 = true then (some (x4, true)) else (some (([] : List (S37)), false)))) else ((spec_l2Cut.f k x5 10).bind fun bt103 => ((spec_l2Cut.f k bt103.1 32).bind fun bt106 => ((spec_l2Cut.f k bt106.2.1 32).bind fun bt109 => (if bt103.2.2 = true then (if bt106.2.2 = true then (if bt109.2.2 = true then (spec_ReadCode.j1 k x4 bt103.2.1 bt106.1 bt109.1 bt109.2.1 (decide ((x4.length : Int) > 3000))) else (spec_ReadCode.j1 k x4 bt103.2.1 bt106.1 bt109.1 bt109.2.1 true)) else (spec_ReadCode.j1 k x4 bt103.2.1 bt106.1 bt109.1 bt109.2.1 true)) else (spec_ReadCode.j1 k x4 bt103.2.1 bt106.1 bt109.1 bt109.2.1 true)))))
def spec_ReadCode.j1 : Nat → List (S37) → ByteArray → ByteArray → ByteArray → ByteArray → Bool → Option ((List (S37)) × Bool)
  | 0, _, _, _, _, _, _ => none
  | k + 1, x4, x7, x9, x12, x13, x52 => if x52 = true then (some (([] : List (S37)), false)) else ((spec_l6Number.f k x9).bind fun t112 => ((spec_l6Number.f k x12).bind fun t113 => (if x4.length < 4398046511104 then (spec_ReadCode.l0 k (x4 ++ [(⟨t112, t113, x13⟩ : S37)]) x7) else (none))))
end
def spec_ReadCode.f (k : Nat) (a0 : ByteArray) : Option ((List (S37)) × Bool) := spec_ReadCode.l0 k ([] : List (S37)) a0
set_option maxHeartbeats 8000000 in
set_option maxRecDepth 100000 in
theorem spec_ReadCode.calls (k : Nat) (a0 : ByteArray) (r1 : List (S37)) (r2 : Bool) (w : World) (h : spec_ReadCode.f k a0 = some (r1, r2)) :
    Calls Tryd.prog 10 #[.string a0] w fun e w' => ∃ v0_ : Value, e = .returned (.tuple #[v0_, .bool r2]) ∧ Kd.R k37 37 w' w.heap.size (fun _ => True) v0_ r1 ∧ Below w.heap.size w w' := by
  have hu37 := Tryd.underlying37
  have HB := Aside0.mk (Below.refl w.heap.size w)
  have H : (spec_ReadCode.l0 k ([] : List (S37)) a0) = some (r1, r2) := h
  clear h
  have H' := Aside0.mk H
  clear H
  go_enter Tryd.func10, Tryd.ntmps10
  go_wp2
  go_loopg [4, 5] k (fun kq v4 v5 w' => ∃ (x4_1 : List (S37)) (x5_1 : ByteArray), v5 = .string x5_1 ∧ Aside0 (spec_ReadCode.l0 kq x4_1 x5_1 = some (r1, r2)) ∧ Aside0 (kq ≤ k) ∧ Aside0 (Kd.R k37 37 w' w.heap.size (fun _ => True) v4 x4_1) ∧ Aside0 (Below w.heap.size w w'))
  case atStart => exact ⟨(([] : List (S37))), (a0), (by first | rfl | (simp; done) | (simp [*]; done)), H', ⟨Nat.le_refl _⟩, ⟨by first | exact Kd.R_nil _ _ _ _ _ | exact Kd.N_nil _ _ _ _ _ | exact Kd.V_nil _ _ _ _ _ | exact Kd.Q_nil _ _ _ _ _ | exact Kd.S_nil _ _ _ _ _⟩, ⟨by repeat (first | (with_reducible first | exact HB.out | apply below_alloc | apply pw_below_drewN | apply below_drew1) | exact HB.out)⟩⟩
  case round =>
    clear H'
    try clear c1
    obtain ⟨x4_1, x5_1, rfl, HA, HK1, HO_4, HB⟩ := hrel
    cases gk with
    | zero => exact absurd HA.out (by simp [spec_ReadCode.l0])
    | succ k1 =>
      have H := HA.out
      clear HA
      simp only [spec_ReadCode.l0] at H
      by_cases c2 : x5_1.toList = ([] : List UInt8)
      · rw [if_pos c2] at H
        have c2b0 : (x5_1.toList == ([] : List UInt8)) = true := beq_iff_eq.mpr c2
        have c2b1 : (x5_1.toList != ([] : List UInt8)) = false := bne_eq_false_iff_eq.mpr c2
        clear c2
        replace H := Option.bind_eq_some_iff.mp H
        obtain ⟨⟨t101, t102⟩, A30, H⟩ := H
        replace H : (if t102 = true then (some (x4_1, true)) else (some (([] : List (S37)), false))) = some (r1, r2) := H
        have A3 := Aside0.mk A30
        clear A30
        by_cases c4 : t102 = true
        · subst c4
          have H1 : (some (x4_1, true)) = some (r1, r2) := by rw [if_pos rfl] at H; exact H
          clear H
          have H := H1
          clear H1
          simp only [Option.some.injEq, Prod.mk.injEq] at H
          obtain ⟨rfl, rfl⟩ := H
          obtain ⟨Ao5, co5, eo5⟩ := Kd.R_slice HO_4.out
          subst eo5
          go_wp2_with (first | ((with_reducible refine gate_callee (f := 6) rfl ?_); refine goesL_ (some 65) rfl rfl Tryd.func6 (by kernel_rfl) rfl #[.slice Ao5 x4_1.length co5] rfl (by (try simp only [List.map_toArray, List.map_cons, List.map_nil]); first | done | rfl | (simp only [List.length_drop, List.length_take]; rfl)) ?_; (with_reducible refine (spec_CodeText.calls k1 _ _ x4_1 t101 true _ ?side1 ?side2 A3.out).mono ?_); (case side1 => repeat (first | exact (Kd.R_reads' HO_4.out).2.2 | (with_reducible refine Kd.C_alloc ?_ _) | (with_reducible refine Kd.C_drewN ?_ _) | (with_reducible refine Kd.C_drew ?_))); (case side2 => exact (Kd.R_reads' HO_4.out).2.1); rintro e w6 ⟨rfl, hb⟩; refine ⟨_, rfl, ?_⟩; have n0_ := Aside0.mk (Kd.R_below (by (with_reducible repeat (first | apply Kd.R_alloc | apply Kd.R_drewN | apply Kd.R_drew)); exact HO_4.out) hb); have n1_ := Aside0.mk (below_step (by repeat (first | (with_reducible first | exact HB.out | apply below_alloc | apply pw_below_drewN | apply below_drew1) | exact HB.out)) hb); clear HO_4; clear HB; have HO_4 := n0_; have HB := n1_; clear n0_ n1_; (try clear hb); (try clear hb2); (try clear hk); (try clear hi)))
          go_ret2
          exact ⟨_, by first | rfl | (simp [errW_none, errW_some] <;> rfl) | (simp [*, errW_none, errW_some] <;> rfl), by (with_reducible repeat (first | apply Kd.R_alloc | apply Kd.R_drewN | apply Kd.R_drew)); exact HO_4.out, by repeat (first | (with_reducible first | exact HB.out | apply below_alloc | apply pw_below_drewN | apply below_drew1) | exact HB.out)⟩
        · replace c4 := Bool.eq_false_iff.mpr c4
          subst c4
          have H1 : (some (([] : List (S37)), false)) = some (r1, r2) := by rw [if_neg (show ¬ (false = true) by decide)] at H; exact H
          clear H
          have H := H1
          clear H1
          simp only [Option.some.injEq, Prod.mk.injEq] at H
          obtain ⟨rfl, rfl⟩ := H
          obtain ⟨Ao7, co7, eo7⟩ := Kd.R_slice HO_4.out
          subst eo7
          go_wp2_with (first | ((with_reducible refine gate_callee (f := 6) rfl ?_); refine goesL_ (some 65) rfl rfl Tryd.func6 (by kernel_rfl) rfl #[.slice Ao7 x4_1.length co7] rfl (by (try simp only [List.map_toArray, List.map_cons, List.map_nil]); first | done | rfl | (simp only [List.length_drop, List.length_take]; rfl)) ?_; (with_reducible refine (spec_CodeText.calls k1 _ _ x4_1 t101 false _ ?side1 ?side2 A3.out).mono ?_); (case side1 => repeat (first | exact (Kd.R_reads' HO_4.out).2.2 | (with_reducible refine Kd.C_alloc ?_ _) | (with_reducible refine Kd.C_drewN ?_ _) | (with_reducible refine Kd.C_drew ?_))); (case side2 => exact (Kd.R_reads' HO_4.out).2.1); rintro e w8 ⟨rfl, hb⟩; refine ⟨_, rfl, ?_⟩; have n0_ := Aside0.mk (Kd.R_below (by (with_reducible repeat (first | apply Kd.R_alloc | apply Kd.R_drewN | apply Kd.R_drew)); exact HO_4.out) hb); have n1_ := Aside0.mk (below_step (by repeat (first | (with_reducible first | exact HB.out | apply below_alloc | apply pw_below_drewN | apply below_drew1) | exact HB.out)) hb); clear HO_4; clear HB; have HO_4 := n0_; have HB := n1_; clear n0_ n1_; (try clear hb); (try clear hb2); (try clear hk); (try clear hi)))
          go_ret2
          exact ⟨_, by first | rfl | (simp [errW_none, errW_some] <;> rfl) | (simp [*, errW_none, errW_some] <;> rfl), by first | exact Kd.R_nil _ _ _ _ _ | exact Kd.N_nil _ _ _ _ _ | exact Kd.V_nil _ _ _ _ _ | exact Kd.Q_nil _ _ _ _ _ | exact Kd.S_nil _ _ _ _ _, by repeat (first | (with_reducible first | exact HB.out | apply below_alloc | apply pw_below_drewN | apply below_drew1) | exact HB.out)⟩
      · rw [if_neg c2] at H
        have c2b0 : (x5_1.toList == ([] : List UInt8)) = false := beq_eq_false_iff_ne.mpr c2
        have c2b1 : (x5_1.toList != ([] : List UInt8)) = true := bne_iff_ne.mpr c2
        replace H := Option.bind_eq_some_iff.mp H
        obtain ⟨⟨t103, t104, t105⟩, A90, H⟩ := H
        replace H : ((spec_l2Cut.f k1 t103 32).bind fun bt106 => ((spec_l2Cut.f k1 bt106.2.1 32).bind fun bt109 => (if t105 = true then (if bt106.2.2 = true then (if bt109.2.2 = true then (spec_ReadCode.j1 k1 x4_1 t104 bt106.1 bt109.1 bt109.2.1 (decide ((x4_1.length : Int) > 3000))) else (spec_ReadCode.j1 k1 x4_1 t104 bt106.1 bt109.1 bt109.2.1 true)) else (spec_ReadCode.j1 k1 x4_1 t104 bt106.1 bt109.1 bt109.2.1 true)) else (spec_ReadCode.j1 k1 x4_1 t104 bt106.1 bt109.1 bt109.2.1 true)))) = some (r1, r2) := H
        have A9 := Aside0.mk A90
        clear A90
        replace H := Option.bind_eq_some_iff.mp H
        obtain ⟨⟨t106, t107, t108⟩, A100, H⟩ := H
        replace H : ((spec_l2Cut.f k1 t107 32).bind fun bt109 => (if t105 = true then (if t108 = true then (if bt109.2.2 = true then (spec_ReadCode.j1 k1 x4_1 t104 t106 bt109.1 bt109.2.1 (decide ((x4_1.length : Int) > 3000))) else (spec_ReadCode.j1 k1 x4_1 t104 t106 bt109.1 bt109.2.1 true)) else (spec_ReadCode.j1 k1 x4_1 t104 t106 bt109.1 bt109.2.1 true)) else (spec_ReadCode.j1 k1 x4_1 t104 t106 bt109.1 bt109.2.1 true))) = some (r1, r2) := H
        have A10 := Aside0.mk A100
        clear A100
        replace H := Option.bind_eq_some_iff.mp H
        obtain ⟨⟨t109, t110, t111⟩, A110, H⟩ := H
        replace H : (if t105 = true then (if t108 = true then (if t111 = true then (spec_ReadCode.j1 k1 x4_1 t104 t106 t109 t110 (decide ((x4_1.length : Int) > 3000))) else (spec_ReadCode.j1 k1 x4_1 t104 t106 t109 t110 true)) else (spec_ReadCode.j1 k1 x4_1 t104 t106 t109 t110 true)) else (spec_ReadCode.j1 k1 x4_1 t104 t106 t109 t110 true)) = some (r1, r2) := H
        have A11 := Aside0.mk A110
        clear A110
        have HC12 := Aside0.mk H
        clear H
        go_upto_region 7 with (first | ((with_reducible refine gate_callee (f := 15) rfl ?_); refine goesL_ (some 22) rfl rfl Tryd.func15 (by kernel_rfl) rfl #[.string x5_1, .int .u8 10] rfl (by (try simp only [List.map_toArray, List.map_cons, List.map_nil]); first | done | rfl | (simp only [List.length_drop, List.length_take]; rfl)) ?_; (with_reducible refine (spec_l2Cut.calls k1 x5_1 10 t103 t104 t105 _ A9.out).mono ?_); rintro e w' ⟨rfl, ⟨nd, rfl⟩⟩; refine ⟨_, rfl, ?_⟩) | ((with_reducible refine gate_callee (f := 15) rfl ?_); refine goesL_ (some 28) rfl rfl Tryd.func15 (by kernel_rfl) rfl #[.string t103, .int .u8 32] rfl (by (try simp only [List.map_toArray, List.map_cons, List.map_nil]); first | done | rfl | (simp only [List.length_drop, List.length_take]; rfl)) ?_; (with_reducible refine (spec_l2Cut.calls k1 t103 32 t106 t107 t108 _ A10.out).mono ?_); rintro e w' ⟨rfl, ⟨nd, rfl⟩⟩; refine ⟨_, rfl, ?_⟩) | ((with_reducible refine gate_callee (f := 15) rfl ?_); refine goesL_ (some 34) rfl rfl Tryd.func15 (by kernel_rfl) rfl #[.string t107, .int .u8 32] rfl (by (try simp only [List.map_toArray, List.map_cons, List.map_nil]); first | done | rfl | (simp only [List.length_drop, List.length_take]; rfl)) ?_; (with_reducible refine (spec_l2Cut.calls k1 t107 32 t109 t110 t111 _ A11.out).mono ?_); rintro e w' ⟨rfl, ⟨nd, rfl⟩⟩; refine ⟨_, rfl, ?_⟩))
        (try simp only [Act.put, List.setIfInBounds_toArray, List.set_cons_zero, List.set_cons_succ])
        go_cut [52] (fun v52 wc => ∃ (kq : Nat) (x52_11 : Bool), v52 = .bool x52_11 ∧ Aside0 (spec_ReadCode.j1 kq x4_1 t104 t106 t109 t110 x52_11 = some (r1, r2)) ∧ Aside0 (kq ≤ k1) ∧ Aside0 (Kd.R k37 37 wc w.heap.size (fun _ => True) u4 x4_1) ∧ Aside0 (Below w.heap.size w wc))
        case first =>
          have H := HC12.out
          clear HC12
          by_cases c13 : t105 = true
          · subst c13
            have H1 : (if t108 = true then (if t111 = true then (spec_ReadCode.j1 k1 x4_1 t104 t106 t109 t110 (decide ((x4_1.length : Int) > 3000))) else (spec_ReadCode.j1 k1 x4_1 t104 t106 t109 t110 true)) else (spec_ReadCode.j1 k1 x4_1 t104 t106 t109 t110 true)) = some (r1, r2) := by rw [if_pos rfl] at H; exact H
            clear H
            have H := H1
            clear H1
            by_cases c14 : t108 = true
            · subst c14
              have H1 : (if t111 = true then (spec_ReadCode.j1 k1 x4_1 t104 t106 t109 t110 (decide ((x4_1.length : Int) > 3000))) else (spec_ReadCode.j1 k1 x4_1 t104 t106 t109 t110 true)) = some (r1, r2) := by rw [if_pos rfl] at H; exact H
              clear H
              have H := H1
              clear H1
              by_cases c15 : t111 = true
              · subst c15
                have H1 : (spec_ReadCode.j1 k1 x4_1 t104 t106 t109 t110 (decide ((x4_1.length : Int) > 3000))) = some (r1, r2) := by rw [if_pos rfl] at H; exact H
                clear H
                have H := H1
                clear H1
                have H' := Aside0.mk H
                clear H
                obtain ⟨Ao16, co16, eo16⟩ := Kd.R_slice HO_4.out
                subst eo16
                go_wp2
                go_meet
                case rel => exact ⟨_, (decide ((x4_1.length : Int) > 3000)), (by first | rfl | (simp; done) | (simp [*]; done)), H', ⟨by have := HK1.out; first | omega | exact Nat.le_refl _⟩, ⟨by (with_reducible repeat (first | apply Kd.R_alloc | apply Kd.R_drewN | apply Kd.R_drew)); exact HO_4.out⟩, ⟨by repeat (first | (with_reducible first | exact HB.out | apply below_alloc | apply pw_below_drewN | apply below_drew1) | exact HB.out)⟩⟩
              · replace c15 := Bool.eq_false_iff.mpr c15
                subst c15
                have H1 : (spec_ReadCode.j1 k1 x4_1 t104 t106 t109 t110 true) = some (r1, r2) := by rw [if_neg (show ¬ (false = true) by decide)] at H; exact H
                clear H
                have H := H1
                clear H1
                have H' := Aside0.mk H
                clear H
                go_wp2
                go_meet
                case rel => exact ⟨_, (true), (by first | rfl | (simp; done) | (simp [*]; done)), H', ⟨by have := HK1.out; first | omega | exact Nat.le_refl _⟩, ⟨by (with_reducible repeat (first | apply Kd.R_alloc | apply Kd.R_drewN | apply Kd.R_drew)); exact HO_4.out⟩, ⟨by repeat (first | (with_reducible first | exact HB.out | apply below_alloc | apply pw_below_drewN | apply below_drew1) | exact HB.out)⟩⟩
            · replace c14 := Bool.eq_false_iff.mpr c14
              subst c14
              have H1 : (spec_ReadCode.j1 k1 x4_1 t104 t106 t109 t110 true) = some (r1, r2) := by rw [if_neg (show ¬ (false = true) by decide)] at H; exact H
              clear H
              have H := H1
              clear H1
              have H' := Aside0.mk H
              clear H
              go_wp2
              go_meet
              case rel => exact ⟨_, (true), (by first | rfl | (simp; done) | (simp [*]; done)), H', ⟨by have := HK1.out; first | omega | exact Nat.le_refl _⟩, ⟨by (with_reducible repeat (first | apply Kd.R_alloc | apply Kd.R_drewN | apply Kd.R_drew)); exact HO_4.out⟩, ⟨by repeat (first | (with_reducible first | exact HB.out | apply below_alloc | apply pw_below_drewN | apply below_drew1) | exact HB.out)⟩⟩
          · replace c13 := Bool.eq_false_iff.mpr c13
            subst c13
            have H1 : (spec_ReadCode.j1 k1 x4_1 t104 t106 t109 t110 true) = some (r1, r2) := by rw [if_neg (show ¬ (false = true) by decide)] at H; exact H
            clear H
            have H := H1
            clear H1
            have H' := Aside0.mk H
            clear H
            go_wp2
            go_meet
            case rel => exact ⟨_, (true), (by first | rfl | (simp; done) | (simp [*]; done)), H', ⟨by have := HK1.out; first | omega | exact Nat.le_refl _⟩, ⟨by (with_reducible repeat (first | apply Kd.R_alloc | apply Kd.R_drewN | apply Kd.R_drew)); exact HO_4.out⟩, ⟨by repeat (first | (with_reducible first | exact HB.out | apply below_alloc | apply pw_below_drewN | apply below_drew1) | exact HB.out)⟩⟩
        case rest =>
          clear HC12
          try clear c1
          try clear c2
          try clear c2b0
          try clear c2b1
          try clear p2
          try clear c4
          try clear c6
          try clear c10
          try clear c13
          try clear c14
          try clear c15
          obtain ⟨kq, x52_11, rfl, HA, HJ11, HO_4, HB⟩ := hcut
          cases kq with
          | zero => exact absurd HA.out (by simp [spec_ReadCode.j1])
          | succ kj11 =>
            have H := HA.out
            clear HA
            simp only [spec_ReadCode.j1] at H
            by_cases c17 : x52_11 = true
            · subst c17
              have H1 : (some (([] : List (S37)), false)) = some (r1, r2) := by rw [if_pos rfl] at H; exact H
              clear H
              have H := H1
              clear H1
              simp only [Option.some.injEq, Prod.mk.injEq] at H
              obtain ⟨rfl, rfl⟩ := H
              go_wp2
              go_ret2
              exact ⟨_, by first | rfl | (simp [errW_none, errW_some] <;> rfl) | (simp [*, errW_none, errW_some] <;> rfl), by first | exact Kd.R_nil _ _ _ _ _ | exact Kd.N_nil _ _ _ _ _ | exact Kd.V_nil _ _ _ _ _ | exact Kd.Q_nil _ _ _ _ _ | exact Kd.S_nil _ _ _ _ _, by repeat (first | (with_reducible first | exact HB.out | apply below_alloc | apply pw_below_drewN | apply below_drew1) | exact HB.out)⟩
            · replace c17 := Bool.eq_false_iff.mpr c17
              subst c17
              have H1 : ((spec_l6Number.f kj11 t106).bind fun t112 => ((spec_l6Number.f kj11 t109).bind fun t113 => (if x4_1.length < 4398046511104 then (spec_ReadCode.l0 kj11 (x4_1 ++ [(⟨t112, t113, t110⟩ : S37)]) t104) else (none)))) = some (r1, r2) := by rw [if_neg (show ¬ (false = true) by decide)] at H; exact H
              clear H
              have H := H1
              clear H1
              replace H := Option.bind_eq_some_iff.mp H
              obtain ⟨t112, A180, H⟩ := H
              replace H : ((spec_l6Number.f kj11 t109).bind fun t113 => (if x4_1.length < 4398046511104 then (spec_ReadCode.l0 kj11 (x4_1 ++ [(⟨t112, t113, t110⟩ : S37)]) t104) else (none))) = some (r1, r2) := H
              have A18 := Aside0.mk A180
              clear A180
              replace H := Option.bind_eq_some_iff.mp H
              obtain ⟨t113, A190, H⟩ := H
              replace H : (if x4_1.length < 4398046511104 then (spec_ReadCode.l0 kj11 (x4_1 ++ [(⟨t112, t113, t110⟩ : S37)]) t104) else (none)) = some (r1, r2) := H
              have A19 := Aside0.mk A190
              clear A190
              by_cases c20 : x4_1.length < 4398046511104
              · rw [if_pos c20] at H
                have LMc20 := Aside0.mk c20
                clear c20
                obtain ⟨y114, hy114⟩ : ∃ y_ : List (S37), y_ = (x4_1 ++ [(⟨t112, t113, t110⟩ : S37)]) := ⟨_, rfl⟩
                replace H : (spec_ReadCode.l0 kj11 y114 t104) = some (r1, r2) := by first | (rw [hy114]; with_reducible exact H) | (have H2_ := (Option.bind_some _ _).symm.trans H; rw [hy114]; with_reducible exact H2_) | (have H2_ := (Option.bind_some _ _).symm.trans H; with_reducible exact H2_) | with_reducible exact H | (rw [hy114]; exact H) | exact H
                have Ny114 := Aside0.mk hy114
                clear hy114
                have H' := Aside0.mk H
                clear H
                go_wp2_with (first | ((with_reducible refine gate_callee (f := 26) rfl ?_); refine goesL_ (some 55) rfl rfl Tryd.func26 (by kernel_rfl) rfl #[.string t106] rfl (by (try simp only [List.map_toArray, List.map_cons, List.map_nil]); first | done | rfl | (simp only [List.length_drop, List.length_take]; rfl)) ?_; (with_reducible refine (spec_l6Number.calls kj11 t106 t112 _ A18.out).mono ?_); rintro e w' ⟨rfl, ⟨nd, rfl⟩⟩; refine ⟨_, rfl, ?_⟩) | ((with_reducible refine gate_callee (f := 26) rfl ?_); refine goesL_ (some 57) rfl rfl Tryd.func26 (by kernel_rfl) rfl #[.string t109] rfl (by (try simp only [List.map_toArray, List.map_cons, List.map_nil]); first | done | rfl | (simp only [List.length_drop, List.length_take]; rfl)) ?_; (with_reducible refine (spec_l6Number.calls kj11 t109 t113 _ A19.out).mono ?_); rintro e w' ⟨rfl, ⟨nd, rfl⟩⟩; refine ⟨_, rfl, ?_⟩) | ((with_reducible refine gate_builtin (b := .append) (xs := #[.tmp 53, .tmp 60]) rfl ?_); (try (refine gate_guard (by rfl) ?_; dsimp only)); at_builtin; refine Kd.R_append k37 (w0 := w) w.heap.size rfl (.tmp 53) (.tmp 60) 26 37 (.agg #[(.int .i64 0), (.int .i64 0), (.string ⟨#[]⟩)]) 32 rfl Tryd.underlying26 info37 rfl (by decide) (by omega) u4 x4_1 (⟨t112, t113, t110⟩ : S37) [.int .i64 t112, .int .i64 t113, .string t110] (fun _ => True) (fun _ => False) rfl rfl ?aP (fun _ hk => hk.elim) ?aF ?aO ?aB ?aS ?aL ?_; (case aP => exact k37_mkM _ _ _ (⟨t112, t113, t110⟩ : S37)); (case aB => exact (by repeat (first | (with_reducible first | exact HB.out | apply below_alloc | apply pw_below_drewN | apply below_drew1) | exact HB.out))); (case aF => exact (fun _ _ => trivial)); (case aO => exact (by (with_reducible repeat (first | apply Kd.R_alloc | apply Kd.R_drewN | apply Kd.R_drew)); exact HO_4.out)); (case aS => exact (below_size (by repeat (first | (with_reducible first | exact HB.out | apply below_alloc | apply pw_below_drewN | apply below_drew1) | exact HB.out)))); (case aL => have := LMc20.out; omega); intro v115 w21 ho hb hg hat; rw [← Ny114.out] at ho; have n0_ := Aside0.mk (hb); have n1_ := Aside0.mk (ho); clear HB; clear HO_4; have HB := n0_; have HO116 := n1_; clear n0_ n1_; clear ho hb hg hat))
                go_roundg kj11
                case measure => have := HK1.out; have := HJ11.out; omega
                case rel => exact ⟨(y114), (t104), (by first | rfl | (simp; done) | (simp [*]; done)), H', ⟨by have := HK1.out; have := HJ11.out; omega⟩, ⟨by (with_reducible repeat (first | apply Kd.R_alloc | apply Kd.R_drewN | apply Kd.R_drew)); exact HO116.out⟩, ⟨by repeat (first | (with_reducible first | exact HB.out | apply below_alloc | apply pw_below_drewN | apply below_drew1) | exact HB.out)⟩⟩
              · rw [if_neg c20] at H
                exact absurd H (by simp)

end Go.Proofs.YtlkgimnafnmgpaaDoor.G

namespace Go.Proofs.YtlkgimnafnmgpaaDoor.G
open Go.RowKit Go.Shelf Go.Proofs.YtlkgimnafnmgpaaDoorW.PrintWords
set_option linter.unusedVariables false

def strings_Cut.f (a0 : ByteArray) (a1 : ByteArray) : Option (ByteArray × ByteArray × Bool) :=
  if a0.size < 4294967281 then some (⟨(Lib.cut a0.data.toList a1.data.toList).1.toArray⟩, ⟨(Lib.cut a0.data.toList a1.data.toList).2.1.toArray⟩, (Lib.cut a0.data.toList a1.data.toList).2.2) else none
theorem strings_Cut.calls (a0 : ByteArray) (a1 : ByteArray) (r1 : ByteArray) (r2 : ByteArray) (r3 : Bool) (w : World) (h : strings_Cut.f a0 a1 = some (r1, r2, r3)) (hE : LibMet w) :
    Calls Tryd.prog 27 #[.string a0, .string a1] w fun e w' => e = .returned (.tuple #[.string r1, .string r2, .bool r3]) ∧ Below w.heap.size w w' := by
  unfold strings_Cut.f at h
  by_cases c : a0.size < 4294967281
  case neg => rw [if_neg c] at h; cases h
  rw [if_pos c] at h
  injection h with h
  simp only [Prod.mk.injEq] at h
  obtain ⟨rfl, rfl, rfl⟩ := h
  obtain ⟨m, hm⟩ := hE.mach
  refine (Any.strings_Cut { Tryd.laysM145 with } a0 a1 m w c hm).mono ?_
  rintro e w' ⟨rfl, n, rfl⟩
  exact ⟨rfl, by repeat (first | exact Below.refl _ _ | apply pw_below_drewN)⟩
end Go.Proofs.YtlkgimnafnmgpaaDoor.G

namespace Go.Proofs.YtlkgimnafnmgpaaDoor.G
open Go.RowKit Go.Shelf Go.Proofs.YtlkgimnafnmgpaaDoorW.PrintWords
set_option linter.unusedVariables false

def strings_SplitN.f (a0 : ByteArray) (a1 : ByteArray) (a2 : Int) : Option (List ByteArray) :=
  if a0.size < 4294967281 ∧ 1 ≤ a1.size ∧ 1 ≤ a2 ∧ a2 ≤ 9223372036854775807 then some (Lib.splitB a1 0 (min a2.toNat (a0.size + 1) - 1) a0) else none
theorem strings_SplitN.calls (a0 : ByteArray) (a1 : ByteArray) (a2 : Int) (r : List ByteArray) (w : World) (h : strings_SplitN.f a0 a1 a2 = some r) (hE : LibMet w) :
    Calls Tryd.prog 28 #[.string a0, .string a1, .int .i64 a2] w fun e w' => ∃ v0_ : Value, e = .returned (v0_) ∧ Kd.R Kd.string 9 w' w.heap.size (fun _ => True) v0_ r ∧ Below w.heap.size w w' := by
  unfold strings_SplitN.f at h
  by_cases c : a0.size < 4294967281 ∧ 1 ≤ a1.size ∧ 1 ≤ a2 ∧ a2 ≤ 9223372036854775807
  case neg => rw [if_neg c] at h; cases h
  rw [if_pos c] at h
  obtain rfl := Option.some.inj h
  obtain ⟨c1, c2, c3, c4⟩ := c
  obtain ⟨n, rfl⟩ : ∃ n : Nat, a2 = n := ⟨a2.toNat, by omega⟩
  rw [Int.toNat_natCast]
  obtain ⟨m, hm⟩ := hE.mach
  refine (Any.strings_SplitN { Tryd.laysM147 with } Tryd.laysM147.i9 a0 a1 n m w c1 hm c2 (by omega) (by omega)).mono ?_
  rintro e w' ⟨rfl, rfl⟩
  have hl := Lib.splitB_length_le a1 0 (min n (a0.size + 1) - 1) a0
  have hl2 : (Lib.splitB a1 0 (min n (a0.size + 1) - 1) a0).length ≤ min n (a0.size + 1) := by omega
  have hcap : min n (a0.size + 1) ≤ 4294967281 := by omega
  refine ⟨_, rfl, Kd.R_of_own ?_ (fun _ _ => trivial), by repeat (first | exact Below.refl _ _ | apply below_alloc)⟩
  generalize min n (a0.size + 1) = N at *
  generalize Lib.splitB a1 0 (N - 1) a0 = ps at *
  refine ⟨by simp [encs], .inr ⟨w.heap.size, N, Lib.cellsOf ps N, rfl, Nat.le_refl _, ?_, hl2, ?_, ?_, ?_⟩⟩
  · show (w.heap.push _)[w.heap.size]? = _; exact Array.getElem?_push_size
  · exact Nat.le_trans hcap (by decide)
  · rw [Lib.cellsOf_size hl2]; simp
  · simp [Lib.cellsOf, encs]
end Go.Proofs.YtlkgimnafnmgpaaDoor.G

namespace Go.Proofs.YtlkgimnafnmgpaaDoor.G
open Go.RowKit Go.Shelf Go.Proofs.YtlkgimnafnmgpaaDoorW.PrintWords
set_option linter.unusedVariables false

def atoiNum (s : ByteArray) : Int := match Lib.atoiAll s.data.toList with
  | .ok v => v
  | .range => Lib.atoiSat s.data.toList
  | _ => 0
def atoiErr (s : ByteArray) : Option Int := match Lib.atoiAll s.data.toList with
  | .ok _ => none
  | .range => some 1
  | _ => some 2
def ErrIs (r : Option Int) (ev : Value) : Prop := (r = none ∧ ev = .nilIface) ∨ (r ≠ none ∧ ∃ t p, ev = .iface t p)
def strconv_Atoi_29.f (a0 : ByteArray) : Option (Int × Option Int) := if a0.size ≤ 281474976710656 then some (atoiNum a0, atoiErr a0) else none
theorem strconv_Atoi_29.calls (a0 : ByteArray) (r1 : Int) (r2 : Option Int) (w : World) (h : strconv_Atoi_29.f a0 = some (r1, r2)) (hE : LibMet w) :
    Calls Tryd.prog 29 #[.string a0] w fun e w' => ∃ ev, e = .returned (.tuple #[.int .i64 r1, ev]) ∧ ErrIs r2 ev ∧ Below w.heap.size w w' := by
  unfold strconv_Atoi_29.f at h
  by_cases c : a0.size ≤ 281474976710656
  case neg => rw [if_neg c] at h; cases h
  rw [if_pos c] at h
  injection h with h
  simp only [Prod.mk.injEq] at h
  obtain ⟨rfl, rfl⟩ := h
  unfold atoiNum atoiErr
  cases ha : Lib.atoiAll a0.data.toList with
  | ok v =>
    refine (Any.strconv_Atoi_ok Tryd.laysC172 a0 (by omega) v ha w).mono ?_
    rintro e w' ⟨rfl, hw⟩
    refine ⟨_, rfl, .inl ⟨rfl, rfl⟩, ?_⟩
    rcases hw with rfl | ⟨t, rfl⟩
    · exact Below.refl _ _
    · exact Lib.bytesWorld_below _ _ _
  | range =>
    obtain ⟨tp, p, hv⟩ := hE.range
    refine (Any.strconv_Atoi_range_var Tryd.laysC172 a0 c ha tp p w hv).mono ?_
    rintro e w' ⟨N, rfl, _, _, hb⟩
    exact ⟨_, rfl, .inr ⟨by simp, _, _, rfl⟩, hb⟩
  | _ =>
    obtain ⟨tp, p, hv⟩ := hE.wrong
    refine (Any.strconv_Atoi_syntax_var Tryd.laysC172 a0 c ha tp p w hv).mono ?_
    rintro e w' ⟨N, rfl, _, _, hb⟩
    exact ⟨_, rfl, .inr ⟨by simp, _, _, rfl⟩, hb⟩
end Go.Proofs.YtlkgimnafnmgpaaDoor.G

namespace Go.Proofs
open Go.Shelf
def Tryd.lays166_ren : Ren := ⟨fun n => if n = 166 then 22 else if n = 240 then 34 else if n = 276 then 42 else n, fun n => if n = 37 then 46 else if n = 70 then 45 else if n = 72 then 48 else if n = 75 then 50 else if n = 80 then 54 else if n = 164 then 66 else n, fun n => n⟩
set_option maxRecDepth 100000 in
theorem Tryd.lays166 : Lays.n166 Tryd.prog Tryd.lays166_ren := by
  constructor
  all_goals first | kernel_rfl | (intro w; kernel_rfl)
def Tryd.lays169_ren : Go.Shelf.Ren := ⟨fun | 169 => 24 | n => n, fun | 70 => 45 | 9 => 9 | 0 => 0 | 72 => 48 | 37 => 46 | 127 => 62 | 3 => 3 | 5 => 5 | n => n, fun | n => n⟩
theorem Tryd.lays169 : Go.Proofs.Lays.n169 Tryd.prog Tryd.lays169_ren := {
 mixed := by kernel_rfl
 f169 := Tryd.func24.trans (congrArg some (by kernel_rfl))
 t0 := Tryd.underlying0
 a0 := Tryd.isAgg0
 z0 := Tryd.sizeOf0
 v0 := Tryd.zeroValue0
 t3 := Tryd.underlying3
 a3 := Tryd.isAgg3
 z3 := Tryd.sizeOf3
 v3 := Tryd.zeroValue3
 t9 := Tryd.underlying9
 a9 := Tryd.isAgg9
 z9 := Tryd.sizeOf9
 v9 := Tryd.zeroValue9
 t37 := Tryd.underlying46
 a37 := Tryd.isAgg46
 z37 := Tryd.sizeOf46
 v37 := Tryd.zeroValue46
 t70 := Tryd.underlying45
 a70 := Tryd.isAgg45
 z70 := Tryd.sizeOf45
 v70 := Tryd.zeroValue45
 t72 := Tryd.underlying48
 a72 := Tryd.isAgg48
 z72 := Tryd.sizeOf48
 v72 := Tryd.zeroValue48
 t127 := Tryd.underlying62
 a127 := Tryd.isAgg62
 z127 := Tryd.sizeOf62
 v127 := Tryd.zeroValue62 }
end Go.Proofs
namespace Go.Proofs.YtlkgimnafnmgpaaDoor.G
open Go.RowKit Go.Shelf Go.Proofs.YtlkgimnafnmgpaaDoorW.PrintWords
set_option linter.unusedVariables false

theorem z5 (w : World) : (Go.sizeOf 5).run Tryd.prog w = .ok 1 w := by kernel_rfl
theorem extra166 : Builder.Extra Tryd.prog Tryd.lays166_ren where
  sizeBuilder := by kernel_rfl
  liesBuilder := by kernel_rfl
  t5 := by kernel_rfl
  a5 := fun w => by kernel_rfl
  z5 := fun w => by kernel_rfl
  v5 := fun w => by kernel_rfl
  infoByte := by kernel_rfl
  cellsByte := by kernel_rfl
  sizeByte := by kernel_rfl
  neB5 := by decide
theorem extra169 : Builder.Extra Tryd.prog Tryd.lays169_ren where
  sizeBuilder := by kernel_rfl
  liesBuilder := by kernel_rfl
  t5 := by kernel_rfl
  a5 := fun w => by kernel_rfl
  z5 := fun w => by kernel_rfl
  v5 := fun w => by kernel_rfl
  infoByte := by kernel_rfl
  cellsByte := by kernel_rfl
  sizeByte := by kernel_rfl
  neB5 := by decide

def Bld (base b : Nat) (acc : ByteArray) (W : World) : Prop :=
  Lib.IsBuilderF 48 5 base b (Lib.strCells acc) W ∧ (acc.size = 0 → W.heap[b]? = some (.cells #[.pointer none, .slice none 0 0] 48 (0, 0)))

theorem Bld.step {base b : Nat} {acc : ByteArray} {W W1 : World} (h : Bld base b acc W) (hm : ∀ (k : Nat) (c : Array Value) (t : TypeId) (f : Nat × Nat), W.heap[k]? = some (Obj.cells c t f) → t ≠ 37 → W1.heap[k]? = W.heap[k]?) : Bld base b acc W1 := by
  have at_ : ∀ p, Lib.BuilderAtF 48 5 base b p (Lib.strCells acc) W → Lib.BuilderAtF 48 5 base b p (Lib.strCells acc) W1 := by
    rintro p ⟨hB, v, hb, hown, hne⟩
    refine ⟨hB, v, (hm b _ _ _ hb (by decide)).trans hb, ⟨hown.1, ?_⟩, hne⟩
    rcases hown.2 with h0 | ⟨g, cap, cur, fz, h1, h2, h3, h4⟩
    · exact .inl h0
    · exact .inr ⟨g, cap, cur, fz, h1, h2, (hm g _ _ _ h3 (by decide)).trans h3, h4⟩
  refine ⟨h.1.elim (fun x => .inl (at_ _ x)) (fun x => .inr (at_ _ x)), fun h0 => ?_⟩
  have hb := h.2 h0
  exact (hm b _ _ _ hb (by decide)).trans hb
theorem Bld.below {base b : Nat} {acc : ByteArray} {W W1 : World} (h : Bld base b acc W) (hb : Below W.heap.size W W1) : Bld base b acc W1 :=
  h.step (fun k c t f hk _ => hb.block k (by
    rcases Nat.lt_or_ge k W.heap.size with h' | h'
    · exact h'
    · rw [Array.getElem?_eq_none h'] at hk; cases hk))
theorem Bld.set {base b g j : Nat} {acc : ByteArray} {W : World} {cs : Array Value} (h : Bld base b acc W) (hg : W.heap[g]? = some (.cells cs 37 (0, 0))) (v : Value) : Bld base b acc (W.setCell ⟨g, j, none⟩ v) :=
  h.step (fun k c t f hk ht => Below.heap_setCell W ⟨g, j, none⟩ v k (fun e => by
    subst e
    rw [hg] at hk
    injection hk with hk
    injection hk with _ h2 _
    exact ht h2.symm))

theorem write (base b : Nat) (acc s : ByteArray) (w : World) (h : Bld base b acc w) (hlen : acc.size + s.size ≤ 140737488355328) (hs : 0 < s.size) (hBw : base ≤ w.heap.size) :
    Calls Tryd.prog 22 #[.pointer (some ⟨b, 0, none⟩), .string s] w fun e w' => e = .returned (.tuple #[.int .i64 s.size, .nilIface]) ∧ Bld base b (acc ++ s) w' ∧ Below base w w' ∧ Lib.OthersKept 5 (some b) w w' := by
  refine (Any.Builder_WriteString_k Tryd.lays166 extra166 base b (Lib.strCells acc) s w h.1 (by rw [Lib.strCells_length]; exact hlen) hBw).mono ?_
  rintro e w' ⟨he, hb, hbel, hk⟩
  have e1 : Lib.strCells (acc ++ s) = Lib.strCells acc ++ Lib.strCells s := by simp [Lib.strCells]
  exact ⟨he, ⟨by rw [e1]; exact .inr hb, fun h0 => by rw [ByteArray.size_append] at h0; omega⟩, hbel, hk⟩

theorem told (base b : Nat) (acc : ByteArray) (w : World) (h : Bld base b acc w) :
    Calls Tryd.prog 24 #[.pointer (some ⟨b, 0, none⟩)] w fun e w' => e = .returned (.string acc) ∧ Below base w w' := by
  obtain ⟨⟨l⟩⟩ := acc
  by_cases h0 : (⟨⟨l⟩⟩ : ByteArray).size = 0
  · have hl : l = [] := List.eq_nil_of_length_eq_zero h0
    subst hl
    have hb := h.2 h0
    have hA : Lib.BuilderAtF 48 5 base b (.pointer none) [] w := by
      rcases h.1 with h1 | h1
      · exact h1
      · have := h1.cell0
        rw [show w.cell? ⟨b, 0, none⟩ = some (.pointer none) by simp [World.cell?, hb]] at this
        cases this
    refine (Any.Builder_String_nil_f Tryd.lays169 extra169 base b (.pointer none) w hb hA).mono ?_
    rintro e w' ⟨he, _, hbel⟩
    exact ⟨he, hbel⟩
  · refine (Any.Builder_String_f Tryd.lays169 extra169 base b l w h.1 (fun e => h0 (by subst e; rfl))).mono ?_
    rintro e w' ⟨he, _, hbel⟩
    exact ⟨he, hbel⟩
theorem Bld.new {base b : Nat} {W : World} (hB : base ≤ b) (hb : W.heap[b]? = some (.cells #[.pointer none, .slice none 0 0] 48 (0, 0))) : Bld base b (⟨#[]⟩ : ByteArray) W :=
  ⟨.inl ⟨hB, .slice none 0 0, hb, World.ownsRowF_nil _ _ _ _, by simp [Value.ownBlock]⟩, fun _ => hb⟩
theorem Bld.set3 {base b g : Nat} {acc : ByteArray} {W : World} {a1 a2 a3 : Value} (h : Bld base b acc W) (hg : W.heap[g]? = some (.cells #[a1, a2, a3] 37 (0, 0))) (x y z : Value) : Bld base b acc (((W.setCell ⟨g, 0, none⟩ x).setCell ⟨g, 1, none⟩ y).setCell ⟨g, 2, none⟩ z) :=
  Bld.set (Bld.set (Bld.set h hg x) (blk_put hg 0 x rfl) y) (blk_put (blk_put hg 0 x rfl) 1 y rfl) z
theorem Bld.ne {base b g : Nat} {acc : ByteArray} {W : World} {cs : Array Value} (h : Bld base b acc W) (hg : W.heap[g]? = some (.cells cs 37 (0, 0))) : some g ≠ some b := by
  intro e
  injection e with e
  subst e
  rcases h.1 with ⟨_, v, hb, _⟩ | ⟨_, v, hb, _⟩ <;> (rw [hg] at hb; injection hb with hb; injection hb with _ h2 _; exact absurd h2 (by decide))
def strings_Builder_WriteString.f (acc s : ByteArray) : Option ByteArray := if acc.size + s.size ≤ 140737488355328 then some (acc ++ s) else none
def strings_Builder_String.f (acc : ByteArray) : Option ByteArray := some acc
theorem strings_Builder_WriteString.calls (base b : Nat) (acc s t : ByteArray) (w : World) (h : Bld base b acc w) (hf : strings_Builder_WriteString.f acc s = some t) (hs : 0 < s.size) (hBw : base ≤ w.heap.size) :
    Calls Tryd.prog 22 #[.pointer (some ⟨b, 0, none⟩), .string s] w fun e w' => e = .returned (.tuple #[.int .i64 s.size, .nilIface]) ∧ Bld base b t w' ∧ Below base w w' ∧ Lib.OthersKept 5 (some b) w w' := by
  unfold strings_Builder_WriteString.f at hf
  by_cases c : acc.size + s.size ≤ 140737488355328
  · rw [if_pos c] at hf
    obtain rfl := Option.some.inj hf
    exact write base b acc s w h c hs hBw
  · rw [if_neg c] at hf; cases hf
theorem strings_Builder_String.calls (base b : Nat) (acc t : ByteArray) (w : World) (h : Bld base b acc w) (hf : strings_Builder_String.f acc = some t) :
    Calls Tryd.prog 24 #[.pointer (some ⟨b, 0, none⟩)] w fun e w' => e = .returned (.string t) ∧ Below base w w' := by
  obtain rfl := Option.some.inj hf
  exact told base b acc w h
end Go.Proofs.YtlkgimnafnmgpaaDoor.G

namespace Go.Proofs.YtlkgimnafnmgpaaDoor.G
open Go.RowKit Go.Proofs.YtlkgimnafnmgpaaDoorW.PrintWords Go.Proofs.YtlkgimnafnmgpaaDoorW.PrintLast Go.Proofs.YtlkgimnafnmgpaaDoorW.PrintMore
attribute [local go_sem] max2_int min2_int max_two min_two max_three min_three max_four min_four   -- for this text's walks alone
set_option linter.unusedVariables false
set_option linter.unusedSimpArgs false

mutual
def impl_CodeText.j0 : Nat → List (S37) → Bool → Option (ByteArray × Bool)
  | 0, _, _ => none
  | k + 1, x0, x13 => if x13 = true then (some ((⟨#[]⟩ : ByteArray), false)) else (impl_CodeText.l0 k (⟨#[]⟩ : ByteArray) x0 (x0.length : Int) 0)
def impl_CodeText.l0 : Nat → ByteArray → List (S37) → Int → Int → Option (ByteArray × Bool)
  | 0, _, _, _, _ => none
  | k + 1, x4, x15, x16, x17 => if x17 < x16 then (if 0 ≤ x17 then (if x17 < (x15.length : Int) then ((strconv_Itoa_23.f ((rd_T37 x15 x17).f0)).bind fun t104 => (if t104.size + 1 ≤ 9223372036854775807 then ((strconv_Itoa_23.f ((rd_T37 x15 x17).f1)).bind fun t105 => (if (t104 ++ (⟨#[32]⟩ : ByteArray)).size + t105.size ≤ 9223372036854775807 then (if ((t104 ++ (⟨#[32]⟩ : ByteArray)) ++ t105).size + 1 ≤ 9223372036854775807 then (if (((t104 ++ (⟨#[32]⟩ : ByteArray)) ++ t105) ++ (⟨#[32]⟩ : ByteArray)).size + ((rd_T37 x15 x17).f2).size ≤ 9223372036854775807 then (if ((((t104 ++ (⟨#[32]⟩ : ByteArray)) ++ t105) ++ (⟨#[32]⟩ : ByteArray)) ++ ((rd_T37 x15 x17).f2)).size + 1 ≤ 9223372036854775807 then ((strings_Builder_WriteString.f x4 (((((t104 ++ (⟨#[32]⟩ : ByteArray)) ++ t105) ++ (⟨#[32]⟩ : ByteArray)) ++ ((rd_T37 x15 x17).f2)) ++ (⟨#[10]⟩ : ByteArray))).bind fun t106 => (impl_CodeText.l0 k t106 x15 x16 (wrap64 (x17 + 1)))) else (none)) else (none)) else (none)) else (none))) else (none))) else (none)) else (none)) else ((strings_Builder_String.f x4).bind fun t107 => (some (t107, true)))
end
def impl_CodeText.f (k : Nat) (l0 : List (S37)) : Option (ByteArray × Bool) := if (l0.length : Int) > 3000 then (impl_CodeText.j0 k l0 true) else ((impl_Instr_19.f l0 0).bind fun t101 => (impl_CodeText.j0 k l0 t101))
def impl_CodeText.T7 : Bool × List (List Nat × List Nat) := (true, [([], []), ([0], [0]), ([1], [1]), ([2], [2]), ([], []), ([4], [4]), ([5, 2], [5]), ([3, 6], [3, 6]), ([7], [7]), ([], []), ([9], [9]), ([8, 10], [8, 10]), ([11], [11]), ([12, 6], [12])])
def impl_CodeText.B7 : List Nat := [0, 1, 3, 7, 0, 16, 55, 127, 255, 0, 512, 2047, 4095, 8191]
theorem impl_CodeText.tab7 : rtab .any (opsOf Tryd.f8 7) = impl_CodeText.T7 := by kernel_rfl
theorem impl_CodeText.bits7 : waitsOk impl_CodeText.T7.2 impl_CodeText.B7 = true := by kernel_rfl
set_option maxHeartbeats 8000000 in
set_option maxRecDepth 100000 in
theorem impl_CodeText.calls (k : Nat) (A0 : Option Addr) (c0 : Nat) (l0 : List (S37)) (r1 : ByteArray) (r2 : Bool) (w : World) (hr0 : Kd.C k37 w A0 l0.length l0) (hc0 : l0.length ≤ c0) (h : impl_CodeText.f k l0 = some (r1, r2)) (hT : Tab w) (hM : Ins.Mach w) :
    Calls Tryd.prog 8 #[.slice A0 l0.length c0] w fun e w' => e = .returned (.tuple #[.string r1, .bool r2]) ∧ Below w.heap.size w w' := by
  have hu37 := Tryd.underlying37
  have HT := Aside0.mk hT
  have HM := Aside0.mk hM
  clear hT hM
  have HR0 := Aside0.mk hr0
  have HC0 := Aside0.mk hc0
  clear hr0 hc0
  have HB := Aside0.mk (Below.refl w.heap.size w)
  have H : (if (l0.length : Int) > 3000 then (impl_CodeText.j0 k l0 true) else ((impl_Instr_19.f l0 0).bind fun t101 => (impl_CodeText.j0 k l0 t101))) = some (r1, r2) := h
  clear h
  have HC2 := Aside0.mk H
  clear H
  go_enter Tryd.func8, Tryd.ntmps8
  go_upto_region 1 with (fail)
  go_cut [13] (fun v13 wc => ∃ (kq : Nat) (x13_1 : Bool), v13 = .bool x13_1 ∧ Aside0 (impl_CodeText.j0 kq l0 x13_1 = some (r1, r2)) ∧ Aside0 (kq ≤ k) ∧ Aside0 (Below w.heap.size w wc))
  case first =>
    have H := HC2.out
    clear HC2
    by_cases c3 : (l0.length : Int) > 3000
    · rw [if_pos c3] at H
      have c3b0 : decide (3000 < (l0.length : Int)) = true := decide_eq_true c3
      have c3b1 : decide (3000 < l0.length) = true := decide_eq_true (by omega)
      clear c3
      (first | rw [c3b0] | (simp only [i64_w, i32_w]; rw [c3b0]) | skip)
      have H' := Aside0.mk H
      clear H
      go_wp2
      go_meet
      case rel => exact ⟨_, (true), (by first | rfl | (simp; done) | (simp [*]; done)), H', ⟨by first | omega | exact Nat.le_refl _⟩, ⟨by repeat (first | (with_reducible first | exact HB.out | apply below_alloc | apply pw_below_drewN | apply below_drew1) | exact HB.out)⟩⟩
    · rw [if_neg c3] at H
      have c3b0 : decide (3000 < (l0.length : Int)) = false := decide_eq_false c3
      have c3b1 : decide (3000 < l0.length) = false := decide_eq_false (by omega)
      clear c3
      (first | rw [c3b0] | (simp only [i64_w, i32_w]; rw [c3b0]) | skip)
      replace H := Option.bind_eq_some_iff.mp H
      obtain ⟨t101, A40, H⟩ := H
      replace H : (impl_CodeText.j0 k l0 t101) = some (r1, r2) := H
      have A4 := Aside0.mk A40
      clear A40
      have H' := Aside0.mk H
      clear H
      go_wp2_with (first | (go_at_call 19; (with_reducible refine (impl_Instr_19.calls _ _ l0 0 t101 _ ?side1 ?side2 A4.out ?sideM).mono ?_); (case sideM => exact HM.out.below HB.out); (case side1 => repeat (first | exact (Kd.C_below HR0.out HB.out) | (with_reducible refine Kd.C_alloc ?_ _) | (with_reducible refine Kd.C_drewN ?_ _) | (with_reducible refine Kd.C_drew ?_))); (case side2 => exact HC0.out); rintro e w5 ⟨rfl, hb⟩; have n0_ := Aside0.mk (below_step (by repeat (first | (with_reducible first | exact HB.out | apply below_alloc | apply pw_below_drewN | apply below_drew1) | exact HB.out)) hb); clear HB; have HB := n0_; clear n0_; (try clear hb); (try clear hb2); (try clear hk); (try clear hi)))
      go_meet
      case rel => exact ⟨_, (t101), (by first | rfl | (simp; done) | (simp [*]; done)), H', ⟨by first | omega | exact Nat.le_refl _⟩, ⟨by repeat (first | (with_reducible first | exact HB.out | apply below_alloc | apply pw_below_drewN | apply below_drew1) | exact HB.out)⟩⟩
  case rest =>
    clear HC2
    try clear p2
    try clear c3
    try clear c3b0
    try clear c3b1
    obtain ⟨kq, x13_1, rfl, HA, HJ1, HB⟩ := hcut
    cases kq with
    | zero => exact absurd HA.out (by simp [impl_CodeText.j0])
    | succ kj1 =>
      have H := HA.out
      clear HA
      simp only [impl_CodeText.j0] at H
      by_cases c6 : x13_1 = true
      · subst c6
        have H1 : (some ((⟨#[]⟩ : ByteArray), false)) = some (r1, r2) := by rw [if_pos rfl] at H; exact H
        clear H
        have H := H1
        clear H1
        simp only [Option.some.injEq, Prod.mk.injEq] at H
        obtain ⟨rfl, rfl⟩ := H
        go_wp2
        go_ret2
        exact ⟨by first | rfl | (simp [errW_none, errW_some] <;> rfl) | (simp [*, errW_none, errW_some] <;> rfl), by repeat (first | (with_reducible first | exact HB.out | apply below_alloc | apply pw_below_drewN | apply below_drew1) | exact HB.out)⟩
      · replace c6 := Bool.eq_false_iff.mpr c6
        subst c6
        have H1 : (impl_CodeText.l0 kj1 (⟨#[]⟩ : ByteArray) l0 (l0.length : Int) 0) = some (r1, r2) := by rw [if_neg (show ¬ (false = true) by decide)] at H; exact H
        clear H
        have H := H1
        clear H1
        have H' := Aside0.mk H
        clear H
        go_wp2_with (first | ((with_reducible refine gate_dst (N := 4) rfl ?_); refine box_event ?hg (N := 4) ?hd (cs := #[.pointer none, .slice none 0 0]) (t := 48) ?hr ?_; (case hd => rfl); (case hg => rfl); (case hr => first | (go_simp; done) | (go_simp; rfl)); intro gbB hg w16 hbox hb; have n0_ := Aside0.mk (below_step HB.out hb); have n1_ := Aside0.mk hbox; have n2_ := Aside0.mk ((by rw [hg]; exact below_size HB.out) : w.heap.size ≤ gbB); clear HB; have HB := n0_; have BKB := n1_; have GEB := n2_; clear n0_ n1_ n2_ hb hbox hg; have hczB_0 : w16.cell? ⟨gbB, 0, none⟩ = some (.pointer none) := (blk_cell BKB.out 0).trans rfl; have hczB_1 : w16.cell? ⟨gbB, 1, none⟩ = some (.slice none 0 0) := (blk_cell BKB.out 1).trans rfl; have hfzB_0 := blk_frozen BKB.out 0; have hfzB_1 := blk_frozen BKB.out 1))
        go_loopg [17] kj1 (fun kq v17 w' => ∃ (acc : ByteArray) (x17_2 : Int), v17 = .int .i64 x17_2 ∧ Aside0 (impl_CodeText.l0 kq acc l0 (l0.length : Int) x17_2 = some (r1, r2)) ∧ Aside0 (kq ≤ kj1) ∧ Aside0 (Bld w.heap.size gbB acc w') ∧ Aside0 (Below w.heap.size w w'))
        case atStart => exact ⟨(⟨#[]⟩ : ByteArray), (0), (by first | rfl | (simp; done) | (simp [*]; done)), H', ⟨Nat.le_refl _⟩, ⟨Bld.new GEB.out (by first | exact BKB.out | (refine blk_put (cs := #[.pointer none, .slice none 0 0]) ?_ 1 _ rfl; refine blk_put (cs := #[.pointer none, .slice none 0 0]) ?_ 0 _ rfl; exact BKB.out))⟩, ⟨by first | exact HB.out | exact below_set (below_set HB.out GEB.out) GEB.out⟩⟩
        case round =>
          clear H'
          try clear p2
          try clear c3
          try clear c3b0
          try clear c3b1
          try clear c6
          try clear p2
          clear HB BKB
          obtain ⟨acc, x17_2, rfl, HA, HK2, HBD, HB⟩ := hrel
          cases gk with
          | zero => exact absurd HA.out (by simp [impl_CodeText.l0])
          | succ k2 =>
            have H := HA.out
            clear HA
            simp only [impl_CodeText.l0] at H
            by_cases c7 : x17_2 < (l0.length : Int)
            · rw [if_pos c7] at H
              have c7b0 : decide (x17_2 < (l0.length : Int)) = true := decide_eq_true c7
              clear c7
              by_cases c8 : 0 ≤ x17_2
              · rw [if_pos c8] at H
                have c8b0 : decide (0 ≤ x17_2) = true := decide_eq_true c8
                clear c8
                by_cases c9 : x17_2 < (l0.length : Int)
                · rw [if_pos c9] at H
                  have c9b0 : decide (x17_2 < (l0.length : Int)) = true := decide_eq_true c9
                  clear c9
                  replace H := Option.bind_eq_some_iff.mp H
                  obtain ⟨t104, A100, H⟩ := H
                  replace H : (if t104.size + 1 ≤ 9223372036854775807 then ((strconv_Itoa_23.f ((rd_T37 l0 x17_2).f1)).bind fun t105 => (if (t104 ++ (⟨#[32]⟩ : ByteArray)).size + t105.size ≤ 9223372036854775807 then (if ((t104 ++ (⟨#[32]⟩ : ByteArray)) ++ t105).size + 1 ≤ 9223372036854775807 then (if (((t104 ++ (⟨#[32]⟩ : ByteArray)) ++ t105) ++ (⟨#[32]⟩ : ByteArray)).size + ((rd_T37 l0 x17_2).f2).size ≤ 9223372036854775807 then (if ((((t104 ++ (⟨#[32]⟩ : ByteArray)) ++ t105) ++ (⟨#[32]⟩ : ByteArray)) ++ ((rd_T37 l0 x17_2).f2)).size + 1 ≤ 9223372036854775807 then ((strings_Builder_WriteString.f acc (((((t104 ++ (⟨#[32]⟩ : ByteArray)) ++ t105) ++ (⟨#[32]⟩ : ByteArray)) ++ ((rd_T37 l0 x17_2).f2)) ++ (⟨#[10]⟩ : ByteArray))).bind fun t106 => (impl_CodeText.l0 k2 t106 l0 (l0.length : Int) (wrap64 (x17_2 + 1)))) else (none)) else (none)) else (none)) else (none))) else (none)) = some (r1, r2) := H
                  have A10 := Aside0.mk A100
                  clear A100
                  by_cases c11 : t104.size + 1 ≤ 9223372036854775807
                  · rw [if_pos c11] at H
                    have c11b0 := eq_true c11
                    have c11b1 : decide (t104.size + 1 ≤ 9223372036854775807) = true := decide_eq_true c11
                    try have c11b2 : (9223372036854775807 < t104.size + 1) = False := eq_false (Nat.not_lt.2 c11)
                    replace H := Option.bind_eq_some_iff.mp H
                    obtain ⟨t105, A120, H⟩ := H
                    replace H : (if (t104 ++ (⟨#[32]⟩ : ByteArray)).size + t105.size ≤ 9223372036854775807 then (if ((t104 ++ (⟨#[32]⟩ : ByteArray)) ++ t105).size + 1 ≤ 9223372036854775807 then (if (((t104 ++ (⟨#[32]⟩ : ByteArray)) ++ t105) ++ (⟨#[32]⟩ : ByteArray)).size + ((rd_T37 l0 x17_2).f2).size ≤ 9223372036854775807 then (if ((((t104 ++ (⟨#[32]⟩ : ByteArray)) ++ t105) ++ (⟨#[32]⟩ : ByteArray)) ++ ((rd_T37 l0 x17_2).f2)).size + 1 ≤ 9223372036854775807 then ((strings_Builder_WriteString.f acc (((((t104 ++ (⟨#[32]⟩ : ByteArray)) ++ t105) ++ (⟨#[32]⟩ : ByteArray)) ++ ((rd_T37 l0 x17_2).f2)) ++ (⟨#[10]⟩ : ByteArray))).bind fun t106 => (impl_CodeText.l0 k2 t106 l0 (l0.length : Int) (wrap64 (x17_2 + 1)))) else (none)) else (none)) else (none)) else (none)) = some (r1, r2) := H
                    have A12 := Aside0.mk A120
                    clear A120
                    by_cases c13 : (t104 ++ (⟨#[32]⟩ : ByteArray)).size + t105.size ≤ 9223372036854775807
                    · rw [if_pos c13] at H
                      have c13b0 := eq_true c13
                      have c13b1 : decide ((t104 ++ (⟨#[32]⟩ : ByteArray)).size + t105.size ≤ 9223372036854775807) = true := decide_eq_true c13
                      try have c13b2 : (9223372036854775807 < (t104 ++ (⟨#[32]⟩ : ByteArray)).size + t105.size) = False := eq_false (Nat.not_lt.2 c13)
                      have c13b3 : (9223372036854775807 < t104.size + 1 + t105.size) = False := by have e := c13b2; simp only [ByteArray.size_append] at e; exact e
                      by_cases c14 : ((t104 ++ (⟨#[32]⟩ : ByteArray)) ++ t105).size + 1 ≤ 9223372036854775807
                      · rw [if_pos c14] at H
                        have c14b0 := eq_true c14
                        have c14b1 : decide (((t104 ++ (⟨#[32]⟩ : ByteArray)) ++ t105).size + 1 ≤ 9223372036854775807) = true := decide_eq_true c14
                        try have c14b2 : (9223372036854775807 < ((t104 ++ (⟨#[32]⟩ : ByteArray)) ++ t105).size + 1) = False := eq_false (Nat.not_lt.2 c14)
                        have c14b3 : (9223372036854775807 < t104.size + 1 + t105.size + 1) = False := by have e := c14b2; simp only [ByteArray.size_append] at e; exact e
                        by_cases c15 : (((t104 ++ (⟨#[32]⟩ : ByteArray)) ++ t105) ++ (⟨#[32]⟩ : ByteArray)).size + ((rd_T37 l0 x17_2).f2).size ≤ 9223372036854775807
                        · rw [if_pos c15] at H
                          have c15b0 := eq_true c15
                          have c15b1 : decide ((((t104 ++ (⟨#[32]⟩ : ByteArray)) ++ t105) ++ (⟨#[32]⟩ : ByteArray)).size + ((rd_T37 l0 x17_2).f2).size ≤ 9223372036854775807) = true := decide_eq_true c15
                          try have c15b2 : (9223372036854775807 < (((t104 ++ (⟨#[32]⟩ : ByteArray)) ++ t105) ++ (⟨#[32]⟩ : ByteArray)).size + ((rd_T37 l0 x17_2).f2).size) = False := eq_false (Nat.not_lt.2 c15)
                          have c15b3 : (9223372036854775807 < t104.size + 1 + t105.size + 1 + ((rd_T37 l0 x17_2).f2).size) = False := by have e := c15b2; simp only [ByteArray.size_append] at e; exact e
                          by_cases c16 : ((((t104 ++ (⟨#[32]⟩ : ByteArray)) ++ t105) ++ (⟨#[32]⟩ : ByteArray)) ++ ((rd_T37 l0 x17_2).f2)).size + 1 ≤ 9223372036854775807
                          · rw [if_pos c16] at H
                            have c16b0 := eq_true c16
                            have c16b1 : decide (((((t104 ++ (⟨#[32]⟩ : ByteArray)) ++ t105) ++ (⟨#[32]⟩ : ByteArray)) ++ ((rd_T37 l0 x17_2).f2)).size + 1 ≤ 9223372036854775807) = true := decide_eq_true c16
                            try have c16b2 : (9223372036854775807 < ((((t104 ++ (⟨#[32]⟩ : ByteArray)) ++ t105) ++ (⟨#[32]⟩ : ByteArray)) ++ ((rd_T37 l0 x17_2).f2)).size + 1) = False := eq_false (Nat.not_lt.2 c16)
                            have c16b3 : (9223372036854775807 < t104.size + 1 + t105.size + 1 + (rd_T37 l0 x17_2).f2.size + 1) = False := by have e := c16b2; simp only [ByteArray.size_append] at e; exact e
                            replace H := Option.bind_eq_some_iff.mp H
                            obtain ⟨t106, A170, H⟩ := H
                            replace H : (impl_CodeText.l0 k2 t106 l0 (l0.length : Int) (wrap64 (x17_2 + 1))) = some (r1, r2) := H
                            have A17 := Aside0.mk A170
                            clear A170
                            have H' := Aside0.mk H
                            clear H
                            have p102 : 0 ≤ (x17_2 : Int) := of_decide_eq_true (by first | (with_reducible assumption) | assumption)
                            have q102 : x17_2 < (l0.length : Int) := of_decide_eq_true (by first | (with_reducible assumption) | assumption)
                            obtain ⟨ad102, e102, hx102_0, hx102_1, hx102_2⟩ := at_T37 HR0.out x17_2 p102 q102
                            cases e102
                            replace hx102_0 := (HB.out.cell (World.block_lt_of_cell? w _ hx102_0)).trans hx102_0
                            replace hx102_1 := (HB.out.cell (World.block_lt_of_cell? w _ hx102_1)).trans hx102_1
                            replace hx102_2 := (HB.out.cell (World.block_lt_of_cell? w _ hx102_2)).trans hx102_2
                            replace p102 := eq_true p102
                            replace q102 := eq_true q102
                            try go_wp2_with (first | ((with_reducible refine gate_dst (N := 6) rfl ?_); refine box_event ?hg (N := 6) ?hd (cs := #[.int .i64 0, .int .i64 0, .string (⟨#[]⟩ : ByteArray)]) (t := 37) ?hr ?_; (case hd => rfl); (case hg => rfl); (case hr => first | (go_simp; done) | (go_simp; rfl)); intro gb103 hg w18 hbox hb; have nD_ := Aside0.mk (HBD.out.below hb); clear HBD; have HBD := nD_; clear nD_; have n0_ := Aside0.mk (below_step (by repeat (first | (with_reducible first | exact HB.out | apply below_alloc | apply pw_below_drewN | apply below_drew1) | exact HB.out)) hb); have n1_ := Aside0.mk (hbox); have n2_ := Aside0.mk ((by rw [hg]; exact (below_size (by repeat (first | (with_reducible first | exact HB.out | apply below_alloc | apply pw_below_drewN | apply below_drew1) | exact HB.out))) : w.heap.size ≤ gb103)); have n3_ := Aside0.mk ((by rw [hg]; exact (below_size (by repeat (first | (with_reducible first | exact HB.out | apply below_alloc | apply pw_below_drewN | apply below_drew1) | exact HB.out))) : w.heap.size ≤ gb103)); clear HB; have HB := n0_; have BK103 := n1_; have GW103 := n2_; have GE103 := n3_; clear n0_ n1_ n2_ n3_; clear hb hbox hg; have hcz19_0 : w18.cell? ⟨gb103, 0, none⟩ = some (.int .i64 0) := (blk_cell BK103.out 0).trans rfl; have hcz19_1 : w18.cell? ⟨gb103, 1, none⟩ = some (.int .i64 0) := (blk_cell BK103.out 1).trans rfl; have hcz19_2 : w18.cell? ⟨gb103, 2, none⟩ = some (.string (⟨#[]⟩ : ByteArray)) := (blk_cell BK103.out 2).trans rfl; have hfz19_0 := blk_frozen BK103.out 0; have hfz19_1 := blk_frozen BK103.out 1; have hfz19_2 := blk_frozen BK103.out 2))
                            have n0_ : Aside0 ((((w18.setCell ⟨gb103, 0, none⟩ (.int .i64 ((rd_T37 l0 x17_2).f0))).setCell ⟨gb103, 1, none⟩ (.int .i64 ((rd_T37 l0 x17_2).f1))).setCell ⟨gb103, 2, none⟩ (.string ((rd_T37 l0 x17_2).f2))).heap[gb103]? = some (.cells #[.int .i64 ((rd_T37 l0 x17_2).f0), .int .i64 ((rd_T37 l0 x17_2).f1), .string ((rd_T37 l0 x17_2).f2)] 37 (0, 0))) := ⟨by (with_reducible repeat (first | refine blk_drewN ?_ _ | refine blk_drew ?_ | refine blk_alloc ?_ _)); refine blk_put (cs := #[.int .i64 ((rd_T37 l0 x17_2).f0), .int .i64 ((rd_T37 l0 x17_2).f1), .string (⟨#[]⟩ : ByteArray)]) ?_ 2 _ rfl; (with_reducible repeat (first | refine blk_drewN ?_ _ | refine blk_drew ?_ | refine blk_alloc ?_ _)); refine blk_put (cs := #[.int .i64 ((rd_T37 l0 x17_2).f0), .int .i64 0, .string (⟨#[]⟩ : ByteArray)]) ?_ 1 _ rfl; (with_reducible repeat (first | refine blk_drewN ?_ _ | refine blk_drew ?_ | refine blk_alloc ?_ _)); refine blk_put (cs := #[.int .i64 0, .int .i64 0, .string (⟨#[]⟩ : ByteArray)]) ?_ 0 _ rfl; (with_reducible repeat (first | refine blk_drewN ?_ _ | refine blk_drew ?_ | refine blk_alloc ?_ _)); exact BK103.out⟩
                            have n1_ : Aside0 (Below w.heap.size w (((w18.setCell ⟨gb103, 0, none⟩ (.int .i64 ((rd_T37 l0 x17_2).f0))).setCell ⟨gb103, 1, none⟩ (.int .i64 ((rd_T37 l0 x17_2).f1))).setCell ⟨gb103, 2, none⟩ (.string ((rd_T37 l0 x17_2).f2)))) := ⟨by repeat (first | (with_reducible first | exact HB.out | apply below_alloc | apply pw_below_drewN | apply below_drew1 | refine below_set ?_ GE103.out) | exact HB.out)⟩
                            have nD_ : Aside0 (Bld w.heap.size gbB acc (((w18.setCell ⟨gb103, 0, none⟩ (.int .i64 ((rd_T37 l0 x17_2).f0))).setCell ⟨gb103, 1, none⟩ (.int .i64 ((rd_T37 l0 x17_2).f1))).setCell ⟨gb103, 2, none⟩ (.string ((rd_T37 l0 x17_2).f2)))) := ⟨Bld.set3 HBD.out BK103.out _ _ _⟩
                            clear HBD
                            (try clear BK103)
                            (try clear HB)
                            generalize (((w18.setCell ⟨gb103, 0, none⟩ (.int .i64 ((rd_T37 l0 x17_2).f0))).setCell ⟨gb103, 1, none⟩ (.int .i64 ((rd_T37 l0 x17_2).f1))).setCell ⟨gb103, 2, none⟩ (.string ((rd_T37 l0 x17_2).f2))) = w20 at n0_ n1_ nD_ ⊢
                            have BK103 := n0_
                            have HB := n1_
                            clear n0_ n1_
                            have n0_ := Aside0.mk (blk_drew BK103.out)
                            have n1_ := Aside0.mk (below_drew1 HB.out)
                            clear BK103
                            clear HB
                            have BK103 := n0_
                            have HB := n1_
                            clear n0_ n1_
                            refine start_ (n := 14) (S := fun w' => w'.cell? ⟨gb103, 0, none⟩ = some (.int .i64 ((rd_T37 l0 x17_2).f0)) ∧ w'.cell? ⟨gb103, 1, none⟩ = some (.int .i64 ((rd_T37 l0 x17_2).f1)) ∧ w'.cell? ⟨gb103, 2, none⟩ = some (.string ((rd_T37 l0 x17_2).f2))) (ds := []) #[false, false, false, false, false, false, false, false, false, false, false, false, false, false] (by kernel_rfl) rfl rfl ⟨(blk_cell BK103.out 0).trans rfl, (blk_cell BK103.out 1).trans rfl, (blk_cell BK103.out 2).trans rfl⟩ (fun hHeld => ?_); refine with_tabW impl_CodeText.tab7 impl_CodeText.bits7 (fun HT_ HW_ => ?_)
                            have HBD : Aside0 (Bld w.heap.size gbB acc w20.drew) := ⟨nD_.out⟩
                            clear nD_
                            generalize w20.drew = w21 at BK103 HB HBD hHeld ⊢
                            refine pure_ (i := 0) (N := some 21) (v := ?_) (a' := ?_) #[true, false, false, false, false, false, false, false, false, false, false, false, false, false] rfl rfl (any_of HT_.out (by kernel_rfl)) (fun _ _ _ h => h) (Or.inl ⟨by rfl, ?_⟩) ?_ ?_
                            rotate_left
                            · intro w'
                              go_simp
                              with_reducible rfl
                            rotate_left
                            · simp only [Act.put, List.setIfInBounds_toArray, List.set_cons_zero, List.set_cons_succ, i64_w, i32_w]
                              rfl
                            refine pure_ (i := 4) (N := some 25) (v := ?_) (a' := ?_) #[true, false, false, false, true, false, false, false, false, false, false, false, false, false] rfl rfl (any_of HT_.out (by kernel_rfl)) (fun _ _ _ h => h) (Or.inl ⟨by rfl, ?_⟩) ?_ ?_
                            rotate_left
                            · intro w'
                              go_simp
                              with_reducible rfl
                            rotate_left
                            · simp only [Act.put, List.setIfInBounds_toArray, List.set_cons_zero, List.set_cons_succ, i64_w, i32_w]
                              rfl
                            refine pure_ (i := 9) (N := some 30) (v := ?_) (a' := ?_) #[true, false, false, false, true, false, false, false, false, true, false, false, false, false] rfl rfl (any_of HT_.out (by kernel_rfl)) (fun _ _ _ h => h) (Or.inl ⟨by rfl, ?_⟩) ?_ ?_
                            rotate_left
                            · intro w'
                              go_simp
                              with_reducible rfl
                            rotate_left
                            · simp only [Act.put, List.setIfInBounds_toArray, List.set_cons_zero, List.set_cons_succ, i64_w, i32_w]
                              rfl
                            refine take_ (i := 1) (N := some 22) (v := ?_) (a' := ?_) #[true, true, false, false, true, false, false, false, false, true, false, false, false, false] rfl rfl (take_ofW HT_.out HW_.out (by kernel_rfl)) (fun _ _ _ h => h) (Or.inl ⟨by rfl, ?_⟩) hHeld ?_ ?_
                            rotate_left
                            · rintro w' ⟨s0, s1, s2⟩
                              go_simp
                              with_reducible rfl
                            rotate_left
                            · simp only [Act.put, List.setIfInBounds_toArray, List.set_cons_zero, List.set_cons_succ, i64_w, i32_w]
                              rfl
                            refine take_ (i := 5) (N := some 26) (v := ?_) (a' := ?_) #[true, true, false, false, true, true, false, false, false, true, false, false, false, false] rfl rfl (take_ofW HT_.out HW_.out (by kernel_rfl)) (fun _ _ _ h => h) (Or.inl ⟨by rfl, ?_⟩) hHeld ?_ ?_
                            rotate_left
                            · rintro w' ⟨s0, s1, s2⟩
                              go_simp
                              with_reducible rfl
                            rotate_left
                            · simp only [Act.put, List.setIfInBounds_toArray, List.set_cons_zero, List.set_cons_succ, i64_w, i32_w]
                              rfl
                            refine take_ (i := 10) (N := some 31) (v := ?_) (a' := ?_) #[true, true, false, false, true, true, false, false, false, true, true, false, false, false] rfl rfl (take_ofW HT_.out HW_.out (by kernel_rfl)) (fun _ _ _ h => h) (Or.inl ⟨by rfl, ?_⟩) hHeld ?_ ?_
                            rotate_left
                            · rintro w' ⟨s0, s1, s2⟩
                              go_simp
                              with_reducible rfl
                            rotate_left
                            · simp only [Act.put, List.setIfInBounds_toArray, List.set_cons_zero, List.set_cons_succ, i64_w, i32_w]
                              rfl
                            refine one_ (i := 2) (N := some 23) #[true, true, true, false, true, true, false, false, false, true, true, false, false, false] rfl rfl (one_of HT_.out (by kernel_rfl)) (by decide) (fun K hK => ?_)
                            refine goes_ Tryd.func23 (by kernel_rfl) rfl #[.int .i64 ((rd_T37 l0 x17_2).f0)] (by rfl) rfl rfl (by (try simp only [List.map_toArray, List.map_cons, List.map_nil]); first | done | rfl | (simp only [List.length_drop, List.length_take]; rfl)) ?_
                            with_reducible refine (strconv_Itoa_23.calls ((rd_T37 l0 x17_2).f0) t104 _ A10.out (Tab.below HT.out HB.out)).mono ?_
                            rintro e w22 ⟨rfl, hb⟩
                            refine ⟨_, rfl, ?_⟩
                            have nD_ := Aside0.mk (HBD.out.below hb)
                            clear HBD
                            have HBD := nD_
                            clear nD_
                            have n0_ := Aside0.mk (blk_below (g := gb103) (o := .cells #[.int .i64 ((rd_T37 l0 x17_2).f0), .int .i64 ((rd_T37 l0 x17_2).f1), .string ((rd_T37 l0 x17_2).f2)] 37 (0, 0)) (by (with_reducible repeat (first | refine blk_drewN ?_ _ | refine blk_drew ?_ | refine blk_alloc ?_ _)); exact BK103.out) hb)
                            have n1_ := Aside0.mk (below_step (by repeat (first | (with_reducible first | exact HB.out | apply below_alloc | apply pw_below_drewN | apply below_drew1 | refine below_set ?_ GE103.out) | exact HB.out)) hb)
                            clear BK103
                            clear HB
                            have BK103 := n0_
                            have HB := n1_
                            clear n0_ n1_
                            (try clear hb)
                            (try clear hb2)
                            (try clear hk)
                            (try clear hi)
                            refine hK.out _ _ ⟨(blk_cell BK103.out 0).trans rfl, (blk_cell BK103.out 1).trans rfl, (blk_cell BK103.out 2).trans rfl⟩ (fun hHeld => ?_)
                            clear hK K
                            refine norm_ (a' := ?_) ?_ ?_
                            rotate_left
                            · show Act.put _ (some 23) _ = _
                              simp only [Act.put, List.setIfInBounds_toArray, List.set_cons_zero, List.set_cons_succ, i64_w, i32_w]
                              rfl
                            refine pure_ (i := 3) (N := some 24) (v := ?_) (a' := ?_) #[true, true, true, true, true, true, false, false, false, true, true, false, false, false] rfl rfl (any_of HT_.out (by kernel_rfl)) (fun _ _ _ h => h) (Or.inl ⟨by rfl, ?_⟩) ?_ ?_
                            rotate_left
                            · intro w'
                              go_simp
                              with_reducible rfl
                            rotate_left
                            · simp only [Act.put, List.setIfInBounds_toArray, List.set_cons_zero, List.set_cons_succ, i64_w, i32_w]
                              rfl
                            refine one_ (i := 6) (N := some 27) #[true, true, true, true, true, true, true, false, false, true, true, false, false, false] rfl rfl (one_of HT_.out (by kernel_rfl)) (by decide) (fun K hK => ?_)
                            refine goes_ Tryd.func23 (by kernel_rfl) rfl #[.int .i64 ((rd_T37 l0 x17_2).f1)] (by rfl) rfl rfl (by (try simp only [List.map_toArray, List.map_cons, List.map_nil]); first | done | rfl | (simp only [List.length_drop, List.length_take]; rfl)) ?_
                            with_reducible refine (strconv_Itoa_23.calls ((rd_T37 l0 x17_2).f1) t105 _ A12.out (Tab.below HT.out HB.out)).mono ?_
                            rintro e w23 ⟨rfl, hb⟩
                            refine ⟨_, rfl, ?_⟩
                            have nD_ := Aside0.mk (HBD.out.below hb)
                            clear HBD
                            have HBD := nD_
                            clear nD_
                            have n0_ := Aside0.mk (blk_below (g := gb103) (o := .cells #[.int .i64 ((rd_T37 l0 x17_2).f0), .int .i64 ((rd_T37 l0 x17_2).f1), .string ((rd_T37 l0 x17_2).f2)] 37 (0, 0)) (by (with_reducible repeat (first | refine blk_drewN ?_ _ | refine blk_drew ?_ | refine blk_alloc ?_ _)); exact BK103.out) hb)
                            have n1_ := Aside0.mk (below_step (by repeat (first | (with_reducible first | exact HB.out | apply below_alloc | apply pw_below_drewN | apply below_drew1 | refine below_set ?_ GE103.out) | exact HB.out)) hb)
                            clear BK103
                            clear HB
                            have BK103 := n0_
                            have HB := n1_
                            clear n0_ n1_
                            (try clear hb)
                            (try clear hb2)
                            (try clear hk)
                            (try clear hi)
                            refine hK.out _ _ ⟨(blk_cell BK103.out 0).trans rfl, (blk_cell BK103.out 1).trans rfl, (blk_cell BK103.out 2).trans rfl⟩ (fun hHeld => ?_)
                            clear hK K
                            refine norm_ (a' := ?_) ?_ ?_
                            rotate_left
                            · show Act.put _ (some 27) _ = _
                              simp only [Act.put, List.setIfInBounds_toArray, List.set_cons_zero, List.set_cons_succ, i64_w, i32_w]
                              rfl
                            refine pure_ (i := 7) (N := some 28) (v := ?_) (a' := ?_) #[true, true, true, true, true, true, true, true, false, true, true, false, false, false] rfl rfl (any_of HT_.out (by kernel_rfl)) (fun _ _ _ h => h) (Or.inl ⟨by rfl, ?_⟩) ?_ ?_
                            rotate_left
                            · intro w'
                              go_simp
                              with_reducible rfl
                            rotate_left
                            · simp only [Act.put, List.setIfInBounds_toArray, List.set_cons_zero, List.set_cons_succ, i64_w, i32_w]
                              rfl
                            refine pure_ (i := 8) (N := some 29) (v := ?_) (a' := ?_) #[true, true, true, true, true, true, true, true, true, true, true, false, false, false] rfl rfl (any_of HT_.out (by kernel_rfl)) (fun _ _ _ h => h) (Or.inl ⟨by rfl, ?_⟩) ?_ ?_
                            rotate_left
                            · intro w'
                              go_simp
                              with_reducible rfl
                            rotate_left
                            · simp only [Act.put, List.setIfInBounds_toArray, List.set_cons_zero, List.set_cons_succ, i64_w, i32_w]
                              rfl
                            refine pure_ (i := 11) (N := some 32) (v := ?_) (a' := ?_) #[true, true, true, true, true, true, true, true, true, true, true, true, false, false] rfl rfl (any_of HT_.out (by kernel_rfl)) (fun _ _ _ h => h) (Or.inl ⟨by rfl, ?_⟩) ?_ ?_
                            rotate_left
                            · intro w'
                              go_simp
                              with_reducible rfl
                            rotate_left
                            · simp only [Act.put, List.setIfInBounds_toArray, List.set_cons_zero, List.set_cons_succ, i64_w, i32_w]
                              rfl
                            refine pure_ (i := 12) (N := some 33) (v := ?_) (a' := ?_) #[true, true, true, true, true, true, true, true, true, true, true, true, true, false] rfl rfl (any_of HT_.out (by kernel_rfl)) (fun _ _ _ h => h) (Or.inl ⟨by rfl, ?_⟩) ?_ ?_
                            rotate_left
                            · intro w'
                              go_simp
                              with_reducible rfl
                            rotate_left
                            · simp only [Act.put, List.setIfInBounds_toArray, List.set_cons_zero, List.set_cons_succ, i64_w, i32_w]
                              rfl
                            refine one_ (i := 13) (N := some 34) #[true, true, true, true, true, true, true, true, true, true, true, true, true, true] rfl rfl (one_of HT_.out (by kernel_rfl)) (by decide) (fun K hK => ?_)
                            refine goes_ Tryd.func22 (by kernel_rfl) rfl #[.pointer (some ⟨gbB, 0, none⟩), .string (((((t104 ++ (⟨#[32]⟩ : ByteArray)) ++ t105) ++ (⟨#[32]⟩ : ByteArray)) ++ ((rd_T37 l0 x17_2).f2)) ++ (⟨#[10]⟩ : ByteArray))] (by rfl) rfl rfl (by (try simp only [List.map_toArray, List.map_cons, List.map_nil]); first | done | rfl | (simp only [List.length_drop, List.length_take]; rfl)) ?_
                            have hpos_ : 0 < (((((t104 ++ (⟨#[32]⟩ : ByteArray)) ++ t105) ++ (⟨#[32]⟩ : ByteArray)) ++ ((rd_T37 l0 x17_2).f2)) ++ (⟨#[10]⟩ : ByteArray)).size := by rw [ByteArray.size_append]; exact Nat.lt_of_lt_of_le (show 0 < (⟨#[10]⟩ : ByteArray).size by decide) (Nat.le_add_left _ _)
                            with_reducible refine (strings_Builder_WriteString.calls w.heap.size gbB acc (((((t104 ++ (⟨#[32]⟩ : ByteArray)) ++ t105) ++ (⟨#[32]⟩ : ByteArray)) ++ ((rd_T37 l0 x17_2).f2)) ++ (⟨#[10]⟩ : ByteArray)) t106 _ HBD.out A17.out hpos_ (below_size HB.out)).mono ?_
                            rintro e w24 ⟨rfl, hbd, hb, hkp⟩
                            refine ⟨_, rfl, ?_⟩
                            have n0_ := Aside0.mk (hkp gb103 _ BK103.out (Bld.ne HBD.out BK103.out) (fun c fz e => by injection e with _ h2 _; exact absurd h2 (by decide)))
                            have n1_ := Aside0.mk (HB.out.trans hb)
                            have nD_ := Aside0.mk hbd
                            clear HBD hbd hkp hpos_
                            have HBD := nD_
                            clear nD_
                            clear BK103
                            clear HB
                            have BK103 := n0_
                            have HB := n1_
                            clear n0_ n1_
                            (try clear hb)
                            (try clear hb2)
                            (try clear hk)
                            (try clear hi)
                            refine hK.out _ _ ⟨(blk_cell BK103.out 0).trans rfl, (blk_cell BK103.out 1).trans rfl, (blk_cell BK103.out 2).trans rfl⟩ (fun hHeld => ?_)
                            clear hK K
                            refine norm_ (a' := ?_) ?_ ?_
                            rotate_left
                            · show Act.put _ (some 34) _ = _
                              simp only [Act.put, List.setIfInBounds_toArray, List.set_cons_zero, List.set_cons_succ, i64_w, i32_w]
                              rfl
                            refine done_ (done_of HT_.out (by kernel_rfl)) ?_
                            try go_wp2
                            go_roundg k2
                            case measure => have := HJ1.out; have := HK2.out; omega
                            case rel => exact ⟨t106, (wrap64 (x17_2 + 1)), (by first | rfl | (simp; done) | (simp [*]; done)), H', ⟨by have := HJ1.out; have := HK2.out; omega⟩, HBD, ⟨by repeat (first | (with_reducible first | exact HB.out | apply below_alloc | apply pw_below_drewN | apply below_drew1 | refine below_set ?_ GE103.out) | exact HB.out)⟩⟩
                          · rw [if_neg c16] at H
                            exact absurd H (by simp)
                        · rw [if_neg c15] at H
                          exact absurd H (by simp)
                      · rw [if_neg c14] at H
                        exact absurd H (by simp)
                    · rw [if_neg c13] at H
                      exact absurd H (by simp)
                  · rw [if_neg c11] at H
                    exact absurd H (by simp)
                · rw [if_neg c9] at H
                  exact absurd H (by simp)
              · rw [if_neg c8] at H
                exact absurd H (by simp)
            · rw [if_neg c7] at H
              have c7b0 : decide (x17_2 < (l0.length : Int)) = false := decide_eq_false c7
              clear c7
              replace H := Option.bind_eq_some_iff.mp H
              obtain ⟨t107, A250, H⟩ := H
              replace H : (some (t107, true)) = some (r1, r2) := H
              have A25 := Aside0.mk A250
              clear A250
              simp only [Option.some.injEq, Prod.mk.injEq] at H
              obtain ⟨rfl, rfl⟩ := H
              go_wp2_with (first | ((with_reducible refine gate_callee (f := 24) rfl ?_); refine goesL_ (some 36) rfl rfl Tryd.func24 (by kernel_rfl) rfl #[.pointer (some ⟨gbB, 0, none⟩)] rfl (by (try simp only [List.map_toArray, List.map_cons, List.map_nil]); first | done | rfl | (simp only [List.length_drop, List.length_take]; rfl)) ?_; (with_reducible refine (strings_Builder_String.calls w.heap.size gbB acc t107 _ HBD.out A25.out).mono ?_); rintro e w26 ⟨rfl, hb⟩; refine ⟨_, rfl, ?_⟩; have n0_ := Aside0.mk (HB.out.trans hb); clear HB; have HB := n0_; clear n0_; (try clear hb); (try clear hb2); (try clear hk); (try clear hi)))
              go_ret2
              exact ⟨by first | rfl | (simp [errW_none, errW_some] <;> rfl) | (simp [*, errW_none, errW_some] <;> rfl), by repeat (first | (with_reducible first | exact HB.out | apply below_alloc | apply pw_below_drewN | apply below_drew1) | exact HB.out)⟩

end Go.Proofs.YtlkgimnafnmgpaaDoor.G

namespace Go.Proofs.YtlkgimnafnmgpaaDoor.G
open Go.RowKit Go.Proofs.YtlkgimnafnmgpaaDoorW.PrintWords Go.Proofs.YtlkgimnafnmgpaaDoorW.PrintLast Go.Proofs.YtlkgimnafnmgpaaDoorW.PrintMore
attribute [local go_sem] max2_int min2_int max_two min_two max_three min_three max_four min_four   -- for this text's walks alone
set_option linter.unusedVariables false
set_option linter.unusedSimpArgs false

mutual
def impl_ReadCode.l0 : Nat → ByteArray → List (S37) → ByteArray → Option ((List (S37)) × Bool)
  | 0, _, _, _ => none
  | k + 1, x0, x4, x5 => if x5.toList = ([] : List UInt8) then ((impl_CodeText.f k x4).bind fun bt104 => (if bt104.2 = true then (if bt104.1.toList = x0.toList then (some (x4, true)) else (some (([] : List (S37)), false))) else (some (([] : List (S37)), false)))) else ((strings_Cut.f x5 (⟨#[10]⟩ : ByteArray)).bind fun bt106 => ((strings_SplitN.f bt106.1 (⟨#[32]⟩ : ByteArray) 3).bind fun t109 => (if (t109.length : Int) = 3 then (impl_ReadCode.j1 k x0 x4 bt106.2.1 t109 ((x4.length : Int) == 3000)) else (impl_ReadCode.j1 k x0 x4 bt106.2.1 t109 true))))
def impl_ReadCode.j1 : Nat → ByteArray → List (S37) → ByteArray → List ByteArray → Bool → Option ((List (S37)) × Bool)
  | 0, _, _, _, _, _ => none
  | k + 1, x0, x4, x7, x9, x35 => if x35 = true then (some (([] : List (S37)), false)) else (if 0 < (x9.length : Int) then ((strconv_Atoi_29.f (rdOf ByteArray.empty x9 0)).bind fun bt113 => (if 1 < (x9.length : Int) then ((strconv_Atoi_29.f (rdOf ByteArray.empty x9 1)).bind fun bt116 => (if 2 < (x9.length : Int) then (if x4.length < 4398046511104 then (impl_ReadCode.l0 k x0 (x4 ++ [(⟨bt113.1, bt116.1, rdOf ByteArray.empty x9 2⟩ : S37)]) x7) else (none)) else (none))) else (none))) else (none))
end
def impl_ReadCode.f (k : Nat) (a0 : ByteArray) : Option ((List (S37)) × Bool) := impl_ReadCode.l0 k a0 (([] : List (S37))) a0
set_option maxHeartbeats 8000000 in
set_option maxRecDepth 100000 in
theorem impl_ReadCode.calls (k : Nat) (a0 : ByteArray) (r1 : List (S37)) (r2 : Bool) (w : World) (h : impl_ReadCode.f k a0 = some (r1, r2)) (hE : Met w) :
    Calls Tryd.prog 11 #[.string a0] w fun e w' => ∃ v0_ : Value, e = .returned (.tuple #[v0_, .bool r2]) ∧ Kd.R k37 37 w' w.heap.size (fun _ => True) v0_ r1 ∧ Below w.heap.size w w' := by
  have hu37 := Tryd.underlying37
  have HB := Aside0.mk (Below.refl w.heap.size w)
  have HE := Aside0.mk hE
  clear hE
  have H : (impl_ReadCode.l0 k a0 (([] : List (S37))) a0) = some (r1, r2) := h
  clear h
  obtain ⟨y101, hy101⟩ : ∃ y_ : List (S37), y_ = (([] : List (S37))) := ⟨_, rfl⟩
  replace H : (impl_ReadCode.l0 k a0 y101 a0) = some (r1, r2) := by first | (rw [hy101]; with_reducible exact H) | (have H2_ := (Option.bind_some _ _).symm.trans H; rw [hy101]; with_reducible exact H2_) | (have H2_ := (Option.bind_some _ _).symm.trans H; with_reducible exact H2_) | with_reducible exact H | (rw [hy101]; exact H) | exact H
  have Ny101 := Aside0.mk hy101
  clear hy101
  have H' := Aside0.mk H
  clear H
  go_enter Tryd.func11, Tryd.ntmps11
  go_wp2_with (first | ((with_reducible refine gate_dst (N := 16) rfl ?_); (try (refine gate_guard (by rfl) ?_; dsimp only)); refine Kd.R_lit k37 _ 37 ?hg (N := 16) ?hd (xs := ([] : List (S37))) (inner := []) (ok := fun _ => True) (okp := fun _ => True) ?hr ?hp (fun _ hk => hk) trivial (Below.refl _ _) (Nat.le_refl _) (by simp) ?_; (case hd => rfl); (case hg => rfl); (case hr => first | (go_simp; done) | (go_simp; rfl)); (case hp => exact (Reps.none _ _)); intro v102 w2 ho3 hb hg_ hnew_; clear hg_ hnew_; (first | rw [← Ny101.out] at ho3 | (simp only [Int.reduceToNat] at ho3; rw [← Ny101.out] at ho3)); have n0_ := Aside0.mk (Kd.R_lower ho3 (below_size (by repeat (first | (with_reducible first | exact HB.out | apply below_alloc | apply pw_below_drewN | apply below_drew1) | exact HB.out)))); have n1_ := Aside0.mk (below_step (by repeat (first | (with_reducible first | exact HB.out | apply below_alloc | apply pw_below_drewN | apply below_drew1) | exact HB.out)) hb); clear HB; have HO103 := n0_; have HB := n1_; clear n0_ n1_; clear hb ho3))
  go_loopg [4, 5] k (fun kq v4 v5 w' => ∃ (x4_1 : List (S37)) (x5_1 : ByteArray), v5 = .string x5_1 ∧ Aside0 (impl_ReadCode.l0 kq a0 x4_1 x5_1 = some (r1, r2)) ∧ Aside0 (kq ≤ k) ∧ Aside0 (Kd.R k37 37 w' w.heap.size (fun _ => True) v4 x4_1) ∧ Aside0 (Below w.heap.size w w'))
  case atStart => exact ⟨(y101), (a0), (by first | rfl | (simp; done) | (simp [*]; done)), H', ⟨Nat.le_refl _⟩, ⟨by (with_reducible repeat (first | apply Kd.R_alloc | apply Kd.R_drewN | apply Kd.R_drew)); exact HO103.out⟩, ⟨by repeat (first | (with_reducible first | exact HB.out | apply below_alloc | apply pw_below_drewN | apply below_drew1) | exact HB.out)⟩⟩
  case round =>
    clear H'
    try clear c1
    try clear p2
    obtain ⟨x4_1, x5_1, rfl, HA, HK1, HO_4, HB⟩ := hrel
    cases gk with
    | zero => exact absurd HA.out (by simp [impl_ReadCode.l0])
    | succ k1 =>
      have H := HA.out
      clear HA
      simp only [impl_ReadCode.l0] at H
      by_cases c4 : x5_1.toList = ([] : List UInt8)
      · rw [if_pos c4] at H
        have c4b0 : (x5_1.toList == ([] : List UInt8)) = true := beq_iff_eq.mpr c4
        have c4b1 : (x5_1.toList != ([] : List UInt8)) = false := bne_eq_false_iff_eq.mpr c4
        clear c4
        replace H := Option.bind_eq_some_iff.mp H
        obtain ⟨⟨t104, t105⟩, A50, H⟩ := H
        replace H : (if t105 = true then (if t104.toList = a0.toList then (some (x4_1, true)) else (some (([] : List (S37)), false))) else (some (([] : List (S37)), false))) = some (r1, r2) := H
        have A5 := Aside0.mk A50
        clear A50
        by_cases c6 : t105 = true
        · subst c6
          have H1 : (if t104.toList = a0.toList then (some (x4_1, true)) else (some (([] : List (S37)), false))) = some (r1, r2) := by rw [if_pos rfl] at H; exact H
          clear H
          have H := H1
          clear H1
          by_cases c7 : t104.toList = a0.toList
          · rw [if_pos c7] at H
            have c7b0 : (t104.toList == a0.toList) = true := beq_iff_eq.mpr c7
            have c7b1 : (t104.toList != a0.toList) = false := bne_eq_false_iff_eq.mpr c7
            clear c7
            simp only [Option.some.injEq, Prod.mk.injEq] at H
            obtain ⟨rfl, rfl⟩ := H
            obtain ⟨Ao8, co8, eo8⟩ := Kd.R_slice HO_4.out
            subst eo8
            go_wp2_with (first | ((with_reducible refine gate_callee (f := 8) rfl ?_); refine goesL_ (some 62) rfl rfl Tryd.func8 (by kernel_rfl) rfl #[.slice Ao8 x4_1.length co8] rfl (by (try simp only [List.map_toArray, List.map_cons, List.map_nil]); first | done | rfl | (simp only [List.length_drop, List.length_take]; rfl)) ?_; (with_reducible refine (impl_CodeText.calls k1 _ _ x4_1 t104 true _ ?side1 ?side2 A5.out (HE.out.below (by repeat (first | (with_reducible first | exact HB.out | apply below_alloc | apply pw_below_drewN | apply below_drew1) | exact HB.out))).tab (HE.out.below (by repeat (first | (with_reducible first | exact HB.out | apply below_alloc | apply pw_below_drewN | apply below_drew1) | exact HB.out))).mach).mono ?_); (case side1 => repeat (first | exact (Kd.R_reads' HO_4.out).2.2 | (with_reducible refine Kd.C_alloc ?_ _) | (with_reducible refine Kd.C_drewN ?_ _) | (with_reducible refine Kd.C_drew ?_))); (case side2 => exact (Kd.R_reads' HO_4.out).2.1); rintro e w9 ⟨rfl, hb⟩; refine ⟨_, rfl, ?_⟩; have n0_ := Aside0.mk (Kd.R_below (by (with_reducible repeat (first | apply Kd.R_alloc | apply Kd.R_drewN | apply Kd.R_drew)); exact HO_4.out) hb); have n1_ := Aside0.mk (below_step (by repeat (first | (with_reducible first | exact HB.out | apply below_alloc | apply pw_below_drewN | apply below_drew1) | exact HB.out)) hb); clear HO_4; clear HB; have HO_4 := n0_; have HB := n1_; clear n0_ n1_; (try clear hb); (try clear hb2); (try clear hk); (try clear hi)))
            go_ret2
            exact ⟨_, by first | rfl | (simp [errW_none, errW_some] <;> rfl) | (simp [*, errW_none, errW_some] <;> rfl), by (with_reducible repeat (first | apply Kd.R_alloc | apply Kd.R_drewN | apply Kd.R_drew)); exact HO_4.out, by repeat (first | (with_reducible first | exact HB.out | apply below_alloc | apply pw_below_drewN | apply below_drew1) | exact HB.out)⟩
          · rw [if_neg c7] at H
            have c7b0 : (t104.toList == a0.toList) = false := beq_eq_false_iff_ne.mpr c7
            have c7b1 : (t104.toList != a0.toList) = true := bne_iff_ne.mpr c7
            simp only [Option.some.injEq, Prod.mk.injEq] at H
            obtain ⟨rfl, rfl⟩ := H
            obtain ⟨Ao10, co10, eo10⟩ := Kd.R_slice HO_4.out
            subst eo10
            go_wp2_with (first | ((with_reducible refine gate_callee (f := 8) rfl ?_); refine goesL_ (some 62) rfl rfl Tryd.func8 (by kernel_rfl) rfl #[.slice Ao10 x4_1.length co10] rfl (by (try simp only [List.map_toArray, List.map_cons, List.map_nil]); first | done | rfl | (simp only [List.length_drop, List.length_take]; rfl)) ?_; (with_reducible refine (impl_CodeText.calls k1 _ _ x4_1 t104 true _ ?side1 ?side2 A5.out (HE.out.below (by repeat (first | (with_reducible first | exact HB.out | apply below_alloc | apply pw_below_drewN | apply below_drew1) | exact HB.out))).tab (HE.out.below (by repeat (first | (with_reducible first | exact HB.out | apply below_alloc | apply pw_below_drewN | apply below_drew1) | exact HB.out))).mach).mono ?_); (case side1 => repeat (first | exact (Kd.R_reads' HO_4.out).2.2 | (with_reducible refine Kd.C_alloc ?_ _) | (with_reducible refine Kd.C_drewN ?_ _) | (with_reducible refine Kd.C_drew ?_))); (case side2 => exact (Kd.R_reads' HO_4.out).2.1); rintro e w11 ⟨rfl, hb⟩; refine ⟨_, rfl, ?_⟩; have n0_ := Aside0.mk (Kd.R_below (by (with_reducible repeat (first | apply Kd.R_alloc | apply Kd.R_drewN | apply Kd.R_drew)); exact HO_4.out) hb); have n1_ := Aside0.mk (below_step (by repeat (first | (with_reducible first | exact HB.out | apply below_alloc | apply pw_below_drewN | apply below_drew1) | exact HB.out)) hb); clear HO_4; clear HB; have HO_4 := n0_; have HB := n1_; clear n0_ n1_; (try clear hb); (try clear hb2); (try clear hk); (try clear hi)))
            go_ret2
            exact ⟨_, by first | rfl | (simp [errW_none, errW_some] <;> rfl) | (simp [*, errW_none, errW_some] <;> rfl), by first | exact Kd.R_nil _ _ _ _ _ | exact Kd.N_nil _ _ _ _ _ | exact Kd.V_nil _ _ _ _ _ | exact Kd.Q_nil _ _ _ _ _ | exact Kd.S_nil _ _ _ _ _, by repeat (first | (with_reducible first | exact HB.out | apply below_alloc | apply pw_below_drewN | apply below_drew1) | exact HB.out)⟩
        · replace c6 := Bool.eq_false_iff.mpr c6
          subst c6
          have H1 : (some (([] : List (S37)), false)) = some (r1, r2) := by rw [if_neg (show ¬ (false = true) by decide)] at H; exact H
          clear H
          have H := H1
          clear H1
          simp only [Option.some.injEq, Prod.mk.injEq] at H
          obtain ⟨rfl, rfl⟩ := H
          obtain ⟨Ao12, co12, eo12⟩ := Kd.R_slice HO_4.out
          subst eo12
          go_wp2_with (first | ((with_reducible refine gate_callee (f := 8) rfl ?_); refine goesL_ (some 62) rfl rfl Tryd.func8 (by kernel_rfl) rfl #[.slice Ao12 x4_1.length co12] rfl (by (try simp only [List.map_toArray, List.map_cons, List.map_nil]); first | done | rfl | (simp only [List.length_drop, List.length_take]; rfl)) ?_; (with_reducible refine (impl_CodeText.calls k1 _ _ x4_1 t104 false _ ?side1 ?side2 A5.out (HE.out.below (by repeat (first | (with_reducible first | exact HB.out | apply below_alloc | apply pw_below_drewN | apply below_drew1) | exact HB.out))).tab (HE.out.below (by repeat (first | (with_reducible first | exact HB.out | apply below_alloc | apply pw_below_drewN | apply below_drew1) | exact HB.out))).mach).mono ?_); (case side1 => repeat (first | exact (Kd.R_reads' HO_4.out).2.2 | (with_reducible refine Kd.C_alloc ?_ _) | (with_reducible refine Kd.C_drewN ?_ _) | (with_reducible refine Kd.C_drew ?_))); (case side2 => exact (Kd.R_reads' HO_4.out).2.1); rintro e w13 ⟨rfl, hb⟩; refine ⟨_, rfl, ?_⟩; have n0_ := Aside0.mk (Kd.R_below (by (with_reducible repeat (first | apply Kd.R_alloc | apply Kd.R_drewN | apply Kd.R_drew)); exact HO_4.out) hb); have n1_ := Aside0.mk (below_step (by repeat (first | (with_reducible first | exact HB.out | apply below_alloc | apply pw_below_drewN | apply below_drew1) | exact HB.out)) hb); clear HO_4; clear HB; have HO_4 := n0_; have HB := n1_; clear n0_ n1_; (try clear hb); (try clear hb2); (try clear hk); (try clear hi)))
          go_ret2
          exact ⟨_, by first | rfl | (simp [errW_none, errW_some] <;> rfl) | (simp [*, errW_none, errW_some] <;> rfl), by first | exact Kd.R_nil _ _ _ _ _ | exact Kd.N_nil _ _ _ _ _ | exact Kd.V_nil _ _ _ _ _ | exact Kd.Q_nil _ _ _ _ _ | exact Kd.S_nil _ _ _ _ _, by repeat (first | (with_reducible first | exact HB.out | apply below_alloc | apply pw_below_drewN | apply below_drew1) | exact HB.out)⟩
      · rw [if_neg c4] at H
        have c4b0 : (x5_1.toList == ([] : List UInt8)) = false := beq_eq_false_iff_ne.mpr c4
        have c4b1 : (x5_1.toList != ([] : List UInt8)) = true := bne_iff_ne.mpr c4
        replace H := Option.bind_eq_some_iff.mp H
        obtain ⟨⟨t106, t107, t108⟩, A140, H⟩ := H
        replace H : ((strings_SplitN.f t106 (⟨#[32]⟩ : ByteArray) 3).bind fun t109 => (if (t109.length : Int) = 3 then (impl_ReadCode.j1 k1 a0 x4_1 t107 t109 ((x4_1.length : Int) == 3000)) else (impl_ReadCode.j1 k1 a0 x4_1 t107 t109 true))) = some (r1, r2) := H
        have A14 := Aside0.mk A140
        clear A140
        replace H := Option.bind_eq_some_iff.mp H
        obtain ⟨t109, A150, H⟩ := H
        replace H : (if (t109.length : Int) = 3 then (impl_ReadCode.j1 k1 a0 x4_1 t107 t109 ((x4_1.length : Int) == 3000)) else (impl_ReadCode.j1 k1 a0 x4_1 t107 t109 true)) = some (r1, r2) := H
        have A15 := Aside0.mk A150
        clear A150
        have HC16 := Aside0.mk H
        clear H
        go_upto_region 6 with (first | ((with_reducible refine gate_callee (f := 27) rfl ?_); refine goesL_ (some 22) rfl rfl Tryd.func27 (by kernel_rfl) rfl #[.string x5_1, .string (⟨#[10]⟩ : ByteArray)] rfl (by (try simp only [List.map_toArray, List.map_cons, List.map_nil]); first | done | rfl | (simp only [List.length_drop, List.length_take]; rfl)) ?_; (with_reducible refine (strings_Cut.calls x5_1 (⟨#[10]⟩ : ByteArray) t106 t107 t108 _ A14.out (HE.out.below (by repeat (first | (with_reducible first | exact HB.out | apply below_alloc | apply pw_below_drewN | apply below_drew1) | exact HB.out))).lib).mono ?_); rintro e w17 ⟨rfl, hb⟩; refine ⟨_, rfl, ?_⟩; have n0_ := Aside0.mk (Kd.R_below (by (with_reducible repeat (first | apply Kd.R_alloc | apply Kd.R_drewN | apply Kd.R_drew)); exact HO_4.out) hb); have n1_ := Aside0.mk (below_step (by repeat (first | (with_reducible first | exact HB.out | apply below_alloc | apply pw_below_drewN | apply below_drew1) | exact HB.out)) hb); clear HO_4; clear HB; have HO_4 := n0_; have HB := n1_; clear n0_ n1_; (try clear hb); (try clear hb2); (try clear hk); (try clear hi)) | ((with_reducible refine gate_callee (f := 28) rfl ?_); refine goesL_ (some 27) rfl rfl Tryd.func28 (by kernel_rfl) rfl #[.string t106, .string (⟨#[32]⟩ : ByteArray), .int .i64 3] rfl (by (try simp only [List.map_toArray, List.map_cons, List.map_nil]); first | done | rfl | (simp only [List.length_drop, List.length_take]; rfl)) ?_; (with_reducible refine (strings_SplitN.calls t106 (⟨#[32]⟩ : ByteArray) 3 t109 _ A15.out (HE.out.below (by repeat (first | (with_reducible first | exact HB.out | apply below_alloc | apply pw_below_drewN | apply below_drew1) | exact HB.out))).lib).mono ?_); rintro e w18 ⟨v110, rfl, ho0, hb⟩; refine ⟨_, rfl, ?_⟩; have n0_ := Aside0.mk (Kd.R_below (by (with_reducible repeat (first | apply Kd.R_alloc | apply Kd.R_drewN | apply Kd.R_drew)); exact HO_4.out) hb); have n1_ := Aside0.mk (Kd.R_lower ho0 (below_size (by repeat (first | (with_reducible first | exact HB.out | apply below_alloc | apply pw_below_drewN | apply below_drew1) | exact HB.out)))); have n2_ := Aside0.mk (below_step (by repeat (first | (with_reducible first | exact HB.out | apply below_alloc | apply pw_below_drewN | apply below_drew1) | exact HB.out)) hb); clear HO_4; clear HB; have HO_4 := n0_; have HO111 := n1_; have HB := n2_; clear n0_ n1_ n2_; (try clear hb); (try clear hb2); (try clear hk); (try clear hi); (try clear ho0)))
        (try simp only [Act.put, List.setIfInBounds_toArray, List.set_cons_zero, List.set_cons_succ])
        go_cut [35] (fun v35 wc => ∃ (kq : Nat) (x35_15 : Bool), v35 = .bool x35_15 ∧ Aside0 (impl_ReadCode.j1 kq a0 x4_1 t107 t109 x35_15 = some (r1, r2)) ∧ Aside0 (kq ≤ k1) ∧ Aside0 (Kd.R k37 37 wc w.heap.size (fun _ => True) u4 x4_1) ∧ Aside0 (Kd.R Kd.string 9 wc w.heap.size (fun _ => True) v110 t109) ∧ Aside0 (Below w.heap.size w wc))
        case first =>
          have H := HC16.out
          clear HC16
          by_cases c19 : (t109.length : Int) = 3
          · rw [if_pos c19] at H
            have c19b0 : ((t109.length : Int) == 3) = true := beq_iff_eq.mpr c19
            have c19b1 : ((t109.length : Int) != 3) = false := bne_eq_false_iff_eq.mpr c19
            clear c19
            (first | rw [c19b0] | (simp only [i64_w, i32_w]; rw [c19b0]) | skip)
            have H' := Aside0.mk H
            clear H
            obtain ⟨Ao20, co20, eo20⟩ := Kd.R_slice HO111.out
            subst eo20
            obtain ⟨Ao21, co21, eo21⟩ := Kd.R_slice HO_4.out
            subst eo21
            go_wp2
            go_meet
            case rel => exact ⟨_, (((x4_1.length : Int) == 3000)), (by first | rfl | (simp; done) | (simp [*]; done)), H', ⟨by have := HK1.out; first | omega | exact Nat.le_refl _⟩, ⟨by (with_reducible repeat (first | apply Kd.R_alloc | apply Kd.R_drewN | apply Kd.R_drew)); exact HO_4.out⟩, ⟨by (with_reducible repeat (first | apply Kd.R_alloc | apply Kd.R_drewN | apply Kd.R_drew)); exact HO111.out⟩, ⟨by repeat (first | (with_reducible first | exact HB.out | apply below_alloc | apply pw_below_drewN | apply below_drew1) | exact HB.out)⟩⟩
          · rw [if_neg c19] at H
            have c19b0 : ((t109.length : Int) == 3) = false := beq_eq_false_iff_ne.mpr c19
            have c19b1 : ((t109.length : Int) != 3) = true := bne_iff_ne.mpr c19
            (first | rw [c19b0] | (simp only [i64_w, i32_w]; rw [c19b0]) | skip)
            have H' := Aside0.mk H
            clear H
            obtain ⟨Ao22, co22, eo22⟩ := Kd.R_slice HO111.out
            subst eo22
            go_wp2
            go_meet
            case rel => exact ⟨_, (true), (by first | rfl | (simp; done) | (simp [*]; done)), H', ⟨by have := HK1.out; first | omega | exact Nat.le_refl _⟩, ⟨by (with_reducible repeat (first | apply Kd.R_alloc | apply Kd.R_drewN | apply Kd.R_drew)); exact HO_4.out⟩, ⟨by (with_reducible repeat (first | apply Kd.R_alloc | apply Kd.R_drewN | apply Kd.R_drew)); exact HO111.out⟩, ⟨by repeat (first | (with_reducible first | exact HB.out | apply below_alloc | apply pw_below_drewN | apply below_drew1) | exact HB.out)⟩⟩
        case rest =>
          clear HC16
          try clear c1
          try clear c2
          try clear p2
          try clear c4
          try clear c4b0
          try clear c4b1
          try clear c6
          try clear c7
          try clear c7b0
          try clear c7b1
          try clear c8
          try clear c11
          try clear c19
          try clear c19b0
          try clear c19b1
          try clear p2
          obtain ⟨kq, x35_15, rfl, HA, HJ15, HO_4, HO_9, HB⟩ := hcut
          cases kq with
          | zero => exact absurd HA.out (by simp [impl_ReadCode.j1])
          | succ kj15 =>
            have H := HA.out
            clear HA
            simp only [impl_ReadCode.j1] at H
            by_cases c23 : x35_15 = true
            · subst c23
              have H1 : (some (([] : List (S37)), false)) = some (r1, r2) := by rw [if_pos rfl] at H; exact H
              clear H
              have H := H1
              clear H1
              simp only [Option.some.injEq, Prod.mk.injEq] at H
              obtain ⟨rfl, rfl⟩ := H
              go_wp2
              go_ret2
              exact ⟨_, by first | rfl | (simp [errW_none, errW_some] <;> rfl) | (simp [*, errW_none, errW_some] <;> rfl), by first | exact Kd.R_nil _ _ _ _ _ | exact Kd.N_nil _ _ _ _ _ | exact Kd.V_nil _ _ _ _ _ | exact Kd.Q_nil _ _ _ _ _ | exact Kd.S_nil _ _ _ _ _, by repeat (first | (with_reducible first | exact HB.out | apply below_alloc | apply pw_below_drewN | apply below_drew1) | exact HB.out)⟩
            · replace c23 := Bool.eq_false_iff.mpr c23
              subst c23
              have H1 : (if 0 < (t109.length : Int) then ((strconv_Atoi_29.f (rdOf ByteArray.empty t109 0)).bind fun bt113 => (if 1 < (t109.length : Int) then ((strconv_Atoi_29.f (rdOf ByteArray.empty t109 1)).bind fun bt116 => (if 2 < (t109.length : Int) then (if x4_1.length < 4398046511104 then (impl_ReadCode.l0 kj15 a0 (x4_1 ++ [(⟨bt113.1, bt116.1, rdOf ByteArray.empty t109 2⟩ : S37)]) t107) else (none)) else (none))) else (none))) else (none)) = some (r1, r2) := by rw [if_neg (show ¬ (false = true) by decide)] at H; exact H
              clear H
              have H := H1
              clear H1
              by_cases c24 : 0 < (t109.length : Int)
              · rw [if_pos c24] at H
                have c24b0 : decide (0 < (t109.length : Int)) = true := decide_eq_true c24
                have c24b1 : decide (0 < t109.length) = true := decide_eq_true (by omega)
                clear c24
                replace H := Option.bind_eq_some_iff.mp H
                obtain ⟨⟨t113, t114⟩, A250, H⟩ := H
                replace H : (if 1 < (t109.length : Int) then ((strconv_Atoi_29.f (rdOf ByteArray.empty t109 1)).bind fun bt116 => (if 2 < (t109.length : Int) then (if x4_1.length < 4398046511104 then (impl_ReadCode.l0 kj15 a0 (x4_1 ++ [(⟨t113, bt116.1, rdOf ByteArray.empty t109 2⟩ : S37)]) t107) else (none)) else (none))) else (none)) = some (r1, r2) := H
                have A25 := Aside0.mk A250
                clear A250
                by_cases c26 : 1 < (t109.length : Int)
                · rw [if_pos c26] at H
                  have c26b0 : decide (1 < (t109.length : Int)) = true := decide_eq_true c26
                  have c26b1 : decide (1 < t109.length) = true := decide_eq_true (by omega)
                  clear c26
                  replace H := Option.bind_eq_some_iff.mp H
                  obtain ⟨⟨t116, t117⟩, A270, H⟩ := H
                  replace H : (if 2 < (t109.length : Int) then (if x4_1.length < 4398046511104 then (impl_ReadCode.l0 kj15 a0 (x4_1 ++ [(⟨t113, t116, rdOf ByteArray.empty t109 2⟩ : S37)]) t107) else (none)) else (none)) = some (r1, r2) := H
                  have A27 := Aside0.mk A270
                  clear A270
                  by_cases c28 : 2 < (t109.length : Int)
                  · rw [if_pos c28] at H
                    have c28b0 : decide (2 < (t109.length : Int)) = true := decide_eq_true c28
                    have c28b1 : decide (2 < t109.length) = true := decide_eq_true (by omega)
                    clear c28
                    by_cases c29 : x4_1.length < 4398046511104
                    · rw [if_pos c29] at H
                      have LMc29 := Aside0.mk c29
                      clear c29
                      obtain ⟨y119, hy119⟩ : ∃ y_ : List (S37), y_ = (x4_1 ++ [(⟨t113, t116, rdOf ByteArray.empty t109 2⟩ : S37)]) := ⟨_, rfl⟩
                      replace H : (impl_ReadCode.l0 kj15 a0 y119 t107) = some (r1, r2) := by first | (rw [hy119]; with_reducible exact H) | (have H2_ := (Option.bind_some _ _).symm.trans H; rw [hy119]; with_reducible exact H2_) | (have H2_ := (Option.bind_some _ _).symm.trans H; with_reducible exact H2_) | with_reducible exact H | (rw [hy119]; exact H) | exact H
                      have Ny119 := Aside0.mk hy119
                      clear hy119
                      have H' := Aside0.mk H
                      clear H
                      obtain ⟨Ao30, co30, eo30⟩ := Kd.R_slice HO_9.out
                      subst eo30
                      have p112 : 0 ≤ (0 : Int) := (by omega)
                      have q112 : 0 < (t109.length : Int) := of_decide_eq_true (by first | (with_reducible assumption) | assumption)
                      obtain ⟨ad112, e112, hx112_0⟩ := Kd.at_string (Kd.R_reads' HO_9.out).2.2 0 p112 q112
                      cases e112
                      have qi112 : (0 < t109.length) = True := eq_true (by omega)
                      (try rw [show ((0 : Int)).toNat = 0 from rfl] at hx112_0)
                      (try rw [Addr.add_zero'] at hx112_0)
                      replace p112 := eq_true p112
                      replace q112 := eq_true q112
                      go_wp2_with (first | ((with_reducible refine gate_callee (f := 29) rfl ?_); refine goesL_ (some 40) rfl rfl Tryd.func29 (by kernel_rfl) rfl #[.string (rdOf ByteArray.empty t109 0)] rfl (by (try simp only [List.map_toArray, List.map_cons, List.map_nil]); first | done | rfl | (simp only [List.length_drop, List.length_take]; rfl)) ?_; (with_reducible refine (strconv_Atoi_29.calls (rdOf ByteArray.empty t109 0) t113 t114 _ A25.out (HE.out.below (by repeat (first | (with_reducible first | exact HB.out | apply below_alloc | apply pw_below_drewN | apply below_drew1) | exact HB.out))).lib).mono ?_); rintro e w31 ⟨ev_, rfl, _, hb⟩; refine ⟨_, rfl, ?_⟩; have n0_ := Aside0.mk (Kd.R_below (by (with_reducible repeat (first | apply Kd.R_alloc | apply Kd.R_drewN | apply Kd.R_drew)); exact HO_4.out) hb); have n1_ := Aside0.mk (Kd.R_below (by (with_reducible repeat (first | apply Kd.R_alloc | apply Kd.R_drewN | apply Kd.R_drew)); exact HO_9.out) hb); have n2_ := Aside0.mk (below_step (by repeat (first | (with_reducible first | exact HB.out | apply below_alloc | apply pw_below_drewN | apply below_drew1) | exact HB.out)) hb); clear HO_4; clear HO_9; clear HB; have HO_4 := n0_; have HO_9 := n1_; have HB := n2_; clear n0_ n1_ n2_; (try clear hb); (try clear hb2); (try clear hk); (try clear hi); (try simp only [errW_none, errW_some]); have p115 : 0 ≤ (1 : Int) := (by omega); have q115 : 1 < (t109.length : Int) := of_decide_eq_true (by first | (with_reducible assumption) | assumption); obtain ⟨ad115, e115, hx115_0⟩ := Kd.at_string (Kd.R_reads' HO_9.out).2.2 1 p115 q115; obtain rfl : ad112 = ad115 := (by injection e115); (try simp only [show (1 : Int).toNat = 1 from rfl, Nat.reduceMul, Nat.reduceEqDiff, Go.Addr.add, ↓reduceIte] at hx115_0); have qi115 : (1 < t109.length) = True := eq_true (by omega); (try rw [show ((1 : Int)).toNat = 1 from rfl] at hx115_0); replace p115 := eq_true p115; replace q115 := eq_true q115) | ((with_reducible refine gate_callee (f := 29) rfl ?_); refine goesL_ (some 47) rfl rfl Tryd.func29 (by kernel_rfl) rfl #[.string (rdOf ByteArray.empty t109 1)] rfl (by (try simp only [List.map_toArray, List.map_cons, List.map_nil]); first | done | rfl | (simp only [List.length_drop, List.length_take]; rfl)) ?_; (with_reducible refine (strconv_Atoi_29.calls (rdOf ByteArray.empty t109 1) t116 t117 _ A27.out (HE.out.below (by repeat (first | (with_reducible first | exact HB.out | apply below_alloc | apply pw_below_drewN | apply below_drew1) | exact HB.out))).lib).mono ?_); rintro e w32 ⟨ev_, rfl, _, hb⟩; refine ⟨_, rfl, ?_⟩; have n0_ := Aside0.mk (Kd.R_below (by (with_reducible repeat (first | apply Kd.R_alloc | apply Kd.R_drewN | apply Kd.R_drew)); exact HO_4.out) hb); have n1_ := Aside0.mk (Kd.R_below (by (with_reducible repeat (first | apply Kd.R_alloc | apply Kd.R_drewN | apply Kd.R_drew)); exact HO_9.out) hb); have n2_ := Aside0.mk (below_step (by repeat (first | (with_reducible first | exact HB.out | apply below_alloc | apply pw_below_drewN | apply below_drew1) | exact HB.out)) hb); clear HO_4; clear HO_9; clear HB; have HO_4 := n0_; have HO_9 := n1_; have HB := n2_; clear n0_ n1_ n2_; (try clear hb); (try clear hb2); (try clear hk); (try clear hi); (try simp only [errW_none, errW_some]); have p118 : 0 ≤ (2 : Int) := (by omega); have q118 : 2 < (t109.length : Int) := of_decide_eq_true (by first | (with_reducible assumption) | assumption); obtain ⟨ad118, e118, hx118_0⟩ := Kd.at_string (Kd.R_reads' HO_9.out).2.2 2 p118 q118; obtain rfl : ad112 = ad118 := (by injection e118); (try simp only [show (2 : Int).toNat = 2 from rfl, Nat.reduceMul, Nat.reduceEqDiff, Go.Addr.add, ↓reduceIte] at hx118_0); have qi118 : (2 < t109.length) = True := eq_true (by omega); (try rw [show ((2 : Int)).toNat = 2 from rfl] at hx118_0); replace p118 := eq_true p118; replace q118 := eq_true q118) | ((with_reducible refine gate_builtin (b := .append) (xs := #[.tmp 50, .tmp 57]) rfl ?_); (try (refine gate_guard (by rfl) ?_; dsimp only)); at_builtin; refine Kd.R_append k37 (w0 := w) w.heap.size rfl (.tmp 50) (.tmp 57) 26 37 (.agg #[(.int .i64 0), (.int .i64 0), (.string ⟨#[]⟩)]) 32 rfl Tryd.underlying26 info37 rfl (by decide) (by omega) u4 x4_1 (⟨t113, t116, rdOf ByteArray.empty t109 2⟩ : S37) [.int .i64 t113, .int .i64 t116, .string (rdOf ByteArray.empty t109 2)] (fun _ => True) (fun _ => False) rfl rfl ?aP (fun _ hk => hk.elim) ?aF ?aO ?aB ?aS ?aL ?_; (case aP => exact k37_mkM _ _ _ (⟨t113, t116, rdOf ByteArray.empty t109 2⟩ : S37)); (case aB => exact (by repeat (first | (with_reducible first | exact HB.out | apply below_alloc | apply pw_below_drewN | apply below_drew1) | exact HB.out))); (case aF => exact (fun _ _ => trivial)); (case aO => exact (by (with_reducible repeat (first | apply Kd.R_alloc | apply Kd.R_drewN | apply Kd.R_drew)); exact HO_4.out)); (case aS => exact (below_size (by repeat (first | (with_reducible first | exact HB.out | apply below_alloc | apply pw_below_drewN | apply below_drew1) | exact HB.out)))); (case aL => have := LMc29.out; omega); intro v120 w33 ho hb hg hat; rw [← Ny119.out] at ho; have n0_ := Aside0.mk (Kd.R_over' (by (with_reducible repeat (first | apply Kd.R_alloc | apply Kd.R_drewN | apply Kd.R_drew)); exact HO_9.out) (Kd.R_typed (by (with_reducible repeat (first | apply Kd.R_alloc | apply Kd.R_drewN | apply Kd.R_drew)); exact HO_4.out)) (by decide) hg); have n1_ := Aside0.mk (hb); have n2_ := Aside0.mk (ho); clear HO_9; clear HB; clear HO_4; have HO_9 := n0_; have HB := n1_; have HO121 := n2_; clear n0_ n1_ n2_; clear ho hb hg hat))
                      go_roundg kj15
                      case measure => have := HK1.out; have := HJ15.out; omega
                      case rel => exact ⟨(y119), (t107), (by first | rfl | (simp; done) | (simp [*]; done)), H', ⟨by have := HK1.out; have := HJ15.out; omega⟩, ⟨by (with_reducible repeat (first | apply Kd.R_alloc | apply Kd.R_drewN | apply Kd.R_drew)); exact HO121.out⟩, ⟨by repeat (first | (with_reducible first | exact HB.out | apply below_alloc | apply pw_below_drewN | apply below_drew1) | exact HB.out)⟩⟩
                    · rw [if_neg c29] at H
                      exact absurd H (by simp)
                  · rw [if_neg c28] at H
                    exact absurd H (by simp)
                · rw [if_neg c26] at H
                  exact absurd H (by simp)
              · rw [if_neg c24] at H
                exact absurd H (by simp)

end Go.Proofs.YtlkgimnafnmgpaaDoor.G

namespace Go.Proofs.YtlkgimnafnmgpaaDoor.G
open Go.RowKit Go.Proofs.YtlkgimnafnmgpaaDoorW.PrintWords Go.Proofs.YtlkgimnafnmgpaaDoorW.PrintLast Go.Proofs.YtlkgimnafnmgpaaDoorW.PrintMore
attribute [local go_sem] max2_int min2_int max_two min_two max_three min_three max_four min_four   -- for this text's walks alone
set_option linter.unusedVariables false
set_option linter.unusedSimpArgs false

def laws_markText.l0 : Nat → Int → ByteArray → Option (ByteArray)
  | 0, _, _ => none
  | k + 1, x0, x3 => if x0 > 0 then ((some (([(wrap64 (48 + (Int.tmod x0 10))) % 256] : List Int) : List Int)).bind fun y101 => (if (strOfNums y101).size + x3.size ≤ 9223372036854775807 then (laws_markText.l0 k (wrap64 (Int.tdiv x0 10)) ((strOfNums y101) ++ x3)) else (none))) else (if 1 + x3.size ≤ 9223372036854775807 then (some ((⟨#[109]⟩ : ByteArray) ++ x3)) else (none))
def laws_markText.f (k : Nat) (a0 : Int) : Option (ByteArray) := if a0 ≤ 0 then (some (⟨#[109, 48]⟩ : ByteArray)) else (laws_markText.l0 k a0 (⟨#[]⟩ : ByteArray))
set_option maxHeartbeats 8000000 in
set_option maxRecDepth 100000 in
theorem laws_markText.calls (k : Nat) (a0 : Int) (r : ByteArray) (w : World) (h : laws_markText.f k a0 = some r) :
    Calls Tryd.prog 30 #[.int .i64 a0] w fun e w' => e = .returned (.string r) ∧ Below w.heap.size w w' := by
  have HB := Aside0.mk (Below.refl w.heap.size w)
  have H : (if a0 ≤ 0 then (some (⟨#[109, 48]⟩ : ByteArray)) else (laws_markText.l0 k a0 (⟨#[]⟩ : ByteArray))) = some r := h
  clear h
  by_cases c2 : a0 ≤ 0
  · rw [if_pos c2] at H
    have c2b0 : decide (a0 ≤ 0) = true := decide_eq_true c2
    clear c2
    obtain rfl := Option.some.inj H
    go_enter Tryd.func30, Tryd.ntmps30
    go_wp2
    go_ret
    exact ⟨by first | rfl | (simp [errW_none, errW_some] <;> rfl) | (simp [*, errW_none, errW_some] <;> rfl), by repeat (first | (with_reducible first | exact HB.out | apply below_alloc | apply pw_below_drewN | apply below_drew1) | exact HB.out)⟩
  · rw [if_neg c2] at H
    have c2b0 : decide (a0 ≤ 0) = false := decide_eq_false c2
    clear c2
    have H' := Aside0.mk H
    clear H
    go_enter Tryd.func30, Tryd.ntmps30
    go_wp2
    go_loopg [0, 3] k (fun kq v0 v3 w' => ∃ (x0_1 : Int) (x3_1 : ByteArray), v0 = .int .i64 x0_1 ∧ v3 = .string x3_1 ∧ Aside0 (laws_markText.l0 kq x0_1 x3_1 = some r) ∧ Aside0 (kq ≤ k) ∧ Aside0 (Below w.heap.size w w'))
    case atStart => exact ⟨(a0), ((⟨#[]⟩ : ByteArray)), (by first | rfl | (simp; done) | (simp [*]; done)), (by first | rfl | (simp; done) | (simp [*]; done)), H', ⟨Nat.le_refl _⟩, ⟨by repeat (first | (with_reducible first | exact HB.out | apply below_alloc | apply pw_below_drewN | apply below_drew1) | exact HB.out)⟩⟩
    case round =>
      clear H'
      try clear c2
      try clear c2b0
      try clear p2
      obtain ⟨x0_1, x3_1, rfl, rfl, HA, HK1, HB⟩ := hrel
      cases gk with
      | zero => exact absurd HA.out (by simp [laws_markText.l0])
      | succ k1 =>
        have H := HA.out
        clear HA
        simp only [laws_markText.l0] at H
        by_cases c3 : x0_1 > 0
        · rw [if_pos c3] at H
          have c3b0 : decide (0 < x0_1) = true := decide_eq_true c3
          clear c3
          obtain ⟨y101, hy101⟩ : ∃ y_ : List Int, y_ = (([(wrap64 (48 + (Int.tmod x0_1 10))) % 256] : List Int)) := ⟨_, rfl⟩
          replace H : (if (strOfNums y101).size + x3_1.size ≤ 9223372036854775807 then (laws_markText.l0 k1 (wrap64 (Int.tdiv x0_1 10)) ((strOfNums y101) ++ x3_1)) else (none)) = some r := by first | (rw [hy101]; with_reducible exact H) | (have H2_ := (Option.bind_some _ _).symm.trans H; rw [hy101]; with_reducible exact H2_) | (have H2_ := (Option.bind_some _ _).symm.trans H; with_reducible exact H2_) | with_reducible exact H | (rw [hy101]; exact H) | exact H
          have Ny101 := Aside0.mk hy101
          clear hy101
          by_cases c4 : (strOfNums y101).size + x3_1.size ≤ 9223372036854775807
          · rw [if_pos c4] at H
            have c4b0 := eq_true c4
            have c4b1 : decide ((strOfNums y101).size + x3_1.size ≤ 9223372036854775807) = true := decide_eq_true c4
            try have c4b2 : (9223372036854775807 < (strOfNums y101).size + x3_1.size) = False := eq_false (Nat.not_lt.2 c4)
            have H' := Aside0.mk H
            clear H
            go_wp2_with (first | ((with_reducible refine gate_dst (N := 12) rfl ?_); refine Kd.R_lit (Kd.int .u8) _ 5 ?hg (N := 12) ?hd (xs := ([(wrap64 (48 + (Int.tmod x0_1 10))) % 256] : List Int)) (inner := [.int .u8 ((wrap64 (48 + (Int.tmod x0_1 10))) % 256)]) (ok := fun _ => True) (okp := fun _ => True) ?hr ?hp (fun _ hk => hk) trivial (Below.refl _ _) (Nat.le_refl _) (by simp) ?_; (case hd => rfl); (case hg => rfl); (case hr => first | (go_simp; done) | (go_simp; rfl)); (case hp => exact (Reps.one (show Kd.M (Kd.int .u8) _ _ _ ((wrap64 (48 + (Int.tmod x0_1 10))) % 256) [.int .u8 ((wrap64 (48 + (Int.tmod x0_1 10))) % 256)] from rfl) (Reps.none _ _))); intro v102 w5 ho6 hb hg_ hnew_; clear hg_ hnew_; (first | rw [← Ny101.out] at ho6 | (simp only [Int.reduceToNat] at ho6; rw [← Ny101.out] at ho6)); have n0_ := Aside0.mk (Kd.R_lower ho6 (below_size (by repeat (first | (with_reducible first | exact HB.out | apply below_alloc | apply pw_below_drewN | apply below_drew1) | exact HB.out)))); have n1_ := Aside0.mk (below_step (by repeat (first | (with_reducible first | exact HB.out | apply below_alloc | apply pw_below_drewN | apply below_drew1) | exact HB.out)) hb); clear HB; have HO103 := n0_; have HB := n1_; clear n0_ n1_; clear hb ho6; have hcv7 := own_string (P := Tryd.prog) Tryd.underlying46 Tryd.underlying5 Tryd.underlying9 (Kd.own_of_R HO103.out)))
            go_roundg k1
            case measure => have := HK1.out; omega
            case rel => exact ⟨(wrap64 (Int.tdiv x0_1 10)), ((strOfNums y101) ++ x3_1), (by first | rfl | (simp; done) | (simp [*]; done)), (by first | rfl | (simp; done) | (simp [*]; done)), H', ⟨by have := HK1.out; omega⟩, ⟨by repeat (first | (with_reducible first | exact HB.out | apply below_alloc | apply pw_below_drewN | apply below_drew1) | exact HB.out)⟩⟩
          · rw [if_neg c4] at H
            exact absurd H (by simp)
        · rw [if_neg c3] at H
          have c3b0 : decide (0 < x0_1) = false := decide_eq_false c3
          clear c3
          by_cases c8 : 1 + x3_1.size ≤ 9223372036854775807
          · rw [if_pos c8] at H
            have c8b0 := eq_true c8
            have c8b1 : decide (1 + x3_1.size ≤ 9223372036854775807) = true := decide_eq_true c8
            try have c8b2 : (9223372036854775807 < 1 + x3_1.size) = False := eq_false (Nat.not_lt.2 c8)
            obtain rfl := Option.some.inj H
            go_wp2
            go_ret
            exact ⟨by first | rfl | (simp [errW_none, errW_some] <;> rfl) | (simp [*, errW_none, errW_some] <;> rfl), by repeat (first | (with_reducible first | exact HB.out | apply below_alloc | apply pw_below_drewN | apply below_drew1) | exact HB.out)⟩
          · rw [if_neg c8] at H
            exact absurd H (by simp)

end Go.Proofs.YtlkgimnafnmgpaaDoor.G

namespace Go.Proofs.YtlkgimnafnmgpaaDoor.G
open Go.RowKit Go.Proofs.YtlkgimnafnmgpaaDoorW.PrintWords Go.Proofs.YtlkgimnafnmgpaaDoorW.PrintLast Go.Proofs.YtlkgimnafnmgpaaDoorW.PrintMore
attribute [local go_sem] max2_int min2_int max_two min_two max_three min_three max_four min_four   -- for this text's walks alone
set_option linter.unusedVariables false
set_option linter.unusedSimpArgs false

def laws_markInstrS.l0 : Nat → List (S37) → Int → Int → Option (Int × (List (S37)))
  | 0, _, _, _ => none
  | k + 1, x0, x1, x5 => if x5 < (x0.length : Int) then (if 0 ≤ x5 then ((some (x0.set (x5 : Int).toNat (⟨x1, (rd_T37 x0 x5).f1, (rd_T37 x0 x5).f2⟩ : S37) : List (S37))).bind fun y101 => ((some (y101.set (x5 : Int).toNat (⟨(rd_T37 y101 x5).f0, wrap64 (x1 + 1), (rd_T37 y101 x5).f2⟩ : S37) : List (S37))).bind fun y102 => ((laws_markText.f k (wrap64 ((wrap64 (x1 + 1)) + 1))).bind fun t103 => (laws_markInstrS.l0 k (y102.set (x5 : Int).toNat (⟨(rd_T37 y102 x5).f0, (rd_T37 y102 x5).f1, t103⟩ : S37)) (wrap64 ((wrap64 ((wrap64 (x1 + 1)) + 1)) + 1)) (wrap64 (x5 + 1)))))) else (none)) else (some (x1, x0))
def laws_markInstrS.f (k : Nat) (l0 : List (S37)) (a1 : Int) : Option (Int × (List (S37))) := laws_markInstrS.l0 k l0 a1 0
set_option maxHeartbeats 8000000 in
set_option maxRecDepth 100000 in
theorem laws_markInstrS.calls (k : Nat) (P0_ : Nat → Prop) (u9000_ : Value) (l0 : List (S37)) (a1 : Int) (r1 : Int) (r2 : List (S37)) (w0 w : World) (hB : Below w0.heap.size w0 w) (ho0 : Kd.R k37 37 w w0.heap.size P0_ u9000_ l0) (h : laws_markInstrS.f k l0 a1 = some (r1, r2)) :
    Calls Tryd.prog 12 #[u9000_, .int .i64 a1] w fun e w' => e = .returned (.int .i64 r1) ∧ Kd.R k37 37 w' w0.heap.size (fun k_ => (P0_ k_ ∨ w.heap.size ≤ k_)) u9000_ r2 ∧ Below w0.heap.size w0 w' ∧ Kept w w' (fun k_ => P0_ k_) := by
  have HO0 := Aside0.mk (show Kd.R k37 37 w w0.heap.size (fun k_ => (P0_ k_ ∨ w.heap.size ≤ k_)) u9000_ l0 from Kd.R_mono ho0 (fun k_ hk => (.inl hk)))
  have HK := Aside0.mk (Kept.refl w (fun k_ => P0_ k_))
  have HW0 := Aside0.mk hB.size
  have HB := Aside0.mk hB
  clear hB
  have H : (laws_markInstrS.l0 k l0 a1 0) = some (r1, r2) := h
  clear h
  have H' := Aside0.mk H
  clear H
  go_enter Tryd.func12, Tryd.ntmps12
  go_wp2
  go_loopg [1, 5] k (fun kq v1 v5 w' => ∃ (x0_1 : List (S37)) (x1_1 : Int) (x5_1 : Int), v1 = .int .i64 x1_1 ∧ v5 = .int .i64 x5_1 ∧ Aside0 (laws_markInstrS.l0 kq x0_1 x1_1 x5_1 = some (r1, r2)) ∧ Aside0 (kq ≤ k) ∧ Aside0 (Kd.R k37 37 w' w0.heap.size (fun k_ => (P0_ k_ ∨ w.heap.size ≤ k_)) u9000_ x0_1) ∧ Aside0 (Kept w w' (fun k_ => P0_ k_)) ∧ Aside0 (Below w0.heap.size w0 w'))
  case atStart => exact ⟨(l0), (a1), (0), (by first | rfl | (simp; done) | (simp [*]; done)), (by first | rfl | (simp; done) | (simp [*]; done)), H', ⟨Nat.le_refl _⟩, ⟨by (with_reducible repeat (first | apply Kd.R_alloc | apply Kd.R_drewN | apply Kd.R_drew)); exact HO0.out⟩, ⟨by repeat (first | (with_reducible first | exact HK.out | apply Kept.alloc | apply Kept.drewN | apply Kept.drew) | exact HK.out)⟩, ⟨by repeat (first | (with_reducible first | exact HB.out | apply below_alloc | apply pw_below_drewN | apply below_drew1) | exact HB.out)⟩⟩
  case round =>
    clear H'
    try clear c1
    try clear p2
    obtain ⟨x0_1, x1_1, x5_1, rfl, rfl, HA, HK1, HO_0, HK, HB⟩ := hrel
    cases gk with
    | zero => exact absurd HA.out (by simp [laws_markInstrS.l0])
    | succ k1 =>
      have H := HA.out
      clear HA
      simp only [laws_markInstrS.l0] at H
      by_cases c3 : x5_1 < (x0_1.length : Int)
      · rw [if_pos c3] at H
        have c3b0 : decide (x5_1 < (x0_1.length : Int)) = true := decide_eq_true c3
        clear c3
        by_cases c4 : 0 ≤ x5_1
        · rw [if_pos c4] at H
          have c4b0 : decide (0 ≤ x5_1) = true := decide_eq_true c4
          clear c4
          obtain ⟨y101, hy101⟩ : ∃ y_ : List (S37), y_ = (x0_1.set (x5_1 : Int).toNat (⟨x1_1, (rd_T37 x0_1 x5_1).f1, (rd_T37 x0_1 x5_1).f2⟩ : S37)) := ⟨_, rfl⟩
          replace H : ((some (y101.set (x5_1 : Int).toNat (⟨(rd_T37 y101 x5_1).f0, wrap64 (x1_1 + 1), (rd_T37 y101 x5_1).f2⟩ : S37) : List (S37))).bind fun y102 => ((laws_markText.f k1 (wrap64 ((wrap64 (x1_1 + 1)) + 1))).bind fun t103 => (laws_markInstrS.l0 k1 (y102.set (x5_1 : Int).toNat (⟨(rd_T37 y102 x5_1).f0, (rd_T37 y102 x5_1).f1, t103⟩ : S37)) (wrap64 ((wrap64 ((wrap64 (x1_1 + 1)) + 1)) + 1)) (wrap64 (x5_1 + 1))))) = some (r1, r2) := by first | (rw [hy101]; with_reducible exact H) | (have H2_ := (Option.bind_some _ _).symm.trans H; rw [hy101]; with_reducible exact H2_) | (have H2_ := (Option.bind_some _ _).symm.trans H; with_reducible exact H2_) | with_reducible exact H | (rw [hy101]; exact H) | exact H
          have Ny101 := Aside0.mk hy101
          clear hy101
          obtain ⟨y102, hy102⟩ : ∃ y_ : List (S37), y_ = (y101.set (x5_1 : Int).toNat (⟨(rd_T37 y101 x5_1).f0, wrap64 (x1_1 + 1), (rd_T37 y101 x5_1).f2⟩ : S37)) := ⟨_, rfl⟩
          replace H : ((laws_markText.f k1 (wrap64 ((wrap64 (x1_1 + 1)) + 1))).bind fun t103 => (laws_markInstrS.l0 k1 (y102.set (x5_1 : Int).toNat (⟨(rd_T37 y102 x5_1).f0, (rd_T37 y102 x5_1).f1, t103⟩ : S37)) (wrap64 ((wrap64 ((wrap64 (x1_1 + 1)) + 1)) + 1)) (wrap64 (x5_1 + 1)))) = some (r1, r2) := by first | (rw [hy102]; with_reducible exact H) | (have H2_ := (Option.bind_some _ _).symm.trans H; rw [hy102]; with_reducible exact H2_) | (have H2_ := (Option.bind_some _ _).symm.trans H; with_reducible exact H2_) | with_reducible exact H | (rw [hy102]; exact H) | exact H
          have Ny102 := Aside0.mk hy102
          clear hy102
          replace H := Option.bind_eq_some_iff.mp H
          obtain ⟨t103, A70, H⟩ := H
          replace H : (laws_markInstrS.l0 k1 (y102.set (x5_1 : Int).toNat (⟨(rd_T37 y102 x5_1).f0, (rd_T37 y102 x5_1).f1, t103⟩ : S37)) (wrap64 ((wrap64 ((wrap64 (x1_1 + 1)) + 1)) + 1)) (wrap64 (x5_1 + 1))) = some (r1, r2) := H
          have A7 := Aside0.mk A70
          clear A70
          obtain ⟨y104, hy104⟩ : ∃ y_ : List (S37), y_ = (y102.set (x5_1 : Int).toNat (⟨(rd_T37 y102 x5_1).f0, (rd_T37 y102 x5_1).f1, t103⟩ : S37)) := ⟨_, rfl⟩
          replace H : (laws_markInstrS.l0 k1 y104 (wrap64 ((wrap64 ((wrap64 (x1_1 + 1)) + 1)) + 1)) (wrap64 (x5_1 + 1))) = some (r1, r2) := by first | (rw [hy104]; with_reducible exact H) | (have H2_ := (Option.bind_some _ _).symm.trans H; rw [hy104]; with_reducible exact H2_) | (have H2_ := (Option.bind_some _ _).symm.trans H; with_reducible exact H2_) | with_reducible exact H | (rw [hy104]; exact H) | exact H
          have Ny104 := Aside0.mk hy104
          clear hy104
          have H' := Aside0.mk H
          clear H
          obtain ⟨Ao9, co9, eo9⟩ := Kd.R_slice HO_0.out
          subst eo9
          have p5 : 0 ≤ (x5_1 : Int) := of_decide_eq_true (by first | (with_reducible assumption) | assumption)
          have q5 : (x5_1 : Int) < ((x0_1.length : Int) : Int) := of_decide_eq_true (by first | (with_reducible assumption) | assumption)
          obtain ⟨go5, co5, eo5, gb5, gl5, cl5, HG5⟩ := Kd.R_form HO_0.out (by omega)
          (first | cases eo5 | (injection eo5 with ea_ en_ ec_; (first | subst ea_ | (injection ea_ with ea_; subst ea_)); subst ec_; clear en_))
          have GB5 := Aside0.mk gb5
          have GG5 := Aside0.mk HG5
          clear gb5 gl5 HG5
          have HMgo5 := Aside0.mk (show (P0_ go5 ∨ w.heap.size ≤ go5) from (HO_0.out.1 _ rfl))
          obtain ⟨ce5, hcl5, hM5, hcc5, hfr5⟩ := Kd.R_elem HO_0.out z37 (x5_1 : Int) p5 q5
          obtain rfl := k37_openM hM5
          have hx5_0 : wr.cell? ⟨go5, (x5_1 : Int).toNat * 3, none⟩ = some (.int .i64 ((rd_T37 x0_1 x5_1).f0)) := hcc5 0 _ rfl
          have hx5_1 : wr.cell? ⟨go5, (x5_1 : Int).toNat * 3 + 1, none⟩ = some (.int .i64 ((rd_T37 x0_1 x5_1).f1)) := hcc5 1 _ rfl
          have hx5_2 : wr.cell? ⟨go5, (x5_1 : Int).toNat * 3 + 2, none⟩ = some (.string ((rd_T37 x0_1 x5_1).f2)) := hcc5 2 _ rfl
          have hf5_0 : wr.frozen? ⟨go5, (x5_1 : Int).toNat * 3, none⟩ = false := hfr5 0
          have hf5_1 : wr.frozen? ⟨go5, (x5_1 : Int).toNat * 3 + 1, none⟩ = false := hfr5 1
          have hf5_2 : wr.frozen? ⟨go5, (x5_1 : Int).toNat * 3 + 2, none⟩ = false := hfr5 2
          clear hcl5 hcc5 hfr5 hM5
          replace p5 := eq_true p5
          replace q5 := eq_true q5
          have HX10 := Aside0.mk (show Kd.R k37 37 wr w0.heap.size (fun k_ => (P0_ k_ ∨ w.heap.size ≤ k_)) (.slice (some ⟨go5, 0, none⟩) x0_1.length co9) x0_1 from (by (with_reducible repeat (first | apply Kd.R_alloc | apply Kd.R_drewN | apply Kd.R_drew)); exact HO_0.out))
          obtain ⟨ce10, hcl10, hM10, hcc10, hfr10⟩ := Kd.R_elem HX10.out z37 (x5_1 : Int) (of_decide_eq_true (by first | (with_reducible assumption) | assumption)) (by have h_ : (x5_1 : Int) < ((x0_1.length : Int) : Int) := of_decide_eq_true (by first | (with_reducible assumption) | assumption); first | exact h_ | (have e_ := (Kd.R_reads' HO_0.out).1; omega) | simpa using h_)
          obtain rfl := k37_openM hM10
          have HP10 := Kd.R_seg HX10.out (x5_1 : Int) (of_decide_eq_true (by first | (with_reducible assumption) | assumption)) (by have h_ : (x5_1 : Int) < ((x0_1.length : Int) : Int) := of_decide_eq_true (by first | (with_reducible assumption) | assumption); first | exact h_ | (have e_ := (Kd.R_reads' HO_0.out).1; omega) | simpa using h_) (seg := [.int .i64 x1_1]) (j := 0) hcl10 hcc10 (show 1 ≤ 3 from by decide) (x' := (⟨x1_1, (rd_T37 x0_1 x5_1).f1, (rd_T37 x0_1 x5_1).f2⟩ : S37)) (k37_mkM _ _ _ (⟨x1_1, (rd_T37 x0_1 x5_1).f1, (rd_T37 x0_1 x5_1).f2⟩ : S37) ) (fun _ hk => hk)
          have hx10_0 := hcc10 0 _ rfl
          (try simp only [show (k37).sz = 3 from rfl, Nat.mul_one, Nat.add_zero] at hx10_0)
          have hf10_0 := hfr10 0
          (try simp only [show (k37).sz = 3 from rfl, Nat.mul_one, Nat.add_zero] at hf10_0)
          clear hcl10 hcc10 hfr10 hM10
          go_wp2_with (first | ((with_reducible refine gate_store (t := 3) (p := 16) rfl ?_); refine store_event (t := 3) (p := 16) (v := ?vo_w11) (w1 := (wr.setCell ⟨go5, (x5_1 : Int).toNat * 3, none⟩ (.int .i64 x1_1))) ?hg ?ho ?hn ?hr ?_; (case ho => rfl); (case hg => rfl); (case hn => rfl); (case hr => first | (go_simp; done) | (go_simp; rfl)); intro w11 hw; have hg : wr.grownBy w11 (some go5) := (by rw [hw]; exact HP10.2); have hp_ : Kd.R k37 37 w11 w0.heap.size (fun k_ => (P0_ k_ ∨ w.heap.size ≤ k_)) (.slice (some ⟨go5, 0, none⟩) x0_1.length co9) y101 := (by rw [hw, Ny101.out]; exact HP10.1); clear HP10; have n0_ := Aside0.mk (hp_); have n1_ := Aside0.mk ((by rw [hw]; exact below_set (HB.out) GB5.out : Below w0.heap.size w0 w11)); have n2_ := Aside0.mk (Kept.of_grown (S := (fun k_ => P0_ k_)) hg (by repeat (first | (with_reducible first | exact HK.out | apply Kept.alloc | apply Kept.drewN | apply Kept.drew) | exact HK.out)) (fun k_ e_ => (HO_0.out.1 k_ e_))); clear HO_0; clear HB; clear HK; have HO_0 := n0_; have HB := n1_; have HK := n2_; clear n0_ n1_ n2_; clear hg hw hp_; have p6 : 0 ≤ (x5_1 : Int) := of_decide_eq_true (by first | (with_reducible assumption) | assumption); have q6 : (x5_1 : Int) < ((x0_1.length : Int) : Int) := of_decide_eq_true (by first | (with_reducible assumption) | assumption); obtain ⟨ce6, hcl6, hM6, hcc6, hfr6⟩ := Kd.R_elem HO_0.out z37 (x5_1 : Int) p6 q6; obtain rfl := k37_openM hM6; have hx6_0 : w11.cell? ⟨go5, (x5_1 : Int).toNat * 3, none⟩ = some (.int .i64 ((rd_T37 y101 x5_1).f0)) := hcc6 0 _ rfl; have hx6_1 : w11.cell? ⟨go5, (x5_1 : Int).toNat * 3 + 1, none⟩ = some (.int .i64 ((rd_T37 y101 x5_1).f1)) := hcc6 1 _ rfl; have hx6_2 : w11.cell? ⟨go5, (x5_1 : Int).toNat * 3 + 2, none⟩ = some (.string ((rd_T37 y101 x5_1).f2)) := hcc6 2 _ rfl; have hf6_0 : w11.frozen? ⟨go5, (x5_1 : Int).toNat * 3, none⟩ = false := hfr6 0; have hf6_1 : w11.frozen? ⟨go5, (x5_1 : Int).toNat * 3 + 1, none⟩ = false := hfr6 1; have hf6_2 : w11.frozen? ⟨go5, (x5_1 : Int).toNat * 3 + 2, none⟩ = false := hfr6 2; clear hcl6 hcc6 hfr6 hM6; replace p6 := eq_true p6; replace q6 := eq_true q6; have HX12 := Aside0.mk (show Kd.R k37 37 w11 w0.heap.size (fun k_ => (P0_ k_ ∨ w.heap.size ≤ k_)) (.slice (some ⟨go5, 0, none⟩) x0_1.length co9) y101 from (by (with_reducible repeat (first | apply Kd.R_alloc | apply Kd.R_drewN | apply Kd.R_drew)); exact HO_0.out)); obtain ⟨ce12, hcl12, hM12, hcc12, hfr12⟩ := Kd.R_elem HX12.out z37 (x5_1 : Int) (of_decide_eq_true (by first | (with_reducible assumption) | assumption)) (by have h_ : (x5_1 : Int) < ((x0_1.length : Int) : Int) := of_decide_eq_true (by first | (with_reducible assumption) | assumption); first | exact h_ | (have e_ := (Kd.R_reads' HO_0.out).1; omega) | simpa using h_); obtain rfl := k37_openM hM12; have HP12 := Kd.R_seg HX12.out (x5_1 : Int) (of_decide_eq_true (by first | (with_reducible assumption) | assumption)) (by have h_ : (x5_1 : Int) < ((x0_1.length : Int) : Int) := of_decide_eq_true (by first | (with_reducible assumption) | assumption); first | exact h_ | (have e_ := (Kd.R_reads' HO_0.out).1; omega) | simpa using h_) (seg := [.int .i64 (wrap64 (x1_1 + 1))]) (j := 1) hcl12 hcc12 (show 2 ≤ 3 from by decide) (x' := (⟨(rd_T37 y101 x5_1).f0, wrap64 (x1_1 + 1), (rd_T37 y101 x5_1).f2⟩ : S37)) (k37_mkM _ _ _ (⟨(rd_T37 y101 x5_1).f0, wrap64 (x1_1 + 1), (rd_T37 y101 x5_1).f2⟩ : S37) ) (fun _ hk => hk); have hx12_1 := hcc12 1 _ rfl; (try simp only [show (k37).sz = 3 from rfl, Nat.mul_one, Nat.add_zero] at hx12_1); have hf12_1 := hfr12 1; (try simp only [show (k37).sz = 3 from rfl, Nat.mul_one, Nat.add_zero] at hf12_1); clear hcl12 hcc12 hfr12 hM12) | ((with_reducible refine gate_store (t := 3) (p := 23) rfl ?_); refine store_event (t := 3) (p := 23) (v := ?vo_w13) (w1 := (w11.setCell ⟨go5, (x5_1 : Int).toNat * 3 + 1, none⟩ (.int .i64 (wrap64 (x1_1 + 1))))) ?hg ?ho ?hn ?hr ?_; (case ho => rfl); (case hg => rfl); (case hn => rfl); (case hr => first | (go_simp; done) | (go_simp; rfl)); intro w13 hw; have hg : w11.grownBy w13 (some go5) := (by rw [hw]; exact HP12.2); have hp_ : Kd.R k37 37 w13 w0.heap.size (fun k_ => (P0_ k_ ∨ w.heap.size ≤ k_)) (.slice (some ⟨go5, 0, none⟩) x0_1.length co9) y102 := (by rw [hw, Ny102.out]; exact HP12.1); clear HP12; have n0_ := Aside0.mk (hp_); have n1_ := Aside0.mk ((by rw [hw]; exact below_set (HB.out) GB5.out : Below w0.heap.size w0 w13)); have n2_ := Aside0.mk (Kept.of_grown (S := (fun k_ => P0_ k_)) hg (by repeat (first | (with_reducible first | exact HK.out | apply Kept.alloc | apply Kept.drewN | apply Kept.drew) | exact HK.out)) (fun k_ e_ => (HO_0.out.1 k_ e_))); clear HO_0; clear HB; clear HK; have HO_0 := n0_; have HB := n1_; have HK := n2_; clear n0_ n1_ n2_; clear hg hw hp_) | ((with_reducible refine gate_callee (f := 30) rfl ?_); refine goesL_ (some 29) rfl rfl Tryd.func30 (by kernel_rfl) rfl #[.int .i64 (wrap64 ((wrap64 (x1_1 + 1)) + 1))] rfl (by (try simp only [List.map_toArray, List.map_cons, List.map_nil]); first | done | rfl | (simp only [List.length_drop, List.length_take]; rfl)) ?_; (with_reducible refine (laws_markText.calls k1 (wrap64 ((wrap64 (x1_1 + 1)) + 1)) t103 _ A7.out).mono ?_); rintro e w14 ⟨rfl, hb⟩; refine ⟨_, rfl, ?_⟩; have n0_ := Aside0.mk (Kd.R_below (by (with_reducible repeat (first | apply Kd.R_alloc | apply Kd.R_drewN | apply Kd.R_drew)); exact HO_0.out) hb); have n1_ := Aside0.mk (Kept.below (S := (fun k_ => P0_ k_)) (by repeat (first | (with_reducible first | exact HK.out | apply Kept.alloc | apply Kept.drewN | apply Kept.drew) | exact HK.out)) hb); have n2_ := Aside0.mk (below_step (by repeat (first | (with_reducible first | exact HB.out | apply below_alloc | apply pw_below_drewN | apply below_drew1) | exact HB.out)) hb); clear HO_0; clear HK; clear HB; have HO_0 := n0_; have HK := n1_; have HB := n2_; clear n0_ n1_ n2_; (try clear hb); (try clear hb2); (try clear hk); (try clear hi); have p8 : 0 ≤ (x5_1 : Int) := of_decide_eq_true (by first | (with_reducible assumption) | assumption); have q8 : (x5_1 : Int) < ((x0_1.length : Int) : Int) := of_decide_eq_true (by first | (with_reducible assumption) | assumption); obtain ⟨ce8, hcl8, hM8, hcc8, hfr8⟩ := Kd.R_elem HO_0.out z37 (x5_1 : Int) p8 q8; obtain rfl := k37_openM hM8; have hx8_0 : w14.cell? ⟨go5, (x5_1 : Int).toNat * 3, none⟩ = some (.int .i64 ((rd_T37 y102 x5_1).f0)) := hcc8 0 _ rfl; have hx8_1 : w14.cell? ⟨go5, (x5_1 : Int).toNat * 3 + 1, none⟩ = some (.int .i64 ((rd_T37 y102 x5_1).f1)) := hcc8 1 _ rfl; have hx8_2 : w14.cell? ⟨go5, (x5_1 : Int).toNat * 3 + 2, none⟩ = some (.string ((rd_T37 y102 x5_1).f2)) := hcc8 2 _ rfl; have hf8_0 : w14.frozen? ⟨go5, (x5_1 : Int).toNat * 3, none⟩ = false := hfr8 0; have hf8_1 : w14.frozen? ⟨go5, (x5_1 : Int).toNat * 3 + 1, none⟩ = false := hfr8 1; have hf8_2 : w14.frozen? ⟨go5, (x5_1 : Int).toNat * 3 + 2, none⟩ = false := hfr8 2; clear hcl8 hcc8 hfr8 hM8; replace p8 := eq_true p8; replace q8 := eq_true q8; have HX15 := Aside0.mk (show Kd.R k37 37 w14 w0.heap.size (fun k_ => (P0_ k_ ∨ w.heap.size ≤ k_)) (.slice (some ⟨go5, 0, none⟩) x0_1.length co9) y102 from (by (with_reducible repeat (first | apply Kd.R_alloc | apply Kd.R_drewN | apply Kd.R_drew)); exact HO_0.out)); obtain ⟨ce15, hcl15, hM15, hcc15, hfr15⟩ := Kd.R_elem HX15.out z37 (x5_1 : Int) (of_decide_eq_true (by first | (with_reducible assumption) | assumption)) (by have h_ : (x5_1 : Int) < ((x0_1.length : Int) : Int) := of_decide_eq_true (by first | (with_reducible assumption) | assumption); first | exact h_ | (have e_ := (Kd.R_reads' HO_0.out).1; omega) | simpa using h_); obtain rfl := k37_openM hM15; have HP15 := Kd.R_seg HX15.out (x5_1 : Int) (of_decide_eq_true (by first | (with_reducible assumption) | assumption)) (by have h_ : (x5_1 : Int) < ((x0_1.length : Int) : Int) := of_decide_eq_true (by first | (with_reducible assumption) | assumption); first | exact h_ | (have e_ := (Kd.R_reads' HO_0.out).1; omega) | simpa using h_) (seg := [.string t103]) (j := 2) hcl15 hcc15 (show 3 ≤ 3 from by decide) (x' := (⟨(rd_T37 y102 x5_1).f0, (rd_T37 y102 x5_1).f1, t103⟩ : S37)) (k37_mkM _ _ _ (⟨(rd_T37 y102 x5_1).f0, (rd_T37 y102 x5_1).f1, t103⟩ : S37) ) (fun _ hk => hk); have hx15_2 := hcc15 2 _ rfl; (try simp only [show (k37).sz = 3 from rfl, Nat.mul_one, Nat.add_zero] at hx15_2); have hf15_2 := hfr15 2; (try simp only [show (k37).sz = 3 from rfl, Nat.mul_one, Nat.add_zero] at hf15_2); clear hcl15 hcc15 hfr15 hM15) | ((with_reducible refine gate_store (t := 9) (p := 31) rfl ?_); refine store_event (t := 9) (p := 31) (v := ?vo_w16) (w1 := (w14.setCell ⟨go5, (x5_1 : Int).toNat * 3 + 2, none⟩ (.string t103))) ?hg ?ho ?hn ?hr ?_; (case ho => rfl); (case hg => rfl); (case hn => rfl); (case hr => first | (go_simp; done) | (go_simp; rfl)); intro w16 hw; have hg : w14.grownBy w16 (some go5) := (by rw [hw]; exact HP15.2); have hp_ : Kd.R k37 37 w16 w0.heap.size (fun k_ => (P0_ k_ ∨ w.heap.size ≤ k_)) (.slice (some ⟨go5, 0, none⟩) x0_1.length co9) y104 := (by rw [hw, Ny104.out]; exact HP15.1); clear HP15; have n0_ := Aside0.mk (hp_); have n1_ := Aside0.mk ((by rw [hw]; exact below_set (HB.out) GB5.out : Below w0.heap.size w0 w16)); have n2_ := Aside0.mk (Kept.of_grown (S := (fun k_ => P0_ k_)) hg (by repeat (first | (with_reducible first | exact HK.out | apply Kept.alloc | apply Kept.drewN | apply Kept.drew) | exact HK.out)) (fun k_ e_ => (HO_0.out.1 k_ e_))); clear HO_0; clear HB; clear HK; have HO_0 := n0_; have HB := n1_; have HK := n2_; clear n0_ n1_ n2_; clear hg hw hp_))
          go_roundg k1
          case measure => have := HK1.out; omega
          case rel => exact ⟨(y104), (wrap64 ((wrap64 ((wrap64 (x1_1 + 1)) + 1)) + 1)), (wrap64 (x5_1 + 1)), (by first | rfl | (simp; done) | (simp [*]; done)), (by first | rfl | (simp; done) | (simp [*]; done)), H', ⟨by have := HK1.out; omega⟩, ⟨by (with_reducible repeat (first | apply Kd.R_alloc | apply Kd.R_drewN | apply Kd.R_drew)); exact HO_0.out⟩, ⟨by repeat (first | (with_reducible first | exact HK.out | apply Kept.alloc | apply Kept.drewN | apply Kept.drew) | exact HK.out)⟩, ⟨by repeat (first | (with_reducible first | exact HB.out | apply below_alloc | apply pw_below_drewN | apply below_drew1) | exact HB.out)⟩⟩
        · rw [if_neg c4] at H
          exact absurd H (by simp)
      · rw [if_neg c3] at H
        have c3b0 : decide (x5_1 < (x0_1.length : Int)) = false := decide_eq_false c3
        clear c3
        simp only [Option.some.injEq, Prod.mk.injEq] at H
        obtain ⟨rfl, rfl⟩ := H
        obtain ⟨Ao17, co17, eo17⟩ := Kd.R_slice HO_0.out
        subst eo17
        go_wp2
        go_ret
        exact ⟨by first | rfl | (simp [errW_none, errW_some] <;> rfl) | (simp [*, errW_none, errW_some] <;> rfl), by (with_reducible repeat (first | apply Kd.R_alloc | apply Kd.R_drewN | apply Kd.R_drew)); exact HO_0.out, by repeat (first | (with_reducible first | exact HB.out | apply below_alloc | apply pw_below_drewN | apply below_drew1) | exact HB.out), by repeat (first | (with_reducible first | exact HK.out | apply Kept.alloc | apply Kept.drewN | apply Kept.drew) | exact HK.out)⟩

end Go.Proofs.YtlkgimnafnmgpaaDoor.G
