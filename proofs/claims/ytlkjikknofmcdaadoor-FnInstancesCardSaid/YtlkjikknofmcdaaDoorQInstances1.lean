/- Part 1 of 5 of the proof that the law FnInstancesCardSaid holds: for every input that can be read the call returns true and leaves its arguments as they were; no condition but those each theorem names. -/
import Derived.Test.YtlkjikknofmcdaaDoorProg
import Derived.Below
import Derived.Deep.Draws
import Derived.Deep.AppendLies
import Derived.Maps.AppendAt
import Derived.OwnWalk
import Derived.Laws.BytesArg
import Derived.Laws.MakeOwn
import Derived.Laws.OwnMore
import Derived.Deep.OwnRows
import Derived.Tactics
import Derived.Lib.ConvBytes
import Derived.Laws.Slices
import Derived.WalkKit
import Derived.KernelRfl
import Derived.RowKit3
import Derived.Deep.LoopGhost
import Derived.Deep.QuietTactic
import Derived.BigQuiet
import Derived.WideLaws
import Derived.Deep.DeepCutAuto
import Derived.Deep.CutBlock
import Derived.Deep.RegionHeld3
import Derived.Laws.Rows
import Derived.Lib.AppendStr
import Derived.ArgAppend
import Derived.Laws.IdiomCopy
import Derived.OrdersHeld
import Derived.Laws.BitsLemmas
import Derived.RowKit
import Derived.Ground.NamesProg
import Derived.Shelf.Lay
import Derived.Shelf.Strconv.ErrVarAll
import Derived.Shelf.Strconv.Itoa3
import Derived.Maps.OwnSet
import Derived.Maps.OwnOps
import Derived.Lib.ItoaNum
import Derived.Lib.AtoiAll
import Derived.Lib.IndexMore
import Derived.Lib.CutLaws
import Derived.Lib.Split
import Derived.Shelf.Small.Wraps
import Derived.Test.YtlkjikknofmcdaaDoorQInstancesW1
namespace Go.Proofs.YtlkjikknofmcdaaDoor.Short
open Go.RowKit Go.Proofs.YtlkjikknofmcdaaDoorW.PrintWords
theorem rA {α : Type} {d : Kd α} {e : Nat} {w : World} {base : Nat} {ok : Nat → Prop} {v : Value} {xs : List α} (h : d.R e w base ok v xs) (o : Obj) : d.R e (w.alloc o) base ok v xs := Kd.R_alloc h o
theorem rN {α : Type} {d : Kd α} {e : Nat} {w : World} {base : Nat} {ok : Nat → Prop} {v : Value} {xs : List α} (h : d.R e w base ok v xs) (m : Nat) : d.R e (w.drewN m) base ok v xs := Kd.R_drewN h m
theorem rD {α : Type} {d : Kd α} {e : Nat} {w : World} {base : Nat} {ok : Nat → Prop} {v : Value} {xs : List α} (h : d.R e w base ok v xs) : d.R e w.drew base ok v xs := Kd.R_drew h
theorem aM {p : Prop} (h : p) : Aside0 p := Aside0.mk h
end Go.Proofs.YtlkjikknofmcdaaDoor.Short

namespace Go.Proofs.YtlkjikknofmcdaaDoor.G
open Go.RowKit Go.Proofs.YtlkjikknofmcdaaDoorW.PrintWords Go.Proofs.YtlkjikknofmcdaaDoorW.PrintLast Go.Proofs.YtlkjikknofmcdaaDoorW.PrintMore Go.Proofs.YtlkjikknofmcdaaDoor.Short
attribute [local go_sem] max2_int min2_int max_two min_two max_three min_three max_four min_four   -- for this text's walks alone
set_option linter.unusedVariables false
set_option linter.unusedSimpArgs false



def errW : Option Int → Value
  | none => .nilIface
  | some c => .iface 101 (.int .i64 c)
theorem errW_none : errW none = .nilIface := rfl
theorem errW_some (c : Int) : errW (some c) = .iface 101 (.int .i64 c) := rfl

theorem info3 : (Tryd.prog.info? 3).map (fun i => (i.zero, i.size, i.bytes)) = some (some (.int .i64 0), 1, 8) := by kernel_rfl
theorem info47 : (Tryd.prog.info? 47).map (fun i => (i.zero, i.size, i.bytes)) = some (some (.agg #[(.int .i64 0), (.string ⟨#[]⟩)]), 2, 24) := by kernel_rfl
theorem info56 : (Tryd.prog.info? 56).map (fun i => (i.zero, i.size, i.bytes)) = some (some (.agg #[(.int .i64 0), (.slice none 0 0)]), 2, 32) := by kernel_rfl
-- the values' own types
structure S56 where
  f0 : Int
  f1 : (List S56)
def z56 : S56 := ⟨(0 : Int), ([] : List S56)⟩
def F56 (d : Kd S56) : Kd S56 := Kd.iso (Kd.pair (Kd.int .i64) (Kd.slice 56 d)) (fun x : S56 => (x.f0, x.f1))
theorem mono56 : Kd.Mono F56 := Kd.mono_iso _ (Kd.mono_pair (Kd.mono_const _) (Kd.mono_slice 56 Kd.mono_id))
theorem sub56 : Kd.Sub F56 [56] := Kd.sub_iso _ (Kd.sub_pair (Kd.sub_const _ (by decide)) (Kd.sub_slice 56 (by decide) Kd.sub_id))
theorem sz56 : ∀ n, (Kd.upto F56 2 [56] n).sz = 2 := Kd.upto_sz (fun _ => rfl)
def k56 : Kd S56 := Kd.fix F56 2 [56] sz56 (Kd.upto_E sub56)
theorem k56_open {w : World} {x : S56} {cs : List Value} (h : k56.K w x cs) : ∃ A1 c1, cs = [.int .i64 x.f0, .slice A1 x.f1.length c1] ∧ x.f1.length ≤ c1 ∧ k56.C w A1 x.f1.length x.f1 := by
  obtain ⟨n, h⟩ := h
  cases n with
  | zero => exact h.elim
  | succ n =>
    obtain ⟨_, _, rfl, rfl, ⟨A1, c1, rfl, l1, g1⟩⟩ := h
    exact ⟨A1, c1, rfl, l1, Kd.fix_C g1⟩
theorem k56_mk (w : World) (x : S56) {A1 : Option Addr} {c1 : Nat} (l1 : x.f1.length ≤ c1) (g1 : k56.C w A1 x.f1.length x.f1) : k56.K w x [.int .i64 x.f0, .slice A1 x.f1.length c1] := by
  obtain ⟨n1, q1⟩ := Kd.fix_C_back mono56 g1
  have r1 := Kd.upto_C_le mono56 sz56 (show n1 ≤ n1 by omega) q1
  exact ⟨n1 + 1, ⟨[.int .i64 x.f0], [.slice A1 x.f1.length c1], rfl, rfl, ⟨A1, c1, rfl, l1, r1⟩⟩⟩
theorem k56_mkM (w : World) (base : Nat) (ok : Nat → Prop) (x : S56) {v1 : Value} (g1 : k56.R 56 w base ok v1 x.f1) : k56.M w base ok x [.int .i64 x.f0, v1] := by
  obtain ⟨n1, q1⟩ := Kd.fix_R_back mono56 g1
  have r1 := Kd.upto_R_le mono56 sz56 (show n1 ≤ n1 by omega) q1
  exact ⟨n1 + 1, ⟨[.int .i64 x.f0], [v1], rfl, rfl, ⟨v1, rfl, r1⟩⟩⟩
theorem k56_openF {W : World} {ok : Nat → Prop} {x : S56} {cs : List Value} (h : Kd.FK k56 W ok x cs) : ∃ A1 c1, cs = [.int .i64 x.f0, .slice A1 x.f1.length c1] ∧ x.f1.length ≤ c1 ∧ Kd.F k56 W ok A1 x.f1.length x.f1 := by
  obtain ⟨A1, c1, rfl, l1, _⟩ := k56_open (Kd.FK_now h)
  exact ⟨A1, c1, rfl, l1, (fun W' hW => by obtain ⟨A1_, c1_, he, l1_, g1_⟩ := k56_open (h W' hW); injection (Option.some.inj (show some (Value.slice A1 x.f1.length c1) = some (Value.slice A1_ x.f1.length c1_) from congrArg (fun l => l[1]?) he)) with ha_ _ _; rw [ha_]; exact g1_)⟩
theorem k56_mkF (W : World) (ok : Nat → Prop) (x : S56) {A1 : Option Addr} {c1 : Nat} (l1 : x.f1.length ≤ c1) (g1 : Kd.F k56 W ok A1 x.f1.length x.f1) : Kd.FK k56 W ok x [.int .i64 x.f0, .slice A1 x.f1.length c1] := fun W2 hW => k56_mk W2 x l1 (g1 W2 hW)
def rd_T56 (xs : List S56) (i : Int) : S56 := xs.getD i.toNat z56
theorem at_T56 {w : World} {A : Option Addr} {n : Nat} {xs : List S56} (h : Kd.C k56 w A n xs) (i : Int) (h0 : 0 ≤ i) (h1 : i < n) : ∃ ad A1 c1, A = some ad ∧ w.cell? (ad.add (i.toNat * 2)) = some (.int .i64 (rd_T56 xs i).f0) ∧ w.cell? ⟨(ad.add (i.toNat * 2)).block, (ad.add (i.toNat * 2)).off + 1, none⟩ = some (.slice A1 (rd_T56 xs i).f1.length c1) ∧ (rd_T56 xs i).f1.length ≤ c1 ∧ k56.C w A1 (rd_T56 xs i).f1.length (rd_T56 xs i).f1 := by
  obtain ⟨ad, c, e, _, hK, hc0⟩ := Kd.C_get h z56 i h0 h1
  have hc : ∀ j u, c[j]? = some u → w.cell? (ad.add (i.toNat * 2 + j)) = some u := hc0
  obtain ⟨A1, c1, rfl, l1, g1⟩ := k56_open hK
  exact ⟨ad, A1, c1, e, hc 0 _ rfl, by rw [← add_field _ _ 1 (by omega)]; exact hc 1 _ rfl, l1, g1⟩

structure S47 where
  f0 : Int
  f1 : ByteArray
def z47 : S47 := ⟨(0 : Int), (⟨#[]⟩ : ByteArray)⟩
def k47 : Kd S47 := Kd.iso (Kd.pair (Kd.int .i64) Kd.string) (fun x : S47 => (x.f0, x.f1))
theorem k47_open {w : World} {x : S47} {cs : List Value} (h : k47.K w x cs) : cs = [.int .i64 x.f0, .string x.f1] := by
  obtain ⟨_, _, rfl, rfl, rfl⟩ := h
  exact rfl
theorem k47_mkM (w : World) (base : Nat) (ok : Nat → Prop) (x : S47)  : k47.M w base ok x [.int .i64 x.f0, .string x.f1] := ⟨[.int .i64 x.f0], [.string x.f1], rfl, rfl, rfl⟩
def rd_T47 (xs : List S47) (i : Int) : S47 := xs.getD i.toNat z47
theorem at_T47 {w : World} {A : Option Addr} {n : Nat} {xs : List S47} (h : Kd.C k47 w A n xs) (i : Int) (h0 : 0 ≤ i) (h1 : i < n) : ∃ ad , A = some ad ∧ w.cell? (ad.add (i.toNat * 2)) = some (.int .i64 (rd_T47 xs i).f0) ∧ w.cell? ⟨(ad.add (i.toNat * 2)).block, (ad.add (i.toNat * 2)).off + 1, none⟩ = some (.string (rd_T47 xs i).f1) := by
  obtain ⟨ad, c, e, _, hK, hc0⟩ := Kd.C_get h z47 i h0 h1
  have hc : ∀ j u, c[j]? = some u → w.cell? (ad.add (i.toNat * 2 + j)) = some u := hc0
  obtain rfl := k47_open hK
  exact ⟨ad, e, hc 0 _ rfl, by rw [← add_field _ _ 1 (by omega)]; exact hc 1 _ rfl⟩

end Go.Proofs.YtlkjikknofmcdaaDoor.G

namespace Go.Proofs
open Go.Shelf
def Tryd.laysC172_ren : Go.Shelf.Ren := ⟨fun | 172 => 47 | 244 => 53 | 245 => 54 | 247 => 57 | 279 => 58 | 280 => 59 | 281 => 60 | 282 => 61 | 287 => 66 | 316 => 67 | 171 => 36 | 205 => 68 | 321 => 74 | 322 => 75 | 243 => 49 | 246 => 55 | 283 => 62 | 284 => 63 | 285 => 64 | 286 => 65 | 129 => 70 | 317 => 69 | 318 => 71 | 319 => 72 | 320 => 73 | 337 => 76 | 338 => 77 | n => n, fun | 9 => 9 | 3 => 3 | 75 => 91 | 76 => 92 | 4 => 4 | 5 => 5 | 167 => 101 | 37 => 22 | 0 => 0 | 85 => 102 | 2 => 2 | 168 => 104 | 53 => 37 | 175 => 112 | 46 => 97 | 210 => 116 | 127 => 124 | 145 => 127 | 143 => 125 | 21 => 21 | 171 => 107 | 173 => 110 | 212 => 119 | 51 => 120 | 20 => 20 | 213 => 121 | 232 => 129 | 233 => 130 | 80 => 41 | n => n, fun | 15 => 0 | 16 => 1 | 17 => 2 | 18 => 3 | 19 => 4 | n => n⟩
theorem Tryd.laysC172 : Go.Proofs.LaysC.n172 Tryd.prog Tryd.laysC172_ren := {
 mixed := by kernel_rfl
 f129 := Tryd.func70.trans (congrArg some (by kernel_rfl))
 f171 := Tryd.func36.trans (congrArg some (by kernel_rfl))
 f172 := Tryd.func47.trans (congrArg some (by kernel_rfl))
 f205 := Tryd.func68.trans (congrArg some (by kernel_rfl))
 f243 := Tryd.func49.trans (congrArg some (by kernel_rfl))
 f244 := Tryd.func53.trans (congrArg some (by kernel_rfl))
 f245 := Tryd.func54.trans (congrArg some (by kernel_rfl))
 f246 := Tryd.func55.trans (congrArg some (by kernel_rfl))
 f247 := Tryd.func57.trans (congrArg some (by kernel_rfl))
 f279 := Tryd.func58.trans (congrArg some (by kernel_rfl))
 f280 := Tryd.func59.trans (congrArg some (by kernel_rfl))
 f281 := Tryd.func60.trans (congrArg some (by kernel_rfl))
 f282 := Tryd.func61.trans (congrArg some (by kernel_rfl))
 f283 := Tryd.func62.trans (congrArg some (by kernel_rfl))
 f284 := Tryd.func63.trans (congrArg some (by kernel_rfl))
 f285 := Tryd.func64.trans (congrArg some (by kernel_rfl))
 f286 := Tryd.func65.trans (congrArg some (by kernel_rfl))
 f287 := Tryd.func66.trans (congrArg some (by kernel_rfl))
 f316 := Tryd.func67.trans (congrArg some (by kernel_rfl))
 f317 := Tryd.func69.trans (congrArg some (by kernel_rfl))
 f318 := Tryd.func71.trans (congrArg some (by kernel_rfl))
 f319 := Tryd.func72.trans (congrArg some (by kernel_rfl))
 f320 := Tryd.func73.trans (congrArg some (by kernel_rfl))
 f321 := Tryd.func74.trans (congrArg some (by kernel_rfl))
 f322 := Tryd.func75.trans (congrArg some (by kernel_rfl))
 f337 := Tryd.func76.trans (congrArg some (by kernel_rfl))
 f338 := Tryd.func77.trans (congrArg some (by kernel_rfl))
 t0 := Tryd.underlying0
 a0 := Tryd.isAgg0
 z0 := Tryd.sizeOf0
 v0 := Tryd.zeroValue0
 t2 := Tryd.underlying2
 a2 := Tryd.isAgg2
 z2 := Tryd.sizeOf2
 v2 := Tryd.zeroValue2
 t3 := Tryd.underlying3
 a3 := Tryd.isAgg3
 z3 := Tryd.sizeOf3
 v3 := Tryd.zeroValue3
 t4 := Tryd.underlying4
 a4 := Tryd.isAgg4
 z4 := Tryd.sizeOf4
 v4 := Tryd.zeroValue4
 t5 := Tryd.underlying5
 a5 := Tryd.isAgg5
 z5 := Tryd.sizeOf5
 v5 := Tryd.zeroValue5
 t9 := Tryd.underlying9
 a9 := Tryd.isAgg9
 z9 := Tryd.sizeOf9
 v9 := Tryd.zeroValue9
 t20 := Tryd.underlying20
 a20 := Tryd.isAgg20
 z20 := Tryd.sizeOf20
 v20 := Tryd.zeroValue20
 t21 := Tryd.underlying21
 a21 := Tryd.isAgg21
 z21 := Tryd.sizeOf21
 v21 := Tryd.zeroValue21
 t37 := Tryd.underlying22
 a37 := Tryd.isAgg22
 z37 := Tryd.sizeOf22
 v37 := Tryd.zeroValue22
 t46 := Tryd.underlying97
 a46 := Tryd.isAgg97
 z46 := Tryd.sizeOf97
 v46 := Tryd.zeroValue97
 t51 := Tryd.underlying120
 a51 := Tryd.isAgg120
 z51 := Tryd.sizeOf120
 v51 := Tryd.zeroValue120
 t53 := Tryd.underlying37
 a53 := Tryd.isAgg37
 z53 := Tryd.sizeOf37
 v53 := Tryd.zeroValue37
 t75 := Tryd.underlying91
 a75 := Tryd.isAgg91
 z75 := Tryd.sizeOf91
 v75 := Tryd.zeroValue91
 t76 := Tryd.underlying92
 a76 := Tryd.isAgg92
 z76 := Tryd.sizeOf92
 v76 := Tryd.zeroValue92
 t85 := Tryd.underlying102
 a85 := Tryd.isAgg102
 z85 := Tryd.sizeOf102
 v85 := Tryd.zeroValue102
 t127 := Tryd.underlying124
 a127 := Tryd.isAgg124
 z127 := Tryd.sizeOf124
 v127 := Tryd.zeroValue124
 t143 := Tryd.underlying125
 a143 := Tryd.isAgg125
 z143 := Tryd.sizeOf125
 v143 := Tryd.zeroValue125
 t145 := Tryd.underlying127
 a145 := Tryd.isAgg127
 z145 := Tryd.sizeOf127
 v145 := Tryd.zeroValue127
 t167 := Tryd.underlying101
 a167 := Tryd.isAgg101
 z167 := Tryd.sizeOf101
 v167 := Tryd.zeroValue101
 t168 := Tryd.underlying104
 a168 := Tryd.isAgg104
 z168 := Tryd.sizeOf104
 v168 := Tryd.zeroValue104
 t171 := Tryd.underlying107
 a171 := Tryd.isAgg107
 z171 := Tryd.sizeOf107
 v171 := Tryd.zeroValue107
 t173 := Tryd.underlying110
 a173 := Tryd.isAgg110
 z173 := Tryd.sizeOf110
 v173 := Tryd.zeroValue110
 t175 := Tryd.underlying112
 a175 := Tryd.isAgg112
 z175 := Tryd.sizeOf112
 v175 := Tryd.zeroValue112
 t210 := Tryd.underlying116
 a210 := Tryd.isAgg116
 z210 := Tryd.sizeOf116
 v210 := Tryd.zeroValue116
 t212 := Tryd.underlying119
 a212 := Tryd.isAgg119
 z212 := Tryd.sizeOf119
 v212 := Tryd.zeroValue119
 t213 := Tryd.underlying121
 a213 := Tryd.isAgg121
 z213 := Tryd.sizeOf121
 t232 := Tryd.underlying129
 a232 := Tryd.isAgg129
 z232 := Tryd.sizeOf129
 v232 := Tryd.zeroValue129
 t233 := Tryd.underlying130
 a233 := Tryd.isAgg130
 z233 := Tryd.sizeOf130
 v233 := Tryd.zeroValue130
 g15 := by kernel_rfl
 g16 := by kernel_rfl
 g17 := by kernel_rfl
 g18 := by kernel_rfl
 g19 := by kernel_rfl
 t80 := Tryd.underlying41
 a80 := Tryd.isAgg41
 z80 := Tryd.sizeOf41
 v80 := Tryd.zeroValue41
 i0 := by kernel_rfl
 i2 := by kernel_rfl
 i3 := by kernel_rfl
 i4 := by kernel_rfl
 i5 := by kernel_rfl
 i9 := by kernel_rfl
 i20 := by kernel_rfl
 i21 := by kernel_rfl
 i37 := by kernel_rfl
 i46 := by kernel_rfl
 i51 := by kernel_rfl
 i53 := by kernel_rfl
 i75 := by kernel_rfl
 i76 := by kernel_rfl
 i80 := by kernel_rfl
 i85 := by kernel_rfl
 i127 := by kernel_rfl
 i143 := by kernel_rfl
 i145 := by kernel_rfl
 i167 := by kernel_rfl
 i168 := by kernel_rfl
 i171 := by kernel_rfl
 i173 := by kernel_rfl
 i175 := by kernel_rfl
 i210 := by kernel_rfl
 i212 := by kernel_rfl
 i232 := by kernel_rfl
 i233 := by kernel_rfl
 m15 := by kernel_rfl
 m16 := by kernel_rfl
 m17 := by kernel_rfl
 m18 := by kernel_rfl
 m19 := by kernel_rfl
 c0 := by kernel_rfl
 c2 := by kernel_rfl
 c3 := by kernel_rfl
 c4 := by kernel_rfl
 c5 := by kernel_rfl
 c9 := by kernel_rfl
 c20 := by kernel_rfl
 c21 := by kernel_rfl
 c37 := by kernel_rfl
 c46 := by kernel_rfl
 c51 := by kernel_rfl
 c53 := by kernel_rfl
 c75 := by kernel_rfl
 c76 := by kernel_rfl
 c80 := by kernel_rfl
 c85 := by kernel_rfl
 c127 := by kernel_rfl
 c143 := by kernel_rfl
 c145 := by kernel_rfl
 c167 := by kernel_rfl
 c168 := by kernel_rfl
 c171 := by kernel_rfl
 c173 := by kernel_rfl
 c175 := by kernel_rfl
 c210 := by kernel_rfl
 c212 := by kernel_rfl
 c213 := by kernel_rfl
 c232 := by kernel_rfl
 c233 := by kernel_rfl }
end Go.Proofs
namespace Go.Proofs.YtlkjikknofmcdaaDoor.G
open Go.RowKit Go.Shelf Go.Proofs.YtlkjikknofmcdaaDoorW.PrintWords
set_option linter.unusedVariables false

theorem var_below {n : String} {cs : Array Value} {w w' : World} (h : w.var? Tryd.prog n = some cs) (hb : Below w.heap.size w w') : w'.var? Tryd.prog n = some cs := by
  rw [← h]
  unfold World.var?
  cases hg : Tryd.prog.globalNamed n with
  | none => rfl
  | some g =>
    have hlt : g < w.heap.size := by
      rcases Nat.lt_or_ge g w.heap.size with h' | h'
      · exact h'
      · exfalso
        unfold World.var? at h
        rw [hg] at h
        simp [Array.getElem?_eq_none h'] at h
    simp [hb.block g hlt]
structure LibMet (w : World) : Prop where
  wrong : ∃ tp p, w.var? Tryd.prog "strconv.ErrSyntax" = some #[.iface tp p]
  range : ∃ tp p, w.var? Tryd.prog "strconv.ErrRange" = some #[.iface tp p]
theorem LibMet.below {w w' : World} (h : LibMet w) (hb : Below w.heap.size w w') : LibMet w' where
  wrong := by obtain ⟨t, p, h⟩ := h.wrong; exact ⟨t, p, var_below h hb⟩
  range := by obtain ⟨t, p, h⟩ := h.range; exact ⟨t, p, var_below h hb⟩
end Go.Proofs.YtlkjikknofmcdaaDoor.G

namespace Go.Proofs
open Go.Shelf
def Tryd.laysM171_ren : Go.Shelf.Ren := ⟨fun | 171 => 36 | 243 => 49 | 246 => 55 | 283 => 62 | 284 => 63 | 285 => 64 | 286 => 65 | 129 => 70 | 317 => 69 | 318 => 71 | 319 => 72 | 320 => 73 | 337 => 76 | 338 => 77 | n => n, fun | 3 => 3 | 9 => 9 | 2 => 2 | 4 => 4 | 171 => 107 | 0 => 0 | 53 => 37 | 37 => 22 | 5 => 5 | 173 => 110 | 212 => 119 | 51 => 120 | 20 => 20 | 213 => 121 | 46 => 97 | 232 => 129 | 233 => 130 | n => n, fun | 17 => 2 | 18 => 3 | 19 => 4 | n => n⟩
theorem Tryd.laysM171 : Go.Proofs.LaysM.n171 Tryd.prog Tryd.laysM171_ren := {
 mixed := by kernel_rfl
 f129 := Tryd.func70.trans (congrArg some (by kernel_rfl))
 f171 := Tryd.func36.trans (congrArg some (by kernel_rfl))
 f243 := Tryd.func49.trans (congrArg some (by kernel_rfl))
 f246 := Tryd.func55.trans (congrArg some (by kernel_rfl))
 f283 := Tryd.func62.trans (congrArg some (by kernel_rfl))
 f284 := Tryd.func63.trans (congrArg some (by kernel_rfl))
 f285 := Tryd.func64.trans (congrArg some (by kernel_rfl))
 f286 := Tryd.func65.trans (congrArg some (by kernel_rfl))
 f317 := Tryd.func69.trans (congrArg some (by kernel_rfl))
 f318 := Tryd.func71.trans (congrArg some (by kernel_rfl))
 f319 := Tryd.func72.trans (congrArg some (by kernel_rfl))
 f320 := Tryd.func73.trans (congrArg some (by kernel_rfl))
 f337 := Tryd.func76.trans (congrArg some (by kernel_rfl))
 f338 := Tryd.func77.trans (congrArg some (by kernel_rfl))
 t0 := Tryd.underlying0
 a0 := Tryd.isAgg0
 z0 := Tryd.sizeOf0
 v0 := Tryd.zeroValue0
 t2 := Tryd.underlying2
 a2 := Tryd.isAgg2
 z2 := Tryd.sizeOf2
 v2 := Tryd.zeroValue2
 t3 := Tryd.underlying3
 a3 := Tryd.isAgg3
 z3 := Tryd.sizeOf3
 v3 := Tryd.zeroValue3
 t4 := Tryd.underlying4
 a4 := Tryd.isAgg4
 z4 := Tryd.sizeOf4
 v4 := Tryd.zeroValue4
 t5 := Tryd.underlying5
 a5 := Tryd.isAgg5
 z5 := Tryd.sizeOf5
 v5 := Tryd.zeroValue5
 t9 := Tryd.underlying9
 a9 := Tryd.isAgg9
 z9 := Tryd.sizeOf9
 v9 := Tryd.zeroValue9
 t20 := Tryd.underlying20
 a20 := Tryd.isAgg20
 z20 := Tryd.sizeOf20
 v20 := Tryd.zeroValue20
 t37 := Tryd.underlying22
 a37 := Tryd.isAgg22
 z37 := Tryd.sizeOf22
 v37 := Tryd.zeroValue22
 t46 := Tryd.underlying97
 a46 := Tryd.isAgg97
 z46 := Tryd.sizeOf97
 v46 := Tryd.zeroValue97
 t51 := Tryd.underlying120
 a51 := Tryd.isAgg120
 z51 := Tryd.sizeOf120
 v51 := Tryd.zeroValue120
 t53 := Tryd.underlying37
 a53 := Tryd.isAgg37
 z53 := Tryd.sizeOf37
 v53 := Tryd.zeroValue37
 t171 := Tryd.underlying107
 a171 := Tryd.isAgg107
 z171 := Tryd.sizeOf107
 v171 := Tryd.zeroValue107
 t173 := Tryd.underlying110
 a173 := Tryd.isAgg110
 z173 := Tryd.sizeOf110
 v173 := Tryd.zeroValue110
 t212 := Tryd.underlying119
 a212 := Tryd.isAgg119
 z212 := Tryd.sizeOf119
 v212 := Tryd.zeroValue119
 t213 := Tryd.underlying121
 a213 := Tryd.isAgg121
 z213 := Tryd.sizeOf121
 t232 := Tryd.underlying129
 a232 := Tryd.isAgg129
 z232 := Tryd.sizeOf129
 v232 := Tryd.zeroValue129
 t233 := Tryd.underlying130
 a233 := Tryd.isAgg130
 z233 := Tryd.sizeOf130
 v233 := Tryd.zeroValue130
 g17 := by kernel_rfl
 g18 := by kernel_rfl
 g19 := by kernel_rfl
 i0 := by kernel_rfl
 i2 := by kernel_rfl
 i3 := by kernel_rfl
 i4 := by kernel_rfl
 i5 := by kernel_rfl
 i9 := by kernel_rfl
 i20 := by kernel_rfl
 i37 := by kernel_rfl
 i46 := by kernel_rfl
 i51 := by kernel_rfl
 i53 := by kernel_rfl
 i171 := by kernel_rfl
 i173 := by kernel_rfl
 i212 := by kernel_rfl
 i232 := by kernel_rfl
 i233 := by kernel_rfl
 m17 := by kernel_rfl
 m18 := by kernel_rfl
 m19 := by kernel_rfl }
end Go.Proofs
namespace Go.Proofs.YtlkjikknofmcdaaDoor.G
open Go.RowKit Go.Shelf Go.Sort Go.Proofs.YtlkjikknofmcdaaDoorW.PrintWords
set_option linter.unusedVariables false

def Tab (w : World) : Prop := Lib.TabIs Tryd.prog w "internal/strconv.uint64pow10" .u64 Lib.pow10Tab
theorem Tab.below {w w' : World} (h : Tab w) (hb : Below w.heap.size w w') : Tab w' := by
  unfold Tab Lib.TabIs at *
  rw [← h]
  unfold World.var?
  cases hg : Tryd.prog.globalNamed "internal/strconv.uint64pow10" with
  | none => rfl
  | some g =>
    have hlt : g < w.heap.size := by
      rcases Nat.lt_or_ge g w.heap.size with h' | h'
      · exact h'
      · exfalso
        unfold World.var? at h
        rw [hg] at h
        simp [Array.getElem?_eq_none h'] at h
    simp [hb.block g hlt]
def strconv_Itoa_36.f (a0 : Int) : Option (ByteArray) := if 0 ≤ a0 ∧ a0 ≤ 9223372036854775807 then some ⟨(Lib.decDigits a0.toNat).toArray⟩ else none
theorem strconv_Itoa_36.calls (a0 : Int) (r : ByteArray) (w : World) (h : strconv_Itoa_36.f a0 = some r) (hT : Tab w) :
    Calls Tryd.prog 36 #[.int .i64 a0] w fun e w' => e = .returned (.string r) ∧ Below w.heap.size w w' := by
  unfold strconv_Itoa_36.f at h
  by_cases c : 0 ≤ a0 ∧ a0 ≤ 9223372036854775807
  case neg => rw [if_neg c] at h; cases h
  rw [if_pos c] at h
  obtain rfl := Option.some.inj h
  refine (Any.strconv_Itoa Tryd.laysM171 a0 (by omega) c.2 w hT).mono ?_
  rintro e w' ⟨rfl, k, os, rfl⟩
  refine ⟨?_, ?_⟩
  · obtain ⟨i, rfl⟩ : ∃ i : Nat, a0 = i := ⟨a0.toNat, by omega⟩
    rw [Lib.itoa_nonneg]; rfl
  · exact ⟨rfl, rfl, rfl, by simp [grow, World.drewN], fun b hb => by simp [grow, World.drewN, Array.getElem?_append_left hb]⟩
end Go.Proofs.YtlkjikknofmcdaaDoor.G

namespace Go.Proofs.YtlkjikknofmcdaaDoor.G
open Go.RowKit
structure Met (w : World) : Prop where
  tab : Tab w
  lib : LibMet w
theorem Met.below {w w' : World} (h : Met w) (hb : Below w.heap.size w w') : Met w' := ⟨h.tab.below hb, h.lib.below hb⟩
end Go.Proofs.YtlkjikknofmcdaaDoor.G

namespace Go.Proofs.YtlkjikknofmcdaaDoor.G
open Go.RowKit Go.Proofs.YtlkjikknofmcdaaDoorW.PrintWords Go.Proofs.YtlkjikknofmcdaaDoorW.PrintLast Go.Proofs.YtlkjikknofmcdaaDoorW.PrintMore Go.Proofs.YtlkjikknofmcdaaDoor.Short
section
variable {α : Type} {d : Kd α} {e base n c g a b : Nat} {ok : Nat → Prop} {W w1 w0 : World} {A : Option Addr} {u v : Value} {xs : List α} {o : Obj}
theorem qb (h : Aside0 (W.heap[g]? = some o)) (hb : Below W.heap.size W w1) : Aside0 (w1.heap[g]? = some o) := ⟨blk_below h.out hb⟩
theorem qs (h : Aside0 (Below w0.heap.size w0 W)) (hb : Below W.heap.size W w1) : Aside0 (Below w0.heap.size w0 w1) := ⟨below_step h.out hb⟩
theorem qw (h : Aside0 (Below w0.heap.size w0 W)) (hg : a = W.heap.size) : Aside0 (w0.heap.size ≤ a) := ⟨by rw [hg]; exact below_size h.out⟩
theorem ql (h : Aside0 (W.heap[g]? = some o)) (hg : a = W.heap.size) : Aside0 (g ≠ a) := ⟨by rw [hg]; exact Nat.ne_of_lt (blk_lt h.out)⟩
theorem qg (h : Aside0 (W.heap[g]? = some o)) (hg : a = W.heap.size) : Aside0 (a ≠ g) := ⟨by rw [hg]; exact Nat.ne_of_gt (blk_lt h.out)⟩
end
theorem aK {p : Prop} (h : p) : Aside0 p := ⟨h⟩
theorem zN {w : World} {g : Nat} {o : Obj} (h : w.heap[g]? = some o) (n : Nat) : (w.drewN n).heap[g]? = some o := blk_drewN h n
theorem zD {w : World} {g : Nat} {o : Obj} (h : w.heap[g]? = some o) : w.drew.heap[g]? = some o := blk_drew h
theorem zA {w : World} {g : Nat} {o : Obj} (h : w.heap[g]? = some o) (o' : Obj) : (w.alloc o').heap[g]? = some o := blk_alloc h o'
theorem pH {A B : Prop} (h : Aside0 A) (k : A → B := by intro h; repeat (first | (with_reducible first | exact h | apply below_alloc | apply pw_below_drewN | apply below_drew1 | refine below_set ?_ (Aside0.out (by assumption))) | exact h)) : B := k h.out
theorem eW {B : Prop} (h : B := by first | rfl | (simp [errW_none, errW_some] <;> rfl) | (simp [*, errW_none, errW_some] <;> rfl)) : B := h
theorem tA {B : Prop} (h : B := by (try simp only [List.map_toArray, List.map_cons, List.map_nil]); first | done | rfl) : B := h
theorem dA {p : Prop} [Decidable p] (h : decide p = true := by first | (with_reducible assumption) | assumption) : p := of_decide_eq_true h
theorem rS {B : Prop} (h : B := by first | rfl | (simp; done) | (simp [*]; done)) : B := h
theorem nF {w : World} {p : Addr} {x : Value} {A b : Nat} (h : w.cell? p = some x) (l : Aside0 (w.heap.size ≤ b)) (e : p.block = A := by first | rfl | exact add_block _ _) : A ≠ b := e ▸ Nat.ne_of_lt (Nat.lt_of_lt_of_le (World.block_lt_of_cell? w _ h) l.out)
theorem cB {p : Addr} {A b : Nat} (h : A ≠ b) (e : p.block = A := by first | rfl | exact add_block _ _) : p.block ≠ b := e ▸ h
theorem p3 {w : World} {g : Nat} {t : TypeId} {a b c x y z : Value} {B : Prop} (h : Aside0 (w.heap[g]? = some (.cells #[a, b, c] t (0, 0)))) (k : (((w.setCell ⟨g, 0, none⟩ x).setCell ⟨g, 1, none⟩ y).setCell ⟨g, 2, none⟩ z).heap[g]? = some (.cells #[x, y, z] t (0, 0)) → B := by intro h; (with_reducible repeat first | apply zN | apply zD | apply zA); exact h) : B := k (blk_put (blk_put (blk_put h.out 0 x rfl) 1 y rfl) 2 z rfl)
end Go.Proofs.YtlkjikknofmcdaaDoor.G

namespace Go.Proofs.YtlkjikknofmcdaaDoor.G
open Go.RowKit Go.Proofs.YtlkjikknofmcdaaDoorW.PrintWords Go.Proofs.YtlkjikknofmcdaaDoorW.PrintLast Go.Proofs.YtlkjikknofmcdaaDoorW.PrintMore Go.Proofs.YtlkjikknofmcdaaDoor.Short
set_option linter.unusedVariables false

inductive Ty where
  | v (n : Int)
  | a (l r : Ty)
def IsT (W : World) : Ty → Value → Prop
  | .v n, x => ∃ g, x = .pointer (some ⟨g, 0, none⟩) ∧ W.heap[g]? = some (.cells #[.int .i64 n, .slice none 0 0] 75 (0, 0))
  | .a l r, x => ∃ g p u1 u2, x = .pointer (some ⟨g, 0, none⟩) ∧ W.heap[g]? = some (.cells #[.int .i64 0, .slice (some ⟨p, 0, none⟩) 2 2] 75 (0, 0)) ∧ W.heap[p]? = some (.cells #[u1, u2] 42 (0, 0)) ∧ IsT W l u1 ∧ IsT W r u2
def Stay (W W1 : World) : Prop := ∀ (i : Nat) (cs : Array Value) (t : TypeId), W.heap[i]? = some (.cells cs t (0, 0)) → W1.heap[i]? = some (.cells cs t (0, 0))
theorem Stay.below {W W1 : World} (h : Below W.heap.size W W1) : Stay W W1 := fun i cs t hi => blk_below hi h
theorem Stay.trans {W W1 W2 : World} (h : Stay W W1) (k : Stay W1 W2) : Stay W W2 := fun i cs t hi => k i cs t (h i cs t hi)
theorem IsT.stay {W W1 : World} (h : Stay W W1) : ∀ {t : Ty} {x : Value}, IsT W t x → IsT W1 t x
  | .v n, x, ⟨g, e, hb⟩ => ⟨g, e, h _ _ _ hb⟩
  | .a l r, x, ⟨g, p, u1, u2, e, hb, hp, hl, hr⟩ => ⟨g, p, u1, u2, e, h _ _ _ hb, h _ _ _ hp, IsT.stay h hl, IsT.stay h hr⟩
theorem IsT.below {W W1 : World} {t : Ty} {x : Value} (h : IsT W t x) (hb : Below W.heap.size W W1) : IsT W1 t x := h.stay (Stay.below hb)
theorem IsT.drewN {W : World} {t : Ty} {x : Value} (h : IsT W t x) (m : Nat) : IsT (W.drewN m) t x := h.below (pw_below_drewN (Below.refl _ _) m)
theorem IsT.drew {W : World} {t : Ty} {x : Value} (h : IsT W t x) : IsT W.drew t x := h.below (below_drew1 (Below.refl _ _))
theorem IsT.ptr {W : World} {t : Ty} {x : Value} (h : IsT W t x) : ∃ g, x = .pointer (some ⟨g, 0, none⟩) := by
  cases t with
  | v n => obtain ⟨g, e, _⟩ := h; exact ⟨g, e⟩
  | a l r => obtain ⟨g, p, u1, u2, e, _⟩ := h; exact ⟨g, e⟩
def Ty.isVar : Ty → Bool
  | .v _ => true
  | .a _ _ => false
theorem IsT.cells {W : World} {t : Ty} {x : Value} (h : IsT W t x) : ∃ g n A c, x = .pointer (some ⟨g, 0, none⟩) ∧ W.cell? ⟨g, 0, none⟩ = some (.int .i64 n) ∧ W.cell? ⟨g, 1, none⟩ = some (.slice A (if t.isVar then 0 else 2) c) := by
  cases t with
  | v n => obtain ⟨g, e, hb⟩ := h; exact ⟨g, n, _, _, e, (blk_cell hb 0).trans rfl, (blk_cell hb 1).trans rfl⟩
  | a l r => obtain ⟨g, p, u1, u2, e, hb, _⟩ := h; exact ⟨g, 0, _, _, e, (blk_cell hb 0).trans rfl, (blk_cell hb 1).trans rfl⟩
theorem IsT.varc {W : World} {n : Int} {x : Value} (h : IsT W (.v n) x) : ∃ g, x = .pointer (some ⟨g, 0, none⟩) ∧ W.cell? ⟨g, 0, none⟩ = some (.int .i64 n) ∧ W.cell? ⟨g, 1, none⟩ = some (.slice none 0 0) := by
  obtain ⟨g, e, hb⟩ := h
  exact ⟨g, e, (blk_cell hb 0).trans rfl, (blk_cell hb 1).trans rfl⟩
theorem IsT.arrc {W : World} {l r : Ty} {x : Value} (h : IsT W (.a l r) x) : ∃ g p u1 u2, x = .pointer (some ⟨g, 0, none⟩) ∧ W.cell? ⟨g, 1, none⟩ = some (.slice (some ⟨p, 0, none⟩) 2 2) ∧ W.cell? ⟨p, 0, none⟩ = some u1 ∧ W.cell? ⟨p, 1, none⟩ = some u2 ∧ IsT W l u1 ∧ IsT W r u2 := by
  obtain ⟨g, p, u1, u2, e, hb, hp, hl, hr⟩ := h
  exact ⟨g, p, u1, u2, e, (blk_cell hb 1).trans rfl, (blk_cell hp 0).trans rfl, (blk_cell hp 1).trans rfl, hl, hr⟩
end Go.Proofs.YtlkjikknofmcdaaDoor.G

namespace Go.Proofs.YtlkjikknofmcdaaDoor.G
open Go.RowKit Go.Proofs.YtlkjikknofmcdaaDoorW.PrintWords Go.Proofs.YtlkjikknofmcdaaDoorW.PrintLast Go.Proofs.YtlkjikknofmcdaaDoorW.PrintMore Go.Proofs.YtlkjikknofmcdaaDoor.Short
set_option linter.unusedVariables false
set_option linter.unusedSimpArgs false

theorem impl_typeVar.calls (n : Int) (w : World) : Calls Tryd.prog 43 #[.int .i64 n] w fun e w' => ∃ x, e = .returned x ∧ IsT w' (.v n) x ∧ Below w.heap.size w w' := by
  have hu75 := Tryd.underlying75
  go_enter Tryd.func43, Tryd.ntmps43
  go_wp2
  go_ret
  exact ⟨_, rfl, ⟨w.heap.size, rfl, heap_alloc_new w _⟩, below_alloc (Below.refl _ _) _⟩
theorem impl_arrow.made (p1 p2 : Option Addr) (w : World) : Calls Tryd.prog 32 #[.pointer p1, .pointer p2] w fun e w' => ∃ g p, e = .returned (.pointer (some ⟨g, 0, none⟩)) ∧ w'.heap[g]? = some (.cells #[.int .i64 0, .slice (some ⟨p, 0, none⟩) 2 2] 75 (0, 0)) ∧ w'.heap[p]? = some (.cells #[.pointer p1, .pointer p2] 42 (0, 0)) ∧ Below w.heap.size w w' := by
  have hu75 := Tryd.underlying75
  have hu73 := Tryd.underlying73
  go_enter Tryd.func32, Tryd.ntmps32
  go_wp2
  go_ret
  have h1 := heap_alloc_new w (.cells #[.pointer p1, .pointer p2] 42 (0, 0))
  have h2 := heap_alloc_new (w.alloc (.cells #[.pointer p1, .pointer p2] 42 (0, 0))) (.cells #[.int .i64 0, .slice (some ⟨w.heap.size, 0, none⟩) 2 2] 75 (0, 0))
  rw [show (w.alloc (.cells #[.pointer p1, .pointer p2] 42 (0, 0))).heap.size = w.heap.size + 1 by simp] at h2
  exact ⟨w.heap.size + 1, w.heap.size, rfl, h2, blk_alloc h1 _, below_alloc (below_alloc (Below.refl _ _) _) _⟩
theorem impl_arrow.calls {l r : Ty} {u1 u2 : Value} (w : World) (hl : IsT w l u1) (hr : IsT w r u2) : Calls Tryd.prog 32 #[u1, u2] w fun e w' => ∃ x, e = .returned x ∧ IsT w' (.a l r) x ∧ Below w.heap.size w w' := by
  obtain ⟨g1, rfl⟩ := hl.ptr
  obtain ⟨g2, rfl⟩ := hr.ptr
  refine (impl_arrow.made _ _ w).mono ?_
  rintro _ w1 ⟨g, p, rfl, hg, hp, hb⟩
  exact ⟨_, rfl, ⟨g, p, _, _, rfl, hg, hp, hl.below hb, hr.below hb⟩, hb⟩
theorem impl_typ_isVar.calls {t : Ty} {x : Value} (w : World) (h : IsT w t x) : Calls Tryd.prog 31 #[x] w fun e w' => e = .returned (.bool t.isVar) ∧ Below w.heap.size w w' := by
  have hu75 := Tryd.underlying75
  cases t with
  | v m =>
    obtain ⟨g, rfl, h0, h1⟩ := h.varc
    clear h
    go_enter Tryd.func31, Tryd.ntmps31
    go_wp2
    go_ret
    exact ⟨rfl, Below.refl _ _⟩
  | a l r =>
    obtain ⟨g, p, u1, u2, rfl, h1, h2, h3, hl, hr⟩ := h.arrc
    clear h h2 h3 hl hr
    go_enter Tryd.func31, Tryd.ntmps31
    go_wp2
    go_ret
    exact ⟨rfl, Below.refl _ _⟩

def Ty.text : Ty → ByteArray
  | .v n => (⟨#[116]⟩ : ByteArray) ++ ⟨(Lib.decDigits n.toNat).toArray⟩
  | .a l r => ((((⟨#[40]⟩ : ByteArray) ++ l.text) ++ (⟨#[62]⟩ : ByteArray)) ++ r.text) ++ (⟨#[41]⟩ : ByteArray)
def Ty.ok : Ty → Prop
  | .v n => 0 ≤ n ∧ n ≤ 9223372036854775807
  | .a l r => l.ok ∧ r.ok
def impl_typ_text.T3 : Bool × List (List Nat × List Nat) := (true, [([], []), ([0], [0]), ([1], [1]), ([2], [2]), ([3], [3]), ([4], [4]), ([5], [5]), ([6], [6]), ([7], [7]), ([], []), ([9], [9]), ([10], [10]), ([11], [11]), ([12], [12]), ([13], [13]), ([14, 6], [14]), ([8, 15], [8, 15]), ([16], [16]), ([17, 15, 0, 1, 2, 3, 4, 5, 6, 7, 8, 9, 10, 11, 12, 13, 14, 15, 16, 17], [17])])
def impl_typ_text.B3 : List Nat := [0, 1, 3, 7, 15, 31, 63, 127, 255, 0, 512, 1536, 3584, 7680, 15872, 32383, 65535, 131071, 262143]
theorem impl_typ_text.tab3 : rtab .any (opsOf Tryd.f16 3) = impl_typ_text.T3 := by kernel_rfl
theorem impl_typ_text.bits3 : waitsOk impl_typ_text.T3.2 impl_typ_text.B3 = true := by kernel_rfl
set_option maxHeartbeats 8000000 in
set_option maxRecDepth 100000 in
theorem impl_typ_text.calls : ∀ (t : Ty) (x : Value) (w : World) (h : IsT w t x) (ho : t.ok) (hs : t.text.size ≤ 4611686018427387904) (hT : Tab w), Calls Tryd.prog 16 #[x] w fun e w' => e = .returned (.string t.text) ∧ Below w.heap.size w w'
  | .v n, x, w, h, ho, hs, hT => by
    have HT := aM hT
    have HO : Aside0 (0 ≤ n ∧ n ≤ 9223372036854775807) := ⟨ho⟩
    obtain ⟨g, rfl, h0, h1⟩ := h.varc
    have HX := aM h
    obtain ⟨d, hd⟩ : ∃ d : ByteArray, d = ⟨(Lib.decDigits n.toNat).toArray⟩ := ⟨_, rfl⟩
    have ht : Ty.text (.v n) = (⟨#[116]⟩ : ByteArray) ++ d := by rw [hd]; rfl
    have hz : (9223372036854775807 < 1 + d.size) = False := eq_false (by have : (Ty.text (.v n)).size = 1 + d.size := by { rw [ht, ByteArray.size_append]; rfl }; omega)
    rw [ht]
    have HD := aM hd
    clear hd ht
    clear hT ho h hs
    go_enter Tryd.func16, Tryd.ntmps16
    go_wp2_with (first
      | ((with_reducible refine gate_callee (f := 31) rfl ?_); refine goesL_ (some 4) rfl rfl Tryd.func31 (by kernel_rfl) rfl #[.pointer (some ⟨g, 0, none⟩)] rfl tA ?_; (with_reducible refine (impl_typ_isVar.calls (t := .v n) _ ?s1).mono ?_); (case s1 => exact HX.out); rintro _ w1 ⟨rfl, hb⟩; refine ⟨_, rfl, ?_⟩; have HB := aM hb; have k0 := (hb.cell (World.block_lt_of_cell? _ _ h0)).trans h0; clear hb h0 h1)
      | ((with_reducible refine gate_callee (f := 36) rfl ?_); refine goesL_ (some 9) rfl rfl Tryd.func36 (by kernel_rfl) rfl #[.int .i64 n] rfl tA ?_; (with_reducible refine (strconv_Itoa_36.calls n d _ ?s1 ?s2).mono ?_); (case s1 => rw [HD.out]; exact if_pos HO.out); (case s2 => exact HT.out.below HB.out); rintro _ w2 ⟨rfl, hb⟩; refine ⟨_, rfl, ?_⟩; have HB2 := aM (below_step HB.out hb); clear hb k0))
    go_ret
    exact ⟨rfl, HB2.out⟩
  | .a l r, x, w, h, ho, hs, hT => by
    have HT := aM hT
    have HX := aM h
    obtain ⟨g, p, u1, u2, rfl, h1, h2, h3, hl, hr⟩ := h.arrc
    have HL := aM hl
    have HR := aM hr
    obtain ⟨g1, rfl⟩ := hl.ptr
    obtain ⟨g2, rfl⟩ := hr.ptr
    have OL : Aside0 l.ok := ⟨ho.1⟩
    have OR : Aside0 r.ok := ⟨ho.2⟩
    have hz : (Ty.text (.a l r)).size = 1 + l.text.size + 1 + r.text.size + 1 := by
      show (((((⟨#[40]⟩ : ByteArray) ++ l.text) ++ (⟨#[62]⟩ : ByteArray)) ++ r.text) ++ (⟨#[41]⟩ : ByteArray)).size = _
      rw [ByteArray.size_append, ByteArray.size_append, ByteArray.size_append, ByteArray.size_append]; rfl
    have SL : Aside0 (l.text.size ≤ 4611686018427387904 ∧ r.text.size ≤ 4611686018427387904) := ⟨by omega⟩
    have z1 : (9223372036854775807 < 1 + l.text.size) = False := eq_false (by omega)
    have z2 : (9223372036854775807 < 1 + l.text.size + 1) = False := eq_false (by omega)
    have z3 : (9223372036854775807 < 1 + l.text.size + 1 + r.text.size) = False := eq_false (by omega)
    have z4 : (9223372036854775807 < 1 + l.text.size + 1 + r.text.size + 1) = False := eq_false (by omega)
    clear hT ho h hs hz hl hr
    go_enter Tryd.func16, Tryd.ntmps16
    go_upto_region 3 with (first
      | ((with_reducible refine gate_callee (f := 31) rfl ?_); refine goesL_ (some 4) rfl rfl Tryd.func31 (by kernel_rfl) rfl #[.pointer (some ⟨g, 0, none⟩)] rfl tA ?_; (with_reducible refine (impl_typ_isVar.calls (t := .a l r) _ ?s1).mono ?_); (case s1 => exact HX.out); rintro _ w1 ⟨rfl, hb⟩; refine ⟨_, rfl, ?_⟩; have HB := aM hb; have k1 := (hb.cell (World.block_lt_of_cell? _ _ h1)).trans h1; have k2 := (hb.cell (World.block_lt_of_cell? _ _ h2)).trans h2; have k3 := (hb.cell (World.block_lt_of_cell? _ _ h3)).trans h3; clear hb h1 h2 h3))
    refine start_ (n := 19) (S := fun w' => w'.cell? ⟨g, 1, none⟩ = some (.slice (some ⟨p, 0, none⟩) 2 2) ∧ w'.cell? ⟨p, 0, none⟩ = some (.pointer (some ⟨g1, 0, none⟩)) ∧ w'.cell? ⟨p, 1, none⟩ = some (.pointer (some ⟨g2, 0, none⟩))) (ds := []) #[false, false, false, false, false, false, false, false, false, false, false, false, false, false, false, false, false, false, false] (by kernel_rfl) rfl rfl ⟨k1, k2, k3⟩ (fun hHeld => ?_); refine with_tabW impl_typ_text.tab3 impl_typ_text.bits3 (fun HT_ HW_ => ?_)
    have n0_ := aM (below_drew1 HB.out)
    clear HB k1 k2 k3
    have HB := n0_
    clear n0_
    generalize w1.drew = w2 at HB hHeld ⊢
    refine pure_ (i := 0) (N := some 11) (v := ?_) (a' := ?_) #[true, false, false, false, false, false, false, false, false, false, false, false, false, false, false, false, false, false, false] rfl rfl (any_of HT_.out (by kernel_rfl)) (fun _ _ _ h => h) (Or.inl ⟨by rfl, ?_⟩) ?_ ?_
    rotate_left
    · intro w'
      go_simp
      with_reducible rfl
    rotate_left
    · simp only [Act.put, List.setIfInBounds_toArray, List.set_cons_zero, List.set_cons_succ, i64_w, i32_w]
      rfl
    refine pure_ (i := 1) (N := some 12) (v := ?_) (a' := ?_) #[true, true, false, false, false, false, false, false, false, false, false, false, false, false, false, false, false, false, false] rfl rfl (any_of HT_.out (by kernel_rfl)) (fun _ _ _ h => h) (Or.inl ⟨by rfl, ?_⟩) ?_ ?_
    rotate_left
    · intro w'
      go_simp
      with_reducible rfl
    rotate_left
    · simp only [Act.put, List.setIfInBounds_toArray, List.set_cons_zero, List.set_cons_succ, i64_w, i32_w]
      rfl
    refine pure_ (i := 2) (N := some 13) (v := ?_) (a' := ?_) #[true, true, true, false, false, false, false, false, false, false, false, false, false, false, false, false, false, false, false] rfl rfl (any_of HT_.out (by kernel_rfl)) (fun _ _ _ h => h) (Or.inl ⟨by rfl, ?_⟩) ?_ ?_
    rotate_left
    · intro w'
      go_simp
      with_reducible rfl
    rotate_left
    · simp only [Act.put, List.setIfInBounds_toArray, List.set_cons_zero, List.set_cons_succ, i64_w, i32_w]
      rfl
    refine pure_ (i := 9) (N := some 20) (v := ?_) (a' := ?_) #[true, true, true, false, false, false, false, false, false, true, false, false, false, false, false, false, false, false, false] rfl rfl (any_of HT_.out (by kernel_rfl)) (fun _ _ _ h => h) (Or.inl ⟨by rfl, ?_⟩) ?_ ?_
    rotate_left
    · intro w'
      go_simp
      with_reducible rfl
    rotate_left
    · simp only [Act.put, List.setIfInBounds_toArray, List.set_cons_zero, List.set_cons_succ, i64_w, i32_w]
      rfl
    refine pure_ (i := 10) (N := some 21) (v := ?_) (a' := ?_) #[true, true, true, false, false, false, false, false, false, true, true, false, false, false, false, false, false, false, false] rfl rfl (any_of HT_.out (by kernel_rfl)) (fun _ _ _ h => h) (Or.inl ⟨by rfl, ?_⟩) ?_ ?_
    rotate_left
    · intro w'
      go_simp
      with_reducible rfl
    rotate_left
    · simp only [Act.put, List.setIfInBounds_toArray, List.set_cons_zero, List.set_cons_succ, i64_w, i32_w]
      rfl
    refine pure_ (i := 11) (N := some 22) (v := ?_) (a' := ?_) #[true, true, true, false, false, false, false, false, false, true, true, true, false, false, false, false, false, false, false] rfl rfl (any_of HT_.out (by kernel_rfl)) (fun _ _ _ h => h) (Or.inl ⟨by rfl, ?_⟩) ?_ ?_
    rotate_left
    · intro w'
      go_simp
      with_reducible rfl
    rotate_left
    · simp only [Act.put, List.setIfInBounds_toArray, List.set_cons_zero, List.set_cons_succ, i64_w, i32_w]
      rfl
    refine take_ (i := 3) (N := some 14) (v := ?_) (a' := ?_) #[true, true, true, true, false, false, false, false, false, true, true, true, false, false, false, false, false, false, false] rfl rfl (take_ofW HT_.out HW_.out (by kernel_rfl)) (fun _ _ _ h => h) (Or.inl ⟨by rfl, ?_⟩) hHeld ?_ ?_
    rotate_left
    · rintro w' ⟨s0, s1, s2⟩
      go_simp
      with_reducible rfl
    rotate_left
    · simp only [Act.put, List.setIfInBounds_toArray, List.set_cons_zero, List.set_cons_succ, i64_w, i32_w]
      rfl
    refine take_ (i := 12) (N := some 23) (v := ?_) (a' := ?_) #[true, true, true, true, false, false, false, false, false, true, true, true, true, false, false, false, false, false, false] rfl rfl (take_ofW HT_.out HW_.out (by kernel_rfl)) (fun _ _ _ h => h) (Or.inl ⟨by rfl, ?_⟩) hHeld ?_ ?_
    rotate_left
    · rintro w' ⟨s0, s1, s2⟩
      go_simp
      with_reducible rfl
    rotate_left
    · simp only [Act.put, List.setIfInBounds_toArray, List.set_cons_zero, List.set_cons_succ, i64_w, i32_w]
      rfl
    refine pure_ (i := 4) (N := some 15) (v := ?_) (a' := ?_) #[true, true, true, true, true, false, false, false, false, true, true, true, true, false, false, false, false, false, false] rfl rfl (any_of HT_.out (by kernel_rfl)) (fun _ _ _ h => h) (Or.inl ⟨by rfl, ?_⟩) ?_ ?_
    rotate_left
    · intro w'
      go_simp
      with_reducible rfl
    rotate_left
    · simp only [Act.put, List.setIfInBounds_toArray, List.set_cons_zero, List.set_cons_succ, i64_w, i32_w]
      rfl
    refine pure_ (i := 13) (N := some 24) (v := ?_) (a' := ?_) #[true, true, true, true, true, false, false, false, false, true, true, true, true, true, false, false, false, false, false] rfl rfl (any_of HT_.out (by kernel_rfl)) (fun _ _ _ h => h) (Or.inl ⟨by rfl, ?_⟩) ?_ ?_
    rotate_left
    · intro w'
      go_simp
      with_reducible rfl
    rotate_left
    · simp only [Act.put, List.setIfInBounds_toArray, List.set_cons_zero, List.set_cons_succ, i64_w, i32_w]
      rfl
    refine take_ (i := 5) (N := some 16) (v := ?_) (a' := ?_) #[true, true, true, true, true, true, false, false, false, true, true, true, true, true, false, false, false, false, false] rfl rfl (take_ofW HT_.out HW_.out (by kernel_rfl)) (fun _ _ _ h => h) (Or.inl ⟨by rfl, ?_⟩) hHeld ?_ ?_
    rotate_left
    · rintro w' ⟨s0, s1, s2⟩
      go_simp
      with_reducible rfl
    rotate_left
    · simp only [Act.put, List.setIfInBounds_toArray, List.set_cons_zero, List.set_cons_succ, i64_w, i32_w]
      rfl
    refine take_ (i := 14) (N := some 25) (v := ?_) (a' := ?_) #[true, true, true, true, true, true, false, false, false, true, true, true, true, true, true, false, false, false, false] rfl rfl (take_ofW HT_.out HW_.out (by kernel_rfl)) (fun _ _ _ h => h) (Or.inl ⟨by rfl, ?_⟩) hHeld ?_ ?_
    rotate_left
    · rintro w' ⟨s0, s1, s2⟩
      go_simp
      with_reducible rfl
    rotate_left
    · simp only [Act.put, List.setIfInBounds_toArray, List.set_cons_zero, List.set_cons_succ, i64_w, i32_w]
      rfl
    refine one_ (i := 6) (N := some 17) #[true, true, true, true, true, true, true, false, false, true, true, true, true, true, true, false, false, false, false] rfl rfl (one_of HT_.out (by kernel_rfl)) (by decide) (fun K hK => ?_)
    refine goes_ Tryd.func16 (by kernel_rfl) rfl #[.pointer (some ⟨g1, 0, none⟩)] (by rfl) rfl rfl (by (try simp only [List.map_toArray, List.map_cons, List.map_nil]); first | done | rfl) ?_
    refine (impl_typ_text.calls l _ _ (HL.out.below HB.out) OL.out SL.out.1 (HT.out.below HB.out)).mono ?_
    rintro _ w3 ⟨rfl, hb⟩
    refine ⟨_, rfl, ?_⟩
    have HB3 := aM (below_step HB.out hb)
    refine hK.out _ _ ⟨(hb.cell (World.block_lt_of_cell? _ _ hHeld.1)).trans hHeld.1, (hb.cell (World.block_lt_of_cell? _ _ hHeld.2.1)).trans hHeld.2.1, (hb.cell (World.block_lt_of_cell? _ _ hHeld.2.2)).trans hHeld.2.2⟩ (fun hHeld => ?_)
    clear hb
    clear hK K
    refine norm_ (a' := ?_) ?_ ?_
    rotate_left
    · show Act.put _ (some 17) _ = _
      simp only [Act.put, List.setIfInBounds_toArray, List.set_cons_zero, List.set_cons_succ, i64_w, i32_w]
      rfl
    refine pure_ (i := 7) (N := some 18) (v := ?_) (a' := ?_) #[true, true, true, true, true, true, true, true, false, true, true, true, true, true, true, false, false, false, false] rfl rfl (any_of HT_.out (by kernel_rfl)) (fun _ _ _ h => h) (Or.inl ⟨by rfl, ?_⟩) ?_ ?_
    rotate_left
    · intro w'
      go_simp
      with_reducible rfl
    rotate_left
    · simp only [Act.put, List.setIfInBounds_toArray, List.set_cons_zero, List.set_cons_succ, i64_w, i32_w]
      rfl
    refine pure_ (i := 8) (N := some 19) (v := ?_) (a' := ?_) #[true, true, true, true, true, true, true, true, true, true, true, true, true, true, true, false, false, false, false] rfl rfl (any_of HT_.out (by kernel_rfl)) (fun _ _ _ h => h) (Or.inl ⟨by rfl, ?_⟩) ?_ ?_
    rotate_left
    · intro w'
      go_simp
      with_reducible rfl
    rotate_left
    · simp only [Act.put, List.setIfInBounds_toArray, List.set_cons_zero, List.set_cons_succ, i64_w, i32_w]
      rfl
    refine one_ (i := 15) (N := some 26) #[true, true, true, true, true, true, true, true, true, true, true, true, true, true, true, true, false, false, false] rfl rfl (one_of HT_.out (by kernel_rfl)) (by decide) (fun K hK => ?_)
    refine goes_ Tryd.func16 (by kernel_rfl) rfl #[.pointer (some ⟨g2, 0, none⟩)] (by rfl) rfl rfl (by (try simp only [List.map_toArray, List.map_cons, List.map_nil]); first | done | rfl) ?_
    refine (impl_typ_text.calls r _ _ (HR.out.below HB3.out) OR.out SL.out.2 (HT.out.below HB3.out)).mono ?_
    rintro _ w4 ⟨rfl, hb⟩
    refine ⟨_, rfl, ?_⟩
    have HB4 := aM (below_step HB3.out hb)
    refine hK.out _ _ ⟨(hb.cell (World.block_lt_of_cell? _ _ hHeld.1)).trans hHeld.1, (hb.cell (World.block_lt_of_cell? _ _ hHeld.2.1)).trans hHeld.2.1, (hb.cell (World.block_lt_of_cell? _ _ hHeld.2.2)).trans hHeld.2.2⟩ (fun hHeld => ?_)
    clear hb
    clear hK K
    refine norm_ (a' := ?_) ?_ ?_
    rotate_left
    · show Act.put _ (some 26) _ = _
      simp only [Act.put, List.setIfInBounds_toArray, List.set_cons_zero, List.set_cons_succ, i64_w, i32_w]
      rfl
    refine pure_ (i := 16) (N := some 27) (v := ?_) (a' := ?_) #[true, true, true, true, true, true, true, true, true, true, true, true, true, true, true, true, true, false, false] rfl rfl (any_of HT_.out (by kernel_rfl)) (fun _ _ _ h => h) (Or.inl ⟨by rfl, ?_⟩) ?_ ?_
    rotate_left
    · intro w'
      go_simp
      with_reducible rfl
    rotate_left
    · simp only [Act.put, List.setIfInBounds_toArray, List.set_cons_zero, List.set_cons_succ, i64_w, i32_w]
      rfl
    refine pure_ (i := 17) (N := some 28) (v := ?_) (a' := ?_) #[true, true, true, true, true, true, true, true, true, true, true, true, true, true, true, true, true, true, false] rfl rfl (any_of HT_.out (by kernel_rfl)) (fun _ _ _ h => h) (Or.inl ⟨by rfl, ?_⟩) ?_ ?_
    rotate_left
    · intro w'
      go_simp
      with_reducible rfl
    rotate_left
    · simp only [Act.put, List.setIfInBounds_toArray, List.set_cons_zero, List.set_cons_succ, i64_w, i32_w]
      rfl
    refine pure_ (i := 18) (N := some 2) (v := ?_) (a' := ?_) #[true, true, true, true, true, true, true, true, true, true, true, true, true, true, true, true, true, true, true] rfl rfl (any_of HT_.out (by kernel_rfl)) (fun _ _ _ h => h) (Or.inl ⟨by rfl, ?_⟩) ?_ ?_
    rotate_left
    · intro w'
      go_simp
      with_reducible rfl
    rotate_left
    · simp only [Act.put, List.setIfInBounds_toArray, List.set_cons_zero, List.set_cons_succ, i64_w, i32_w]
      rfl
    refine done_ (done_of HT_.out (by kernel_rfl)) ?_
    go_wp2
    go_ret
    exact ⟨rfl, HB4.out⟩
end Go.Proofs.YtlkjikknofmcdaaDoor.G

namespace Go.Proofs.YtlkjikknofmcdaaDoor.G
open Go.RowKit Go.Proofs.YtlkjikknofmcdaaDoorW.PrintWords Go.Proofs.YtlkjikknofmcdaaDoorW.PrintLast Go.Proofs.YtlkjikknofmcdaaDoorW.PrintMore Go.Proofs.YtlkjikknofmcdaaDoor.Short
set_option linter.unusedVariables false

def ptrR : Value → Option (DataW Unit × List MemPlace)
  | .pointer (some ⟨g, 0, none⟩) => some (.lit (.int .i64 (g : Int)), [])
  | .pointer none => some (.lit (.int .i64 (-1)), [])
  | _ => none
abbrev nilD : DataW Unit := .lit (.int .i64 (-1))
theorem ptrR_inv {v : Value} {g : Nat} {ps : List MemPlace} (h : ptrR v = some (.lit (.int .i64 (g : Int)), ps)) : v = .pointer (some ⟨g, 0, none⟩) := by
  unfold ptrR at h
  split at h
  · rename_i g'
    simp only [Option.some.injEq, Prod.mk.injEq, DataW.lit.injEq, Lit.int.injEq, true_and] at h
    have : g' = g := by omega
    rw [this]
  · simp only [Option.some.injEq, Prod.mk.injEq, DataW.lit.injEq, Lit.int.injEq, true_and] at h
    omega
  · cases h
def i64ok (k : Int) : Prop := -9223372036854775808 ≤ k ∧ k ≤ 9223372036854775807
theorem wf_of {k : Int} (h : i64ok k) : (Lit.int .i64 k).wf = true := by
  show (decide (IntKind.i64.min ≤ k) && decide (k ≤ IntKind.i64.max)) = true
  have h1 : IntKind.i64.min = -9223372036854775808 := by decide
  have h2 : IntKind.i64.max = 9223372036854775807 := by decide
  unfold i64ok at h
  rw [h1, h2, decide_eq_true h.1, decide_eq_true h.2]; rfl
def IsM (W : World) (b n : Nat) (M : Int → Option Ty) : Prop :=
  ∃ D, W.ownsMap Tryd.prog 3 ptrR b n D ∧ Go.Maps.IsMap D ∧ ∀ k, i64ok k → (M k = none ∧ Go.Maps.has D (.int .i64 k) = false) ∨
    (∃ t g, M k = some t ∧ Go.Maps.has D (.int .i64 k) = true ∧ D.atKey (.int .i64 k) nilD = .lit (.int .i64 ((g : Nat) : Int)) ∧ IsT W t (.pointer (some ⟨g, 0, none⟩)))
theorem IsM.made (W : World) : IsM (W.alloc (.map #[] 0)) W.heap.size 0 (fun _ => none) :=
  ⟨_, World.ownsMap_made W _ _ _, Go.Maps.isMap_empty, fun k _ => .inl ⟨rfl, rfl⟩⟩
theorem IsM.below {W W1 : World} {b n : Nat} {M : Int → Option Ty} (h : IsM W b n M) (hb : Below W.heap.size W W1) : IsM W1 b n M := by
  obtain ⟨D, h1, h2, h3⟩ := h
  refine ⟨D, h1.kept (grown_of_below hb none) (by simp), h2, fun k hk => ?_⟩
  rcases h3 k hk with h | ⟨t, g, a1, a2, a3, a4⟩
  · exact .inl h
  · exact .inr ⟨t, g, a1, a2, a3, a4.below hb⟩
theorem IsM.drewN {W : World} {b n : Nat} {M : Int → Option Ty} (h : IsM W b n M) (m : Nat) : IsM (W.drewN m) b n M := h.below (pw_below_drewN (Below.refl _ _) m)
theorem IsM.drew {W : World} {b n : Nat} {M : Int → Option Ty} (h : IsM W b n M) : IsM W.drew b n M := h.below (below_drew1 (Below.refl _ _))
theorem IsM.stay {W W1 : World} {b n : Nat} {M : Int → Option Ty} (h : IsM W b n M) (hg : W.grownBy W1 (some b)) : Stay W W1 := by
  obtain ⟨D, ⟨es, clock, hb, _⟩, _⟩ := h
  intro i cs t hi
  refine (hg.block i (blk_lt hi) (fun e => ?_)).trans hi
  injection e with e
  rw [e, hb] at hi
  cases hi
theorem IsM.lt {W : World} {b n : Nat} {M : Int → Option Ty} (h : IsM W b n M) : b < W.heap.size := by
  obtain ⟨D, h1, _⟩ := h
  exact h1.lt
def updM (M : Int → Option Ty) (k : Int) (t : Ty) : Int → Option Ty := fun j => if j = k then some t else M j
section
variable {ops : Array Oper} {rest : List Oper} {o : Oper} {a : Act} {Q : Exit → Act → World → Prop}
theorem law3 : Go.Maps.Keyed Tryd.prog 3 := Go.Maps.int_keyed Tryd.underlying3
theorem zero42 (w : World) : (zeroValue 42).run Tryd.prog w = .ok (.pointer none) w := by kernel_rfl
theorem look_M (w : World) (hg : o.guard = none) (m x : Operand) (hop : o.op = Op.lookup 45 m x true) (b n : Nat) (M : Int → Option Ty) (hm : a.eval m = .map (some b)) (hM : IsM w b n M) (k : Int) (hk : i64ok k) (hx : a.eval x = .int .i64 k)
    (h0 : M k = none → ∀ v, wpList Tryd.prog ops Q rest (a.put o.dst (.tuple #[v, .bool false])) w)
    (h1 : ∀ t g, M k = some t → IsT w t (.pointer (some ⟨g, 0, none⟩)) → wpList Tryd.prog ops Q rest (a.put o.dst (.tuple #[.pointer (some ⟨g, 0, none⟩), .bool true])) w) : wpList Tryd.prog ops Q (o :: rest) a w := by
  obtain ⟨D, hO, hI, hD⟩ := hM
  refine wpList_lookup_own_ok w hg m x 45 hop 3 42 law3 Tryd.underlying45 ptrR (zero42 w) nilD [] rfl b n D hm hO _ (.int .i64 k) hx (Go.Maps.keyOf_int_mk Tryd.underlying3 (wf_of hk)) ?_
  intro v ps hv
  rcases hD k hk with ⟨e1, e2⟩ | ⟨t, g, e1, e2, e3, e4⟩
  · rw [e2]
    exact h0 e1 v
  · rw [e3] at hv
    rw [e2, ptrR_inv hv]
    exact h1 t g e1 e4
theorem put_M (w : World) (hg : o.guard = none) (m x v : Operand) (hop : o.op = Op.mapUpdate 45 m x v) (b n : Nat) (M : Int → Option Ty) (hm : a.eval m = .map (some b)) (hM : IsM w b n M) (hn : n < 1099511627776) (k : Int) (hk : i64ok k) (hx : a.eval x = .int .i64 k) (t : Ty) (g : Nat) (hv : a.eval v = .pointer (some ⟨g, 0, none⟩)) (ht : IsT w t (.pointer (some ⟨g, 0, none⟩)))
    (h : ∀ w', IsM w' b (n + 1) (updM M k t) → Stay w w' → w.grownBy w' (some b) → wpList Tryd.prog ops Q rest (a.put o.dst undef) w') : wpList Tryd.prog ops Q (o :: rest) a w := by
  have hM' := hM
  obtain ⟨D, hO, hI, hD⟩ := hM
  refine wpList_mapUpdate_own w hg m x v 45 hop 3 42 law3 Tryd.underlying45 ptrR b n D hm hO (by unfold maxLen; omega) _ _ (.int .i64 k) hx hv (Go.Maps.keyOf_int_mk Tryd.underlying3 (wf_of hk)) (.lit (.int .i64 (g : Int))) [] rfl ?_
  intro w' hO' hgr
  have hs := hM'.stay hgr
  refine h w' ⟨D.put (.int .i64 k) (.lit (.int .i64 (g : Int))), hO', hI.put _ _, fun j hj => ?_⟩ hs hgr
  by_cases e : j = k
  · subst e
    exact .inr ⟨t, g, if_pos rfl, Go.Maps.has_put_same hI (by trivial) _, Go.Maps.atKey_put_same hI (by trivial) _ _, ht.stay hs⟩
  · have hne : (Lit.int .i64 j) ≠ Lit.int .i64 k := fun h => e (by injection h)
    rcases hD j hj with ⟨e1, e2⟩ | ⟨t', g', e1, e2, e3, e4⟩
    · exact .inl ⟨(if_neg e).trans e1, (Go.Maps.has_put_other hne _).trans e2⟩
    · exact .inr ⟨t', g', (if_neg e).trans e1, (Go.Maps.has_put_other hne _).trans e2, (Go.Maps.atKey_put_other hne _ _).trans e3, e4.stay hs⟩
end
end Go.Proofs.YtlkjikknofmcdaaDoor.G

namespace Go.Proofs.YtlkjikknofmcdaaDoor.G
open Go.RowKit Go.Proofs.YtlkjikknofmcdaaDoorW.PrintWords Go.Proofs.YtlkjikknofmcdaaDoorW.PrintLast Go.Proofs.YtlkjikknofmcdaaDoorW.PrintMore Go.Proofs.YtlkjikknofmcdaaDoor.Short
set_option linter.unusedVariables false
set_option linter.unusedSimpArgs false

def Ty.apply (M : Int → Option Ty) : Ty → Ty
  | .v n => (M n).getD (.v n)
  | .a l r => .a (l.apply M) (r.apply M)
theorem isVar_v (n : Int) : (Ty.v n).isVar = true := rfl
theorem isVar_a (l r : Ty) : (Ty.a l r).isVar = false := rfl
def impl_typ_apply.T6 : Bool × List (List Nat × List Nat) := (true, [([], []), ([0], [0]), ([1], [1]), ([2], [2]), ([3], [3]), ([4], [4]), ([], []), ([5, 6], [5, 6]), ([], []), ([8], [8]), ([9], [9]), ([10], [10]), ([11], [11]), ([12], [12]), ([], []), ([13, 14, 7], [13, 14]), ([7, 15, 15], [7, 15]), ([16, 16, 0, 1, 2, 3, 4, 5, 6, 7, 8, 9, 10, 11, 12, 13, 14, 15, 16], [16])])
def impl_typ_apply.B6 : List Nat := [0, 1, 3, 7, 15, 31, 0, 127, 0, 256, 768, 1792, 3840, 7936, 0, 32767, 65535, 131071]
theorem impl_typ_apply.tab6 : rtab .any (opsOf Tryd.f14 6) = impl_typ_apply.T6 := by kernel_rfl
theorem impl_typ_apply.bits6 : waitsOk impl_typ_apply.T6.2 impl_typ_apply.B6 = true := by kernel_rfl
set_option maxHeartbeats 8000000 in
set_option maxRecDepth 100000 in
theorem impl_typ_apply.calls : ∀ (t : Ty) (x : Value) (b k : Nat) (M : Int → Option Ty) (w : World) (h : IsT w t x) (ho : t.ok) (hM : IsM w b k M), Calls Tryd.prog 14 #[x, .map (some b)] w fun e w' => ∃ y, e = .returned y ∧ IsT w' (t.apply M) y ∧ Below w.heap.size w w'
  | .v n, x, b, k, M, w, h, ho, hM => by
    have ho' : 0 ≤ n ∧ n ≤ 9223372036854775807 := ho
    have HO : Aside0 (i64ok n) := ⟨⟨by omega, by omega⟩⟩
    obtain ⟨g, rfl, h0, h1⟩ := h.varc
    have HX := aM h
    have HM := aM hM
    clear h h1 ho ho' hM
    cases hm : M n with
    | none =>
      have HN := aM hm
      clear hm
      go_enter Tryd.func14, Tryd.ntmps14
      go_wp2_with (first
        | ((with_reducible refine gate_callee (f := 31) rfl ?_); refine goesL_ (some 8) rfl rfl Tryd.func31 (by kernel_rfl) rfl #[.pointer (some ⟨g, 0, none⟩)] rfl tA ?_; (with_reducible refine (impl_typ_isVar.calls (t := .v n) _ ?s1).mono ?_); (case s1 => exact HX.out); rintro _ w1 ⟨rfl, hb⟩; rw [isVar_v]; refine ⟨_, rfl, ?_⟩; have HB := aM (hb); have k0 := (hb.cell (World.block_lt_of_cell? _ _ h0)).trans h0; clear hb h0)
        | (at_lookup; refine look_M _ rfl _ _ rfl b k M rfl (HM.out.below HB.out) n HO.out rfl ?_ (fun t g e _ => absurd (HN.out.symm.trans e) (by simp)); intro _ v))
      go_ret
      exact ⟨_, rfl, by show IsT _ ((M n).getD (.v n)) _; rw [HN.out]; exact HX.out.below HB.out, HB.out⟩
    | some u =>
      have HN := aM hm
      clear hm
      go_enter Tryd.func14, Tryd.ntmps14
      go_wp2_with (first
        | ((with_reducible refine gate_callee (f := 31) rfl ?_); refine goesL_ (some 8) rfl rfl Tryd.func31 (by kernel_rfl) rfl #[.pointer (some ⟨g, 0, none⟩)] rfl tA ?_; (with_reducible refine (impl_typ_isVar.calls (t := .v n) _ ?s1).mono ?_); (case s1 => exact HX.out); rintro _ w1 ⟨rfl, hb⟩; rw [isVar_v]; refine ⟨_, rfl, ?_⟩; have HB := aM (hb); have k0 := (hb.cell (World.block_lt_of_cell? _ _ h0)).trans h0; clear hb h0)
        | (at_lookup; refine look_M _ rfl _ _ rfl b k M rfl (HM.out.below HB.out) n HO.out rfl (fun e => absurd (HN.out.symm.trans e) (by simp)) ?_; intro t g' e hI; have TT : Aside0 (t = u) := ⟨Option.some.inj (e.symm.trans HN.out)⟩; have II := aM hI; clear hI e))
      go_ret
      exact ⟨_, rfl, by show IsT _ ((M n).getD (.v n)) _; rw [HN.out]; exact TT.out ▸ II.out, HB.out⟩
  | .a l r, x, b, k, M, w, h, ho, hM => by
    have HX := aM h
    have HM := aM hM
    have HO : Aside0 (l.ok ∧ r.ok) := ⟨ho⟩
    obtain ⟨g, p, u1, u2, rfl, h1, h2, h3, hl, hr⟩ := h.arrc
    have HL := aM hl
    have HR := aM hr
    obtain ⟨a1, rfl⟩ := hl.ptr
    obtain ⟨a2, rfl⟩ := hr.ptr
    clear h hl hr ho hM
    go_enter Tryd.func14, Tryd.ntmps14
    go_upto_region 6 with (first
      | ((with_reducible refine gate_callee (f := 31) rfl ?_); refine goesL_ (some 8) rfl rfl Tryd.func31 (by kernel_rfl) rfl #[.pointer (some ⟨g, 0, none⟩)] rfl tA ?_; (with_reducible refine (impl_typ_isVar.calls (t := .a l r) _ ?s1).mono ?_); (case s1 => exact HX.out); rintro _ w1 ⟨rfl, hb⟩; rw [isVar_a]; refine ⟨_, rfl, ?_⟩; have HB := aM (hb); have k1 := (hb.cell (World.block_lt_of_cell? _ _ h1)).trans h1; have k2 := (hb.cell (World.block_lt_of_cell? _ _ h2)).trans h2; have k3 := (hb.cell (World.block_lt_of_cell? _ _ h3)).trans h3; clear hb h1 h2 h3))
    refine start_ (n := 18) (S := fun w' => w'.cell? ⟨g, 1, none⟩ = some (.slice (some ⟨p, 0, none⟩) 2 2) ∧ w'.cell? ⟨p, 0, none⟩ = some (.pointer (some ⟨a1, 0, none⟩)) ∧ w'.cell? ⟨p, 1, none⟩ = some (.pointer (some ⟨a2, 0, none⟩))) (ds := []) #[false, false, false, false, false, false, false, false, false, false, false, false, false, false, false, false, false, false] (by kernel_rfl) rfl rfl ⟨k1, k2, k3⟩ (fun hHeld => ?_); refine with_tabW impl_typ_apply.tab6 impl_typ_apply.bits6 (fun HT_ HW_ => ?_)
    have HB2 := aM (below_drew1 HB.out)
    clear HB k1 k2 k3
    generalize w1.drew = w2 at HB2 hHeld ⊢
    refine pure_ (i := 0) (N := some 21) (v := ?_) (a' := ?_) #[true, false, false, false, false, false, false, false, false, false, false, false, false, false, false, false, false, false] rfl rfl (any_of HT_.out (by kernel_rfl)) (fun _ _ _ h => h) (Or.inl ⟨by rfl, ?_⟩) ?_ ?_
    rotate_left
    · intro w'
      go_simp
      with_reducible rfl
    rotate_left
    · simp only [Act.put, List.setIfInBounds_toArray, List.set_cons_zero, List.set_cons_succ, i64_w, i32_w]
      rfl
    refine pure_ (i := 1) (N := some 22) (v := ?_) (a' := ?_) #[true, true, false, false, false, false, false, false, false, false, false, false, false, false, false, false, false, false] rfl rfl (any_of HT_.out (by kernel_rfl)) (fun _ _ _ h => h) (Or.inl ⟨by rfl, ?_⟩) ?_ ?_
    rotate_left
    · intro w'
      go_simp
      with_reducible rfl
    rotate_left
    · simp only [Act.put, List.setIfInBounds_toArray, List.set_cons_zero, List.set_cons_succ, i64_w, i32_w]
      rfl
    refine pure_ (i := 2) (N := some 23) (v := ?_) (a' := ?_) #[true, true, true, false, false, false, false, false, false, false, false, false, false, false, false, false, false, false] rfl rfl (any_of HT_.out (by kernel_rfl)) (fun _ _ _ h => h) (Or.inl ⟨by rfl, ?_⟩) ?_ ?_
    rotate_left
    · intro w'
      go_simp
      with_reducible rfl
    rotate_left
    · simp only [Act.put, List.setIfInBounds_toArray, List.set_cons_zero, List.set_cons_succ, i64_w, i32_w]
      rfl
    refine pure_ (i := 6) (N := some 27) (v := ?_) (a' := ?_) #[true, true, true, false, false, false, true, false, false, false, false, false, false, false, false, false, false, false] rfl rfl (any_of HT_.out (by kernel_rfl)) (fun _ _ _ h => h) (Or.inl ⟨by rfl, ?_⟩) ?_ ?_
    rotate_left
    · intro w'
      go_simp
      with_reducible rfl
    rotate_left
    · simp only [Act.put, List.setIfInBounds_toArray, List.set_cons_zero, List.set_cons_succ, i64_w, i32_w]
      rfl
    refine pure_ (i := 8) (N := some 29) (v := ?_) (a' := ?_) #[true, true, true, false, false, false, true, false, true, false, false, false, false, false, false, false, false, false] rfl rfl (any_of HT_.out (by kernel_rfl)) (fun _ _ _ h => h) (Or.inl ⟨by rfl, ?_⟩) ?_ ?_
    rotate_left
    · intro w'
      go_simp
      with_reducible rfl
    rotate_left
    · simp only [Act.put, List.setIfInBounds_toArray, List.set_cons_zero, List.set_cons_succ, i64_w, i32_w]
      rfl
    refine pure_ (i := 9) (N := some 30) (v := ?_) (a' := ?_) #[true, true, true, false, false, false, true, false, true, true, false, false, false, false, false, false, false, false] rfl rfl (any_of HT_.out (by kernel_rfl)) (fun _ _ _ h => h) (Or.inl ⟨by rfl, ?_⟩) ?_ ?_
    rotate_left
    · intro w'
      go_simp
      with_reducible rfl
    rotate_left
    · simp only [Act.put, List.setIfInBounds_toArray, List.set_cons_zero, List.set_cons_succ, i64_w, i32_w]
      rfl
    refine pure_ (i := 10) (N := some 31) (v := ?_) (a' := ?_) #[true, true, true, false, false, false, true, false, true, true, true, false, false, false, false, false, false, false] rfl rfl (any_of HT_.out (by kernel_rfl)) (fun _ _ _ h => h) (Or.inl ⟨by rfl, ?_⟩) ?_ ?_
    rotate_left
    · intro w'
      go_simp
      with_reducible rfl
    rotate_left
    · simp only [Act.put, List.setIfInBounds_toArray, List.set_cons_zero, List.set_cons_succ, i64_w, i32_w]
      rfl
    refine pure_ (i := 14) (N := some 35) (v := ?_) (a' := ?_) #[true, true, true, false, false, false, true, false, true, true, true, false, false, false, true, false, false, false] rfl rfl (any_of HT_.out (by kernel_rfl)) (fun _ _ _ h => h) (Or.inl ⟨by rfl, ?_⟩) ?_ ?_
    rotate_left
    · intro w'
      go_simp
      with_reducible rfl
    rotate_left
    · simp only [Act.put, List.setIfInBounds_toArray, List.set_cons_zero, List.set_cons_succ, i64_w, i32_w]
      rfl
    refine take_ (i := 3) (N := some 24) (v := ?_) (a' := ?_) #[true, true, true, true, false, false, true, false, true, true, true, false, false, false, true, false, false, false] rfl rfl (take_ofW HT_.out HW_.out (by kernel_rfl)) (fun _ _ _ h => h) (Or.inl ⟨by rfl, ?_⟩) hHeld ?_ ?_
    rotate_left
    · rintro w' ⟨s0, s1, s2⟩
      go_simp
      with_reducible rfl
    rotate_left
    · simp only [Act.put, List.setIfInBounds_toArray, List.set_cons_zero, List.set_cons_succ, i64_w, i32_w]
      rfl
    refine take_ (i := 11) (N := some 32) (v := ?_) (a' := ?_) #[true, true, true, true, false, false, true, false, true, true, true, true, false, false, true, false, false, false] rfl rfl (take_ofW HT_.out HW_.out (by kernel_rfl)) (fun _ _ _ h => h) (Or.inl ⟨by rfl, ?_⟩) hHeld ?_ ?_
    rotate_left
    · rintro w' ⟨s0, s1, s2⟩
      go_simp
      with_reducible rfl
    rotate_left
    · simp only [Act.put, List.setIfInBounds_toArray, List.set_cons_zero, List.set_cons_succ, i64_w, i32_w]
      rfl
    refine pure_ (i := 4) (N := some 25) (v := ?_) (a' := ?_) #[true, true, true, true, true, false, true, false, true, true, true, true, false, false, true, false, false, false] rfl rfl (any_of HT_.out (by kernel_rfl)) (fun _ _ _ h => h) (Or.inl ⟨by rfl, ?_⟩) ?_ ?_
    rotate_left
    · intro w'
      go_simp
      with_reducible rfl
    rotate_left
    · simp only [Act.put, List.setIfInBounds_toArray, List.set_cons_zero, List.set_cons_succ, i64_w, i32_w]
      rfl
    refine pure_ (i := 12) (N := some 33) (v := ?_) (a' := ?_) #[true, true, true, true, true, false, true, false, true, true, true, true, true, false, true, false, false, false] rfl rfl (any_of HT_.out (by kernel_rfl)) (fun _ _ _ h => h) (Or.inl ⟨by rfl, ?_⟩) ?_ ?_
    rotate_left
    · intro w'
      go_simp
      with_reducible rfl
    rotate_left
    · simp only [Act.put, List.setIfInBounds_toArray, List.set_cons_zero, List.set_cons_succ, i64_w, i32_w]
      rfl
    refine take_ (i := 5) (N := some 26) (v := ?_) (a' := ?_) #[true, true, true, true, true, true, true, false, true, true, true, true, true, false, true, false, false, false] rfl rfl (take_ofW HT_.out HW_.out (by kernel_rfl)) (fun _ _ _ h => h) (Or.inl ⟨by rfl, ?_⟩) hHeld ?_ ?_
    rotate_left
    · rintro w' ⟨s0, s1, s2⟩
      go_simp
      with_reducible rfl
    rotate_left
    · simp only [Act.put, List.setIfInBounds_toArray, List.set_cons_zero, List.set_cons_succ, i64_w, i32_w]
      rfl
    refine take_ (i := 13) (N := some 34) (v := ?_) (a' := ?_) #[true, true, true, true, true, true, true, false, true, true, true, true, true, true, true, false, false, false] rfl rfl (take_ofW HT_.out HW_.out (by kernel_rfl)) (fun _ _ _ h => h) (Or.inl ⟨by rfl, ?_⟩) hHeld ?_ ?_
    rotate_left
    · rintro w' ⟨s0, s1, s2⟩
      go_simp
      with_reducible rfl
    rotate_left
    · simp only [Act.put, List.setIfInBounds_toArray, List.set_cons_zero, List.set_cons_succ, i64_w, i32_w]
      rfl
    refine one_ (i := 7) (N := some 28) #[true, true, true, true, true, true, true, true, true, true, true, true, true, true, true, false, false, false] rfl rfl (one_of HT_.out (by kernel_rfl)) (by decide) (fun K hK => ?_)
    refine goes_ Tryd.func14 (by kernel_rfl) rfl #[.pointer (some ⟨a1, 0, none⟩), .map (some b)] (by rfl) rfl rfl (by (try simp only [List.map_toArray, List.map_cons, List.map_nil]); first | done | rfl) ?_
    refine (impl_typ_apply.calls l _ b k M _ (HL.out.below HB2.out) HO.out.1 (HM.out.below HB2.out)).mono ?_
    rintro _ w3 ⟨y1, rfl, hi, hb⟩
    obtain ⟨d1, rfl⟩ := hi.ptr
    refine ⟨_, rfl, ?_⟩
    have HB3 := aM (below_step HB2.out hb)
    have I1 := aM hi
    refine hK.out _ _ ⟨(hb.cell (World.block_lt_of_cell? _ _ hHeld.1)).trans hHeld.1, (hb.cell (World.block_lt_of_cell? _ _ hHeld.2.1)).trans hHeld.2.1, (hb.cell (World.block_lt_of_cell? _ _ hHeld.2.2)).trans hHeld.2.2⟩ (fun hHeld => ?_)
    clear hb hi
    clear hK K
    refine norm_ (a' := ?_) ?_ ?_
    rotate_left
    · show Act.put _ (some 28) _ = _
      simp only [Act.put, List.setIfInBounds_toArray, List.set_cons_zero, List.set_cons_succ, i64_w, i32_w]
      rfl
    refine one_ (i := 15) (N := some 36) #[true, true, true, true, true, true, true, true, true, true, true, true, true, true, true, true, false, false] rfl rfl (one_of HT_.out (by kernel_rfl)) (by decide) (fun K hK => ?_)
    refine goes_ Tryd.func14 (by kernel_rfl) rfl #[.pointer (some ⟨a2, 0, none⟩), .map (some b)] (by rfl) rfl rfl (by (try simp only [List.map_toArray, List.map_cons, List.map_nil]); first | done | rfl) ?_
    refine (impl_typ_apply.calls r _ b k M _ (HR.out.below HB3.out) HO.out.2 (HM.out.below HB3.out)).mono ?_
    rintro _ w4 ⟨y2, rfl, hi, hb⟩
    obtain ⟨d2, rfl⟩ := hi.ptr
    refine ⟨_, rfl, ?_⟩
    have HB4 := aM (below_step HB3.out hb)
    have I2 := aM hi
    have J1 := aM (I1.out.below hb)
    refine hK.out _ _ ⟨(hb.cell (World.block_lt_of_cell? _ _ hHeld.1)).trans hHeld.1, (hb.cell (World.block_lt_of_cell? _ _ hHeld.2.1)).trans hHeld.2.1, (hb.cell (World.block_lt_of_cell? _ _ hHeld.2.2)).trans hHeld.2.2⟩ (fun hHeld => ?_)
    clear hb hi I1
    clear hK K
    refine norm_ (a' := ?_) ?_ ?_
    rotate_left
    · show Act.put _ (some 36) _ = _
      simp only [Act.put, List.setIfInBounds_toArray, List.set_cons_zero, List.set_cons_succ, i64_w, i32_w]
      rfl
    refine one_ (i := 16) (N := some 37) #[true, true, true, true, true, true, true, true, true, true, true, true, true, true, true, true, true, false] rfl rfl (one_of HT_.out (by kernel_rfl)) (by decide) (fun K hK => ?_)
    refine goes_ Tryd.func32 (by kernel_rfl) rfl #[.pointer (some ⟨d1, 0, none⟩), .pointer (some ⟨d2, 0, none⟩)] (by rfl) rfl rfl (by (try simp only [List.map_toArray, List.map_cons, List.map_nil]); first | done | rfl) ?_
    refine (impl_arrow.calls _ J1.out I2.out).mono ?_
    rintro _ w5 ⟨y3, rfl, hi, hb⟩
    obtain ⟨d3, rfl⟩ := hi.ptr
    refine ⟨_, rfl, ?_⟩
    have HB5 := aM (below_step HB4.out hb)
    have I3 := aM hi
    refine hK.out _ _ ⟨(hb.cell (World.block_lt_of_cell? _ _ hHeld.1)).trans hHeld.1, (hb.cell (World.block_lt_of_cell? _ _ hHeld.2.1)).trans hHeld.2.1, (hb.cell (World.block_lt_of_cell? _ _ hHeld.2.2)).trans hHeld.2.2⟩ (fun hHeld => ?_)
    clear hb hi
    clear hK K
    refine norm_ (a' := ?_) ?_ ?_
    rotate_left
    · show Act.put _ (some 37) _ = _
      simp only [Act.put, List.setIfInBounds_toArray, List.set_cons_zero, List.set_cons_succ, i64_w, i32_w]
      rfl
    refine pure_ (i := 17) (N := some 4) (v := ?_) (a' := ?_) #[true, true, true, true, true, true, true, true, true, true, true, true, true, true, true, true, true, true] rfl rfl (any_of HT_.out (by kernel_rfl)) (fun _ _ _ h => h) (Or.inl ⟨by rfl, ?_⟩) ?_ ?_
    rotate_left
    · intro w'
      go_simp
      with_reducible rfl
    rotate_left
    · simp only [Act.put, List.setIfInBounds_toArray, List.set_cons_zero, List.set_cons_succ, i64_w, i32_w]
      rfl
    refine done_ (done_of HT_.out (by kernel_rfl)) ?_
    go_wp2
    go_ret
    exact ⟨_, rfl, I3.out, HB5.out⟩

def Ty.same : Ty → Ty → Bool
  | .v n, .v m => n == m
  | .a l r, .a l' r' => l.same l' && r.same r'
  | _, _ => false
def impl_typ_isSame.T2 : Bool × List (List Nat × List Nat) := (true, [([], []), ([0], [0]), ([1, 1], [1]), ([2], [2]), ([3, 2, 2], [2, 3]), ([2, 4], [2, 4]), ([5, 4], [5]), ([6], [6]), ([7, 6], [6, 7]), ([8, 6], [6, 8]), ([9, 6], [6, 9]), ([6], [6]), ([11, 6], [6, 11]), ([12, 6], [6, 12]), ([13, 6], [6, 13]), ([10, 14, 6], [6, 10, 14]), ([6, 15], [6, 15]), ([16, 6, 0, 1, 2, 3, 4, 5, 6, 7, 8, 9, 10, 11, 12, 13, 14, 15, 16], [16])])
def impl_typ_isSame.B2 : List Nat := [0, 1, 3, 7, 15, 31, 63, 127, 255, 511, 1023, 127, 2175, 6271, 14463, 32767, 65535, 131071]
theorem impl_typ_isSame.tab2 : rtab .any (opsOf Tryd.f42 2) = impl_typ_isSame.T2 := by kernel_rfl
theorem impl_typ_isSame.bits2 : waitsOk impl_typ_isSame.T2.2 impl_typ_isSame.B2 = true := by kernel_rfl
def impl_typ_isSame.T3 : Bool × List (List Nat × List Nat) := (true, [([], []), ([0], [0]), ([1], [1]), ([2], [2]), ([3], [3]), ([4], [4]), ([], []), ([6], [6]), ([7], [7]), ([8], [8]), ([9], [9]), ([10], [10]), ([5, 11], [5, 11]), ([12, 12], [12]), ([13], [13]), ([14, 13], [13, 14]), ([15, 13], [13, 15]), ([16, 13], [13, 16]), ([17, 13], [13, 17]), ([18, 13], [13, 18]), ([13], [13]), ([20, 13], [13, 20]), ([21, 13], [13, 21]), ([22, 13], [13, 22]), ([23, 13], [13, 23]), ([24, 13], [13, 24]), ([19, 25, 13, 13], [13, 19, 25]), ([13, 26], [13, 26]), ([27, 26, 0, 1, 2, 3, 4, 5, 6, 7, 8, 9, 10, 11, 12, 13, 14, 15, 16, 17, 18, 19, 20, 21, 22, 23, 24, 25, 26, 27], [27])])
def impl_typ_isSame.B3 : List Nat := [0, 1, 3, 7, 15, 31, 0, 64, 192, 448, 960, 1984, 4095, 8191, 16383, 32767, 65535, 131071, 262143, 524287, 16383, 1064959, 3162111, 7356415, 15745023, 32522239, 67108863, 134217727, 268435455]
theorem impl_typ_isSame.tab3 : rtab .any (opsOf Tryd.f42 3) = impl_typ_isSame.T3 := by kernel_rfl
theorem impl_typ_isSame.bits3 : waitsOk impl_typ_isSame.T3.2 impl_typ_isSame.B3 = true := by kernel_rfl
set_option maxHeartbeats 8000000 in
set_option maxRecDepth 100000 in
theorem impl_typ_isSame.calls : ∀ (t u : Ty) (x y : Value) (w : World) (h : IsT w t x) (h' : IsT w u y), Calls Tryd.prog 42 #[x, y] w fun e w' => e = .returned (.bool (t.same u)) ∧ Below w.heap.size w w'
  | .v n, .v m, x, y, w, h, h' => by
    obtain ⟨g, rfl, h0, h1⟩ := h.varc
    obtain ⟨g', rfl, h0', h1'⟩ := h'.varc
    have HX := aM h
    have HY := aM h'
    clear h h' h1 h1'
    go_enter Tryd.func42, Tryd.ntmps42
    go_upto_region 2 with (first
      | ((with_reducible refine gate_callee (f := 31) rfl ?_); refine goesL_ (some 6) rfl rfl Tryd.func31 (by kernel_rfl) rfl #[.pointer (some ⟨g, 0, none⟩)] rfl tA ?_; (with_reducible refine (impl_typ_isVar.calls (t := .v n) _ ?s1).mono ?_); (case s1 => exact HX.out); rintro _ w1 ⟨rfl, hb⟩; refine ⟨_, rfl, ?_⟩; have HB := aM (hb); have k0 := (hb.cell (World.block_lt_of_cell? _ _ h0)).trans h0; have k1 := (hb.cell (World.block_lt_of_cell? _ _ h0')).trans h0'; clear hb h0 h0'))
    refine start_ (n := 18) (S := fun w' => w'.cell? ⟨g, 0, none⟩ = some (.int .i64 n) ∧ w'.cell? ⟨g', 0, none⟩ = some (.int .i64 m)) (ds := []) #[false, false, false, false, false, false, false, false, false, false, false, false, false, false, false, false, false, false] (by kernel_rfl) rfl rfl ⟨k0, k1⟩ (fun hHeld => ?_); refine with_tabW impl_typ_isSame.tab2 impl_typ_isSame.bits2 (fun HT_ HW_ => ?_)
    have HB2 := aM (below_drew1 HB.out)
    clear HB k0 k1
    generalize w1.drew = w2 at HB2 hHeld ⊢
    refine pure_ (i := 0) (N := some 11) (v := ?_) (a' := ?_) #[true, false, false, false, false, false, false, false, false, false, false, false, false, false, false, false, false, false] rfl rfl (any_of HT_.out (by kernel_rfl)) (fun _ _ _ h => h) (Or.inl ⟨by rfl, ?_⟩) ?_ ?_
    rotate_left
    · intro w'
      go_simp
      with_reducible rfl
    rotate_left
    · simp only [Act.put, List.setIfInBounds_toArray, List.set_cons_zero, List.set_cons_succ, i64_w, i32_w]
      rfl
    refine one_ (i := 1) (N := some 12) #[true, true, false, false, false, false, false, false, false, false, false, false, false, false, false, false, false, false] rfl rfl (one_of HT_.out (by kernel_rfl)) (by decide) (fun K hK => ?_)
    refine goes_ Tryd.func31 (by kernel_rfl) rfl #[.pointer (some ⟨g, 0, none⟩)] (by rfl) rfl rfl (by (try simp only [List.map_toArray, List.map_cons, List.map_nil]); first | done | rfl) ?_
    refine (impl_typ_isVar.calls (t := .v n) _ (HX.out.below HB2.out)).mono ?_
    rintro _ w3 ⟨rfl, hb⟩
    refine ⟨_, rfl, ?_⟩
    have HB3 := aM (below_step HB2.out hb)
    refine hK.out _ _ ⟨(hb.cell (World.block_lt_of_cell? _ _ hHeld.1)).trans hHeld.1, (hb.cell (World.block_lt_of_cell? _ _ hHeld.2)).trans hHeld.2⟩ (fun hHeld => ?_)
    clear hb
    clear hK K
    refine norm_ (a' := ?_) ?_ ?_
    rotate_left
    · show Act.put _ (some 12) _ = _
      simp only [Act.put, List.setIfInBounds_toArray, List.set_cons_zero, List.set_cons_succ, i64_w, i32_w]
      rfl
    refine pure_ (i := 2) (N := some 13) (v := ?_) (a' := ?_) #[true, true, true, false, false, false, false, false, false, false, false, false, false, false, false, false, false, false] rfl rfl (any_of HT_.out (by kernel_rfl)) (fun _ _ _ h => h) (Or.inl ⟨by rfl, ?_⟩) ?_ ?_
    rotate_left
    · intro w'
      go_simp
      with_reducible rfl
    rotate_left
    · simp only [Act.put, List.setIfInBounds_toArray, List.set_cons_zero, List.set_cons_succ, i64_w, i32_w]
      rfl
    refine pure_ (i := 3) (N := some 14) (v := ?_) (a' := ?_) #[true, true, true, true, false, false, false, false, false, false, false, false, false, false, false, false, false, false] rfl rfl (any_of HT_.out (by kernel_rfl)) (fun _ _ _ h => h) (Or.inl ⟨by rfl, ?_⟩) ?_ ?_
    rotate_left
    · intro w'
      go_simp
      with_reducible rfl
    rotate_left
    · simp only [Act.put, List.setIfInBounds_toArray, List.set_cons_zero, List.set_cons_succ, i64_w, i32_w]
      rfl
    refine one_ (i := 4) (N := some 15) #[true, true, true, true, true, false, false, false, false, false, false, false, false, false, false, false, false, false] rfl rfl (one_of HT_.out (by kernel_rfl)) (by decide) (fun K hK => ?_)
    refine goes_ Tryd.func31 (by kernel_rfl) rfl #[.pointer (some ⟨g', 0, none⟩)] (by rfl) rfl rfl (by (try simp only [List.map_toArray, List.map_cons, List.map_nil]); first | done | rfl) ?_
    refine (impl_typ_isVar.calls (t := .v m) _ (HY.out.below HB3.out)).mono ?_
    rintro _ w4 ⟨rfl, hb⟩
    refine ⟨_, rfl, ?_⟩
    have HB4 := aM (below_step HB3.out hb)
    refine hK.out _ _ ⟨(hb.cell (World.block_lt_of_cell? _ _ hHeld.1)).trans hHeld.1, (hb.cell (World.block_lt_of_cell? _ _ hHeld.2)).trans hHeld.2⟩ (fun hHeld => ?_)
    clear hb
    clear hK K
    refine norm_ (a' := ?_) ?_ ?_
    rotate_left
    · show Act.put _ (some 15) _ = _
      simp only [Act.put, List.setIfInBounds_toArray, List.set_cons_zero, List.set_cons_succ, i64_w, i32_w]
      rfl
    refine pure_ (i := 5) (N := some 16) (v := ?_) (a' := ?_) #[true, true, true, true, true, true, false, false, false, false, false, false, false, false, false, false, false, false] rfl rfl (any_of HT_.out (by kernel_rfl)) (fun _ _ _ h => h) (Or.inl ⟨by rfl, ?_⟩) ?_ ?_
    rotate_left
    · intro w'
      go_simp
      with_reducible rfl
    rotate_left
    · simp only [Act.put, List.setIfInBounds_toArray, List.set_cons_zero, List.set_cons_succ, i64_w, i32_w]
      rfl
    refine pure_ (i := 6) (N := some 17) (v := ?_) (a' := ?_) #[true, true, true, true, true, true, true, false, false, false, false, false, false, false, false, false, false, false] rfl rfl (any_of HT_.out (by kernel_rfl)) (fun _ _ _ h => h) (Or.inl ⟨by rfl, ?_⟩) ?_ ?_
    rotate_left
    · intro w'
      go_simp
      with_reducible rfl
    rotate_left
    · simp only [Act.put, List.setIfInBounds_toArray, List.set_cons_zero, List.set_cons_succ, i64_w, i32_w]
      rfl
    refine pure_ (i := 7) (N := some 18) (v := ?_) (a' := ?_) #[true, true, true, true, true, true, true, true, false, false, false, false, false, false, false, false, false, false] rfl rfl (any_of HT_.out (by kernel_rfl)) (fun _ _ _ h => h) (Or.inl ⟨by rfl, ?_⟩) ?_ ?_
    rotate_left
    · intro w'
      go_simp
      with_reducible rfl
    rotate_left
    · simp only [Act.put, List.setIfInBounds_toArray, List.set_cons_zero, List.set_cons_succ, i64_w, i32_w]
      rfl
    refine pure_ (i := 8) (N := some 19) (v := ?_) (a' := ?_) #[true, true, true, true, true, true, true, true, true, false, false, false, false, false, false, false, false, false] rfl rfl (any_of HT_.out (by kernel_rfl)) (fun _ _ _ h => h) (Or.inl ⟨by rfl, ?_⟩) ?_ ?_
    rotate_left
    · intro w'
      go_simp
      with_reducible rfl
    rotate_left
    · simp only [Act.put, List.setIfInBounds_toArray, List.set_cons_zero, List.set_cons_succ, i64_w, i32_w]
      rfl
    refine pure_ (i := 9) (N := some 20) (v := ?_) (a' := ?_) #[true, true, true, true, true, true, true, true, true, true, false, false, false, false, false, false, false, false] rfl rfl (any_of HT_.out (by kernel_rfl)) (fun _ _ _ h => h) (Or.inl ⟨by rfl, ?_⟩) ?_ ?_
    rotate_left
    · intro w'
      go_simp
      with_reducible rfl
    rotate_left
    · simp only [Act.put, List.setIfInBounds_toArray, List.set_cons_zero, List.set_cons_succ, i64_w, i32_w]
      rfl
    refine pure_ (i := 11) (N := some 22) (v := ?_) (a' := ?_) #[true, true, true, true, true, true, true, true, true, true, false, true, false, false, false, false, false, false] rfl rfl (any_of HT_.out (by kernel_rfl)) (fun _ _ _ h => h) (Or.inl ⟨by rfl, ?_⟩) ?_ ?_
    rotate_left
    · intro w'
      go_simp
      with_reducible rfl
    rotate_left
    · simp only [Act.put, List.setIfInBounds_toArray, List.set_cons_zero, List.set_cons_succ, i64_w, i32_w]
      rfl
    refine pure_ (i := 12) (N := some 23) (v := ?_) (a' := ?_) #[true, true, true, true, true, true, true, true, true, true, false, true, true, false, false, false, false, false] rfl rfl (any_of HT_.out (by kernel_rfl)) (fun _ _ _ h => h) (Or.inl ⟨by rfl, ?_⟩) ?_ ?_
    rotate_left
    · intro w'
      go_simp
      with_reducible rfl
    rotate_left
    · simp only [Act.put, List.setIfInBounds_toArray, List.set_cons_zero, List.set_cons_succ, i64_w, i32_w]
      rfl
    refine pure_ (i := 13) (N := some 24) (v := ?_) (a' := ?_) #[true, true, true, true, true, true, true, true, true, true, false, true, true, true, false, false, false, false] rfl rfl (any_of HT_.out (by kernel_rfl)) (fun _ _ _ h => h) (Or.inl ⟨by rfl, ?_⟩) ?_ ?_
    rotate_left
    · intro w'
      go_simp
      with_reducible rfl
    rotate_left
    · simp only [Act.put, List.setIfInBounds_toArray, List.set_cons_zero, List.set_cons_succ, i64_w, i32_w]
      rfl
    refine take_ (i := 10) (N := some 21) (v := ?_) (a' := ?_) #[true, true, true, true, true, true, true, true, true, true, true, true, true, true, false, false, false, false] rfl rfl (take_ofW HT_.out HW_.out (by kernel_rfl)) (fun _ _ _ h => h) (Or.inl ⟨by rfl, ?_⟩) hHeld ?_ ?_
    rotate_left
    · rintro w' ⟨s0, s1⟩
      go_simp
      with_reducible rfl
    rotate_left
    · simp only [Act.put, List.setIfInBounds_toArray, List.set_cons_zero, List.set_cons_succ, i64_w, i32_w]
      rfl
    refine take_ (i := 14) (N := some 25) (v := ?_) (a' := ?_) #[true, true, true, true, true, true, true, true, true, true, true, true, true, true, true, false, false, false] rfl rfl (take_ofW HT_.out HW_.out (by kernel_rfl)) (fun _ _ _ h => h) (Or.inl ⟨by rfl, ?_⟩) hHeld ?_ ?_
    rotate_left
    · rintro w' ⟨s0, s1⟩
      go_simp
      with_reducible rfl
    rotate_left
    · simp only [Act.put, List.setIfInBounds_toArray, List.set_cons_zero, List.set_cons_succ, i64_w, i32_w]
      rfl
    refine pure_ (i := 15) (N := some 26) (v := ?_) (a' := ?_) #[true, true, true, true, true, true, true, true, true, true, true, true, true, true, true, true, false, false] rfl rfl (any_of HT_.out (by kernel_rfl)) (fun _ _ _ h => h) (Or.inl ⟨by rfl, ?_⟩) ?_ ?_
    rotate_left
    · intro w'
      go_simp
      with_reducible rfl
    rotate_left
    · simp only [Act.put, List.setIfInBounds_toArray, List.set_cons_zero, List.set_cons_succ, i64_w, i32_w]
      rfl
    refine pure_ (i := 16) (N := some 27) (v := ?_) (a' := ?_) #[true, true, true, true, true, true, true, true, true, true, true, true, true, true, true, true, true, false] rfl rfl (any_of HT_.out (by kernel_rfl)) (fun _ _ _ h => h) (Or.inl ⟨by rfl, ?_⟩) ?_ ?_
    rotate_left
    · intro w'
      go_simp
      with_reducible rfl
    rotate_left
    · simp only [Act.put, List.setIfInBounds_toArray, List.set_cons_zero, List.set_cons_succ, i64_w, i32_w]
      rfl
    refine pure_ (i := 17) (N := some 4) (v := ?_) (a' := ?_) #[true, true, true, true, true, true, true, true, true, true, true, true, true, true, true, true, true, true] rfl rfl (any_of HT_.out (by kernel_rfl)) (fun _ _ _ h => h) (Or.inl ⟨by rfl, ?_⟩) ?_ ?_
    rotate_left
    · intro w'
      go_simp
      with_reducible rfl
    rotate_left
    · simp only [Act.put, List.setIfInBounds_toArray, List.set_cons_zero, List.set_cons_succ, i64_w, i32_w]
      rfl
    refine done_ (done_of HT_.out (by kernel_rfl)) ?_
    go_wp2
    go_ret
    exact ⟨rfl, HB4.out⟩
  | .v n, .a l r, x, y, w, h, h' => by
    obtain ⟨g, rfl, h0, h1⟩ := h.varc
    obtain ⟨g', hg'⟩ := h'.ptr
    subst hg'
    have HX := aM h
    have HY := aM h'
    clear h h' h1
    go_enter Tryd.func42, Tryd.ntmps42
    go_upto_region 2 with (first
      | ((with_reducible refine gate_callee (f := 31) rfl ?_); refine goesL_ (some 6) rfl rfl Tryd.func31 (by kernel_rfl) rfl #[.pointer (some ⟨g, 0, none⟩)] rfl tA ?_; (with_reducible refine (impl_typ_isVar.calls (t := .v n) _ ?s1).mono ?_); (case s1 => exact HX.out); rintro _ w1 ⟨rfl, hb⟩; refine ⟨_, rfl, ?_⟩; have HB := aM (hb); have k0 := (hb.cell (World.block_lt_of_cell? _ _ h0)).trans h0; clear hb h0))
    refine start_ (n := 18) (S := fun w' => True) (ds := []) #[false, false, false, false, false, false, false, false, false, false, false, false, false, false, false, false, false, false] (by kernel_rfl) rfl rfl trivial (fun hHeld => ?_); refine with_tabW impl_typ_isSame.tab2 impl_typ_isSame.bits2 (fun HT_ HW_ => ?_)
    have HB2 := aM (below_drew1 HB.out)
    clear HB k0
    generalize w1.drew = w2 at HB2 hHeld ⊢
    refine pure_ (i := 0) (N := some 11) (v := ?_) (a' := ?_) #[true, false, false, false, false, false, false, false, false, false, false, false, false, false, false, false, false, false] rfl rfl (any_of HT_.out (by kernel_rfl)) (fun _ _ _ h => h) (Or.inl ⟨by rfl, ?_⟩) ?_ ?_
    rotate_left
    · intro w'
      go_simp
      with_reducible rfl
    rotate_left
    · simp only [Act.put, List.setIfInBounds_toArray, List.set_cons_zero, List.set_cons_succ, i64_w, i32_w]
      rfl
    refine one_ (i := 1) (N := some 12) #[true, true, false, false, false, false, false, false, false, false, false, false, false, false, false, false, false, false] rfl rfl (one_of HT_.out (by kernel_rfl)) (by decide) (fun K hK => ?_)
    refine goes_ Tryd.func31 (by kernel_rfl) rfl #[.pointer (some ⟨g, 0, none⟩)] (by rfl) rfl rfl (by (try simp only [List.map_toArray, List.map_cons, List.map_nil]); first | done | rfl) ?_
    refine (impl_typ_isVar.calls (t := .v n) _ (HX.out.below HB2.out)).mono ?_
    rintro _ w3 ⟨rfl, hb⟩
    refine ⟨_, rfl, ?_⟩
    have HB3 := aM (below_step HB2.out hb)
    refine hK.out _ _ trivial (fun hHeld => ?_)
    clear hb
    clear hK K
    refine norm_ (a' := ?_) ?_ ?_
    rotate_left
    · show Act.put _ (some 12) _ = _
      simp only [Act.put, List.setIfInBounds_toArray, List.set_cons_zero, List.set_cons_succ, i64_w, i32_w]
      rfl
    refine pure_ (i := 2) (N := some 13) (v := ?_) (a' := ?_) #[true, true, true, false, false, false, false, false, false, false, false, false, false, false, false, false, false, false] rfl rfl (any_of HT_.out (by kernel_rfl)) (fun _ _ _ h => h) (Or.inl ⟨by rfl, ?_⟩) ?_ ?_
    rotate_left
    · intro w'
      go_simp
      with_reducible rfl
    rotate_left
    · simp only [Act.put, List.setIfInBounds_toArray, List.set_cons_zero, List.set_cons_succ, i64_w, i32_w]
      rfl
    refine pure_ (i := 3) (N := some 14) (v := ?_) (a' := ?_) #[true, true, true, true, false, false, false, false, false, false, false, false, false, false, false, false, false, false] rfl rfl (any_of HT_.out (by kernel_rfl)) (fun _ _ _ h => h) (Or.inl ⟨by rfl, ?_⟩) ?_ ?_
    rotate_left
    · intro w'
      go_simp
      with_reducible rfl
    rotate_left
    · simp only [Act.put, List.setIfInBounds_toArray, List.set_cons_zero, List.set_cons_succ, i64_w, i32_w]
      rfl
    refine one_ (i := 4) (N := some 15) #[true, true, true, true, true, false, false, false, false, false, false, false, false, false, false, false, false, false] rfl rfl (one_of HT_.out (by kernel_rfl)) (by decide) (fun K hK => ?_)
    refine goes_ Tryd.func31 (by kernel_rfl) rfl #[.pointer (some ⟨g', 0, none⟩)] (by rfl) rfl rfl (by (try simp only [List.map_toArray, List.map_cons, List.map_nil]); first | done | rfl) ?_
    refine (impl_typ_isVar.calls (t := .a l r) _ (HY.out.below HB3.out)).mono ?_
    rintro _ w4 ⟨rfl, hb⟩
    refine ⟨_, rfl, ?_⟩
    have HB4 := aM (below_step HB3.out hb)
    refine hK.out _ _ trivial (fun hHeld => ?_)
    clear hb
    clear hK K
    refine norm_ (a' := ?_) ?_ ?_
    rotate_left
    · show Act.put _ (some 15) _ = _
      simp only [Act.put, List.setIfInBounds_toArray, List.set_cons_zero, List.set_cons_succ, i64_w, i32_w]
      rfl
    refine pure_ (i := 5) (N := some 16) (v := ?_) (a' := ?_) #[true, true, true, true, true, true, false, false, false, false, false, false, false, false, false, false, false, false] rfl rfl (any_of HT_.out (by kernel_rfl)) (fun _ _ _ h => h) (Or.inl ⟨by rfl, ?_⟩) ?_ ?_
    rotate_left
    · intro w'
      go_simp
      with_reducible rfl
    rotate_left
    · simp only [Act.put, List.setIfInBounds_toArray, List.set_cons_zero, List.set_cons_succ, i64_w, i32_w]
      rfl
    refine pure_ (i := 6) (N := some 17) (v := ?_) (a' := ?_) #[true, true, true, true, true, true, true, false, false, false, false, false, false, false, false, false, false, false] rfl rfl (any_of HT_.out (by kernel_rfl)) (fun _ _ _ h => h) (Or.inl ⟨by rfl, ?_⟩) ?_ ?_
    rotate_left
    · intro w'
      go_simp
      with_reducible rfl
    rotate_left
    · simp only [Act.put, List.setIfInBounds_toArray, List.set_cons_zero, List.set_cons_succ, i64_w, i32_w]
      rfl
    refine pure_ (i := 7) (N := some 18) (v := undef) (a' := ?_) #[true, true, true, true, true, true, true, true, false, false, false, false, false, false, false, false, false, false] rfl rfl (any_of HT_.out (by kernel_rfl)) (fun _ _ _ h => h) (Or.inr ⟨by rfl, rfl⟩) ?_ ?_
    rotate_left
    · simp only [Act.put, List.setIfInBounds_toArray, List.set_cons_zero, List.set_cons_succ, i64_w, i32_w]
      rfl
    refine pure_ (i := 8) (N := some 19) (v := undef) (a' := ?_) #[true, true, true, true, true, true, true, true, true, false, false, false, false, false, false, false, false, false] rfl rfl (any_of HT_.out (by kernel_rfl)) (fun _ _ _ h => h) (Or.inr ⟨by rfl, rfl⟩) ?_ ?_
    rotate_left
    · simp only [Act.put, List.setIfInBounds_toArray, List.set_cons_zero, List.set_cons_succ, i64_w, i32_w]
      rfl
    refine pure_ (i := 9) (N := some 20) (v := undef) (a' := ?_) #[true, true, true, true, true, true, true, true, true, true, false, false, false, false, false, false, false, false] rfl rfl (any_of HT_.out (by kernel_rfl)) (fun _ _ _ h => h) (Or.inr ⟨by rfl, rfl⟩) ?_ ?_
    rotate_left
    · simp only [Act.put, List.setIfInBounds_toArray, List.set_cons_zero, List.set_cons_succ, i64_w, i32_w]
      rfl
    refine pure_ (i := 10) (N := some 21) (v := undef) (a' := ?_) #[true, true, true, true, true, true, true, true, true, true, true, false, false, false, false, false, false, false] rfl rfl (any_of HT_.out (by kernel_rfl)) (fun _ _ _ h => h) (Or.inr ⟨by rfl, rfl⟩) ?_ ?_
    rotate_left
    · simp only [Act.put, List.setIfInBounds_toArray, List.set_cons_zero, List.set_cons_succ, i64_w, i32_w]
      rfl
    refine pure_ (i := 11) (N := some 22) (v := undef) (a' := ?_) #[true, true, true, true, true, true, true, true, true, true, true, true, false, false, false, false, false, false] rfl rfl (any_of HT_.out (by kernel_rfl)) (fun _ _ _ h => h) (Or.inr ⟨by rfl, rfl⟩) ?_ ?_
    rotate_left
    · simp only [Act.put, List.setIfInBounds_toArray, List.set_cons_zero, List.set_cons_succ, i64_w, i32_w]
      rfl
    refine pure_ (i := 12) (N := some 23) (v := undef) (a' := ?_) #[true, true, true, true, true, true, true, true, true, true, true, true, true, false, false, false, false, false] rfl rfl (any_of HT_.out (by kernel_rfl)) (fun _ _ _ h => h) (Or.inr ⟨by rfl, rfl⟩) ?_ ?_
    rotate_left
    · simp only [Act.put, List.setIfInBounds_toArray, List.set_cons_zero, List.set_cons_succ, i64_w, i32_w]
      rfl
    refine pure_ (i := 13) (N := some 24) (v := undef) (a' := ?_) #[true, true, true, true, true, true, true, true, true, true, true, true, true, true, false, false, false, false] rfl rfl (any_of HT_.out (by kernel_rfl)) (fun _ _ _ h => h) (Or.inr ⟨by rfl, rfl⟩) ?_ ?_
    rotate_left
    · simp only [Act.put, List.setIfInBounds_toArray, List.set_cons_zero, List.set_cons_succ, i64_w, i32_w]
      rfl
    refine pure_ (i := 14) (N := some 25) (v := undef) (a' := ?_) #[true, true, true, true, true, true, true, true, true, true, true, true, true, true, true, false, false, false] rfl rfl (any_of HT_.out (by kernel_rfl)) (fun _ _ _ h => h) (Or.inr ⟨by rfl, rfl⟩) ?_ ?_
    rotate_left
    · simp only [Act.put, List.setIfInBounds_toArray, List.set_cons_zero, List.set_cons_succ, i64_w, i32_w]
      rfl
    refine pure_ (i := 15) (N := some 26) (v := undef) (a' := ?_) #[true, true, true, true, true, true, true, true, true, true, true, true, true, true, true, true, false, false] rfl rfl (any_of HT_.out (by kernel_rfl)) (fun _ _ _ h => h) (Or.inr ⟨by rfl, rfl⟩) ?_ ?_
    rotate_left
    · simp only [Act.put, List.setIfInBounds_toArray, List.set_cons_zero, List.set_cons_succ, i64_w, i32_w]
      rfl
    refine pure_ (i := 16) (N := some 27) (v := ?_) (a' := ?_) #[true, true, true, true, true, true, true, true, true, true, true, true, true, true, true, true, true, false] rfl rfl (any_of HT_.out (by kernel_rfl)) (fun _ _ _ h => h) (Or.inl ⟨by rfl, ?_⟩) ?_ ?_
    rotate_left
    · intro w'
      go_simp
      with_reducible rfl
    rotate_left
    · simp only [Act.put, List.setIfInBounds_toArray, List.set_cons_zero, List.set_cons_succ, i64_w, i32_w]
      rfl
    refine pure_ (i := 17) (N := some 4) (v := ?_) (a' := ?_) #[true, true, true, true, true, true, true, true, true, true, true, true, true, true, true, true, true, true] rfl rfl (any_of HT_.out (by kernel_rfl)) (fun _ _ _ h => h) (Or.inl ⟨by rfl, ?_⟩) ?_ ?_
    rotate_left
    · intro w'
      go_simp
      with_reducible rfl
    rotate_left
    · simp only [Act.put, List.setIfInBounds_toArray, List.set_cons_zero, List.set_cons_succ, i64_w, i32_w]
      rfl
    refine done_ (done_of HT_.out (by kernel_rfl)) ?_
    go_wp2
    go_ret
    exact ⟨rfl, HB4.out⟩
  | .a l r, .v n, x, y, w, h, h' => by
    obtain ⟨g', rfl, h0', h1'⟩ := h'.varc
    obtain ⟨g, hg⟩ := h.ptr
    subst hg
    have HX := aM h
    have HY := aM h'
    clear h h' h1'
    go_enter Tryd.func42, Tryd.ntmps42
    go_upto_region 2 with (first
      | ((with_reducible refine gate_callee (f := 31) rfl ?_); refine goesL_ (some 6) rfl rfl Tryd.func31 (by kernel_rfl) rfl #[.pointer (some ⟨g, 0, none⟩)] rfl tA ?_; (with_reducible refine (impl_typ_isVar.calls (t := .a l r) _ ?s1).mono ?_); (case s1 => exact HX.out); rintro _ w1 ⟨rfl, hb⟩; refine ⟨_, rfl, ?_⟩; have HB := aM (hb); have k0 := (hb.cell (World.block_lt_of_cell? _ _ h0')).trans h0'; clear hb h0')
      | (go_at_call 31; (with_reducible refine (impl_typ_isVar.calls (t := .v n) _ ?s1).mono ?_); (case s1 => exact HY.out.below HB.out); rintro _ w1' ⟨rfl, hb⟩; have HB1 := aM (below_step HB.out hb); have k1 := (hb.cell (World.block_lt_of_cell? _ _ k0)).trans k0; clear hb k0))
    refine start_ (n := 18) (S := fun w' => True) (ds := []) #[false, false, false, false, false, false, false, false, false, false, false, false, false, false, false, false, false, false] (by kernel_rfl) rfl rfl trivial (fun hHeld => ?_); refine with_tabW impl_typ_isSame.tab2 impl_typ_isSame.bits2 (fun HT_ HW_ => ?_)
    have HB2 := aM (below_drew1 HB1.out)
    clear HB HB1 k1
    generalize w1'.drew = w2 at HB2 hHeld ⊢
    refine pure_ (i := 0) (N := some 11) (v := ?_) (a' := ?_) #[true, false, false, false, false, false, false, false, false, false, false, false, false, false, false, false, false, false] rfl rfl (any_of HT_.out (by kernel_rfl)) (fun _ _ _ h => h) (Or.inl ⟨by rfl, ?_⟩) ?_ ?_
    rotate_left
    · intro w'
      go_simp
      with_reducible rfl
    rotate_left
    · simp only [Act.put, List.setIfInBounds_toArray, List.set_cons_zero, List.set_cons_succ, i64_w, i32_w]
      rfl
    refine one_ (i := 1) (N := some 12) #[true, true, false, false, false, false, false, false, false, false, false, false, false, false, false, false, false, false] rfl rfl (one_of HT_.out (by kernel_rfl)) (by decide) (fun K hK => ?_)
    refine goes_ Tryd.func31 (by kernel_rfl) rfl #[.pointer (some ⟨g, 0, none⟩)] (by rfl) rfl rfl (by (try simp only [List.map_toArray, List.map_cons, List.map_nil]); first | done | rfl) ?_
    refine (impl_typ_isVar.calls (t := .a l r) _ (HX.out.below HB2.out)).mono ?_
    rintro _ w3 ⟨rfl, hb⟩
    refine ⟨_, rfl, ?_⟩
    have HB3 := aM (below_step HB2.out hb)
    refine hK.out _ _ trivial (fun hHeld => ?_)
    clear hb
    clear hK K
    refine norm_ (a' := ?_) ?_ ?_
    rotate_left
    · show Act.put _ (some 12) _ = _
      simp only [Act.put, List.setIfInBounds_toArray, List.set_cons_zero, List.set_cons_succ, i64_w, i32_w]
      rfl
    refine pure_ (i := 2) (N := some 13) (v := ?_) (a' := ?_) #[true, true, true, false, false, false, false, false, false, false, false, false, false, false, false, false, false, false] rfl rfl (any_of HT_.out (by kernel_rfl)) (fun _ _ _ h => h) (Or.inl ⟨by rfl, ?_⟩) ?_ ?_
    rotate_left
    · intro w'
      go_simp
      with_reducible rfl
    rotate_left
    · simp only [Act.put, List.setIfInBounds_toArray, List.set_cons_zero, List.set_cons_succ, i64_w, i32_w]
      rfl
    refine pure_ (i := 3) (N := some 14) (v := undef) (a' := ?_) #[true, true, true, true, false, false, false, false, false, false, false, false, false, false, false, false, false, false] rfl rfl (any_of HT_.out (by kernel_rfl)) (fun _ _ _ h => h) (Or.inr ⟨by rfl, rfl⟩) ?_ ?_
    rotate_left
    · simp only [Act.put, List.setIfInBounds_toArray, List.set_cons_zero, List.set_cons_succ, i64_w, i32_w]
      rfl
    refine pure_ (i := 4) (N := some 15) (v := undef) (a' := ?_) #[true, true, true, true, true, false, false, false, false, false, false, false, false, false, false, false, false, false] rfl rfl (any_of HT_.out (by kernel_rfl)) (fun _ _ _ h => h) (Or.inr ⟨by rfl, rfl⟩) ?_ ?_
    rotate_left
    · simp only [Act.put, List.setIfInBounds_toArray, List.set_cons_zero, List.set_cons_succ, i64_w, i32_w]
      rfl
    refine pure_ (i := 5) (N := some 16) (v := ?_) (a' := ?_) #[true, true, true, true, true, true, false, false, false, false, false, false, false, false, false, false, false, false] rfl rfl (any_of HT_.out (by kernel_rfl)) (fun _ _ _ h => h) (Or.inl ⟨by rfl, ?_⟩) ?_ ?_
    rotate_left
    · intro w'
      go_simp
      with_reducible rfl
    rotate_left
    · simp only [Act.put, List.setIfInBounds_toArray, List.set_cons_zero, List.set_cons_succ, i64_w, i32_w]
      rfl
    refine pure_ (i := 6) (N := some 17) (v := ?_) (a' := ?_) #[true, true, true, true, true, true, true, false, false, false, false, false, false, false, false, false, false, false] rfl rfl (any_of HT_.out (by kernel_rfl)) (fun _ _ _ h => h) (Or.inl ⟨by rfl, ?_⟩) ?_ ?_
    rotate_left
    · intro w'
      go_simp
      with_reducible rfl
    rotate_left
    · simp only [Act.put, List.setIfInBounds_toArray, List.set_cons_zero, List.set_cons_succ, i64_w, i32_w]
      rfl
    refine pure_ (i := 7) (N := some 18) (v := undef) (a' := ?_) #[true, true, true, true, true, true, true, true, false, false, false, false, false, false, false, false, false, false] rfl rfl (any_of HT_.out (by kernel_rfl)) (fun _ _ _ h => h) (Or.inr ⟨by rfl, rfl⟩) ?_ ?_
    rotate_left
    · simp only [Act.put, List.setIfInBounds_toArray, List.set_cons_zero, List.set_cons_succ, i64_w, i32_w]
      rfl
    refine pure_ (i := 8) (N := some 19) (v := undef) (a' := ?_) #[true, true, true, true, true, true, true, true, true, false, false, false, false, false, false, false, false, false] rfl rfl (any_of HT_.out (by kernel_rfl)) (fun _ _ _ h => h) (Or.inr ⟨by rfl, rfl⟩) ?_ ?_
    rotate_left
    · simp only [Act.put, List.setIfInBounds_toArray, List.set_cons_zero, List.set_cons_succ, i64_w, i32_w]
      rfl
    refine pure_ (i := 9) (N := some 20) (v := undef) (a' := ?_) #[true, true, true, true, true, true, true, true, true, true, false, false, false, false, false, false, false, false] rfl rfl (any_of HT_.out (by kernel_rfl)) (fun _ _ _ h => h) (Or.inr ⟨by rfl, rfl⟩) ?_ ?_
    rotate_left
    · simp only [Act.put, List.setIfInBounds_toArray, List.set_cons_zero, List.set_cons_succ, i64_w, i32_w]
      rfl
    refine pure_ (i := 10) (N := some 21) (v := undef) (a' := ?_) #[true, true, true, true, true, true, true, true, true, true, true, false, false, false, false, false, false, false] rfl rfl (any_of HT_.out (by kernel_rfl)) (fun _ _ _ h => h) (Or.inr ⟨by rfl, rfl⟩) ?_ ?_
    rotate_left
    · simp only [Act.put, List.setIfInBounds_toArray, List.set_cons_zero, List.set_cons_succ, i64_w, i32_w]
      rfl
    refine pure_ (i := 11) (N := some 22) (v := undef) (a' := ?_) #[true, true, true, true, true, true, true, true, true, true, true, true, false, false, false, false, false, false] rfl rfl (any_of HT_.out (by kernel_rfl)) (fun _ _ _ h => h) (Or.inr ⟨by rfl, rfl⟩) ?_ ?_
    rotate_left
    · simp only [Act.put, List.setIfInBounds_toArray, List.set_cons_zero, List.set_cons_succ, i64_w, i32_w]
      rfl
    refine pure_ (i := 12) (N := some 23) (v := undef) (a' := ?_) #[true, true, true, true, true, true, true, true, true, true, true, true, true, false, false, false, false, false] rfl rfl (any_of HT_.out (by kernel_rfl)) (fun _ _ _ h => h) (Or.inr ⟨by rfl, rfl⟩) ?_ ?_
    rotate_left
    · simp only [Act.put, List.setIfInBounds_toArray, List.set_cons_zero, List.set_cons_succ, i64_w, i32_w]
      rfl
    refine pure_ (i := 13) (N := some 24) (v := undef) (a' := ?_) #[true, true, true, true, true, true, true, true, true, true, true, true, true, true, false, false, false, false] rfl rfl (any_of HT_.out (by kernel_rfl)) (fun _ _ _ h => h) (Or.inr ⟨by rfl, rfl⟩) ?_ ?_
    rotate_left
    · simp only [Act.put, List.setIfInBounds_toArray, List.set_cons_zero, List.set_cons_succ, i64_w, i32_w]
      rfl
    refine pure_ (i := 14) (N := some 25) (v := undef) (a' := ?_) #[true, true, true, true, true, true, true, true, true, true, true, true, true, true, true, false, false, false] rfl rfl (any_of HT_.out (by kernel_rfl)) (fun _ _ _ h => h) (Or.inr ⟨by rfl, rfl⟩) ?_ ?_
    rotate_left
    · simp only [Act.put, List.setIfInBounds_toArray, List.set_cons_zero, List.set_cons_succ, i64_w, i32_w]
      rfl
    refine pure_ (i := 15) (N := some 26) (v := undef) (a' := ?_) #[true, true, true, true, true, true, true, true, true, true, true, true, true, true, true, true, false, false] rfl rfl (any_of HT_.out (by kernel_rfl)) (fun _ _ _ h => h) (Or.inr ⟨by rfl, rfl⟩) ?_ ?_
    rotate_left
    · simp only [Act.put, List.setIfInBounds_toArray, List.set_cons_zero, List.set_cons_succ, i64_w, i32_w]
      rfl
    refine pure_ (i := 16) (N := some 27) (v := ?_) (a' := ?_) #[true, true, true, true, true, true, true, true, true, true, true, true, true, true, true, true, true, false] rfl rfl (any_of HT_.out (by kernel_rfl)) (fun _ _ _ h => h) (Or.inl ⟨by rfl, ?_⟩) ?_ ?_
    rotate_left
    · intro w'
      go_simp
      with_reducible rfl
    rotate_left
    · simp only [Act.put, List.setIfInBounds_toArray, List.set_cons_zero, List.set_cons_succ, i64_w, i32_w]
      rfl
    refine pure_ (i := 17) (N := some 4) (v := ?_) (a' := ?_) #[true, true, true, true, true, true, true, true, true, true, true, true, true, true, true, true, true, true] rfl rfl (any_of HT_.out (by kernel_rfl)) (fun _ _ _ h => h) (Or.inl ⟨by rfl, ?_⟩) ?_ ?_
    rotate_left
    · intro w'
      go_simp
      with_reducible rfl
    rotate_left
    · simp only [Act.put, List.setIfInBounds_toArray, List.set_cons_zero, List.set_cons_succ, i64_w, i32_w]
      rfl
    refine done_ (done_of HT_.out (by kernel_rfl)) ?_
    go_wp2
    go_ret
    exact ⟨rfl, HB3.out⟩
  | .a l r, .a l' r', x, y, w, h, h' => by
    have HX := aM h
    have HY := aM h'
    obtain ⟨g, p, u1, u2, rfl, h1, h2, h3, hl, hr⟩ := h.arrc
    obtain ⟨g', p', u1', u2', rfl, h1', h2', h3', hl', hr'⟩ := h'.arrc
    have HL := aM hl
    have HR := aM hr
    have HL' := aM hl'
    have HR' := aM hr'
    obtain ⟨a1, rfl⟩ := hl.ptr
    obtain ⟨a2, rfl⟩ := hr.ptr
    obtain ⟨b1, rfl⟩ := hl'.ptr
    obtain ⟨b2, rfl⟩ := hr'.ptr
    clear h h' hl hr hl' hr'
    go_enter Tryd.func42, Tryd.ntmps42
    go_upto_region 3 with (first
      | ((with_reducible refine gate_callee (f := 31) rfl ?_); refine goesL_ (some 6) rfl rfl Tryd.func31 (by kernel_rfl) rfl #[.pointer (some ⟨g, 0, none⟩)] rfl tA ?_; (with_reducible refine (impl_typ_isVar.calls (t := .a l r) _ ?s1).mono ?_); (case s1 => exact HX.out); rintro _ w1 ⟨rfl, hb⟩; refine ⟨_, rfl, ?_⟩; have HB := aM (hb); have k1 := (hb.cell (World.block_lt_of_cell? _ _ h1)).trans h1; have k2 := (hb.cell (World.block_lt_of_cell? _ _ h2)).trans h2; have k3 := (hb.cell (World.block_lt_of_cell? _ _ h3)).trans h3; have k1' := (hb.cell (World.block_lt_of_cell? _ _ h1')).trans h1'; have k2' := (hb.cell (World.block_lt_of_cell? _ _ h2')).trans h2'; have k3' := (hb.cell (World.block_lt_of_cell? _ _ h3')).trans h3'; clear hb h1 h2 h3 h1' h2' h3')
      | (go_at_call 31; (with_reducible refine (impl_typ_isVar.calls (t := .a l' r') _ ?s1).mono ?_); (case s1 => exact HY.out.below HB.out); rintro _ w1' ⟨rfl, hb⟩; have HB1 := aM (below_step HB.out hb); have j1 := (hb.cell (World.block_lt_of_cell? _ _ k1)).trans k1; have j2 := (hb.cell (World.block_lt_of_cell? _ _ k2)).trans k2; have j3 := (hb.cell (World.block_lt_of_cell? _ _ k3)).trans k3; have j1' := (hb.cell (World.block_lt_of_cell? _ _ k1')).trans k1'; have j2' := (hb.cell (World.block_lt_of_cell? _ _ k2')).trans k2'; have j3' := (hb.cell (World.block_lt_of_cell? _ _ k3')).trans k3'; clear hb k1 k2 k3 k1' k2' k3'))
    refine start_ (n := 29) (S := fun w' => w'.cell? ⟨g, 1, none⟩ = some (.slice (some ⟨p, 0, none⟩) 2 2) ∧ w'.cell? ⟨p, 0, none⟩ = some (.pointer (some ⟨a1, 0, none⟩)) ∧ w'.cell? ⟨p, 1, none⟩ = some (.pointer (some ⟨a2, 0, none⟩)) ∧ w'.cell? ⟨g', 1, none⟩ = some (.slice (some ⟨p', 0, none⟩) 2 2) ∧ w'.cell? ⟨p', 0, none⟩ = some (.pointer (some ⟨b1, 0, none⟩)) ∧ w'.cell? ⟨p', 1, none⟩ = some (.pointer (some ⟨b2, 0, none⟩))) (ds := []) #[false, false, false, false, false, false, false, false, false, false, false, false, false, false, false, false, false, false, false, false, false, false, false, false, false, false, false, false, false] (by kernel_rfl) rfl rfl ⟨j1, j2, j3, j1', j2', j3'⟩ (fun hHeld => ?_); refine with_tabW impl_typ_isSame.tab3 impl_typ_isSame.bits3 (fun HT_ HW_ => ?_)
    have HB2 := aM (below_drew1 HB1.out)
    clear HB HB1 j1 j2 j3 j1' j2' j3'
    generalize w1'.drew = w2 at HB2 hHeld ⊢
    refine pure_ (i := 0) (N := some 28) (v := ?_) (a' := ?_) #[true, false, false, false, false, false, false, false, false, false, false, false, false, false, false, false, false, false, false, false, false, false, false, false, false, false, false, false, false] rfl rfl (any_of HT_.out (by kernel_rfl)) (fun _ _ _ h => h) (Or.inl ⟨by rfl, ?_⟩) ?_ ?_
    rotate_left
    · intro w'
      go_simp
      with_reducible rfl
    rotate_left
    · simp only [Act.put, List.setIfInBounds_toArray, List.set_cons_zero, List.set_cons_succ, i64_w, i32_w]
      rfl
    refine pure_ (i := 1) (N := some 29) (v := ?_) (a' := ?_) #[true, true, false, false, false, false, false, false, false, false, false, false, false, false, false, false, false, false, false, false, false, false, false, false, false, false, false, false, false] rfl rfl (any_of HT_.out (by kernel_rfl)) (fun _ _ _ h => h) (Or.inl ⟨by rfl, ?_⟩) ?_ ?_
    rotate_left
    · intro w'
      go_simp
      with_reducible rfl
    rotate_left
    · simp only [Act.put, List.setIfInBounds_toArray, List.set_cons_zero, List.set_cons_succ, i64_w, i32_w]
      rfl
    refine pure_ (i := 2) (N := some 30) (v := ?_) (a' := ?_) #[true, true, true, false, false, false, false, false, false, false, false, false, false, false, false, false, false, false, false, false, false, false, false, false, false, false, false, false, false] rfl rfl (any_of HT_.out (by kernel_rfl)) (fun _ _ _ h => h) (Or.inl ⟨by rfl, ?_⟩) ?_ ?_
    rotate_left
    · intro w'
      go_simp
      with_reducible rfl
    rotate_left
    · simp only [Act.put, List.setIfInBounds_toArray, List.set_cons_zero, List.set_cons_succ, i64_w, i32_w]
      rfl
    refine pure_ (i := 6) (N := some 34) (v := ?_) (a' := ?_) #[true, true, true, false, false, false, true, false, false, false, false, false, false, false, false, false, false, false, false, false, false, false, false, false, false, false, false, false, false] rfl rfl (any_of HT_.out (by kernel_rfl)) (fun _ _ _ h => h) (Or.inl ⟨by rfl, ?_⟩) ?_ ?_
    rotate_left
    · intro w'
      go_simp
      with_reducible rfl
    rotate_left
    · simp only [Act.put, List.setIfInBounds_toArray, List.set_cons_zero, List.set_cons_succ, i64_w, i32_w]
      rfl
    refine pure_ (i := 7) (N := some 35) (v := ?_) (a' := ?_) #[true, true, true, false, false, false, true, true, false, false, false, false, false, false, false, false, false, false, false, false, false, false, false, false, false, false, false, false, false] rfl rfl (any_of HT_.out (by kernel_rfl)) (fun _ _ _ h => h) (Or.inl ⟨by rfl, ?_⟩) ?_ ?_
    rotate_left
    · intro w'
      go_simp
      with_reducible rfl
    rotate_left
    · simp only [Act.put, List.setIfInBounds_toArray, List.set_cons_zero, List.set_cons_succ, i64_w, i32_w]
      rfl
    refine pure_ (i := 8) (N := some 36) (v := ?_) (a' := ?_) #[true, true, true, false, false, false, true, true, true, false, false, false, false, false, false, false, false, false, false, false, false, false, false, false, false, false, false, false, false] rfl rfl (any_of HT_.out (by kernel_rfl)) (fun _ _ _ h => h) (Or.inl ⟨by rfl, ?_⟩) ?_ ?_
    rotate_left
    · intro w'
      go_simp
      with_reducible rfl
    rotate_left
    · simp only [Act.put, List.setIfInBounds_toArray, List.set_cons_zero, List.set_cons_succ, i64_w, i32_w]
      rfl
    refine take_ (i := 3) (N := some 31) (v := ?_) (a' := ?_) #[true, true, true, true, false, false, true, true, true, false, false, false, false, false, false, false, false, false, false, false, false, false, false, false, false, false, false, false, false] rfl rfl (take_ofW HT_.out HW_.out (by kernel_rfl)) (fun _ _ _ h => h) (Or.inl ⟨by rfl, ?_⟩) hHeld ?_ ?_
    rotate_left
    · rintro w' ⟨s0, s1, s2, s3, s4, s5⟩
      go_simp
      with_reducible rfl
    rotate_left
    · simp only [Act.put, List.setIfInBounds_toArray, List.set_cons_zero, List.set_cons_succ, i64_w, i32_w]
      rfl
    refine take_ (i := 9) (N := some 37) (v := ?_) (a' := ?_) #[true, true, true, true, false, false, true, true, true, true, false, false, false, false, false, false, false, false, false, false, false, false, false, false, false, false, false, false, false] rfl rfl (take_ofW HT_.out HW_.out (by kernel_rfl)) (fun _ _ _ h => h) (Or.inl ⟨by rfl, ?_⟩) hHeld ?_ ?_
    rotate_left
    · rintro w' ⟨s0, s1, s2, s3, s4, s5⟩
      go_simp
      with_reducible rfl
    rotate_left
    · simp only [Act.put, List.setIfInBounds_toArray, List.set_cons_zero, List.set_cons_succ, i64_w, i32_w]
      rfl
    refine pure_ (i := 4) (N := some 32) (v := ?_) (a' := ?_) #[true, true, true, true, true, false, true, true, true, true, false, false, false, false, false, false, false, false, false, false, false, false, false, false, false, false, false, false, false] rfl rfl (any_of HT_.out (by kernel_rfl)) (fun _ _ _ h => h) (Or.inl ⟨by rfl, ?_⟩) ?_ ?_
    rotate_left
    · intro w'
      go_simp
      with_reducible rfl
    rotate_left
    · simp only [Act.put, List.setIfInBounds_toArray, List.set_cons_zero, List.set_cons_succ, i64_w, i32_w]
      rfl
    refine pure_ (i := 10) (N := some 38) (v := ?_) (a' := ?_) #[true, true, true, true, true, false, true, true, true, true, true, false, false, false, false, false, false, false, false, false, false, false, false, false, false, false, false, false, false] rfl rfl (any_of HT_.out (by kernel_rfl)) (fun _ _ _ h => h) (Or.inl ⟨by rfl, ?_⟩) ?_ ?_
    rotate_left
    · intro w'
      go_simp
      with_reducible rfl
    rotate_left
    · simp only [Act.put, List.setIfInBounds_toArray, List.set_cons_zero, List.set_cons_succ, i64_w, i32_w]
      rfl
    refine take_ (i := 5) (N := some 33) (v := ?_) (a' := ?_) #[true, true, true, true, true, true, true, true, true, true, true, false, false, false, false, false, false, false, false, false, false, false, false, false, false, false, false, false, false] rfl rfl (take_ofW HT_.out HW_.out (by kernel_rfl)) (fun _ _ _ h => h) (Or.inl ⟨by rfl, ?_⟩) hHeld ?_ ?_
    rotate_left
    · rintro w' ⟨s0, s1, s2, s3, s4, s5⟩
      go_simp
      with_reducible rfl
    rotate_left
    · simp only [Act.put, List.setIfInBounds_toArray, List.set_cons_zero, List.set_cons_succ, i64_w, i32_w]
      rfl
    refine take_ (i := 11) (N := some 39) (v := ?_) (a' := ?_) #[true, true, true, true, true, true, true, true, true, true, true, true, false, false, false, false, false, false, false, false, false, false, false, false, false, false, false, false, false] rfl rfl (take_ofW HT_.out HW_.out (by kernel_rfl)) (fun _ _ _ h => h) (Or.inl ⟨by rfl, ?_⟩) hHeld ?_ ?_
    rotate_left
    · rintro w' ⟨s0, s1, s2, s3, s4, s5⟩
      go_simp
      with_reducible rfl
    rotate_left
    · simp only [Act.put, List.setIfInBounds_toArray, List.set_cons_zero, List.set_cons_succ, i64_w, i32_w]
      rfl
    cases hq : l.same l' with
    | true =>
      have HQ := aM hq
      clear hq
      refine one_ (i := 12) (N := some 40) #[true, true, true, true, true, true, true, true, true, true, true, true, true, false, false, false, false, false, false, false, false, false, false, false, false, false, false, false, false] rfl rfl (one_of HT_.out (by kernel_rfl)) (by decide) (fun K hK => ?_)
      refine goes_ Tryd.func42 (by kernel_rfl) rfl #[.pointer (some ⟨a1, 0, none⟩), .pointer (some ⟨b1, 0, none⟩)] (by rfl) rfl rfl (by (try simp only [List.map_toArray, List.map_cons, List.map_nil]); first | done | rfl) ?_
      refine (impl_typ_isSame.calls l l' _ _ _ (HL.out.below HB2.out) (HL'.out.below HB2.out)).mono ?_
      rintro _ w3 ⟨rfl, hb⟩
      rw [HQ.out]
      refine ⟨_, rfl, ?_⟩
      have HB3 := aM (below_step HB2.out hb)
      refine hK.out _ _ ⟨(hb.cell (World.block_lt_of_cell? _ _ hHeld.1)).trans hHeld.1, (hb.cell (World.block_lt_of_cell? _ _ hHeld.2.1)).trans hHeld.2.1, (hb.cell (World.block_lt_of_cell? _ _ hHeld.2.2.1)).trans hHeld.2.2.1, (hb.cell (World.block_lt_of_cell? _ _ hHeld.2.2.2.1)).trans hHeld.2.2.2.1, (hb.cell (World.block_lt_of_cell? _ _ hHeld.2.2.2.2.1)).trans hHeld.2.2.2.2.1, (hb.cell (World.block_lt_of_cell? _ _ hHeld.2.2.2.2.2)).trans hHeld.2.2.2.2.2⟩ (fun hHeld => ?_)
      clear hb
      clear hK K
      refine norm_ (a' := ?_) ?_ ?_
      rotate_left
      · show Act.put _ (some 40) _ = _
        simp only [Act.put, List.setIfInBounds_toArray, List.set_cons_zero, List.set_cons_succ, i64_w, i32_w]
        rfl
      refine pure_ (i := 13) (N := some 41) (v := ?_) (a' := ?_) #[true, true, true, true, true, true, true, true, true, true, true, true, true, true, false, false, false, false, false, false, false, false, false, false, false, false, false, false, false] rfl rfl (any_of HT_.out (by kernel_rfl)) (fun _ _ _ h => h) (Or.inl ⟨by rfl, ?_⟩) ?_ ?_
      rotate_left
      · intro w'
        go_simp
        with_reducible rfl
      rotate_left
      · simp only [Act.put, List.setIfInBounds_toArray, List.set_cons_zero, List.set_cons_succ, i64_w, i32_w]
        rfl
      refine pure_ (i := 14) (N := some 42) (v := ?_) (a' := ?_) #[true, true, true, true, true, true, true, true, true, true, true, true, true, true, true, false, false, false, false, false, false, false, false, false, false, false, false, false, false] rfl rfl (any_of HT_.out (by kernel_rfl)) (fun _ _ _ h => h) (Or.inl ⟨by rfl, ?_⟩) ?_ ?_
      rotate_left
      · intro w'
        go_simp
        with_reducible rfl
      rotate_left
      · simp only [Act.put, List.setIfInBounds_toArray, List.set_cons_zero, List.set_cons_succ, i64_w, i32_w]
        rfl
      refine pure_ (i := 15) (N := some 43) (v := ?_) (a' := ?_) #[true, true, true, true, true, true, true, true, true, true, true, true, true, true, true, true, false, false, false, false, false, false, false, false, false, false, false, false, false] rfl rfl (any_of HT_.out (by kernel_rfl)) (fun _ _ _ h => h) (Or.inl ⟨by rfl, ?_⟩) ?_ ?_
      rotate_left
      · intro w'
        go_simp
        with_reducible rfl
      rotate_left
      · simp only [Act.put, List.setIfInBounds_toArray, List.set_cons_zero, List.set_cons_succ, i64_w, i32_w]
        rfl
      refine pure_ (i := 16) (N := some 44) (v := ?_) (a' := ?_) #[true, true, true, true, true, true, true, true, true, true, true, true, true, true, true, true, true, false, false, false, false, false, false, false, false, false, false, false, false] rfl rfl (any_of HT_.out (by kernel_rfl)) (fun _ _ _ h => h) (Or.inl ⟨by rfl, ?_⟩) ?_ ?_
      rotate_left
      · intro w'
        go_simp
        with_reducible rfl
      rotate_left
      · simp only [Act.put, List.setIfInBounds_toArray, List.set_cons_zero, List.set_cons_succ, i64_w, i32_w]
        rfl
      refine pure_ (i := 20) (N := some 48) (v := ?_) (a' := ?_) #[true, true, true, true, true, true, true, true, true, true, true, true, true, true, true, true, true, false, false, false, true, false, false, false, false, false, false, false, false] rfl rfl (any_of HT_.out (by kernel_rfl)) (fun _ _ _ h => h) (Or.inl ⟨by rfl, ?_⟩) ?_ ?_
      rotate_left
      · intro w'
        go_simp
        with_reducible rfl
      rotate_left
      · simp only [Act.put, List.setIfInBounds_toArray, List.set_cons_zero, List.set_cons_succ, i64_w, i32_w]
        rfl
      refine pure_ (i := 21) (N := some 49) (v := ?_) (a' := ?_) #[true, true, true, true, true, true, true, true, true, true, true, true, true, true, true, true, true, false, false, false, true, true, false, false, false, false, false, false, false] rfl rfl (any_of HT_.out (by kernel_rfl)) (fun _ _ _ h => h) (Or.inl ⟨by rfl, ?_⟩) ?_ ?_
      rotate_left
      · intro w'
        go_simp
        with_reducible rfl
      rotate_left
      · simp only [Act.put, List.setIfInBounds_toArray, List.set_cons_zero, List.set_cons_succ, i64_w, i32_w]
        rfl
      refine pure_ (i := 22) (N := some 50) (v := ?_) (a' := ?_) #[true, true, true, true, true, true, true, true, true, true, true, true, true, true, true, true, true, false, false, false, true, true, true, false, false, false, false, false, false] rfl rfl (any_of HT_.out (by kernel_rfl)) (fun _ _ _ h => h) (Or.inl ⟨by rfl, ?_⟩) ?_ ?_
      rotate_left
      · intro w'
        go_simp
        with_reducible rfl
      rotate_left
      · simp only [Act.put, List.setIfInBounds_toArray, List.set_cons_zero, List.set_cons_succ, i64_w, i32_w]
        rfl
      refine take_ (i := 17) (N := some 45) (v := ?_) (a' := ?_) #[true, true, true, true, true, true, true, true, true, true, true, true, true, true, true, true, true, true, false, false, true, true, true, false, false, false, false, false, false] rfl rfl (take_ofW HT_.out HW_.out (by kernel_rfl)) (fun _ _ _ h => h) (Or.inl ⟨by rfl, ?_⟩) hHeld ?_ ?_
      rotate_left
      · rintro w' ⟨s0, s1, s2, s3, s4, s5⟩
        go_simp
        with_reducible rfl
      rotate_left
      · simp only [Act.put, List.setIfInBounds_toArray, List.set_cons_zero, List.set_cons_succ, i64_w, i32_w]
        rfl
      refine take_ (i := 23) (N := some 51) (v := ?_) (a' := ?_) #[true, true, true, true, true, true, true, true, true, true, true, true, true, true, true, true, true, true, false, false, true, true, true, true, false, false, false, false, false] rfl rfl (take_ofW HT_.out HW_.out (by kernel_rfl)) (fun _ _ _ h => h) (Or.inl ⟨by rfl, ?_⟩) hHeld ?_ ?_
      rotate_left
      · rintro w' ⟨s0, s1, s2, s3, s4, s5⟩
        go_simp
        with_reducible rfl
      rotate_left
      · simp only [Act.put, List.setIfInBounds_toArray, List.set_cons_zero, List.set_cons_succ, i64_w, i32_w]
        rfl
      refine pure_ (i := 18) (N := some 46) (v := ?_) (a' := ?_) #[true, true, true, true, true, true, true, true, true, true, true, true, true, true, true, true, true, true, true, false, true, true, true, true, false, false, false, false, false] rfl rfl (any_of HT_.out (by kernel_rfl)) (fun _ _ _ h => h) (Or.inl ⟨by rfl, ?_⟩) ?_ ?_
      rotate_left
      · intro w'
        go_simp
        with_reducible rfl
      rotate_left
      · simp only [Act.put, List.setIfInBounds_toArray, List.set_cons_zero, List.set_cons_succ, i64_w, i32_w]
        rfl
      refine pure_ (i := 24) (N := some 52) (v := ?_) (a' := ?_) #[true, true, true, true, true, true, true, true, true, true, true, true, true, true, true, true, true, true, true, false, true, true, true, true, true, false, false, false, false] rfl rfl (any_of HT_.out (by kernel_rfl)) (fun _ _ _ h => h) (Or.inl ⟨by rfl, ?_⟩) ?_ ?_
      rotate_left
      · intro w'
        go_simp
        with_reducible rfl
      rotate_left
      · simp only [Act.put, List.setIfInBounds_toArray, List.set_cons_zero, List.set_cons_succ, i64_w, i32_w]
        rfl
      refine take_ (i := 19) (N := some 47) (v := ?_) (a' := ?_) #[true, true, true, true, true, true, true, true, true, true, true, true, true, true, true, true, true, true, true, true, true, true, true, true, true, false, false, false, false] rfl rfl (take_ofW HT_.out HW_.out (by kernel_rfl)) (fun _ _ _ h => h) (Or.inl ⟨by rfl, ?_⟩) hHeld ?_ ?_
      rotate_left
      · rintro w' ⟨s0, s1, s2, s3, s4, s5⟩
        go_simp
        with_reducible rfl
      rotate_left
      · simp only [Act.put, List.setIfInBounds_toArray, List.set_cons_zero, List.set_cons_succ, i64_w, i32_w]
        rfl
      refine take_ (i := 25) (N := some 53) (v := ?_) (a' := ?_) #[true, true, true, true, true, true, true, true, true, true, true, true, true, true, true, true, true, true, true, true, true, true, true, true, true, true, false, false, false] rfl rfl (take_ofW HT_.out HW_.out (by kernel_rfl)) (fun _ _ _ h => h) (Or.inl ⟨by rfl, ?_⟩) hHeld ?_ ?_
      rotate_left
      · rintro w' ⟨s0, s1, s2, s3, s4, s5⟩
        go_simp
        with_reducible rfl
      rotate_left
      · simp only [Act.put, List.setIfInBounds_toArray, List.set_cons_zero, List.set_cons_succ, i64_w, i32_w]
        rfl
      refine one_ (i := 26) (N := some 54) #[true, true, true, true, true, true, true, true, true, true, true, true, true, true, true, true, true, true, true, true, true, true, true, true, true, true, true, false, false] rfl rfl (one_of HT_.out (by kernel_rfl)) (by decide) (fun K hK => ?_)
      refine goes_ Tryd.func42 (by kernel_rfl) rfl #[.pointer (some ⟨a2, 0, none⟩), .pointer (some ⟨b2, 0, none⟩)] (by rfl) rfl rfl (by (try simp only [List.map_toArray, List.map_cons, List.map_nil]); first | done | rfl) ?_
      refine (impl_typ_isSame.calls r r' _ _ _ (HR.out.below HB3.out) (HR'.out.below HB3.out)).mono ?_
      rintro _ w4 ⟨rfl, hb⟩
      refine ⟨_, rfl, ?_⟩
      have HB4 := aM (below_step HB3.out hb)
      refine hK.out _ _ ⟨(hb.cell (World.block_lt_of_cell? _ _ hHeld.1)).trans hHeld.1, (hb.cell (World.block_lt_of_cell? _ _ hHeld.2.1)).trans hHeld.2.1, (hb.cell (World.block_lt_of_cell? _ _ hHeld.2.2.1)).trans hHeld.2.2.1, (hb.cell (World.block_lt_of_cell? _ _ hHeld.2.2.2.1)).trans hHeld.2.2.2.1, (hb.cell (World.block_lt_of_cell? _ _ hHeld.2.2.2.2.1)).trans hHeld.2.2.2.2.1, (hb.cell (World.block_lt_of_cell? _ _ hHeld.2.2.2.2.2)).trans hHeld.2.2.2.2.2⟩ (fun hHeld => ?_)
      clear hb
      clear hK K
      refine norm_ (a' := ?_) ?_ ?_
      rotate_left
      · show Act.put _ (some 54) _ = _
        simp only [Act.put, List.setIfInBounds_toArray, List.set_cons_zero, List.set_cons_succ, i64_w, i32_w]
        rfl
      refine pure_ (i := 27) (N := some 55) (v := ?_) (a' := ?_) #[true, true, true, true, true, true, true, true, true, true, true, true, true, true, true, true, true, true, true, true, true, true, true, true, true, true, true, true, false] rfl rfl (any_of HT_.out (by kernel_rfl)) (fun _ _ _ h => h) (Or.inl ⟨by rfl, ?_⟩) ?_ ?_
      rotate_left
      · intro w'
        go_simp
        with_reducible rfl
      rotate_left
      · simp only [Act.put, List.setIfInBounds_toArray, List.set_cons_zero, List.set_cons_succ, i64_w, i32_w]
        rfl
      refine pure_ (i := 28) (N := some 4) (v := ?_) (a' := ?_) #[true, true, true, true, true, true, true, true, true, true, true, true, true, true, true, true, true, true, true, true, true, true, true, true, true, true, true, true, true] rfl rfl (any_of HT_.out (by kernel_rfl)) (fun _ _ _ h => h) (Or.inl ⟨by rfl, ?_⟩) ?_ ?_
      rotate_left
      · intro w'
        go_simp
        with_reducible rfl
      rotate_left
      · simp only [Act.put, List.setIfInBounds_toArray, List.set_cons_zero, List.set_cons_succ, i64_w, i32_w]
        rfl
      refine done_ (done_of HT_.out (by kernel_rfl)) ?_
      go_wp2
      go_ret
      exact ⟨by show _ = Ending.returned (.bool (l.same l' && r.same r')); rw [HQ.out]; rfl, HB4.out⟩
    | false =>
      have HQ := aM hq
      clear hq
      refine one_ (i := 12) (N := some 40) #[true, true, true, true, true, true, true, true, true, true, true, true, true, false, false, false, false, false, false, false, false, false, false, false, false, false, false, false, false] rfl rfl (one_of HT_.out (by kernel_rfl)) (by decide) (fun K hK => ?_)
      refine goes_ Tryd.func42 (by kernel_rfl) rfl #[.pointer (some ⟨a1, 0, none⟩), .pointer (some ⟨b1, 0, none⟩)] (by rfl) rfl rfl (by (try simp only [List.map_toArray, List.map_cons, List.map_nil]); first | done | rfl) ?_
      refine (impl_typ_isSame.calls l l' _ _ _ (HL.out.below HB2.out) (HL'.out.below HB2.out)).mono ?_
      rintro _ w3 ⟨rfl, hb⟩
      rw [HQ.out]
      refine ⟨_, rfl, ?_⟩
      have HB3 := aM (below_step HB2.out hb)
      refine hK.out _ _ ⟨(hb.cell (World.block_lt_of_cell? _ _ hHeld.1)).trans hHeld.1, (hb.cell (World.block_lt_of_cell? _ _ hHeld.2.1)).trans hHeld.2.1, (hb.cell (World.block_lt_of_cell? _ _ hHeld.2.2.1)).trans hHeld.2.2.1, (hb.cell (World.block_lt_of_cell? _ _ hHeld.2.2.2.1)).trans hHeld.2.2.2.1, (hb.cell (World.block_lt_of_cell? _ _ hHeld.2.2.2.2.1)).trans hHeld.2.2.2.2.1, (hb.cell (World.block_lt_of_cell? _ _ hHeld.2.2.2.2.2)).trans hHeld.2.2.2.2.2⟩ (fun hHeld => ?_)
      clear hb
      clear hK K
      refine norm_ (a' := ?_) ?_ ?_
      rotate_left
      · show Act.put _ (some 40) _ = _
        simp only [Act.put, List.setIfInBounds_toArray, List.set_cons_zero, List.set_cons_succ, i64_w, i32_w]
        rfl
      refine pure_ (i := 13) (N := some 41) (v := ?_) (a' := ?_) #[true, true, true, true, true, true, true, true, true, true, true, true, true, true, false, false, false, false, false, false, false, false, false, false, false, false, false, false, false] rfl rfl (any_of HT_.out (by kernel_rfl)) (fun _ _ _ h => h) (Or.inl ⟨by rfl, ?_⟩) ?_ ?_
      rotate_left
      · intro w'
        go_simp
        with_reducible rfl
      rotate_left
      · simp only [Act.put, List.setIfInBounds_toArray, List.set_cons_zero, List.set_cons_succ, i64_w, i32_w]
        rfl
      refine pure_ (i := 14) (N := some 42) (v := undef) (a' := ?_) #[true, true, true, true, true, true, true, true, true, true, true, true, true, true, true, false, false, false, false, false, false, false, false, false, false, false, false, false, false] rfl rfl (any_of HT_.out (by kernel_rfl)) (fun _ _ _ h => h) (Or.inr ⟨by rfl, rfl⟩) ?_ ?_
      rotate_left
      · simp only [Act.put, List.setIfInBounds_toArray, List.set_cons_zero, List.set_cons_succ, i64_w, i32_w]
        rfl
      refine pure_ (i := 15) (N := some 43) (v := undef) (a' := ?_) #[true, true, true, true, true, true, true, true, true, true, true, true, true, true, true, true, false, false, false, false, false, false, false, false, false, false, false, false, false] rfl rfl (any_of HT_.out (by kernel_rfl)) (fun _ _ _ h => h) (Or.inr ⟨by rfl, rfl⟩) ?_ ?_
      rotate_left
      · simp only [Act.put, List.setIfInBounds_toArray, List.set_cons_zero, List.set_cons_succ, i64_w, i32_w]
        rfl
      refine pure_ (i := 16) (N := some 44) (v := undef) (a' := ?_) #[true, true, true, true, true, true, true, true, true, true, true, true, true, true, true, true, true, false, false, false, false, false, false, false, false, false, false, false, false] rfl rfl (any_of HT_.out (by kernel_rfl)) (fun _ _ _ h => h) (Or.inr ⟨by rfl, rfl⟩) ?_ ?_
      rotate_left
      · simp only [Act.put, List.setIfInBounds_toArray, List.set_cons_zero, List.set_cons_succ, i64_w, i32_w]
        rfl
      refine pure_ (i := 17) (N := some 45) (v := undef) (a' := ?_) #[true, true, true, true, true, true, true, true, true, true, true, true, true, true, true, true, true, true, false, false, false, false, false, false, false, false, false, false, false] rfl rfl (any_of HT_.out (by kernel_rfl)) (fun _ _ _ h => h) (Or.inr ⟨by rfl, rfl⟩) ?_ ?_
      rotate_left
      · simp only [Act.put, List.setIfInBounds_toArray, List.set_cons_zero, List.set_cons_succ, i64_w, i32_w]
        rfl
      refine pure_ (i := 18) (N := some 46) (v := undef) (a' := ?_) #[true, true, true, true, true, true, true, true, true, true, true, true, true, true, true, true, true, true, true, false, false, false, false, false, false, false, false, false, false] rfl rfl (any_of HT_.out (by kernel_rfl)) (fun _ _ _ h => h) (Or.inr ⟨by rfl, rfl⟩) ?_ ?_
      rotate_left
      · simp only [Act.put, List.setIfInBounds_toArray, List.set_cons_zero, List.set_cons_succ, i64_w, i32_w]
        rfl
      refine pure_ (i := 19) (N := some 47) (v := undef) (a' := ?_) #[true, true, true, true, true, true, true, true, true, true, true, true, true, true, true, true, true, true, true, true, false, false, false, false, false, false, false, false, false] rfl rfl (any_of HT_.out (by kernel_rfl)) (fun _ _ _ h => h) (Or.inr ⟨by rfl, rfl⟩) ?_ ?_
      rotate_left
      · simp only [Act.put, List.setIfInBounds_toArray, List.set_cons_zero, List.set_cons_succ, i64_w, i32_w]
        rfl
      refine pure_ (i := 20) (N := some 48) (v := undef) (a' := ?_) #[true, true, true, true, true, true, true, true, true, true, true, true, true, true, true, true, true, true, true, true, true, false, false, false, false, false, false, false, false] rfl rfl (any_of HT_.out (by kernel_rfl)) (fun _ _ _ h => h) (Or.inr ⟨by rfl, rfl⟩) ?_ ?_
      rotate_left
      · simp only [Act.put, List.setIfInBounds_toArray, List.set_cons_zero, List.set_cons_succ, i64_w, i32_w]
        rfl
      refine pure_ (i := 21) (N := some 49) (v := undef) (a' := ?_) #[true, true, true, true, true, true, true, true, true, true, true, true, true, true, true, true, true, true, true, true, true, true, false, false, false, false, false, false, false] rfl rfl (any_of HT_.out (by kernel_rfl)) (fun _ _ _ h => h) (Or.inr ⟨by rfl, rfl⟩) ?_ ?_
      rotate_left
      · simp only [Act.put, List.setIfInBounds_toArray, List.set_cons_zero, List.set_cons_succ, i64_w, i32_w]
        rfl
      refine pure_ (i := 22) (N := some 50) (v := undef) (a' := ?_) #[true, true, true, true, true, true, true, true, true, true, true, true, true, true, true, true, true, true, true, true, true, true, true, false, false, false, false, false, false] rfl rfl (any_of HT_.out (by kernel_rfl)) (fun _ _ _ h => h) (Or.inr ⟨by rfl, rfl⟩) ?_ ?_
      rotate_left
      · simp only [Act.put, List.setIfInBounds_toArray, List.set_cons_zero, List.set_cons_succ, i64_w, i32_w]
        rfl
      refine pure_ (i := 23) (N := some 51) (v := undef) (a' := ?_) #[true, true, true, true, true, true, true, true, true, true, true, true, true, true, true, true, true, true, true, true, true, true, true, true, false, false, false, false, false] rfl rfl (any_of HT_.out (by kernel_rfl)) (fun _ _ _ h => h) (Or.inr ⟨by rfl, rfl⟩) ?_ ?_
      rotate_left
      · simp only [Act.put, List.setIfInBounds_toArray, List.set_cons_zero, List.set_cons_succ, i64_w, i32_w]
        rfl
      refine pure_ (i := 24) (N := some 52) (v := undef) (a' := ?_) #[true, true, true, true, true, true, true, true, true, true, true, true, true, true, true, true, true, true, true, true, true, true, true, true, true, false, false, false, false] rfl rfl (any_of HT_.out (by kernel_rfl)) (fun _ _ _ h => h) (Or.inr ⟨by rfl, rfl⟩) ?_ ?_
      rotate_left
      · simp only [Act.put, List.setIfInBounds_toArray, List.set_cons_zero, List.set_cons_succ, i64_w, i32_w]
        rfl
      refine pure_ (i := 25) (N := some 53) (v := undef) (a' := ?_) #[true, true, true, true, true, true, true, true, true, true, true, true, true, true, true, true, true, true, true, true, true, true, true, true, true, true, false, false, false] rfl rfl (any_of HT_.out (by kernel_rfl)) (fun _ _ _ h => h) (Or.inr ⟨by rfl, rfl⟩) ?_ ?_
      rotate_left
      · simp only [Act.put, List.setIfInBounds_toArray, List.set_cons_zero, List.set_cons_succ, i64_w, i32_w]
        rfl
      refine pure_ (i := 26) (N := some 54) (v := undef) (a' := ?_) #[true, true, true, true, true, true, true, true, true, true, true, true, true, true, true, true, true, true, true, true, true, true, true, true, true, true, true, false, false] rfl rfl (any_of HT_.out (by kernel_rfl)) (fun _ _ _ h => h) (Or.inr ⟨by rfl, rfl⟩) ?_ ?_
      rotate_left
      · simp only [Act.put, List.setIfInBounds_toArray, List.set_cons_zero, List.set_cons_succ, i64_w, i32_w]
        rfl
      refine pure_ (i := 27) (N := some 55) (v := ?_) (a' := ?_) #[true, true, true, true, true, true, true, true, true, true, true, true, true, true, true, true, true, true, true, true, true, true, true, true, true, true, true, true, false] rfl rfl (any_of HT_.out (by kernel_rfl)) (fun _ _ _ h => h) (Or.inl ⟨by rfl, ?_⟩) ?_ ?_
      rotate_left
      · intro w'
        go_simp
        with_reducible rfl
      rotate_left
      · simp only [Act.put, List.setIfInBounds_toArray, List.set_cons_zero, List.set_cons_succ, i64_w, i32_w]
        rfl
      refine pure_ (i := 28) (N := some 4) (v := ?_) (a' := ?_) #[true, true, true, true, true, true, true, true, true, true, true, true, true, true, true, true, true, true, true, true, true, true, true, true, true, true, true, true, true] rfl rfl (any_of HT_.out (by kernel_rfl)) (fun _ _ _ h => h) (Or.inl ⟨by rfl, ?_⟩) ?_ ?_
      rotate_left
      · intro w'
        go_simp
        with_reducible rfl
      rotate_left
      · simp only [Act.put, List.setIfInBounds_toArray, List.set_cons_zero, List.set_cons_succ, i64_w, i32_w]
        rfl
      refine done_ (done_of HT_.out (by kernel_rfl)) ?_
      go_wp2
      go_ret
      exact ⟨by show _ = Ending.returned (.bool (l.same l' && r.same r')); rw [HQ.out]; rfl, HB3.out⟩
end Go.Proofs.YtlkjikknofmcdaaDoor.G

namespace Go.Proofs.YtlkjikknofmcdaaDoor.EvL
open Go.RowKit Go.Proofs.YtlkjikknofmcdaaDoorW.PrintWords
set_option linter.unusedVariables false

theorem w64 {x : Int} (h1 : -9223372036854775808 ≤ x) (h2 : x ≤ 9223372036854775807) : wrap64 x = x := by unfold wrap64; omega
theorem Ev.const {α : Type} {a : Option α} {r : α} (h : a = some r) : Ev (fun _ => a) r := ⟨0, fun _ _ => h⟩
theorem Ev.of_eq {α : Type} {g : Nat → Option α} {r r' : α} (h : Ev g r) (e : r = r') : Ev g r' := e ▸ h
theorem Ev.ite_pos {α : Type} {c : Prop} [Decidable c] {g f : Nat → Option α} {r : α} (hc : c) (h : Ev g r) : Ev (fun k => if c then g k else f k) r := Ev.congr (fun k => if_pos hc) h
theorem Ev.ite_neg {α : Type} {c : Prop} [Decidable c] {g f : Nat → Option α} {r : α} (hc : ¬ c) (h : Ev f r) : Ev (fun k => if c then g k else f k) r := Ev.congr (fun k => if_neg hc) h
theorem Ev.succ {α : Type} {g : Nat → Option α} {r : α} (h : Ev (fun k => g (k + 1)) r) : Ev g r := Ev.step (fun k => rfl) h
end Go.Proofs.YtlkjikknofmcdaaDoor.EvL

namespace Go.Proofs.YtlkjikknofmcdaaDoor.G
open Go.RowKit Go.Proofs.YtlkjikknofmcdaaDoorW.PrintWords Go.Proofs.YtlkjikknofmcdaaDoorW.PrintLast Go.Proofs.YtlkjikknofmcdaaDoorW.PrintMore Go.Proofs.YtlkjikknofmcdaaDoor.EvL Go.Proofs.YtlkjikknofmcdaaDoor.Short
attribute [local go_sem] max2_int min2_int max_two min_two max_three min_three max_four min_four   -- for this text's walks alone
set_option linter.unusedVariables false
set_option linter.unusedSimpArgs false

def Ty.nodes : Ty → Nat
  | .v _ => 1
  | .a l r => 1 + l.nodes + r.nodes
def mstep (f : Int → Int × Int) (most : Int) (s : Int × Int) : Int × Int := (s.1 + (f (most - s.1)).1, max s.2 (f (most - s.1)).2)
def Ty.meas : Ty → Int → Int × Int
  | .v _, _ => (1, 1)
  | .a l r, most =>
    if 1 > most then (1, 1) else
    if (mstep l.meas most (1, 0)).1 > most then ((mstep l.meas most (1, 0)).1, (mstep l.meas most (1, 0)).2 + 1) else
    ((mstep r.meas most (mstep l.meas most (1, 0))).1, (mstep r.meas most (mstep l.meas most (1, 0))).2 + 1)
theorem Ty.meas_le : ∀ (t : Ty) (m : Int), (1 ≤ (t.meas m).1 ∧ (t.meas m).1 ≤ (t.nodes : Int)) ∧ 1 ≤ (t.meas m).2 ∧ (t.meas m).2 ≤ (t.nodes : Int)
  | .v _, m => by show (1 ≤ (1 : Int) ∧ (1 : Int) ≤ ((1 : Nat) : Int)) ∧ 1 ≤ (1 : Int) ∧ (1 : Int) ≤ ((1 : Nat) : Int); omega
  | .a l r, m => by
    have hl := Ty.meas_le l (m - 1)
    have hr := Ty.meas_le r (m - (mstep l.meas m (1, 0)).1)
    have hn : ((Ty.a l r).nodes : Int) = 1 + l.nodes + r.nodes := by show ((1 + l.nodes + r.nodes : Nat) : Int) = _; omega
    rw [hn]
    unfold Ty.meas
    split
    · exact ⟨⟨by show (1 : Int) ≤ 1; omega, by show (1 : Int) ≤ _; omega⟩, by show (1 : Int) ≤ 1; omega, by show (1 : Int) ≤ _; omega⟩
    split
    · unfold mstep
      dsimp only
      omega
    · unfold mstep at hr ⊢
      dsimp only at hr ⊢
      omega
def mAt (l r : Ty) (most : Int) (j : Nat) (q1 q2 : Int) : Prop :=
  (j = 0 ∧ q1 = 1 ∧ q2 = 0) ∨ (j = 1 ∧ mstep l.meas most (1, 0) = (q1, q2) ∧ ¬ 1 > most) ∨ (j = 2 ∧ mstep r.meas most (mstep l.meas most (1, 0)) = (q1, q2) ∧ ¬ 1 > most ∧ ¬ (mstep l.meas most (1, 0)).1 > most)
theorem mAt.bound {l r : Ty} {most : Int} {j : Nat} {q1 q2 : Int} (h : mAt l r most j q1 q2) : (1 ≤ q1 ∧ q1 ≤ 1 + l.nodes + r.nodes) ∧ 0 ≤ q2 ∧ q2 ≤ 1 + l.nodes + r.nodes := by
  have hl := Ty.meas_le l (most - 1)
  rcases h with ⟨_, rfl, rfl⟩ | ⟨_, e, _⟩ | ⟨_, e, _, _⟩
  · omega
  · have e1 := congrArg Prod.fst e
    have e2 := congrArg Prod.snd e
    unfold mstep at e1 e2
    dsimp only at e1 e2
    omega
  · have hr := Ty.meas_le r (most - (mstep l.meas most (1, 0)).1)
    have e1 := congrArg Prod.fst e
    have e2 := congrArg Prod.snd e
    unfold mstep at e1 e2 hr
    dsimp only at e1 e2 hr
    omega
theorem mAt.one {l r : Ty} {most : Int} {q1 q2 : Int} (h : mAt l r most 0 q1 q2) (c : ¬ q1 > most) {o d : Int} (ho : l.meas (most - q1) = (o, d)) : mAt l r most 1 (q1 + o) (max q2 d) := by
  rcases h with ⟨_, rfl, rfl⟩ | ⟨h, _⟩ | ⟨h, _⟩
  · exact .inr (.inl ⟨rfl, by unfold mstep; dsimp only; rw [ho], c⟩)
  · omega
  · omega
theorem mAt.two {l r : Ty} {most : Int} {q1 q2 : Int} (h : mAt l r most 1 q1 q2) (c : ¬ q1 > most) {o d : Int} (ho : r.meas (most - q1) = (o, d)) : mAt l r most 2 (q1 + o) (max q2 d) := by
  rcases h with ⟨h, _⟩ | ⟨_, e, c0⟩ | ⟨h, _⟩
  · omega
  · exact .inr (.inr ⟨rfl, by rw [e]; unfold mstep; dsimp only; rw [ho], c0, by rw [e]; exact c⟩)
  · omega
theorem mAt.stop0 {l r : Ty} {most : Int} {q1 q2 : Int} (h : mAt l r most 0 q1 q2) (c : q1 > most) : (Ty.a l r).meas most = (q1, q2 + 1) := by
  rcases h with ⟨_, rfl, rfl⟩ | ⟨h, _⟩ | ⟨h, _⟩
  · exact if_pos c
  · omega
  · omega
theorem mAt.stop1 {l r : Ty} {most : Int} {q1 q2 : Int} (h : mAt l r most 1 q1 q2) (c : q1 > most) : (Ty.a l r).meas most = (q1, q2 + 1) := by
  rcases h with ⟨h, _⟩ | ⟨_, e, c0⟩ | ⟨h, _⟩
  · omega
  · have : (Ty.a l r).meas most = if (mstep l.meas most (1, 0)).1 > most then ((mstep l.meas most (1, 0)).1, (mstep l.meas most (1, 0)).2 + 1) else ((mstep r.meas most (mstep l.meas most (1, 0))).1, (mstep r.meas most (mstep l.meas most (1, 0))).2 + 1) := if_neg c0
    rw [this, e, if_pos c]
  · omega
theorem mAt.stop2 {l r : Ty} {most : Int} {q1 q2 : Int} (h : mAt l r most 2 q1 q2) : (Ty.a l r).meas most = (q1, q2 + 1) := by
  rcases h with ⟨h, _⟩ | ⟨h, _⟩ | ⟨_, e, c0, c1⟩
  · omega
  · omega
  · have : (Ty.a l r).meas most = if (mstep l.meas most (1, 0)).1 > most then ((mstep l.meas most (1, 0)).1, (mstep l.meas most (1, 0)).2 + 1) else ((mstep r.meas most (mstep l.meas most (1, 0))).1, (mstep r.meas most (mstep l.meas most (1, 0))).2 + 1) := if_neg c0
    rw [this, if_neg c1, e]
set_option maxHeartbeats 8000000 in
set_option maxRecDepth 100000 in
theorem impl_typ_measure.calls : ∀ (t : Ty) (x : Value) (most : Int) (w : World) (h : IsT w t x) (hn : t.nodes ≤ 4611686018427387904) (hm : -4611686018427387904 ≤ most ∧ most ≤ 4611686018427387904), Calls Tryd.prog 33 #[x, .int .i64 most] w fun e w' => e = .returned (.tuple #[.int .i64 (t.meas most).1, .int .i64 (t.meas most).2]) ∧ Below w.heap.size w w'
  | .v n, x, most, w, h, hn, hm => by
    obtain ⟨g, rfl, h0, h1⟩ := h.varc
    clear h
    go_enter Tryd.func33, Tryd.ntmps33
    go_wp2
    go_loopg [6, 7, 17] 0 (fun gk v6 v7 v17 w' => v6 = .int .i64 1 ∧ v7 = .int .i64 0 ∧ v17 = .int .i64 0 ∧ Aside0 (Below w.heap.size w w'))
    case atStart => exact ⟨rfl, rfl, rfl, ⟨Below.refl _ _⟩⟩
    case round =>
      obtain ⟨rfl, rfl, rfl, HB⟩ := hrel
      go_wp2
      go_ret2
      exact ⟨rfl, HB.out⟩
  | .a l r, x, most, w, h, hn, hm => by
    have hN : 1 + l.nodes + r.nodes ≤ 4611686018427387904 := hn
    obtain ⟨g, p, u1, u2, rfl, h1, h2, h3, hl, hr⟩ := h.arrc
    have HL := aM hl
    have HR := aM hr
    obtain ⟨g1, rfl⟩ := hl.ptr
    obtain ⟨g2, rfl⟩ := hr.ptr
    have HN : Aside0 (l.nodes ≤ 4611686018427387904 ∧ r.nodes ≤ 4611686018427387904) := ⟨by omega⟩
    have HM := aM hm
    have HQ := aM hN
    clear h hn hm hN hl hr
    go_enter Tryd.func33, Tryd.ntmps33
    go_wp2
    go_loopg [6, 7, 17] 2 (fun gk v6 v7 v17 w' => ∃ (j : Nat) (q1 q2 : Int), v6 = .int .i64 q1 ∧ v7 = .int .i64 q2 ∧ v17 = .int .i64 (j : Int) ∧ Aside0 (gk + j = 2) ∧ Aside0 (mAt l r most j q1 q2) ∧ Aside0 (Below w.heap.size w w'))
    case atStart => exact ⟨0, 1, 0, rfl, rfl, rfl, ⟨rfl⟩, ⟨.inl ⟨rfl, rfl, rfl⟩⟩, ⟨Below.refl _ _⟩⟩
    case round =>
      obtain ⟨j, q1, q2, rfl, rfl, rfl, HJ, HA, HB⟩ := hrel
      have k1 := (HB.out.cell (World.block_lt_of_cell? _ _ h1)).trans h1
      have k2 := (HB.out.cell (World.block_lt_of_cell? _ _ h2)).trans h2
      have k3 := (HB.out.cell (World.block_lt_of_cell? _ _ h3)).trans h3
      have HD := aM HA.out.bound
      have HV : Aside0 (wrap64 (q2 + 1) = q2 + 1) := ⟨w64 (by have := HD.out; have := HQ.out; omega) (by have := HD.out; have := HQ.out; omega)⟩
      have hj : j = 0 ∨ j = 1 ∨ j = 2 := by have := HJ.out; omega
      rcases hj with rfl | rfl | rfl
      · by_cases c : q1 > most
        · have cw : decide (most < q1) = true := decide_eq_true c
          have e := HA.out.stop0 c
          have HE := aM e
          clear e c
          go_wp2
          (try go_ret2)
          exact ⟨by show Ending.returned (.tuple #[.int .i64 q1, .int .i64 (wrap64 (q2 + 1))]) = _; rw [HV.out, HE.out], HB.out⟩
        · have cw : decide (most < q1) = false := decide_eq_false c
          obtain ⟨o, d, ho⟩ : ∃ o d, l.meas (most - q1) = (o, d) := ⟨_, _, rfl⟩
          have C0 := aM c
          have W1 := aM ho
          have HW : Aside0 (wrap64 (most - q1) = most - q1) := ⟨w64 (by have := HM.out; have := HD.out; have := HQ.out; omega) (by have := HM.out; have := HD.out; have := HQ.out; omega)⟩
          have hm1 := l.meas_le (most - q1)
          rw [ho] at hm1
          have HS : Aside0 (wrap64 (q1 + o) = q1 + o) := ⟨w64 (by have := HD.out; have := HQ.out; dsimp only at hm1; omega) (by have := HD.out; have := HQ.out; dsimp only at hm1; omega)⟩
          clear hm1 ho c
          go_wp2_with (first
            | ((with_reducible refine gate_callee (f := 33) rfl ?_); refine goesL_ (some 29) rfl rfl Tryd.func33 (by kernel_rfl) rfl #[.pointer (some ⟨g1, 0, none⟩), .int .i64 (wrap64 (most - q1))] rfl tA ?_; (with_reducible refine (impl_typ_measure.calls l _ (wrap64 (most - q1)) _ ?s1 ?s2 ?s3).mono ?_); (case s1 => exact HL.out.below HB.out); (case s2 => exact HN.out.1); (case s3 => rw [HW.out]; have := HM.out; have := HQ.out; have := HD.out; have := C0.out; omega); rintro _ w2 ⟨rfl, hb⟩; rw [HW.out, W1.out]; refine ⟨_, rfl, ?_⟩; have HB2 := aM (below_step HB.out hb); clear hb))
          all_goals
            go_roundg 1
            case measure => have := HJ.out; omega
            case rel =>
              refine ⟨1, q1 + o, max q2 d, ?_, ?_, rfl, ⟨rfl⟩, ⟨HA.out.one (Int.not_lt.mpr C0.out) W1.out⟩, HB2⟩
              · rw [HS.out]
              · exact congrArg (Value.int .i64) (by omega)
      · by_cases c : q1 > most
        · have cw : decide (most < q1) = true := decide_eq_true c
          have e := HA.out.stop1 c
          have HE := aM e
          clear e c
          go_wp2
          (try go_ret2)
          exact ⟨by show Ending.returned (.tuple #[.int .i64 q1, .int .i64 (wrap64 (q2 + 1))]) = _; rw [HV.out, HE.out], HB.out⟩
        · have cw : decide (most < q1) = false := decide_eq_false c
          obtain ⟨o, d, ho⟩ : ∃ o d, r.meas (most - q1) = (o, d) := ⟨_, _, rfl⟩
          have C0 := aM c
          have W1 := aM ho
          have HW : Aside0 (wrap64 (most - q1) = most - q1) := ⟨w64 (by have := HM.out; have := HD.out; have := HQ.out; omega) (by have := HM.out; have := HD.out; have := HQ.out; omega)⟩
          have hm1 := r.meas_le (most - q1)
          rw [ho] at hm1
          have HS : Aside0 (wrap64 (q1 + o) = q1 + o) := ⟨w64 (by have := HD.out; have := HQ.out; dsimp only at hm1; omega) (by have := HD.out; have := HQ.out; dsimp only at hm1; omega)⟩
          clear hm1 ho c
          go_wp2_with (first
            | ((with_reducible refine gate_callee (f := 33) rfl ?_); refine goesL_ (some 29) rfl rfl Tryd.func33 (by kernel_rfl) rfl #[.pointer (some ⟨g2, 0, none⟩), .int .i64 (wrap64 (most - q1))] rfl tA ?_; (with_reducible refine (impl_typ_measure.calls r _ (wrap64 (most - q1)) _ ?s1 ?s2 ?s3).mono ?_); (case s1 => exact HR.out.below HB.out); (case s2 => exact HN.out.2); (case s3 => rw [HW.out]; have := HM.out; have := HQ.out; have := HD.out; have := C0.out; omega); rintro _ w2 ⟨rfl, hb⟩; rw [HW.out, W1.out]; refine ⟨_, rfl, ?_⟩; have HB2 := aM (below_step HB.out hb); clear hb))
          all_goals
            go_roundg 0
            case measure => have := HJ.out; omega
            case rel =>
              refine ⟨2, q1 + o, max q2 d, ?_, ?_, rfl, ⟨rfl⟩, ⟨HA.out.two (Int.not_lt.mpr C0.out) W1.out⟩, HB2⟩
              · rw [HS.out]
              · exact congrArg (Value.int .i64) (by omega)
      · have HE := aM HA.out.stop2
        have c2 : decide ((2 : Int) < 2) = false := by decide
        go_wp2
        (try go_ret2)
        exact ⟨by show Ending.returned (.tuple #[.int .i64 q1, .int .i64 (wrap64 (q2 + 1))]) = _; rw [HV.out, HE.out], HB.out⟩
end Go.Proofs.YtlkjikknofmcdaaDoor.G

namespace Go.Proofs.YtlkjikknofmcdaaDoor.G
open Go.RowKit Go.Proofs.YtlkjikknofmcdaaDoorW.PrintWords Go.Proofs.YtlkjikknofmcdaaDoorW.PrintLast Go.Proofs.YtlkjikknofmcdaaDoorW.PrintMore Go.Proofs.YtlkjikknofmcdaaDoor.Short
set_option linter.unusedVariables false
set_option linter.unusedSimpArgs false

def fitV (M : Int → Option Ty) (n : Int) (s : Ty) : Bool × (Int → Option Ty) := match M n with
  | some o => (o.same s, M)
  | none => (true, updM M n s)
theorem fitV_none {M : Int → Option Ty} {n : Int} {s : Ty} (h : M n = none) : fitV M n s = (true, updM M n s) := by unfold fitV; rw [h]
theorem fitV_some {M : Int → Option Ty} {n : Int} {s o : Ty} (h : M n = some o) : fitV M n s = (o.same s, M) := by unfold fitV; rw [h]
def Ty.fits : Ty → Ty → (Int → Option Ty) → Bool × (Int → Option Ty)
  | .v n, s, M => fitV M n s
  | .a _ _, .v _, M => (false, M)
  | .a l r, .a l' r', M => if (l.fits l' M).1 = true then r.fits r' (l.fits l' M).2 else (false, (l.fits l' M).2)
def ArrAt (W : World) (g p : Nat) (u1 u2 : Value) : Prop := W.heap[g]? = some (.cells #[.int .i64 0, .slice (some ⟨p, 0, none⟩) 2 2] 75 (0, 0)) ∧ W.heap[p]? = some (.cells #[u1, u2] 42 (0, 0))
theorem ArrAt.c1 {W : World} {g p : Nat} {u1 u2 : Value} (h : ArrAt W g p u1 u2) : W.cell? ⟨g, 1, none⟩ = some (.slice (some ⟨p, 0, none⟩) 2 2) := (blk_cell h.1 1).trans rfl
theorem ArrAt.c2 {W : World} {g p : Nat} {u1 u2 : Value} (h : ArrAt W g p u1 u2) : W.cell? ⟨p, 0, none⟩ = some u1 := (blk_cell h.2 0).trans rfl
theorem ArrAt.c3 {W : World} {g p : Nat} {u1 u2 : Value} (h : ArrAt W g p u1 u2) : W.cell? ⟨p, 1, none⟩ = some u2 := (blk_cell h.2 1).trans rfl
theorem ArrAt.stay {W W1 : World} {g p : Nat} {u1 u2 : Value} (h : ArrAt W g p u1 u2) (s : Stay W W1) : ArrAt W1 g p u1 u2 := ⟨s _ _ _ h.1, s _ _ _ h.2⟩
theorem IsT.arrb {W : World} {l r : Ty} {x : Value} (h : IsT W (.a l r) x) : ∃ g p u1 u2, x = .pointer (some ⟨g, 0, none⟩) ∧ ArrAt W g p u1 u2 ∧ IsT W l u1 ∧ IsT W r u2 := by
  obtain ⟨g, p, u1, u2, e, hb, hp, hl, hr⟩ := h
  exact ⟨g, p, u1, u2, e, ⟨hb, hp⟩, hl, hr⟩
def Left (w w' : World) (b k : Nat) (M : Int → Option Ty) (m : Nat) : Prop := (∃ k', k' ≤ k + m ∧ IsM w' b k' M) ∧ w.grownBy w' (some b)
def impl_typ_fits.T7 : Bool × List (List Nat × List Nat) := (true, [([], []), ([0], [0]), ([1], [1]), ([2, 1], [2]), ([3], [3]), ([4, 3], [3, 4]), ([5, 3], [3, 5]), ([6, 3], [3, 6]), ([7, 3], [3, 7]), ([8, 3], [3, 8]), ([3], [3]), ([10, 3], [3, 10]), ([11, 3], [3, 11]), ([12, 3], [3, 12]), ([13, 3], [3, 13]), ([14, 3], [3, 14]), ([3], [3]), ([9, 15, 16, 3, 3], [3, 9, 15, 16]), ([3, 17], [3, 17]), ([18, 17], [18]), ([19], [19]), ([20, 19], [19, 20]), ([21, 19], [19, 21]), ([22, 19], [19, 22]), ([23, 19], [19, 23]), ([24, 19], [19, 24]), ([19], [19]), ([26, 19], [19, 26]), ([27, 19], [19, 27]), ([28, 19], [19, 28]), ([29, 19], [19, 29]), ([30, 19], [19, 30]), ([19], [19]), ([25, 31, 32, 19, 19], [19, 25, 31, 32]), ([19, 33], [19, 33]), ([34, 33, 0, 1, 2, 3, 4, 5, 6, 7, 8, 9, 10, 11, 12, 13, 14, 15, 16, 17, 18, 19, 20, 21, 22, 23, 24, 25, 26, 27, 28, 29, 30, 31, 32, 33, 34], [34])])
def impl_typ_fits.B7 : List Nat := [0, 1, 3, 7, 15, 31, 63, 127, 255, 511, 15, 1039, 3087, 7183, 15375, 31759, 15, 131071, 262143, 524287, 1048575, 2097151, 4194303, 8388607, 16777215, 33554431, 1048575, 68157439, 202375167, 470810623, 1007681535, 2081423359, 1048575, 8589934591, 17179869183, 34359738367]
theorem impl_typ_fits.tab7 : rtab .any (opsOf Tryd.f22 7) = impl_typ_fits.T7 := by kernel_rfl
theorem impl_typ_fits.bits7 : waitsOk impl_typ_fits.T7.2 impl_typ_fits.B7 = true := by kernel_rfl
set_option maxHeartbeats 8000000 in
set_option maxRecDepth 100000 in
theorem impl_typ_fits.calls : ∀ (t u : Ty) (x y : Value) (b k : Nat) (M : Int → Option Ty) (w : World) (h : IsT w t x) (h' : IsT w u y) (ho : t.ok) (hM : IsM w b k M) (hk : k + t.nodes ≤ 1099511627776), Calls Tryd.prog 22 #[x, y, .map (some b)] w fun e w' => e = .returned (.bool (t.fits u M).1) ∧ Left w w' b k (t.fits u M).2 t.nodes
  | .v n, u, x, y, b, k, M, w, h, h', ho, hM, hk => by
    have ho' : 0 ≤ n ∧ n ≤ 9223372036854775807 := ho
    have hk' : k + 1 ≤ 1099511627776 := hk
    have HO : Aside0 (i64ok n) := ⟨⟨by omega, by omega⟩⟩
    have HK := aM hk'
    obtain ⟨g, rfl, h0, h1⟩ := h.varc
    have HX := aM h
    have HY := aM h'
    have HM := aM hM
    obtain ⟨g', rfl⟩ := h'.ptr
    clear h h' h1 ho ho' hM hk hk'
    have hR : (Ty.v n).fits u M = fitV M n u := rfl
    have hN1 : (Ty.v n).nodes = 1 := rfl
    rw [hR, hN1]
    clear hR hN1
    cases hm : M n with
    | none =>
      have HN := aM hm
      rw [fitV_none hm]
      clear hm
      go_enter Tryd.func22, Tryd.ntmps22
      go_wp2_with (first
        | ((with_reducible refine gate_callee (f := 31) rfl ?_); refine goesL_ (some 10) rfl rfl Tryd.func31 (by kernel_rfl) rfl #[.pointer (some ⟨g, 0, none⟩)] rfl tA ?_; (with_reducible refine (impl_typ_isVar.calls (t := .v n) _ ?s1).mono ?_); (case s1 => exact HX.out); rintro _ w1 ⟨rfl, hb⟩; rw [isVar_v]; refine ⟨_, rfl, ?_⟩; have HB := aM (hb); have k0 := (hb.cell (World.block_lt_of_cell? _ _ h0)).trans h0; clear hb h0)
        | (at_lookup; refine look_M _ rfl _ _ rfl b k M rfl (HM.out.below HB.out) n HO.out rfl ?_ (fun t g e _ => absurd (HN.out.symm.trans e) (by simp)); intro _ v)
        | (at_mapUpdate; refine put_M _ rfl _ _ _ rfl b k M rfl (HM.out.below HB.out) (by have := HK.out; omega) n HO.out rfl u g' rfl (HY.out.below HB.out) ?_; intro w2 hM2 hs2 hg2; have M2 := aM hM2; have G2 := aM ((grown_of_below HB.out (some b)).trans hg2); clear hM2 hs2 hg2))
      go_ret
      exact ⟨rfl, ⟨k + 1, Nat.le_refl _, M2.out⟩, G2.out⟩
    | some o =>
      have HN := aM hm
      rw [fitV_some hm]
      clear hm
      go_enter Tryd.func22, Tryd.ntmps22
      go_wp2_with (first
        | ((with_reducible refine gate_callee (f := 31) rfl ?_); refine goesL_ (some 10) rfl rfl Tryd.func31 (by kernel_rfl) rfl #[.pointer (some ⟨g, 0, none⟩)] rfl tA ?_; (with_reducible refine (impl_typ_isVar.calls (t := .v n) _ ?s1).mono ?_); (case s1 => exact HX.out); rintro _ w1 ⟨rfl, hb⟩; rw [isVar_v]; refine ⟨_, rfl, ?_⟩; have HB := aM (hb); have k0 := (hb.cell (World.block_lt_of_cell? _ _ h0)).trans h0; clear hb h0)
        | (at_lookup; refine look_M _ rfl _ _ rfl b k M rfl (HM.out.below HB.out) n HO.out rfl (fun e => absurd (HN.out.symm.trans e) (by simp)) ?_; intro t q e hI; have TT : Aside0 (t = o) := ⟨Option.some.inj (e.symm.trans HN.out)⟩; have II := aM (TT.out ▸ hI); clear hI e)
        | (go_at_call 42; (with_reducible refine (impl_typ_isSame.calls o u _ _ _ ?s1 ?s2).mono ?_); (case s1 => exact II.out); (case s2 => exact HY.out.below HB.out); rintro _ w2 ⟨rfl, hb⟩; have HB2 := aM (below_step HB.out hb); clear hb))
      go_ret
      exact ⟨rfl, ⟨k, by omega, HM.out.below HB2.out⟩, grown_of_below HB2.out _⟩
  | .a l r, .v m, x, y, b, k, M, w, h, h', ho, hM, hk => by
    obtain ⟨g, hg⟩ := h.ptr
    subst hg
    obtain ⟨g', hg'⟩ := h'.ptr
    subst hg'
    have HX := aM h
    have HY := aM h'
    have HM := aM hM
    clear h h' hM ho hk
    go_enter Tryd.func22, Tryd.ntmps22
    go_upto_region 7 with (first
      | ((with_reducible refine gate_callee (f := 31) rfl ?_); refine goesL_ (some 10) rfl rfl Tryd.func31 (by kernel_rfl) rfl #[.pointer (some ⟨g, 0, none⟩)] rfl tA ?_; (with_reducible refine (impl_typ_isVar.calls (t := .a l r) _ ?s1).mono ?_); (case s1 => exact HX.out); rintro _ w1 ⟨rfl, hb⟩; rw [isVar_a]; refine ⟨_, rfl, ?_⟩; have HB := aM (hb); clear hb))
    refine start_ (n := 36) (S := fun w' => True) (ds := []) #[false, false, false, false, false, false, false, false, false, false, false, false, false, false, false, false, false, false, false, false, false, false, false, false, false, false, false, false, false, false, false, false, false, false, false, false] (by kernel_rfl) rfl rfl trivial (fun hHeld => ?_); refine with_tabW impl_typ_fits.tab7 impl_typ_fits.bits7 (fun HT_ HW_ => ?_)
    have HB2 := aM (below_drew1 HB.out)
    clear HB
    generalize w1.drew = w2 at HB2 hHeld ⊢
    refine pure_ (i := 0) (N := some 30) (v := ?_) (a' := ?_) #[true, false, false, false, false, false, false, false, false, false, false, false, false, false, false, false, false, false, false, false, false, false, false, false, false, false, false, false, false, false, false, false, false, false, false, false] rfl rfl (any_of HT_.out (by kernel_rfl)) (fun _ _ _ h => h) (Or.inl ⟨by rfl, ?_⟩) ?_ ?_
    rotate_left
    · intro w'
      go_simp
      with_reducible rfl
    rotate_left
    · simp only [Act.put, List.setIfInBounds_toArray, List.set_cons_zero, List.set_cons_succ, i64_w, i32_w]
      rfl
    refine one_ (i := 1) (N := some 31) #[true, true, false, false, false, false, false, false, false, false, false, false, false, false, false, false, false, false, false, false, false, false, false, false, false, false, false, false, false, false, false, false, false, false, false, false] rfl rfl (one_of HT_.out (by kernel_rfl)) (by decide) (fun K hK => ?_)
    refine goes_ Tryd.func31 (by kernel_rfl) rfl #[.pointer (some ⟨g', 0, none⟩)] (by rfl) rfl rfl (by (try simp only [List.map_toArray, List.map_cons, List.map_nil]); first | done | rfl) ?_
    refine (impl_typ_isVar.calls (t := .v m) _ (HY.out.below HB2.out)).mono ?_
    rintro _ w3 ⟨rfl, hb⟩
    rw [isVar_v]
    refine ⟨_, rfl, ?_⟩
    have HB3 := aM (below_step HB2.out hb)
    refine hK.out _ _ trivial (fun hHeld => ?_)
    clear hb
    clear hK K
    refine norm_ (a' := ?_) ?_ ?_
    rotate_left
    · show Act.put _ (some 31) _ = _
      simp only [Act.put, List.setIfInBounds_toArray, List.set_cons_zero, List.set_cons_succ, i64_w, i32_w]
      rfl
    refine pure_ (i := 2) (N := some 32) (v := ?_) (a' := ?_) #[true, true, true, false, false, false, false, false, false, false, false, false, false, false, false, false, false, false, false, false, false, false, false, false, false, false, false, false, false, false, false, false, false, false, false, false] rfl rfl (any_of HT_.out (by kernel_rfl)) (fun _ _ _ h => h) (Or.inl ⟨by rfl, ?_⟩) ?_ ?_
    rotate_left
    · intro w'
      go_simp
      with_reducible rfl
    rotate_left
    · simp only [Act.put, List.setIfInBounds_toArray, List.set_cons_zero, List.set_cons_succ, i64_w, i32_w]
      rfl
    refine pure_ (i := 3) (N := some 33) (v := ?_) (a' := ?_) #[true, true, true, true, false, false, false, false, false, false, false, false, false, false, false, false, false, false, false, false, false, false, false, false, false, false, false, false, false, false, false, false, false, false, false, false] rfl rfl (any_of HT_.out (by kernel_rfl)) (fun _ _ _ h => h) (Or.inl ⟨by rfl, ?_⟩) ?_ ?_
    rotate_left
    · intro w'
      go_simp
      with_reducible rfl
    rotate_left
    · simp only [Act.put, List.setIfInBounds_toArray, List.set_cons_zero, List.set_cons_succ, i64_w, i32_w]
      rfl
    refine pure_ (i := 4) (N := some 34) (v := undef) (a' := ?_) #[true, true, true, true, true, false, false, false, false, false, false, false, false, false, false, false, false, false, false, false, false, false, false, false, false, false, false, false, false, false, false, false, false, false, false, false] rfl rfl (any_of HT_.out (by kernel_rfl)) (fun _ _ _ h => h) (Or.inr ⟨by rfl, rfl⟩) ?_ ?_
    rotate_left
    · simp only [Act.put, List.setIfInBounds_toArray, List.set_cons_zero, List.set_cons_succ, i64_w, i32_w]
      rfl
    refine pure_ (i := 5) (N := some 35) (v := undef) (a' := ?_) #[true, true, true, true, true, true, false, false, false, false, false, false, false, false, false, false, false, false, false, false, false, false, false, false, false, false, false, false, false, false, false, false, false, false, false, false] rfl rfl (any_of HT_.out (by kernel_rfl)) (fun _ _ _ h => h) (Or.inr ⟨by rfl, rfl⟩) ?_ ?_
    rotate_left
    · simp only [Act.put, List.setIfInBounds_toArray, List.set_cons_zero, List.set_cons_succ, i64_w, i32_w]
      rfl
    refine pure_ (i := 6) (N := some 36) (v := undef) (a' := ?_) #[true, true, true, true, true, true, true, false, false, false, false, false, false, false, false, false, false, false, false, false, false, false, false, false, false, false, false, false, false, false, false, false, false, false, false, false] rfl rfl (any_of HT_.out (by kernel_rfl)) (fun _ _ _ h => h) (Or.inr ⟨by rfl, rfl⟩) ?_ ?_
    rotate_left
    · simp only [Act.put, List.setIfInBounds_toArray, List.set_cons_zero, List.set_cons_succ, i64_w, i32_w]
      rfl
    refine pure_ (i := 7) (N := some 37) (v := undef) (a' := ?_) #[true, true, true, true, true, true, true, true, false, false, false, false, false, false, false, false, false, false, false, false, false, false, false, false, false, false, false, false, false, false, false, false, false, false, false, false] rfl rfl (any_of HT_.out (by kernel_rfl)) (fun _ _ _ h => h) (Or.inr ⟨by rfl, rfl⟩) ?_ ?_
    rotate_left
    · simp only [Act.put, List.setIfInBounds_toArray, List.set_cons_zero, List.set_cons_succ, i64_w, i32_w]
      rfl
    refine pure_ (i := 8) (N := some 38) (v := undef) (a' := ?_) #[true, true, true, true, true, true, true, true, true, false, false, false, false, false, false, false, false, false, false, false, false, false, false, false, false, false, false, false, false, false, false, false, false, false, false, false] rfl rfl (any_of HT_.out (by kernel_rfl)) (fun _ _ _ h => h) (Or.inr ⟨by rfl, rfl⟩) ?_ ?_
    rotate_left
    · simp only [Act.put, List.setIfInBounds_toArray, List.set_cons_zero, List.set_cons_succ, i64_w, i32_w]
      rfl
    refine pure_ (i := 9) (N := some 39) (v := undef) (a' := ?_) #[true, true, true, true, true, true, true, true, true, true, false, false, false, false, false, false, false, false, false, false, false, false, false, false, false, false, false, false, false, false, false, false, false, false, false, false] rfl rfl (any_of HT_.out (by kernel_rfl)) (fun _ _ _ h => h) (Or.inr ⟨by rfl, rfl⟩) ?_ ?_
    rotate_left
    · simp only [Act.put, List.setIfInBounds_toArray, List.set_cons_zero, List.set_cons_succ, i64_w, i32_w]
      rfl
    refine pure_ (i := 10) (N := some 40) (v := undef) (a' := ?_) #[true, true, true, true, true, true, true, true, true, true, true, false, false, false, false, false, false, false, false, false, false, false, false, false, false, false, false, false, false, false, false, false, false, false, false, false] rfl rfl (any_of HT_.out (by kernel_rfl)) (fun _ _ _ h => h) (Or.inr ⟨by rfl, rfl⟩) ?_ ?_
    rotate_left
    · simp only [Act.put, List.setIfInBounds_toArray, List.set_cons_zero, List.set_cons_succ, i64_w, i32_w]
      rfl
    refine pure_ (i := 11) (N := some 41) (v := undef) (a' := ?_) #[true, true, true, true, true, true, true, true, true, true, true, true, false, false, false, false, false, false, false, false, false, false, false, false, false, false, false, false, false, false, false, false, false, false, false, false] rfl rfl (any_of HT_.out (by kernel_rfl)) (fun _ _ _ h => h) (Or.inr ⟨by rfl, rfl⟩) ?_ ?_
    rotate_left
    · simp only [Act.put, List.setIfInBounds_toArray, List.set_cons_zero, List.set_cons_succ, i64_w, i32_w]
      rfl
    refine pure_ (i := 12) (N := some 42) (v := undef) (a' := ?_) #[true, true, true, true, true, true, true, true, true, true, true, true, true, false, false, false, false, false, false, false, false, false, false, false, false, false, false, false, false, false, false, false, false, false, false, false] rfl rfl (any_of HT_.out (by kernel_rfl)) (fun _ _ _ h => h) (Or.inr ⟨by rfl, rfl⟩) ?_ ?_
    rotate_left
    · simp only [Act.put, List.setIfInBounds_toArray, List.set_cons_zero, List.set_cons_succ, i64_w, i32_w]
      rfl
    refine pure_ (i := 13) (N := some 43) (v := undef) (a' := ?_) #[true, true, true, true, true, true, true, true, true, true, true, true, true, true, false, false, false, false, false, false, false, false, false, false, false, false, false, false, false, false, false, false, false, false, false, false] rfl rfl (any_of HT_.out (by kernel_rfl)) (fun _ _ _ h => h) (Or.inr ⟨by rfl, rfl⟩) ?_ ?_
    rotate_left
    · simp only [Act.put, List.setIfInBounds_toArray, List.set_cons_zero, List.set_cons_succ, i64_w, i32_w]
      rfl
    refine pure_ (i := 14) (N := some 44) (v := undef) (a' := ?_) #[true, true, true, true, true, true, true, true, true, true, true, true, true, true, true, false, false, false, false, false, false, false, false, false, false, false, false, false, false, false, false, false, false, false, false, false] rfl rfl (any_of HT_.out (by kernel_rfl)) (fun _ _ _ h => h) (Or.inr ⟨by rfl, rfl⟩) ?_ ?_
    rotate_left
    · simp only [Act.put, List.setIfInBounds_toArray, List.set_cons_zero, List.set_cons_succ, i64_w, i32_w]
      rfl
    refine pure_ (i := 15) (N := some 45) (v := undef) (a' := ?_) #[true, true, true, true, true, true, true, true, true, true, true, true, true, true, true, true, false, false, false, false, false, false, false, false, false, false, false, false, false, false, false, false, false, false, false, false] rfl rfl (any_of HT_.out (by kernel_rfl)) (fun _ _ _ h => h) (Or.inr ⟨by rfl, rfl⟩) ?_ ?_
    rotate_left
    · simp only [Act.put, List.setIfInBounds_toArray, List.set_cons_zero, List.set_cons_succ, i64_w, i32_w]
      rfl
    refine pure_ (i := 16) (N := some 46) (v := undef) (a' := ?_) #[true, true, true, true, true, true, true, true, true, true, true, true, true, true, true, true, true, false, false, false, false, false, false, false, false, false, false, false, false, false, false, false, false, false, false, false] rfl rfl (any_of HT_.out (by kernel_rfl)) (fun _ _ _ h => h) (Or.inr ⟨by rfl, rfl⟩) ?_ ?_
    rotate_left
    · simp only [Act.put, List.setIfInBounds_toArray, List.set_cons_zero, List.set_cons_succ, i64_w, i32_w]
      rfl
    refine pure_ (i := 17) (N := some 47) (v := undef) (a' := ?_) #[true, true, true, true, true, true, true, true, true, true, true, true, true, true, true, true, true, true, false, false, false, false, false, false, false, false, false, false, false, false, false, false, false, false, false, false] rfl rfl (any_of HT_.out (by kernel_rfl)) (fun _ _ _ h => h) (Or.inr ⟨by rfl, rfl⟩) ?_ ?_
    rotate_left
    · simp only [Act.put, List.setIfInBounds_toArray, List.set_cons_zero, List.set_cons_succ, i64_w, i32_w]
      rfl
    refine pure_ (i := 18) (N := some 48) (v := ?_) (a' := ?_) #[true, true, true, true, true, true, true, true, true, true, true, true, true, true, true, true, true, true, true, false, false, false, false, false, false, false, false, false, false, false, false, false, false, false, false, false] rfl rfl (any_of HT_.out (by kernel_rfl)) (fun _ _ _ h => h) (Or.inl ⟨by rfl, ?_⟩) ?_ ?_
    rotate_left
    · intro w'
      go_simp
      with_reducible rfl
    rotate_left
    · simp only [Act.put, List.setIfInBounds_toArray, List.set_cons_zero, List.set_cons_succ, i64_w, i32_w]
      rfl
    refine pure_ (i := 19) (N := some 49) (v := ?_) (a' := ?_) #[true, true, true, true, true, true, true, true, true, true, true, true, true, true, true, true, true, true, true, true, false, false, false, false, false, false, false, false, false, false, false, false, false, false, false, false] rfl rfl (any_of HT_.out (by kernel_rfl)) (fun _ _ _ h => h) (Or.inl ⟨by rfl, ?_⟩) ?_ ?_
    rotate_left
    · intro w'
      go_simp
      with_reducible rfl
    rotate_left
    · simp only [Act.put, List.setIfInBounds_toArray, List.set_cons_zero, List.set_cons_succ, i64_w, i32_w]
      rfl
    refine pure_ (i := 20) (N := some 50) (v := undef) (a' := ?_) #[true, true, true, true, true, true, true, true, true, true, true, true, true, true, true, true, true, true, true, true, true, false, false, false, false, false, false, false, false, false, false, false, false, false, false, false] rfl rfl (any_of HT_.out (by kernel_rfl)) (fun _ _ _ h => h) (Or.inr ⟨by rfl, rfl⟩) ?_ ?_
    rotate_left
    · simp only [Act.put, List.setIfInBounds_toArray, List.set_cons_zero, List.set_cons_succ, i64_w, i32_w]
      rfl
    refine pure_ (i := 21) (N := some 51) (v := undef) (a' := ?_) #[true, true, true, true, true, true, true, true, true, true, true, true, true, true, true, true, true, true, true, true, true, true, false, false, false, false, false, false, false, false, false, false, false, false, false, false] rfl rfl (any_of HT_.out (by kernel_rfl)) (fun _ _ _ h => h) (Or.inr ⟨by rfl, rfl⟩) ?_ ?_
    rotate_left
    · simp only [Act.put, List.setIfInBounds_toArray, List.set_cons_zero, List.set_cons_succ, i64_w, i32_w]
      rfl
    refine pure_ (i := 22) (N := some 52) (v := undef) (a' := ?_) #[true, true, true, true, true, true, true, true, true, true, true, true, true, true, true, true, true, true, true, true, true, true, true, false, false, false, false, false, false, false, false, false, false, false, false, false] rfl rfl (any_of HT_.out (by kernel_rfl)) (fun _ _ _ h => h) (Or.inr ⟨by rfl, rfl⟩) ?_ ?_
    rotate_left
    · simp only [Act.put, List.setIfInBounds_toArray, List.set_cons_zero, List.set_cons_succ, i64_w, i32_w]
      rfl
    refine pure_ (i := 23) (N := some 53) (v := undef) (a' := ?_) #[true, true, true, true, true, true, true, true, true, true, true, true, true, true, true, true, true, true, true, true, true, true, true, true, false, false, false, false, false, false, false, false, false, false, false, false] rfl rfl (any_of HT_.out (by kernel_rfl)) (fun _ _ _ h => h) (Or.inr ⟨by rfl, rfl⟩) ?_ ?_
    rotate_left
    · simp only [Act.put, List.setIfInBounds_toArray, List.set_cons_zero, List.set_cons_succ, i64_w, i32_w]
      rfl
    refine pure_ (i := 24) (N := some 54) (v := undef) (a' := ?_) #[true, true, true, true, true, true, true, true, true, true, true, true, true, true, true, true, true, true, true, true, true, true, true, true, true, false, false, false, false, false, false, false, false, false, false, false] rfl rfl (any_of HT_.out (by kernel_rfl)) (fun _ _ _ h => h) (Or.inr ⟨by rfl, rfl⟩) ?_ ?_
    rotate_left
    · simp only [Act.put, List.setIfInBounds_toArray, List.set_cons_zero, List.set_cons_succ, i64_w, i32_w]
      rfl
    refine pure_ (i := 25) (N := some 55) (v := undef) (a' := ?_) #[true, true, true, true, true, true, true, true, true, true, true, true, true, true, true, true, true, true, true, true, true, true, true, true, true, true, false, false, false, false, false, false, false, false, false, false] rfl rfl (any_of HT_.out (by kernel_rfl)) (fun _ _ _ h => h) (Or.inr ⟨by rfl, rfl⟩) ?_ ?_
    rotate_left
    · simp only [Act.put, List.setIfInBounds_toArray, List.set_cons_zero, List.set_cons_succ, i64_w, i32_w]
      rfl
    refine pure_ (i := 26) (N := some 56) (v := undef) (a' := ?_) #[true, true, true, true, true, true, true, true, true, true, true, true, true, true, true, true, true, true, true, true, true, true, true, true, true, true, true, false, false, false, false, false, false, false, false, false] rfl rfl (any_of HT_.out (by kernel_rfl)) (fun _ _ _ h => h) (Or.inr ⟨by rfl, rfl⟩) ?_ ?_
    rotate_left
    · simp only [Act.put, List.setIfInBounds_toArray, List.set_cons_zero, List.set_cons_succ, i64_w, i32_w]
      rfl
    refine pure_ (i := 27) (N := some 57) (v := undef) (a' := ?_) #[true, true, true, true, true, true, true, true, true, true, true, true, true, true, true, true, true, true, true, true, true, true, true, true, true, true, true, true, false, false, false, false, false, false, false, false] rfl rfl (any_of HT_.out (by kernel_rfl)) (fun _ _ _ h => h) (Or.inr ⟨by rfl, rfl⟩) ?_ ?_
    rotate_left
    · simp only [Act.put, List.setIfInBounds_toArray, List.set_cons_zero, List.set_cons_succ, i64_w, i32_w]
      rfl
    refine pure_ (i := 28) (N := some 58) (v := undef) (a' := ?_) #[true, true, true, true, true, true, true, true, true, true, true, true, true, true, true, true, true, true, true, true, true, true, true, true, true, true, true, true, true, false, false, false, false, false, false, false] rfl rfl (any_of HT_.out (by kernel_rfl)) (fun _ _ _ h => h) (Or.inr ⟨by rfl, rfl⟩) ?_ ?_
    rotate_left
    · simp only [Act.put, List.setIfInBounds_toArray, List.set_cons_zero, List.set_cons_succ, i64_w, i32_w]
      rfl
    refine pure_ (i := 29) (N := some 59) (v := undef) (a' := ?_) #[true, true, true, true, true, true, true, true, true, true, true, true, true, true, true, true, true, true, true, true, true, true, true, true, true, true, true, true, true, true, false, false, false, false, false, false] rfl rfl (any_of HT_.out (by kernel_rfl)) (fun _ _ _ h => h) (Or.inr ⟨by rfl, rfl⟩) ?_ ?_
    rotate_left
    · simp only [Act.put, List.setIfInBounds_toArray, List.set_cons_zero, List.set_cons_succ, i64_w, i32_w]
      rfl
    refine pure_ (i := 30) (N := some 60) (v := undef) (a' := ?_) #[true, true, true, true, true, true, true, true, true, true, true, true, true, true, true, true, true, true, true, true, true, true, true, true, true, true, true, true, true, true, true, false, false, false, false, false] rfl rfl (any_of HT_.out (by kernel_rfl)) (fun _ _ _ h => h) (Or.inr ⟨by rfl, rfl⟩) ?_ ?_
    rotate_left
    · simp only [Act.put, List.setIfInBounds_toArray, List.set_cons_zero, List.set_cons_succ, i64_w, i32_w]
      rfl
    refine pure_ (i := 31) (N := some 61) (v := undef) (a' := ?_) #[true, true, true, true, true, true, true, true, true, true, true, true, true, true, true, true, true, true, true, true, true, true, true, true, true, true, true, true, true, true, true, true, false, false, false, false] rfl rfl (any_of HT_.out (by kernel_rfl)) (fun _ _ _ h => h) (Or.inr ⟨by rfl, rfl⟩) ?_ ?_
    rotate_left
    · simp only [Act.put, List.setIfInBounds_toArray, List.set_cons_zero, List.set_cons_succ, i64_w, i32_w]
      rfl
    refine pure_ (i := 32) (N := some 62) (v := undef) (a' := ?_) #[true, true, true, true, true, true, true, true, true, true, true, true, true, true, true, true, true, true, true, true, true, true, true, true, true, true, true, true, true, true, true, true, true, false, false, false] rfl rfl (any_of HT_.out (by kernel_rfl)) (fun _ _ _ h => h) (Or.inr ⟨by rfl, rfl⟩) ?_ ?_
    rotate_left
    · simp only [Act.put, List.setIfInBounds_toArray, List.set_cons_zero, List.set_cons_succ, i64_w, i32_w]
      rfl
    refine pure_ (i := 33) (N := some 63) (v := undef) (a' := ?_) #[true, true, true, true, true, true, true, true, true, true, true, true, true, true, true, true, true, true, true, true, true, true, true, true, true, true, true, true, true, true, true, true, true, true, false, false] rfl rfl (any_of HT_.out (by kernel_rfl)) (fun _ _ _ h => h) (Or.inr ⟨by rfl, rfl⟩) ?_ ?_
    rotate_left
    · simp only [Act.put, List.setIfInBounds_toArray, List.set_cons_zero, List.set_cons_succ, i64_w, i32_w]
      rfl
    refine pure_ (i := 34) (N := some 64) (v := ?_) (a' := ?_) #[true, true, true, true, true, true, true, true, true, true, true, true, true, true, true, true, true, true, true, true, true, true, true, true, true, true, true, true, true, true, true, true, true, true, true, false] rfl rfl (any_of HT_.out (by kernel_rfl)) (fun _ _ _ h => h) (Or.inl ⟨by rfl, ?_⟩) ?_ ?_
    rotate_left
    · intro w'
      go_simp
      with_reducible rfl
    rotate_left
    · simp only [Act.put, List.setIfInBounds_toArray, List.set_cons_zero, List.set_cons_succ, i64_w, i32_w]
      rfl
    refine pure_ (i := 35) (N := some 6) (v := ?_) (a' := ?_) #[true, true, true, true, true, true, true, true, true, true, true, true, true, true, true, true, true, true, true, true, true, true, true, true, true, true, true, true, true, true, true, true, true, true, true, true] rfl rfl (any_of HT_.out (by kernel_rfl)) (fun _ _ _ h => h) (Or.inl ⟨by rfl, ?_⟩) ?_ ?_
    rotate_left
    · intro w'
      go_simp
      with_reducible rfl
    rotate_left
    · simp only [Act.put, List.setIfInBounds_toArray, List.set_cons_zero, List.set_cons_succ, i64_w, i32_w]
      rfl
    refine done_ (done_of HT_.out (by kernel_rfl)) ?_
    go_wp2
    go_ret
    exact ⟨rfl, ⟨k, by omega, HM.out.below HB3.out⟩, grown_of_below HB3.out _⟩
  | .a l r, .a l' r', x, y, b, k, M, w, h, h', ho, hM, hk => by
    have hk' : k + (1 + l.nodes + r.nodes) ≤ 1099511627776 := hk
    have HX := aM h
    have HY := aM h'
    have HM := aM hM
    have HO : Aside0 (l.ok ∧ r.ok) := ⟨ho⟩
    have HK := aM hk'
    obtain ⟨g, p, u1, u2, rfl, ha, hl, hr⟩ := h.arrb
    obtain ⟨g', p', u1', u2', rfl, ha', hl', hr'⟩ := h'.arrb
    have HL := aM hl
    have HR := aM hr
    have HL' := aM hl'
    have HR' := aM hr'
    obtain ⟨a1, rfl⟩ := hl.ptr
    obtain ⟨a2, rfl⟩ := hr.ptr
    obtain ⟨b1, rfl⟩ := hl'.ptr
    obtain ⟨b2, rfl⟩ := hr'.ptr
    have A0 := aM ha
    have A0' := aM ha'
    have hf : (Ty.a l r).fits (.a l' r') M = if (l.fits l' M).1 = true then r.fits r' (l.fits l' M).2 else (false, (l.fits l' M).2) := rfl
    have hN1 : (Ty.a l r).nodes = 1 + l.nodes + r.nodes := rfl
    rw [hf, hN1]
    obtain ⟨q1, M1, hq⟩ : ∃ a c, l.fits l' M = (a, c) := ⟨_, _, rfl⟩
    rw [hq]
    obtain ⟨rb, RM, hrr⟩ : ∃ a c, (if (q1, M1).1 = true then r.fits r' (q1, M1).2 else (false, (q1, M1).2)) = (a, c) := ⟨_, _, rfl⟩
    rw [hrr]
    have RR := aM hrr
    have HQ := aM hq
    clear h h' hl hr hl' hr' ha ha' ho hM hk hk' hf hN1 hq hrr
    go_enter Tryd.func22, Tryd.ntmps22
    go_upto_region 7 with (first
      | ((with_reducible refine gate_callee (f := 31) rfl ?_); refine goesL_ (some 10) rfl rfl Tryd.func31 (by kernel_rfl) rfl #[.pointer (some ⟨g, 0, none⟩)] rfl tA ?_; (with_reducible refine (impl_typ_isVar.calls (t := .a l r) _ ?s1).mono ?_); (case s1 => exact HX.out); rintro _ w1 ⟨rfl, hb⟩; rw [isVar_a]; refine ⟨_, rfl, ?_⟩; have HB := aM (hb); clear hb))
    have A1 := aM (A0.out.stay (Stay.below HB.out))
    have A1' := aM (A0'.out.stay (Stay.below HB.out))
    refine start_ (n := 36) (S := fun w' => w'.cell? ⟨g, 1, none⟩ = some (.slice (some ⟨p, 0, none⟩) 2 2) ∧ w'.cell? ⟨p, 0, none⟩ = some (.pointer (some ⟨a1, 0, none⟩)) ∧ w'.cell? ⟨p, 1, none⟩ = some (.pointer (some ⟨a2, 0, none⟩)) ∧ w'.cell? ⟨g', 1, none⟩ = some (.slice (some ⟨p', 0, none⟩) 2 2) ∧ w'.cell? ⟨p', 0, none⟩ = some (.pointer (some ⟨b1, 0, none⟩)) ∧ w'.cell? ⟨p', 1, none⟩ = some (.pointer (some ⟨b2, 0, none⟩))) (ds := []) #[false, false, false, false, false, false, false, false, false, false, false, false, false, false, false, false, false, false, false, false, false, false, false, false, false, false, false, false, false, false, false, false, false, false, false, false] (by kernel_rfl) rfl rfl ⟨A1.out.c1, A1.out.c2, A1.out.c3, A1'.out.c1, A1'.out.c2, A1'.out.c3⟩ (fun hHeld => ?_); refine with_tabW impl_typ_fits.tab7 impl_typ_fits.bits7 (fun HT_ HW_ => ?_)
    have HB2 := aM (below_drew1 HB.out)
    clear HB A1 A1'
    generalize w1.drew = w2 at HB2 hHeld ⊢
    refine pure_ (i := 0) (N := some 30) (v := ?_) (a' := ?_) #[true, false, false, false, false, false, false, false, false, false, false, false, false, false, false, false, false, false, false, false, false, false, false, false, false, false, false, false, false, false, false, false, false, false, false, false] rfl rfl (any_of HT_.out (by kernel_rfl)) (fun _ _ _ h => h) (Or.inl ⟨by rfl, ?_⟩) ?_ ?_
    rotate_left
    · intro w'
      go_simp
      with_reducible rfl
    rotate_left
    · simp only [Act.put, List.setIfInBounds_toArray, List.set_cons_zero, List.set_cons_succ, i64_w, i32_w]
      rfl
    refine one_ (i := 1) (N := some 31) #[true, true, false, false, false, false, false, false, false, false, false, false, false, false, false, false, false, false, false, false, false, false, false, false, false, false, false, false, false, false, false, false, false, false, false, false] rfl rfl (one_of HT_.out (by kernel_rfl)) (by decide) (fun K hK => ?_)
    refine goes_ Tryd.func31 (by kernel_rfl) rfl #[.pointer (some ⟨g', 0, none⟩)] (by rfl) rfl rfl (by (try simp only [List.map_toArray, List.map_cons, List.map_nil]); first | done | rfl) ?_
    refine (impl_typ_isVar.calls (t := .a l' r') _ (HY.out.below HB2.out)).mono ?_
    rintro _ w3 ⟨rfl, hb⟩
    rw [isVar_a]
    refine ⟨_, rfl, ?_⟩
    have HB3 := aM (below_step HB2.out hb)
    have A3 := aM (A0.out.stay (Stay.below HB3.out))
    have A3' := aM (A0'.out.stay (Stay.below HB3.out))
    refine hK.out _ _ ⟨A3.out.c1, A3.out.c2, A3.out.c3, A3'.out.c1, A3'.out.c2, A3'.out.c3⟩ (fun hHeld => ?_)
    clear hb
    clear hK K
    refine norm_ (a' := ?_) ?_ ?_
    rotate_left
    · show Act.put _ (some 31) _ = _
      simp only [Act.put, List.setIfInBounds_toArray, List.set_cons_zero, List.set_cons_succ, i64_w, i32_w]
      rfl
    refine pure_ (i := 2) (N := some 32) (v := ?_) (a' := ?_) #[true, true, true, false, false, false, false, false, false, false, false, false, false, false, false, false, false, false, false, false, false, false, false, false, false, false, false, false, false, false, false, false, false, false, false, false] rfl rfl (any_of HT_.out (by kernel_rfl)) (fun _ _ _ h => h) (Or.inl ⟨by rfl, ?_⟩) ?_ ?_
    rotate_left
    · intro w'
      go_simp
      with_reducible rfl
    rotate_left
    · simp only [Act.put, List.setIfInBounds_toArray, List.set_cons_zero, List.set_cons_succ, i64_w, i32_w]
      rfl
    refine pure_ (i := 3) (N := some 33) (v := ?_) (a' := ?_) #[true, true, true, true, false, false, false, false, false, false, false, false, false, false, false, false, false, false, false, false, false, false, false, false, false, false, false, false, false, false, false, false, false, false, false, false] rfl rfl (any_of HT_.out (by kernel_rfl)) (fun _ _ _ h => h) (Or.inl ⟨by rfl, ?_⟩) ?_ ?_
    rotate_left
    · intro w'
      go_simp
      with_reducible rfl
    rotate_left
    · simp only [Act.put, List.setIfInBounds_toArray, List.set_cons_zero, List.set_cons_succ, i64_w, i32_w]
      rfl
    refine pure_ (i := 4) (N := some 34) (v := ?_) (a' := ?_) #[true, true, true, true, true, false, false, false, false, false, false, false, false, false, false, false, false, false, false, false, false, false, false, false, false, false, false, false, false, false, false, false, false, false, false, false] rfl rfl (any_of HT_.out (by kernel_rfl)) (fun _ _ _ h => h) (Or.inl ⟨by rfl, ?_⟩) ?_ ?_
    rotate_left
    · intro w'
      go_simp
      with_reducible rfl
    rotate_left
    · simp only [Act.put, List.setIfInBounds_toArray, List.set_cons_zero, List.set_cons_succ, i64_w, i32_w]
      rfl
    refine pure_ (i := 5) (N := some 35) (v := ?_) (a' := ?_) #[true, true, true, true, true, true, false, false, false, false, false, false, false, false, false, false, false, false, false, false, false, false, false, false, false, false, false, false, false, false, false, false, false, false, false, false] rfl rfl (any_of HT_.out (by kernel_rfl)) (fun _ _ _ h => h) (Or.inl ⟨by rfl, ?_⟩) ?_ ?_
    rotate_left
    · intro w'
      go_simp
      with_reducible rfl
    rotate_left
    · simp only [Act.put, List.setIfInBounds_toArray, List.set_cons_zero, List.set_cons_succ, i64_w, i32_w]
      rfl
    refine pure_ (i := 6) (N := some 36) (v := ?_) (a' := ?_) #[true, true, true, true, true, true, true, false, false, false, false, false, false, false, false, false, false, false, false, false, false, false, false, false, false, false, false, false, false, false, false, false, false, false, false, false] rfl rfl (any_of HT_.out (by kernel_rfl)) (fun _ _ _ h => h) (Or.inl ⟨by rfl, ?_⟩) ?_ ?_
    rotate_left
    · intro w'
      go_simp
      with_reducible rfl
    rotate_left
    · simp only [Act.put, List.setIfInBounds_toArray, List.set_cons_zero, List.set_cons_succ, i64_w, i32_w]
      rfl
    refine pure_ (i := 10) (N := some 40) (v := ?_) (a' := ?_) #[true, true, true, true, true, true, true, false, false, false, true, false, false, false, false, false, false, false, false, false, false, false, false, false, false, false, false, false, false, false, false, false, false, false, false, false] rfl rfl (any_of HT_.out (by kernel_rfl)) (fun _ _ _ h => h) (Or.inl ⟨by rfl, ?_⟩) ?_ ?_
    rotate_left
    · intro w'
      go_simp
      with_reducible rfl
    rotate_left
    · simp only [Act.put, List.setIfInBounds_toArray, List.set_cons_zero, List.set_cons_succ, i64_w, i32_w]
      rfl
    refine pure_ (i := 11) (N := some 41) (v := ?_) (a' := ?_) #[true, true, true, true, true, true, true, false, false, false, true, true, false, false, false, false, false, false, false, false, false, false, false, false, false, false, false, false, false, false, false, false, false, false, false, false] rfl rfl (any_of HT_.out (by kernel_rfl)) (fun _ _ _ h => h) (Or.inl ⟨by rfl, ?_⟩) ?_ ?_
    rotate_left
    · intro w'
      go_simp
      with_reducible rfl
    rotate_left
    · simp only [Act.put, List.setIfInBounds_toArray, List.set_cons_zero, List.set_cons_succ, i64_w, i32_w]
      rfl
    refine pure_ (i := 12) (N := some 42) (v := ?_) (a' := ?_) #[true, true, true, true, true, true, true, false, false, false, true, true, true, false, false, false, false, false, false, false, false, false, false, false, false, false, false, false, false, false, false, false, false, false, false, false] rfl rfl (any_of HT_.out (by kernel_rfl)) (fun _ _ _ h => h) (Or.inl ⟨by rfl, ?_⟩) ?_ ?_
    rotate_left
    · intro w'
      go_simp
      with_reducible rfl
    rotate_left
    · simp only [Act.put, List.setIfInBounds_toArray, List.set_cons_zero, List.set_cons_succ, i64_w, i32_w]
      rfl
    refine pure_ (i := 16) (N := some 46) (v := ?_) (a' := ?_) #[true, true, true, true, true, true, true, false, false, false, true, true, true, false, false, false, true, false, false, false, false, false, false, false, false, false, false, false, false, false, false, false, false, false, false, false] rfl rfl (any_of HT_.out (by kernel_rfl)) (fun _ _ _ h => h) (Or.inl ⟨by rfl, ?_⟩) ?_ ?_
    rotate_left
    · intro w'
      go_simp
      with_reducible rfl
    rotate_left
    · simp only [Act.put, List.setIfInBounds_toArray, List.set_cons_zero, List.set_cons_succ, i64_w, i32_w]
      rfl
    refine take_ (i := 7) (N := some 37) (v := ?_) (a' := ?_) #[true, true, true, true, true, true, true, true, false, false, true, true, true, false, false, false, true, false, false, false, false, false, false, false, false, false, false, false, false, false, false, false, false, false, false, false] rfl rfl (take_ofW HT_.out HW_.out (by kernel_rfl)) (fun _ _ _ h => h) (Or.inl ⟨by rfl, ?_⟩) hHeld ?_ ?_
    rotate_left
    · rintro w' ⟨s0, s1, s2, s3, s4, s5⟩
      go_simp
      with_reducible rfl
    rotate_left
    · simp only [Act.put, List.setIfInBounds_toArray, List.set_cons_zero, List.set_cons_succ, i64_w, i32_w]
      rfl
    refine take_ (i := 13) (N := some 43) (v := ?_) (a' := ?_) #[true, true, true, true, true, true, true, true, false, false, true, true, true, true, false, false, true, false, false, false, false, false, false, false, false, false, false, false, false, false, false, false, false, false, false, false] rfl rfl (take_ofW HT_.out HW_.out (by kernel_rfl)) (fun _ _ _ h => h) (Or.inl ⟨by rfl, ?_⟩) hHeld ?_ ?_
    rotate_left
    · rintro w' ⟨s0, s1, s2, s3, s4, s5⟩
      go_simp
      with_reducible rfl
    rotate_left
    · simp only [Act.put, List.setIfInBounds_toArray, List.set_cons_zero, List.set_cons_succ, i64_w, i32_w]
      rfl
    refine pure_ (i := 8) (N := some 38) (v := ?_) (a' := ?_) #[true, true, true, true, true, true, true, true, true, false, true, true, true, true, false, false, true, false, false, false, false, false, false, false, false, false, false, false, false, false, false, false, false, false, false, false] rfl rfl (any_of HT_.out (by kernel_rfl)) (fun _ _ _ h => h) (Or.inl ⟨by rfl, ?_⟩) ?_ ?_
    rotate_left
    · intro w'
      go_simp
      with_reducible rfl
    rotate_left
    · simp only [Act.put, List.setIfInBounds_toArray, List.set_cons_zero, List.set_cons_succ, i64_w, i32_w]
      rfl
    refine pure_ (i := 14) (N := some 44) (v := ?_) (a' := ?_) #[true, true, true, true, true, true, true, true, true, false, true, true, true, true, true, false, true, false, false, false, false, false, false, false, false, false, false, false, false, false, false, false, false, false, false, false] rfl rfl (any_of HT_.out (by kernel_rfl)) (fun _ _ _ h => h) (Or.inl ⟨by rfl, ?_⟩) ?_ ?_
    rotate_left
    · intro w'
      go_simp
      with_reducible rfl
    rotate_left
    · simp only [Act.put, List.setIfInBounds_toArray, List.set_cons_zero, List.set_cons_succ, i64_w, i32_w]
      rfl
    refine take_ (i := 9) (N := some 39) (v := ?_) (a' := ?_) #[true, true, true, true, true, true, true, true, true, true, true, true, true, true, true, false, true, false, false, false, false, false, false, false, false, false, false, false, false, false, false, false, false, false, false, false] rfl rfl (take_ofW HT_.out HW_.out (by kernel_rfl)) (fun _ _ _ h => h) (Or.inl ⟨by rfl, ?_⟩) hHeld ?_ ?_
    rotate_left
    · rintro w' ⟨s0, s1, s2, s3, s4, s5⟩
      go_simp
      with_reducible rfl
    rotate_left
    · simp only [Act.put, List.setIfInBounds_toArray, List.set_cons_zero, List.set_cons_succ, i64_w, i32_w]
      rfl
    refine take_ (i := 15) (N := some 45) (v := ?_) (a' := ?_) #[true, true, true, true, true, true, true, true, true, true, true, true, true, true, true, true, true, false, false, false, false, false, false, false, false, false, false, false, false, false, false, false, false, false, false, false] rfl rfl (take_ofW HT_.out HW_.out (by kernel_rfl)) (fun _ _ _ h => h) (Or.inl ⟨by rfl, ?_⟩) hHeld ?_ ?_
    rotate_left
    · rintro w' ⟨s0, s1, s2, s3, s4, s5⟩
      go_simp
      with_reducible rfl
    rotate_left
    · simp only [Act.put, List.setIfInBounds_toArray, List.set_cons_zero, List.set_cons_succ, i64_w, i32_w]
      rfl
    cases q1 with
    | true =>
      refine one_ (i := 17) (N := some 47) #[true, true, true, true, true, true, true, true, true, true, true, true, true, true, true, true, true, true, false, false, false, false, false, false, false, false, false, false, false, false, false, false, false, false, false, false] rfl rfl (one_of HT_.out (by kernel_rfl)) (by decide) (fun K hK => ?_)
      refine goes_ Tryd.func22 (by kernel_rfl) rfl #[.pointer (some ⟨a1, 0, none⟩), .pointer (some ⟨b1, 0, none⟩), .map (some b)] (by rfl) rfl rfl (by (try simp only [List.map_toArray, List.map_cons, List.map_nil]); first | done | rfl) ?_
      refine (impl_typ_fits.calls l l' _ _ b k M _ (HL.out.below HB3.out) (HL'.out.below HB3.out) HO.out.1 (HM.out.below HB3.out) (by have := HK.out; omega)).mono ?_
      rw [HQ.out]
      rintro _ w4 ⟨rfl, ⟨k1, hk1, hM1⟩, hg4⟩
      refine ⟨_, rfl, ?_⟩
      have ST := aM ((Stay.below HB3.out).trans ((HM.out.below HB3.out).stay hg4))
      have G4 := aM ((grown_of_below HB3.out (some b)).trans hg4)
      have K1 := aM hk1
      have HM1 := aM hM1
      have A4 := aM (A0.out.stay ST.out)
      have A4' := aM (A0'.out.stay ST.out)
      refine hK.out _ _ ⟨A4.out.c1, A4.out.c2, A4.out.c3, A4'.out.c1, A4'.out.c2, A4'.out.c3⟩ (fun hHeld => ?_)
      clear hg4 hk1 hM1
      clear hK K
      refine norm_ (a' := ?_) ?_ ?_
      rotate_left
      · show Act.put _ (some 47) _ = _
        simp only [Act.put, List.setIfInBounds_toArray, List.set_cons_zero, List.set_cons_succ, i64_w, i32_w]
        rfl
      refine pure_ (i := 18) (N := some 48) (v := ?_) (a' := ?_) #[true, true, true, true, true, true, true, true, true, true, true, true, true, true, true, true, true, true, true, false, false, false, false, false, false, false, false, false, false, false, false, false, false, false, false, false] rfl rfl (any_of HT_.out (by kernel_rfl)) (fun _ _ _ h => h) (Or.inl ⟨by rfl, ?_⟩) ?_ ?_
      rotate_left
      · intro w'
        go_simp
        with_reducible rfl
      rotate_left
      · simp only [Act.put, List.setIfInBounds_toArray, List.set_cons_zero, List.set_cons_succ, i64_w, i32_w]
        rfl
      refine pure_ (i := 19) (N := some 49) (v := ?_) (a' := ?_) #[true, true, true, true, true, true, true, true, true, true, true, true, true, true, true, true, true, true, true, true, false, false, false, false, false, false, false, false, false, false, false, false, false, false, false, false] rfl rfl (any_of HT_.out (by kernel_rfl)) (fun _ _ _ h => h) (Or.inl ⟨by rfl, ?_⟩) ?_ ?_
      rotate_left
      · intro w'
        go_simp
        with_reducible rfl
      rotate_left
      · simp only [Act.put, List.setIfInBounds_toArray, List.set_cons_zero, List.set_cons_succ, i64_w, i32_w]
        rfl
      refine pure_ (i := 20) (N := some 50) (v := ?_) (a' := ?_) #[true, true, true, true, true, true, true, true, true, true, true, true, true, true, true, true, true, true, true, true, true, false, false, false, false, false, false, false, false, false, false, false, false, false, false, false] rfl rfl (any_of HT_.out (by kernel_rfl)) (fun _ _ _ h => h) (Or.inl ⟨by rfl, ?_⟩) ?_ ?_
      rotate_left
      · intro w'
        go_simp
        with_reducible rfl
      rotate_left
      · simp only [Act.put, List.setIfInBounds_toArray, List.set_cons_zero, List.set_cons_succ, i64_w, i32_w]
        rfl
      refine pure_ (i := 21) (N := some 51) (v := ?_) (a' := ?_) #[true, true, true, true, true, true, true, true, true, true, true, true, true, true, true, true, true, true, true, true, true, true, false, false, false, false, false, false, false, false, false, false, false, false, false, false] rfl rfl (any_of HT_.out (by kernel_rfl)) (fun _ _ _ h => h) (Or.inl ⟨by rfl, ?_⟩) ?_ ?_
      rotate_left
      · intro w'
        go_simp
        with_reducible rfl
      rotate_left
      · simp only [Act.put, List.setIfInBounds_toArray, List.set_cons_zero, List.set_cons_succ, i64_w, i32_w]
        rfl
      refine pure_ (i := 22) (N := some 52) (v := ?_) (a' := ?_) #[true, true, true, true, true, true, true, true, true, true, true, true, true, true, true, true, true, true, true, true, true, true, true, false, false, false, false, false, false, false, false, false, false, false, false, false] rfl rfl (any_of HT_.out (by kernel_rfl)) (fun _ _ _ h => h) (Or.inl ⟨by rfl, ?_⟩) ?_ ?_
      rotate_left
      · intro w'
        go_simp
        with_reducible rfl
      rotate_left
      · simp only [Act.put, List.setIfInBounds_toArray, List.set_cons_zero, List.set_cons_succ, i64_w, i32_w]
        rfl
      refine pure_ (i := 26) (N := some 56) (v := ?_) (a' := ?_) #[true, true, true, true, true, true, true, true, true, true, true, true, true, true, true, true, true, true, true, true, true, true, true, false, false, false, true, false, false, false, false, false, false, false, false, false] rfl rfl (any_of HT_.out (by kernel_rfl)) (fun _ _ _ h => h) (Or.inl ⟨by rfl, ?_⟩) ?_ ?_
      rotate_left
      · intro w'
        go_simp
        with_reducible rfl
      rotate_left
      · simp only [Act.put, List.setIfInBounds_toArray, List.set_cons_zero, List.set_cons_succ, i64_w, i32_w]
        rfl
      refine pure_ (i := 27) (N := some 57) (v := ?_) (a' := ?_) #[true, true, true, true, true, true, true, true, true, true, true, true, true, true, true, true, true, true, true, true, true, true, true, false, false, false, true, true, false, false, false, false, false, false, false, false] rfl rfl (any_of HT_.out (by kernel_rfl)) (fun _ _ _ h => h) (Or.inl ⟨by rfl, ?_⟩) ?_ ?_
      rotate_left
      · intro w'
        go_simp
        with_reducible rfl
      rotate_left
      · simp only [Act.put, List.setIfInBounds_toArray, List.set_cons_zero, List.set_cons_succ, i64_w, i32_w]
        rfl
      refine pure_ (i := 28) (N := some 58) (v := ?_) (a' := ?_) #[true, true, true, true, true, true, true, true, true, true, true, true, true, true, true, true, true, true, true, true, true, true, true, false, false, false, true, true, true, false, false, false, false, false, false, false] rfl rfl (any_of HT_.out (by kernel_rfl)) (fun _ _ _ h => h) (Or.inl ⟨by rfl, ?_⟩) ?_ ?_
      rotate_left
      · intro w'
        go_simp
        with_reducible rfl
      rotate_left
      · simp only [Act.put, List.setIfInBounds_toArray, List.set_cons_zero, List.set_cons_succ, i64_w, i32_w]
        rfl
      refine pure_ (i := 32) (N := some 62) (v := ?_) (a' := ?_) #[true, true, true, true, true, true, true, true, true, true, true, true, true, true, true, true, true, true, true, true, true, true, true, false, false, false, true, true, true, false, false, false, true, false, false, false] rfl rfl (any_of HT_.out (by kernel_rfl)) (fun _ _ _ h => h) (Or.inl ⟨by rfl, ?_⟩) ?_ ?_
      rotate_left
      · intro w'
        go_simp
        with_reducible rfl
      rotate_left
      · simp only [Act.put, List.setIfInBounds_toArray, List.set_cons_zero, List.set_cons_succ, i64_w, i32_w]
        rfl
      refine take_ (i := 23) (N := some 53) (v := ?_) (a' := ?_) #[true, true, true, true, true, true, true, true, true, true, true, true, true, true, true, true, true, true, true, true, true, true, true, true, false, false, true, true, true, false, false, false, true, false, false, false] rfl rfl (take_ofW HT_.out HW_.out (by kernel_rfl)) (fun _ _ _ h => h) (Or.inl ⟨by rfl, ?_⟩) hHeld ?_ ?_
      rotate_left
      · rintro w' ⟨s0, s1, s2, s3, s4, s5⟩
        go_simp
        with_reducible rfl
      rotate_left
      · simp only [Act.put, List.setIfInBounds_toArray, List.set_cons_zero, List.set_cons_succ, i64_w, i32_w]
        rfl
      refine take_ (i := 29) (N := some 59) (v := ?_) (a' := ?_) #[true, true, true, true, true, true, true, true, true, true, true, true, true, true, true, true, true, true, true, true, true, true, true, true, false, false, true, true, true, true, false, false, true, false, false, false] rfl rfl (take_ofW HT_.out HW_.out (by kernel_rfl)) (fun _ _ _ h => h) (Or.inl ⟨by rfl, ?_⟩) hHeld ?_ ?_
      rotate_left
      · rintro w' ⟨s0, s1, s2, s3, s4, s5⟩
        go_simp
        with_reducible rfl
      rotate_left
      · simp only [Act.put, List.setIfInBounds_toArray, List.set_cons_zero, List.set_cons_succ, i64_w, i32_w]
        rfl
      refine pure_ (i := 24) (N := some 54) (v := ?_) (a' := ?_) #[true, true, true, true, true, true, true, true, true, true, true, true, true, true, true, true, true, true, true, true, true, true, true, true, true, false, true, true, true, true, false, false, true, false, false, false] rfl rfl (any_of HT_.out (by kernel_rfl)) (fun _ _ _ h => h) (Or.inl ⟨by rfl, ?_⟩) ?_ ?_
      rotate_left
      · intro w'
        go_simp
        with_reducible rfl
      rotate_left
      · simp only [Act.put, List.setIfInBounds_toArray, List.set_cons_zero, List.set_cons_succ, i64_w, i32_w]
        rfl
      refine pure_ (i := 30) (N := some 60) (v := ?_) (a' := ?_) #[true, true, true, true, true, true, true, true, true, true, true, true, true, true, true, true, true, true, true, true, true, true, true, true, true, false, true, true, true, true, true, false, true, false, false, false] rfl rfl (any_of HT_.out (by kernel_rfl)) (fun _ _ _ h => h) (Or.inl ⟨by rfl, ?_⟩) ?_ ?_
      rotate_left
      · intro w'
        go_simp
        with_reducible rfl
      rotate_left
      · simp only [Act.put, List.setIfInBounds_toArray, List.set_cons_zero, List.set_cons_succ, i64_w, i32_w]
        rfl
      refine take_ (i := 25) (N := some 55) (v := ?_) (a' := ?_) #[true, true, true, true, true, true, true, true, true, true, true, true, true, true, true, true, true, true, true, true, true, true, true, true, true, true, true, true, true, true, true, false, true, false, false, false] rfl rfl (take_ofW HT_.out HW_.out (by kernel_rfl)) (fun _ _ _ h => h) (Or.inl ⟨by rfl, ?_⟩) hHeld ?_ ?_
      rotate_left
      · rintro w' ⟨s0, s1, s2, s3, s4, s5⟩
        go_simp
        with_reducible rfl
      rotate_left
      · simp only [Act.put, List.setIfInBounds_toArray, List.set_cons_zero, List.set_cons_succ, i64_w, i32_w]
        rfl
      refine take_ (i := 31) (N := some 61) (v := ?_) (a' := ?_) #[true, true, true, true, true, true, true, true, true, true, true, true, true, true, true, true, true, true, true, true, true, true, true, true, true, true, true, true, true, true, true, true, true, false, false, false] rfl rfl (take_ofW HT_.out HW_.out (by kernel_rfl)) (fun _ _ _ h => h) (Or.inl ⟨by rfl, ?_⟩) hHeld ?_ ?_
      rotate_left
      · rintro w' ⟨s0, s1, s2, s3, s4, s5⟩
        go_simp
        with_reducible rfl
      rotate_left
      · simp only [Act.put, List.setIfInBounds_toArray, List.set_cons_zero, List.set_cons_succ, i64_w, i32_w]
        rfl
      refine one_ (i := 33) (N := some 63) #[true, true, true, true, true, true, true, true, true, true, true, true, true, true, true, true, true, true, true, true, true, true, true, true, true, true, true, true, true, true, true, true, true, true, false, false] rfl rfl (one_of HT_.out (by kernel_rfl)) (by decide) (fun K hK => ?_)
      refine goes_ Tryd.func22 (by kernel_rfl) rfl #[.pointer (some ⟨a2, 0, none⟩), .pointer (some ⟨b2, 0, none⟩), .map (some b)] (by rfl) rfl rfl (by (try simp only [List.map_toArray, List.map_cons, List.map_nil]); first | done | rfl) ?_
      refine (impl_typ_fits.calls r r' _ _ b k1 M1 _ (HR.out.stay ST.out) (HR'.out.stay ST.out) HO.out.2 HM1.out (by have := HK.out; have := K1.out; omega)).mono ?_
      rintro _ w5 ⟨rfl, ⟨k2, hk2, hM2⟩, hg5⟩
      refine ⟨_, rfl, ?_⟩
      have ST5 := aM (ST.out.trans (HM1.out.stay hg5))
      have G5 := aM (G4.out.trans hg5)
      have K2 := aM hk2
      have HM2 := aM hM2
      have A5 := aM (A0.out.stay ST5.out)
      have A5' := aM (A0'.out.stay ST5.out)
      refine hK.out _ _ ⟨A5.out.c1, A5.out.c2, A5.out.c3, A5'.out.c1, A5'.out.c2, A5'.out.c3⟩ (fun hHeld => ?_)
      clear hg5 hk2 hM2
      clear hK K
      refine norm_ (a' := ?_) ?_ ?_
      rotate_left
      · show Act.put _ (some 63) _ = _
        simp only [Act.put, List.setIfInBounds_toArray, List.set_cons_zero, List.set_cons_succ, i64_w, i32_w]
        rfl
      refine pure_ (i := 34) (N := some 64) (v := ?_) (a' := ?_) #[true, true, true, true, true, true, true, true, true, true, true, true, true, true, true, true, true, true, true, true, true, true, true, true, true, true, true, true, true, true, true, true, true, true, true, false] rfl rfl (any_of HT_.out (by kernel_rfl)) (fun _ _ _ h => h) (Or.inl ⟨by rfl, ?_⟩) ?_ ?_
      rotate_left
      · intro w'
        go_simp
        with_reducible rfl
      rotate_left
      · simp only [Act.put, List.setIfInBounds_toArray, List.set_cons_zero, List.set_cons_succ, i64_w, i32_w]
        rfl
      refine pure_ (i := 35) (N := some 6) (v := ?_) (a' := ?_) #[true, true, true, true, true, true, true, true, true, true, true, true, true, true, true, true, true, true, true, true, true, true, true, true, true, true, true, true, true, true, true, true, true, true, true, true] rfl rfl (any_of HT_.out (by kernel_rfl)) (fun _ _ _ h => h) (Or.inl ⟨by rfl, ?_⟩) ?_ ?_
      rotate_left
      · intro w'
        go_simp
        with_reducible rfl
      rotate_left
      · simp only [Act.put, List.setIfInBounds_toArray, List.set_cons_zero, List.set_cons_succ, i64_w, i32_w]
        rfl
      refine done_ (done_of HT_.out (by kernel_rfl)) ?_
      go_wp2
      go_ret
      have e : r.fits r' M1 = (rb, RM) := RR.out
      exact ⟨congrArg (fun z : Bool × (Int → Option Ty) => Ending.returned (Value.bool z.1)) e, ⟨k2, by have := K1.out; have := K2.out; omega, by have h2 := HM2.out; rw [e] at h2; exact h2⟩, G5.out⟩
    | false =>
      refine one_ (i := 17) (N := some 47) #[true, true, true, true, true, true, true, true, true, true, true, true, true, true, true, true, true, true, false, false, false, false, false, false, false, false, false, false, false, false, false, false, false, false, false, false] rfl rfl (one_of HT_.out (by kernel_rfl)) (by decide) (fun K hK => ?_)
      refine goes_ Tryd.func22 (by kernel_rfl) rfl #[.pointer (some ⟨a1, 0, none⟩), .pointer (some ⟨b1, 0, none⟩), .map (some b)] (by rfl) rfl rfl (by (try simp only [List.map_toArray, List.map_cons, List.map_nil]); first | done | rfl) ?_
      refine (impl_typ_fits.calls l l' _ _ b k M _ (HL.out.below HB3.out) (HL'.out.below HB3.out) HO.out.1 (HM.out.below HB3.out) (by have := HK.out; omega)).mono ?_
      rw [HQ.out]
      rintro _ w4 ⟨rfl, ⟨k1, hk1, hM1⟩, hg4⟩
      refine ⟨_, rfl, ?_⟩
      have ST := aM ((Stay.below HB3.out).trans ((HM.out.below HB3.out).stay hg4))
      have G4 := aM ((grown_of_below HB3.out (some b)).trans hg4)
      have K1 := aM hk1
      have HM1 := aM hM1
      have A4 := aM (A0.out.stay ST.out)
      have A4' := aM (A0'.out.stay ST.out)
      refine hK.out _ _ ⟨A4.out.c1, A4.out.c2, A4.out.c3, A4'.out.c1, A4'.out.c2, A4'.out.c3⟩ (fun hHeld => ?_)
      clear hg4 hk1 hM1
      clear hK K
      refine norm_ (a' := ?_) ?_ ?_
      rotate_left
      · show Act.put _ (some 47) _ = _
        simp only [Act.put, List.setIfInBounds_toArray, List.set_cons_zero, List.set_cons_succ, i64_w, i32_w]
        rfl
      refine pure_ (i := 18) (N := some 48) (v := ?_) (a' := ?_) #[true, true, true, true, true, true, true, true, true, true, true, true, true, true, true, true, true, true, true, false, false, false, false, false, false, false, false, false, false, false, false, false, false, false, false, false] rfl rfl (any_of HT_.out (by kernel_rfl)) (fun _ _ _ h => h) (Or.inl ⟨by rfl, ?_⟩) ?_ ?_
      rotate_left
      · intro w'
        go_simp
        with_reducible rfl
      rotate_left
      · simp only [Act.put, List.setIfInBounds_toArray, List.set_cons_zero, List.set_cons_succ, i64_w, i32_w]
        rfl
      refine pure_ (i := 19) (N := some 49) (v := ?_) (a' := ?_) #[true, true, true, true, true, true, true, true, true, true, true, true, true, true, true, true, true, true, true, true, false, false, false, false, false, false, false, false, false, false, false, false, false, false, false, false] rfl rfl (any_of HT_.out (by kernel_rfl)) (fun _ _ _ h => h) (Or.inl ⟨by rfl, ?_⟩) ?_ ?_
      rotate_left
      · intro w'
        go_simp
        with_reducible rfl
      rotate_left
      · simp only [Act.put, List.setIfInBounds_toArray, List.set_cons_zero, List.set_cons_succ, i64_w, i32_w]
        rfl
      refine pure_ (i := 20) (N := some 50) (v := undef) (a' := ?_) #[true, true, true, true, true, true, true, true, true, true, true, true, true, true, true, true, true, true, true, true, true, false, false, false, false, false, false, false, false, false, false, false, false, false, false, false] rfl rfl (any_of HT_.out (by kernel_rfl)) (fun _ _ _ h => h) (Or.inr ⟨by rfl, rfl⟩) ?_ ?_
      rotate_left
      · simp only [Act.put, List.setIfInBounds_toArray, List.set_cons_zero, List.set_cons_succ, i64_w, i32_w]
        rfl
      refine pure_ (i := 21) (N := some 51) (v := undef) (a' := ?_) #[true, true, true, true, true, true, true, true, true, true, true, true, true, true, true, true, true, true, true, true, true, true, false, false, false, false, false, false, false, false, false, false, false, false, false, false] rfl rfl (any_of HT_.out (by kernel_rfl)) (fun _ _ _ h => h) (Or.inr ⟨by rfl, rfl⟩) ?_ ?_
      rotate_left
      · simp only [Act.put, List.setIfInBounds_toArray, List.set_cons_zero, List.set_cons_succ, i64_w, i32_w]
        rfl
      refine pure_ (i := 22) (N := some 52) (v := undef) (a' := ?_) #[true, true, true, true, true, true, true, true, true, true, true, true, true, true, true, true, true, true, true, true, true, true, true, false, false, false, false, false, false, false, false, false, false, false, false, false] rfl rfl (any_of HT_.out (by kernel_rfl)) (fun _ _ _ h => h) (Or.inr ⟨by rfl, rfl⟩) ?_ ?_
      rotate_left
      · simp only [Act.put, List.setIfInBounds_toArray, List.set_cons_zero, List.set_cons_succ, i64_w, i32_w]
        rfl
      refine pure_ (i := 23) (N := some 53) (v := undef) (a' := ?_) #[true, true, true, true, true, true, true, true, true, true, true, true, true, true, true, true, true, true, true, true, true, true, true, true, false, false, false, false, false, false, false, false, false, false, false, false] rfl rfl (any_of HT_.out (by kernel_rfl)) (fun _ _ _ h => h) (Or.inr ⟨by rfl, rfl⟩) ?_ ?_
      rotate_left
      · simp only [Act.put, List.setIfInBounds_toArray, List.set_cons_zero, List.set_cons_succ, i64_w, i32_w]
        rfl
      refine pure_ (i := 24) (N := some 54) (v := undef) (a' := ?_) #[true, true, true, true, true, true, true, true, true, true, true, true, true, true, true, true, true, true, true, true, true, true, true, true, true, false, false, false, false, false, false, false, false, false, false, false] rfl rfl (any_of HT_.out (by kernel_rfl)) (fun _ _ _ h => h) (Or.inr ⟨by rfl, rfl⟩) ?_ ?_
      rotate_left
      · simp only [Act.put, List.setIfInBounds_toArray, List.set_cons_zero, List.set_cons_succ, i64_w, i32_w]
        rfl
      refine pure_ (i := 25) (N := some 55) (v := undef) (a' := ?_) #[true, true, true, true, true, true, true, true, true, true, true, true, true, true, true, true, true, true, true, true, true, true, true, true, true, true, false, false, false, false, false, false, false, false, false, false] rfl rfl (any_of HT_.out (by kernel_rfl)) (fun _ _ _ h => h) (Or.inr ⟨by rfl, rfl⟩) ?_ ?_
      rotate_left
      · simp only [Act.put, List.setIfInBounds_toArray, List.set_cons_zero, List.set_cons_succ, i64_w, i32_w]
        rfl
      refine pure_ (i := 26) (N := some 56) (v := undef) (a' := ?_) #[true, true, true, true, true, true, true, true, true, true, true, true, true, true, true, true, true, true, true, true, true, true, true, true, true, true, true, false, false, false, false, false, false, false, false, false] rfl rfl (any_of HT_.out (by kernel_rfl)) (fun _ _ _ h => h) (Or.inr ⟨by rfl, rfl⟩) ?_ ?_
      rotate_left
      · simp only [Act.put, List.setIfInBounds_toArray, List.set_cons_zero, List.set_cons_succ, i64_w, i32_w]
        rfl
      refine pure_ (i := 27) (N := some 57) (v := undef) (a' := ?_) #[true, true, true, true, true, true, true, true, true, true, true, true, true, true, true, true, true, true, true, true, true, true, true, true, true, true, true, true, false, false, false, false, false, false, false, false] rfl rfl (any_of HT_.out (by kernel_rfl)) (fun _ _ _ h => h) (Or.inr ⟨by rfl, rfl⟩) ?_ ?_
      rotate_left
      · simp only [Act.put, List.setIfInBounds_toArray, List.set_cons_zero, List.set_cons_succ, i64_w, i32_w]
        rfl
      refine pure_ (i := 28) (N := some 58) (v := undef) (a' := ?_) #[true, true, true, true, true, true, true, true, true, true, true, true, true, true, true, true, true, true, true, true, true, true, true, true, true, true, true, true, true, false, false, false, false, false, false, false] rfl rfl (any_of HT_.out (by kernel_rfl)) (fun _ _ _ h => h) (Or.inr ⟨by rfl, rfl⟩) ?_ ?_
      rotate_left
      · simp only [Act.put, List.setIfInBounds_toArray, List.set_cons_zero, List.set_cons_succ, i64_w, i32_w]
        rfl
      refine pure_ (i := 29) (N := some 59) (v := undef) (a' := ?_) #[true, true, true, true, true, true, true, true, true, true, true, true, true, true, true, true, true, true, true, true, true, true, true, true, true, true, true, true, true, true, false, false, false, false, false, false] rfl rfl (any_of HT_.out (by kernel_rfl)) (fun _ _ _ h => h) (Or.inr ⟨by rfl, rfl⟩) ?_ ?_
      rotate_left
      · simp only [Act.put, List.setIfInBounds_toArray, List.set_cons_zero, List.set_cons_succ, i64_w, i32_w]
        rfl
      refine pure_ (i := 30) (N := some 60) (v := undef) (a' := ?_) #[true, true, true, true, true, true, true, true, true, true, true, true, true, true, true, true, true, true, true, true, true, true, true, true, true, true, true, true, true, true, true, false, false, false, false, false] rfl rfl (any_of HT_.out (by kernel_rfl)) (fun _ _ _ h => h) (Or.inr ⟨by rfl, rfl⟩) ?_ ?_
      rotate_left
      · simp only [Act.put, List.setIfInBounds_toArray, List.set_cons_zero, List.set_cons_succ, i64_w, i32_w]
        rfl
      refine pure_ (i := 31) (N := some 61) (v := undef) (a' := ?_) #[true, true, true, true, true, true, true, true, true, true, true, true, true, true, true, true, true, true, true, true, true, true, true, true, true, true, true, true, true, true, true, true, false, false, false, false] rfl rfl (any_of HT_.out (by kernel_rfl)) (fun _ _ _ h => h) (Or.inr ⟨by rfl, rfl⟩) ?_ ?_
      rotate_left
      · simp only [Act.put, List.setIfInBounds_toArray, List.set_cons_zero, List.set_cons_succ, i64_w, i32_w]
        rfl
      refine pure_ (i := 32) (N := some 62) (v := undef) (a' := ?_) #[true, true, true, true, true, true, true, true, true, true, true, true, true, true, true, true, true, true, true, true, true, true, true, true, true, true, true, true, true, true, true, true, true, false, false, false] rfl rfl (any_of HT_.out (by kernel_rfl)) (fun _ _ _ h => h) (Or.inr ⟨by rfl, rfl⟩) ?_ ?_
      rotate_left
      · simp only [Act.put, List.setIfInBounds_toArray, List.set_cons_zero, List.set_cons_succ, i64_w, i32_w]
        rfl
      refine pure_ (i := 33) (N := some 63) (v := undef) (a' := ?_) #[true, true, true, true, true, true, true, true, true, true, true, true, true, true, true, true, true, true, true, true, true, true, true, true, true, true, true, true, true, true, true, true, true, true, false, false] rfl rfl (any_of HT_.out (by kernel_rfl)) (fun _ _ _ h => h) (Or.inr ⟨by rfl, rfl⟩) ?_ ?_
      rotate_left
      · simp only [Act.put, List.setIfInBounds_toArray, List.set_cons_zero, List.set_cons_succ, i64_w, i32_w]
        rfl
      refine pure_ (i := 34) (N := some 64) (v := ?_) (a' := ?_) #[true, true, true, true, true, true, true, true, true, true, true, true, true, true, true, true, true, true, true, true, true, true, true, true, true, true, true, true, true, true, true, true, true, true, true, false] rfl rfl (any_of HT_.out (by kernel_rfl)) (fun _ _ _ h => h) (Or.inl ⟨by rfl, ?_⟩) ?_ ?_
      rotate_left
      · intro w'
        go_simp
        with_reducible rfl
      rotate_left
      · simp only [Act.put, List.setIfInBounds_toArray, List.set_cons_zero, List.set_cons_succ, i64_w, i32_w]
        rfl
      refine pure_ (i := 35) (N := some 6) (v := ?_) (a' := ?_) #[true, true, true, true, true, true, true, true, true, true, true, true, true, true, true, true, true, true, true, true, true, true, true, true, true, true, true, true, true, true, true, true, true, true, true, true] rfl rfl (any_of HT_.out (by kernel_rfl)) (fun _ _ _ h => h) (Or.inl ⟨by rfl, ?_⟩) ?_ ?_
      rotate_left
      · intro w'
        go_simp
        with_reducible rfl
      rotate_left
      · simp only [Act.put, List.setIfInBounds_toArray, List.set_cons_zero, List.set_cons_succ, i64_w, i32_w]
        rfl
      refine done_ (done_of HT_.out (by kernel_rfl)) ?_
      go_wp2
      go_ret
      have e : (false, M1) = (rb, RM) := RR.out
      cases e
      exact ⟨rfl, ⟨k1, by have := K1.out; omega, HM1.out⟩, G4.out⟩
end Go.Proofs.YtlkjikknofmcdaaDoor.G

namespace Go.Proofs.YtlkjikknofmcdaaDoor.TxtL
open Go.RowKit Go.Proofs.YtlkjikknofmcdaaDoor.EvL Go.Proofs.YtlkjikknofmcdaaDoorW.PrintWords
set_option linter.unusedVariables false
set_option linter.unusedSimpArgs false

def B (l : List UInt8) : ByteArray := ⟨l.toArray⟩
theorem B_list (l : List UInt8) : (B l).data.toList = l := rfl
theorem B_of (s : ByteArray) : B s.data.toList = s := rfl
theorem B_size (l : List UInt8) : (B l).size = l.length := by show l.toArray.size = _; simp
theorem len (s : ByteArray) : s.data.toList.length = s.size := by rw [Array.length_toList]; rfl
theorem B_append (a b : List UInt8) : B a ++ B b = B (a ++ b) := by
  apply ByteArray.ext
  simp [B]
theorem B_inj {a b : List UInt8} (h : B a = B b) : a = b := by have := congrArg (fun s => s.data.toList) h; exact this
theorem data_inj {s t : ByteArray} (h : s.data.toList = t.data.toList) : s = t := by rw [← B_of s, ← B_of t, h]
theorem loop_eq (s : ByteArray) : ∀ (n i : Nat) (r : List UInt8), s.size - i = n → ByteArray.toList.loop s i r = r.reverse ++ s.data.toList.drop i := by
  intro n
  induction n with
  | zero =>
    intro i r h
    rw [ByteArray.toList.loop, if_neg (by omega), List.drop_eq_nil_of_le (by rw [len]; omega), List.append_nil]
  | succ n ih =>
    intro i r h
    have hi : i < s.size := by omega
    rw [ByteArray.toList.loop, if_pos hi, ih (i + 1) _ (by omega), List.drop_eq_getElem_cons (show i < s.data.toList.length by rw [len]; exact hi)]
    have e : s.get! i = s.data.toList[i]'(by rw [len]; exact hi) := by
      show s.data[i]! = _
      rw [getElem!_pos s.data i hi]
      exact (Array.getElem_toList _).symm
    rw [List.reverse_cons, List.append_assoc, List.singleton_append, e]
theorem toList_eq (s : ByteArray) : s.toList = s.data.toList := by
  show ByteArray.toList.loop s 0 [] = _
  rw [loop_eq s s.size 0 [] (by omega)]; rfl
theorem toList_B (l : List UInt8) : (B l).toList = l := toList_eq _
theorem toList_iff (s t : ByteArray) : s.toList = t.toList ↔ s = t := by rw [toList_eq, toList_eq]; exact ⟨data_inj, fun h => h ▸ rfl⟩
theorem bt_B (l : List UInt8) (i : Nat) (h : i < l.length) : bt (B l) (i : Int) = ((l[i]).toNat : Int) := by
  rw [← bt_at (B l) i (by rw [Int.toNat_natCast, B_size]; exact h)]
  rfl
theorem ext_drop (l : List UInt8) (n m : Nat) (h : m = l.length) : (B l).extract n m = B (l.drop n) := by
  subst h
  apply ByteArray.ext
  simp [B]
  exact List.take_of_length_le (by rw [List.length_drop]; omega)

def isD (c : UInt8) : Prop := 48 ≤ c.toNat ∧ c.toNat ≤ 57
instance (c : UInt8) : Decidable (isD c) := by unfold isD; exact inferInstance
def stepD (a : Nat) (c : UInt8) : Nat := a * 10 + (c.toNat - 48)
def valF (a : Nat) (l : List UInt8) : Nat := l.foldl stepD a
theorem valF_cons (a : Nat) (c : UInt8) (l : List UInt8) : valF a (c :: l) = valF (a * 10 + (c.toNat - 48)) l := by unfold valF; rw [List.foldl_cons, stepD]
theorem valF_one (a : Nat) (c : UInt8) : valF a [c] = a * 10 + (c.toNat - 48) := by unfold valF; rw [List.foldl_cons, List.foldl_nil, stepD]
theorem valF_app (l m : List UInt8) (a : Nat) : valF a (l ++ m) = valF (valF a l) m := List.foldl_append
theorem head_app {α : Type} {l : List α} (m : List α) (h : l ≠ []) : (l ++ m).head? = l.head? := by
  cases l with
  | nil => exact absurd rfl h
  | cons a l => rfl
theorem valF_ge : ∀ (l : List UInt8) (a : Nat), a ≤ valF a l
  | [], a => Nat.le_refl _
  | c :: l, a => by rw [valF_cons]; exact Nat.le_trans (by omega) (valF_ge l _)
theorem valF_lt : ∀ (l : List UInt8) (a : Nat), (∀ c ∈ l, isD c) → valF a l < (a + 1) * 10 ^ l.length
  | [], a, _ => by show a < (a + 1) * 1; omega
  | c :: l, a, h => by
    have hc := h c (by simp)
    have ih := valF_lt l (a * 10 + (c.toNat - 48)) (fun x hx => h x (by simp [hx]))
    rw [valF_cons, List.length_cons, Nat.pow_succ]
    refine Nat.lt_of_lt_of_le ih ?_
    rw [Nat.mul_comm (10 ^ l.length) 10, ← Nat.mul_assoc]
    exact Nat.mul_le_mul_right _ (by unfold isD at hc; omega)
theorem digit_ofNat (i : Nat) (h : i < 10) : (UInt8.ofNat (48 + i)).toNat = 48 + i := by
  rw [UInt8.toNat_ofNat']; omega
def Numeral (l : List UInt8) : Prop := (∀ c ∈ l, isD c) ∧ l ≠ [] ∧ (l.head? ≠ some 48 ∨ l.length = 1)
theorem dec_numeral : ∀ (n : Nat), Numeral (Lib.decDigits n) ∧ valF 0 (Lib.decDigits n) = n ∧ (1 ≤ n → (Lib.decDigits n).head? ≠ some 48) := by
  intro n
  induction n using Nat.strongRecOn with
  | _ n ih =>
    by_cases h : n < 10
    · have hd := digit_ofNat n h
      rw [Lib.decDigits_one h]
      refine ⟨⟨?_, by simp, .inr rfl⟩, ?_, ?_⟩
      · intro c hc
        rw [List.mem_singleton] at hc
        rw [hc]; unfold isD; rw [hd]; omega
      · rw [valF_one, hd]; omega
      · intro h1 e
        have e2 : UInt8.ofNat (48 + n) = 48 := by simpa using e
        have e3 := congrArg UInt8.toNat e2
        rw [hd] at e3
        have : (48 : UInt8).toNat = 48 := rfl
        omega
    · have e : Lib.decDigits n = Lib.decDigits (n / 10) ++ [UInt8.ofNat (48 + n % 10)] := by rw [Lib.decDigits, dif_neg h]
      obtain ⟨⟨h1, h2, _⟩, h4, h5⟩ := ih (n / 10) (by omega)
      have hd := digit_ofNat (n % 10) (by omega)
      have hh : (Lib.decDigits n).head? ≠ some 48 := by
        rw [e, head_app _ h2]
        exact h5 (by omega)
      refine ⟨⟨?_, by rw [e]; simp, .inl hh⟩, ?_, fun _ => hh⟩
      · intro c hc
        rw [e, List.mem_append, List.mem_singleton] at hc
        rcases hc with hc | hc
        · exact h1 c hc
        · rw [hc]; unfold isD; rw [hd]; omega
      · rw [e, valF_app, h4, valF_one, hd]; omega
theorem parse_ok : ∀ (l : List UInt8) (a : Nat), (∀ c ∈ l, isD c) → valF a l ≤ 1000000000000000000 → Lib.parseUint10 a l = .ok (valF a l)
  | [], a, _, _ => rfl
  | c :: l, a, h, hv => by
    have hc : isD c := h c (by simp)
    rw [valF_cons] at hv
    have hg := valF_ge l (a * 10 + (c.toNat - 48))
    unfold Lib.parseUint10
    rw [if_pos (show 48 ≤ c.toNat ∧ c.toNat ≤ 57 from hc), if_neg (by omega), if_neg (by omega), parse_ok l _ (fun x hx => h x (by simp [hx])) hv, valF_cons]
theorem atoi_digits (l : List UInt8) (h1 : ∀ c ∈ l, isD c) (h2 : l ≠ []) (hn : valF 0 l ≤ 1000000000000000000) : Lib.atoiAll l = .ok ((valF 0 l : Nat) : Int) := by
  have hp := parse_ok l 0 h1 hn
  generalize valF 0 l = n at hp hn
  cases l with
  | nil => exact absurd rfl h2
  | cons c r =>
    have hc : isD c := h1 c (by simp)
    unfold isD at hc
    unfold Lib.atoiAll
    have hs : ¬ (c.toNat = 43 ∨ c.toNat = 45) := by omega
    have hs2 : ¬ c.toNat = 45 := by omega
    simp only [if_neg hs]
    unfold Lib.parseMag
    rw [if_neg (by simp), hp]
    simp only [hs2, not_false_eq_true, true_and, false_and, if_false]
    rw [if_neg (by omega)]
end Go.Proofs.YtlkjikknofmcdaaDoor.TxtL

namespace Go.Proofs.YtlkjikknofmcdaaDoor.ReadM
open Go.RowKit Go.Proofs.YtlkjikknofmcdaaDoor.EvL Go.Proofs.YtlkjikknofmcdaaDoor.TxtL Go.Proofs.YtlkjikknofmcdaaDoorW.PrintWords
set_option linter.unusedVariables false
set_option linter.unusedSimpArgs false

def digs : Nat → List UInt8 → List UInt8
  | 0, _ => []
  | _ + 1, [] => []
  | m + 1, c :: l => if isD c then c :: digs m l else []
theorem digs_all : ∀ (m : Nat) (l : List UInt8), ∀ c ∈ digs m l, isD c
  | 0, _, c, h => by simp [digs] at h
  | _ + 1, [], c, h => by simp [digs] at h
  | m + 1, x :: l, c, h => by
    unfold digs at h
    by_cases hx : isD x
    · rw [if_pos hx] at h
      rcases List.mem_cons.mp h with rfl | h
      · exact hx
      · exact digs_all m l c h
    · rw [if_neg hx] at h; simp at h
theorem digs_len : ∀ (m : Nat) (l : List UInt8), (digs m l).length ≤ m ∧ (digs m l).length ≤ l.length
  | 0, _ => by simp [digs]
  | _ + 1, [] => by simp [digs]
  | m + 1, x :: l => by
    have ih := digs_len m l
    unfold digs
    split
    · simp only [List.length_cons]; omega
    · simp
theorem digs_pre : ∀ (m : Nat) (l : List UInt8), l = digs m l ++ l.drop (digs m l).length
  | 0, _ => by simp [digs]
  | _ + 1, [] => by simp [digs]
  | m + 1, x :: l => by
    have ih := digs_pre m l
    unfold digs
    split
    · rw [List.length_cons, List.drop_succ_cons, List.cons_append, ← ih]
    · rfl
def NoD (r : List UInt8) : Prop := ∀ c, r.head? = some c → ¬ isD c
theorem noD_nil : NoD [] := fun c h => by cases h
theorem noD_cons {c : UInt8} (r : List UInt8) (h : ¬ isD c) : NoD (c :: r) := fun x hx => by
  have : c = x := by simpa using hx
  rw [← this]; exact h
theorem digs_app : ∀ (m : Nat) (ds r : List UInt8), (∀ c ∈ ds, isD c) → ds.length ≤ m → NoD r → digs m (ds ++ r) = ds
  | 0, ds, r, _, hl, _ => by
    have : ds = [] := List.eq_nil_of_length_eq_zero (by omega)
    rw [this]; rfl
  | m + 1, [], r, _, _, hr => by
    cases r with
    | nil => rfl
    | cons c r => rw [List.nil_append, digs, if_neg (hr c rfl)]
  | m + 1, x :: ds, r, h, hl, hr => by
    rw [List.cons_append, digs, if_pos (h x (by simp)), digs_app m ds r (fun c hc => h c (by simp [hc])) (by simpa using hl) hr]
theorem dec_len : ∀ (m n : Nat), 1 ≤ m → n < 10 ^ m → (Lib.decDigits n).length ≤ m
  | 0, n, h, _ => by omega
  | m + 1, n, _, hn => by
    by_cases h : n < 10
    · rw [Lib.decDigits_one h]; simp
    · have hm : 1 ≤ m := by
        cases m with
        | zero => simp at hn; omega
        | succ m => omega
      rw [Nat.pow_succ] at hn
      have ih := dec_len m (n / 10) hm (by omega)
      rw [Lib.decDigits, dif_neg h, List.length_append, List.length_singleton]
      omega
theorem val_lt (ds : List UInt8) (h : ∀ c ∈ ds, isD c) : valF 0 ds < 10 ^ ds.length := by
  have := valF_lt ds 0 h
  rwa [Nat.zero_add, Nat.one_mul] at this
theorem val_le (m : Nat) (ds : List UInt8) (h : ∀ c ∈ ds, isD c) (hl : ds.length ≤ m) : valF 0 ds < 10 ^ m := Nat.lt_of_lt_of_le (val_lt ds h) (Nat.pow_le_pow_right (by omega) hl)
def eat (x : UInt8) : List UInt8 → Option (List UInt8)
  | [] => none
  | c :: r => if c = x then some r else none
theorem eat_some {x : UInt8} {r r' : List UInt8} (h : eat x r = some r') : r = x :: r' := by
  cases r with
  | nil => cases h
  | cons c r =>
    replace h : (if c = x then some r else none) = some r' := h
    by_cases hc : c = x
    · rw [if_pos hc] at h; injection h with h; rw [hc, h]
    · rw [if_neg hc] at h; cases h
theorem eat_cons (x : UInt8) (r : List UInt8) : eat x (x :: r) = some r := if_pos rfl
theorem trim_eat (x : UInt8) (r : List UInt8) : Lib.hasPrefix r [x] = (eat x r).isSome ∧ Lib.trimPrefix r [x] = (eat x r).getD r := by
  cases r with
  | nil => exact ⟨rfl, rfl⟩
  | cons c r =>
    have hp : Lib.hasPrefix (c :: r) [x] = decide (x = c) := by unfold Lib.hasPrefix; rw [Bool.eq_iff_iff, decide_eq_true_iff]; simp [List.isPrefixOf]
    have he : eat x (c :: r) = if c = x then some r else none := rfl
    unfold Lib.trimPrefix
    rw [hp, he]
    by_cases h : c = x
    · subst h; simp
    · have h' : ¬ x = c := fun e => h e.symm
      simp [h, h']

end Go.Proofs.YtlkjikknofmcdaaDoor.ReadM

namespace Go.Proofs.YtlkjikknofmcdaaDoor.G
open Go.RowKit Go.Proofs.YtlkjikknofmcdaaDoorW.PrintWords Go.Proofs.YtlkjikknofmcdaaDoorW.PrintLast Go.Proofs.YtlkjikknofmcdaaDoorW.PrintMore Go.Proofs.YtlkjikknofmcdaaDoor.Short
attribute [local go_sem] max2_int min2_int max_two min_two max_three min_three max_four min_four   -- for this text's walks alone
set_option linter.unusedVariables false
set_option linter.unusedSimpArgs false

def slices_Index_int_int.l0 : Nat → List Int → Int → Int → Int → Option (Int)
  | 0, _, _, _, _ => none
  | k + 1, x0, x1, x7, x8 => if x8 < x7 then (if 0 ≤ x8 then (if x8 < (x0.length : Int) then (if x1 = (rd x0 x8) then (some x8) else (slices_Index_int_int.l0 k x0 x1 x7 (wrap64 (x8 + 1)))) else (none)) else (none)) else (some (-1))
def slices_Index_int_int.f (k : Nat) (l0 : List Int) (a1 : Int) : Option (Int) := slices_Index_int_int.l0 k l0 a1 (l0.length : Int) 0
set_option maxHeartbeats 8000000 in
set_option maxRecDepth 100000 in
theorem slices_Index_int_int.calls (k : Nat) (A0 : Option Addr) (c0 : Nat) (l0 : List Int) (a1 : Int) (r : Int) (w : World) (hr0 : Kd.C (Kd.int .i64) w A0 l0.length l0) (hc0 : l0.length ≤ c0) (h : slices_Index_int_int.f k l0 a1 = some r) :
    Calls Tryd.prog 51 #[.slice A0 l0.length c0, .int .i64 a1] w fun e w' => e = .returned (.int .i64 r) ∧ Drawn0 w w' := by
  have HR0 := aM hr0
  have HC0 := aM hc0
  clear hr0 hc0
  have H : (slices_Index_int_int.l0 k l0 a1 (l0.length : Int) 0) = some r := h
  clear h
  have H' := aM H
  clear H
  go_enter Tryd.func51, Tryd.ntmps51
  go_wp2
  go_loopg [8] k (fun kq v8 w' => ∃ (x8_1 : Int), v8 = .int .i64 x8_1 ∧ Aside0 (slices_Index_int_int.l0 kq l0 a1 (l0.length : Int) x8_1 = some r) ∧ Aside0 (kq ≤ k) ∧ Drawn0 w w')
  case atStart => exact ⟨(0), (by first | rfl | (simp; done) | (simp [*]; done)), H', ⟨Nat.le_refl _⟩, by repeat (first | exact Drawn0.refl _ | apply Drawn0.step)⟩
  case round =>
    clear H'
    try clear p2
    obtain ⟨x8_1, rfl, HA, HK1, ⟨m1, rfl⟩⟩ := hrel
    cases gk with
    | zero => exact absurd HA.out (by simp [slices_Index_int_int.l0])
    | succ k1 =>
      have H := HA.out
      clear HA
      simp only [slices_Index_int_int.l0] at H
      by_cases c3 : x8_1 < (l0.length : Int)
      · rw [if_pos c3] at H
        have c3b0 : decide (x8_1 < (l0.length : Int)) = true := decide_eq_true c3
        clear c3
        by_cases c4 : 0 ≤ x8_1
        · rw [if_pos c4] at H
          have c4b0 : decide (0 ≤ x8_1) = true := decide_eq_true c4
          clear c4
          by_cases c5 : x8_1 < (l0.length : Int)
          · rw [if_pos c5] at H
            have c5b0 : decide (x8_1 < (l0.length : Int)) = true := decide_eq_true c5
            clear c5
            by_cases c6 : a1 = (rd l0 x8_1)
            · rw [if_pos c6] at H
              have c6b0 : (a1 == (rd l0 x8_1)) = true := beq_iff_eq.mpr c6
              have c6b1 : (a1 != (rd l0 x8_1)) = false := bne_eq_false_iff_eq.mpr c6
              clear c6
              obtain rfl := Option.some.inj H
              have p101 : 0 ≤ (x8_1 : Int) := of_decide_eq_true (by first | (with_reducible assumption) | assumption)
              have q101 : x8_1 < (l0.length : Int) := of_decide_eq_true (by first | (with_reducible assumption) | assumption)
              obtain ⟨ad101, e101, hx101_0⟩ := Kd.at_int HR0.out x8_1 p101 q101
              cases e101
              replace p101 := eq_true p101
              replace q101 := eq_true q101
              go_wp2
              go_ret
              exact ⟨by first | rfl | (simp; done) | (simp [*]; done), by repeat (first | exact Drawn0.refl _ | apply Drawn0.step)⟩
            · rw [if_neg c6] at H
              have c6b0 : (a1 == (rd l0 x8_1)) = false := beq_eq_false_iff_ne.mpr c6
              have c6b1 : (a1 != (rd l0 x8_1)) = true := bne_iff_ne.mpr c6
              have H' := aM H
              clear H
              have p101 : 0 ≤ (x8_1 : Int) := of_decide_eq_true (by first | (with_reducible assumption) | assumption)
              have q101 : x8_1 < (l0.length : Int) := of_decide_eq_true (by first | (with_reducible assumption) | assumption)
              obtain ⟨ad101, e101, hx101_0⟩ := Kd.at_int HR0.out x8_1 p101 q101
              cases e101
              replace p101 := eq_true p101
              replace q101 := eq_true q101
              go_wp2
              go_roundg k1
              case measure => have := HK1.out; omega
              case rel => exact ⟨(wrap64 (x8_1 + 1)), (by first | rfl | (simp; done) | (simp [*]; done)), H', ⟨by have := HK1.out; omega⟩, by repeat (first | exact Drawn0.refl _ | apply Drawn0.step)⟩
          · rw [if_neg c5] at H
            exact absurd H (by simp)
        · rw [if_neg c4] at H
          exact absurd H (by simp)
      · rw [if_neg c3] at H
        have c3b0 : decide (x8_1 < (l0.length : Int)) = false := decide_eq_false c3
        clear c3
        obtain rfl := Option.some.inj H
        go_wp2
        go_ret
        exact ⟨by first | rfl | (simp; done) | (simp [*]; done), by repeat (first | exact Drawn0.refl _ | apply Drawn0.step)⟩


def slices_Contains_int_int.f (k : Nat) (l0 : List Int) (a1 : Int) : Option (Bool) := (slices_Index_int_int.f k l0 a1).bind fun t101 => (some (decide (t101 ≥ 0)))
set_option maxHeartbeats 8000000 in
set_option maxRecDepth 100000 in
theorem slices_Contains_int_int.calls (k : Nat) (A0 : Option Addr) (c0 : Nat) (l0 : List Int) (a1 : Int) (r : Bool) (w : World) (hr0 : Kd.C (Kd.int .i64) w A0 l0.length l0) (hc0 : l0.length ≤ c0) (h : slices_Contains_int_int.f k l0 a1 = some r) :
    Calls Tryd.prog 44 #[.slice A0 l0.length c0, .int .i64 a1] w fun e w' => e = .returned (.bool r) ∧ Drawn0 w w' := by
  have HR0 := aM hr0
  have HC0 := aM hc0
  clear hr0 hc0
  have H : ((slices_Index_int_int.f k l0 a1).bind fun t101 => (some (decide (t101 ≥ 0)))) = some r := h
  clear h
  replace H := Option.bind_eq_some_iff.mp H
  obtain ⟨t101, A30, H⟩ := H
  replace H : (some (decide (t101 ≥ 0))) = some r := H
  have A3 := aM A30
  clear A30
  obtain rfl := Option.some.inj H
  go_enter Tryd.func44, Tryd.ntmps44
  go_wp2_with (first | ((with_reducible refine gate_callee (f := 51) rfl ?_); refine goesL_ (some 7) rfl rfl Tryd.func51 (by kernel_rfl) rfl #[.slice A0 l0.length c0, .int .i64 a1] rfl (by (try simp only [List.map_toArray, List.map_cons, List.map_nil]); first | done | rfl | (simp only [List.length_drop, List.length_take]; rfl)) ?_; (with_reducible refine (slices_Index_int_int.calls k _ _ l0 a1 t101 _ ?side1 ?side2 A3.out).mono ?_); (case side1 => repeat (first | exact HR0.out | (with_reducible refine Kd.C_alloc ?_ _) | (with_reducible refine Kd.C_drewN ?_ _) | (with_reducible refine Kd.C_drew ?_))); (case side2 => exact HC0.out); rintro e w' ⟨rfl, ⟨nd, rfl⟩⟩; refine ⟨_, rfl, ?_⟩))
  go_ret
  exact ⟨by first | rfl | (simp; done) | (simp [*]; done), by repeat (first | exact Drawn0.refl _ | apply Drawn0.step)⟩

end Go.Proofs.YtlkjikknofmcdaaDoor.G

namespace Go.Proofs.YtlkjikknofmcdaaDoor.G
open Go.RowKit Go.Proofs.YtlkjikknofmcdaaDoorW.PrintWords Go.Proofs.YtlkjikknofmcdaaDoorW.PrintLast Go.Proofs.YtlkjikknofmcdaaDoorW.PrintMore Go.Proofs.YtlkjikknofmcdaaDoor.EvL Go.Proofs.YtlkjikknofmcdaaDoor.Short
set_option linter.unusedVariables false
set_option linter.unusedSimpArgs false

theorem index_f (l : List Int) (n : Int) (hl : l.length ≤ 4611686018427387904) : ∀ (d i : Nat), i + d = l.length → ∃ r, slices_Index_int_int.l0 (d + 1) l n (l.length : Int) (i : Int) = some r ∧ (r ≥ 0 ↔ n ∈ l.drop i)
  | 0, i, h => by
    refine ⟨-1, ?_, ?_⟩
    · simp only [slices_Index_int_int.l0]
      rw [if_neg (by omega)]
    · rw [List.drop_eq_nil_of_le (by omega)]
      simp
  | d + 1, i, h => by
    have hi : i < l.length := by omega
    have e : rd l (i : Int) = l[i] := by unfold rd; rw [Int.toNat_natCast, List.getD_eq_getElem?_getD, List.getElem?_eq_getElem hi]; rfl
    have w1 : wrap64 ((i : Int) + 1) = ((i + 1 : Nat) : Int) := by rw [w64 (by omega) (by omega)]; omega
    obtain ⟨r, h1, h2⟩ := index_f l n hl d (i + 1) (by omega)
    rw [slices_Index_int_int.l0, if_pos (by omega), if_pos (by omega), if_pos (by omega), e, w1, List.drop_eq_getElem_cons hi]
    by_cases c : n = l[i]
    · rw [if_pos c]
      exact ⟨_, rfl, by rw [← c]; simp⟩
    · rw [if_neg c]
      exact ⟨r, h1, by rw [h2, List.mem_cons]; exact ⟨Or.inr, fun h => h.resolve_left c⟩⟩
theorem has_f (l : List Int) (n : Int) (hl : l.length ≤ 4611686018427387904) : slices_Contains_int_int.f (l.length + 1) l n = some (decide (n ∈ l)) := by
  obtain ⟨r, h1, h2⟩ := index_f l n hl l.length 0 (by omega)
  unfold slices_Contains_int_int.f slices_Index_int_int.f
  have h1' : slices_Index_int_int.l0 (l.length + 1) l n (l.length : Int) 0 = some r := h1
  rw [h1']
  exact congrArg some (decide_eq_decide.mpr (by rw [h2, List.drop_zero]))
def vstep (out : List Int) (n : Int) : List Int := if n ∈ out then out else out ++ [n]
theorem vstep_len (out : List Int) (n : Int) : (vstep out n).length ≤ out.length + 1 := by
  unfold vstep
  split
  · omega
  · rw [List.length_append, List.length_singleton]; omega
theorem vfold_len : ∀ (ys out : List Int), (ys.foldl vstep out).length ≤ out.length + ys.length
  | [], out => by simp
  | y :: ys, out => by
    have h1 := vfold_len ys (vstep out y)
    have h2 := vstep_len out y
    rw [List.foldl_cons, List.length_cons]
    omega
def Ty.vars : Ty → List Int
  | .v n => [n]
  | .a l r => r.vars.foldl vstep l.vars
theorem Ty.vars_len : ∀ t : Ty, t.vars.length ≤ t.nodes
  | .v n => Nat.le_refl _
  | .a l r => by
    have h1 := vfold_len r.vars l.vars
    have h2 := Ty.vars_len l
    have h3 := Ty.vars_len r
    show (r.vars.foldl vstep l.vars).length ≤ 1 + l.nodes + r.nodes
    omega
set_option maxHeartbeats 8000000 in
set_option maxRecDepth 100000 in
theorem impl_typ_vars.calls : ∀ (t : Ty) (x : Value) (w : World) (h : IsT w t x) (hn : t.nodes ≤ 1099511627776), Calls Tryd.prog 24 #[x] w fun e w' => ∃ v, e = .returned v ∧ Kd.R (Kd.int .i64) 3 w' w.heap.size (fun _ => True) v t.vars ∧ Below w.heap.size w w'
  | .v n, x, w, h, hn => by
    obtain ⟨g, rfl, h0, h1⟩ := h.varc
    have HX := aM h
    clear h hn
    go_enter Tryd.func24, Tryd.ntmps24
    go_wp2_with (first
      | ((with_reducible refine gate_callee (f := 31) rfl ?_); refine goesL_ (some 7) rfl rfl Tryd.func31 (by kernel_rfl) rfl #[.pointer (some ⟨g, 0, none⟩)] rfl tA ?_; (with_reducible refine (impl_typ_isVar.calls (t := .v n) _ ?s1).mono ?_); (case s1 => exact HX.out); rintro _ w1 ⟨rfl, hb⟩; refine ⟨_, rfl, ?_⟩; have HB := aM hb; have k0 := (hb.cell (World.block_lt_of_cell? _ _ h0)).trans h0; clear hb h0 h1)
      | ((with_reducible refine gate_dst (N := 12) rfl ?_); refine Kd.R_lit (Kd.int .i64) _ 3 ?hg (N := 12) ?hd (xs := ([n] : List Int)) (inner := [.int .i64 n]) (ok := fun _ => True) (okp := fun _ => True) ?hr ?hp (fun _ hk => hk) trivial (Below.refl _ _) (Nat.le_refl _) (by simp) ?_; (case hd => rfl); (case hg => rfl); (case hr => first | (go_simp; done) | (go_simp; rfl)); (case hp => exact (Reps.one (show Kd.M (Kd.int .i64) _ _ _ n [.int .i64 n] from rfl) (Reps.none _ _))); intro v2 w2 ho hb hg_ hnew_; have HO := aM (Kd.R_lower ho HB.out.size); have HB2 := aM (below_step HB.out hb); clear hg_ hnew_ ho hb))
    go_ret
    exact ⟨_, rfl, HO.out, HB2.out⟩
  | .a l r, x, w, h, hn => by
    have hN : 1 + l.nodes + r.nodes ≤ 1099511627776 := hn
    obtain ⟨g, p, u1, u2, rfl, h1, h2, h3, hl, hr⟩ := h.arrc
    have HX := aM h
    have HL := aM hl
    have HR := aM hr
    obtain ⟨g1, rfl⟩ := hl.ptr
    obtain ⟨g2, rfl⟩ := hr.ptr
    have HN : Aside0 (l.nodes ≤ 1099511627776 ∧ r.nodes ≤ 1099511627776) := ⟨by omega⟩
    have HQ : Aside0 (l.vars.length + r.vars.length ≤ 1099511627776) := ⟨by have := Ty.vars_len l; have := Ty.vars_len r; omega⟩
    obtain ⟨xs, hxs⟩ : ∃ y, y = l.vars := ⟨_, rfl⟩
    obtain ⟨ys, hys⟩ : ∃ y, y = r.vars := ⟨_, rfl⟩
    rw [← hxs, ← hys] at HQ
    have XS := aM hxs
    have YS := aM hys
    clear h hn hN hl hr hxs hys
    go_enter Tryd.func24, Tryd.ntmps24
    go_wp2_with (first
      | ((with_reducible refine gate_callee (f := 31) rfl ?_); refine goesL_ (some 7) rfl rfl Tryd.func31 (by kernel_rfl) rfl #[.pointer (some ⟨g, 0, none⟩)] rfl tA ?_; (with_reducible refine (impl_typ_isVar.calls (t := .a l r) _ ?s1).mono ?_); (case s1 => exact HX.out); rintro _ w1 ⟨rfl, hb⟩; refine ⟨_, rfl, ?_⟩; have HB := aM hb; have k1 := (hb.cell (World.block_lt_of_cell? _ _ h1)).trans h1; have k2 := (hb.cell (World.block_lt_of_cell? _ _ h2)).trans h2; have k3 := (hb.cell (World.block_lt_of_cell? _ _ h3)).trans h3; clear hb h1 h2 h3)
      | ((with_reducible refine gate_callee (f := 24) rfl ?_); refine goesL_ (some 19) rfl rfl Tryd.func24 (by kernel_rfl) rfl #[.pointer (some ⟨g1, 0, none⟩)] rfl tA ?_; (with_reducible refine (impl_typ_vars.calls l _ _ ?s1 ?s2).mono ?_); (case s1 => exact HL.out.below HB.out); (case s2 => exact HN.out.1); rintro _ w2 ⟨v2, rfl, hR, hb⟩; rw [← XS.out] at hR; refine ⟨_, rfl, ?_⟩; have HO := aM (Kd.R_lower hR HB.out.size); have HB2 := aM (below_step HB.out hb); have m1 := (hb.cell (World.block_lt_of_cell? _ _ k1)).trans k1; have m3 := (hb.cell (World.block_lt_of_cell? _ _ k3)).trans k3; clear hb hR k1 k2 k3)
      | ((with_reducible refine gate_callee (f := 24) rfl ?_); refine goesL_ (some 26) rfl rfl Tryd.func24 (by kernel_rfl) rfl #[.pointer (some ⟨g2, 0, none⟩)] rfl tA ?_; (with_reducible refine (impl_typ_vars.calls r _ _ ?s1 ?s2).mono ?_); (case s1 => exact HR.out.below HB2.out); (case s2 => exact HN.out.2); rintro _ w3 ⟨v3, rfl, hR, hb⟩; rw [← YS.out] at hR; obtain ⟨Ay, cy, rfl⟩ := Kd.R_slice hR; refine ⟨_, rfl, ?_⟩; have HY : Aside0 (Kd.R (Kd.int .i64) 3 w3 w.heap.size (fun k => True ∧ some k ≠ v2.ownBlock) (.slice Ay ys.length cy) ys) := ⟨Kd.R_lower (Kd.R_mono (Kd.R_bound hR) (fun k hk => ⟨trivial, fun e => by have := Kd.R_lt HO.out k e.symm; have := hk.2.1; omega⟩)) HB2.out.size⟩; have HO3 := aM (Kd.R_below HO.out hb); have HB3 := aM (below_step HB2.out hb); clear hb hR m1 m3 HO))
    go_loopg [3, 28] ys.length (fun gk v3 v28 w' => ∃ (j : Nat) (out : List Int), v28 = .int .i64 (j : Int) ∧ Aside0 (gk + j = ys.length) ∧ Aside0 (out = (ys.take j).foldl vstep xs) ∧ Aside0 (Kd.R (Kd.int .i64) 3 w' w.heap.size (fun _ => True) v3 out) ∧ Aside0 (Kd.R (Kd.int .i64) 3 w' w.heap.size (fun k => True ∧ some k ≠ v3.ownBlock) (.slice Ay ys.length cy) ys) ∧ Aside0 (Below w.heap.size w w'))
    case atStart => exact ⟨0, xs, rfl, ⟨rfl⟩, ⟨rfl⟩, HO3, HY, HB3⟩
    case round =>
      clear HO3 HY HB3 HB HB2
      obtain ⟨j, out, rfl, HJ, HE, HO, HY, HB⟩ := hrel
      cases gk with
      | zero =>
        have z : decide ((j : Int) < (ys.length : Int)) = false := decide_eq_false (by have := HJ.out; omega)
        have z2 : decide (j < ys.length) = false := decide_eq_false (by have := HJ.out; omega)
        go_wp2
        go_ret
        refine ⟨_, rfl, ?_, HB.out⟩
        have e := HE.out
        rw [List.take_of_length_le (by have := HJ.out; omega), XS.out, YS.out] at e
        have e2 : out = (Ty.a l r).vars := e
        rw [← e2]
        exact HO.out
      | succ k1 =>
        have hj : j < ys.length := by have := HJ.out; omega
        have z : decide ((j : Int) < (ys.length : Int)) = true := decide_eq_true (by omega)
        have z2 : decide (j < ys.length) = true := decide_eq_true hj
        obtain ⟨ad, ea, hx⟩ := Kd.at_int (Kd.R_reads' HY.out).2.2 (j : Int) (by omega) (by omega)
        obtain ⟨Ao, co, eo⟩ := Kd.R_slice HO.out
        subst ea
        subst eo
        have LO : Aside0 (out.length ≤ xs.length + ys.length) := ⟨by have h1 := vfold_len (ys.take j) xs; have h2 : (ys.take j).length ≤ ys.length := by { rw [List.length_take]; omega }; have e := HE.out; rw [← e] at h1; omega⟩
        have hs : (ys.take (j + 1)).foldl vstep xs = vstep out (rd ys (j : Int)) := by
          have e : rd ys (j : Int) = ys[j] := by unfold rd; rw [Int.toNat_natCast, List.getD_eq_getElem?_getD, List.getElem?_eq_getElem hj]; rfl
          rw [List.take_succ_eq_append_getElem hj, List.foldl_append, ← HE.out, e]; rfl
        rw [Int.toNat_natCast] at hx
        generalize rd ys (j : Int) = y at hx hs
        have p1 := eq_true (show (0 : Int) ≤ (j : Int) by omega)
        have p2 := eq_true (show (j : Int) < (ys.length : Int) by omega)
        have HS := aM hs
        clear hs hj
        by_cases hm : y ∈ out
        · have hc := (has_f out y (by have := LO.out; have := HQ.out; omega)).trans (congrArg some (decide_eq_true hm))
          have CC := aM hc
          have ht : vstep out y = out := if_pos hm
          rw [ht] at HS
          clear hm hc ht
          go_wp2_with (first
            | ((with_reducible refine gate_callee (f := 44) rfl ?_); refine goesL_ (some 34) rfl rfl Tryd.func44 (by kernel_rfl) rfl #[.slice Ao out.length co, .int .i64 y] rfl tA ?_; (with_reducible refine (slices_Contains_int_int.calls (out.length + 1) Ao co out y true _ ?s1 ?s2 ?s3).mono ?_); (case s1 => exact (Kd.R_reads' HO.out).2.2); (case s2 => exact (Kd.R_reads' HO.out).2.1); (case s3 => exact CC.out); rintro _ w5 ⟨rfl, hb0⟩; have hb := hb0.below; clear hb0; refine ⟨_, rfl, ?_⟩; have HO5 := aM (Kd.R_below HO.out hb); have HY5 := aM (Kd.R_below HY.out hb); have HB5 := aM (below_step HB.out hb); clear hb))
          go_roundg k1
          case measure => omega
          case rel => exact ⟨j + 1, out, by rw [show wrap64 ((j : Int) + 1) = ((j + 1 : Nat) : Int) by rw [w64 (by have := HJ.out; have := HQ.out; omega) (by have := HJ.out; have := HQ.out; omega)]; omega], ⟨by have := HJ.out; omega⟩, ⟨HS.out.symm⟩, HO5, HY5, HB5⟩
        · have hc := (has_f out y (by have := LO.out; have := HQ.out; omega)).trans (congrArg some (decide_eq_false hm))
          have CC := aM hc
          have ht : vstep out y = out ++ [y] := if_neg hm
          rw [ht] at HS
          clear hm hc ht
          obtain ⟨o2, ho2⟩ : ∃ z, z = out ++ [y] := ⟨_, rfl⟩
          rw [← ho2] at HS
          have O2 := aM ho2
          clear ho2
          go_wp2_with (first
            | ((with_reducible refine gate_callee (f := 44) rfl ?_); refine goesL_ (some 34) rfl rfl Tryd.func44 (by kernel_rfl) rfl #[.slice Ao out.length co, .int .i64 y] rfl tA ?_; (with_reducible refine (slices_Contains_int_int.calls (out.length + 1) Ao co out y false _ ?s1 ?s2 ?s3).mono ?_); (case s1 => exact (Kd.R_reads' HO.out).2.2); (case s2 => exact (Kd.R_reads' HO.out).2.1); (case s3 => exact CC.out); rintro _ w5 ⟨rfl, hb0⟩; have hb := hb0.below; clear hb0; refine ⟨_, rfl, ?_⟩; have HO5 := aM (Kd.R_below HO.out hb); have HY5 := aM (Kd.R_below HY.out hb); have HB5 := aM (below_step HB.out hb); clear hb)
            | ((with_reducible refine gate_builtin (b := .append) (xs := #[.tmp 36, .tmp 38]) rfl ?_); at_builtin; refine Kd.R_append (Kd.int .i64) (w0 := w) w.heap.size rfl (.tmp 36) (.tmp 38) 32 3 (.int .i64 0) 8 rfl Tryd.underlying32 info3 rfl (by decide) (by omega) (.slice Ao out.length co) out y [.int .i64 y] (fun _ => True) (fun _ => False) rfl rfl ?aP (fun _ hk => hk.elim) ?aF ?aO ?aB ?aS ?aL ?_; (case aP => exact rfl); (case aF => exact (fun _ _ => trivial)); (case aO => exact HO5.out); (case aB => exact HB5.out); (case aS => exact HB5.out.size); (case aL => have := LO.out; have := HQ.out; omega); intro v6 w6 ho hb hg hat; rw [← O2.out] at ho; have HO6 := aM ho; have HY6 := aM (Kd.R_after HY5.out hg hat); have HB6 := aM hb; clear ho hb hg hat HO5 HY5 HB5))
          go_roundg k1
          case measure => omega
          case rel => exact ⟨j + 1, o2, by rw [show wrap64 ((j : Int) + 1) = ((j + 1 : Nat) : Int) by rw [w64 (by have := HJ.out; have := HQ.out; omega) (by have := HJ.out; have := HQ.out; omega)]; omega], ⟨by have := HJ.out; omega⟩, ⟨HS.out.symm⟩, HO6, HY6, HB6⟩
end Go.Proofs.YtlkjikknofmcdaaDoor.G

namespace Go.Proofs.YtlkjikknofmcdaaDoor.G
open Go.RowKit Go.Proofs.YtlkjikknofmcdaaDoor.EvL Go.Proofs.YtlkjikknofmcdaaDoor.TxtL Go.Proofs.YtlkjikknofmcdaaDoor.ReadM Go.Proofs.YtlkjikknofmcdaaDoorW.PrintWords
set_option linter.unusedVariables false
set_option linter.unusedSimpArgs false

def tyl : Ty → List UInt8
  | .v n => 116 :: Lib.decDigits n.toNat
  | .a l r => 40 :: (tyl l ++ 62 :: (tyl r ++ [41]))
theorem text_B : ∀ t : Ty, t.text = B (tyl t)
  | .v n => by
    show B [116] ++ B (Lib.decDigits n.toNat) = _
    rw [B_append]; rfl
  | .a l r => by
    show ((((B [40] ++ l.text) ++ B [62]) ++ r.text) ++ B [41]) = _
    rw [text_B l, text_B r, B_append, B_append, B_append, B_append]
    exact congrArg B (by simp [tyl])
def yrd (m : Nat) : Nat → List UInt8 → Option (Ty × List UInt8)
  | 0, _ => none
  | _ + 1, [] => none
  | d + 1, c :: s =>
    if c = 40 then (yrd m d s).bind fun p => (eat 62 p.2).bind fun r1 => (yrd m d r1).bind fun q => (eat 41 q.2).bind fun r3 => some (.a p.1 q.1, r3)
    else if c = 116 ∧ digs m s ≠ [] then some (.v (valF 0 (digs m s) : Nat), s.drop (digs m s).length)
    else none
theorem yrd_sound (m : Nat) : ∀ (d : Nat) (s : List UInt8) (t : Ty) (r : List UInt8), yrd m d s = some (t, r) → t.nodes + r.length ≤ s.length ∧ t.ok ∨ 18 < m
  | 0, _, _, _, h => by cases h
  | _ + 1, [], _, _, h => by cases h
  | d + 1, c :: s, t, r, h => by
    by_cases hm : 18 < m
    · exact .inr hm
    left
    unfold yrd at h
    by_cases h1 : c = 40
    · rw [if_pos h1] at h
      obtain ⟨⟨a, r0⟩, ha, h⟩ := Option.bind_eq_some_iff.mp h
      obtain ⟨r1, e1, h⟩ := Option.bind_eq_some_iff.mp h
      obtain ⟨⟨b, r2⟩, hb, h⟩ := Option.bind_eq_some_iff.mp h
      obtain ⟨r3, e2, h⟩ := Option.bind_eq_some_iff.mp h
      simp only [Option.some.injEq, Prod.mk.injEq] at h
      obtain ⟨rfl, rfl⟩ := h
      obtain ⟨a1, a2⟩ := (yrd_sound m d s a r0 ha).resolve_right hm
      obtain ⟨b1, b2⟩ := (yrd_sound m d r1 b r2 hb).resolve_right hm
      have q1 : r0 = 62 :: r1 := eat_some e1
      have q2 : r2 = 41 :: r3 := eat_some e2
      rw [q1, List.length_cons] at a1
      rw [q2, List.length_cons] at b1
      refine ⟨?_, a2, b2⟩
      show 1 + a.nodes + b.nodes + _ ≤ _
      rw [List.length_cons]; omega
    rw [if_neg h1] at h
    by_cases h2 : c = 116 ∧ digs m s ≠ []
    · rw [if_pos h2] at h
      simp only [Option.some.injEq, Prod.mk.injEq] at h
      obtain ⟨rfl, rfl⟩ := h
      have hl := digs_len m s
      have hv := val_le m (digs m s) (digs_all m s) hl.1
      have h18 : 10 ^ m ≤ 10 ^ 18 := Nat.pow_le_pow_right (by omega) (by omega)
      refine ⟨?_, ?_⟩
      · rw [List.length_drop, List.length_cons]; show 1 + _ ≤ _; omega
      · show (0 : Int) ≤ ((valF 0 (digs m s) : Nat) : Int) ∧ ((valF 0 (digs m s) : Nat) : Int) ≤ 9223372036854775807
        have : (10 : Nat) ^ 18 = 1000000000000000000 := by decide
        omega
    · rw [if_neg h2] at h; cases h
def ReadsAs (o : Option (Ty × List UInt8)) (W : World) (x : Option Addr) (r : List UInt8) (ok : Bool) : Prop := (o = none ∧ ok = false) ∨ (∃ t, o = some (t, r) ∧ ok = true ∧ IsT W t (.pointer x))
theorem ReadsAs.below {o : Option (Ty × List UInt8)} {W W1 : World} {x : Option Addr} {r : List UInt8} {ok : Bool} (h : ReadsAs o W x r ok) (hb : Below W.heap.size W W1) : ReadsAs o W1 x r ok := by
  rcases h with h | ⟨t, h1, h2, h3⟩
  · exact .inl h
  · exact .inr ⟨t, h1, h2, h3.below hb⟩
end Go.Proofs.YtlkjikknofmcdaaDoor.G

namespace Go.Proofs
open Go.Shelf
def Tryd.lays103_ren : Go.Shelf.Ren := ⟨fun | 103 => 46 | 210 => 52 | 206 => 56 | n => n, fun | 9 => 9 | 4 => 4 | 24 => 26 | 3 => 3 | n => n, fun | n => n⟩
theorem Tryd.lays103 : Go.Proofs.Lays.n103 Tryd.prog Tryd.lays103_ren := {
 mixed := by kernel_rfl
 f103 := Tryd.func46.trans (congrArg some (by kernel_rfl))
 f206 := Tryd.func56.trans (congrArg some (by kernel_rfl))
 f210 := Tryd.func52.trans (congrArg some (by kernel_rfl))
 t3 := Tryd.underlying3
 a3 := Tryd.isAgg3
 z3 := Tryd.sizeOf3
 v3 := Tryd.zeroValue3
 t4 := Tryd.underlying4
 a4 := Tryd.isAgg4
 z4 := Tryd.sizeOf4
 v4 := Tryd.zeroValue4
 t9 := Tryd.underlying9
 a9 := Tryd.isAgg9
 z9 := Tryd.sizeOf9
 v9 := Tryd.zeroValue9
 t24 := Tryd.underlying26
 a24 := Tryd.isAgg26
 z24 := Tryd.sizeOf26
 v24 := Tryd.zeroValue26 }
end Go.Proofs
namespace Go.Proofs.YtlkjikknofmcdaaDoor.G
open Go.RowKit Go.Shelf Go.Proofs.YtlkjikknofmcdaaDoorW.PrintWords
set_option linter.unusedVariables false

def strings_CutPrefix.f (a0 : ByteArray) (a1 : ByteArray) : Option (ByteArray × Bool) := some (⟨(Lib.trimPrefix a0.data.toList a1.data.toList).toArray⟩, Lib.hasPrefix a0.data.toList a1.data.toList)
theorem strings_CutPrefix.calls (a0 : ByteArray) (a1 : ByteArray) (r1 : ByteArray) (r2 : Bool) (w : World) (h : strings_CutPrefix.f a0 a1 = some (r1, r2)) :
    Calls Tryd.prog 46 #[.string a0, .string a1] w fun e w' => e = .returned (.tuple #[.string r1, .bool r2]) ∧ Below w.heap.size w w' := by
  injection h with h
  simp only [Prod.mk.injEq] at h
  obtain ⟨rfl, rfl⟩ := h
  refine (Any.strings_CutPrefix Tryd.lays103 a0 a1 w).mono ?_
  rintro e w' ⟨rfl, rfl⟩
  exact ⟨rfl, Below.refl _ _⟩
end Go.Proofs.YtlkjikknofmcdaaDoor.G

namespace Go.Proofs.YtlkjikknofmcdaaDoor.G
open Go.RowKit Go.Shelf Go.Proofs.YtlkjikknofmcdaaDoorW.PrintWords
set_option linter.unusedVariables false

def atoiNum (s : ByteArray) : Int := match Lib.atoiAll s.data.toList with
  | .ok v => v
  | .range => Lib.atoiSat s.data.toList
  | _ => 0
def atoiErr (s : ByteArray) : Option Int := match Lib.atoiAll s.data.toList with
  | .ok _ => none
  | .range => some 1
  | _ => some 2
def ErrIs (r : Option Int) (ev : Value) : Prop := (r = none ∧ ev = .nilIface) ∨ (r ≠ none ∧ ∃ t p, ev = .iface t p)
def strconv_Atoi_47.f (a0 : ByteArray) : Option (Int × Option Int) := if a0.size ≤ 281474976710656 then some (atoiNum a0, atoiErr a0) else none
theorem strconv_Atoi_47.calls (a0 : ByteArray) (r1 : Int) (r2 : Option Int) (w : World) (h : strconv_Atoi_47.f a0 = some (r1, r2)) (hE : LibMet w) :
    Calls Tryd.prog 47 #[.string a0] w fun e w' => ∃ ev, e = .returned (.tuple #[.int .i64 r1, ev]) ∧ ErrIs r2 ev ∧ Below w.heap.size w w' := by
  unfold strconv_Atoi_47.f at h
  by_cases c : a0.size ≤ 281474976710656
  case neg => rw [if_neg c] at h; cases h
  rw [if_pos c] at h
  injection h with h
  simp only [Prod.mk.injEq] at h
  obtain ⟨rfl, rfl⟩ := h
  unfold atoiNum atoiErr
  cases ha : Lib.atoiAll a0.data.toList with
  | ok v =>
    refine (Any.strconv_Atoi_ok Tryd.laysC172 a0 (by omega) v ha w).mono ?_
    rintro e w' ⟨rfl, hw⟩
    refine ⟨_, rfl, .inl ⟨rfl, rfl⟩, ?_⟩
    rcases hw with rfl | ⟨t, rfl⟩
    · exact Below.refl _ _
    · exact Lib.bytesWorld_below _ _ _
  | range =>
    obtain ⟨tp, p, hv⟩ := hE.range
    refine (Any.strconv_Atoi_range_var Tryd.laysC172 a0 c ha tp p w hv).mono ?_
    rintro e w' ⟨N, rfl, _, _, hb⟩
    exact ⟨_, rfl, .inr ⟨by simp, _, _, rfl⟩, hb⟩
  | _ =>
    obtain ⟨tp, p, hv⟩ := hE.wrong
    refine (Any.strconv_Atoi_syntax_var Tryd.laysC172 a0 c ha tp p w hv).mono ?_
    rintro e w' ⟨N, rfl, _, _, hb⟩
    exact ⟨_, rfl, .inr ⟨by simp, _, _, rfl⟩, hb⟩
theorem strconv_Atoi_47.callsN (a0 : ByteArray) (r1 : Int) (w : World) (h : strconv_Atoi_47.f a0 = some (r1, none)) (hE : LibMet w) :
    Calls Tryd.prog 47 #[.string a0] w fun e w' => e = .returned (.tuple #[.int .i64 r1, .nilIface]) ∧ Below w.heap.size w w' := by
  refine (strconv_Atoi_47.calls a0 r1 none w h hE).mono ?_
  rintro e w' ⟨ev, rfl, he, hb⟩
  rcases he with ⟨_, rfl⟩ | ⟨h, _⟩
  · exact ⟨rfl, hb⟩
  · exact absurd rfl h
theorem strconv_Atoi_47.callsS (a0 : ByteArray) (r1 c : Int) (w : World) (h : strconv_Atoi_47.f a0 = some (r1, some c)) (hE : LibMet w) :
    Calls Tryd.prog 47 #[.string a0] w fun e w' => ∃ t p, e = .returned (.tuple #[.int .i64 r1, .iface t p]) ∧ Below w.heap.size w w' := by
  refine (strconv_Atoi_47.calls a0 r1 (some c) w h hE).mono ?_
  rintro e w' ⟨ev, rfl, he, hb⟩
  rcases he with ⟨h, _⟩ | ⟨_, t, p, rfl⟩
  · cases h
  · exact ⟨t, p, rfl, hb⟩
end Go.Proofs.YtlkjikknofmcdaaDoor.G
