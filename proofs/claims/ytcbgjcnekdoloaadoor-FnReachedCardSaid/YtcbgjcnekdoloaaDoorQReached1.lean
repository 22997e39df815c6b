/- Part 1 of 5 of the proof that the law FnReachedCardSaid holds: for every input that can be read the call returns true and leaves its arguments as they were; no condition but those each theorem names. -/
import Derived.Test.YtcbgjcnekdoloaaDoorProg
import Derived.Below
import Derived.Deep.Draws
import Derived.Deep.AppendLies
import Derived.Maps.AppendAt
import Derived.OwnWalk
import Derived.Laws.BytesArg
import Derived.Laws.MakeOwn
import Derived.Laws.OwnMore
import Derived.Deep.OwnRows
import Derived.Tactics
import Derived.Lib.ConvBytes
import Derived.Laws.Slices
import Derived.WalkKit
import Derived.KernelRfl
import Derived.RowKit3
import Derived.Deep.LoopGhost
import Derived.Deep.QuietTactic
import Derived.BigQuiet
import Derived.WideLaws
import Derived.Deep.DeepCutAuto
import Derived.Deep.CutBlock
import Derived.Deep.RegionHeld3
import Derived.Laws.Rows
import Derived.Lib.AppendStr
import Derived.ArgAppend
import Derived.Laws.IdiomCopy
import Derived.OrdersHeld
import Derived.Laws.BitsLemmas
import Derived.RowKit
import Derived.Ground.NamesProg
import Derived.Shelf.Lay
import Derived.Shelf.Strconv.ErrVarAll
import Derived.Shelf.Strconv.Itoa3
import Derived.Lib.SliceRun
import Derived.Test.YtcbgjcnekdoloaaDoorQReachedW1
namespace Go.Proofs.YtcbgjcnekdoloaaDoor.Short
open Go.RowKit Go.Proofs.YtcbgjcnekdoloaaDoorW.PrintWords
theorem rA {α : Type} {d : Kd α} {e : Nat} {w : World} {base : Nat} {ok : Nat → Prop} {v : Value} {xs : List α} (h : d.R e w base ok v xs) (o : Obj) : d.R e (w.alloc o) base ok v xs := Kd.R_alloc h o
theorem rN {α : Type} {d : Kd α} {e : Nat} {w : World} {base : Nat} {ok : Nat → Prop} {v : Value} {xs : List α} (h : d.R e w base ok v xs) (m : Nat) : d.R e (w.drewN m) base ok v xs := Kd.R_drewN h m
theorem rD {α : Type} {d : Kd α} {e : Nat} {w : World} {base : Nat} {ok : Nat → Prop} {v : Value} {xs : List α} (h : d.R e w base ok v xs) : d.R e w.drew base ok v xs := Kd.R_drew h
theorem aM {p : Prop} (h : p) : Aside0 p := Aside0.mk h
end Go.Proofs.YtcbgjcnekdoloaaDoor.Short

namespace Go.Proofs.YtcbgjcnekdoloaaDoor.G
open Go.RowKit Go.Proofs.YtcbgjcnekdoloaaDoorW.PrintWords Go.Proofs.YtcbgjcnekdoloaaDoorW.PrintLast Go.Proofs.YtcbgjcnekdoloaaDoorW.PrintMore Go.Proofs.YtcbgjcnekdoloaaDoor.Short
attribute [local go_sem] max2_int min2_int max_two min_two max_three min_three max_four min_four   -- for this text's walks alone
set_option linter.unusedVariables false
set_option linter.unusedSimpArgs false



def errW : Option Int → Value
  | none => .nilIface
  | some c => .iface 93 (.int .i64 c)
theorem errW_none : errW none = .nilIface := rfl
theorem errW_some (c : Int) : errW (some c) = .iface 93 (.int .i64 c) := rfl

theorem info3 : (Tryd.prog.info? 3).map (fun i => (i.zero, i.size, i.bytes)) = some (some (.int .i64 0), 1, 8) := by kernel_rfl
theorem info4 : (Tryd.prog.info? 4).map (fun i => (i.zero, i.size, i.bytes)) = some (some (.bool false), 1, 1) := by kernel_rfl
theorem info61 : (Tryd.prog.info? 61).map (fun i => (i.zero, i.size, i.bytes)) = some (some (.agg #[(.bool false), (.int .i64 0), (.int .i64 0), (.int .i64 0)]), 4, 32) := by kernel_rfl
theorem info102 : (Tryd.prog.info? 102).map (fun i => (i.zero, i.size, i.bytes)) = some (some (.agg #[(.int .i64 0), (.int .i64 0), (.int .i64 0)]), 3, 24) := by kernel_rfl
-- the values' own types
structure S61 where
  f0 : Bool
  f1 : Int
  f2 : Int
  f3 : Int
def z61 : S61 := ⟨false, (0 : Int), (0 : Int), (0 : Int)⟩
def k61 : Kd S61 := Kd.iso (Kd.pair Kd.bool (Kd.pair (Kd.int .i64) (Kd.pair (Kd.int .i64) (Kd.int .i64)))) (fun x : S61 => (x.f0, x.f1, x.f2, x.f3))
theorem k61_heap : Kd.Heap k61 := Kd.heap_iso _ (Kd.heap_pair Kd.heap_bool (Kd.heap_pair (Kd.heap_int .i64) (Kd.heap_pair (Kd.heap_int .i64) (Kd.heap_int .i64))))
theorem k61_open {w : World} {x : S61} {cs : List Value} (h : k61.K w x cs) : cs = [.bool x.f0, .int .i64 x.f1, .int .i64 x.f2, .int .i64 x.f3] := by
  obtain ⟨_, _, rfl, rfl, ⟨_, _, rfl, rfl, ⟨_, _, rfl, rfl, rfl⟩⟩⟩ := h
  exact rfl
theorem k61_mkM (w : World) (base : Nat) (ok : Nat → Prop) (x : S61)  : k61.M w base ok x [.bool x.f0, .int .i64 x.f1, .int .i64 x.f2, .int .i64 x.f3] := ⟨[.bool x.f0], [.int .i64 x.f1, .int .i64 x.f2, .int .i64 x.f3], rfl, rfl, ⟨[.int .i64 x.f1], [.int .i64 x.f2, .int .i64 x.f3], rfl, rfl, ⟨[.int .i64 x.f2], [.int .i64 x.f3], rfl, rfl, rfl⟩⟩⟩
def rd_T61 (xs : List S61) (i : Int) : S61 := xs.getD i.toNat z61
theorem at_T61 {w : World} {A : Option Addr} {n : Nat} {xs : List S61} (h : Kd.C k61 w A n xs) (i : Int) (h0 : 0 ≤ i) (h1 : i < n) : ∃ ad , A = some ad ∧ w.cell? (ad.add (i.toNat * 4)) = some (.bool (rd_T61 xs i).f0) ∧ w.cell? ⟨(ad.add (i.toNat * 4)).block, (ad.add (i.toNat * 4)).off + 1, none⟩ = some (.int .i64 (rd_T61 xs i).f1) ∧ w.cell? ⟨(ad.add (i.toNat * 4)).block, (ad.add (i.toNat * 4)).off + 2, none⟩ = some (.int .i64 (rd_T61 xs i).f2) ∧ w.cell? ⟨(ad.add (i.toNat * 4)).block, (ad.add (i.toNat * 4)).off + 3, none⟩ = some (.int .i64 (rd_T61 xs i).f3) := by
  obtain ⟨ad, c, e, _, hK, hc0⟩ := Kd.C_get h z61 i h0 h1
  have hc : ∀ j u, c[j]? = some u → w.cell? (ad.add (i.toNat * 4 + j)) = some u := hc0
  obtain rfl := k61_open hK
  exact ⟨ad, e, hc 0 _ rfl, by rw [← add_field _ _ 1 (by omega)]; exact hc 1 _ rfl, by rw [← add_field _ _ 2 (by omega)]; exact hc 2 _ rfl, by rw [← add_field _ _ 3 (by omega)]; exact hc 3 _ rfl⟩

structure S102 where
  f0 : Int
  f1 : Int
  f2 : Int
def z102 : S102 := ⟨(0 : Int), (0 : Int), (0 : Int)⟩
def k102 : Kd S102 := Kd.iso (Kd.pair (Kd.int .i64) (Kd.pair (Kd.int .i64) (Kd.int .i64))) (fun x : S102 => (x.f0, x.f1, x.f2))
theorem k102_open {w : World} {x : S102} {cs : List Value} (h : k102.K w x cs) : cs = [.int .i64 x.f0, .int .i64 x.f1, .int .i64 x.f2] := by
  obtain ⟨_, _, rfl, rfl, ⟨_, _, rfl, rfl, rfl⟩⟩ := h
  exact rfl
theorem k102_mkM (w : World) (base : Nat) (ok : Nat → Prop) (x : S102)  : k102.M w base ok x [.int .i64 x.f0, .int .i64 x.f1, .int .i64 x.f2] := ⟨[.int .i64 x.f0], [.int .i64 x.f1, .int .i64 x.f2], rfl, rfl, ⟨[.int .i64 x.f1], [.int .i64 x.f2], rfl, rfl, rfl⟩⟩
def rd_T102 (xs : List S102) (i : Int) : S102 := xs.getD i.toNat z102
theorem at_T102 {w : World} {A : Option Addr} {n : Nat} {xs : List S102} (h : Kd.C k102 w A n xs) (i : Int) (h0 : 0 ≤ i) (h1 : i < n) : ∃ ad , A = some ad ∧ w.cell? (ad.add (i.toNat * 3)) = some (.int .i64 (rd_T102 xs i).f0) ∧ w.cell? ⟨(ad.add (i.toNat * 3)).block, (ad.add (i.toNat * 3)).off + 1, none⟩ = some (.int .i64 (rd_T102 xs i).f1) ∧ w.cell? ⟨(ad.add (i.toNat * 3)).block, (ad.add (i.toNat * 3)).off + 2, none⟩ = some (.int .i64 (rd_T102 xs i).f2) := by
  obtain ⟨ad, c, e, _, hK, hc0⟩ := Kd.C_get h z102 i h0 h1
  have hc : ∀ j u, c[j]? = some u → w.cell? (ad.add (i.toNat * 3 + j)) = some u := hc0
  obtain rfl := k102_open hK
  exact ⟨ad, e, hc 0 _ rfl, by rw [← add_field _ _ 1 (by omega)]; exact hc 1 _ rfl, by rw [← add_field _ _ 2 (by omega)]; exact hc 2 _ rfl⟩

structure S31 where
  f0 : Int
  f1 : (List S61)
  f2 : (List Int)
end Go.Proofs.YtcbgjcnekdoloaaDoor.G

namespace Go.Proofs
open Go.Shelf
def Tryd.laysC172_ren : Go.Shelf.Ren := ⟨fun | 172 => 40 | 244 => 51 | 245 => 52 | 247 => 60 | 279 => 61 | 280 => 62 | 281 => 63 | 282 => 64 | 287 => 73 | 316 => 74 | 171 => 39 | 205 => 75 | 321 => 83 | 322 => 84 | 243 => 50 | 246 => 59 | 283 => 69 | 284 => 70 | 285 => 71 | 286 => 72 | 129 => 79 | 317 => 78 | 318 => 80 | 319 => 81 | 320 => 82 | 337 => 85 | 338 => 86 | n => n, fun | 9 => 9 | 3 => 3 | 75 => 68 | 76 => 69 | 4 => 4 | 5 => 5 | 167 => 93 | 37 => 35 | 0 => 0 | 85 => 94 | 2 => 2 | 168 => 96 | 53 => 74 | 175 => 109 | 46 => 111 | 210 => 114 | 127 => 124 | 145 => 127 | 143 => 125 | 21 => 21 | 171 => 104 | 173 => 107 | 212 => 118 | 51 => 119 | 20 => 20 | 213 => 120 | 232 => 129 | 233 => 130 | 80 => 133 | n => n, fun | 15 => 0 | 16 => 1 | 17 => 2 | 18 => 3 | 19 => 4 | n => n⟩
theorem Tryd.laysC172 : Go.Proofs.LaysC.n172 Tryd.prog Tryd.laysC172_ren := {
 mixed := by kernel_rfl
 f129 := Tryd.func79.trans (congrArg some (by kernel_rfl))
 f171 := Tryd.func39.trans (congrArg some (by kernel_rfl))
 f172 := Tryd.func40.trans (congrArg some (by kernel_rfl))
 f205 := Tryd.func75.trans (congrArg some (by kernel_rfl))
 f243 := Tryd.func50.trans (congrArg some (by kernel_rfl))
 f244 := Tryd.func51.trans (congrArg some (by kernel_rfl))
 f245 := Tryd.func52.trans (congrArg some (by kernel_rfl))
 f246 := Tryd.func59.trans (congrArg some (by kernel_rfl))
 f247 := Tryd.func60.trans (congrArg some (by kernel_rfl))
 f279 := Tryd.func61.trans (congrArg some (by kernel_rfl))
 f280 := Tryd.func62.trans (congrArg some (by kernel_rfl))
 f281 := Tryd.func63.trans (congrArg some (by kernel_rfl))
 f282 := Tryd.func64.trans (congrArg some (by kernel_rfl))
 f283 := Tryd.func69.trans (congrArg some (by kernel_rfl))
 f284 := Tryd.func70.trans (congrArg some (by kernel_rfl))
 f285 := Tryd.func71.trans (congrArg some (by kernel_rfl))
 f286 := Tryd.func72.trans (congrArg some (by kernel_rfl))
 f287 := Tryd.func73.trans (congrArg some (by kernel_rfl))
 f316 := Tryd.func74.trans (congrArg some (by kernel_rfl))
 f317 := Tryd.func78.trans (congrArg some (by kernel_rfl))
 f318 := Tryd.func80.trans (congrArg some (by kernel_rfl))
 f319 := Tryd.func81.trans (congrArg some (by kernel_rfl))
 f320 := Tryd.func82.trans (congrArg some (by kernel_rfl))
 f321 := Tryd.func83.trans (congrArg some (by kernel_rfl))
 f322 := Tryd.func84.trans (congrArg some (by kernel_rfl))
 f337 := Tryd.func85.trans (congrArg some (by kernel_rfl))
 f338 := Tryd.func86.trans (congrArg some (by kernel_rfl))
 t0 := Tryd.underlying0
 a0 := Tryd.isAgg0
 z0 := Tryd.sizeOf0
 v0 := Tryd.zeroValue0
 t2 := Tryd.underlying2
 a2 := Tryd.isAgg2
 z2 := Tryd.sizeOf2
 v2 := Tryd.zeroValue2
 t3 := Tryd.underlying3
 a3 := Tryd.isAgg3
 z3 := Tryd.sizeOf3
 v3 := Tryd.zeroValue3
 t4 := Tryd.underlying4
 a4 := Tryd.isAgg4
 z4 := Tryd.sizeOf4
 v4 := Tryd.zeroValue4
 t5 := Tryd.underlying5
 a5 := Tryd.isAgg5
 z5 := Tryd.sizeOf5
 v5 := Tryd.zeroValue5
 t9 := Tryd.underlying9
 a9 := Tryd.isAgg9
 z9 := Tryd.sizeOf9
 v9 := Tryd.zeroValue9
 t20 := Tryd.underlying20
 a20 := Tryd.isAgg20
 z20 := Tryd.sizeOf20
 v20 := Tryd.zeroValue20
 t21 := Tryd.underlying21
 a21 := Tryd.isAgg21
 z21 := Tryd.sizeOf21
 v21 := Tryd.zeroValue21
 t37 := Tryd.underlying35
 a37 := Tryd.isAgg35
 z37 := Tryd.sizeOf35
 v37 := Tryd.zeroValue35
 t46 := Tryd.underlying111
 a46 := Tryd.isAgg111
 z46 := Tryd.sizeOf111
 v46 := Tryd.zeroValue111
 t51 := Tryd.underlying119
 a51 := Tryd.isAgg119
 z51 := Tryd.sizeOf119
 v51 := Tryd.zeroValue119
 t53 := Tryd.underlying74
 a53 := Tryd.isAgg74
 z53 := Tryd.sizeOf74
 v53 := Tryd.zeroValue74
 t75 := Tryd.underlying68
 a75 := Tryd.isAgg68
 z75 := Tryd.sizeOf68
 v75 := Tryd.zeroValue68
 t76 := Tryd.underlying69
 a76 := Tryd.isAgg69
 z76 := Tryd.sizeOf69
 v76 := Tryd.zeroValue69
 t85 := Tryd.underlying94
 a85 := Tryd.isAgg94
 z85 := Tryd.sizeOf94
 v85 := Tryd.zeroValue94
 t127 := Tryd.underlying124
 a127 := Tryd.isAgg124
 z127 := Tryd.sizeOf124
 v127 := Tryd.zeroValue124
 t143 := Tryd.underlying125
 a143 := Tryd.isAgg125
 z143 := Tryd.sizeOf125
 v143 := Tryd.zeroValue125
 t145 := Tryd.underlying127
 a145 := Tryd.isAgg127
 z145 := Tryd.sizeOf127
 v145 := Tryd.zeroValue127
 t167 := Tryd.underlying93
 a167 := Tryd.isAgg93
 z167 := Tryd.sizeOf93
 v167 := Tryd.zeroValue93
 t168 := Tryd.underlying96
 a168 := Tryd.isAgg96
 z168 := Tryd.sizeOf96
 v168 := Tryd.zeroValue96
 t171 := Tryd.underlying104
 a171 := Tryd.isAgg104
 z171 := Tryd.sizeOf104
 v171 := Tryd.zeroValue104
 t173 := Tryd.underlying107
 a173 := Tryd.isAgg107
 z173 := Tryd.sizeOf107
 v173 := Tryd.zeroValue107
 t175 := Tryd.underlying109
 a175 := Tryd.isAgg109
 z175 := Tryd.sizeOf109
 v175 := Tryd.zeroValue109
 t210 := Tryd.underlying114
 a210 := Tryd.isAgg114
 z210 := Tryd.sizeOf114
 v210 := Tryd.zeroValue114
 t212 := Tryd.underlying118
 a212 := Tryd.isAgg118
 z212 := Tryd.sizeOf118
 v212 := Tryd.zeroValue118
 t213 := Tryd.underlying120
 a213 := Tryd.isAgg120
 z213 := Tryd.sizeOf120
 t232 := Tryd.underlying129
 a232 := Tryd.isAgg129
 z232 := Tryd.sizeOf129
 v232 := Tryd.zeroValue129
 t233 := Tryd.underlying130
 a233 := Tryd.isAgg130
 z233 := Tryd.sizeOf130
 v233 := Tryd.zeroValue130
 g15 := by kernel_rfl
 g16 := by kernel_rfl
 g17 := by kernel_rfl
 g18 := by kernel_rfl
 g19 := by kernel_rfl
 t80 := Tryd.underlying133
 a80 := Tryd.isAgg133
 z80 := Tryd.sizeOf133
 v80 := Tryd.zeroValue133
 i0 := by kernel_rfl
 i2 := by kernel_rfl
 i3 := by kernel_rfl
 i4 := by kernel_rfl
 i5 := by kernel_rfl
 i9 := by kernel_rfl
 i20 := by kernel_rfl
 i21 := by kernel_rfl
 i37 := by kernel_rfl
 i46 := by kernel_rfl
 i51 := by kernel_rfl
 i53 := by kernel_rfl
 i75 := by kernel_rfl
 i76 := by kernel_rfl
 i80 := by kernel_rfl
 i85 := by kernel_rfl
 i127 := by kernel_rfl
 i143 := by kernel_rfl
 i145 := by kernel_rfl
 i167 := by kernel_rfl
 i168 := by kernel_rfl
 i171 := by kernel_rfl
 i173 := by kernel_rfl
 i175 := by kernel_rfl
 i210 := by kernel_rfl
 i212 := by kernel_rfl
 i232 := by kernel_rfl
 i233 := by kernel_rfl
 m15 := by kernel_rfl
 m16 := by kernel_rfl
 m17 := by kernel_rfl
 m18 := by kernel_rfl
 m19 := by kernel_rfl
 c0 := by kernel_rfl
 c2 := by kernel_rfl
 c3 := by kernel_rfl
 c4 := by kernel_rfl
 c5 := by kernel_rfl
 c9 := by kernel_rfl
 c20 := by kernel_rfl
 c21 := by kernel_rfl
 c37 := by kernel_rfl
 c46 := by kernel_rfl
 c51 := by kernel_rfl
 c53 := by kernel_rfl
 c75 := by kernel_rfl
 c76 := by kernel_rfl
 c80 := by kernel_rfl
 c85 := by kernel_rfl
 c127 := by kernel_rfl
 c143 := by kernel_rfl
 c145 := by kernel_rfl
 c167 := by kernel_rfl
 c168 := by kernel_rfl
 c171 := by kernel_rfl
 c173 := by kernel_rfl
 c175 := by kernel_rfl
 c210 := by kernel_rfl
 c212 := by kernel_rfl
 c213 := by kernel_rfl
 c232 := by kernel_rfl
 c233 := by kernel_rfl }
end Go.Proofs
namespace Go.Proofs.YtcbgjcnekdoloaaDoor.G
open Go.RowKit Go.Shelf Go.Proofs.YtcbgjcnekdoloaaDoorW.PrintWords
set_option linter.unusedVariables false

theorem var_below {n : String} {cs : Array Value} {w w' : World} (h : w.var? Tryd.prog n = some cs) (hb : Below w.heap.size w w') : w'.var? Tryd.prog n = some cs := by
  rw [← h]
  unfold World.var?
  cases hg : Tryd.prog.globalNamed n with
  | none => rfl
  | some g =>
    have hlt : g < w.heap.size := by
      rcases Nat.lt_or_ge g w.heap.size with h' | h'
      · exact h'
      · exfalso
        unfold World.var? at h
        rw [hg] at h
        simp [Array.getElem?_eq_none h'] at h
    simp [hb.block g hlt]
structure LibMet (w : World) : Prop where
  wrong : ∃ tp p, w.var? Tryd.prog "strconv.ErrSyntax" = some #[.iface tp p]
  range : ∃ tp p, w.var? Tryd.prog "strconv.ErrRange" = some #[.iface tp p]
theorem LibMet.below {w w' : World} (h : LibMet w) (hb : Below w.heap.size w w') : LibMet w' where
  wrong := by obtain ⟨t, p, h⟩ := h.wrong; exact ⟨t, p, var_below h hb⟩
  range := by obtain ⟨t, p, h⟩ := h.range; exact ⟨t, p, var_below h hb⟩
end Go.Proofs.YtcbgjcnekdoloaaDoor.G

namespace Go.Proofs
open Go.Shelf
def Tryd.laysM171_ren : Go.Shelf.Ren := ⟨fun | 171 => 39 | 243 => 50 | 246 => 59 | 283 => 69 | 284 => 70 | 285 => 71 | 286 => 72 | 129 => 79 | 317 => 78 | 318 => 80 | 319 => 81 | 320 => 82 | 337 => 85 | 338 => 86 | n => n, fun | 3 => 3 | 9 => 9 | 2 => 2 | 4 => 4 | 171 => 104 | 0 => 0 | 53 => 74 | 37 => 35 | 5 => 5 | 173 => 107 | 212 => 118 | 51 => 119 | 20 => 20 | 213 => 120 | 46 => 111 | 232 => 129 | 233 => 130 | n => n, fun | 17 => 2 | 18 => 3 | 19 => 4 | n => n⟩
theorem Tryd.laysM171 : Go.Proofs.LaysM.n171 Tryd.prog Tryd.laysM171_ren := {
 mixed := by kernel_rfl
 f129 := Tryd.func79.trans (congrArg some (by kernel_rfl))
 f171 := Tryd.func39.trans (congrArg some (by kernel_rfl))
 f243 := Tryd.func50.trans (congrArg some (by kernel_rfl))
 f246 := Tryd.func59.trans (congrArg some (by kernel_rfl))
 f283 := Tryd.func69.trans (congrArg some (by kernel_rfl))
 f284 := Tryd.func70.trans (congrArg some (by kernel_rfl))
 f285 := Tryd.func71.trans (congrArg some (by kernel_rfl))
 f286 := Tryd.func72.trans (congrArg some (by kernel_rfl))
 f317 := Tryd.func78.trans (congrArg some (by kernel_rfl))
 f318 := Tryd.func80.trans (congrArg some (by kernel_rfl))
 f319 := Tryd.func81.trans (congrArg some (by kernel_rfl))
 f320 := Tryd.func82.trans (congrArg some (by kernel_rfl))
 f337 := Tryd.func85.trans (congrArg some (by kernel_rfl))
 f338 := Tryd.func86.trans (congrArg some (by kernel_rfl))
 t0 := Tryd.underlying0
 a0 := Tryd.isAgg0
 z0 := Tryd.sizeOf0
 v0 := Tryd.zeroValue0
 t2 := Tryd.underlying2
 a2 := Tryd.isAgg2
 z2 := Tryd.sizeOf2
 v2 := Tryd.zeroValue2
 t3 := Tryd.underlying3
 a3 := Tryd.isAgg3
 z3 := Tryd.sizeOf3
 v3 := Tryd.zeroValue3
 t4 := Tryd.underlying4
 a4 := Tryd.isAgg4
 z4 := Tryd.sizeOf4
 v4 := Tryd.zeroValue4
 t5 := Tryd.underlying5
 a5 := Tryd.isAgg5
 z5 := Tryd.sizeOf5
 v5 := Tryd.zeroValue5
 t9 := Tryd.underlying9
 a9 := Tryd.isAgg9
 z9 := Tryd.sizeOf9
 v9 := Tryd.zeroValue9
 t20 := Tryd.underlying20
 a20 := Tryd.isAgg20
 z20 := Tryd.sizeOf20
 v20 := Tryd.zeroValue20
 t37 := Tryd.underlying35
 a37 := Tryd.isAgg35
 z37 := Tryd.sizeOf35
 v37 := Tryd.zeroValue35
 t46 := Tryd.underlying111
 a46 := Tryd.isAgg111
 z46 := Tryd.sizeOf111
 v46 := Tryd.zeroValue111
 t51 := Tryd.underlying119
 a51 := Tryd.isAgg119
 z51 := Tryd.sizeOf119
 v51 := Tryd.zeroValue119
 t53 := Tryd.underlying74
 a53 := Tryd.isAgg74
 z53 := Tryd.sizeOf74
 v53 := Tryd.zeroValue74
 t171 := Tryd.underlying104
 a171 := Tryd.isAgg104
 z171 := Tryd.sizeOf104
 v171 := Tryd.zeroValue104
 t173 := Tryd.underlying107
 a173 := Tryd.isAgg107
 z173 := Tryd.sizeOf107
 v173 := Tryd.zeroValue107
 t212 := Tryd.underlying118
 a212 := Tryd.isAgg118
 z212 := Tryd.sizeOf118
 v212 := Tryd.zeroValue118
 t213 := Tryd.underlying120
 a213 := Tryd.isAgg120
 z213 := Tryd.sizeOf120
 t232 := Tryd.underlying129
 a232 := Tryd.isAgg129
 z232 := Tryd.sizeOf129
 v232 := Tryd.zeroValue129
 t233 := Tryd.underlying130
 a233 := Tryd.isAgg130
 z233 := Tryd.sizeOf130
 v233 := Tryd.zeroValue130
 g17 := by kernel_rfl
 g18 := by kernel_rfl
 g19 := by kernel_rfl
 i0 := by kernel_rfl
 i2 := by kernel_rfl
 i3 := by kernel_rfl
 i4 := by kernel_rfl
 i5 := by kernel_rfl
 i9 := by kernel_rfl
 i20 := by kernel_rfl
 i37 := by kernel_rfl
 i46 := by kernel_rfl
 i51 := by kernel_rfl
 i53 := by kernel_rfl
 i171 := by kernel_rfl
 i173 := by kernel_rfl
 i212 := by kernel_rfl
 i232 := by kernel_rfl
 i233 := by kernel_rfl
 m17 := by kernel_rfl
 m18 := by kernel_rfl
 m19 := by kernel_rfl }
end Go.Proofs
namespace Go.Proofs.YtcbgjcnekdoloaaDoor.G
open Go.RowKit Go.Shelf Go.Sort Go.Proofs.YtcbgjcnekdoloaaDoorW.PrintWords
set_option linter.unusedVariables false

def Tab (w : World) : Prop := Lib.TabIs Tryd.prog w "internal/strconv.uint64pow10" .u64 Lib.pow10Tab
theorem Tab.below {w w' : World} (h : Tab w) (hb : Below w.heap.size w w') : Tab w' := by
  unfold Tab Lib.TabIs at *
  rw [← h]
  unfold World.var?
  cases hg : Tryd.prog.globalNamed "internal/strconv.uint64pow10" with
  | none => rfl
  | some g =>
    have hlt : g < w.heap.size := by
      rcases Nat.lt_or_ge g w.heap.size with h' | h'
      · exact h'
      · exfalso
        unfold World.var? at h
        rw [hg] at h
        simp [Array.getElem?_eq_none h'] at h
    simp [hb.block g hlt]
def strconv_Itoa_39.f (a0 : Int) : Option (ByteArray) := if 0 ≤ a0 ∧ a0 ≤ 9223372036854775807 then some ⟨(Lib.decDigits a0.toNat).toArray⟩ else none
theorem strconv_Itoa_39.calls (a0 : Int) (r : ByteArray) (w : World) (h : strconv_Itoa_39.f a0 = some r) (hT : Tab w) :
    Calls Tryd.prog 39 #[.int .i64 a0] w fun e w' => e = .returned (.string r) ∧ Below w.heap.size w w' := by
  unfold strconv_Itoa_39.f at h
  by_cases c : 0 ≤ a0 ∧ a0 ≤ 9223372036854775807
  case neg => rw [if_neg c] at h; cases h
  rw [if_pos c] at h
  obtain rfl := Option.some.inj h
  refine (Any.strconv_Itoa Tryd.laysM171 a0 (by omega) c.2 w hT).mono ?_
  rintro e w' ⟨rfl, k, os, rfl⟩
  refine ⟨?_, ?_⟩
  · obtain ⟨i, rfl⟩ : ∃ i : Nat, a0 = i := ⟨a0.toNat, by omega⟩
    rw [Lib.itoa_nonneg]; rfl
  · exact ⟨rfl, rfl, rfl, by simp [grow, World.drewN], fun b hb => by simp [grow, World.drewN, Array.getElem?_append_left hb]⟩
end Go.Proofs.YtcbgjcnekdoloaaDoor.G

namespace Go.Proofs.YtcbgjcnekdoloaaDoor.G
open Go.RowKit
structure Met (w : World) : Prop where
  tab : Tab w
  lib : LibMet w
theorem Met.below {w w' : World} (h : Met w) (hb : Below w.heap.size w w') : Met w' := ⟨h.tab.below hb, h.lib.below hb⟩
end Go.Proofs.YtcbgjcnekdoloaaDoor.G

namespace Go.Proofs.YtcbgjcnekdoloaaDoor.G
open Go.RowKit Go.Proofs.YtcbgjcnekdoloaaDoorW.PrintWords Go.Proofs.YtcbgjcnekdoloaaDoorW.PrintLast Go.Proofs.YtcbgjcnekdoloaaDoorW.PrintMore Go.Proofs.YtcbgjcnekdoloaaDoor.Short
section
variable {α : Type} {d : Kd α} {e base n c g a b : Nat} {ok : Nat → Prop} {W w1 w0 : World} {A : Option Addr} {u v : Value} {xs : List α} {o : Obj}
theorem qb (h : Aside0 (W.heap[g]? = some o)) (hb : Below W.heap.size W w1) : Aside0 (w1.heap[g]? = some o) := ⟨blk_below h.out hb⟩
theorem qs (h : Aside0 (Below w0.heap.size w0 W)) (hb : Below W.heap.size W w1) : Aside0 (Below w0.heap.size w0 w1) := ⟨below_step h.out hb⟩
theorem qw (h : Aside0 (Below w0.heap.size w0 W)) (hg : a = W.heap.size) : Aside0 (w0.heap.size ≤ a) := ⟨by rw [hg]; exact below_size h.out⟩
theorem ql (h : Aside0 (W.heap[g]? = some o)) (hg : a = W.heap.size) : Aside0 (g ≠ a) := ⟨by rw [hg]; exact Nat.ne_of_lt (blk_lt h.out)⟩
theorem qg (h : Aside0 (W.heap[g]? = some o)) (hg : a = W.heap.size) : Aside0 (a ≠ g) := ⟨by rw [hg]; exact Nat.ne_of_gt (blk_lt h.out)⟩
end
theorem aK {p : Prop} (h : p) : Aside0 p := ⟨h⟩
theorem zN {w : World} {g : Nat} {o : Obj} (h : w.heap[g]? = some o) (n : Nat) : (w.drewN n).heap[g]? = some o := blk_drewN h n
theorem zD {w : World} {g : Nat} {o : Obj} (h : w.heap[g]? = some o) : w.drew.heap[g]? = some o := blk_drew h
theorem zA {w : World} {g : Nat} {o : Obj} (h : w.heap[g]? = some o) (o' : Obj) : (w.alloc o').heap[g]? = some o := blk_alloc h o'
theorem pB {A B : Prop} (h : Aside0 A) (k : A → B := by intro h; (with_reducible repeat (first | refine bN ?_ _ | refine bD ?_ | refine bA ?_ _)); exact h) : B := k h.out
theorem pH {A B : Prop} (h : Aside0 A) (k : A → B := by intro h; repeat (first | (with_reducible first | exact h | apply below_alloc | apply pw_below_drewN | apply below_drew1 | refine below_set ?_ (Aside0.out (by assumption))) | exact h)) : B := k h.out
theorem sC {A B : Prop} (h : A) (k : A → B := by intro h; repeat (first | exact h | (with_reducible refine Kd.C_alloc ?_ _) | (with_reducible refine Kd.C_drewN ?_ _) | (with_reducible refine Kd.C_drew ?_))) : B := k h
theorem eW {B : Prop} (h : B := by first | rfl | (simp [errW_none, errW_some] <;> rfl) | (simp [*, errW_none, errW_some] <;> rfl)) : B := h
theorem tA {B : Prop} (h : B := by (try simp only [List.map_toArray, List.map_cons, List.map_nil]); first | done | rfl) : B := h
theorem dA {p : Prop} [Decidable p] (h : decide p = true := by first | (with_reducible assumption) | assumption) : p := of_decide_eq_true h
theorem rS {B : Prop} (h : B := by first | rfl | (simp; done) | (simp [*]; done)) : B := h
theorem nF {w : World} {p : Addr} {x : Value} {A b : Nat} (h : w.cell? p = some x) (l : Aside0 (w.heap.size ≤ b)) (e : p.block = A := by first | rfl | exact add_block _ _) : A ≠ b := e ▸ Nat.ne_of_lt (Nat.lt_of_lt_of_le (World.block_lt_of_cell? w _ h) l.out)
theorem cB {p : Addr} {A b : Nat} (h : A ≠ b) (e : p.block = A := by first | rfl | exact add_block _ _) : p.block ≠ b := e ▸ h
theorem kq30 {w : World} {g : Nat} {t : TypeId} {x y z : Value} (h : Aside0 (w.heap[g]? = some (.cells #[x, y, z] t (0, 0)))) : w.cell? ⟨g, 0, none⟩ = some x := (blk_cell h.out 0).trans rfl
theorem kq31 {w : World} {g : Nat} {t : TypeId} {x y z : Value} (h : Aside0 (w.heap[g]? = some (.cells #[x, y, z] t (0, 0)))) : w.cell? ⟨g, 1, none⟩ = some y := (blk_cell h.out 1).trans rfl
theorem kq32 {w : World} {g : Nat} {t : TypeId} {x y z : Value} (h : Aside0 (w.heap[g]? = some (.cells #[x, y, z] t (0, 0)))) : w.cell? ⟨g, 2, none⟩ = some z := (blk_cell h.out 2).trans rfl
theorem kq40 {w : World} {g : Nat} {t : TypeId} {x y z u : Value} (h : Aside0 (w.heap[g]? = some (.cells #[x, y, z, u] t (0, 0)))) : w.cell? ⟨g, 0, none⟩ = some x := (blk_cell h.out 0).trans rfl
theorem kq41 {w : World} {g : Nat} {t : TypeId} {x y z u : Value} (h : Aside0 (w.heap[g]? = some (.cells #[x, y, z, u] t (0, 0)))) : w.cell? ⟨g, 1, none⟩ = some y := (blk_cell h.out 1).trans rfl
theorem kq42 {w : World} {g : Nat} {t : TypeId} {x y z u : Value} (h : Aside0 (w.heap[g]? = some (.cells #[x, y, z, u] t (0, 0)))) : w.cell? ⟨g, 2, none⟩ = some z := (blk_cell h.out 2).trans rfl
theorem kq43 {w : World} {g : Nat} {t : TypeId} {x y z u : Value} (h : Aside0 (w.heap[g]? = some (.cells #[x, y, z, u] t (0, 0)))) : w.cell? ⟨g, 3, none⟩ = some u := (blk_cell h.out 3).trans rfl
theorem fz {w : World} {g : Nat} {t : TypeId} {cs : Array Value} (h : Aside0 (w.heap[g]? = some (.cells cs t (0, 0)))) (i : Nat) : w.frozen? ⟨g, i, none⟩ = false := blk_frozen h.out i
theorem cA3 {w : World} {g : Nat} {t : TypeId} {x y z : Value} (h : Aside0 (w.heap[g]? = some (.cells #[x, y, z] t (0, 0)))) : w.cell? ⟨g, 0, none⟩ = some x ∧ w.cell? ⟨g, 1, none⟩ = some y ∧ w.cell? ⟨g, 2, none⟩ = some z ∧ w.frozen? ⟨g, 0, none⟩ = false ∧ w.frozen? ⟨g, 1, none⟩ = false ∧ w.frozen? ⟨g, 2, none⟩ = false := ⟨kq30 h, kq31 h, kq32 h, fz h 0, fz h 1, fz h 2⟩
theorem cF3 {w : World} {q : Addr} {g i j k : Nat} {x y z v : Value} (hn : q.block ≠ g) (h : w.cell? q = some v) : (((w.setCell ⟨g, i, none⟩ x).setCell ⟨g, j, none⟩ y).setCell ⟨g, k, none⟩ z).cell? q = some v := (cell_far (p := ⟨g, _, none⟩) hn _).trans ((cell_far (p := ⟨g, _, none⟩) hn _).trans ((cell_far (p := ⟨g, _, none⟩) hn _).trans h))
theorem p3 {w : World} {g : Nat} {t : TypeId} {a b c x y z : Value} {B : Prop} (h : Aside0 (w.heap[g]? = some (.cells #[a, b, c] t (0, 0)))) (k : (((w.setCell ⟨g, 0, none⟩ x).setCell ⟨g, 1, none⟩ y).setCell ⟨g, 2, none⟩ z).heap[g]? = some (.cells #[x, y, z] t (0, 0)) → B := by intro h; (with_reducible repeat first | apply zN | apply zD | apply zA); exact h) : B := k (blk_put (blk_put (blk_put h.out 0 x rfl) 1 y rfl) 2 z rfl)
abbrev bs (a b : Nat) : Array Bool := (List.replicate a true ++ List.replicate b false).toArray
theorem sP : (∀ (a : Act) (d : Tmp) (v : Value), a.put (some d) v = { a with tmps := a.tmps.setIfInBounds d v }) ∧ (∀ (a : Act) (v : Value), a.put none v = a) ∧ (∀ (l : List Value) (i : Nat) (x : Value), l.toArray.setIfInBounds i x = (l.set i x).toArray) ∧ (∀ (x y : Value) (l : List Value), (x :: l).set 0 y = y :: l) ∧ (∀ (x y : Value) (l : List Value) (n : Nat), (x :: l).set (n + 1) y = x :: l.set n y) := ⟨fun _ _ _ => rfl, fun _ _ => rfl, fun _ _ _ => List.setIfInBounds_toArray .., fun _ _ _ => rfl, fun _ _ _ _ => rfl⟩
theorem uC {w w1 : World} {p : Addr} {v : Value} (b : Aside0 (Below w.heap.size w w1)) (h : w.cell? p = some v) : w1.cell? p = some v := (b.out.cell (World.block_lt_of_cell? w p h)).trans h
theorem bE {P : Program} {ops : Array Oper} {rest : List Oper} {o : Oper} {a : Act} {Q : Exit → Act → World → Prop} {W : World} {N : Tmp} {cs : Array Value} {t : TypeId}
    (h : ∀ g, g = W.heap.size → ∀ w1, w1.heap[g]? = some (.cells cs t (0, 0)) → Below W.heap.size W w1 → wpList P ops Q rest (a.put o.dst (.pointer (some ⟨g, 0, none⟩))) w1)
    (hd : o.dst = some N := by rfl) (hgd : o.guard = none := by rfl) (hrun : (execOp a.eval o).run P W = .ok (.value (.pointer (some ⟨W.heap.size, 0, none⟩))) (W.alloc (.cells cs t (0, 0))) := by go_simp) : wpList P ops Q (o :: rest) a W := box_event hgd hd hrun h
theorem aJ {p q : Prop} (hp : p) (hq : q) : p ∧ q := ⟨hp, hq⟩
theorem oB {α β : Type} {x : Option α} {f : α → Option β} {r : β} (h : x.bind f = some r) : ∃ a, Aside0 (x = some a) ∧ f a = some r := by
  obtain ⟨a, h1, h2⟩ := Option.bind_eq_some_iff.mp h
  exact ⟨a, ⟨h1⟩, h2⟩
section
variable {P : Program} {ops : Array Oper} {Q : Exit → Act → World → Prop} {md : Region.Mode} {S : World → Prop} {ds : List Nat}
theorem aO {T : Bool × List (List Nat × List Nat)} {l l' : Array Bool} {i : Nat} (hT : Aside0 (rtab md ops = T)) (h : anyT T l.toList l'.toList i = true := by kernel_rfl) : anyB md ops l l' i = true := any_of hT.out h
theorem pS {i : Nat} {N : Option Tmp} {oi : Oper} {v : Value} {fuel : Nat} {l : Array Bool} {a a' : Act} {w : World} (l' : Array Bool) (hc : anyB md ops l l' i = true) (h : wpAnyLast P md ops Q S ds fuel l' a' w)
    (hi : ops[i]? = some oi := by rfl) (hN : oi.dst = N := by rfl) (hy : Yields P ops oi v a := by exact Or.inl ⟨by rfl, by intro w'; go_simp; with_reducible rfl⟩) (hQ : ∀ c a w, Q (.panic c) (a.put oi.dst v) w → Q (.panic c) a w := by exact fun _ _ _ h => h) (ha : a.put N v = a' := by simp only [sP, i64_w, i32_w]; rfl) :
    wpAnyLast P md ops Q S ds (fuel + 1) l a w := pure_ l' hi hN hc hQ hy ha h
end
end Go.Proofs.YtcbgjcnekdoloaaDoor.G

namespace Go.Proofs.YtcbgjcnekdoloaaDoor.G
open Go.RowKit Go.Proofs.YtcbgjcnekdoloaaDoorW.PrintWords Go.Proofs.YtcbgjcnekdoloaaDoorW.PrintLast Go.Proofs.YtcbgjcnekdoloaaDoorW.PrintMore Go.Proofs.YtcbgjcnekdoloaaDoor.Short
attribute [local go_sem] max2_int min2_int max_two min_two max_three min_three max_four min_four   -- for this text's walks alone
set_option linter.unusedVariables false
set_option linter.unusedSimpArgs false

def IsS76 (w0 W : World) (g : Nat) (f0 : List Int) (f1 : Int) (f2 : Int) : Prop := ∃ A0 c0, W.heap[g]? = some (.cells #[.slice A0 f0.length c0, .int .i64 f1, .int .u64 f2] 76 (0, 0)) ∧ w0.heap.size ≤ g ∧ Kd.C (Kd.int .u8) w0 A0 f0.length f0
theorem IsS76.grown {w0 W : World} {g : Nat} {f0 : List Int} {f1 : Int} {f2 : Int} {W1 : World} {row : Option Nat} (h : IsS76 w0 W g f0 f1 f2) (hw : W.grownBy W1 row) (hne : some g ≠ row) : IsS76 w0 W1 g f0 f1 f2 := by
  obtain ⟨A0, c0, hb, hg, hr0⟩ := h
  exact ⟨A0, c0, blk_grown hb hw hne, hg, hr0⟩
theorem IsS76.fresh {w0 W : World} {g : Nat} {f0 : List Int} {f1 : Int} {f2 : Int} (h : IsS76 w0 W g f0 f1 f2) : ∀ k, W.heap.size ≤ k → k ≠ g := by
  obtain ⟨A0, c0, hb, hg, hr0⟩ := h
  exact Kd.freshB hb
theorem IsS76.kept {w0 W : World} {g : Nat} {f0 : List Int} {f1 : Int} {f2 : Int} {W1 : World} {S : Nat → Prop} (h : IsS76 w0 W g f0 f1 f2) (hk : Kept W W1 S) (hne : ¬ S g) : IsS76 w0 W1 g f0 f1 f2 := by
  obtain ⟨A0, c0, hb, hg, hr0⟩ := h
  exact ⟨A0, c0, blk_kept hb hk hne, hg, hr0⟩
theorem IsS76.below {w0 W : World} {g : Nat} {f0 : List Int} {f1 : Int} {f2 : Int} {W1 : World} (h : IsS76 w0 W g f0 f1 f2) (hw : Below W.heap.size W W1) : IsS76 w0 W1 g f0 f1 f2 := h.grown (grown_of_below hw none) (by simp)
theorem IsS76.alloc {w0 W : World} {g : Nat} {f0 : List Int} {f1 : Int} {f2 : Int} (h : IsS76 w0 W g f0 f1 f2) (o : Obj) : IsS76 w0 (W.alloc o) g f0 f1 f2 := h.below (below_alloc (Below.refl _ _) o)
theorem IsS76.drewN {w0 W : World} {g : Nat} {f0 : List Int} {f1 : Int} {f2 : Int} (h : IsS76 w0 W g f0 f1 f2) (m : Nat) : IsS76 w0 (W.drewN m) g f0 f1 f2 := h
theorem IsS76.drew {w0 W : World} {g : Nat} {f0 : List Int} {f1 : Int} {f2 : Int} (h : IsS76 w0 W g f0 f1 f2) : IsS76 w0 W.drew g f0 f1 f2 := h
theorem IsS76.apart {w0 W : World} {g : Nat} {f0 : List Int} {f1 : Int} {f2 : Int} {α : Type} {d : Kd α} {e : Nat} {base : Nat} {ok : Nat → Prop} {v : Value} {xs : List α} (h : IsS76 w0 W g f0 f1 f2) (ho : d.R e W base ok v xs) (ht : ∀ q, q ∈ e :: d.E → q ≠ 76) : d.R e W base (fun k => ok k ∧ k ≠ g) v xs := by
  obtain ⟨A0, c0, hb, hg, hr0⟩ := h
  exact Kd.R_types ho hb ht
theorem IsS76.own_ne {w0 W : World} {g : Nat} {f0 : List Int} {f1 : Int} {f2 : Int} {α : Type} {d : Kd α} {e : Nat} {base : Nat} {ok : Nat → Prop} {v : Value} {xs : List α} (h : IsS76 w0 W g f0 f1 f2) (ho : d.R e W base ok v xs) (ht : e ≠ 76) : some g ≠ v.ownBlock := by
  obtain ⟨A0, c0, hb, hg, hr0⟩ := h
  exact Kd.R_ne ho hb ht
theorem IsS76.lt {w0 W : World} {g : Nat} {f0 : List Int} {f1 : Int} {f2 : Int} (h : IsS76 w0 W g f0 f1 f2) : g < W.heap.size := by
  obtain ⟨A0, c0, hb, hg, hr0⟩ := h
  exact blk_lt hb
theorem IsS76.ge {w0 W : World} {g : Nat} {f0 : List Int} {f1 : Int} {f2 : Int} (h : IsS76 w0 W g f0 f1 f2) : w0.heap.size ≤ g := by
  obtain ⟨A0, c0, hb, hg, hr0⟩ := h
  exact hg
theorem IsS76.ne_blk {w0 W : World} {g : Nat} {f0 : List Int} {f1 : Int} {f2 : Int} {a : Nat} {cs : Array Value} {t : TypeId} {fr : Nat × Nat} (h : IsS76 w0 W g f0 f1 f2) (hb2 : W.heap[a]? = some (.cells cs t fr)) (ht : t ≠ 76) : g ≠ a := by
  obtain ⟨A0, c0, hb, hg, hr0⟩ := h
  rintro rfl
  rw [hb] at hb2
  injection hb2 with hb2
  injection hb2 with _ ht2
  exact ht ht2.symm
theorem IsS76.far {w0 W : World} {g : Nat} {f0 : List Int} {f1 : Int} {f2 : Int} {p : Addr} (h : IsS76 w0 W g f0 f1 f2) (hne : g ≠ p.block) (u : Value) : IsS76 w0 (W.setCell p u) g f0 f1 f2 := by
  obtain ⟨A0, c0, hb, hg, hr0⟩ := h
  exact ⟨A0, c0, blk_far hb hne u, hg, hr0⟩
theorem cellS76_0 {W : World} {g : Nat} {A0 : Option Addr} {c0 : Nat} {f0 : List Int} {f1 : Int} {f2 : Int} (h : W.heap[g]? = some (.cells #[.slice A0 f0.length c0, .int .i64 f1, .int .u64 f2] 76 (0, 0))) : W.cell? ⟨g, 0, none⟩ = some (.slice A0 f0.length c0) := (blk_cell h 0).trans rfl
theorem cellS76_1 {W : World} {g : Nat} {A0 : Option Addr} {c0 : Nat} {f0 : List Int} {f1 : Int} {f2 : Int} (h : W.heap[g]? = some (.cells #[.slice A0 f0.length c0, .int .i64 f1, .int .u64 f2] 76 (0, 0))) : W.cell? ⟨g, 1, none⟩ = some (.int .i64 f1) := (blk_cell h 1).trans rfl
theorem IsS76.set_1 {w0 W : World} {g : Nat} {f0 : List Int} {f1 : Int} {f2 : Int} (h : IsS76 w0 W g f0 f1 f2) (x : Int) : IsS76 w0 (W.setCell ⟨g, 1, none⟩ (.int .i64 x)) g f0 x f2 := by
  obtain ⟨A0, c0, hb, hg, hr0⟩ := h
  exact ⟨A0, c0, by simpa using blk_set hb 1 (.int .i64 x), hg, hr0⟩
theorem cellS76_2 {W : World} {g : Nat} {A0 : Option Addr} {c0 : Nat} {f0 : List Int} {f1 : Int} {f2 : Int} (h : W.heap[g]? = some (.cells #[.slice A0 f0.length c0, .int .i64 f1, .int .u64 f2] 76 (0, 0))) : W.cell? ⟨g, 2, none⟩ = some (.int .u64 f2) := (blk_cell h 2).trans rfl
theorem IsS76.set_2 {w0 W : World} {g : Nat} {f0 : List Int} {f1 : Int} {f2 : Int} (h : IsS76 w0 W g f0 f1 f2) (x : Int) : IsS76 w0 (W.setCell ⟨g, 2, none⟩ (.int .u64 x)) g f0 f1 x := by
  obtain ⟨A0, c0, hb, hg, hr0⟩ := h
  exact ⟨A0, c0, by simpa using blk_set hb 2 (.int .u64 x), hg, hr0⟩
theorem IsS76.new (w0 W : World) (A0 : Option Addr) (c0 : Nat) (f0 : List Int) (f1 : Int) (f2 : Int) (hB : Below w0.heap.size w0 W) (hr0 : Kd.C (Kd.int .u8) w0 A0 f0.length f0) : IsS76 w0 (W.alloc (.cells #[.slice A0 f0.length c0, .int .i64 f1, .int .u64 f2] 76)) W.heap.size f0 f1 f2 := ⟨A0, c0, by simpa using heap_alloc_new W _, hB.size, hr0⟩

def spec_l1Cur_next.f (s0_0 : List Int) (s0_1 : Int) (s0_2 : Int) : Option (Int × Int × Int) := if s0_1 < (s0_0.length : Int) then (if 0 ≤ s0_1 then (if (wrap64 (s0_1 + 1)) ≤ (s0_0.length : Int) then (some (wrap64 (rd s0_0 s0_1), wrap64 (s0_1 + 1), IntKind.u64.wrap ((IntKind.u64.wrap ((IntKind.u64.wrap (s0_2 * 6364136223846793005)) + (IntKind.u64.wrap (wrap64 (rd s0_0 s0_1))))) + 1442695040888963407))) else (some (wrap64 (Go.bits .and .u64 ((IntKind.u64.wrap ((IntKind.u64.wrap ((IntKind.u64.wrap (s0_2 * 6364136223846793005)) + (IntKind.u64.wrap (wrap64 (rd s0_0 s0_1))))) + 1442695040888963407)) / 1099511627776) 255), wrap64 (s0_1 + 1), IntKind.u64.wrap ((IntKind.u64.wrap ((IntKind.u64.wrap (s0_2 * 6364136223846793005)) + (IntKind.u64.wrap (wrap64 (rd s0_0 s0_1))))) + 1442695040888963407)))) else (none)) else (if (wrap64 (s0_1 + 1)) ≤ (s0_0.length : Int) then (some (0, wrap64 (s0_1 + 1), IntKind.u64.wrap ((IntKind.u64.wrap ((IntKind.u64.wrap (s0_2 * 6364136223846793005)) + 0)) + 1442695040888963407))) else (some (wrap64 (Go.bits .and .u64 ((IntKind.u64.wrap ((IntKind.u64.wrap ((IntKind.u64.wrap (s0_2 * 6364136223846793005)) + 0)) + 1442695040888963407)) / 1099511627776) 255), wrap64 (s0_1 + 1), IntKind.u64.wrap ((IntKind.u64.wrap ((IntKind.u64.wrap (s0_2 * 6364136223846793005)) + 0)) + 1442695040888963407))))
set_option maxHeartbeats 8000000 in
set_option maxRecDepth 100000 in
theorem spec_l1Cur_next.calls (g : Nat) (s0_0 : List Int) (s0_1 : Int) (s0_2 : Int) (r1 : Int) (r2 : Int) (r3 : Int) (w0 w : World) (hI : IsS76 w0 w g s0_0 s0_1 s0_2) (hB : Below w0.heap.size w0 w) (h : spec_l1Cur_next.f s0_0 s0_1 s0_2 = some (r1, r2, r3)) :
    Calls Tryd.prog 66 #[.pointer (some ⟨g, 0, none⟩)] w fun e w' => e = .returned (.int .i64 r1) ∧ IsS76 w0 w' g s0_0 r2 r3 ∧ Below w0.heap.size w0 w' ∧ KeepBut w w' g none := by
  have HI0 := aM hI
  have HK := aM (KeepBut.refl w g none)
  have HL := aM hB.size
  clear hI
  have HW0 := aM hB.size
  have HB := aM hB
  clear hB
  have H : (if s0_1 < (s0_0.length : Int) then (if 0 ≤ s0_1 then (if (wrap64 (s0_1 + 1)) ≤ (s0_0.length : Int) then (some (wrap64 (rd s0_0 s0_1), wrap64 (s0_1 + 1), IntKind.u64.wrap ((IntKind.u64.wrap ((IntKind.u64.wrap (s0_2 * 6364136223846793005)) + (IntKind.u64.wrap (wrap64 (rd s0_0 s0_1))))) + 1442695040888963407))) else (some (wrap64 (Go.bits .and .u64 ((IntKind.u64.wrap ((IntKind.u64.wrap ((IntKind.u64.wrap (s0_2 * 6364136223846793005)) + (IntKind.u64.wrap (wrap64 (rd s0_0 s0_1))))) + 1442695040888963407)) / 1099511627776) 255), wrap64 (s0_1 + 1), IntKind.u64.wrap ((IntKind.u64.wrap ((IntKind.u64.wrap (s0_2 * 6364136223846793005)) + (IntKind.u64.wrap (wrap64 (rd s0_0 s0_1))))) + 1442695040888963407)))) else (none)) else (if (wrap64 (s0_1 + 1)) ≤ (s0_0.length : Int) then (some (0, wrap64 (s0_1 + 1), IntKind.u64.wrap ((IntKind.u64.wrap ((IntKind.u64.wrap (s0_2 * 6364136223846793005)) + 0)) + 1442695040888963407))) else (some (wrap64 (Go.bits .and .u64 ((IntKind.u64.wrap ((IntKind.u64.wrap ((IntKind.u64.wrap (s0_2 * 6364136223846793005)) + 0)) + 1442695040888963407)) / 1099511627776) 255), wrap64 (s0_1 + 1), IntKind.u64.wrap ((IntKind.u64.wrap ((IntKind.u64.wrap (s0_2 * 6364136223846793005)) + 0)) + 1442695040888963407))))) = some (r1, r2, r3) := h
  clear h
  by_cases c2 : s0_1 < (s0_0.length : Int)
  · rw [if_pos c2] at H
    have c2b0 : decide (s0_1 < (s0_0.length : Int)) = true := decide_eq_true c2
    clear c2
    by_cases c3 : 0 ≤ s0_1
    · rw [if_pos c3] at H
      have c3b0 : decide (0 ≤ s0_1) = true := decide_eq_true c3
      clear c3
      by_cases c4 : (wrap64 (s0_1 + 1)) ≤ (s0_0.length : Int)
      · rw [if_pos c4] at H
        have c4b0 : decide ((wrap64 (s0_1 + 1)) ≤ (s0_0.length : Int)) = true := decide_eq_true c4
        clear c4
        simp only [Option.some.injEq, Prod.mk.injEq] at H
        obtain ⟨rfl, rfl, rfl⟩ := H
        obtain ⟨ASz5_0, cSz5_0, HGz5, hgz5, HSz5_0⟩ := HI0.out
        have hcz5_0 := cellS76_0 HGz5
        have hcz5_1 := cellS76_1 HGz5
        have hcz5_2 := cellS76_2 HGz5
        have hfz5_1 := blk_frozen HGz5 1
        have hfz5_2 := blk_frozen HGz5 2
        clear HGz5 hgz5
        have p101 : 0 ≤ (s0_1 : Int) := of_decide_eq_true (by first | (with_reducible assumption) | assumption)
        have q101 : s0_1 < (s0_0.length : Int) := of_decide_eq_true (by first | (with_reducible assumption) | assumption)
        obtain ⟨ad101, e101, hx101_0⟩ := Kd.at_int HSz5_0 s0_1 p101 q101
        cases e101
        replace hx101_0 := pw_cell_below HB.out hx101_0
        replace p101 := eq_true p101
        replace q101 := eq_true q101
        go_enter Tryd.func66, Tryd.ntmps66
        go_wp2
        repeat (go_quiet (fail); try go_wp2)
        go_ret
        exact ⟨by first | rfl | (simp [errW_none, errW_some] <;> rfl) | (simp [*, errW_none, errW_some] <;> rfl), by repeat (first | (with_reducible first | exact HI0.out | apply IsS76.alloc | apply IsS76.drewN | apply IsS76.drew | apply IsS76.set_1 | apply IsS76.set_2) | exact HI0.out), by repeat (first | (with_reducible first | exact HB.out | apply below_alloc | apply pw_below_drewN | apply below_drew1 | refine below_set ?_ (IsS76.ge HI0.out)) | exact HB.out), by repeat (first | (with_reducible first | exact HK.out | apply KeepBut.set_ | apply keep_drewN | apply keep_drew | apply keep_alloc) | exact HK.out)⟩
      · rw [if_neg c4] at H
        have c4b0 : decide ((wrap64 (s0_1 + 1)) ≤ (s0_0.length : Int)) = false := decide_eq_false c4
        clear c4
        simp only [Option.some.injEq, Prod.mk.injEq] at H
        obtain ⟨rfl, rfl, rfl⟩ := H
        obtain ⟨ASz6_0, cSz6_0, HGz6, hgz6, HSz6_0⟩ := HI0.out
        have hcz6_0 := cellS76_0 HGz6
        have hcz6_1 := cellS76_1 HGz6
        have hcz6_2 := cellS76_2 HGz6
        have hfz6_1 := blk_frozen HGz6 1
        have hfz6_2 := blk_frozen HGz6 2
        clear HGz6 hgz6
        have p101 : 0 ≤ (s0_1 : Int) := of_decide_eq_true (by first | (with_reducible assumption) | assumption)
        have q101 : s0_1 < (s0_0.length : Int) := of_decide_eq_true (by first | (with_reducible assumption) | assumption)
        obtain ⟨ad101, e101, hx101_0⟩ := Kd.at_int HSz6_0 s0_1 p101 q101
        cases e101
        replace hx101_0 := pw_cell_below HB.out hx101_0
        replace p101 := eq_true p101
        replace q101 := eq_true q101
        go_enter Tryd.func66, Tryd.ntmps66
        go_wp2
        repeat (go_quiet (fail); try go_wp2)
        go_ret
        exact ⟨by first | rfl | (simp [errW_none, errW_some] <;> rfl) | (simp [*, errW_none, errW_some] <;> rfl), by repeat (first | (with_reducible first | exact HI0.out | apply IsS76.alloc | apply IsS76.drewN | apply IsS76.drew | apply IsS76.set_1 | apply IsS76.set_2) | exact HI0.out), by repeat (first | (with_reducible first | exact HB.out | apply below_alloc | apply pw_below_drewN | apply below_drew1 | refine below_set ?_ (IsS76.ge HI0.out)) | exact HB.out), by repeat (first | (with_reducible first | exact HK.out | apply KeepBut.set_ | apply keep_drewN | apply keep_drew | apply keep_alloc) | exact HK.out)⟩
    · rw [if_neg c3] at H
      exact absurd H (by simp)
  · rw [if_neg c2] at H
    have c2b0 : decide (s0_1 < (s0_0.length : Int)) = false := decide_eq_false c2
    clear c2
    by_cases c7 : (wrap64 (s0_1 + 1)) ≤ (s0_0.length : Int)
    · rw [if_pos c7] at H
      have c7b0 : decide ((wrap64 (s0_1 + 1)) ≤ (s0_0.length : Int)) = true := decide_eq_true c7
      clear c7
      simp only [Option.some.injEq, Prod.mk.injEq] at H
      obtain ⟨rfl, rfl, rfl⟩ := H
      obtain ⟨ASz8_0, cSz8_0, HGz8, hgz8, HSz8_0⟩ := HI0.out
      have hcz8_0 := cellS76_0 HGz8
      have hcz8_1 := cellS76_1 HGz8
      have hcz8_2 := cellS76_2 HGz8
      have hfz8_1 := blk_frozen HGz8 1
      have hfz8_2 := blk_frozen HGz8 2
      clear HGz8 hgz8
      go_enter Tryd.func66, Tryd.ntmps66
      go_wp2
      repeat (go_quiet (fail); try go_wp2)
      go_ret
      simp only [Int.add_zero]
      exact ⟨by first | rfl | (simp [errW_none, errW_some] <;> rfl) | (simp [*, errW_none, errW_some] <;> rfl), by repeat (first | (with_reducible first | exact HI0.out | apply IsS76.alloc | apply IsS76.drewN | apply IsS76.drew | apply IsS76.set_1 | apply IsS76.set_2) | exact HI0.out), by repeat (first | (with_reducible first | exact HB.out | apply below_alloc | apply pw_below_drewN | apply below_drew1 | refine below_set ?_ (IsS76.ge HI0.out)) | exact HB.out), by repeat (first | (with_reducible first | exact HK.out | apply KeepBut.set_ | apply keep_drewN | apply keep_drew | apply keep_alloc) | exact HK.out)⟩
    · rw [if_neg c7] at H
      have c7b0 : decide ((wrap64 (s0_1 + 1)) ≤ (s0_0.length : Int)) = false := decide_eq_false c7
      clear c7
      simp only [Option.some.injEq, Prod.mk.injEq] at H
      obtain ⟨rfl, rfl, rfl⟩ := H
      obtain ⟨ASz9_0, cSz9_0, HGz9, hgz9, HSz9_0⟩ := HI0.out
      have hcz9_0 := cellS76_0 HGz9
      have hcz9_1 := cellS76_1 HGz9
      have hcz9_2 := cellS76_2 HGz9
      have hfz9_1 := blk_frozen HGz9 1
      have hfz9_2 := blk_frozen HGz9 2
      clear HGz9 hgz9
      go_enter Tryd.func66, Tryd.ntmps66
      go_wp2
      repeat (go_quiet (fail); try go_wp2)
      go_ret
      simp only [Int.add_zero]
      exact ⟨by first | rfl | (simp [errW_none, errW_some] <;> rfl) | (simp [*, errW_none, errW_some] <;> rfl), by repeat (first | (with_reducible first | exact HI0.out | apply IsS76.alloc | apply IsS76.drewN | apply IsS76.drew | apply IsS76.set_1 | apply IsS76.set_2) | exact HI0.out), by repeat (first | (with_reducible first | exact HB.out | apply below_alloc | apply pw_below_drewN | apply below_drew1 | refine below_set ?_ (IsS76.ge HI0.out)) | exact HB.out), by repeat (first | (with_reducible first | exact HK.out | apply KeepBut.set_ | apply keep_drewN | apply keep_drew | apply keep_alloc) | exact HK.out)⟩


def spec_l1In.f (a0 : Int) (a1 : Int) (a2 : Int) : Option (Bool) := if a0 ≥ a1 then (some (decide (a0 ≤ a2))) else (some false)
set_option maxHeartbeats 8000000 in
set_option maxRecDepth 100000 in
theorem spec_l1In.calls (a0 : Int) (a1 : Int) (a2 : Int) (r : Bool) (w : World) (h : spec_l1In.f a0 a1 a2 = some r) :
  Calls Tryd.prog 20 #[.int .i64 a0, .int .i64 a1, .int .i64 a2] w fun e w' => e = .returned (.bool r) ∧ Drawn0 w w' := by
 have H : (if a0 ≥ a1 then (some (decide (a0 ≤ a2))) else (some false)) = some r := h
 clear h
 by_cases c4 : a0 ≥ a1
 ·rw [if_pos c4] at H
  have c4b0 : decide (a1 ≤ a0) = true := decide_eq_true c4
  clear c4
  obtain rfl := Option.some.inj H
  go_enter Tryd.func20, Tryd.ntmps20
  go_wp2
  go_ret
  exact ⟨by first | rfl | (simp; done) | (simp [*]; done), by repeat (first | exact Drawn0.refl _ | apply Drawn0.step)⟩
 ·rw [if_neg c4] at H
  have c4b0 : decide (a1 ≤ a0) = false := decide_eq_false c4
  clear c4
  obtain rfl := Option.some.inj H
  go_enter Tryd.func20, Tryd.ntmps20
  go_wp2
  go_ret
  exact ⟨by first | rfl | (simp; done) | (simp [*]; done), by repeat (first | exact Drawn0.refl _ | apply Drawn0.step)⟩


mutual
def spec_GoodHeap.j0 : Nat → Bool → Int → List (S61) → List Int → Option (Bool)
 | 0, _, _, _, _ => none
 | k + 1, x25, x102000, x102001, x102002 => if x25 = true then (some false) else (spec_GoodHeap.l0 k x102001 (x102001.length : Int) 0 x102000 x102001 x102002)
def spec_GoodHeap.l0 : Nat → List (S61) → Int → Int → Int → List (S61) → List Int → Option (Bool)
 | 0, _, _, _, _, _, _ => none
 | k + 1, x27, x28, x29, x102000, x102001, x102002 => if x29 < x28 then (if 0 ≤ x29 then (if x29 < (x27.length : Int) then (if (rd_T61 x27 x29).f0 = true then (if ((rd_T61 x27 x29).f2) = 0 then (if ((rd_T61 x27 x29).f3) = 0 then (spec_GoodHeap.l0 k x27 x28 (wrap64 (x29 + 1)) x102000 x102001 x102002) else (some false)) else (some false)) else (if ((rd_T61 x27 x29).f1) = 0 then ((spec_l1In.f ((rd_T61 x27 x29).f2) 0 (wrap64 (x29 - 1))).bind fun t105 => (if t105 = true then ((spec_l1In.f ((rd_T61 x27 x29).f3) 0 (wrap64 (x29 - 1))).bind fun t106 => (if t106 = true then (spec_GoodHeap.l0 k x27 x28 (wrap64 (x29 + 1)) x102000 x102001 x102002) else (some false))) else (some false))) else (some false))) else (none)) else (none)) else (spec_GoodHeap.l1 k x102002 (x102002.length : Int) 0 x102000 x102001 x102002)
def spec_GoodHeap.l1 : Nat → List Int → Int → Int → Int → List (S61) → List Int → Option (Bool)
 | 0, _, _, _, _, _, _ => none
 | k + 1, x74, x75, x76, x102000, x102001, x102002 => if x76 < x75 then (if 0 ≤ x76 then (if x76 < (x74.length : Int) then ((spec_l1In.f (rd x74 x76) 0 (wrap64 ((x102001.length : Int) - 1))).bind fun t108 => (if t108 = true then (spec_GoodHeap.l1 k x74 x75 (wrap64 (x76 + 1)) x102000 x102001 x102002) else (some false))) else (none)) else (none)) else (some true)
end
def spec_GoodHeap.f (k : Nat) (a0_0 : Int) (l0_1 : List (S61)) (l0_2 : List Int) : Option (Bool) := if (l0_1.length : Int) > 200 then (spec_GoodHeap.j0 k true a0_0 l0_1 l0_2) else (if (l0_2.length : Int) > 60 then (spec_GoodHeap.j0 k true a0_0 l0_1 l0_2) else ((spec_l1In.f a0_0 0 (l0_1.length : Int)).bind fun t102 => (spec_GoodHeap.j0 k (!t102) a0_0 l0_1 l0_2)))
set_option maxHeartbeats 8000000 in
set_option maxRecDepth 100000 in
theorem spec_GoodHeap.calls (k : Nat) (a0_0 : Int) (A0_1 : Option Addr) (c0_1 : Nat) (l0_1 : List (S61)) (A0_2 : Option Addr) (c0_2 : Nat) (l0_2 : List Int) (r : Bool) (w : World) (hr0_1 : Kd.C k61 w A0_1 l0_1.length l0_1) (hc0_1 : l0_1.length ≤ c0_1) (hr0_2 : Kd.C (Kd.int .i64) w A0_2 l0_2.length l0_2) (hc0_2 : l0_2.length ≤ c0_2) (h : spec_GoodHeap.f k a0_0 l0_1 l0_2 = some r) :
  Calls Tryd.prog 19 #[.agg #[.int .i64 a0_0, .slice A0_1 l0_1.length c0_1, .slice A0_2 l0_2.length c0_2]] w fun e w' => e = .returned (.bool r) ∧ Below w.heap.size w w' := by
 have hu31 := Tryd.underlying31
 have hu61 := Tryd.underlying61
 have HR0_1 := aK hr0_1
 have HC0_1 := aK hc0_1
 clear hr0_1 hc0_1
 have HR0_2 := aK hr0_2
 have HC0_2 := aK hc0_2
 clear hr0_2 hc0_2
 have HB := aK (Below.refl w.heap.size w)
 have H : (if (l0_1.length : Int) > 200 then (spec_GoodHeap.j0 k true a0_0 l0_1 l0_2) else (if (l0_2.length : Int) > 60 then (spec_GoodHeap.j0 k true a0_0 l0_1 l0_2) else ((spec_l1In.f a0_0 0 (l0_1.length : Int)).bind fun t102 => (spec_GoodHeap.j0 k (!t102) a0_0 l0_1 l0_2)))) = some r := h
 clear h
 have HC2 := aK H
 clear H
 go_enter Tryd.func19, Tryd.ntmps19
 go_upto_region 1 with (first | ((with_reducible refine gate_dst (N := 1) rfl ?_); (try (refine gate_guard (by rfl) ?_; dsimp only)); refine bE (N := 1) (cs := #[.int .i64 a0_0, .slice A0_1 l0_1.length c0_1, .slice A0_2 l0_2.length c0_2]) (t := 31) ?_; intro gb101 hg w3 hbox hb; have GW101 := qw HB hg; have GE101 := qw HB hg; have BK101 := aK hbox; replace HB := qs HB hb; clear hb hbox hg))
 (try simp only [Act.put, List.setIfInBounds_toArray, List.set_cons_zero, List.set_cons_succ])
 go_cut [25] (fun v25 wc => ∃ (kq : Nat) (x25_1 : Bool), v25 = .bool x25_1 ∧ Aside0 (spec_GoodHeap.j0 kq x25_1 a0_0 l0_1 l0_2 = some r) ∧ Aside0 (kq ≤ k) ∧ Aside0 (wc.heap[gb101]? = some (.cells #[.int .i64 a0_0, (.slice A0_1 l0_1.length c0_1), (.slice A0_2 l0_2.length c0_2)] 31 (0, 0))) ∧ Aside0 (Below w.heap.size w wc))
 case first =>
  have H := HC2.out
  clear HC2
  by_cases c4 : (l0_1.length : Int) > 200
  ·rw [if_pos c4] at H
   have c4b0 : decide (200 < (l0_1.length : Int)) = true := decide_eq_true c4
   have c4b1 : decide (200 < l0_1.length) = true := decide_eq_true (by omega)
   clear c4
   (first | rw [c4b0] | (simp only [i64_w, i32_w]; rw [c4b0]) | skip)
   have H' := aK H
   clear H
   obtain ⟨hcz5_0, hcz5_1, hcz5_2, hfz5_0, hfz5_1, hfz5_2⟩ := cA3 BK101
   go_wp2
   go_meet
   case rel => exact ⟨_, (true), rS, H', ⟨by first | omega | exact Nat.le_refl _⟩, ⟨pB BK101⟩, ⟨pH HB⟩⟩
  ·rw [if_neg c4] at H
   have c4b0 : decide (200 < (l0_1.length : Int)) = false := decide_eq_false c4
   have c4b1 : decide (200 < l0_1.length) = false := decide_eq_false (by omega)
   clear c4
   (first | rw [c4b0] | (simp only [i64_w, i32_w]; rw [c4b0]) | skip)
   by_cases c6 : (l0_2.length : Int) > 60
   ·rw [if_pos c6] at H
    have c6b0 : decide (60 < (l0_2.length : Int)) = true := decide_eq_true c6
    have c6b1 : decide (60 < l0_2.length) = true := decide_eq_true (by omega)
    clear c6
    have H' := aK H
    clear H
    obtain ⟨hcz7_0, hcz7_1, hcz7_2, hfz7_0, hfz7_1, hfz7_2⟩ := cA3 BK101
    go_wp2
    go_meet
    case rel => exact ⟨_, (true), rS, H', ⟨by first | omega | exact Nat.le_refl _⟩, ⟨pB BK101⟩, ⟨pH HB⟩⟩
   ·rw [if_neg c6] at H
    have c6b0 : decide (60 < (l0_2.length : Int)) = false := decide_eq_false c6
    have c6b1 : decide (60 < l0_2.length) = false := decide_eq_false (by omega)
    clear c6
    obtain ⟨t102, A8, H⟩ := oB H
    try dsimp only at H
    have H' := aK H
    clear H
    obtain ⟨hcz9_0, hcz9_1, hcz9_2, hfz9_0, hfz9_1, hfz9_2⟩ := cA3 BK101
    go_wp2_with (first | (go_at_call 20; (with_reducible refine (spec_l1In.calls a0_0 0 (l0_1.length : Int) t102 _ A8.out).mono ?_); rintro e w' ⟨rfl, ⟨nd, rfl⟩⟩))
    go_meet
    case rel => exact ⟨_, (!t102), rS, H', ⟨by first | omega | exact Nat.le_refl _⟩, ⟨pB BK101⟩, ⟨pH HB⟩⟩
 case rest =>
  clear HC2
  try clear c1; try clear p2; try clear c4; try clear c4b0; try clear c4b1; try clear c6; try clear c6b0; try clear c6b1; try clear hcz5_0 hcz5_1 hcz5_2 hfz5_0 hfz5_1 hfz5_2; try clear hcz7_0 hcz7_1 hcz7_2 hfz7_0 hfz7_1 hfz7_2; try clear hcz9_0 hcz9_1 hcz9_2 hfz9_0 hfz9_1 hfz9_2
  obtain ⟨kq, x25_1, rfl, HA, HJ1, BK101, HB⟩ := hcut
  cases kq with
  | zero => exact absurd HA.out (by simp [spec_GoodHeap.j0])
  | succ kj1 =>
   have H := HA.out
   clear HA
   simp only [spec_GoodHeap.j0] at H
   by_cases c10 : x25_1 = true
   ·subst c10
    rw [if_pos rfl] at H
    obtain rfl := Option.some.inj H
    go_wp2
    go_ret
    exact ⟨eW, pH HB⟩
   ·replace c10 := Bool.eq_false_iff.mpr c10
    subst c10
    rw [if_neg (show ¬ (false = true) by decide)] at H
    have H' := aK H
    clear H
    obtain ⟨hcz11_0, hcz11_1, hcz11_2, hfz11_0, hfz11_1, hfz11_2⟩ := cA3 BK101
    go_wp2
    go_loopg [29] kj1 (fun kq v29 w' => ∃ (x29_2 : Int), v29 = .int .i64 x29_2 ∧ Aside0 (spec_GoodHeap.l0 kq l0_1 (l0_1.length : Int) x29_2 a0_0 l0_1 l0_2 = some r) ∧ Aside0 (kq ≤ kj1) ∧ Aside0 (w'.heap[gb101]? = some (.cells #[.int .i64 a0_0, (.slice A0_1 l0_1.length c0_1), (.slice A0_2 l0_2.length c0_2)] 31 (0, 0))) ∧ Aside0 (Below w.heap.size w w'))
    case atStart => exact ⟨(0), rS, H', ⟨Nat.le_refl _⟩, ⟨pB BK101⟩, ⟨pH HB⟩⟩
    case round =>
     clear H'
     try clear c1; try clear p2; try clear c4; try clear c4b0; try clear c4b1; try clear c6; try clear c6b0; try clear c6b1; try clear c10; try clear p2; try clear hcz11_0 hcz11_1 hcz11_2 hfz11_0 hfz11_1 hfz11_2; try clear hcz5_0 hcz5_1 hcz5_2 hfz5_0 hfz5_1 hfz5_2; try clear hcz7_0 hcz7_1 hcz7_2 hfz7_0 hfz7_1 hfz7_2; try clear hcz9_0 hcz9_1 hcz9_2 hfz9_0 hfz9_1 hfz9_2
     obtain ⟨x29_2, rfl, HA, HK2, BK101, HB⟩ := hrel
     cases gk with
     | zero => exact absurd HA.out (by simp [spec_GoodHeap.l0])
     | succ k2 =>
      have H := HA.out
      clear HA
      simp only [spec_GoodHeap.l0] at H
      by_cases c12 : x29_2 < (l0_1.length : Int)
      ·rw [if_pos c12] at H
       have c12b0 : decide (x29_2 < (l0_1.length : Int)) = true := decide_eq_true c12
       clear c12
       by_cases c13 : 0 ≤ x29_2
       ·rw [if_pos c13] at H
        have c13b0 : decide (0 ≤ x29_2) = true := decide_eq_true c13
        clear c13
        by_cases c14 : x29_2 < (l0_1.length : Int)
        ·rw [if_pos c14] at H
         have c14b0 : decide (x29_2 < (l0_1.length : Int)) = true := decide_eq_true c14
         clear c14
         obtain ⟨bq15, hbq15⟩ : ∃ b_ : Bool, b_ = ((rd_T61 l0_1 x29_2).f0) := ⟨_, rfl⟩
         replace H : (if bq15 = true then (if ((rd_T61 l0_1 x29_2).f2) = 0 then (if ((rd_T61 l0_1 x29_2).f3) = 0 then (spec_GoodHeap.l0 k2 l0_1 (l0_1.length : Int) (wrap64 (x29_2 + 1)) a0_0 l0_1 l0_2) else (some false)) else (some false)) else (if ((rd_T61 l0_1 x29_2).f1) = 0 then ((spec_l1In.f ((rd_T61 l0_1 x29_2).f2) 0 (wrap64 (x29_2 - 1))).bind fun t105 => (if t105 = true then ((spec_l1In.f ((rd_T61 l0_1 x29_2).f3) 0 (wrap64 (x29_2 - 1))).bind fun t106 => (if t106 = true then (spec_GoodHeap.l0 k2 l0_1 (l0_1.length : Int) (wrap64 (x29_2 + 1)) a0_0 l0_1 l0_2) else (some false))) else (some false))) else (some false))) = some r := by rw [← hbq15] at H; exact H
         have Nbq15 := aK hbq15
         clear hbq15
         by_cases c16 : bq15 = true
         ·subst c16
          rw [if_pos rfl] at H
          by_cases c17 : ((rd_T61 l0_1 x29_2).f2) = 0
          ·rw [if_pos c17] at H
           have c17b0 : (((rd_T61 l0_1 x29_2).f2) == 0) = true := beq_iff_eq.mpr c17
           have c17b1 : (((rd_T61 l0_1 x29_2).f2) != 0) = false := bne_eq_false_iff_eq.mpr c17
           clear c17
           by_cases c18 : ((rd_T61 l0_1 x29_2).f3) = 0
           ·rw [if_pos c18] at H
            have c18b0 : (((rd_T61 l0_1 x29_2).f3) == 0) = true := beq_iff_eq.mpr c18
            have c18b1 : (((rd_T61 l0_1 x29_2).f3) != 0) = false := bne_eq_false_iff_eq.mpr c18
            clear c18
            have H' := aK H
            clear H
            have p103 : 0 ≤ (x29_2 : Int) := dA
            have q103 : x29_2 < (l0_1.length : Int) := dA
            obtain ⟨ad103, e103, hx103_0, hx103_1, hx103_2, hx103_3⟩ := at_T61 HR0_1.out x29_2 p103 q103
            (try rw [← Nbq15.out] at hx103_0)
            cases e103
            replace hx103_0 := uC HB hx103_0
            replace hx103_1 := uC HB hx103_1
            replace hx103_2 := uC HB hx103_2
            replace hx103_3 := uC HB hx103_3
            replace p103 := eq_true p103
            replace q103 := eq_true q103
            go_wp2_with (first | ((with_reducible refine gate_dst (N := 4) rfl ?_); (try (refine gate_guard (by rfl) ?_; dsimp only)); refine bE (N := 4) (cs := #[.bool false, .int .i64 0, .int .i64 0, .int .i64 0]) (t := 61) ?_; intro gb104 hg w19 hbox hb; have GW104 := qw HB hg; have GE104 := qw HB hg; have NB101_104 := ql BK101 hg; have NB104_101 := qg BK101 hg; replace BK101 := qb BK101 hb; have BK104 := aK hbox; replace HB := qs HB hb; clear hb hbox hg; have hnb20 := NB104_101.out; have hnc20 := NB101_104.out; have hcz21_0 := kq40 BK104; have hcz21_1 := kq41 BK104; have hcz21_2 := kq42 BK104; have hcz21_3 := kq43 BK104; have hfz21_0 := fz BK104 0; have hfz21_1 := fz BK104 1; have hfz21_2 := fz BK104 2; have hfz21_3 := fz BK104 3))
            go_roundg k2
            case measure => have := HJ1.out; have := HK2.out; omega
            case rel => exact ⟨(wrap64 (x29_2 + 1)), rS, H', ⟨by have := HJ1.out; have := HK2.out; omega⟩, ⟨by (repeat first | with_reducible apply zN | with_reducible apply zD | with_reducible apply zA | refine blk_far ?_ NB101_104.out _); exact BK101.out⟩, ⟨pH HB⟩⟩
           ·rw [if_neg c18] at H
            have c18b0 : (((rd_T61 l0_1 x29_2).f3) == 0) = false := beq_eq_false_iff_ne.mpr c18
            have c18b1 : (((rd_T61 l0_1 x29_2).f3) != 0) = true := bne_iff_ne.mpr c18
            obtain rfl := Option.some.inj H
            have p103 : 0 ≤ (x29_2 : Int) := dA
            have q103 : x29_2 < (l0_1.length : Int) := dA
            obtain ⟨ad103, e103, hx103_0, hx103_1, hx103_2, hx103_3⟩ := at_T61 HR0_1.out x29_2 p103 q103
            (try rw [← Nbq15.out] at hx103_0)
            cases e103
            replace hx103_0 := uC HB hx103_0
            replace hx103_1 := uC HB hx103_1
            replace hx103_2 := uC HB hx103_2
            replace hx103_3 := uC HB hx103_3
            replace p103 := eq_true p103
            replace q103 := eq_true q103
            go_wp2_with (first | ((with_reducible refine gate_dst (N := 4) rfl ?_); (try (refine gate_guard (by rfl) ?_; dsimp only)); refine bE (N := 4) (cs := #[.bool false, .int .i64 0, .int .i64 0, .int .i64 0]) (t := 61) ?_; intro gb104 hg w22 hbox hb; have GW104 := qw HB hg; have GE104 := qw HB hg; have NB101_104 := ql BK101 hg; have NB104_101 := qg BK101 hg; replace BK101 := qb BK101 hb; have BK104 := aK hbox; replace HB := qs HB hb; clear hb hbox hg; have hnb23 := NB104_101.out; have hnc23 := NB101_104.out; have hcz24_0 := kq40 BK104; have hcz24_1 := kq41 BK104; have hcz24_2 := kq42 BK104; have hcz24_3 := kq43 BK104; have hfz24_0 := fz BK104 0; have hfz24_1 := fz BK104 1; have hfz24_2 := fz BK104 2; have hfz24_3 := fz BK104 3))
            go_ret
            exact ⟨eW, pH HB⟩
          ·rw [if_neg c17] at H
           have c17b0 : (((rd_T61 l0_1 x29_2).f2) == 0) = false := beq_eq_false_iff_ne.mpr c17
           have c17b1 : (((rd_T61 l0_1 x29_2).f2) != 0) = true := bne_iff_ne.mpr c17
           obtain rfl := Option.some.inj H
           have p103 : 0 ≤ (x29_2 : Int) := dA
           have q103 : x29_2 < (l0_1.length : Int) := dA
           obtain ⟨ad103, e103, hx103_0, hx103_1, hx103_2, hx103_3⟩ := at_T61 HR0_1.out x29_2 p103 q103
           (try rw [← Nbq15.out] at hx103_0)
           cases e103
           replace hx103_0 := uC HB hx103_0
           replace hx103_1 := uC HB hx103_1
           replace hx103_2 := uC HB hx103_2
           replace hx103_3 := uC HB hx103_3
           replace p103 := eq_true p103
           replace q103 := eq_true q103
           go_wp2_with (first | ((with_reducible refine gate_dst (N := 4) rfl ?_); (try (refine gate_guard (by rfl) ?_; dsimp only)); refine bE (N := 4) (cs := #[.bool false, .int .i64 0, .int .i64 0, .int .i64 0]) (t := 61) ?_; intro gb104 hg w25 hbox hb; have GW104 := qw HB hg; have GE104 := qw HB hg; have NB101_104 := ql BK101 hg; have NB104_101 := qg BK101 hg; replace BK101 := qb BK101 hb; have BK104 := aK hbox; replace HB := qs HB hb; clear hb hbox hg; have hnb26 := NB104_101.out; have hnc26 := NB101_104.out; have hcz27_0 := kq40 BK104; have hcz27_1 := kq41 BK104; have hcz27_2 := kq42 BK104; have hcz27_3 := kq43 BK104; have hfz27_0 := fz BK104 0; have hfz27_1 := fz BK104 1; have hfz27_2 := fz BK104 2; have hfz27_3 := fz BK104 3))
           go_ret
           exact ⟨eW, pH HB⟩
         ·replace c16 := Bool.eq_false_iff.mpr c16
          subst c16
          rw [if_neg (show ¬ (false = true) by decide)] at H
          by_cases c28 : ((rd_T61 l0_1 x29_2).f1) = 0
          ·rw [if_pos c28] at H
           have c28b0 : (((rd_T61 l0_1 x29_2).f1) == 0) = true := beq_iff_eq.mpr c28
           have c28b1 : (((rd_T61 l0_1 x29_2).f1) != 0) = false := bne_eq_false_iff_eq.mpr c28
           clear c28
           obtain ⟨t105, A29, H⟩ := oB H
           try dsimp only at H
           by_cases c30 : t105 = true
           ·subst c30
            rw [if_pos rfl] at H
            obtain ⟨t106, A31, H⟩ := oB H
            try dsimp only at H
            by_cases c32 : t106 = true
            ·subst c32
             rw [if_pos rfl] at H
             have H' := aK H
             clear H
             have p103 : 0 ≤ (x29_2 : Int) := dA
             have q103 : x29_2 < (l0_1.length : Int) := dA
             obtain ⟨ad103, e103, hx103_0, hx103_1, hx103_2, hx103_3⟩ := at_T61 HR0_1.out x29_2 p103 q103
             (try rw [← Nbq15.out] at hx103_0)
             cases e103
             replace hx103_0 := uC HB hx103_0
             replace hx103_1 := uC HB hx103_1
             replace hx103_2 := uC HB hx103_2
             replace hx103_3 := uC HB hx103_3
             replace p103 := eq_true p103
             replace q103 := eq_true q103
             go_wp2_with (first | ((with_reducible refine gate_dst (N := 4) rfl ?_); (try (refine gate_guard (by rfl) ?_; dsimp only)); refine bE (N := 4) (cs := #[.bool false, .int .i64 0, .int .i64 0, .int .i64 0]) (t := 61) ?_; intro gb104 hg w33 hbox hb; have GW104 := qw HB hg; have GE104 := qw HB hg; have NB101_104 := ql BK101 hg; have NB104_101 := qg BK101 hg; replace BK101 := qb BK101 hb; have BK104 := aK hbox; replace HB := qs HB hb; clear hb hbox hg; have hnb34 := NB104_101.out; have hnc34 := NB101_104.out; have hcz35_0 := kq40 BK104; have hcz35_1 := kq41 BK104; have hcz35_2 := kq42 BK104; have hcz35_3 := kq43 BK104; have hfz35_0 := fz BK104 0; have hfz35_1 := fz BK104 1; have hfz35_2 := fz BK104 2; have hfz35_3 := fz BK104 3) | (go_at_call 20; (with_reducible refine (spec_l1In.calls ((rd_T61 l0_1 x29_2).f2) 0 (wrap64 (x29_2 - 1)) true _ A29.out).mono ?_); rintro e w' ⟨rfl, ⟨nd, rfl⟩⟩) | (go_at_call 20; (with_reducible refine (spec_l1In.calls ((rd_T61 l0_1 x29_2).f3) 0 (wrap64 (x29_2 - 1)) true _ A31.out).mono ?_); rintro e w' ⟨rfl, ⟨nd, rfl⟩⟩))
             go_roundg k2
             case measure => have := HJ1.out; have := HK2.out; omega
             case rel => exact ⟨(wrap64 (x29_2 + 1)), rS, H', ⟨by have := HJ1.out; have := HK2.out; omega⟩, ⟨by (repeat first | with_reducible apply zN | with_reducible apply zD | with_reducible apply zA | refine blk_far ?_ NB101_104.out _); exact BK101.out⟩, ⟨pH HB⟩⟩
            ·replace c32 := Bool.eq_false_iff.mpr c32
             subst c32
             rw [if_neg (show ¬ (false = true) by decide)] at H
             obtain rfl := Option.some.inj H
             have p103 : 0 ≤ (x29_2 : Int) := dA
             have q103 : x29_2 < (l0_1.length : Int) := dA
             obtain ⟨ad103, e103, hx103_0, hx103_1, hx103_2, hx103_3⟩ := at_T61 HR0_1.out x29_2 p103 q103
             (try rw [← Nbq15.out] at hx103_0)
             cases e103
             replace hx103_0 := uC HB hx103_0
             replace hx103_1 := uC HB hx103_1
             replace hx103_2 := uC HB hx103_2
             replace hx103_3 := uC HB hx103_3
             replace p103 := eq_true p103
             replace q103 := eq_true q103
             go_wp2_with (first | ((with_reducible refine gate_dst (N := 4) rfl ?_); (try (refine gate_guard (by rfl) ?_; dsimp only)); refine bE (N := 4) (cs := #[.bool false, .int .i64 0, .int .i64 0, .int .i64 0]) (t := 61) ?_; intro gb104 hg w36 hbox hb; have GW104 := qw HB hg; have GE104 := qw HB hg; have NB101_104 := ql BK101 hg; have NB104_101 := qg BK101 hg; replace BK101 := qb BK101 hb; have BK104 := aK hbox; replace HB := qs HB hb; clear hb hbox hg; have hnb37 := NB104_101.out; have hnc37 := NB101_104.out; have hcz38_0 := kq40 BK104; have hcz38_1 := kq41 BK104; have hcz38_2 := kq42 BK104; have hcz38_3 := kq43 BK104; have hfz38_0 := fz BK104 0; have hfz38_1 := fz BK104 1; have hfz38_2 := fz BK104 2; have hfz38_3 := fz BK104 3) | (go_at_call 20; (with_reducible refine (spec_l1In.calls ((rd_T61 l0_1 x29_2).f2) 0 (wrap64 (x29_2 - 1)) true _ A29.out).mono ?_); rintro e w' ⟨rfl, ⟨nd, rfl⟩⟩) | (go_at_call 20; (with_reducible refine (spec_l1In.calls ((rd_T61 l0_1 x29_2).f3) 0 (wrap64 (x29_2 - 1)) false _ A31.out).mono ?_); rintro e w' ⟨rfl, ⟨nd, rfl⟩⟩))
             go_ret
             exact ⟨eW, pH HB⟩
           ·replace c30 := Bool.eq_false_iff.mpr c30
            subst c30
            rw [if_neg (show ¬ (false = true) by decide)] at H
            obtain rfl := Option.some.inj H
            have p103 : 0 ≤ (x29_2 : Int) := dA
            have q103 : x29_2 < (l0_1.length : Int) := dA
            obtain ⟨ad103, e103, hx103_0, hx103_1, hx103_2, hx103_3⟩ := at_T61 HR0_1.out x29_2 p103 q103
            (try rw [← Nbq15.out] at hx103_0)
            cases e103
            replace hx103_0 := uC HB hx103_0
            replace hx103_1 := uC HB hx103_1
            replace hx103_2 := uC HB hx103_2
            replace hx103_3 := uC HB hx103_3
            replace p103 := eq_true p103
            replace q103 := eq_true q103
            go_wp2_with (first | ((with_reducible refine gate_dst (N := 4) rfl ?_); (try (refine gate_guard (by rfl) ?_; dsimp only)); refine bE (N := 4) (cs := #[.bool false, .int .i64 0, .int .i64 0, .int .i64 0]) (t := 61) ?_; intro gb104 hg w39 hbox hb; have GW104 := qw HB hg; have GE104 := qw HB hg; have NB101_104 := ql BK101 hg; have NB104_101 := qg BK101 hg; replace BK101 := qb BK101 hb; have BK104 := aK hbox; replace HB := qs HB hb; clear hb hbox hg; have hnb40 := NB104_101.out; have hnc40 := NB101_104.out; have hcz41_0 := kq40 BK104; have hcz41_1 := kq41 BK104; have hcz41_2 := kq42 BK104; have hcz41_3 := kq43 BK104; have hfz41_0 := fz BK104 0; have hfz41_1 := fz BK104 1; have hfz41_2 := fz BK104 2; have hfz41_3 := fz BK104 3) | (go_at_call 20; (with_reducible refine (spec_l1In.calls ((rd_T61 l0_1 x29_2).f2) 0 (wrap64 (x29_2 - 1)) false _ A29.out).mono ?_); rintro e w' ⟨rfl, ⟨nd, rfl⟩⟩))
            go_ret
            exact ⟨eW, pH HB⟩
          ·rw [if_neg c28] at H
           have c28b0 : (((rd_T61 l0_1 x29_2).f1) == 0) = false := beq_eq_false_iff_ne.mpr c28
           have c28b1 : (((rd_T61 l0_1 x29_2).f1) != 0) = true := bne_iff_ne.mpr c28
           obtain rfl := Option.some.inj H
           have p103 : 0 ≤ (x29_2 : Int) := dA
           have q103 : x29_2 < (l0_1.length : Int) := dA
           obtain ⟨ad103, e103, hx103_0, hx103_1, hx103_2, hx103_3⟩ := at_T61 HR0_1.out x29_2 p103 q103
           (try rw [← Nbq15.out] at hx103_0)
           cases e103
           replace hx103_0 := uC HB hx103_0
           replace hx103_1 := uC HB hx103_1
           replace hx103_2 := uC HB hx103_2
           replace hx103_3 := uC HB hx103_3
           replace p103 := eq_true p103
           replace q103 := eq_true q103
           go_wp2_with (first | ((with_reducible refine gate_dst (N := 4) rfl ?_); (try (refine gate_guard (by rfl) ?_; dsimp only)); refine bE (N := 4) (cs := #[.bool false, .int .i64 0, .int .i64 0, .int .i64 0]) (t := 61) ?_; intro gb104 hg w42 hbox hb; have GW104 := qw HB hg; have GE104 := qw HB hg; have NB101_104 := ql BK101 hg; have NB104_101 := qg BK101 hg; replace BK101 := qb BK101 hb; have BK104 := aK hbox; replace HB := qs HB hb; clear hb hbox hg; have hnb43 := NB104_101.out; have hnc43 := NB101_104.out; have hcz44_0 := kq40 BK104; have hcz44_1 := kq41 BK104; have hcz44_2 := kq42 BK104; have hcz44_3 := kq43 BK104; have hfz44_0 := fz BK104 0; have hfz44_1 := fz BK104 1; have hfz44_2 := fz BK104 2; have hfz44_3 := fz BK104 3))
           go_ret
           exact ⟨eW, pH HB⟩
        ·rw [if_neg c14] at H
         exact absurd H (by simp)
       ·rw [if_neg c13] at H
        exact absurd H (by simp)
      ·rw [if_neg c12] at H
       have c12b0 : decide (x29_2 < (l0_1.length : Int)) = false := decide_eq_false c12
       clear c12
       have H' := aK H
       clear H
       obtain ⟨hcz45_0, hcz45_1, hcz45_2, hfz45_0, hfz45_1, hfz45_2⟩ := cA3 BK101
       go_wp2
       go_loopg [76] k2 (fun kq v76 w' => ∃ (x76_3 : Int), v76 = .int .i64 x76_3 ∧ Aside0 (spec_GoodHeap.l1 kq l0_2 (l0_2.length : Int) x76_3 a0_0 l0_1 l0_2 = some r) ∧ Aside0 (kq ≤ k2) ∧ Aside0 (w'.heap[gb101]? = some (.cells #[.int .i64 a0_0, (.slice A0_1 l0_1.length c0_1), (.slice A0_2 l0_2.length c0_2)] 31 (0, 0))) ∧ Aside0 (Below w.heap.size w w'))
       case atStart => exact ⟨(0), rS, H', ⟨Nat.le_refl _⟩, ⟨pB BK101⟩, ⟨pH HB⟩⟩
       case round =>
        clear H'
        try clear c1; try clear p1; try clear q1; try clear hx1; try clear c2; try clear p2; try clear c3; try clear c4; try clear c4b0; try clear c4b1; try clear c6; try clear c6b0; try clear c6b1; try clear p6; try clear c10; try clear p10; try clear q10; try clear hx10; try clear c12; try clear c12b0; try clear c13; try clear c13b0; try clear c14; try clear c14b0; try clear q15; try clear c16; try clear c17; try clear c17b0; try clear c17b1; try clear c18; try clear c18b0; try clear c18b1; try clear c19; try clear c20; try clear c23; try clear c26; try clear c28; try clear c28b0; try clear c28b1; try clear c30; try clear c32; try clear c34; try clear c37; try clear c40; try clear c43; try clear hx103_0; try clear hx103_1; try clear hx103_2; try clear hx103_3; try clear p103; try clear p2; try clear q103; try clear hcz11_0 hcz11_1 hcz11_2 hfz11_0 hfz11_1 hfz11_2; try clear hcz21_0; try clear hcz21_1; try clear hcz21_2; try clear hcz21_3; try clear hfz21_0; try clear hfz21_1; try clear hfz21_2; try clear hfz21_3; try clear hcz24_0; try clear hcz24_1; try clear hcz24_2; try clear hcz24_3; try clear hfz24_0; try clear hfz24_1; try clear hfz24_2; try clear hfz24_3; try clear hcz27_0; try clear hcz27_1; try clear hcz27_2; try clear hcz27_3; try clear hfz27_0; try clear hfz27_1; try clear hfz27_2; try clear hfz27_3; try clear hcz35_0; try clear hcz35_1; try clear hcz35_2; try clear hcz35_3; try clear hfz35_0; try clear hfz35_1; try clear hfz35_2; try clear hfz35_3; try clear hcz38_0; try clear hcz38_1; try clear hcz38_2; try clear hcz38_3; try clear hfz38_0; try clear hfz38_1; try clear hfz38_2; try clear hfz38_3; try clear hcz41_0; try clear hcz41_1; try clear hcz41_2; try clear hcz41_3; try clear hfz41_0; try clear hfz41_1; try clear hfz41_2; try clear hfz41_3; try clear hcz44_0; try clear hcz44_1; try clear hcz44_2; try clear hcz44_3; try clear hfz44_0; try clear hfz44_1; try clear hfz44_2; try clear hfz44_3; try clear hcz45_0 hcz45_1 hcz45_2 hfz45_0 hfz45_1 hfz45_2; try clear hcz5_0 hcz5_1 hcz5_2 hfz5_0 hfz5_1 hfz5_2; try clear hcz7_0 hcz7_1 hcz7_2 hfz7_0 hfz7_1 hfz7_2; try clear hcz9_0 hcz9_1 hcz9_2 hfz9_0 hfz9_1 hfz9_2
        obtain ⟨x76_3, rfl, HA, HK3, BK101, HB⟩ := hrel
        cases gk with
        | zero => exact absurd HA.out (by simp [spec_GoodHeap.l1])
        | succ k3 =>
         have H := HA.out
         clear HA
         simp only [spec_GoodHeap.l1] at H
         by_cases c46 : x76_3 < (l0_2.length : Int)
         ·rw [if_pos c46] at H
          have c46b0 : decide (x76_3 < (l0_2.length : Int)) = true := decide_eq_true c46
          clear c46
          by_cases c47 : 0 ≤ x76_3
          ·rw [if_pos c47] at H
           have c47b0 : decide (0 ≤ x76_3) = true := decide_eq_true c47
           clear c47
           by_cases c48 : x76_3 < (l0_2.length : Int)
           ·rw [if_pos c48] at H
            have c48b0 : decide (x76_3 < (l0_2.length : Int)) = true := decide_eq_true c48
            clear c48
            obtain ⟨t108, A49, H⟩ := oB H
            try dsimp only at H
            by_cases c50 : t108 = true
            ·subst c50
             rw [if_pos rfl] at H
             have H' := aK H
             clear H
             have p107 : 0 ≤ (x76_3 : Int) := dA
             have q107 : x76_3 < (l0_2.length : Int) := dA
             obtain ⟨ad107, e107, hx107_0⟩ := Kd.at_int HR0_2.out x76_3 p107 q107
             cases e107
             replace hx107_0 := uC HB hx107_0
             replace p107 := eq_true p107
             replace q107 := eq_true q107
             obtain ⟨hcz51_0, hcz51_1, hcz51_2, hfz51_0, hfz51_1, hfz51_2⟩ := cA3 BK101
             go_wp2_with (first | ((with_reducible refine gate_callee (f := 20) rfl ?_); refine goesL_ (some 85) rfl rfl Tryd.func20 (by kernel_rfl) rfl #[.int .i64 (rd l0_2 x76_3), .int .i64 0, .int .i64 (wrap64 ((l0_1.length : Int) - 1))] rfl tA ?_; (with_reducible refine (spec_l1In.calls (rd l0_2 x76_3) 0 (wrap64 ((l0_1.length : Int) - 1)) true _ A49.out).mono ?_); rintro e w' ⟨rfl, ⟨nd, rfl⟩⟩; refine ⟨_, rfl, ?_⟩))
             go_roundg k3
             case measure => have := HJ1.out; have := HK2.out; have := HK3.out; omega
             case rel => exact ⟨(wrap64 (x76_3 + 1)), rS, H', ⟨by have := HJ1.out; have := HK2.out; have := HK3.out; omega⟩, ⟨pB BK101⟩, ⟨pH HB⟩⟩
            ·replace c50 := Bool.eq_false_iff.mpr c50
             subst c50
             rw [if_neg (show ¬ (false = true) by decide)] at H
             obtain rfl := Option.some.inj H
             have p107 : 0 ≤ (x76_3 : Int) := dA
             have q107 : x76_3 < (l0_2.length : Int) := dA
             obtain ⟨ad107, e107, hx107_0⟩ := Kd.at_int HR0_2.out x76_3 p107 q107
             cases e107
             replace hx107_0 := uC HB hx107_0
             replace p107 := eq_true p107
             replace q107 := eq_true q107
             obtain ⟨hcz52_0, hcz52_1, hcz52_2, hfz52_0, hfz52_1, hfz52_2⟩ := cA3 BK101
             go_wp2_with (first | ((with_reducible refine gate_callee (f := 20) rfl ?_); refine goesL_ (some 85) rfl rfl Tryd.func20 (by kernel_rfl) rfl #[.int .i64 (rd l0_2 x76_3), .int .i64 0, .int .i64 (wrap64 ((l0_1.length : Int) - 1))] rfl tA ?_; (with_reducible refine (spec_l1In.calls (rd l0_2 x76_3) 0 (wrap64 ((l0_1.length : Int) - 1)) false _ A49.out).mono ?_); rintro e w' ⟨rfl, ⟨nd, rfl⟩⟩; refine ⟨_, rfl, ?_⟩))
             go_ret
             exact ⟨eW, pH HB⟩
           ·rw [if_neg c48] at H
            exact absurd H (by simp)
          ·rw [if_neg c47] at H
           exact absurd H (by simp)
         ·rw [if_neg c46] at H
          have c46b0 : decide (x76_3 < (l0_2.length : Int)) = false := decide_eq_false c46
          clear c46
          obtain rfl := Option.some.inj H
          go_wp2
          go_ret
          exact ⟨eW, pH HB⟩


def impl_isBelow.f (a0 : Int) (a1 : Int) : Option (Bool) := if a0 ≥ 0 then (some (decide (a0 < a1))) else (some false)
set_option maxHeartbeats 8000000 in
set_option maxRecDepth 100000 in
theorem impl_isBelow.calls (a0 : Int) (a1 : Int) (r : Bool) (w : World) (h : impl_isBelow.f a0 a1 = some r) :
  Calls Tryd.prog 24 #[.int .i64 a0, .int .i64 a1] w fun e w' => e = .returned (.bool r) ∧ Drawn0 w w' := by
 have H : (if a0 ≥ 0 then (some (decide (a0 < a1))) else (some false)) = some r := h
 clear h
 by_cases c3 : a0 ≥ 0
 ·rw [if_pos c3] at H
  have c3b0 : decide (0 ≤ a0) = true := decide_eq_true c3
  clear c3
  obtain rfl := Option.some.inj H
  go_enter Tryd.func24, Tryd.ntmps24
  go_wp2
  go_ret
  exact ⟨by first | rfl | (simp; done) | (simp [*]; done), by repeat (first | exact Drawn0.refl _ | apply Drawn0.step)⟩
 ·rw [if_neg c3] at H
  have c3b0 : decide (0 ≤ a0) = false := decide_eq_false c3
  clear c3
  obtain rfl := Option.some.inj H
  go_enter Tryd.func24, Tryd.ntmps24
  go_wp2
  go_ret
  exact ⟨by first | rfl | (simp; done) | (simp [*]; done), by repeat (first | exact Drawn0.refl _ | apply Drawn0.step)⟩


def Tells (g : Nat) (lb : Array Value) (p : Int → Bool) (w : World) : Prop :=
  ∀ (W : World) (x : Int), Below w.heap.size w W → Calls Tryd.prog g (#[.int .i64 x] ++ lb) W fun e w' => e = .returned (.bool (p x)) ∧ Below W.heap.size W w'

theorem any_take_succ (p : Int → Bool) (l : List Int) (i : Int) (h0 : 0 ≤ i) (h1 : i < l.length) (h : (l.take i.toNat).any p = false) (hx : p (rd l i) = false) : (l.take (i + 1).toNat).any p = false := by
  have hlt : i.toNat < l.length := by omega
  rw [show (i + 1).toNat = i.toNat + 1 by omega, List.take_succ_eq_append_getElem hlt, List.any_append, h]
  have e : rd l i = l[i.toNat] := by unfold rd; rw [List.getD_eq_getElem?_getD, List.getElem?_eq_getElem hlt]; rfl
  rw [← e]; simp [hx]
theorem any_at (p : Int → Bool) (l : List Int) (i : Int) (h0 : 0 ≤ i) (h1 : i < l.length) (hx : p (rd l i) = true) : l.any p = true := by
  have hlt : i.toNat < l.length := by omega
  have e : rd l i = l[i.toNat] := by unfold rd; rw [List.getD_eq_getElem?_getD, List.getElem?_eq_getElem hlt]; rfl
  rw [List.any_eq_true]
  exact ⟨l[i.toNat], List.getElem_mem hlt, by rw [← e]; exact hx⟩

set_option maxHeartbeats 1000000 in
set_option maxRecDepth 100000 in
theorem index_some (g : Nat) (lb : Array Value) (p : Int → Bool) (A0 : Option Addr) (c0 : Nat) (l0 : List Int) (w : World) (hr0 : Kd.C (Kd.int .i64) w A0 l0.length l0)
    (eg : ∀ (args : Array Value) (w : World), (callFunc g args).run Tryd.prog w = .ok (.enter g args) w) (hp : Tells g lb p w) :
    Calls Tryd.prog 58 #[.slice A0 l0.length c0, .func (.func g) #[] lb] w fun e w' => (∃ r : Int, e = .returned (.int .i64 r) ∧ decide (0 ≤ r) = l0.any p) ∧ Below w.heap.size w w' := by
  have HR0 := aM hr0
  have HL := aM hr0.2.1
  clear hr0
  have HP := aM hp
  clear hp
  have HB := aM (Below.refl w.heap.size w)
  go_enter Tryd.func58, Tryd.ntmps58
  go_wp2
  go_loopg [8] (l0.length + 1) (fun kq v8 w' => ∃ (i : Int), v8 = .int .i64 i ∧ Aside0 (0 ≤ i ∧ i ≤ l0.length ∧ (kq : Int) = l0.length - i + 1 ∧ (l0.take i.toNat).any p = false) ∧ Aside0 (Below w.heap.size w w'))
  case atStart => exact ⟨0, rfl, ⟨by omega, by omega, by omega, by simp⟩, HB⟩
  case round =>
    clear HB
    obtain ⟨i, rfl, HA, HB1⟩ := hrel
    by_cases c : i < (l0.length : Int)
    · have cb : decide (i < (l0.length : Int)) = true := decide_eq_true c
      have cz : decide (0 ≤ i) = true := decide_eq_true HA.out.1
      obtain ⟨ad, e1, hx0⟩ := Kd.at_int (Kd.C_below HR0.out HB1.out) i HA.out.1 c
      cases e1
      have p1 := eq_true HA.out.1
      have q1 := eq_true c
      have w1 : wrap64 (i + 1) = i + 1 := by have := HA.out.1; have := HA.out.2.1; have := HL.out; unfold wrap64; omega
      have W1 := aM w1
      have Cc := aM c
      clear c w1
      go_wp2_with fail
      refine (HP.out _ (rd l0 i) HB1.out).mono ?_
      rintro e w' ⟨rfl, hb⟩
      have HB2 := aM (below_step HB1.out hb)
      clear hb
      by_cases hpx : p (rd l0 i) = true
      · have HX := aM hpx
        go_wp2
        go_ret
        exact ⟨⟨i, rfl, by rw [any_at p l0 i HA.out.1 Cc.out HX.out]; exact decide_eq_true HA.out.1⟩, HB2.out⟩
      · replace hpx := Bool.eq_false_iff.mpr hpx
        have HX := aM hpx
        obtain ⟨k1, rfl⟩ : ∃ m, gk = m + 1 := ⟨gk - 1, by have := HA.out; omega⟩
        go_wp2
        go_roundg k1
        case measure => omega
        case rel => exact ⟨i + 1, by first | rfl | rw [W1.out], ⟨by have := HA.out; omega, by have := HA.out; have := Cc.out; omega, by have := HA.out; omega, any_take_succ p l0 i HA.out.1 Cc.out HA.out.2.2.2 HX.out⟩, HB2⟩
    · have cb : decide (i < (l0.length : Int)) = false := decide_eq_false c
      have Cc := aM c
      clear c
      go_wp2
      go_ret
      refine ⟨⟨-1, rfl, ?_⟩, HB1.out⟩
      have h := HA.out.2.2.2
      rw [List.take_of_length_le (by have := HA.out; have := Cc.out; omega)] at h
      rw [h]; rfl

set_option maxHeartbeats 1000000 in
set_option maxRecDepth 100000 in
theorem contains_some (g : Nat) (lb : Array Value) (p : Int → Bool) (A0 : Option Addr) (c0 : Nat) (l0 : List Int) (w : World) (hr0 : Kd.C (Kd.int .i64) w A0 l0.length l0)
    (eg : ∀ (args : Array Value) (w : World), (callFunc g args).run Tryd.prog w = .ok (.enter g args) w) (hp : Tells g lb p w) :
    Calls Tryd.prog 48 #[.slice A0 l0.length c0, .func (.func g) #[] lb] w fun e w' => e = .returned (.bool (l0.any p)) ∧ Below w.heap.size w w' := by
  go_enter Tryd.func48, Tryd.ntmps48
  go_wp2_with fail
  refine (index_some g lb p A0 c0 l0 _ hr0 eg hp).mono ?_
  rintro e w' ⟨⟨r, rfl, hr⟩, hb⟩
  have HR := aM hr
  clear hr
  go_wp2
  go_ret
  exact ⟨by rw [← HR.out]; rfl, hb⟩

def impl_areRoots.f (l0 : List Int) (a1 : Int) : Option (Bool) := some (decide (l0.length ≤ 60) && l0.all fun n => decide (0 ≤ n ∧ n < a1))

theorem isBelow_some (a b : Int) : impl_isBelow.f a b = some (decide (0 ≤ a ∧ a < b)) := by
  unfold impl_isBelow.f
  by_cases h : a ≥ 0
  · rw [if_pos h]; congr 1; exact decide_eq_decide.mpr (by omega)
  · rw [if_neg h]; rw [decide_eq_false (by omega)]

set_option maxHeartbeats 1000000 in
set_option maxRecDepth 100000 in
theorem lit_some (B : Nat) (b : Int) (x : Int) (W : World) (hc : W.cell? ⟨B, 0, none⟩ = some (.int .i64 b)) :
    Calls Tryd.prog 49 #[.int .i64 x, .pointer (some ⟨B, 0, none⟩)] W fun e w' => e = .returned (.bool (!decide (0 ≤ x ∧ x < b))) ∧ Below W.heap.size W w' := by
  go_enter Tryd.func49, Tryd.ntmps49
  go_wp2_with (go_at_call 24; refine (impl_isBelow.calls x b _ _ (isBelow_some x b)).mono ?_; rintro e w' ⟨rfl, ⟨n, rfl⟩⟩)
  go_ret
  exact ⟨by simp [Bool.decide_and], pw_below_drewN (Below.refl _ _) _⟩

set_option maxHeartbeats 1000000 in
set_option maxRecDepth 100000 in
theorem impl_areRoots.calls (A0 : Option Addr) (c0 : Nat) (l0 : List Int) (a1 : Int) (r : Bool) (w : World) (hr0 : Kd.C (Kd.int .i64) w A0 l0.length l0) (hc0 : l0.length ≤ c0) (h : impl_areRoots.f l0 a1 = some r) :
    Calls Tryd.prog 35 #[.slice A0 l0.length c0, .int .i64 a1] w fun e w' => e = .returned (.bool r) ∧ Below w.heap.size w w' := by
  obtain rfl := Option.some.inj h
  have eg := enters_ Tryd.func49 (by kernel_rfl) rfl
  have hmf : ∀ (fn : Fn) (first cap : Array Value) (w : World), (Instr.makeFunc fn first cap).run Tryd.prog w = .ok (.func fn first cap) w := fun _ _ _ _ => rfl
  have HR0 := aM hr0
  clear hr0 h
  by_cases c : l0.length ≤ 60
  · have cb : decide (l0.length ≤ 60) = true := decide_eq_true c
    go_enter Tryd.func35, Tryd.ntmps35
    go_wp2_with fail
    refine (contains_some 49 #[.pointer (some ⟨w.heap.size, 0, none⟩)] (fun n => !decide (0 ≤ n ∧ n < a1)) A0 c0 l0 _ (Kd.C_alloc HR0.out _) eg ?_).mono ?_
    · intro W x hb
      exact lit_some w.heap.size a1 x W ((hb.cell (p := ⟨w.heap.size, 0, none⟩) (by simp)).trans (by rw [World.cell?_alloc_at _ _ _ _ rfl]; rfl))
    rintro e w' ⟨rfl, hb⟩
    have HB := aM (below_step (below_alloc (Below.refl w.heap.size w) _) hb)
    clear hb
    go_wp2
    go_ret
    refine ⟨?_, HB.out⟩
    have e : ∀ l : List Int, (l.any fun n => !decide (0 ≤ n) || !decide (n < a1)) = !(l.all fun n => decide (0 ≤ n) && decide (n < a1)) := fun l => by
      induction l with
      | nil => rfl
      | cons x l ih => simp only [List.any_cons, List.all_cons, ih, Bool.not_and]
    simp [cb, Bool.decide_and, e]
  · have cb : decide (l0.length ≤ 60) = false := decide_eq_false c
    go_enter Tryd.func35, Tryd.ntmps35
    go_wp2
    go_ret
    exact ⟨by simp [cb], below_alloc (Below.refl _ _) _⟩


def impl_isCell.f (a0_0 : Bool) (a0_1 : Int) (a0_2 : Int) (a0_3 : Int) (a1 : Int) : Option (Bool) := if a0_0 = true then (if a0_2 = 0 then (some (a0_3 == 0)) else (some false)) else (if a0_1 = 0 then ((impl_isBelow.f a0_2 a1).bind fun t102 => (if t102 = true then ((impl_isBelow.f a0_3 a1).bind fun t103 => (some t103)) else (some false))) else (some false))
set_option maxHeartbeats 8000000 in
set_option maxRecDepth 100000 in
theorem impl_isCell.calls (a0_0 : Bool) (a0_1 : Int) (a0_2 : Int) (a0_3 : Int) (a1 : Int) (r : Bool) (w : World) (h : impl_isCell.f a0_0 a0_1 a0_2 a0_3 a1 = some r) :
  Calls Tryd.prog 36 #[.agg #[.bool a0_0, .int .i64 a0_1, .int .i64 a0_2, .int .i64 a0_3], .int .i64 a1] w fun e w' => e = .returned (.bool r) ∧ Below w.heap.size w w' := by
 have hu61 := Tryd.underlying61
 have HB := aK (Below.refl w.heap.size w)
 have H : (if a0_0 = true then (if a0_2 = 0 then (some (a0_3 == 0)) else (some false)) else (if a0_1 = 0 then ((impl_isBelow.f a0_2 a1).bind fun t102 => (if t102 = true then ((impl_isBelow.f a0_3 a1).bind fun t103 => (some t103)) else (some false))) else (some false))) = some r := h
 clear h
 by_cases c3 : a0_0 = true
 ·subst c3
  rw [if_pos rfl] at H
  by_cases c4 : a0_2 = 0
  ·rw [if_pos c4] at H
   have c4b0 : (a0_2 == 0) = true := beq_iff_eq.mpr c4
   have c4b1 : (a0_2 != 0) = false := bne_eq_false_iff_eq.mpr c4
   clear c4
   obtain rfl := Option.some.inj H
   go_enter Tryd.func36, Tryd.ntmps36
   go_wp2_with (first | ((with_reducible refine gate_dst (N := 2) rfl ?_); refine bE (N := 2) (cs := #[.bool true, .int .i64 a0_1, .int .i64 a0_2, .int .i64 a0_3]) (t := 61) ?_; intro gb101 hg w5 hbox hb; have GW101 := qw HB hg; have GE101 := qw HB hg; have BK101 := aK hbox; replace HB := qs HB hb; clear hb hbox hg; have hcz6_0 := kq40 BK101; have hcz6_1 := kq41 BK101; have hcz6_2 := kq42 BK101; have hcz6_3 := kq43 BK101; have hfz6_0 := fz BK101 0; have hfz6_1 := fz BK101 1; have hfz6_2 := fz BK101 2; have hfz6_3 := fz BK101 3))
   go_ret
   exact ⟨eW, pH HB⟩
  ·rw [if_neg c4] at H
   have c4b0 : (a0_2 == 0) = false := beq_eq_false_iff_ne.mpr c4
   have c4b1 : (a0_2 != 0) = true := bne_iff_ne.mpr c4
   obtain rfl := Option.some.inj H
   go_enter Tryd.func36, Tryd.ntmps36
   go_wp2_with (first | ((with_reducible refine gate_dst (N := 2) rfl ?_); refine bE (N := 2) (cs := #[.bool true, .int .i64 a0_1, .int .i64 a0_2, .int .i64 a0_3]) (t := 61) ?_; intro gb101 hg w7 hbox hb; have GW101 := qw HB hg; have GE101 := qw HB hg; have BK101 := aK hbox; replace HB := qs HB hb; clear hb hbox hg; have hcz8_0 := kq40 BK101; have hcz8_1 := kq41 BK101; have hcz8_2 := kq42 BK101; have hcz8_3 := kq43 BK101; have hfz8_0 := fz BK101 0; have hfz8_1 := fz BK101 1; have hfz8_2 := fz BK101 2; have hfz8_3 := fz BK101 3))
   go_ret
   exact ⟨eW, pH HB⟩
 ·replace c3 := Bool.eq_false_iff.mpr c3
  subst c3
  rw [if_neg (show ¬ (false = true) by decide)] at H
  by_cases c9 : a0_1 = 0
  ·rw [if_pos c9] at H
   have c9b0 : (a0_1 == 0) = true := beq_iff_eq.mpr c9
   have c9b1 : (a0_1 != 0) = false := bne_eq_false_iff_eq.mpr c9
   clear c9
   obtain ⟨t102, A10, H⟩ := oB H
   try dsimp only at H
   by_cases c11 : t102 = true
   ·subst c11
    rw [if_pos rfl] at H
    obtain ⟨t103, A12, H⟩ := oB H
    try dsimp only at H
    obtain rfl := Option.some.inj H
    go_enter Tryd.func36, Tryd.ntmps36
    go_wp2_with (first | ((with_reducible refine gate_dst (N := 2) rfl ?_); refine bE (N := 2) (cs := #[.bool false, .int .i64 a0_1, .int .i64 a0_2, .int .i64 a0_3]) (t := 61) ?_; intro gb101 hg w13 hbox hb; have GW101 := qw HB hg; have GE101 := qw HB hg; have BK101 := aK hbox; replace HB := qs HB hb; clear hb hbox hg; have hcz14_0 := kq40 BK101; have hcz14_1 := kq41 BK101; have hcz14_2 := kq42 BK101; have hcz14_3 := kq43 BK101; have hfz14_0 := fz BK101 0; have hfz14_1 := fz BK101 1; have hfz14_2 := fz BK101 2; have hfz14_3 := fz BK101 3) | (go_at_call 24; (with_reducible refine (impl_isBelow.calls a0_2 a1 true _ A10.out).mono ?_); rintro e w' ⟨rfl, ⟨nd, rfl⟩⟩) | (go_at_call 24; (with_reducible refine (impl_isBelow.calls a0_3 a1 t103 _ A12.out).mono ?_); rintro e w' ⟨rfl, ⟨nd, rfl⟩⟩))
    go_ret
    exact ⟨eW, pH HB⟩
   ·replace c11 := Bool.eq_false_iff.mpr c11
    subst c11
    rw [if_neg (show ¬ (false = true) by decide)] at H
    obtain rfl := Option.some.inj H
    go_enter Tryd.func36, Tryd.ntmps36
    go_wp2_with (first | ((with_reducible refine gate_dst (N := 2) rfl ?_); refine bE (N := 2) (cs := #[.bool false, .int .i64 a0_1, .int .i64 a0_2, .int .i64 a0_3]) (t := 61) ?_; intro gb101 hg w15 hbox hb; have GW101 := qw HB hg; have GE101 := qw HB hg; have BK101 := aK hbox; replace HB := qs HB hb; clear hb hbox hg; have hcz16_0 := kq40 BK101; have hcz16_1 := kq41 BK101; have hcz16_2 := kq42 BK101; have hcz16_3 := kq43 BK101; have hfz16_0 := fz BK101 0; have hfz16_1 := fz BK101 1; have hfz16_2 := fz BK101 2; have hfz16_3 := fz BK101 3) | (go_at_call 24; (with_reducible refine (impl_isBelow.calls a0_2 a1 false _ A10.out).mono ?_); rintro e w' ⟨rfl, ⟨nd, rfl⟩⟩))
    go_ret
    exact ⟨eW, pH HB⟩
  ·rw [if_neg c9] at H
   have c9b0 : (a0_1 == 0) = false := beq_eq_false_iff_ne.mpr c9
   have c9b1 : (a0_1 != 0) = true := bne_iff_ne.mpr c9
   obtain rfl := Option.some.inj H
   go_enter Tryd.func36, Tryd.ntmps36
   go_wp2_with (first | ((with_reducible refine gate_dst (N := 2) rfl ?_); refine bE (N := 2) (cs := #[.bool false, .int .i64 a0_1, .int .i64 a0_2, .int .i64 a0_3]) (t := 61) ?_; intro gb101 hg w17 hbox hb; have GW101 := qw HB hg; have GE101 := qw HB hg; have BK101 := aK hbox; replace HB := qs HB hb; clear hb hbox hg; have hcz18_0 := kq40 BK101; have hcz18_1 := kq41 BK101; have hcz18_2 := kq42 BK101; have hcz18_3 := kq43 BK101; have hfz18_0 := fz BK101 0; have hfz18_1 := fz BK101 1; have hfz18_2 := fz BK101 2; have hfz18_3 := fz BK101 3))
   go_ret
   exact ⟨eW, pH HB⟩


mutual
def impl_GoodHeap.j0 : Nat → Bool → Int → List (S61) → List Int → Option (Bool)
 | 0, _, _, _, _ => none
 | k + 1, x28, x102000, x102001, x102002 => if x28 = true then (some false) else (impl_GoodHeap.l0 k x102001 (x102001.length : Int) 0)
def impl_GoodHeap.l0 : Nat → List (S61) → Int → Int → Option (Bool)
 | 0, _, _, _ => none
 | k + 1, x30, x31, x32 => if x32 < x31 then (if 0 ≤ x32 then (if x32 < (x30.length : Int) then ((impl_isCell.f ((rd_T61 x30 x32).f0) ((rd_T61 x30 x32).f1) ((rd_T61 x30 x32).f2) ((rd_T61 x30 x32).f3) x32).bind fun t105 => (if t105 = true then (impl_GoodHeap.l0 k x30 x31 (wrap64 (x32 + 1))) else (some false))) else (none)) else (none)) else (some true)
end
def impl_GoodHeap.f (k : Nat) (a0_0 : Int) (l0_1 : List (S61)) (l0_2 : List Int) : Option (Bool) := if (l0_1.length : Int) > 200 then (impl_GoodHeap.j0 k true a0_0 l0_1 l0_2) else (if a0_0 < 0 then (impl_GoodHeap.j0 k true a0_0 l0_1 l0_2) else (if a0_0 > (l0_1.length : Int) then (impl_GoodHeap.j0 k true a0_0 l0_1 l0_2) else ((impl_areRoots.f l0_2 (l0_1.length : Int)).bind fun t102 => (impl_GoodHeap.j0 k (!t102) a0_0 l0_1 l0_2))))
set_option maxHeartbeats 8000000 in
set_option maxRecDepth 100000 in
theorem impl_GoodHeap.calls (k : Nat) (a0_0 : Int) (A0_1 : Option Addr) (c0_1 : Nat) (l0_1 : List (S61)) (A0_2 : Option Addr) (c0_2 : Nat) (l0_2 : List Int) (r : Bool) (w : World) (hr0_1 : Kd.C k61 w A0_1 l0_1.length l0_1) (hc0_1 : l0_1.length ≤ c0_1) (hr0_2 : Kd.C (Kd.int .i64) w A0_2 l0_2.length l0_2) (hc0_2 : l0_2.length ≤ c0_2) (h : impl_GoodHeap.f k a0_0 l0_1 l0_2 = some r) :
  Calls Tryd.prog 16 #[.agg #[.int .i64 a0_0, .slice A0_1 l0_1.length c0_1, .slice A0_2 l0_2.length c0_2]] w fun e w' => e = .returned (.bool r) ∧ Below w.heap.size w w' := by
 have hu31 := Tryd.underlying31
 have hu61 := Tryd.underlying61
 have HR0_1 := aK hr0_1
 have HC0_1 := aK hc0_1
 clear hr0_1 hc0_1
 have HR0_2 := aK hr0_2
 have HC0_2 := aK hc0_2
 clear hr0_2 hc0_2
 have HB := aK (Below.refl w.heap.size w)
 have H : (if (l0_1.length : Int) > 200 then (impl_GoodHeap.j0 k true a0_0 l0_1 l0_2) else (if a0_0 < 0 then (impl_GoodHeap.j0 k true a0_0 l0_1 l0_2) else (if a0_0 > (l0_1.length : Int) then (impl_GoodHeap.j0 k true a0_0 l0_1 l0_2) else ((impl_areRoots.f l0_2 (l0_1.length : Int)).bind fun t102 => (impl_GoodHeap.j0 k (!t102) a0_0 l0_1 l0_2))))) = some r := h
 clear h
 have HC2 := aK H
 clear H
 go_enter Tryd.func16, Tryd.ntmps16
 go_upto_region 2 with (first | ((with_reducible refine gate_dst (N := 1) rfl ?_); refine bE (N := 1) (cs := #[.int .i64 a0_0, .slice A0_1 l0_1.length c0_1, .slice A0_2 l0_2.length c0_2]) (t := 31) ?_; intro gb101 hg w3 hbox hb; have GW101 := qw HB hg; have GE101 := qw HB hg; have BK101 := aK hbox; replace HB := qs HB hb; clear hb hbox hg; obtain ⟨hcz4_0, hcz4_1, hcz4_2, hfz4_0, hfz4_1, hfz4_2⟩ := cA3 BK101))
 (try simp only [Act.put, List.setIfInBounds_toArray, List.set_cons_zero, List.set_cons_succ])
 go_cut [28] (fun v28 wc => ∃ (kq : Nat) (x28_1 : Bool), v28 = .bool x28_1 ∧ Aside0 (impl_GoodHeap.j0 kq x28_1 a0_0 l0_1 l0_2 = some r) ∧ Aside0 (kq ≤ k) ∧ Aside0 (wc.heap[gb101]? = some (.cells #[.int .i64 a0_0, (.slice A0_1 l0_1.length c0_1), (.slice A0_2 l0_2.length c0_2)] 31 (0, 0))) ∧ Aside0 (Below w.heap.size w wc))
 case first =>
  have H := HC2.out
  clear HC2
  by_cases c5 : (l0_1.length : Int) > 200
  ·rw [if_pos c5] at H
   have c5b0 : decide (200 < (l0_1.length : Int)) = true := decide_eq_true c5
   have c5b1 : decide (200 < l0_1.length) = true := decide_eq_true (by omega)
   clear c5
   (first | rw [c5b0] | (simp only [i64_w, i32_w]; rw [c5b0]) | skip)
   have H' := aK H
   clear H
   go_wp2
   go_meet
   case rel => exact ⟨_, (true), rS, H', ⟨by first | omega | exact Nat.le_refl _⟩, ⟨pB BK101⟩, ⟨pH HB⟩⟩
  ·rw [if_neg c5] at H
   have c5b0 : decide (200 < (l0_1.length : Int)) = false := decide_eq_false c5
   have c5b1 : decide (200 < l0_1.length) = false := decide_eq_false (by omega)
   clear c5
   (first | rw [c5b0] | (simp only [i64_w, i32_w]; rw [c5b0]) | skip)
   by_cases c6 : a0_0 < 0
   ·rw [if_pos c6] at H
    have c6b0 : decide (a0_0 < 0) = true := decide_eq_true c6
    clear c6
    have H' := aK H
    clear H
    obtain ⟨hcz7_0, hcz7_1, hcz7_2, hfz7_0, hfz7_1, hfz7_2⟩ := cA3 BK101
    go_wp2
    go_meet
    case rel => exact ⟨_, (true), rS, H', ⟨by first | omega | exact Nat.le_refl _⟩, ⟨pB BK101⟩, ⟨pH HB⟩⟩
   ·rw [if_neg c6] at H
    have c6b0 : decide (a0_0 < 0) = false := decide_eq_false c6
    clear c6
    by_cases c8 : a0_0 > (l0_1.length : Int)
    ·rw [if_pos c8] at H
     have c8b0 : decide ((l0_1.length : Int) < a0_0) = true := decide_eq_true c8
     clear c8
     have H' := aK H
     clear H
     obtain ⟨hcz9_0, hcz9_1, hcz9_2, hfz9_0, hfz9_1, hfz9_2⟩ := cA3 BK101
     go_wp2
     go_meet
     case rel => exact ⟨_, (true), rS, H', ⟨by first | omega | exact Nat.le_refl _⟩, ⟨pB BK101⟩, ⟨pH HB⟩⟩
    ·rw [if_neg c8] at H
     have c8b0 : decide ((l0_1.length : Int) < a0_0) = false := decide_eq_false c8
     clear c8
     obtain ⟨t102, A10, H⟩ := oB H
     try dsimp only at H
     have H' := aK H
     clear H
     obtain ⟨hcz11_0, hcz11_1, hcz11_2, hfz11_0, hfz11_1, hfz11_2⟩ := cA3 BK101
     go_wp2_with (first | (go_at_call 35; (with_reducible refine (impl_areRoots.calls _ _ l0_2 (l0_1.length : Int) t102 _ ?side1 ?side2 A10.out).mono ?_); (case side1 => exact sC (Kd.C_below HR0_2.out HB.out)); (case side2 => exact HC0_2.out); rintro e w12 ⟨rfl, hb⟩; replace BK101 := qb BK101 hb; replace HB := qs HB hb; (try clear hb)))
     go_meet
     case rel => exact ⟨_, (!t102), rS, H', ⟨by first | omega | exact Nat.le_refl _⟩, ⟨pB BK101⟩, ⟨pH HB⟩⟩
 case rest =>
  clear HC2
  try clear c1; try clear p2; try clear c5; try clear c5b0; try clear c5b1; try clear c6; try clear c6b0; try clear c8; try clear c8b0; try clear hcz11_0 hcz11_1 hcz11_2 hfz11_0 hfz11_1 hfz11_2; try clear hcz4_0 hcz4_1 hcz4_2 hfz4_0 hfz4_1 hfz4_2; try clear hcz7_0 hcz7_1 hcz7_2 hfz7_0 hfz7_1 hfz7_2; try clear hcz9_0 hcz9_1 hcz9_2 hfz9_0 hfz9_1 hfz9_2
  obtain ⟨kq, x28_1, rfl, HA, HJ1, BK101, HB⟩ := hcut
  cases kq with
  | zero => exact absurd HA.out (by simp [impl_GoodHeap.j0])
  | succ kj1 =>
   have H := HA.out
   clear HA
   simp only [impl_GoodHeap.j0] at H
   by_cases c13 : x28_1 = true
   ·subst c13
    rw [if_pos rfl] at H
    obtain rfl := Option.some.inj H
    go_wp2
    go_ret
    exact ⟨eW, pH HB⟩
   ·replace c13 := Bool.eq_false_iff.mpr c13
    subst c13
    rw [if_neg (show ¬ (false = true) by decide)] at H
    have H' := aK H
    clear H
    obtain ⟨hcz14_0, hcz14_1, hcz14_2, hfz14_0, hfz14_1, hfz14_2⟩ := cA3 BK101
    go_wp2
    go_loopg [32] kj1 (fun kq v32 w' => ∃ (x32_2 : Int), v32 = .int .i64 x32_2 ∧ Aside0 (impl_GoodHeap.l0 kq l0_1 (l0_1.length : Int) x32_2 = some r) ∧ Aside0 (kq ≤ kj1) ∧ Aside0 (w'.heap[gb101]? = some (.cells #[.int .i64 a0_0, (.slice A0_1 l0_1.length c0_1), (.slice A0_2 l0_2.length c0_2)] 31 (0, 0))) ∧ Aside0 (Below w.heap.size w w'))
    case atStart => exact ⟨(0), rS, H', ⟨Nat.le_refl _⟩, ⟨pB BK101⟩, ⟨pH HB⟩⟩
    case round =>
     clear H'
     try clear c1; try clear p2; try clear c5; try clear c5b0; try clear c5b1; try clear c6; try clear c6b0; try clear c8; try clear c8b0; try clear c13; try clear p2; try clear hcz11_0 hcz11_1 hcz11_2 hfz11_0 hfz11_1 hfz11_2; try clear hcz14_0 hcz14_1 hcz14_2 hfz14_0 hfz14_1 hfz14_2; try clear hcz4_0 hcz4_1 hcz4_2 hfz4_0 hfz4_1 hfz4_2; try clear hcz7_0 hcz7_1 hcz7_2 hfz7_0 hfz7_1 hfz7_2; try clear hcz9_0 hcz9_1 hcz9_2 hfz9_0 hfz9_1 hfz9_2
     obtain ⟨x32_2, rfl, HA, HK2, BK101, HB⟩ := hrel
     cases gk with
     | zero => exact absurd HA.out (by simp [impl_GoodHeap.l0])
     | succ k2 =>
      have H := HA.out
      clear HA
      simp only [impl_GoodHeap.l0] at H
      by_cases c15 : x32_2 < (l0_1.length : Int)
      ·rw [if_pos c15] at H
       have c15b0 : decide (x32_2 < (l0_1.length : Int)) = true := decide_eq_true c15
       clear c15
       by_cases c16 : 0 ≤ x32_2
       ·rw [if_pos c16] at H
        have c16b0 : decide (0 ≤ x32_2) = true := decide_eq_true c16
        clear c16
        by_cases c17 : x32_2 < (l0_1.length : Int)
        ·rw [if_pos c17] at H
         have c17b0 : decide (x32_2 < (l0_1.length : Int)) = true := decide_eq_true c17
         clear c17
         obtain ⟨t105, A18, H⟩ := oB H
         try dsimp only at H
         by_cases c19 : t105 = true
         ·subst c19
          rw [if_pos rfl] at H
          have H' := aK H
          clear H
          have p103 : 0 ≤ (x32_2 : Int) := dA
          have q103 : x32_2 < (l0_1.length : Int) := dA
          obtain ⟨ad103, e103, hx103_0, hx103_1, hx103_2, hx103_3⟩ := at_T61 HR0_1.out x32_2 p103 q103
          cases e103
          replace hx103_0 := uC HB hx103_0
          replace hx103_1 := uC HB hx103_1
          replace hx103_2 := uC HB hx103_2
          replace hx103_3 := uC HB hx103_3
          replace p103 := eq_true p103
          replace q103 := eq_true q103
          go_wp2_with (first | ((with_reducible refine gate_dst (N := 5) rfl ?_); refine bE (N := 5) (cs := #[.bool false, .int .i64 0, .int .i64 0, .int .i64 0]) (t := 61) ?_; intro gb104 hg w20 hbox hb; have GW104 := qw HB hg; have GE104 := qw HB hg; have NB101_104 := ql BK101 hg; have NB104_101 := qg BK101 hg; replace BK101 := qb BK101 hb; have BK104 := aK hbox; replace HB := qs HB hb; clear hb hbox hg; have hnb21 := NB104_101.out; have hnc21 := NB101_104.out; have hcz22_0 := kq40 BK104; have hcz22_1 := kq41 BK104; have hcz22_2 := kq42 BK104; have hcz22_3 := kq43 BK104; have hfz22_0 := fz BK104 0; have hfz22_1 := fz BK104 1; have hfz22_2 := fz BK104 2; have hfz22_3 := fz BK104 3) | ((with_reducible refine gate_callee (f := 36) rfl ?_); refine goesL_ (some 39) rfl rfl Tryd.func36 (by kernel_rfl) rfl #[.agg #[.bool ((rd_T61 l0_1 x32_2).f0), .int .i64 ((rd_T61 l0_1 x32_2).f1), .int .i64 ((rd_T61 l0_1 x32_2).f2), .int .i64 ((rd_T61 l0_1 x32_2).f3)], .int .i64 x32_2] rfl tA ?_; (with_reducible refine (impl_isCell.calls ((rd_T61 l0_1 x32_2).f0) ((rd_T61 l0_1 x32_2).f1) ((rd_T61 l0_1 x32_2).f2) ((rd_T61 l0_1 x32_2).f3) x32_2 true _ A18.out).mono ?_); rintro e w23 ⟨rfl, hb⟩; refine ⟨_, rfl, ?_⟩; have n_ := aJ (aK (blk_below (g := gb101) (o := .cells #[.int .i64 a0_0, .slice (some ad103) l0_1.length c0_1, .slice A0_2 l0_2.length c0_2] 31 (0, 0)) (by (repeat first | with_reducible apply zN | with_reducible apply zD | with_reducible apply zA | refine blk_far ?_ NB101_104.out _); exact BK101.out) hb)) (aJ (aK (blk_below (g := gb104) (o := .cells #[.bool ((rd_T61 l0_1 x32_2).f0), .int .i64 ((rd_T61 l0_1 x32_2).f1), .int .i64 ((rd_T61 l0_1 x32_2).f2), .int .i64 ((rd_T61 l0_1 x32_2).f3)] 61 (0, 0)) (by (with_reducible repeat first | apply zN | apply zD | apply zA); refine blk_put (cs := #[.bool ((rd_T61 l0_1 x32_2).f0), .int .i64 ((rd_T61 l0_1 x32_2).f1), .int .i64 ((rd_T61 l0_1 x32_2).f2), .int .i64 0]) ?_ 3 _ rfl; (with_reducible repeat first | apply zN | apply zD | apply zA); refine blk_put (cs := #[.bool ((rd_T61 l0_1 x32_2).f0), .int .i64 ((rd_T61 l0_1 x32_2).f1), .int .i64 0, .int .i64 0]) ?_ 2 _ rfl; (with_reducible repeat first | apply zN | apply zD | apply zA); refine blk_put (cs := #[.bool ((rd_T61 l0_1 x32_2).f0), .int .i64 0, .int .i64 0, .int .i64 0]) ?_ 1 _ rfl; (with_reducible repeat first | apply zN | apply zD | apply zA); refine blk_put (cs := #[.bool false, .int .i64 0, .int .i64 0, .int .i64 0]) ?_ 0 _ rfl; (with_reducible repeat first | apply zN | apply zD | apply zA); exact BK104.out) hb)) (aK (below_step (pH HB) hb))); clear BK101 BK104 HB; obtain ⟨BK101, BK104, HB⟩ := n_; (try clear hb)))
          go_roundg k2
          case measure => have := HJ1.out; have := HK2.out; omega
          case rel => exact ⟨(wrap64 (x32_2 + 1)), rS, H', ⟨by have := HJ1.out; have := HK2.out; omega⟩, ⟨pB BK101⟩, ⟨pH HB⟩⟩
         ·replace c19 := Bool.eq_false_iff.mpr c19
          subst c19
          rw [if_neg (show ¬ (false = true) by decide)] at H
          obtain rfl := Option.some.inj H
          have p103 : 0 ≤ (x32_2 : Int) := dA
          have q103 : x32_2 < (l0_1.length : Int) := dA
          obtain ⟨ad103, e103, hx103_0, hx103_1, hx103_2, hx103_3⟩ := at_T61 HR0_1.out x32_2 p103 q103
          cases e103
          replace hx103_0 := uC HB hx103_0
          replace hx103_1 := uC HB hx103_1
          replace hx103_2 := uC HB hx103_2
          replace hx103_3 := uC HB hx103_3
          replace p103 := eq_true p103
          replace q103 := eq_true q103
          go_wp2_with (first | ((with_reducible refine gate_dst (N := 5) rfl ?_); refine bE (N := 5) (cs := #[.bool false, .int .i64 0, .int .i64 0, .int .i64 0]) (t := 61) ?_; intro gb104 hg w24 hbox hb; have GW104 := qw HB hg; have GE104 := qw HB hg; have NB101_104 := ql BK101 hg; have NB104_101 := qg BK101 hg; replace BK101 := qb BK101 hb; have BK104 := aK hbox; replace HB := qs HB hb; clear hb hbox hg; have hnb25 := NB104_101.out; have hnc25 := NB101_104.out; have hcz26_0 := kq40 BK104; have hcz26_1 := kq41 BK104; have hcz26_2 := kq42 BK104; have hcz26_3 := kq43 BK104; have hfz26_0 := fz BK104 0; have hfz26_1 := fz BK104 1; have hfz26_2 := fz BK104 2; have hfz26_3 := fz BK104 3) | ((with_reducible refine gate_callee (f := 36) rfl ?_); refine goesL_ (some 39) rfl rfl Tryd.func36 (by kernel_rfl) rfl #[.agg #[.bool ((rd_T61 l0_1 x32_2).f0), .int .i64 ((rd_T61 l0_1 x32_2).f1), .int .i64 ((rd_T61 l0_1 x32_2).f2), .int .i64 ((rd_T61 l0_1 x32_2).f3)], .int .i64 x32_2] rfl tA ?_; (with_reducible refine (impl_isCell.calls ((rd_T61 l0_1 x32_2).f0) ((rd_T61 l0_1 x32_2).f1) ((rd_T61 l0_1 x32_2).f2) ((rd_T61 l0_1 x32_2).f3) x32_2 false _ A18.out).mono ?_); rintro e w27 ⟨rfl, hb⟩; refine ⟨_, rfl, ?_⟩; have n_ := aJ (aK (blk_below (g := gb101) (o := .cells #[.int .i64 a0_0, .slice (some ad103) l0_1.length c0_1, .slice A0_2 l0_2.length c0_2] 31 (0, 0)) (by (repeat first | with_reducible apply zN | with_reducible apply zD | with_reducible apply zA | refine blk_far ?_ NB101_104.out _); exact BK101.out) hb)) (aJ (aK (blk_below (g := gb104) (o := .cells #[.bool ((rd_T61 l0_1 x32_2).f0), .int .i64 ((rd_T61 l0_1 x32_2).f1), .int .i64 ((rd_T61 l0_1 x32_2).f2), .int .i64 ((rd_T61 l0_1 x32_2).f3)] 61 (0, 0)) (by (with_reducible repeat first | apply zN | apply zD | apply zA); refine blk_put (cs := #[.bool ((rd_T61 l0_1 x32_2).f0), .int .i64 ((rd_T61 l0_1 x32_2).f1), .int .i64 ((rd_T61 l0_1 x32_2).f2), .int .i64 0]) ?_ 3 _ rfl; (with_reducible repeat first | apply zN | apply zD | apply zA); refine blk_put (cs := #[.bool ((rd_T61 l0_1 x32_2).f0), .int .i64 ((rd_T61 l0_1 x32_2).f1), .int .i64 0, .int .i64 0]) ?_ 2 _ rfl; (with_reducible repeat first | apply zN | apply zD | apply zA); refine blk_put (cs := #[.bool ((rd_T61 l0_1 x32_2).f0), .int .i64 0, .int .i64 0, .int .i64 0]) ?_ 1 _ rfl; (with_reducible repeat first | apply zN | apply zD | apply zA); refine blk_put (cs := #[.bool false, .int .i64 0, .int .i64 0, .int .i64 0]) ?_ 0 _ rfl; (with_reducible repeat first | apply zN | apply zD | apply zA); exact BK104.out) hb)) (aK (below_step (pH HB) hb))); clear BK101 BK104 HB; obtain ⟨BK101, BK104, HB⟩ := n_; (try clear hb)))
          go_ret
          exact ⟨eW, pH HB⟩
        ·rw [if_neg c17] at H
         exact absurd H (by simp)
       ·rw [if_neg c16] at H
        exact absurd H (by simp)
      ·rw [if_neg c15] at H
       have c15b0 : decide (x32_2 < (l0_1.length : Int)) = false := decide_eq_false c15
       clear c15
       obtain rfl := Option.some.inj H
       go_wp2
       go_ret
       exact ⟨eW, pH HB⟩

end Go.Proofs.YtcbgjcnekdoloaaDoor.G

namespace Go.Proofs.YtcbgjcnekdoloaaDoor.EvL
open Go.RowKit Go.Proofs.YtcbgjcnekdoloaaDoorW.PrintWords
set_option linter.unusedVariables false

theorem w64 {x : Int} (h1 : -9223372036854775808 ≤ x) (h2 : x ≤ 9223372036854775807) : wrap64 x = x := by unfold wrap64; omega
theorem Ev.const {α : Type} {a : Option α} {r : α} (h : a = some r) : Ev (fun _ => a) r := ⟨0, fun _ _ => h⟩
theorem Ev.of_eq {α : Type} {g : Nat → Option α} {r r' : α} (h : Ev g r) (e : r = r') : Ev g r' := e ▸ h
theorem Ev.ite_pos {α : Type} {c : Prop} [Decidable c] {g f : Nat → Option α} {r : α} (hc : c) (h : Ev g r) : Ev (fun k => if c then g k else f k) r := Ev.congr (fun k => if_pos hc) h
theorem Ev.ite_neg {α : Type} {c : Prop} [Decidable c] {g f : Nat → Option α} {r : α} (hc : ¬ c) (h : Ev f r) : Ev (fun k => if c then g k else f k) r := Ev.congr (fun k => if_neg hc) h
theorem Ev.succ {α : Type} {g : Nat → Option α} {r : α} (h : Ev (fun k => g (k + 1)) r) : Ev g r := Ev.step (fun k => rfl) h
theorem Ev.unique {α : Type} {g : Nat → Option α} {r r' : α} (h : Ev g r) (h' : Ev g r') : r = r' := by
  obtain ⟨K, hK⟩ := h
  obtain ⟨K', hK'⟩ := h'
  have h1 := hK (max K K') (Nat.le_max_left ..)
  have h2 := hK' (max K K') (Nat.le_max_right ..)
  rw [h1] at h2
  exact Option.some.inj h2

theorem ev_all (F : Nat → Int → Option Bool) (n : Nat) (p : Nat → Bool) (hs : ∀ (k i : Nat), i < n → F (k + 1) i = if p i = true then F k ((i + 1 : Nat) : Int) else some false) (he : ∀ k, F (k + 1) n = some true) :
    ∀ (d i : Nat), i + d = n → Ev (fun k => F k i) ((List.range d).all fun j => p (i + j)) := by
  intro d
  induction d with
  | zero => intro i hi; obtain rfl : i = n := by omega
            exact Ev.step he (Ev.now _)
  | succ d ih =>
    intro i hi
    have e : ((List.range (d + 1)).all fun j => p (i + j)) = (p i && (List.range d).all fun j => p (i + 1 + j)) := by
      rw [List.range_succ_eq_map, List.all_cons, List.all_map, Nat.add_zero]
      congr 1; congr 1; funext j; show p (i + (j + 1)) = _; congr 1; omega
    rw [e]
    by_cases hp : p i = true
    · refine Ev.step (fun k => (hs k i (by omega)).trans (if_pos hp)) ?_
      rw [hp, Bool.true_and]
      exact ih (i + 1) (by omega)
    · refine Ev.step (fun k => (hs k i (by omega)).trans (if_neg hp)) ?_
      rw [Bool.eq_false_iff.mpr hp, Bool.false_and]
      exact Ev.now _

theorem range_all_getD {β : Type} (l : List β) (z : β) (p : Nat → β → Bool) : ((List.range l.length).all fun j => p j (l.getD j z)) = true ↔ ∀ (i : Nat) (x : β), l[i]? = some x → p i x = true := by
  rw [List.all_eq_true]
  constructor
  · intro h i x hx
    have hi : i < l.length := by
      by_cases hi : i < l.length
      · exact hi
      · rw [List.getElem?_eq_none (by omega)] at hx; simp at hx
    have := h i (by simpa using hi)
    rwa [List.getD_eq_getElem?_getD, hx] at this
  · intro h i hi
    have hi' : i < l.length := by simpa using hi
    rw [List.getD_eq_getElem?_getD, List.getElem?_eq_getElem hi']
    exact h i _ (List.getElem?_eq_getElem hi')

end Go.Proofs.YtcbgjcnekdoloaaDoor.EvL

namespace Go.Proofs.YtcbgjcnekdoloaaDoor.HeapL
open Go.RowKit Go.Proofs.YtcbgjcnekdoloaaDoor.G Go.Proofs.YtcbgjcnekdoloaaDoor.EvL Go.Proofs.YtcbgjcnekdoloaaDoorW.PrintWords Go.Proofs.YtcbgjcnekdoloaaDoorW.PrintLast
set_option linter.unusedVariables false

theorem rdC (l : List S61) (i : Nat) : rd_T61 l (i : Int) = l.getD i z61 := by unfold rd_T61; rw [Int.toNat_natCast]
theorem rdI (l : List Int) (i : Nat) : rd l (i : Int) = l.getD i 0 := by unfold rd; rw [Int.toNat_natCast]
theorem next (i : Nat) {n : Nat} (h : i < n) (hn : n ≤ 9223372036854775807) : wrap64 ((i : Int) + 1) = ((i + 1 : Nat) : Int) := by rw [w64 (by omega) (by omega)]; omega

def CellOk (c : S61) (i : Nat) : Prop := (c.f0 = true ∧ c.f2 = 0 ∧ c.f3 = 0) ∨ (c.f0 = false ∧ c.f1 = 0 ∧ 0 ≤ c.f2 ∧ c.f2 < i ∧ 0 ≤ c.f3 ∧ c.f3 < i)
instance (c : S61) (i : Nat) : Decidable (CellOk c i) := by unfold CellOk; infer_instance
def cellsOk (c : List S61) : Bool := (List.range c.length).all fun i => decide (CellOk (c.getD i z61) i)
def rootsOk (n : Nat) (r : List Int) : Bool := r.all fun x => decide (0 ≤ x ∧ x < (n : Int))
def goodH (old : Int) (c : List S61) (r : List Int) : Bool := decide (c.length ≤ 200) && (decide (r.length ≤ 60) && (decide (0 ≤ old ∧ old ≤ (c.length : Int)) && (cellsOk c && rootsOk c.length r)))

theorem l1In_eq (a b c : Int) : spec_l1In.f a b c = some (decide (b ≤ a ∧ a ≤ c)) := by
  unfold spec_l1In.f
  by_cases h : a ≥ b
  · rw [if_pos h]; congr 1; exact decide_eq_decide.mpr (by omega)
  · rw [if_neg h, decide_eq_false (by omega)]

theorem spec_roots (old : Int) (c : List S61) (r : List Int) (hc : c.length ≤ 200) (hr : r.length ≤ 60) : Ev (fun k => spec_GoodHeap.l1 k r r.length 0 old c r) (rootsOk c.length r) := by
  refine Ev.of_eq (ev_all (fun k i => spec_GoodHeap.l1 k r r.length i old c r) r.length (fun i => decide (0 ≤ r.getD i 0 ∧ r.getD i 0 < (c.length : Int))) ?_ ?_ r.length 0 (by omega)) ?_
  · intro k i hi
    simp only [spec_GoodHeap.l1]
    rw [if_pos (by omega), if_pos (by omega), if_pos (by omega), l1In_eq, rdI, w64 (by omega) (by omega), next i hi (by omega)]
    simp only [Option.bind_some]
    rw [show decide (0 ≤ r.getD i 0 ∧ r.getD i 0 ≤ (c.length : Int) - 1) = decide (0 ≤ r.getD i 0 ∧ r.getD i 0 < (c.length : Int)) from decide_eq_decide.mpr (by omega)]
  · intro k
    simp only [spec_GoodHeap.l1]
    rw [if_neg (by omega)]
  · simp only [Nat.zero_add]
    unfold rootsOk
    rw [Bool.eq_iff_iff, range_all_getD r 0 (fun _ x => decide (0 ≤ x ∧ x < (c.length : Int))), List.all_eq_true]
    constructor
    · intro h x hx
      obtain ⟨i, hi⟩ := List.mem_iff_getElem?.mp hx
      exact h i x hi
    · intro h i x hx
      exact h x (List.mem_of_getElem? hx)

theorem spec_cells (old : Int) (c : List S61) (r : List Int) (hc : c.length ≤ 200) (hr : r.length ≤ 60) : ∀ (d i : Nat), i + d = c.length →
    Ev (fun k => spec_GoodHeap.l0 k c c.length i old c r) (((List.range d).all fun j => decide (CellOk (c.getD (i + j) z61) (i + j))) && rootsOk c.length r) := by
  intro d
  induction d with
  | zero =>
    intro i hi
    refine Ev.step (f := fun k => spec_GoodHeap.l1 k r r.length 0 old c r) (fun k => ?_) (Ev.of_eq (spec_roots old c r hc hr) (by simp))
    simp only [spec_GoodHeap.l0]
    rw [if_neg (by omega)]
  | succ d ih =>
    intro i hi
    have e : ((List.range (d + 1)).all fun j => decide (CellOk (c.getD (i + j) z61) (i + j))) = (decide (CellOk (c.getD i z61) i) && (List.range d).all fun j => decide (CellOk (c.getD (i + 1 + j) z61) (i + 1 + j))) := by
      rw [List.range_succ_eq_map, List.all_cons, List.all_map, Nat.add_zero]
      congr 1; congr 1; funext j; show decide (CellOk (c.getD (i + (j + 1)) z61) (i + (j + 1))) = _; rw [show i + (j + 1) = i + 1 + j by omega]
    rw [e]
    refine Ev.step (f := fun k => if CellOk (c.getD i z61) i then spec_GoodHeap.l0 k c c.length ((i + 1 : Nat) : Int) old c r else some false) (fun k => ?_) ?_
    · simp only [spec_GoodHeap.l0]
      rw [if_pos (by omega), if_pos (by omega), if_pos (by omega), rdC, next i (n := c.length) (by omega) (by omega), w64 (x := (i : Int) - 1) (by omega) (by omega)]
      simp only [l1In_eq, Option.bind_some]
      generalize c.getD i z61 = x
      by_cases h0 : x.f0 = true
      · rw [if_pos h0]
        by_cases h1 : x.f2 = 0
        · rw [if_pos h1]
          by_cases h2 : x.f3 = 0
          · rw [if_pos h2, if_pos (.inl ⟨h0, h1, h2⟩)]
          · rw [if_neg h2, if_neg (by rintro (⟨_, _, h⟩ | ⟨h, _⟩); exact h2 h; rw [h0] at h; cases h)]
        · rw [if_neg h1, if_neg (by rintro (⟨_, h, _⟩ | ⟨h, _⟩); exact h1 h; rw [h0] at h; cases h)]
      · have h0' : x.f0 = false := Bool.eq_false_iff.mpr h0
        rw [if_neg h0]
        by_cases h1 : x.f1 = 0
        · rw [if_pos h1]
          by_cases h2 : 0 ≤ x.f2 ∧ x.f2 ≤ (i : Int) - 1
          · rw [if_pos (decide_eq_true h2)]
            by_cases h3 : 0 ≤ x.f3 ∧ x.f3 ≤ (i : Int) - 1
            · rw [if_pos (decide_eq_true h3), if_pos (.inr ⟨h0', h1, by omega, by omega, by omega, by omega⟩)]
            · rw [if_neg (by rw [decide_eq_false h3]; decide), if_neg (by rintro (⟨h, _⟩ | ⟨_, _, _, _, _, _⟩); exact h0 h; omega)]
          · rw [if_neg (by rw [decide_eq_false h2]; decide), if_neg (by rintro (⟨h, _⟩ | ⟨_, _, _, _, _, _⟩); exact h0 h; omega)]
        · rw [if_neg h1, if_neg (by rintro (⟨h, _⟩ | ⟨_, h, _⟩); exact h0 h; exact h1 h)]
    · by_cases h : CellOk (c.getD i z61) i
      · rw [decide_eq_true h, Bool.true_and]
        exact Ev.ite_pos h (ih (i + 1) (by omega))
      · rw [decide_eq_false h, Bool.false_and, Bool.false_and]
        exact Ev.ite_neg h (Ev.now _)

theorem specGood (old : Int) (c : List S61) (r : List Int) : Ev (fun k => spec_GoodHeap.f k old c r) (goodH old c r) := by
  unfold spec_GoodHeap.f goodH
  have no : Ev (fun k => spec_GoodHeap.j0 k true old c r) false := Ev.step (f := fun _ => some false) (fun k => by simp only [spec_GoodHeap.j0, if_true]) (Ev.now _)
  by_cases h1 : c.length ≤ 200
  · refine Ev.ite_neg (by omega) ?_
    rw [decide_eq_true h1, Bool.true_and]
    by_cases h2 : r.length ≤ 60
    · refine Ev.ite_neg (by omega) ?_
      rw [decide_eq_true h2, Bool.true_and, l1In_eq]
      simp only [Option.bind_some]
      by_cases h3 : 0 ≤ old ∧ old ≤ (c.length : Int)
      · rw [decide_eq_true h3, Bool.true_and]
        refine Ev.step (f := fun k => spec_GoodHeap.l0 k c c.length 0 old c r) (fun k => by simp only [spec_GoodHeap.j0, Bool.not_true, Bool.false_eq_true, if_false]) ?_
        exact Ev.of_eq (spec_cells old c r h1 h2 c.length 0 (by omega)) (by simp only [Nat.zero_add]; rfl)
      · rw [decide_eq_false h3, Bool.false_and]
        exact no
    · rw [decide_eq_false h2, Bool.false_and]
      exact Ev.ite_pos (by omega) no
  · rw [decide_eq_false h1, Bool.false_and]
    exact Ev.ite_pos (by omega) no

theorem isBelow_eq (a b : Int) : impl_isBelow.f a b = some (decide (0 ≤ a ∧ a < b)) := by
  unfold impl_isBelow.f
  by_cases h : a ≥ 0
  · rw [if_pos h]; congr 1; exact decide_eq_decide.mpr (by omega)
  · rw [if_neg h, decide_eq_false (by omega)]

theorem isCell_eq (c : S61) (i : Nat) : impl_isCell.f c.f0 c.f1 c.f2 c.f3 i = some (decide (CellOk c i)) := by
  unfold impl_isCell.f
  simp only [isBelow_eq, Option.bind_some]
  by_cases h0 : c.f0 = true
  · rw [if_pos h0]
    by_cases h1 : c.f2 = 0
    · rw [if_pos h1]
      by_cases h2 : c.f3 = 0
      · rw [beq_iff_eq.mpr h2, decide_eq_true (show CellOk c i from .inl ⟨h0, h1, h2⟩)]
      · rw [beq_eq_false_iff_ne.mpr h2, decide_eq_false (by rintro (⟨_, _, h⟩ | ⟨h, _⟩); exact h2 h; rw [h0] at h; cases h)]
    · rw [if_neg h1, decide_eq_false (by rintro (⟨_, h, _⟩ | ⟨h, _⟩); exact h1 h; rw [h0] at h; cases h)]
  · have h0' : c.f0 = false := Bool.eq_false_iff.mpr h0
    rw [if_neg h0]
    by_cases h1 : c.f1 = 0
    · rw [if_pos h1]
      by_cases h2 : 0 ≤ c.f2 ∧ c.f2 < (i : Int)
      · rw [if_pos (decide_eq_true h2)]
        congr 1
        refine decide_eq_decide.mpr ⟨fun h => .inr ⟨h0', h1, h2.1, h2.2, h.1, h.2⟩, ?_⟩
        rintro (⟨h, _⟩ | ⟨_, _, _, _, a, b⟩)
        · exact absurd h h0
        · exact ⟨a, b⟩
      · rw [if_neg (by rw [decide_eq_false h2]; decide), decide_eq_false (by rintro (⟨h, _⟩ | ⟨_, _, _, _, _, _⟩); exact h0 h; omega)]
    · rw [if_neg h1, decide_eq_false (by rintro (⟨h, _⟩ | ⟨_, h, _⟩); exact h0 h; exact h1 h)]

theorem implGood (old : Int) (c : List S61) (r : List Int) : Ev (fun k => impl_GoodHeap.f k old c r) (goodH old c r) := by
  unfold impl_GoodHeap.f goodH impl_areRoots.f
  have no : Ev (fun k => impl_GoodHeap.j0 k true old c r) false := Ev.step (f := fun _ => some false) (fun k => by simp only [impl_GoodHeap.j0, if_true]) (Ev.now _)
  by_cases h1 : c.length ≤ 200
  · refine Ev.ite_neg (by omega) ?_
    rw [decide_eq_true h1, Bool.true_and]
    by_cases h3 : 0 ≤ old ∧ old ≤ (c.length : Int)
    · refine Ev.ite_neg (by omega) (Ev.ite_neg (by omega) ?_)
      rw [decide_eq_true h3, Bool.true_and]
      simp only [Option.bind_some]
      by_cases h2 : r.length ≤ 60
      · rw [decide_eq_true h2, Bool.true_and, Bool.true_and]
        have er : (r.all fun n => decide (0 ≤ n ∧ n < (c.length : Int))) = rootsOk c.length r := rfl
        rw [er]
        cases hr : rootsOk c.length r with
        | false => rw [Bool.and_false]; exact no
        | true =>
          rw [Bool.and_true]
          refine Ev.step (f := fun k => impl_GoodHeap.l0 k c c.length 0) (fun k => by simp only [impl_GoodHeap.j0, Bool.not_true, Bool.false_eq_true, if_false]) ?_
          refine Ev.of_eq (ev_all (fun k i => impl_GoodHeap.l0 k c c.length i) c.length (fun i => decide (CellOk (c.getD i z61) i)) ?_ ?_ c.length 0 (by omega)) (by simp only [Nat.zero_add]; rfl)
          · intro k i hi
            simp only [impl_GoodHeap.l0]
            rw [if_pos (by omega), if_pos (by omega), if_pos (by omega), rdC, isCell_eq, next i hi (by omega)]
            simp only [Option.bind_some]
          · intro k
            simp only [impl_GoodHeap.l0]
            rw [if_neg (by omega)]
      · rw [decide_eq_false h2, Bool.false_and, Bool.false_and]
        exact no
    · rw [decide_eq_false h3, Bool.false_and, Bool.and_false]
      by_cases h4 : old < 0
      · exact Ev.ite_pos h4 no
      · exact Ev.ite_neg h4 (Ev.ite_pos (by omega) no)
  · rw [decide_eq_false h1, Bool.false_and]
    exact Ev.ite_pos (by omega) no
theorem good_parts {old : Int} {c : List S61} {r : List Int} (h : goodH old c r = true) : c.length ≤ 200 ∧ r.length ≤ 60 ∧ (0 ≤ old ∧ old ≤ (c.length : Int)) ∧ cellsOk c = true ∧ rootsOk c.length r = true := by
  unfold goodH at h
  simp only [Bool.and_eq_true, decide_eq_true_iff] at h
  exact h
end Go.Proofs.YtcbgjcnekdoloaaDoor.HeapL

namespace Go.Proofs.YtcbgjcnekdoloaaDoor.G
open Go.RowKit Go.Proofs.YtcbgjcnekdoloaaDoorW.PrintWords Go.Proofs.YtcbgjcnekdoloaaDoorW.PrintLast Go.Proofs.YtcbgjcnekdoloaaDoorW.PrintMore Go.Proofs.YtcbgjcnekdoloaaDoor.Short
attribute [local go_sem] max2_int min2_int max_two min_two max_three min_three max_four min_four   -- for this text's walks alone
set_option linter.unusedVariables false
set_option linter.unusedSimpArgs false

def impl_always.f (a0 : Int) : Option (Bool) := some true
set_option maxHeartbeats 8000000 in
set_option maxRecDepth 100000 in
theorem impl_always.calls (a0 : Int) (r : Bool) (w : World) (h : impl_always.f a0 = some r) :
  Calls Tryd.prog 33 #[.int .i64 a0] w fun e w' => e = .returned (.bool r) ∧ Drawn0 w w' := by
 have H : (some true) = some r := h
 clear h
 obtain rfl := Option.some.inj H
 go_enter Tryd.func33, Tryd.ntmps33
 go_wp2
 go_ret
 exact ⟨by first | rfl | (simp; done) | (simp [*]; done), by repeat (first | exact Drawn0.refl _ | apply Drawn0.step)⟩


def slices_Clone_int_int.f (l0 : List Int) : Option (List Int) := (some (([] : List Int) : List Int)).bind fun y101 => (if y101.length + l0.length < 17592186044416 then (some (y101 ++ l0)) else (none))
set_option maxHeartbeats 8000000 in
set_option maxRecDepth 100000 in
theorem slices_Clone_int_int.calls (A0 : Option Addr) (c0 : Nat) (l0 : List Int) (r : List Int) (w : World) (hr0 : Kd.C (Kd.int .i64) w A0 l0.length l0) (hc0 : l0.length ≤ c0) (h : slices_Clone_int_int.f l0 = some r) :
  Calls Tryd.prog 47 #[.slice A0 l0.length c0] w fun e w' => ∃ v0_ : Value, e = .returned (v0_) ∧ Kd.R (Kd.int .i64) 3 w' w.heap.size (fun _ => True) v0_ r ∧ Below w.heap.size w w' := by
 have hnl := fun (W : World) (a : Option Addr) (n c : Nat) => Go.Lib.run_eql_slice_nil (P := Tryd.prog) W 23 3 a n c 0 0 Tryd.underlying23
 cases A0 with
 | none =>
  have hl : l0 = [] := by
   cases l0 with
   | nil => rfl
   | cons x xs => obtain ⟨ad, e, _⟩ := hr0.2.2 (by simp); cases e
  subst hl
  obtain rfl : [] = r := by simpa [slices_Clone_int_int.f] using h
  go_enter Tryd.func47, Tryd.ntmps47
  go_wp2
  go_ret
  exact ⟨_, rfl, Kd.R_nil _ _ _ _ _, Below.refl _ _⟩
 | some ad0 =>
  have HR0 := aK hr0
  have HC0 := aK hc0
  clear hr0 hc0
  have HB := aK (Below.refl w.heap.size w)
  have H : ((some (([] : List Int) : List Int)).bind fun y101 => (if y101.length + l0.length < 17592186044416 then (some (y101 ++ l0)) else (none))) = some r := h
  clear h
  obtain ⟨y101, hy101⟩ : ∃ y_ : List Int, y_ = (([] : List Int)) := ⟨_, rfl⟩
  replace H : (if y101.length + l0.length < 17592186044416 then (some (y101 ++ l0)) else (none)) = some r := by first | (rw [hy101]; with_reducible exact H) | (have H2_ := (Option.bind_some _ _).symm.trans H; rw [hy101]; with_reducible exact H2_) | (have H2_ := (Option.bind_some _ _).symm.trans H; with_reducible exact H2_) | with_reducible exact H | (rw [hy101]; exact H) | exact H
  have Ny101 := aK hy101
  clear hy101
  by_cases c2 : y101.length + l0.length < 17592186044416
  ·rw [if_pos c2] at H
   have LMc2 := aK c2
   clear c2
   obtain ⟨y104, hy104⟩ : ∃ y_ : List Int, y_ = (y101 ++ l0) := ⟨_, rfl⟩
   replace H : (some y104) = some r := by first | (rw [hy104]; with_reducible exact H) | (have H2_ := (Option.bind_some _ _).symm.trans H; rw [hy104]; with_reducible exact H2_) | (have H2_ := (Option.bind_some _ _).symm.trans H; with_reducible exact H2_) | with_reducible exact H | (rw [hy104]; exact H) | exact H
   have Ny104 := aK hy104
   clear hy104
   obtain rfl := Option.some.inj H
   go_enter Tryd.func47, Tryd.ntmps47
   go_wp2_with (first | ((with_reducible refine gate_dst (N := 5) rfl ?_); refine Kd.R_lit (Kd.int .i64) _ 3 ?hg (N := 5) ?hd (xs := ([] : List Int)) (inner := []) (ok := fun _ => True) (okp := fun _ => True) ?hr ?hp (fun _ hk => hk) trivial (Below.refl _ _) (Nat.le_refl _) (by simp) ?_; (case hd => rfl); (case hg => rfl); (case hr => go_simp); (case hp => exact (Reps.none _ _)); intro v102 w3 ho4 hb hg_ hnew_; clear hg_ hnew_; (first | rw [← Ny101.out] at ho4 | (simp only [Int.reduceToNat] at ho4; rw [← Ny101.out] at ho4)); have HO103 := aK (Kd.R_lower ho4 (below_size HB.out)); replace HB := qs HB hb; clear hb ho4) | ((with_reducible refine gate_builtin (b := .append) (xs := #[.tmp 5, .tmp 6]) rfl ?_); at_builtin; refine Kd.R_append_rows (Kd.int .i64) (w0 := w) w.heap.size rfl (.tmp 5) (.tmp 6) 23 3 (.int .i64 0) 8 rfl Tryd.underlying23 info3 rfl (by decide) (by omega) v102 y101 l0 _ _ _ (fun _ => True) (fun _ => False) rfl rfl ?aO ?aR (fun _ _ h => h) (fun _ h => h.elim) ?aF ?aB ?aS ?aL ?_; (case aR => exact sC (Kd.C_below HR0.out HB.out)); (case aB => exact HB.out); (case aF => exact (fun _ _ => trivial)); (case aO => exact HO103.out); (case aS => exact (below_size HB.out)); (case aL => have := LMc2.out; omega); intro v105 w5 ho hb hg hat; rw [← Ny104.out] at ho; have n0_ := aK (hb); have HO106 := aK (ho); clear HB; have HB := n0_; clear n0_; clear HO103; clear ho hb hg hat))
   go_ret
   exact ⟨_, eW, by (with_reducible repeat (first | apply rA | apply rN | apply rD)); exact HO106.out, pH HB⟩
  ·rw [if_neg c2] at H
   exact absurd H (by simp)


def impl_reached.l0 : Nat → List (S61) → List Bool → List Int → Option (List Bool)
 | 0, _, _, _ => none
 | k + 1, x0, x7, x8 => if (x8.length : Int) > 0 then (if 0 ≤ (wrap64 ((x8.length : Int) - 1)) then (if (wrap64 ((x8.length : Int) - 1)) < (x8.length : Int) then (if (wrap64 ((x8.length : Int) - 1)) ≤ (x8.length : Int) then ((some (x8.take ((wrap64 ((x8.length : Int) - 1)) : Int).toNat : List Int)).bind fun y108 => (if 0 ≤ (rd x8 (wrap64 ((x8.length : Int) - 1))) then (if (rd x8 (wrap64 ((x8.length : Int) - 1))) < (x7.length : Int) then (if rdOf false x7 (rd x8 (wrap64 ((x8.length : Int) - 1))) = true then (impl_reached.l0 k x0 x7 y108) else ((some (x7.set ((rd x8 (wrap64 ((x8.length : Int) - 1))) : Int).toNat true : List Bool)).bind fun y112 => (if (rd x8 (wrap64 ((x8.length : Int) - 1))) < (x0.length : Int) then (if (rd_T61 x0 (rd x8 (wrap64 ((x8.length : Int) - 1)))).f0 = true then (impl_reached.l0 k x0 y112 y108) else ((impl_always.f (rd x8 (wrap64 ((x8.length : Int) - 1)))).bind fun t115 => (if t115 = true then ((some (([(rd_T61 x0 (rd x8 (wrap64 ((x8.length : Int) - 1)))).f2, (rd_T61 x0 (rd x8 (wrap64 ((x8.length : Int) - 1)))).f3] : List Int) : List Int)).bind fun y116 => (if y108.length + y116.length < 17592186044416 then (impl_reached.l0 k x0 y112 (y108 ++ y116)) else (none))) else (impl_reached.l0 k x0 y112 y108)))) else (none)))) else (none)) else (none))) else (none)) else (none)) else (none)) else (some x7)
def impl_reached.f (k : Nat) (l0 : List (S61)) (l1 : List Int)  : Option (List Bool) := if 0 ≤ (l0.length : Int) then (if ((l0.length : Int) : Int).toNat ≤ 281474976710656 then ((slices_Clone_int_int.f l1).bind fun t104 => (impl_reached.l0 k l0 (List.replicate ((l0.length : Int) : Int).toNat false) t104)) else (none)) else (none)
set_option maxHeartbeats 8000000 in
set_option maxRecDepth 100000 in
theorem impl_reached.calls (k : Nat) (A0 : Option Addr) (c0 : Nat) (l0 : List (S61)) (A1 : Option Addr) (c1 : Nat) (l1 : List Int)  (r : List Bool) (w : World) (hr0 : Kd.C k61 w A0 l0.length l0) (hc0 : l0.length ≤ c0) (hr1 : Kd.C (Kd.int .i64) w A1 l1.length l1) (hc1 : l1.length ≤ c1) (h : impl_reached.f k l0 l1 = some r) :
  Calls Tryd.prog 32 #[.slice A0 l0.length c0, .slice A1 l1.length c1, .func (.func 33) #[] #[]] w fun e w' => ∃ v0_ : Value, e = .returned (v0_) ∧ Kd.R Kd.bool 4 w' w.heap.size (fun _ => True) v0_ r ∧ Below w.heap.size w w' := by
 have eg33 := enters_ Tryd.func33 (by kernel_rfl) rfl
 have hu61 := Tryd.underlying61
 have HR0 := aK hr0
 have HC0 := aK hc0
 clear hr0 hc0
 have HR1 := aK hr1
 have HC1 := aK hc1
 clear hr1 hc1
 have HB := aK (Below.refl w.heap.size w)
 have H : (if 0 ≤ (l0.length : Int) then (if ((l0.length : Int) : Int).toNat ≤ 281474976710656 then ((slices_Clone_int_int.f l1).bind fun t104 => (impl_reached.l0 k l0 (List.replicate ((l0.length : Int) : Int).toNat false) t104)) else (none)) else (none)) = some r := h
 clear h
 by_cases c4 : 0 ≤ (l0.length : Int)
 ·rw [if_pos c4] at H
  have c4b0 := eq_true c4
  have c4b1 : decide (0 ≤ (l0.length : Int)) = true := decide_eq_true c4
  clear c4
  by_cases c5 : ((l0.length : Int) : Int).toNat ≤ 281474976710656
  ·rw [if_pos c5] at H
   have c5b0 := eq_true c5
   have c5b1 : decide (((l0.length : Int) : Int).toNat ≤ 281474976710656) = true := decide_eq_true c5
   clear c5
   obtain ⟨y101, hy101⟩ : ∃ y_ : List Bool, y_ = (List.replicate ((l0.length : Int) : Int).toNat false) := ⟨_, rfl⟩
   replace H : ((slices_Clone_int_int.f l1).bind fun t104 => (impl_reached.l0 k l0 y101 t104)) = some r := by first | (rw [hy101]; with_reducible exact H) | (have H2_ := (Option.bind_some _ _).symm.trans H; rw [hy101]; with_reducible exact H2_) | (have H2_ := (Option.bind_some _ _).symm.trans H; with_reducible exact H2_) | with_reducible exact H | (rw [hy101]; exact H) | exact H
   have Ny101 := aK hy101
   clear hy101
   obtain ⟨t104, A6, H⟩ := oB H
   try dsimp only at H
   have H' := aK H
   clear H
   go_enter Tryd.func32, Tryd.ntmps32
   try go_wp2
   have n0_ := aK (below_drew1 HB.out)
   clear HB
   have HB := n0_
   clear n0_
   refine start_ (n := 7) (S := fun w' => True) (ds := []) (bs 0 7) (by kernel_rfl) rfl rfl trivial (fun hHeld => ?_)
   generalize w.drew = w7 at HB hHeld ⊢
   refine pS (i := 0) (N := some 11) (bs 1 6) (by kernel_rfl) ?_
   refine pS (i := 1) (N := some 12) (bs 2 5) (by kernel_rfl) ?_
   refine pS (i := 3) (N := some 14) #[true, true, false, true, false, false, false] (by kernel_rfl) ?_
   refine join_ (σ := Value × Value) 2 (bs 5 2) (fun s_ => [(13, s_.1), (15, s_.2)]) (fun s_ w' => (Kd.R Kd.bool 4 w' w.heap.size (fun _ => True) s_.1 y101) ∧ (Kd.R (Kd.int .i64) 3 w' w.heap.size (fun _ => True) s_.2 t104) ∧ (Below w.heap.size w w')) ?_ ?_
   rotate_left
   ·intro hCont
    refine two_ (i := 2) (j := 4) (Ni := some 13) (Nj := some 15) (bs 4 3) #[true, true, false, true, true, false, false] rfl rfl rfl rfl (by kernel_rfl) (by decide) (by decide) (fun K hK => ?_) (fun K hK => ?_)
    ·skip
     refine Kd.R_make_step Kd.bool _ 4 (by rfl) (N := 13) rfl 56 _ _ rfl (l0.length : Int) rfl rfl Tryd.underlying56 (.bool false) 1 info4 rfl (by decide) (by omega) false (ok := fun _ => True) (okp := fun _ => True) rfl (fun _ hk => hk) trivial (dA) (Nat.le_trans (Nat.mul_le_mul_right _ (dA : (l0.length : Int).toNat ≤ 281474976710656)) (by omega)) (Below.refl _ _) (Nat.le_refl _) ?_
     intro v102 w8 ho9 hb hg_ hnew_
     clear hg_ hnew_
     (first | rw [← Ny101.out] at ho9 | (simp only [Int.reduceToNat] at ho9; rw [← Ny101.out] at ho9))
     have n_ := aJ (aK (Kd.R_lower ho9 (below_size HB.out))) (aK (below_step HB.out hb))
     clear HB
     obtain ⟨HO103, HB⟩ := n_
     clear hb ho9
     refine hK.out _ _ trivial (fun hHeld => ?_)
     clear hK K
     refine norm_ (a' := ?_) ?_ ?_
     rotate_left
     ·show Act.put _ (some 13) _ = _
      simp only [sP, i64_w, i32_w]
      rfl
     refine one_ (i := 4) (N := some 15) (bs 5 2) rfl rfl (by kernel_rfl) (by decide) (fun K hK => ?_)
     refine goes_ Tryd.func47 (by kernel_rfl) rfl #[.slice A1 l1.length c1] (by rfl) rfl rfl tA ?_
     with_reducible refine (slices_Clone_int_int.calls _ _ l1 t104 _ ?side1 ?side2 A6.out).mono ?_
     (case side1 => exact sC (Kd.C_below HR1.out HB.out))
     (case side2 => exact HC1.out)
     rintro e w10 ⟨v105, rfl, ho0, hb⟩
     refine ⟨_, rfl, ?_⟩
     have n_ := aJ (aK (Kd.R_below HO103.out hb)) (aJ (aK (Kd.R_lower ho0 (below_size HB.out))) (aK (below_step HB.out hb)))
     clear HO103 HB
     obtain ⟨HO103, HO106, HB⟩ := n_
     (try clear hb)
     (try clear hb2)
     (try clear hk)
     (try clear hi)
     (try clear ho0)
     refine hK.out _ _ trivial (fun hHeld => ?_)
     clear hK K
     refine norm_ (a' := ?_) ?_ ?_
     rotate_left
     ·show Act.put _ (some 15) _ = _
      simp only [sP, i64_w, i32_w]
      rfl
     exact norm_ (by simp only [putAll, Act.put, List.setIfInBounds_toArray, List.set_cons_zero, List.set_cons_succ]) (hCont (v102, v105) _ ⟨HO103.out, HO106.out, HB.out⟩)
    ·skip
     refine goes_ Tryd.func47 (by kernel_rfl) rfl #[.slice A1 l1.length c1] (by rfl) rfl rfl tA ?_
     with_reducible refine (slices_Clone_int_int.calls _ _ l1 t104 _ ?side1 ?side2 A6.out).mono ?_
     (case side1 => exact sC (Kd.C_below HR1.out HB.out))
     (case side2 => exact HC1.out)
     rintro e w8 ⟨v105, rfl, ho0, hb⟩
     refine ⟨_, rfl, ?_⟩
     have n_ := aJ (aK (Kd.R_lower ho0 (below_size HB.out))) (aK (below_step HB.out hb))
     clear HB
     obtain ⟨HO106, HB⟩ := n_
     (try clear hb)
     (try clear hb2)
     (try clear hk)
     (try clear hi)
     (try clear ho0)
     refine hK.out _ _ trivial (fun hHeld => ?_)
     clear hK K
     refine norm_ (a' := ?_) ?_ ?_
     rotate_left
     ·show Act.put _ (some 15) _ = _
      simp only [sP, i64_w, i32_w]
      rfl
     refine one_ (i := 2) (N := some 13) (bs 5 2) rfl rfl (by kernel_rfl) (by decide) (fun K hK => ?_)
     refine Kd.R_make_step Kd.bool _ 4 (by rfl) (N := 13) rfl 56 _ _ rfl (l0.length : Int) rfl rfl Tryd.underlying56 (.bool false) 1 info4 rfl (by decide) (by omega) false (ok := fun _ => True) (okp := fun _ => True) rfl (fun _ hk => hk) trivial (dA) (Nat.le_trans (Nat.mul_le_mul_right _ (dA : (l0.length : Int).toNat ≤ 281474976710656)) (by omega)) (Below.refl _ _) (Nat.le_refl _) ?_
     intro v102 w9 ho10 hb hg_ hnew_
     clear hg_ hnew_
     (first | rw [← Ny101.out] at ho10 | (simp only [Int.reduceToNat] at ho10; rw [← Ny101.out] at ho10))
     have n_ := aJ (aK (Kd.R_below HO106.out hb)) (aJ (aK (Kd.R_lower ho10 (below_size HB.out))) (aK (below_step HB.out hb)))
     clear HO106 HB
     obtain ⟨HO106, HO103, HB⟩ := n_
     clear hb ho10
     refine hK.out _ _ trivial (fun hHeld => ?_)
     clear hK K
     refine norm_ (a' := ?_) ?_ ?_
     rotate_left
     ·show Act.put _ (some 13) _ = _
      simp only [sP, i64_w, i32_w]
      rfl
     exact norm_ (by simp only [putAll, Act.put, List.setIfInBounds_toArray, List.set_cons_zero, List.set_cons_succ]) (hCont (v102, v105) _ ⟨HO103.out, HO106.out, HB.out⟩)
   rintro ⟨v102, v105⟩ w11 ⟨h0_, h1_, h2_⟩
   have n_ := aJ (show Aside0 (Kd.R Kd.bool 4 w11 w.heap.size (fun _ => True) v102 y101) from ⟨h0_⟩) (aJ (show Aside0 (Kd.R (Kd.int .i64) 3 w11 w.heap.size (fun _ => True) v105 t104) from ⟨h1_⟩) (show Aside0 (Below w.heap.size w w11) from ⟨h2_⟩))
   clear HB h0_ h1_ h2_
   obtain ⟨HO103, HO106, HB⟩ := n_
   have hHeld := trivial
   refine norm_ (a' := ?_) ?_ ?_
   rotate_left
   ·simp only [putAll, Act.put, List.setIfInBounds_toArray, List.set_cons_zero, List.set_cons_succ]
    rfl
   refine pS (i := 5) (N := some 7) (bs 6 1) (by kernel_rfl) ?_
   refine pS (i := 6) (N := some 8) (bs 7 0) (by kernel_rfl) ?_
   refine done_ (by kernel_rfl) ?_
   try go_wp2
   go_loopg [8] k (fun kq v8 w' => ∃ (x7_1 : List Bool) (x8_1 : List Int), Aside0 (impl_reached.l0 kq l0 x7_1 x8_1 = some r) ∧ Aside0 (kq ≤ k) ∧ Aside0 (Kd.R Kd.bool 4 w' w.heap.size (fun _ => True) v102 x7_1) ∧ Aside0 (Kd.R (Kd.int .i64) 3 w' w.heap.size (fun _ => True) v8 x8_1) ∧ Aside0 (Below w.heap.size w w'))
   case atStart => exact ⟨(y101), (t104), H', ⟨Nat.le_refl _⟩, ⟨by (with_reducible repeat (first | apply rA | apply rN | apply rD)); exact HO103.out⟩, ⟨by (with_reducible repeat (first | apply rA | apply rN | apply rD)); exact HO106.out⟩, ⟨pH HB⟩⟩
   case round =>
    clear H'
    try clear c1; try clear p2; try clear c3; try clear c4; try clear c4b0; try clear c4b1; try clear c5; try clear c5b0; try clear c5b1
    obtain ⟨x7_1, x8_1, HA, HK1, HO_7, HO_8, HB⟩ := hrel
    cases gk with
    | zero => exact absurd HA.out (by simp [impl_reached.l0])
    | succ k1 =>
     have H := HA.out
     clear HA
     simp only [impl_reached.l0] at H
     by_cases c12 : (x8_1.length : Int) > 0
     ·rw [if_pos c12] at H
      have c12b0 : decide (0 < (x8_1.length : Int)) = true := decide_eq_true c12
      have c12b1 : decide (0 < x8_1.length) = true := decide_eq_true (by omega)
      clear c12
      obtain ⟨ji13, hji13⟩ : ∃ j_ : Int, (wrap64 ((x8_1.length : Int) - 1)) = j_ := ⟨_, rfl⟩
      replace H : (if 0 ≤ (ji13) then (if (ji13) < (x8_1.length : Int) then (if (ji13) ≤ (x8_1.length : Int) then ((some (x8_1.take ((ji13) : Int).toNat : List Int)).bind fun y108 => (if 0 ≤ (rd x8_1 (ji13)) then (if (rd x8_1 (ji13)) < (x7_1.length : Int) then (if rdOf false x7_1 (rd x8_1 (ji13)) = true then (impl_reached.l0 k1 l0 x7_1 y108) else ((some (x7_1.set ((rd x8_1 (ji13)) : Int).toNat true : List Bool)).bind fun y112 => (if (rd x8_1 (ji13)) < (l0.length : Int) then (if (rd_T61 l0 (rd x8_1 (ji13))).f0 = true then (impl_reached.l0 k1 l0 y112 y108) else ((impl_always.f (rd x8_1 (ji13))).bind fun t115 => (if t115 = true then ((some (([(rd_T61 l0 (rd x8_1 (ji13))).f2, (rd_T61 l0 (rd x8_1 (ji13))).f3] : List Int) : List Int)).bind fun y116 => (if y108.length + y116.length < 17592186044416 then (impl_reached.l0 k1 l0 y112 (y108 ++ y116)) else (none))) else (impl_reached.l0 k1 l0 y112 y108)))) else (none)))) else (none)) else (none))) else (none)) else (none)) else (none)) = some r := by first | (rw [hji13] at H; exact H) | (simp only [hji13] at H ⊢; exact H)
      have hji13w : (IntKind.i64.wrap ((x8_1.length : Int) - 1)) = ji13 := (i64_w _).trans hji13
      by_cases c14 : 0 ≤ (ji13)
      ·rw [if_pos c14] at H
       have c14b0 : decide (0 ≤ (ji13)) = true := decide_eq_true c14
       clear c14
       by_cases c15 : (ji13) < (x8_1.length : Int)
       ·rw [if_pos c15] at H
        have c15b0 : decide ((ji13) < (x8_1.length : Int)) = true := decide_eq_true c15
        clear c15
        by_cases c16 : (ji13) ≤ (x8_1.length : Int)
        ·rw [if_pos c16] at H
         have c16b0 := eq_true c16
         have c16b1 : decide ((ji13) ≤ (x8_1.length : Int)) = true := decide_eq_true c16
         clear c16
         obtain ⟨y108, hy108⟩ : ∃ y_ : List Int, y_ = (x8_1.take ((ji13) : Int).toNat) := ⟨_, rfl⟩
         replace H : (if 0 ≤ (rd x8_1 (ji13)) then (if (rd x8_1 (ji13)) < (x7_1.length : Int) then (if rdOf false x7_1 (rd x8_1 (ji13)) = true then (impl_reached.l0 k1 l0 x7_1 y108) else ((some (x7_1.set ((rd x8_1 (ji13)) : Int).toNat true : List Bool)).bind fun y112 => (if (rd x8_1 (ji13)) < (l0.length : Int) then (if (rd_T61 l0 (rd x8_1 (ji13))).f0 = true then (impl_reached.l0 k1 l0 y112 y108) else ((impl_always.f (rd x8_1 (ji13))).bind fun t115 => (if t115 = true then ((some (([(rd_T61 l0 (rd x8_1 (ji13))).f2, (rd_T61 l0 (rd x8_1 (ji13))).f3] : List Int) : List Int)).bind fun y116 => (if y108.length + y116.length < 17592186044416 then (impl_reached.l0 k1 l0 y112 (y108 ++ y116)) else (none))) else (impl_reached.l0 k1 l0 y112 y108)))) else (none)))) else (none)) else (none)) = some r := by first | (rw [hy108]; with_reducible exact H) | (have H2_ := (Option.bind_some _ _).symm.trans H; rw [hy108]; with_reducible exact H2_) | (have H2_ := (Option.bind_some _ _).symm.trans H; with_reducible exact H2_) | with_reducible exact H | (rw [hy108]; exact H) | exact H
         have Ny108 := aK hy108
         clear hy108
         by_cases c17 : 0 ≤ (rd x8_1 (ji13))
         ·rw [if_pos c17] at H
          have c17b0 : decide (0 ≤ (rd x8_1 (ji13))) = true := decide_eq_true c17
          clear c17
          by_cases c18 : (rd x8_1 (ji13)) < (x7_1.length : Int)
          ·rw [if_pos c18] at H
           have c18b0 : decide ((rd x8_1 (ji13)) < (x7_1.length : Int)) = true := decide_eq_true c18
           clear c18
           obtain ⟨bq19, hbq19⟩ : ∃ b_ : Bool, b_ = (rdOf false x7_1 (rd x8_1 (ji13))) := ⟨_, rfl⟩
           replace H : (if bq19 = true then (impl_reached.l0 k1 l0 x7_1 y108) else ((some (x7_1.set ((rd x8_1 (ji13)) : Int).toNat true : List Bool)).bind fun y112 => (if (rd x8_1 (ji13)) < (l0.length : Int) then (if (rd_T61 l0 (rd x8_1 (ji13))).f0 = true then (impl_reached.l0 k1 l0 y112 y108) else ((impl_always.f (rd x8_1 (ji13))).bind fun t115 => (if t115 = true then ((some (([(rd_T61 l0 (rd x8_1 (ji13))).f2, (rd_T61 l0 (rd x8_1 (ji13))).f3] : List Int) : List Int)).bind fun y116 => (if y108.length + y116.length < 17592186044416 then (impl_reached.l0 k1 l0 y112 (y108 ++ y116)) else (none))) else (impl_reached.l0 k1 l0 y112 y108)))) else (none)))) = some r := by rw [← hbq19] at H; exact H
           have Nbq19 := aK hbq19
           clear hbq19
           by_cases c20 : bq19 = true
           ·subst c20
            rw [if_pos rfl] at H
            have H' := aK H
            clear H
            obtain ⟨Ao21, co21, eo21⟩ := Kd.R_slice HO_8.out
            subst eo21
            have p107 : 0 ≤ ((ji13) : Int) := dA
            have q107 : (ji13) < (x8_1.length : Int) := dA
            obtain ⟨ad107, e107, hx107_0⟩ := Kd.at_int (Kd.R_reads' HO_8.out).2.2 (ji13) p107 q107
            cases e107
            replace p107 := eq_true p107
            replace q107 := eq_true q107
            have q22 : ((ji13) : Int) ≤ ((x8_1.length : Int) : Int) := dA
            obtain ⟨i022, hi022, _, hsz22, _⟩ := info_parts info3
            have hcut22 := cut_to (P := Tryd.prog) 23 3 .i64 Tryd.underlying23 hi022 (some ad107) x8_1.length co21 (ji13) (dA) q22 (Kd.R_reads' HO_8.out).2.1
            have hr22 := Kd.R_take (m := ((ji13) : Int).toNat) HO_8.out (by omega)
            have hy22 : y108.length = ((ji13) : Int).toNat := (by rw [Ny108.out, List.length_take]; omega)
            rw [← Ny108.out] at hr22
            rw [← hy22] at hr22 hcut22
            clear hy22 hi022 hsz22 HO_8
            have HO110 := aK hr22
            clear hr22
            replace q22 := eq_true q22
            obtain ⟨Ao23, co23, eo23⟩ := Kd.R_slice HO_7.out
            subst eo23
            have p111 : 0 ≤ ((rd x8_1 (ji13)) : Int) := dA
            have q111 : (rd x8_1 (ji13)) < (x7_1.length : Int) := dA
            obtain ⟨ad111, e111, hx111_0⟩ := Kd.at_bool (Kd.R_reads' HO_7.out).2.2 (rd x8_1 (ji13)) p111 q111
            (try rw [← Nbq19.out] at hx111_0)
            cases e111
            replace p111 := eq_true p111
            replace q111 := eq_true q111
            go_wp2
            go_roundg k1
            case measure => have := HK1.out; omega
            case rel => exact ⟨(x7_1), (y108), H', ⟨by have := HK1.out; omega⟩, ⟨by (with_reducible repeat (first | apply rA | apply rN | apply rD)); exact HO_7.out⟩, ⟨by (with_reducible repeat (first | apply rA | apply rN | apply rD)); exact HO110.out⟩, ⟨pH HB⟩⟩
           ·replace c20 := Bool.eq_false_iff.mpr c20
            subst c20
            rw [if_neg (show ¬ (false = true) by decide)] at H
            obtain ⟨y112, hy112⟩ : ∃ y_ : List Bool, y_ = (x7_1.set ((rd x8_1 (ji13)) : Int).toNat true) := ⟨_, rfl⟩
            replace H : (if (rd x8_1 (ji13)) < (l0.length : Int) then (if (rd_T61 l0 (rd x8_1 (ji13))).f0 = true then (impl_reached.l0 k1 l0 y112 y108) else ((impl_always.f (rd x8_1 (ji13))).bind fun t115 => (if t115 = true then ((some (([(rd_T61 l0 (rd x8_1 (ji13))).f2, (rd_T61 l0 (rd x8_1 (ji13))).f3] : List Int) : List Int)).bind fun y116 => (if y108.length + y116.length < 17592186044416 then (impl_reached.l0 k1 l0 y112 (y108 ++ y116)) else (none))) else (impl_reached.l0 k1 l0 y112 y108)))) else (none)) = some r := by first | (rw [hy112]; with_reducible exact H) | (have H2_ := (Option.bind_some _ _).symm.trans H; rw [hy112]; with_reducible exact H2_) | (have H2_ := (Option.bind_some _ _).symm.trans H; with_reducible exact H2_) | with_reducible exact H | (rw [hy112]; exact H) | exact H
            have Ny112 := aK hy112
            clear hy112
            by_cases c25 : (rd x8_1 (ji13)) < (l0.length : Int)
            ·rw [if_pos c25] at H
             have c25b0 : decide ((rd x8_1 (ji13)) < (l0.length : Int)) = true := decide_eq_true c25
             clear c25
             obtain ⟨bq26, hbq26⟩ : ∃ b_ : Bool, b_ = ((rd_T61 l0 (rd x8_1 (ji13))).f0) := ⟨_, rfl⟩
             replace H : (if bq26 = true then (impl_reached.l0 k1 l0 y112 y108) else ((impl_always.f (rd x8_1 (ji13))).bind fun t115 => (if t115 = true then ((some (([(rd_T61 l0 (rd x8_1 (ji13))).f2, (rd_T61 l0 (rd x8_1 (ji13))).f3] : List Int) : List Int)).bind fun y116 => (if y108.length + y116.length < 17592186044416 then (impl_reached.l0 k1 l0 y112 (y108 ++ y116)) else (none))) else (impl_reached.l0 k1 l0 y112 y108)))) = some r := by rw [← hbq26] at H; exact H
             have Nbq26 := aK hbq26
             clear hbq26
             by_cases c27 : bq26 = true
             ·subst c27
              rw [if_pos rfl] at H
              have H' := aK H
              clear H
              obtain ⟨Ao28, co28, eo28⟩ := Kd.R_slice HO_8.out
              subst eo28
              have p107 : 0 ≤ ((ji13) : Int) := dA
              have q107 : (ji13) < (x8_1.length : Int) := dA
              obtain ⟨ad107, e107, hx107_0⟩ := Kd.at_int (Kd.R_reads' HO_8.out).2.2 (ji13) p107 q107
              cases e107
              replace p107 := eq_true p107
              replace q107 := eq_true q107
              have q29 : ((ji13) : Int) ≤ ((x8_1.length : Int) : Int) := dA
              obtain ⟨i029, hi029, _, hsz29, _⟩ := info_parts info3
              have hcut29 := cut_to (P := Tryd.prog) 23 3 .i64 Tryd.underlying23 hi029 (some ad107) x8_1.length co28 (ji13) (dA) q29 (Kd.R_reads' HO_8.out).2.1
              have hr29 := Kd.R_take (m := ((ji13) : Int).toNat) HO_8.out (by omega)
              have hy29 : y108.length = ((ji13) : Int).toNat := (by rw [Ny108.out, List.length_take]; omega)
              rw [← Ny108.out] at hr29
              rw [← hy29] at hr29 hcut29
              clear hy29 hi029 hsz29 HO_8
              have HO110 := aK hr29
              clear hr29
              replace q29 := eq_true q29
              obtain ⟨Ao30, co30, eo30⟩ := Kd.R_slice HO_7.out
              subst eo30
              have p111 : 0 ≤ ((rd x8_1 (ji13)) : Int) := dA
              have q111 : (rd x8_1 (ji13)) < (x7_1.length : Int) := dA
              obtain ⟨ad111, e111, hx111_0⟩ := Kd.at_bool (Kd.R_reads' HO_7.out).2.2 (rd x8_1 (ji13)) p111 q111
              (try rw [← Nbq19.out] at hx111_0)
              (try rw [← Nbq26.out] at hx111_0)
              cases e111
              replace p111 := eq_true p111
              replace q111 := eq_true q111
              have p24 : 0 ≤ ((rd x8_1 (ji13)) : Int) := dA
              have q24 : ((rd x8_1 (ji13)) : Int) < ((x7_1.length : Int) : Int) := dA
              obtain ⟨go24, co24, eo24, gb24, gl24, cl24, HG24⟩ := Kd.R_form HO_7.out (by omega)
              (first | cases eo24 | (injection eo24 with ea_ en_ ec_; (first | subst ea_ | (injection ea_ with ea_; subst ea_)); subst ec_; clear en_))
              have GB24 := aK gb24
              have GG24 := aK HG24
              clear gb24 gl24 HG24
              (first | simp only [add_plain] at hx111_0 | skip)
              obtain ⟨hx24_0, hf24_0⟩ := Kd.R_celln false HO_7.out ((rd x8_1 (ji13)) : Int) p24 q24
              replace p24 := eq_true p24
              replace q24 := eq_true q24
              have HP31 := Kd.R_putg HO_7.out ((rd x8_1 (ji13)) : Int) true
              go_wp2_with (first | ((with_reducible refine gate_store (t := 4) (p := 36) rfl ?_); refine store_event (t := 4) (p := 36) (v := ?vo_w32) (w1 := (wr.setCell ⟨go24, ((rd x8_1 (ji13)) : Int).toNat, none⟩ (.bool true))) ?hg ?ho ?hn ?hr ?_; (case ho => rfl); (case hg => rfl); (case hn => rfl); (case hr => first | (go_simp; done) | (go_simp; rfl)); intro w32 hw; have hg : wr.grownBy w32 (some go24) := (by rw [hw]; exact HP31.2); have hp_ : Kd.R Kd.bool 4 w32 w.heap.size (fun _ => True) (.slice (some ⟨go24, 0, none⟩) x7_1.length co30) y112 := (by rw [hw, Ny112.out]; exact HP31.1); clear HP31; have n0_ := aK (hp_); have n1_ := aK (Kd.R_over' (v := (.slice (some ⟨go24, 0, none⟩) x7_1.length co30)) HO110.out (Kd.R_typed HO_7.out) (by decide) hg); have n2_ := aK ((by rw [hw]; exact below_set (HB.out) GB24.out : Below w.heap.size w w32)); clear HO_7; have HO_7 := n0_; clear n0_; clear HO110; have HO110 := n1_; clear n1_; clear HB; have HB := n2_; clear n2_; clear hg hw hp_; have p113 : 0 ≤ ((rd x8_1 (ji13)) : Int) := dA; have q113 : (rd x8_1 (ji13)) < (l0.length : Int) := dA; obtain ⟨ad113, e113, hx113_0, hx113_1, hx113_2, hx113_3⟩ := at_T61 HR0.out (rd x8_1 (ji13)) p113 q113; (try rw [← Nbq19.out] at hx113_0); (try rw [← Nbq26.out] at hx113_0); cases e113; replace hx113_0 := uC HB hx113_0; replace hx113_1 := uC HB hx113_1; replace hx113_2 := uC HB hx113_2; replace hx113_3 := uC HB hx113_3; replace p113 := eq_true p113; replace q113 := eq_true q113) | ((with_reducible refine gate_dst (N := 10) rfl ?_); refine bE (N := 10) (cs := #[.bool false, .int .i64 0, .int .i64 0, .int .i64 0]) (t := 61) ?_; intro gb114 hg w33 hbox hb; have n0_ := aK (Kd.R_below HO_7.out hb); have n1_ := aK (Kd.R_below HO110.out hb); have GW114 := qw HB hg; have GE114 := qw HB hg; have BK114 := aK hbox; clear HO_7; have HO_7 := n0_; clear n0_; clear HO110; have HO110 := n1_; clear n1_; replace HB := qs HB hb; clear hb hbox hg; have hcz34_0 := kq40 BK114; have hcz34_1 := kq41 BK114; have hcz34_2 := kq42 BK114; have hcz34_3 := kq43 BK114; have hfz34_0 := fz BK114 0; have hfz34_1 := fz BK114 1; have hfz34_2 := fz BK114 2; have hfz34_3 := fz BK114 3))
              go_roundg k1
              case measure => have := HK1.out; omega
              case rel => exact ⟨(y112), (y108), H', ⟨by have := HK1.out; omega⟩, ⟨by (with_reducible repeat (first | apply rA | apply rN | apply rD)); exact Kd.R_mono (Kd.R_far (p := ⟨gb114, 3, none⟩) (Kd.R_far (p := ⟨gb114, 2, none⟩) (Kd.R_far (p := ⟨gb114, 1, none⟩) (Kd.R_far (p := ⟨gb114, 0, none⟩) (Kd.R_types HO_7.out BK114.out (by decide)) (fun _ hk => hk.2) (.bool true)) (fun _ hk => hk.2) (.int .i64 ((rd_T61 l0 (rd x8_1 (ji13))).f1))) (fun _ hk => hk.2) (.int .i64 ((rd_T61 l0 (rd x8_1 (ji13))).f2))) (fun _ hk => hk.2) (.int .i64 ((rd_T61 l0 (rd x8_1 (ji13))).f3))) (fun _ hk => trivial)⟩, ⟨by (with_reducible repeat (first | apply rA | apply rN | apply rD)); exact Kd.R_mono (Kd.R_far (p := ⟨gb114, 3, none⟩) (Kd.R_far (p := ⟨gb114, 2, none⟩) (Kd.R_far (p := ⟨gb114, 1, none⟩) (Kd.R_far (p := ⟨gb114, 0, none⟩) (Kd.R_types HO110.out BK114.out (by decide)) (fun _ hk => hk.2) (.bool true)) (fun _ hk => hk.2) (.int .i64 ((rd_T61 l0 (rd x8_1 (ji13))).f1))) (fun _ hk => hk.2) (.int .i64 ((rd_T61 l0 (rd x8_1 (ji13))).f2))) (fun _ hk => hk.2) (.int .i64 ((rd_T61 l0 (rd x8_1 (ji13))).f3))) (fun _ hk => trivial)⟩, ⟨pH HB⟩⟩
             ·replace c27 := Bool.eq_false_iff.mpr c27
              subst c27
              rw [if_neg (show ¬ (false = true) by decide)] at H
              obtain ⟨t115, A35, H⟩ := oB H
              try dsimp only at H
              by_cases c36 : t115 = true
              ·subst c36
               rw [if_pos rfl] at H
               obtain ⟨y116, hy116⟩ : ∃ y_ : List Int, y_ = (([(rd_T61 l0 (rd x8_1 (ji13))).f2, (rd_T61 l0 (rd x8_1 (ji13))).f3] : List Int)) := ⟨_, rfl⟩
               replace H : (if y108.length + y116.length < 17592186044416 then (impl_reached.l0 k1 l0 y112 (y108 ++ y116)) else (none)) = some r := by first | (rw [hy116]; with_reducible exact H) | (have H2_ := (Option.bind_some _ _).symm.trans H; rw [hy116]; with_reducible exact H2_) | (have H2_ := (Option.bind_some _ _).symm.trans H; with_reducible exact H2_) | with_reducible exact H | (rw [hy116]; exact H) | exact H
               have Ny116 := aK hy116
               clear hy116
               by_cases c37 : y108.length + y116.length < 17592186044416
               ·rw [if_pos c37] at H
                have LMc37 := aK c37
                clear c37
                obtain ⟨y119, hy119⟩ : ∃ y_ : List Int, y_ = (y108 ++ y116) := ⟨_, rfl⟩
                replace H : (impl_reached.l0 k1 l0 y112 y119) = some r := by first | (rw [hy119]; with_reducible exact H) | (have H2_ := (Option.bind_some _ _).symm.trans H; rw [hy119]; with_reducible exact H2_) | (have H2_ := (Option.bind_some _ _).symm.trans H; with_reducible exact H2_) | with_reducible exact H | (rw [hy119]; exact H) | exact H
                have Ny119 := aK hy119
                clear hy119
                have H' := aK H
                clear H
                obtain ⟨Ao38, co38, eo38⟩ := Kd.R_slice HO_8.out
                subst eo38
                have p107 : 0 ≤ ((ji13) : Int) := dA
                have q107 : (ji13) < (x8_1.length : Int) := dA
                obtain ⟨ad107, e107, hx107_0⟩ := Kd.at_int (Kd.R_reads' HO_8.out).2.2 (ji13) p107 q107
                cases e107
                replace p107 := eq_true p107
                replace q107 := eq_true q107
                have q39 : ((ji13) : Int) ≤ ((x8_1.length : Int) : Int) := dA
                obtain ⟨i039, hi039, _, hsz39, _⟩ := info_parts info3
                have hcut39 := cut_to (P := Tryd.prog) 23 3 .i64 Tryd.underlying23 hi039 (some ad107) x8_1.length co38 (ji13) (dA) q39 (Kd.R_reads' HO_8.out).2.1
                have hr39 := Kd.R_take (m := ((ji13) : Int).toNat) HO_8.out (by omega)
                have hy39 : y108.length = ((ji13) : Int).toNat := (by rw [Ny108.out, List.length_take]; omega)
                rw [← Ny108.out] at hr39
                rw [← hy39] at hr39 hcut39
                clear hy39 hi039 hsz39 HO_8
                have HO110 := aK hr39
                clear hr39
                replace q39 := eq_true q39
                obtain ⟨Ao40, co40, eo40⟩ := Kd.R_slice HO_7.out
                subst eo40
                have p111 : 0 ≤ ((rd x8_1 (ji13)) : Int) := dA
                have q111 : (rd x8_1 (ji13)) < (x7_1.length : Int) := dA
                obtain ⟨ad111, e111, hx111_0⟩ := Kd.at_bool (Kd.R_reads' HO_7.out).2.2 (rd x8_1 (ji13)) p111 q111
                (try rw [← Nbq19.out] at hx111_0)
                (try rw [← Nbq26.out] at hx111_0)
                cases e111
                replace p111 := eq_true p111
                replace q111 := eq_true q111
                have p24 : 0 ≤ ((rd x8_1 (ji13)) : Int) := dA
                have q24 : ((rd x8_1 (ji13)) : Int) < ((x7_1.length : Int) : Int) := dA
                obtain ⟨go24, co24, eo24, gb24, gl24, cl24, HG24⟩ := Kd.R_form HO_7.out (by omega)
                (first | cases eo24 | (injection eo24 with ea_ en_ ec_; (first | subst ea_ | (injection ea_ with ea_; subst ea_)); subst ec_; clear en_))
                have GB24 := aK gb24
                have GG24 := aK HG24
                clear gb24 gl24 HG24
                (first | simp only [add_plain] at hx111_0 | skip)
                obtain ⟨hx24_0, hf24_0⟩ := Kd.R_celln false HO_7.out ((rd x8_1 (ji13)) : Int) p24 q24
                replace p24 := eq_true p24
                replace q24 := eq_true q24
                have HP41 := Kd.R_putg HO_7.out ((rd x8_1 (ji13)) : Int) true
                go_wp2_with (first | ((with_reducible refine gate_store (t := 4) (p := 36) rfl ?_); refine store_event (t := 4) (p := 36) (v := ?vo_w42) (w1 := (wr.setCell ⟨go24, ((rd x8_1 (ji13)) : Int).toNat, none⟩ (.bool true))) ?hg ?ho ?hn ?hr ?_; (case ho => rfl); (case hg => rfl); (case hn => rfl); (case hr => first | (go_simp; done) | (go_simp; rfl)); intro w42 hw; have hg : wr.grownBy w42 (some go24) := (by rw [hw]; exact HP41.2); have hp_ : Kd.R Kd.bool 4 w42 w.heap.size (fun _ => True) (.slice (some ⟨go24, 0, none⟩) x7_1.length co40) y112 := (by rw [hw, Ny112.out]; exact HP41.1); clear HP41; have n0_ := aK (hp_); have n1_ := aK (Kd.R_over' (v := (.slice (some ⟨go24, 0, none⟩) x7_1.length co40)) HO110.out (Kd.R_typed HO_7.out) (by decide) hg); have n2_ := aK ((by rw [hw]; exact below_set (HB.out) GB24.out : Below w.heap.size w w42)); clear HO_7; have HO_7 := n0_; clear n0_; clear HO110; have HO110 := n1_; clear n1_; clear HB; have HB := n2_; clear n2_; clear hg hw hp_; have p113 : 0 ≤ ((rd x8_1 (ji13)) : Int) := dA; have q113 : (rd x8_1 (ji13)) < (l0.length : Int) := dA; obtain ⟨ad113, e113, hx113_0, hx113_1, hx113_2, hx113_3⟩ := at_T61 HR0.out (rd x8_1 (ji13)) p113 q113; (try rw [← Nbq19.out] at hx113_0); (try rw [← Nbq26.out] at hx113_0); cases e113; replace hx113_0 := uC HB hx113_0; replace hx113_1 := uC HB hx113_1; replace hx113_2 := uC HB hx113_2; replace hx113_3 := uC HB hx113_3; replace p113 := eq_true p113; replace q113 := eq_true q113) | ((with_reducible refine gate_dst (N := 10) rfl ?_); refine bE (N := 10) (cs := #[.bool false, .int .i64 0, .int .i64 0, .int .i64 0]) (t := 61) ?_; intro gb114 hg w43 hbox hb; have n0_ := aK (Kd.R_below HO_7.out hb); have n1_ := aK (Kd.R_below HO110.out hb); have GW114 := qw HB hg; have GE114 := qw HB hg; have BK114 := aK hbox; clear HO_7; have HO_7 := n0_; clear n0_; clear HO110; have HO110 := n1_; clear n1_; replace HB := qs HB hb; clear hb hbox hg; have hcz44_0 := kq40 BK114; have hcz44_1 := kq41 BK114; have hcz44_2 := kq42 BK114; have hcz44_3 := kq43 BK114; have hfz44_0 := fz BK114 0; have hfz44_1 := fz BK114 1; have hfz44_2 := fz BK114 2; have hfz44_3 := fz BK114 3) | (go_at_call 33; (with_reducible refine (impl_always.calls (rd x8_1 (ji13)) true _ A35.out).mono ?_); rintro e w' ⟨rfl, ⟨nd, rfl⟩⟩) | ((with_reducible refine gate_dst (N := 54) rfl ?_); refine Kd.R_lit (Kd.int .i64) _ 3 ?hg (N := 54) ?hd (xs := ([(rd_T61 l0 (rd x8_1 (ji13))).f2, (rd_T61 l0 (rd x8_1 (ji13))).f3] : List Int)) (inner := [.int .i64 ((rd_T61 l0 (rd x8_1 (ji13))).f2), .int .i64 ((rd_T61 l0 (rd x8_1 (ji13))).f3)]) (ok := fun _ => True) (okp := fun _ => True) ?hr ?hp (fun _ hk => hk) trivial (Below.refl _ _) (Nat.le_refl _) (by simp) ?_; (case hd => rfl); (case hg => rfl); (case hr => go_simp); (case hp => exact (Reps.one (show Kd.M (Kd.int .i64) _ _ _ ((rd_T61 l0 (rd x8_1 (ji13))).f2) [.int .i64 ((rd_T61 l0 (rd x8_1 (ji13))).f2)] from rfl) (Reps.one (show Kd.M (Kd.int .i64) _ _ _ ((rd_T61 l0 (rd x8_1 (ji13))).f3) [.int .i64 ((rd_T61 l0 (rd x8_1 (ji13))).f3)] from rfl) (Reps.none _ _)))); intro v117 w45 ho46 hb hg_ hnew_; clear hg_ hnew_; (first | rw [← Ny116.out] at ho46 | (simp only [Int.reduceToNat] at ho46; rw [← Ny116.out] at ho46)); have n_ := aJ (aK (Kd.R_below (by (with_reducible repeat (first | apply rA | apply rN | apply rD)); exact (Kd.R_mono (Kd.R_far (p := ⟨gb114, 3, none⟩) (Kd.R_far (p := ⟨gb114, 2, none⟩) (Kd.R_far (p := ⟨gb114, 1, none⟩) (Kd.R_far (p := ⟨gb114, 0, none⟩) (Kd.R_types HO_7.out BK114.out (by decide)) (fun _ hk => hk.2) (.bool false)) (fun _ hk => hk.2) (.int .i64 ((rd_T61 l0 (rd x8_1 (ji13))).f1))) (fun _ hk => hk.2) (.int .i64 ((rd_T61 l0 (rd x8_1 (ji13))).f2))) (fun _ hk => hk.2) (.int .i64 ((rd_T61 l0 (rd x8_1 (ji13))).f3))) (fun _ h_ => h_.1))) hb)) (aJ (aK (Kd.R_elder' (by (with_reducible repeat (first | apply rA | apply rN | apply rD)); exact (Kd.R_mono (Kd.R_far (p := ⟨gb114, 3, none⟩) (Kd.R_far (p := ⟨gb114, 2, none⟩) (Kd.R_far (p := ⟨gb114, 1, none⟩) (Kd.R_far (p := ⟨gb114, 0, none⟩) (Kd.R_types HO110.out BK114.out (by decide)) (fun _ hk => hk.2) (.bool false)) (fun _ hk => hk.2) (.int .i64 ((rd_T61 l0 (rd x8_1 (ji13))).f1))) (fun _ hk => hk.2) (.int .i64 ((rd_T61 l0 (rd x8_1 (ji13))).f2))) (fun _ hk => hk.2) (.int .i64 ((rd_T61 l0 (rd x8_1 (ji13))).f3))) (fun _ h_ => h_.1))) (Kd.R_base ho46) hb)) (aJ (aK (Kd.R_lower (Kd.R_new' ho46 (Kd.R_lt (by (with_reducible repeat (first | apply rA | apply rN | apply rD)); exact (Kd.R_mono (Kd.R_far (p := ⟨gb114, 3, none⟩) (Kd.R_far (p := ⟨gb114, 2, none⟩) (Kd.R_far (p := ⟨gb114, 1, none⟩) (Kd.R_far (p := ⟨gb114, 0, none⟩) (Kd.R_types HO110.out BK114.out (by decide)) (fun _ hk => hk.2) (.bool false)) (fun _ hk => hk.2) (.int .i64 ((rd_T61 l0 (rd x8_1 (ji13))).f1))) (fun _ hk => hk.2) (.int .i64 ((rd_T61 l0 (rd x8_1 (ji13))).f2))) (fun _ hk => hk.2) (.int .i64 ((rd_T61 l0 (rd x8_1 (ji13))).f3))) (fun _ h_ => h_.1))))) (below_size (pH HB)))) (aJ (aK (blk_below (g := gb114) (o := .cells #[.bool false, .int .i64 ((rd_T61 l0 (rd x8_1 (ji13))).f1), .int .i64 ((rd_T61 l0 (rd x8_1 (ji13))).f2), .int .i64 ((rd_T61 l0 (rd x8_1 (ji13))).f3)] 61 (0, 0)) (by (with_reducible repeat first | apply zN | apply zD | apply zA); refine blk_put (cs := #[.bool false, .int .i64 ((rd_T61 l0 (rd x8_1 (ji13))).f1), .int .i64 ((rd_T61 l0 (rd x8_1 (ji13))).f2), .int .i64 0]) ?_ 3 _ rfl; (with_reducible repeat first | apply zN | apply zD | apply zA); refine blk_put (cs := #[.bool false, .int .i64 ((rd_T61 l0 (rd x8_1 (ji13))).f1), .int .i64 0, .int .i64 0]) ?_ 2 _ rfl; (with_reducible repeat first | apply zN | apply zD | apply zA); refine blk_put (cs := #[.bool false, .int .i64 0, .int .i64 0, .int .i64 0]) ?_ 1 _ rfl; (with_reducible repeat first | apply zN | apply zD | apply zA); refine blk_put (cs := #[.bool false, .int .i64 0, .int .i64 0, .int .i64 0]) ?_ 0 _ rfl; (with_reducible repeat first | apply zN | apply zD | apply zA); exact BK114.out) hb)) (aK (below_step (pH HB) hb))))); clear HO_7 HO110 BK114 HB; obtain ⟨HO_7, HO110, HO118, BK114, HB⟩ := n_; clear hb ho46; obtain ⟨Ao48, co48, eo48⟩ := Kd.R_slice HO118.out; subst eo48) | ((with_reducible refine gate_builtin (b := .append) (xs := #[.tmp 49, .tmp 54]) rfl ?_); at_builtin; refine Kd.R_append_rows (Kd.int .i64) (w0 := w) w.heap.size rfl (.tmp 49) (.tmp 54) 23 3 (.int .i64 0) 8 rfl Tryd.underlying23 info3 rfl (by decide) (by omega) (.slice (some ad107) y108.length co38) y108 y116 _ _ _ (fun k_ => some k_ ≠ (.slice Ao48 y116.length co48 : Value).ownBlock) (fun _ => False) rfl rfl ?aO ?aR (fun _ _ h => h) (fun _ h => h.elim) ?aF ?aB ?aS ?aL ?_; (case aR => exact sC ((Kd.R_reads' HO118.out).2.2)); (case aB => exact (pH HB)); (case aF => exact (fun k_ hk => Kd.fresh' (Kd.R_lt HO118.out) k_ hk)); (case aO => exact (by (with_reducible repeat (first | apply rA | apply rN | apply rD)); exact Kd.R_mono HO110.out (fun _ hk => hk.2))); (case aS => exact (below_size (pH HB))); (case aL => have := LMc37.out; omega); intro v120 w47 ho hb hg hat; rw [← Ny119.out] at ho; have n0_ := aK (Kd.R_over' HO_7.out (Kd.R_typed HO110.out) (by decide) hg); have n1_ := aK (blk_grown BK114.out hg (Kd.R_ne HO110.out BK114.out (by decide))); have n2_ := aK (Kd.R_after (ok := (fun _ => True)) HO118.out hg hat); have n3_ := aK (hb); have HO121 := aK (ho); clear HO_7; have HO_7 := n0_; clear n0_; clear BK114; have BK114 := n1_; clear n1_; clear HO118; have HO118 := n2_; clear n2_; clear HB; have HB := n3_; clear n3_; clear HO110; clear ho hb hg hat))
                go_roundg k1
                case measure => have := HK1.out; omega
                case rel => exact ⟨(y112), (y119), H', ⟨by have := HK1.out; omega⟩, ⟨by (with_reducible repeat (first | apply rA | apply rN | apply rD)); exact HO_7.out⟩, ⟨by (with_reducible repeat (first | apply rA | apply rN | apply rD)); exact Kd.R_mono HO121.out (fun _ hk => trivial)⟩, ⟨pH HB⟩⟩
               ·rw [if_neg c37] at H
                exact absurd H (by simp)
              ·replace c36 := Bool.eq_false_iff.mpr c36
               subst c36
               rw [if_neg (show ¬ (false = true) by decide)] at H
               have H' := aK H
               clear H
               obtain ⟨Ao49, co49, eo49⟩ := Kd.R_slice HO_8.out
               subst eo49
               have p107 : 0 ≤ ((ji13) : Int) := dA
               have q107 : (ji13) < (x8_1.length : Int) := dA
               obtain ⟨ad107, e107, hx107_0⟩ := Kd.at_int (Kd.R_reads' HO_8.out).2.2 (ji13) p107 q107
               cases e107
               replace p107 := eq_true p107
               replace q107 := eq_true q107
               have q50 : ((ji13) : Int) ≤ ((x8_1.length : Int) : Int) := dA
               obtain ⟨i050, hi050, _, hsz50, _⟩ := info_parts info3
               have hcut50 := cut_to (P := Tryd.prog) 23 3 .i64 Tryd.underlying23 hi050 (some ad107) x8_1.length co49 (ji13) (dA) q50 (Kd.R_reads' HO_8.out).2.1
               have hr50 := Kd.R_take (m := ((ji13) : Int).toNat) HO_8.out (by omega)
               have hy50 : y108.length = ((ji13) : Int).toNat := (by rw [Ny108.out, List.length_take]; omega)
               rw [← Ny108.out] at hr50
               rw [← hy50] at hr50 hcut50
               clear hy50 hi050 hsz50 HO_8
               have HO110 := aK hr50
               clear hr50
               replace q50 := eq_true q50
               obtain ⟨Ao51, co51, eo51⟩ := Kd.R_slice HO_7.out
               subst eo51
               have p111 : 0 ≤ ((rd x8_1 (ji13)) : Int) := dA
               have q111 : (rd x8_1 (ji13)) < (x7_1.length : Int) := dA
               obtain ⟨ad111, e111, hx111_0⟩ := Kd.at_bool (Kd.R_reads' HO_7.out).2.2 (rd x8_1 (ji13)) p111 q111
               (try rw [← Nbq19.out] at hx111_0)
               (try rw [← Nbq26.out] at hx111_0)
               cases e111
               replace p111 := eq_true p111
               replace q111 := eq_true q111
               have p24 : 0 ≤ ((rd x8_1 (ji13)) : Int) := dA
               have q24 : ((rd x8_1 (ji13)) : Int) < ((x7_1.length : Int) : Int) := dA
               obtain ⟨go24, co24, eo24, gb24, gl24, cl24, HG24⟩ := Kd.R_form HO_7.out (by omega)
               (first | cases eo24 | (injection eo24 with ea_ en_ ec_; (first | subst ea_ | (injection ea_ with ea_; subst ea_)); subst ec_; clear en_))
               have GB24 := aK gb24
               have GG24 := aK HG24
               clear gb24 gl24 HG24
               (first | simp only [add_plain] at hx111_0 | skip)
               obtain ⟨hx24_0, hf24_0⟩ := Kd.R_celln false HO_7.out ((rd x8_1 (ji13)) : Int) p24 q24
               replace p24 := eq_true p24
               replace q24 := eq_true q24
               have HP52 := Kd.R_putg HO_7.out ((rd x8_1 (ji13)) : Int) true
               go_wp2_with (first | ((with_reducible refine gate_store (t := 4) (p := 36) rfl ?_); refine store_event (t := 4) (p := 36) (v := ?vo_w53) (w1 := (wr.setCell ⟨go24, ((rd x8_1 (ji13)) : Int).toNat, none⟩ (.bool true))) ?hg ?ho ?hn ?hr ?_; (case ho => rfl); (case hg => rfl); (case hn => rfl); (case hr => first | (go_simp; done) | (go_simp; rfl)); intro w53 hw; have hg : wr.grownBy w53 (some go24) := (by rw [hw]; exact HP52.2); have hp_ : Kd.R Kd.bool 4 w53 w.heap.size (fun _ => True) (.slice (some ⟨go24, 0, none⟩) x7_1.length co51) y112 := (by rw [hw, Ny112.out]; exact HP52.1); clear HP52; have n0_ := aK (hp_); have n1_ := aK (Kd.R_over' (v := (.slice (some ⟨go24, 0, none⟩) x7_1.length co51)) HO110.out (Kd.R_typed HO_7.out) (by decide) hg); have n2_ := aK ((by rw [hw]; exact below_set (HB.out) GB24.out : Below w.heap.size w w53)); clear HO_7; have HO_7 := n0_; clear n0_; clear HO110; have HO110 := n1_; clear n1_; clear HB; have HB := n2_; clear n2_; clear hg hw hp_; have p113 : 0 ≤ ((rd x8_1 (ji13)) : Int) := dA; have q113 : (rd x8_1 (ji13)) < (l0.length : Int) := dA; obtain ⟨ad113, e113, hx113_0, hx113_1, hx113_2, hx113_3⟩ := at_T61 HR0.out (rd x8_1 (ji13)) p113 q113; (try rw [← Nbq19.out] at hx113_0); (try rw [← Nbq26.out] at hx113_0); cases e113; replace hx113_0 := uC HB hx113_0; replace hx113_1 := uC HB hx113_1; replace hx113_2 := uC HB hx113_2; replace hx113_3 := uC HB hx113_3; replace p113 := eq_true p113; replace q113 := eq_true q113) | ((with_reducible refine gate_dst (N := 10) rfl ?_); refine bE (N := 10) (cs := #[.bool false, .int .i64 0, .int .i64 0, .int .i64 0]) (t := 61) ?_; intro gb114 hg w54 hbox hb; have n0_ := aK (Kd.R_below HO_7.out hb); have n1_ := aK (Kd.R_below HO110.out hb); have GW114 := qw HB hg; have GE114 := qw HB hg; have BK114 := aK hbox; clear HO_7; have HO_7 := n0_; clear n0_; clear HO110; have HO110 := n1_; clear n1_; replace HB := qs HB hb; clear hb hbox hg; have hcz55_0 := kq40 BK114; have hcz55_1 := kq41 BK114; have hcz55_2 := kq42 BK114; have hcz55_3 := kq43 BK114; have hfz55_0 := fz BK114 0; have hfz55_1 := fz BK114 1; have hfz55_2 := fz BK114 2; have hfz55_3 := fz BK114 3) | (go_at_call 33; (with_reducible refine (impl_always.calls (rd x8_1 (ji13)) false _ A35.out).mono ?_); rintro e w' ⟨rfl, ⟨nd, rfl⟩⟩))
               go_roundg k1
               case measure => have := HK1.out; omega
               case rel => exact ⟨(y112), (y108), H', ⟨by have := HK1.out; omega⟩, ⟨by (with_reducible repeat (first | apply rA | apply rN | apply rD)); exact Kd.R_mono (Kd.R_far (p := ⟨gb114, 3, none⟩) (Kd.R_far (p := ⟨gb114, 2, none⟩) (Kd.R_far (p := ⟨gb114, 1, none⟩) (Kd.R_far (p := ⟨gb114, 0, none⟩) (Kd.R_types HO_7.out BK114.out (by decide)) (fun _ hk => hk.2) (.bool false)) (fun _ hk => hk.2) (.int .i64 ((rd_T61 l0 (rd x8_1 (ji13))).f1))) (fun _ hk => hk.2) (.int .i64 ((rd_T61 l0 (rd x8_1 (ji13))).f2))) (fun _ hk => hk.2) (.int .i64 ((rd_T61 l0 (rd x8_1 (ji13))).f3))) (fun _ hk => trivial)⟩, ⟨by (with_reducible repeat (first | apply rA | apply rN | apply rD)); exact Kd.R_mono (Kd.R_far (p := ⟨gb114, 3, none⟩) (Kd.R_far (p := ⟨gb114, 2, none⟩) (Kd.R_far (p := ⟨gb114, 1, none⟩) (Kd.R_far (p := ⟨gb114, 0, none⟩) (Kd.R_types HO110.out BK114.out (by decide)) (fun _ hk => hk.2) (.bool false)) (fun _ hk => hk.2) (.int .i64 ((rd_T61 l0 (rd x8_1 (ji13))).f1))) (fun _ hk => hk.2) (.int .i64 ((rd_T61 l0 (rd x8_1 (ji13))).f2))) (fun _ hk => hk.2) (.int .i64 ((rd_T61 l0 (rd x8_1 (ji13))).f3))) (fun _ hk => trivial)⟩, ⟨pH HB⟩⟩
            ·rw [if_neg c25] at H
             exact absurd H (by simp)
          ·rw [if_neg c18] at H
           exact absurd H (by simp)
         ·rw [if_neg c17] at H
          exact absurd H (by simp)
        ·rw [if_neg c16] at H
         exact absurd H (by simp)
       ·rw [if_neg c15] at H
        exact absurd H (by simp)
      ·rw [if_neg c14] at H
       exact absurd H (by simp)
     ·rw [if_neg c12] at H
      have c12b0 : decide (0 < (x8_1.length : Int)) = false := decide_eq_false c12
      have c12b1 : decide (0 < x8_1.length) = false := decide_eq_false (by omega)
      clear c12
      obtain rfl := Option.some.inj H
      obtain ⟨Ao56, co56, eo56⟩ := Kd.R_slice HO_8.out
      subst eo56
      go_wp2
      go_ret
      exact ⟨_, eW, by (with_reducible repeat (first | apply rA | apply rN | apply rD)); exact HO_7.out, pH HB⟩
  ·rw [if_neg c5] at H
   exact absurd H (by simp)
 ·rw [if_neg c4] at H
  exact absurd H (by simp)


mutual
def spec_l7Keep.l0 : Nat → List Bool → List Int → Int → Int → Int → List (S61) → List Int → Option (List Bool)
 | 0, _, _, _, _, _, _, _ => none
 | k + 1, x1, x10, x11, x12, x102000, x102001, x102002 => if x12 < x11 then (if 0 ≤ x12 then (if x12 < (x10.length : Int) then (if 0 ≤ (rd x10 x12) then (if (rd x10 x12) < (x1.length : Int) then (spec_l7Keep.l0 k (x1.set ((rd x10 x12) : Int).toNat true) x10 x11 (wrap64 (x12 + 1)) x102000 x102001 x102002) else (none)) else (none)) else (none)) else (none)) else (spec_l7Keep.l1 k x1 (wrap64 ((x102001.length : Int) - 1)) x102000 x102001 x102002)
def spec_l7Keep.l1 : Nat → List Bool → Int → Int → List (S61) → List Int → Option (List Bool)
 | 0, _, _, _, _, _ => none
 | k + 1, x1, x7, x102000, x102001, x102002 => if x7 ≥ 0 then (if 0 ≤ x7 then (if x7 < (x102001.length : Int) then (if x7 < (x1.length : Int) then (if rdOf false x1 x7 = true then (if (rd_T61 x102001 x7).f0 = true then (spec_l7Keep.l1 k x1 (wrap64 (x7 - 1)) x102000 x102001 x102002) else (if 0 ≤ ((rd_T61 x102001 x7).f2) then (if ((rd_T61 x102001 x7).f2) < (x1.length : Int) then (if 0 ≤ ((rd_T61 x102001 x7).f3) then (if ((rd_T61 x102001 x7).f3) < (x1.length : Int) then (spec_l7Keep.l1 k ((x1.set (((rd_T61 x102001 x7).f2) : Int).toNat true).set (((rd_T61 x102001 x7).f3) : Int).toNat true) (wrap64 (x7 - 1)) x102000 x102001 x102002) else (none)) else (none)) else (none)) else (none))) else (spec_l7Keep.l1 k x1 (wrap64 (x7 - 1)) x102000 x102001 x102002)) else (none)) else (none)) else (none)) else (some x1)
end
def spec_l7Keep.f (k : Nat) (a0_0 : Int) (l0_1 : List (S61)) (l0_2 : List Int) (l1 : List Bool) : Option (List Bool) := spec_l7Keep.l0 k l1 l0_2 (l0_2.length : Int) 0 a0_0 l0_1 l0_2
theorem spec_l7Keep.mono_l : ∀ k, (∀ y0 y1 y2 y3 y4 y5 y6, LeO (spec_l7Keep.l0 k y0 y1 y2 y3 y4 y5 y6) (spec_l7Keep.l0 (k + 1) y0 y1 y2 y3 y4 y5 y6)) ∧ (∀ y0 y1 y2 y3 y4, LeO (spec_l7Keep.l1 k y0 y1 y2 y3 y4) (spec_l7Keep.l1 (k + 1) y0 y1 y2 y3 y4))
 | 0 => ⟨fun _ _ _ _ _ _ _ r h => by simp [spec_l7Keep.l0] at h, fun _ _ _ _ _ r h => by simp [spec_l7Keep.l1] at h⟩
 | k + 1 => by
  obtain ⟨ih0, ih1⟩ := spec_l7Keep.mono_l k
  refine ⟨?_, ?_⟩
  ·intro y0 y1 y2 y3 y4 y5 y6
   unfold spec_l7Keep.l0
   repeat' first
   | (with_reducible exact ih0 _ _ _ _ _ _ _)
   | (with_reducible exact ih1 _ _ _ _ _)
   | (with_reducible exact LeO.refl _)
   | (with_reducible exact LeO.none _)
   | (with_reducible refine LeO.ite ?_ ?_)
   | (with_reducible refine LeO.bind ?_ (fun _ => ?_))
   | exact ih0 _ _ _ _ _ _ _
   | exact ih1 _ _ _ _ _
   | exact LeO.none _
   | refine LeO.ite ?_ ?_
   | refine LeO.bind ?_ (fun _ => ?_)
  ·intro y0 y1 y2 y3 y4
   unfold spec_l7Keep.l1
   repeat' first
   | (with_reducible exact ih0 _ _ _ _ _ _ _)
   | (with_reducible exact ih1 _ _ _ _ _)
   | (with_reducible exact LeO.refl _)
   | (with_reducible exact LeO.none _)
   | (with_reducible refine LeO.ite ?_ ?_)
   | (with_reducible refine LeO.bind ?_ (fun _ => ?_))
   | exact ih0 _ _ _ _ _ _ _
   | exact ih1 _ _ _ _ _
   | exact LeO.none _
   | refine LeO.ite ?_ ?_
   | refine LeO.bind ?_ (fun _ => ?_)
theorem spec_l7Keep.mono : ∀ a0 a1 a2 a3 k, LeO (spec_l7Keep.f k a0 a1 a2 a3) (spec_l7Keep.f (k + 1) a0 a1 a2 a3) := by
 intro a0 a1 a2 a3 k
 obtain ⟨ih0, ih1⟩ := spec_l7Keep.mono_l k
 unfold spec_l7Keep.f
 repeat' first
   | (with_reducible exact ih0 _ _ _ _ _ _ _)
   | (with_reducible exact ih1 _ _ _ _ _)
   | (with_reducible exact LeO.refl _)
   | (with_reducible exact LeO.none _)
   | (with_reducible refine LeO.ite ?_ ?_)
   | (with_reducible refine LeO.bind ?_ (fun _ => ?_))
   | exact ih0 _ _ _ _ _ _ _
   | exact ih1 _ _ _ _ _
   | exact LeO.none _
   | refine LeO.ite ?_ ?_
   | refine LeO.bind ?_ (fun _ => ?_)
set_option maxHeartbeats 8000000 in
set_option maxRecDepth 100000 in
theorem spec_l7Keep.calls (k : Nat) (a0_0 : Int) (A0_1 : Option Addr) (c0_1 : Nat) (l0_1 : List (S61)) (A0_2 : Option Addr) (c0_2 : Nat) (l0_2 : List Int) (P1_ : Nat → Prop) (u9000_ : Value) (l1 : List Bool) (r : List Bool) (w0 w : World) (hB : Below w0.heap.size w0 w) (hr0_1 : ∀ W_, Kept w W_ (fun k_ => P1_ k_) → Kd.C k61 W_ A0_1 l0_1.length l0_1) (hc0_1 : l0_1.length ≤ c0_1) (hr0_2 : ∀ W_, Kept w W_ (fun k_ => P1_ k_) → Kd.C (Kd.int .i64) W_ A0_2 l0_2.length l0_2) (hc0_2 : l0_2.length ≤ c0_2) (ho1 : Kd.R Kd.bool 4 w w0.heap.size P1_ u9000_ l1) (h : spec_l7Keep.f k a0_0 l0_1 l0_2 l1 = some r) :
  Calls Tryd.prog 46 #[.agg #[.int .i64 a0_0, .slice A0_1 l0_1.length c0_1, .slice A0_2 l0_2.length c0_2], u9000_] w fun e w' => ∃ v0_ : Value, e = .returned (v0_) ∧ Kd.R Kd.bool 4 w' w0.heap.size (fun k_ => (P1_ k_ ∨ w.heap.size ≤ k_)) v0_ r ∧ Below w0.heap.size w0 w' ∧ Kept w w' (fun k_ => P1_ k_) := by
 have hu31 := Tryd.underlying31
 have hu61 := Tryd.underlying61
 have HR0_1 := aK hr0_1
 have HC0_1 := aK hc0_1
 clear hr0_1 hc0_1
 have HR0_2 := aK hr0_2
 have HC0_2 := aK hc0_2
 clear hr0_2 hc0_2
 have HO1 := aK (show Kd.R Kd.bool 4 w w0.heap.size (fun k_ => (P1_ k_ ∨ w.heap.size ≤ k_)) u9000_ l1 from Kd.R_mono ho1 (fun k_ hk => (.inl hk)))
 have HK := aK (Kept.refl w (fun k_ => P1_ k_))
 have HW0 := aK hB.size
 have HB := aK hB
 clear hB
 have H : (spec_l7Keep.l0 k l1 l0_2 (l0_2.length : Int) 0 a0_0 l0_1 l0_2) = some r := h
 clear h
 have H' := aK H
 clear H
 go_enter Tryd.func46, Tryd.ntmps46
 go_wp2_with (first | ((with_reducible refine gate_dst (N := 2) rfl ?_); refine bE (N := 2) (cs := #[.int .i64 a0_0, .slice A0_1 l0_1.length c0_1, .slice A0_2 l0_2.length c0_2]) (t := 31) ?_; intro gb101 hg w3 hbox hb; have n0_ := aK (Kd.R_below HO1.out hb); have n1_ := aK (Kept.below (S := (fun k_ => P1_ k_)) (by repeat (first | (with_reducible first | exact HK.out | apply Kept.alloc | apply Kept.drewN | apply Kept.drew) | exact HK.out)) hb); have GW101 := aK ((by rw [hg]; exact (by first | exact HK.out.1 | exact (show Kept w _ (fun k_ => P1_ k_) from by repeat (first | (with_reducible first | exact HK.out | apply Kept.alloc | apply Kept.drewN | apply Kept.drew) | exact HK.out)).1) : w.heap.size ≤ gb101)); have GE101 := aK ((by rw [hg]; exact (below_size HB.out) : w0.heap.size ≤ gb101)); have BK101 := aK hbox; clear HO1; have HO1 := n0_; clear n0_; clear HK; have HK := n1_; clear n1_; replace HB := qs HB hb; clear hb hbox hg; obtain ⟨hcz4_0, hcz4_1, hcz4_2, hfz4_0, hfz4_1, hfz4_2⟩ := cA3 BK101))
 go_loopg [12] k (fun kq v12 w' => ∃ (x1_1 : List Bool) (x12_1 : Int), v12 = .int .i64 x12_1 ∧ Aside0 (spec_l7Keep.l0 kq x1_1 l0_2 (l0_2.length : Int) x12_1 a0_0 l0_1 l0_2 = some r) ∧ Aside0 (kq ≤ k) ∧ Aside0 (Kd.R Kd.bool 4 w' w0.heap.size (fun k_ => (P1_ k_ ∨ w.heap.size ≤ k_)) u9000_ x1_1) ∧ Aside0 (w'.heap[gb101]? = some (.cells #[.int .i64 a0_0, (.slice A0_1 l0_1.length c0_1), (.slice A0_2 l0_2.length c0_2)] 31 (0, 0))) ∧ Aside0 (Kept w w' (fun k_ => P1_ k_)) ∧ Aside0 (Below w0.heap.size w0 w'))
 case atStart => exact ⟨(l1), (0), rS, H', ⟨Nat.le_refl _⟩, ⟨by (with_reducible repeat (first | apply rA | apply rN | apply rD)); exact HO1.out⟩, ⟨pB BK101⟩, ⟨by repeat (first | (with_reducible first | exact HK.out | apply Kept.alloc | apply Kept.drewN | apply Kept.drew | refine Kept.setCell ?_ (.inr GW101.out) _) | exact HK.out)⟩, ⟨pH HB⟩⟩
 case round =>
  clear H'
  try clear p2; try clear c4; try clear hcz4_0 hcz4_1 hcz4_2 hfz4_0 hfz4_1 hfz4_2
  obtain ⟨x1_1, x12_1, rfl, HA, HK1, HO_1, BK101, HK, HB⟩ := hrel
  cases gk with
  | zero => exact absurd HA.out (by simp [spec_l7Keep.l0])
  | succ k1 =>
   have H := HA.out
   clear HA
   simp only [spec_l7Keep.l0] at H
   by_cases c5 : x12_1 < (l0_2.length : Int)
   ·rw [if_pos c5] at H
    have c5b0 : decide (x12_1 < (l0_2.length : Int)) = true := decide_eq_true c5
    clear c5
    by_cases c6 : 0 ≤ x12_1
    ·rw [if_pos c6] at H
     have c6b0 : decide (0 ≤ x12_1) = true := decide_eq_true c6
     clear c6
     by_cases c7 : x12_1 < (l0_2.length : Int)
     ·rw [if_pos c7] at H
      have c7b0 : decide (x12_1 < (l0_2.length : Int)) = true := decide_eq_true c7
      clear c7
      by_cases c8 : 0 ≤ (rd l0_2 x12_1)
      ·rw [if_pos c8] at H
       have c8b0 : decide (0 ≤ (rd l0_2 x12_1)) = true := decide_eq_true c8
       clear c8
       by_cases c9 : (rd l0_2 x12_1) < (x1_1.length : Int)
       ·rw [if_pos c9] at H
        have c9b0 : decide ((rd l0_2 x12_1) < (x1_1.length : Int)) = true := decide_eq_true c9
        clear c9
        obtain ⟨y103, hy103⟩ : ∃ y_ : List Bool, y_ = (x1_1.set ((rd l0_2 x12_1) : Int).toNat true) := ⟨_, rfl⟩
        replace H : (spec_l7Keep.l0 k1 y103 l0_2 (l0_2.length : Int) (wrap64 (x12_1 + 1)) a0_0 l0_1 l0_2) = some r := by first | (rw [hy103]; with_reducible exact H) | (have H2_ := (Option.bind_some _ _).symm.trans H; rw [hy103]; with_reducible exact H2_) | (have H2_ := (Option.bind_some _ _).symm.trans H; with_reducible exact H2_) | with_reducible exact H | (rw [hy103]; exact H) | exact H
        have Ny103 := aK hy103
        clear hy103
        have H' := aK H
        clear H
        have p102 : 0 ≤ (x12_1 : Int) := dA
        have q102 : x12_1 < (l0_2.length : Int) := dA
        obtain ⟨ad102, e102, hx102_0⟩ := Kd.at_int (Kd.C_kept_now HR0_2.out HK.out) x12_1 p102 q102
        cases e102
        replace p102 := eq_true p102
        replace q102 := eq_true q102
        have p10 : 0 ≤ ((rd l0_2 x12_1) : Int) := dA
        have q10 : ((rd l0_2 x12_1) : Int) < ((x1_1.length : Int) : Int) := dA
        obtain ⟨go10, co10, eo10, gb10, gl10, cl10, HG10⟩ := Kd.R_form HO_1.out (by omega)
        (first | cases eo10 | (injection eo10 with ea_ en_ ec_; (first | subst ea_ | (injection ea_ with ea_; subst ea_)); subst ec_; clear en_))
        have GB10 := aK gb10
        have GG10 := aK HG10
        clear gb10 gl10 HG10
        have HMgo10 := aK (show (P1_ go10 ∨ w.heap.size ≤ go10) from (HO_1.out.1 _ rfl))
        obtain ⟨hx10_0, hf10_0⟩ := Kd.R_celln false HO_1.out ((rd l0_2 x12_1) : Int) p10 q10
        replace p10 := eq_true p10
        replace q10 := eq_true q10
        have HP11 := Kd.R_putg HO_1.out ((rd l0_2 x12_1) : Int) true
        go_wp2_with (first | ((with_reducible refine gate_store (t := 4) (p := 18) rfl ?_); refine store_event (t := 4) (p := 18) (v := ?vo_w12) (w1 := (wr.setCell ⟨go10, ((rd l0_2 x12_1) : Int).toNat, none⟩ (.bool true))) ?hg ?ho ?hn ?hr ?_; (case ho => rfl); (case hg => rfl); (case hn => rfl); (case hr => first | (go_simp; done) | (go_simp; rfl)); intro w12 hw; have hg : wr.grownBy w12 (some go10) := (by rw [hw]; exact HP11.2); have hp_ : Kd.R Kd.bool 4 w12 w0.heap.size (fun k_ => (P1_ k_ ∨ w.heap.size ≤ k_)) (.slice (some ⟨go10, 0, none⟩) x1_1.length co10) y103 := (by rw [hw, Ny103.out]; exact HP11.1); clear HP11; have n0_ := aK (hp_); have n1_ := aK (blk_grown BK101.out hg (Kd.R_ne HO_1.out BK101.out (by decide))); have n2_ := aK ((by rw [hw]; exact below_set (HB.out) GB10.out : Below w0.heap.size w0 w12)); have n3_ := aK (Kept.of_grown (S := (fun k_ => P1_ k_)) hg (by repeat (first | (with_reducible first | exact HK.out | apply Kept.alloc | apply Kept.drewN | apply Kept.drew | refine Kept.setCell ?_ (.inr GW101.out) _) | exact HK.out)) (fun k_ e_ => (HO_1.out.1 k_ e_))); clear HO_1; have HO_1 := n0_; clear n0_; clear BK101; have BK101 := n1_; clear n1_; clear HB; have HB := n2_; clear n2_; clear HK; have HK := n3_; clear n3_; clear hg hw hp_))
        go_roundg k1
        case measure => have := HK1.out; omega
        case rel => exact ⟨(y103), (wrap64 (x12_1 + 1)), rS, H', ⟨by have := HK1.out; omega⟩, ⟨by (with_reducible repeat (first | apply rA | apply rN | apply rD)); exact HO_1.out⟩, ⟨pB BK101⟩, ⟨by repeat (first | (with_reducible first | exact HK.out | apply Kept.alloc | apply Kept.drewN | apply Kept.drew | refine Kept.setCell ?_ (.inr GW101.out) _) | exact HK.out)⟩, ⟨pH HB⟩⟩
       ·rw [if_neg c9] at H
        exact absurd H (by simp)
      ·rw [if_neg c8] at H
       exact absurd H (by simp)
     ·rw [if_neg c7] at H
      exact absurd H (by simp)
    ·rw [if_neg c6] at H
     exact absurd H (by simp)
   ·rw [if_neg c5] at H
    have c5b0 : decide (x12_1 < (l0_2.length : Int)) = false := decide_eq_false c5
    clear c5
    have H' := aK H
    clear H
    obtain ⟨hcz13_0, hcz13_1, hcz13_2, hfz13_0, hfz13_1, hfz13_2⟩ := cA3 BK101
    go_wp2
    go_loopg [7] k1 (fun kq v7 w' => ∃ (x1_2 : List Bool) (x7_2 : Int), v7 = .int .i64 x7_2 ∧ Aside0 (spec_l7Keep.l1 kq x1_2 x7_2 a0_0 l0_1 l0_2 = some r) ∧ Aside0 (kq ≤ k1) ∧ Aside0 (Kd.R Kd.bool 4 w' w0.heap.size (fun k_ => (P1_ k_ ∨ w.heap.size ≤ k_)) u9000_ x1_2) ∧ Aside0 (w'.heap[gb101]? = some (.cells #[.int .i64 a0_0, (.slice A0_1 l0_1.length c0_1), (.slice A0_2 l0_2.length c0_2)] 31 (0, 0))) ∧ Aside0 (Kept w w' (fun k_ => P1_ k_)) ∧ Aside0 (Below w0.heap.size w0 w'))
    case atStart => exact ⟨(x1_1), (wrap64 ((l0_1.length : Int) - 1)), rS, H', ⟨Nat.le_refl _⟩, ⟨by (with_reducible repeat (first | apply rA | apply rN | apply rD)); exact HO_1.out⟩, ⟨pB BK101⟩, ⟨by repeat (first | (with_reducible first | exact HK.out | apply Kept.alloc | apply Kept.drewN | apply Kept.drew | refine Kept.setCell ?_ (.inr GW101.out) _) | exact HK.out)⟩, ⟨pH HB⟩⟩
    case round =>
     clear H'
     try clear p1; try clear q1; try clear hx1; try clear p2; try clear c4; try clear c5; try clear c5b0; try clear c6; try clear c6b0; try clear p6; try clear c7; try clear c7b0; try clear c8; try clear c8b0; try clear c9; try clear c9b0; try clear p10; try clear q10; try clear hx10; try clear hf10; try clear hx102_0; try clear hx10_0; try clear p10; try clear p102; try clear p2; try clear q10; try clear q102; try clear hcz13_0 hcz13_1 hcz13_2 hfz13_0 hfz13_1 hfz13_2; try clear hcz4_0 hcz4_1 hcz4_2 hfz4_0 hfz4_1 hfz4_2
     obtain ⟨x1_2, x7_2, rfl, HA, HK2, HO_1, BK101, HK, HB⟩ := hrel
     cases gk with
     | zero => exact absurd HA.out (by simp [spec_l7Keep.l1])
     | succ k2 =>
      have H := HA.out
      clear HA
      simp only [spec_l7Keep.l1] at H
      by_cases c14 : x7_2 ≥ 0
      ·rw [if_pos c14] at H
       have c14b0 : decide (0 ≤ x7_2) = true := decide_eq_true c14
       clear c14
       by_cases c15 : 0 ≤ x7_2
       ·rw [if_pos c15] at H
        have c15b0 : decide (0 ≤ x7_2) = true := decide_eq_true c15
        clear c15
        by_cases c16 : x7_2 < (l0_1.length : Int)
        ·rw [if_pos c16] at H
         have c16b0 : decide (x7_2 < (l0_1.length : Int)) = true := decide_eq_true c16
         clear c16
         by_cases c17 : x7_2 < (x1_2.length : Int)
         ·rw [if_pos c17] at H
          have c17b0 : decide (x7_2 < (x1_2.length : Int)) = true := decide_eq_true c17
          clear c17
          obtain ⟨bq18, hbq18⟩ : ∃ b_ : Bool, b_ = (rdOf false x1_2 x7_2) := ⟨_, rfl⟩
          replace H : (if bq18 = true then (if (rd_T61 l0_1 x7_2).f0 = true then (spec_l7Keep.l1 k2 x1_2 (wrap64 (x7_2 - 1)) a0_0 l0_1 l0_2) else (if 0 ≤ ((rd_T61 l0_1 x7_2).f2) then (if ((rd_T61 l0_1 x7_2).f2) < (x1_2.length : Int) then (if 0 ≤ ((rd_T61 l0_1 x7_2).f3) then (if ((rd_T61 l0_1 x7_2).f3) < (x1_2.length : Int) then (spec_l7Keep.l1 k2 ((x1_2.set (((rd_T61 l0_1 x7_2).f2) : Int).toNat true).set (((rd_T61 l0_1 x7_2).f3) : Int).toNat true) (wrap64 (x7_2 - 1)) a0_0 l0_1 l0_2) else (none)) else (none)) else (none)) else (none))) else (spec_l7Keep.l1 k2 x1_2 (wrap64 (x7_2 - 1)) a0_0 l0_1 l0_2)) = some r := by rw [← hbq18] at H; exact H
          have Nbq18 := aK hbq18
          clear hbq18
          by_cases c19 : bq18 = true
          ·subst c19
           rw [if_pos rfl] at H
           obtain ⟨bq20, hbq20⟩ : ∃ b_ : Bool, b_ = ((rd_T61 l0_1 x7_2).f0) := ⟨_, rfl⟩
           replace H : (if bq20 = true then (spec_l7Keep.l1 k2 x1_2 (wrap64 (x7_2 - 1)) a0_0 l0_1 l0_2) else (if 0 ≤ ((rd_T61 l0_1 x7_2).f2) then (if ((rd_T61 l0_1 x7_2).f2) < (x1_2.length : Int) then (if 0 ≤ ((rd_T61 l0_1 x7_2).f3) then (if ((rd_T61 l0_1 x7_2).f3) < (x1_2.length : Int) then (spec_l7Keep.l1 k2 ((x1_2.set (((rd_T61 l0_1 x7_2).f2) : Int).toNat true).set (((rd_T61 l0_1 x7_2).f3) : Int).toNat true) (wrap64 (x7_2 - 1)) a0_0 l0_1 l0_2) else (none)) else (none)) else (none)) else (none))) = some r := by rw [← hbq20] at H; exact H
           have Nbq20 := aK hbq20
           clear hbq20
           by_cases c21 : bq20 = true
           ·subst c21
            rw [if_pos rfl] at H
            have H' := aK H
            clear H
            obtain ⟨hcz22_0, hcz22_1, hcz22_2, hfz22_0, hfz22_1, hfz22_2⟩ := cA3 BK101
            have p104 : 0 ≤ (x7_2 : Int) := dA
            have q104 : x7_2 < (l0_1.length : Int) := dA
            obtain ⟨ad104, e104, hx104_0, hx104_1, hx104_2, hx104_3⟩ := at_T61 (Kd.C_kept_now HR0_1.out HK.out) x7_2 p104 q104
            (try rw [← Nbq18.out] at hx104_0)
            (try rw [← Nbq20.out] at hx104_0)
            cases e104
            replace p104 := eq_true p104
            replace q104 := eq_true q104
            go_wp2_with (first | ((with_reducible refine gate_dst (N := 8) rfl ?_); refine bE (N := 8) (cs := #[.bool false, .int .i64 0, .int .i64 0, .int .i64 0]) (t := 61) ?_; intro gb105 hg w23 hbox hb; have n0_ := aK (Kd.R_below HO_1.out hb); have n2_ := aK (Kept.below (S := (fun k_ => P1_ k_)) (by repeat (first | (with_reducible first | exact HK.out | apply Kept.alloc | apply Kept.drewN | apply Kept.drew | refine Kept.setCell ?_ (.inr GW101.out) _) | exact HK.out)) hb); have GW105 := aK ((by rw [hg]; exact (by first | exact HK.out.1 | exact (show Kept w _ (fun k_ => P1_ k_) from by repeat (first | (with_reducible first | exact HK.out | apply Kept.alloc | apply Kept.drewN | apply Kept.drew | refine Kept.setCell ?_ (.inr GW101.out) _) | exact HK.out)).1) : w.heap.size ≤ gb105)); have GE105 := aK ((by rw [hg]; exact (below_size HB.out) : w0.heap.size ≤ gb105)); have NB101_105 := ql BK101 hg; have NB105_101 := qg BK101 hg; replace BK101 := qb BK101 hb; have BK105 := aK hbox; clear HO_1; have HO_1 := n0_; clear n0_; clear HK; have HK := n2_; clear n2_; replace HB := qs HB hb; clear hb hbox hg; have hnb24 := NB105_101.out; have hnc24 := NB101_105.out; have hcz25_0 := kq40 BK105; have hcz25_1 := kq41 BK105; have hcz25_2 := kq42 BK105; have hcz25_3 := kq43 BK105; have hfz25_0 := fz BK105 0; have hfz25_1 := fz BK105 1; have hfz25_2 := fz BK105 2; have hfz25_3 := fz BK105 3; obtain ⟨Ao26, co26, eo26⟩ := Kd.R_slice HO_1.out; subst eo26; have p106 : 0 ≤ (x7_2 : Int) := dA; have q106 : x7_2 < (x1_2.length : Int) := dA; obtain ⟨ad106, e106, hx106_0⟩ := Kd.at_bool (Kd.R_reads' HO_1.out).2.2 x7_2 p106 q106; (try rw [← Nbq18.out] at hx106_0); (try rw [← Nbq20.out] at hx106_0); cases e106; have hn106_0 : ad106.block ≠ gb105 := Kd.own_blk (Kd.R_ne HO_1.out BK105.out (by decide)); have hn106_1 : ad106.block ≠ gb105 := Kd.own_blk (Kd.R_ne HO_1.out BK105.out (by decide)); have hn106_2 : ad106.block ≠ gb105 := Kd.own_blk (Kd.R_ne HO_1.out BK105.out (by decide)); have hn106_3 : ad106.block ≠ gb105 := Kd.own_blk (Kd.R_ne HO_1.out BK105.out (by decide)); replace hx106_0 := (cell_far (p := ⟨gb105, 0, none⟩) (cB hn106_0) (.bool true)).trans hx106_0; replace hx106_0 := (cell_far (p := ⟨gb105, 1, none⟩) (cB hn106_1) (.int .i64 ((rd_T61 l0_1 x7_2).f1))).trans hx106_0; replace hx106_0 := (cell_far (p := ⟨gb105, 2, none⟩) (cB hn106_2) (.int .i64 ((rd_T61 l0_1 x7_2).f2))).trans hx106_0; replace hx106_0 := (cell_far (p := ⟨gb105, 3, none⟩) (cB hn106_3) (.int .i64 ((rd_T61 l0_1 x7_2).f3))).trans hx106_0; clear hn106_0; clear hn106_1; clear hn106_2; clear hn106_3; replace p106 := eq_true p106; replace q106 := eq_true q106))
            go_roundg k2
            case measure => have := HK1.out; have := HK2.out; omega
            case rel => exact ⟨(x1_2), (wrap64 (x7_2 - 1)), rS, H', ⟨by have := HK1.out; have := HK2.out; omega⟩, ⟨by (with_reducible repeat (first | apply rA | apply rN | apply rD)); exact Kd.R_mono (Kd.R_far (p := ⟨gb105, 3, none⟩) (Kd.R_far (p := ⟨gb105, 2, none⟩) (Kd.R_far (p := ⟨gb105, 1, none⟩) (Kd.R_far (p := ⟨gb105, 0, none⟩) (Kd.R_types HO_1.out BK105.out (by decide)) (fun _ hk => hk.2) (.bool true)) (fun _ hk => hk.2) (.int .i64 ((rd_T61 l0_1 x7_2).f1))) (fun _ hk => hk.2) (.int .i64 ((rd_T61 l0_1 x7_2).f2))) (fun _ hk => hk.2) (.int .i64 ((rd_T61 l0_1 x7_2).f3))) (fun _ hk => hk.1)⟩, ⟨by (repeat first | with_reducible apply zN | with_reducible apply zD | with_reducible apply zA | refine blk_far ?_ NB101_105.out _); exact BK101.out⟩, ⟨by repeat (first | (with_reducible first | exact HK.out | apply Kept.alloc | apply Kept.drewN | apply Kept.drew | refine Kept.setCell ?_ (.inr GW101.out) _ | refine Kept.setCell ?_ (.inr GW105.out) _) | exact HK.out)⟩, ⟨pH HB⟩⟩
           ·replace c21 := Bool.eq_false_iff.mpr c21
            subst c21
            rw [if_neg (show ¬ (false = true) by decide)] at H
            by_cases c27 : 0 ≤ ((rd_T61 l0_1 x7_2).f2)
            ·rw [if_pos c27] at H
             have c27b0 : decide (0 ≤ ((rd_T61 l0_1 x7_2).f2)) = true := decide_eq_true c27
             clear c27
             by_cases c28 : ((rd_T61 l0_1 x7_2).f2) < (x1_2.length : Int)
             ·rw [if_pos c28] at H
              have c28b0 : decide (((rd_T61 l0_1 x7_2).f2) < (x1_2.length : Int)) = true := decide_eq_true c28
              clear c28
              obtain ⟨y107, hy107⟩ : ∃ y_ : List Bool, y_ = (x1_2.set (((rd_T61 l0_1 x7_2).f2) : Int).toNat true) := ⟨_, rfl⟩
              replace H : (if 0 ≤ ((rd_T61 l0_1 x7_2).f3) then (if ((rd_T61 l0_1 x7_2).f3) < (x1_2.length : Int) then (spec_l7Keep.l1 k2 (y107.set (((rd_T61 l0_1 x7_2).f3) : Int).toNat true) (wrap64 (x7_2 - 1)) a0_0 l0_1 l0_2) else (none)) else (none)) = some r := by first | (rw [hy107]; with_reducible exact H) | (have H2_ := (Option.bind_some _ _).symm.trans H; rw [hy107]; with_reducible exact H2_) | (have H2_ := (Option.bind_some _ _).symm.trans H; with_reducible exact H2_) | with_reducible exact H | (rw [hy107]; exact H) | exact H
              have Ny107 := aK hy107
              clear hy107
              by_cases c30 : 0 ≤ ((rd_T61 l0_1 x7_2).f3)
              ·rw [if_pos c30] at H
               have c30b0 : decide (0 ≤ ((rd_T61 l0_1 x7_2).f3)) = true := decide_eq_true c30
               clear c30
               by_cases c31 : ((rd_T61 l0_1 x7_2).f3) < (x1_2.length : Int)
               ·rw [if_pos c31] at H
                have c31b0 : decide (((rd_T61 l0_1 x7_2).f3) < (x1_2.length : Int)) = true := decide_eq_true c31
                clear c31
                obtain ⟨y108, hy108⟩ : ∃ y_ : List Bool, y_ = (y107.set (((rd_T61 l0_1 x7_2).f3) : Int).toNat true) := ⟨_, rfl⟩
                replace H : (spec_l7Keep.l1 k2 y108 (wrap64 (x7_2 - 1)) a0_0 l0_1 l0_2) = some r := by first | (rw [hy108]; with_reducible exact H) | (have H2_ := (Option.bind_some _ _).symm.trans H; rw [hy108]; with_reducible exact H2_) | (have H2_ := (Option.bind_some _ _).symm.trans H; with_reducible exact H2_) | with_reducible exact H | (rw [hy108]; exact H) | exact H
                have Ny108 := aK hy108
                clear hy108
                have H' := aK H
                clear H
                obtain ⟨hcz33_0, hcz33_1, hcz33_2, hfz33_0, hfz33_1, hfz33_2⟩ := cA3 BK101
                have p104 : 0 ≤ (x7_2 : Int) := dA
                have q104 : x7_2 < (l0_1.length : Int) := dA
                obtain ⟨ad104, e104, hx104_0, hx104_1, hx104_2, hx104_3⟩ := at_T61 (Kd.C_kept_now HR0_1.out HK.out) x7_2 p104 q104
                (try rw [← Nbq18.out] at hx104_0)
                (try rw [← Nbq20.out] at hx104_0)
                cases e104
                replace p104 := eq_true p104
                replace q104 := eq_true q104
                go_wp2_with (first | ((with_reducible refine gate_dst (N := 8) rfl ?_); refine bE (N := 8) (cs := #[.bool false, .int .i64 0, .int .i64 0, .int .i64 0]) (t := 61) ?_; intro gb105 hg w34 hbox hb; have n0_ := aK (Kd.R_below HO_1.out hb); have n2_ := aK (Kept.below (S := (fun k_ => P1_ k_)) (by repeat (first | (with_reducible first | exact HK.out | apply Kept.alloc | apply Kept.drewN | apply Kept.drew | refine Kept.setCell ?_ (.inr GW101.out) _) | exact HK.out)) hb); have GW105 := aK ((by rw [hg]; exact (by first | exact HK.out.1 | exact (show Kept w _ (fun k_ => P1_ k_) from by repeat (first | (with_reducible first | exact HK.out | apply Kept.alloc | apply Kept.drewN | apply Kept.drew | refine Kept.setCell ?_ (.inr GW101.out) _) | exact HK.out)).1) : w.heap.size ≤ gb105)); have GE105 := aK ((by rw [hg]; exact (below_size HB.out) : w0.heap.size ≤ gb105)); have NB101_105 := ql BK101 hg; have NB105_101 := qg BK101 hg; replace BK101 := qb BK101 hb; have BK105 := aK hbox; clear HO_1; have HO_1 := n0_; clear n0_; clear HK; have HK := n2_; clear n2_; replace HB := qs HB hb; clear hb hbox hg; have hnb35 := NB105_101.out; have hnc35 := NB101_105.out; have hcz36_0 := kq40 BK105; have hcz36_1 := kq41 BK105; have hcz36_2 := kq42 BK105; have hcz36_3 := kq43 BK105; have hfz36_0 := fz BK105 0; have hfz36_1 := fz BK105 1; have hfz36_2 := fz BK105 2; have hfz36_3 := fz BK105 3) | ((with_reducible refine gate_store (t := 61) (p := 8) rfl ?_); refine store_event (t := 61) (p := 8) (v := ?vo_w37) (w1 := ((((w34.setCell ⟨gb105, 0, none⟩ (.bool false)).setCell ⟨gb105, 1, none⟩ (.int .i64 ((rd_T61 l0_1 x7_2).f1))).setCell ⟨gb105, 2, none⟩ (.int .i64 ((rd_T61 l0_1 x7_2).f2))).setCell ⟨gb105, 3, none⟩ (.int .i64 ((rd_T61 l0_1 x7_2).f3)))) ?hg ?ho ?hn ?hr ?_; (case ho => rfl); (case hg => rfl); (case hn => rfl); (case hr => first | (go_simp; done) | (go_simp; rfl)); intro w37 hw; have n_ := aJ (show Aside0 (Kd.R Kd.bool 4 w37 w0.heap.size (fun k_ => (P1_ k_ ∨ w.heap.size ≤ k_)) u9000_ x1_2) from ⟨(by rw [hw]; exact (by (with_reducible repeat (first | apply rA | apply rN | apply rD)); exact Kd.R_mono (Kd.R_far (p := ⟨gb105, 3, none⟩) (Kd.R_far (p := ⟨gb105, 2, none⟩) (Kd.R_far (p := ⟨gb105, 1, none⟩) (Kd.R_far (p := ⟨gb105, 0, none⟩) (Kd.R_types HO_1.out BK105.out (by decide)) (fun _ hk => hk.2) (.bool false)) (fun _ hk => hk.2) (.int .i64 ((rd_T61 l0_1 x7_2).f1))) (fun _ hk => hk.2) (.int .i64 ((rd_T61 l0_1 x7_2).f2))) (fun _ hk => hk.2) (.int .i64 ((rd_T61 l0_1 x7_2).f3))) (fun _ hk => hk.1)))⟩) (aJ (show Aside0 (w37.heap[gb101]? = some (.cells #[.int .i64 a0_0, .slice (some ad104) l0_1.length c0_1, .slice A0_2 l0_2.length c0_2] 31 (0, 0))) from ⟨(by rw [hw]; exact (by (repeat first | with_reducible apply zN | with_reducible apply zD | with_reducible apply zA | refine blk_far ?_ NB101_105.out _); exact BK101.out))⟩) (aJ (show Aside0 (w37.heap[gb105]? = some (.cells #[.bool false, .int .i64 ((rd_T61 l0_1 x7_2).f1), .int .i64 ((rd_T61 l0_1 x7_2).f2), .int .i64 ((rd_T61 l0_1 x7_2).f3)] 61 (0, 0))) from ⟨(by rw [hw]; exact (by (with_reducible repeat first | apply zN | apply zD | apply zA); refine blk_put (cs := #[.bool false, .int .i64 ((rd_T61 l0_1 x7_2).f1), .int .i64 ((rd_T61 l0_1 x7_2).f2), .int .i64 0]) ?_ 3 _ rfl; (with_reducible repeat first | apply zN | apply zD | apply zA); refine blk_put (cs := #[.bool false, .int .i64 ((rd_T61 l0_1 x7_2).f1), .int .i64 0, .int .i64 0]) ?_ 2 _ rfl; (with_reducible repeat first | apply zN | apply zD | apply zA); refine blk_put (cs := #[.bool false, .int .i64 0, .int .i64 0, .int .i64 0]) ?_ 1 _ rfl; (with_reducible repeat first | apply zN | apply zD | apply zA); refine blk_put (cs := #[.bool false, .int .i64 0, .int .i64 0, .int .i64 0]) ?_ 0 _ rfl; (with_reducible repeat first | apply zN | apply zD | apply zA); exact BK105.out))⟩) (aJ (show Aside0 (Kept w w37 (fun k_ => P1_ k_)) from ⟨(by rw [hw]; exact (by repeat (first | (with_reducible first | exact HK.out | apply Kept.alloc | apply Kept.drewN | apply Kept.drew | refine Kept.setCell ?_ (.inr GW101.out) _ | refine Kept.setCell ?_ (.inr GW105.out) _) | exact HK.out)))⟩) (show Aside0 (Below w0.heap.size w0 w37) from ⟨(by rw [hw]; exact (pH HB))⟩)))); clear hw HO_1 BK101 BK105 HK HB; obtain ⟨HO_1, BK101, BK105, HK, HB⟩ := n_; obtain ⟨Ao38, co38, eo38⟩ := Kd.R_slice HO_1.out; subst eo38; have p106 : 0 ≤ (x7_2 : Int) := dA; have q106 : x7_2 < (x1_2.length : Int) := dA; obtain ⟨ad106, e106, hx106_0⟩ := Kd.at_bool (Kd.R_reads' HO_1.out).2.2 x7_2 p106 q106; (try rw [← Nbq18.out] at hx106_0); (try rw [← Nbq20.out] at hx106_0); cases e106; replace p106 := eq_true p106; replace q106 := eq_true q106; have hcz39_0 := kq40 BK105; have hcz39_1 := kq41 BK105; have hcz39_2 := kq42 BK105; have hcz39_3 := kq43 BK105; have hfz39_0 := fz BK105 0; have hfz39_1 := fz BK105 1; have hfz39_2 := fz BK105 2; have hfz39_3 := fz BK105 3; have p29 : 0 ≤ (((rd_T61 l0_1 x7_2).f2) : Int) := dA; have q29 : (((rd_T61 l0_1 x7_2).f2) : Int) < ((x1_2.length : Int) : Int) := dA; obtain ⟨go29, co29, eo29, gb29, gl29, cl29, HG29⟩ := Kd.R_form HO_1.out (by omega); (first | cases eo29 | (injection eo29 with ea_ en_ ec_; (first | subst ea_ | (injection ea_ with ea_; subst ea_)); subst ec_; clear en_)); have GB29 := aK gb29; have GG29 := aK HG29; clear gb29 gl29 HG29; have HMgo29 := aK (show (P1_ go29 ∨ w.heap.size ≤ go29) from (HO_1.out.1 _ rfl)); (first | simp only [add_plain] at hx106_0 | skip); obtain ⟨hx29_0, hf29_0⟩ := Kd.R_celln false HO_1.out (((rd_T61 l0_1 x7_2).f2) : Int) p29 q29; replace p29 := eq_true p29; replace q29 := eq_true q29; obtain ⟨hy40_, hz40_⟩ := Kd.R_celln false HO_1.out (((rd_T61 l0_1 x7_2).f2) : Int) (dA) (dA); have HP40 := Kd.R_putg HO_1.out (((rd_T61 l0_1 x7_2).f2) : Int) true) | ((with_reducible refine gate_store (t := 4) (p := 45) rfl ?_); refine store_event (t := 4) (p := 45) (v := ?vo_w41) (w1 := (w37.setCell ⟨go29, (((rd_T61 l0_1 x7_2).f2) : Int).toNat, none⟩ (.bool true))) ?hg ?ho ?hn ?hr ?_; (case ho => rfl); (case hg => rfl); (case hn => rfl); (case hr => first | (go_simp; done) | (go_simp; rfl)); intro w41 hw; have hg : w37.grownBy w41 (some go29) := (by rw [hw]; exact HP40.2); have hp_ : Kd.R Kd.bool 4 w41 w0.heap.size (fun k_ => (P1_ k_ ∨ w.heap.size ≤ k_)) (.slice (some ⟨go29, 0, none⟩) x1_2.length co38) y107 := (by rw [hw, Ny107.out]; exact HP40.1); clear HP40; have n0_ := aK (hp_); have n1_ := aK (blk_grown BK101.out hg (Kd.R_ne HO_1.out BK101.out (by decide))); have n2_ := aK (blk_grown BK105.out hg (Kd.R_ne HO_1.out BK105.out (by decide))); have n3_ := aK ((by rw [hw]; exact below_set (HB.out) GB29.out : Below w0.heap.size w0 w41)); have n4_ := aK (Kept.of_grown (S := (fun k_ => P1_ k_)) hg (by repeat (first | (with_reducible first | exact HK.out | apply Kept.alloc | apply Kept.drewN | apply Kept.drew | refine Kept.setCell ?_ (.inr GW101.out) _ | refine Kept.setCell ?_ (.inr GW105.out) _) | exact HK.out)) (fun k_ e_ => (HO_1.out.1 k_ e_))); clear HO_1; have HO_1 := n0_; clear n0_; clear BK101; have BK101 := n1_; clear n1_; clear BK105; have BK105 := n2_; clear n2_; clear HB; have HB := n3_; clear n3_; clear HK; have HK := n4_; clear n4_; clear hg hw hp_; have hcz42_0 := kq40 BK105; have hcz42_1 := kq41 BK105; have hcz42_2 := kq42 BK105; have hcz42_3 := kq43 BK105; have hfz42_0 := fz BK105 0; have hfz42_1 := fz BK105 1; have hfz42_2 := fz BK105 2; have hfz42_3 := fz BK105 3; have p32 : 0 ≤ (((rd_T61 l0_1 x7_2).f3) : Int) := dA; have q32 : (((rd_T61 l0_1 x7_2).f3) : Int) < ((x1_2.length : Int) : Int) := dA; obtain ⟨hx32_0, hf32_0⟩ := Kd.R_celln false HO_1.out (((rd_T61 l0_1 x7_2).f3) : Int) p32 q32; replace p32 := eq_true p32; replace q32 := eq_true q32; obtain ⟨hy43_, hz43_⟩ := Kd.R_celln false HO_1.out (((rd_T61 l0_1 x7_2).f3) : Int) (dA) (dA); have HP43 := Kd.R_putg HO_1.out (((rd_T61 l0_1 x7_2).f3) : Int) true) | ((with_reducible refine gate_store (t := 4) (p := 49) rfl ?_); refine store_event (t := 4) (p := 49) (v := ?vo_w44) (w1 := (w41.setCell ⟨go29, (((rd_T61 l0_1 x7_2).f3) : Int).toNat, none⟩ (.bool true))) ?hg ?ho ?hn ?hr ?_; (case ho => rfl); (case hg => rfl); (case hn => rfl); (case hr => first | (go_simp; done) | (go_simp; rfl)); intro w44 hw; have hg : w41.grownBy w44 (some go29) := (by rw [hw]; exact HP43.2); have hp_ : Kd.R Kd.bool 4 w44 w0.heap.size (fun k_ => (P1_ k_ ∨ w.heap.size ≤ k_)) (.slice (some ⟨go29, 0, none⟩) x1_2.length co38) y108 := (by rw [hw, Ny108.out]; exact HP43.1); clear HP43; have n0_ := aK (hp_); have n1_ := aK (blk_grown BK101.out hg (Kd.R_ne HO_1.out BK101.out (by decide))); have n2_ := aK (blk_grown BK105.out hg (Kd.R_ne HO_1.out BK105.out (by decide))); have n3_ := aK ((by rw [hw]; exact below_set (HB.out) GB29.out : Below w0.heap.size w0 w44)); have n4_ := aK (Kept.of_grown (S := (fun k_ => P1_ k_)) hg (by repeat (first | (with_reducible first | exact HK.out | apply Kept.alloc | apply Kept.drewN | apply Kept.drew | refine Kept.setCell ?_ (.inr GW101.out) _ | refine Kept.setCell ?_ (.inr GW105.out) _) | exact HK.out)) (fun k_ e_ => (HO_1.out.1 k_ e_))); clear HO_1; have HO_1 := n0_; clear n0_; clear BK101; have BK101 := n1_; clear n1_; clear BK105; have BK105 := n2_; clear n2_; clear HB; have HB := n3_; clear n3_; clear HK; have HK := n4_; clear n4_; clear hg hw hp_))
                go_roundg k2
                case measure => have := HK1.out; have := HK2.out; omega
                case rel => exact ⟨(y108), (wrap64 (x7_2 - 1)), rS, H', ⟨by have := HK1.out; have := HK2.out; omega⟩, ⟨by (with_reducible repeat (first | apply rA | apply rN | apply rD)); exact HO_1.out⟩, ⟨pB BK101⟩, ⟨by repeat (first | (with_reducible first | exact HK.out | apply Kept.alloc | apply Kept.drewN | apply Kept.drew | refine Kept.setCell ?_ (.inr GW101.out) _ | refine Kept.setCell ?_ (.inr GW105.out) _) | exact HK.out)⟩, ⟨pH HB⟩⟩
               ·rw [if_neg c31] at H
                exact absurd H (by simp)
              ·rw [if_neg c30] at H
               exact absurd H (by simp)
             ·rw [if_neg c28] at H
              exact absurd H (by simp)
            ·rw [if_neg c27] at H
             exact absurd H (by simp)
          ·replace c19 := Bool.eq_false_iff.mpr c19
           subst c19
           rw [if_neg (show ¬ (false = true) by decide)] at H
           have H' := aK H
           clear H
           obtain ⟨hcz45_0, hcz45_1, hcz45_2, hfz45_0, hfz45_1, hfz45_2⟩ := cA3 BK101
           have p104 : 0 ≤ (x7_2 : Int) := dA
           have q104 : x7_2 < (l0_1.length : Int) := dA
           obtain ⟨ad104, e104, hx104_0, hx104_1, hx104_2, hx104_3⟩ := at_T61 (Kd.C_kept_now HR0_1.out HK.out) x7_2 p104 q104
           (try rw [← Nbq18.out] at hx104_0)
           cases e104
           replace p104 := eq_true p104
           replace q104 := eq_true q104
           go_wp2_with (first | ((with_reducible refine gate_dst (N := 8) rfl ?_); refine bE (N := 8) (cs := #[.bool false, .int .i64 0, .int .i64 0, .int .i64 0]) (t := 61) ?_; intro gb105 hg w46 hbox hb; have n0_ := aK (Kd.R_below HO_1.out hb); have n2_ := aK (Kept.below (S := (fun k_ => P1_ k_)) (by repeat (first | (with_reducible first | exact HK.out | apply Kept.alloc | apply Kept.drewN | apply Kept.drew | refine Kept.setCell ?_ (.inr GW101.out) _) | exact HK.out)) hb); have GW105 := aK ((by rw [hg]; exact (by first | exact HK.out.1 | exact (show Kept w _ (fun k_ => P1_ k_) from by repeat (first | (with_reducible first | exact HK.out | apply Kept.alloc | apply Kept.drewN | apply Kept.drew | refine Kept.setCell ?_ (.inr GW101.out) _) | exact HK.out)).1) : w.heap.size ≤ gb105)); have GE105 := aK ((by rw [hg]; exact (below_size HB.out) : w0.heap.size ≤ gb105)); have NB101_105 := ql BK101 hg; have NB105_101 := qg BK101 hg; replace BK101 := qb BK101 hb; have BK105 := aK hbox; clear HO_1; have HO_1 := n0_; clear n0_; clear HK; have HK := n2_; clear n2_; replace HB := qs HB hb; clear hb hbox hg; have hnb47 := NB105_101.out; have hnc47 := NB101_105.out; have hcz48_0 := kq40 BK105; have hcz48_1 := kq41 BK105; have hcz48_2 := kq42 BK105; have hcz48_3 := kq43 BK105; have hfz48_0 := fz BK105 0; have hfz48_1 := fz BK105 1; have hfz48_2 := fz BK105 2; have hfz48_3 := fz BK105 3; obtain ⟨Ao49, co49, eo49⟩ := Kd.R_slice HO_1.out; subst eo49; have p106 : 0 ≤ (x7_2 : Int) := dA; have q106 : x7_2 < (x1_2.length : Int) := dA; obtain ⟨ad106, e106, hx106_0⟩ := Kd.at_bool (Kd.R_reads' HO_1.out).2.2 x7_2 p106 q106; (try rw [← Nbq18.out] at hx106_0); cases e106; have hn106_0 : ad106.block ≠ gb105 := Kd.own_blk (Kd.R_ne HO_1.out BK105.out (by decide)); have hn106_1 : ad106.block ≠ gb105 := Kd.own_blk (Kd.R_ne HO_1.out BK105.out (by decide)); have hn106_2 : ad106.block ≠ gb105 := Kd.own_blk (Kd.R_ne HO_1.out BK105.out (by decide)); have hn106_3 : ad106.block ≠ gb105 := Kd.own_blk (Kd.R_ne HO_1.out BK105.out (by decide)); replace hx106_0 := (cell_far (p := ⟨gb105, 0, none⟩) (cB hn106_0) (.bool ((rd_T61 l0_1 x7_2).f0))).trans hx106_0; replace hx106_0 := (cell_far (p := ⟨gb105, 1, none⟩) (cB hn106_1) (.int .i64 ((rd_T61 l0_1 x7_2).f1))).trans hx106_0; replace hx106_0 := (cell_far (p := ⟨gb105, 2, none⟩) (cB hn106_2) (.int .i64 ((rd_T61 l0_1 x7_2).f2))).trans hx106_0; replace hx106_0 := (cell_far (p := ⟨gb105, 3, none⟩) (cB hn106_3) (.int .i64 ((rd_T61 l0_1 x7_2).f3))).trans hx106_0; clear hn106_0; clear hn106_1; clear hn106_2; clear hn106_3; replace p106 := eq_true p106; replace q106 := eq_true q106))
           go_roundg k2
           case measure => have := HK1.out; have := HK2.out; omega
           case rel => exact ⟨(x1_2), (wrap64 (x7_2 - 1)), rS, H', ⟨by have := HK1.out; have := HK2.out; omega⟩, ⟨by (with_reducible repeat (first | apply rA | apply rN | apply rD)); exact Kd.R_mono (Kd.R_far (p := ⟨gb105, 3, none⟩) (Kd.R_far (p := ⟨gb105, 2, none⟩) (Kd.R_far (p := ⟨gb105, 1, none⟩) (Kd.R_far (p := ⟨gb105, 0, none⟩) (Kd.R_types HO_1.out BK105.out (by decide)) (fun _ hk => hk.2) (.bool ((rd_T61 l0_1 x7_2).f0))) (fun _ hk => hk.2) (.int .i64 ((rd_T61 l0_1 x7_2).f1))) (fun _ hk => hk.2) (.int .i64 ((rd_T61 l0_1 x7_2).f2))) (fun _ hk => hk.2) (.int .i64 ((rd_T61 l0_1 x7_2).f3))) (fun _ hk => hk.1)⟩, ⟨by (repeat first | with_reducible apply zN | with_reducible apply zD | with_reducible apply zA | refine blk_far ?_ NB101_105.out _); exact BK101.out⟩, ⟨by repeat (first | (with_reducible first | exact HK.out | apply Kept.alloc | apply Kept.drewN | apply Kept.drew | refine Kept.setCell ?_ (.inr GW101.out) _ | refine Kept.setCell ?_ (.inr GW105.out) _) | exact HK.out)⟩, ⟨pH HB⟩⟩
         ·rw [if_neg c17] at H
          exact absurd H (by simp)
        ·rw [if_neg c16] at H
         exact absurd H (by simp)
       ·rw [if_neg c15] at H
        exact absurd H (by simp)
      ·rw [if_neg c14] at H
       have c14b0 : decide (0 ≤ x7_2) = false := decide_eq_false c14
       clear c14
       obtain rfl := Option.some.inj H
       go_wp2
       go_ret
       exact ⟨_, eW, by (with_reducible repeat (first | apply rA | apply rN | apply rD)); exact HO_1.out, pH HB, by repeat (first | (with_reducible first | exact HK.out | apply Kept.alloc | apply Kept.drewN | apply Kept.drew | refine Kept.setCell ?_ (.inr GW101.out) _) | exact HK.out)⟩

end Go.Proofs.YtcbgjcnekdoloaaDoor.G

namespace Go.Proofs.YtcbgjcnekdoloaaDoor.HeapL
open Go.RowKit Go.Proofs.YtcbgjcnekdoloaaDoor.G Go.Proofs.YtcbgjcnekdoloaaDoor.EvL Go.Proofs.YtcbgjcnekdoloaaDoorW.PrintWords Go.Proofs.YtcbgjcnekdoloaaDoorW.PrintLast
set_option linter.unusedVariables false

def getB (m : List Bool) (j : Nat) : Bool := m.getD j false
theorem rdB (m : List Bool) (j : Nat) : rdOf false m (j : Int) = getB m j := by unfold rdOf getB; rw [Int.toNat_natCast]
theorem getB_set (m : List Bool) (i j : Nat) (h : i < m.length) : getB (m.set i true) j = (getB m j || decide (i = j)) := by
  unfold getB
  rw [List.getD_eq_getElem?_getD, List.getD_eq_getElem?_getD, List.getElem?_set]
  by_cases e : i = j
  · subst e; simp [h]
  · simp [e]
theorem getB_lt {m : List Bool} {j : Nat} (h : getB m j = true) : j < m.length := by
  by_cases hj : j < m.length
  · exact hj
  · unfold getB at h; rw [List.getD_eq_getElem?_getD, List.getElem?_eq_none (by omega)] at h; simp at h
theorem cnt_set : ∀ (m : List Bool) (i : Nat), i < m.length → getB m i = false → (m.set i true).count false + 1 = m.count false
  | [], i, h, _ => by simp at h
  | b :: m, 0, _, hb => by
    have : b = false := hb
    subst this
    simp
  | b :: m, i + 1, h, hb => by
    have ih := cnt_set m i (by simpa using h) hb
    simp only [List.set_cons_succ, List.count_cons]
    omega

def pairAt (c : List S61) (i : Nat) : Bool := !(c.getD i z61).f0
def pA (c : List S61) (i : Nat) : Nat := (c.getD i z61).f2.toNat
def pB (c : List S61) (i : Nat) : Nat := (c.getD i z61).f3.toNat

theorem parts_lt {c : List S61} (hc : cellsOk c = true) {i : Nat} (hi : i < c.length) (hp : pairAt c i = true) :
    0 ≤ (c.getD i z61).f2 ∧ (c.getD i z61).f2 < i ∧ 0 ≤ (c.getD i z61).f3 ∧ (c.getD i z61).f3 < i := by
  unfold cellsOk at hc
  rw [List.all_eq_true] at hc
  have h : CellOk (c.getD i z61) i := of_decide_eq_true (hc i (by simpa using hi))
  unfold pairAt at hp
  rcases h with ⟨h, _⟩ | ⟨_, _, h⟩
  · rw [h] at hp; simp at hp
  · exact h

structure Least (c : List S61) (S : Nat → Prop) (m : List Bool) : Prop where
  len : m.length = c.length
  base : ∀ j, j < c.length → S j → getB m j = true
  closed : ∀ i, i < c.length → getB m i = true → pairAt c i = true → getB m (pA c i) = true ∧ getB m (pB c i) = true
  min : ∀ P : Nat → Prop, (∀ j, j < c.length → S j → P j) → (∀ i, i < c.length → P i → pairAt c i = true → P (pA c i) ∧ P (pB c i)) → ∀ j, getB m j = true → P j

theorem Least.eq {c : List S61} {S : Nat → Prop} {m1 m2 : List Bool} (h1 : Least c S m1) (h2 : Least c S m2) : m1 = m2 := by
  apply List.ext_getElem (h1.len.trans h2.len.symm)
  intro i ha hb
  have e : ∀ (m : List Bool) (h : i < m.length), m[i] = getB m i := fun m h => by unfold getB; rw [List.getD_eq_getElem?_getD, List.getElem?_eq_getElem h]; rfl
  rw [e m1 ha, e m2 hb, Bool.eq_iff_iff]
  constructor
  · intro h
    exact h1.min (fun j => getB m2 j = true) h2.base h2.closed i h
  · intro h
    exact h2.min (fun j => getB m1 j = true) h1.base h1.closed i h

theorem Least.congr {c : List S61} {S T : Nat → Prop} {m : List Bool} (h : Least c S m) (hST : ∀ j, j < c.length → (S j ↔ T j)) : Least c T m :=
  ⟨h.len, fun j hj ht => h.base j hj ((hST j hj).mpr ht), h.closed, fun P hP => h.min P (fun j hj hs => hP j hj ((hST j hj).mp hs))⟩

theorem reached_step (k : Nat) (c : List S61) (m : List Bool) (st : List Int) (x : Int) (hm : m.length = c.length) (h0 : 0 ≤ x) (h1 : x < (c.length : Int)) (hl : st.length ≤ 1000000) :
    impl_reached.l0 (k + 1) c m (st ++ [x]) = if getB m x.toNat = true then impl_reached.l0 k c m st else
      if (c.getD x.toNat z61).f0 = true then impl_reached.l0 k c (m.set x.toNat true) st else impl_reached.l0 k c (m.set x.toNat true) (st ++ [(c.getD x.toNat z61).f2, (c.getD x.toNat z61).f3]) := by
  have hlen : ((st ++ [x]).length : Int) = (st.length : Int) + 1 := by simp
  have hw : wrap64 (((st ++ [x]).length : Int) - 1) = (st.length : Int) := by rw [hlen, w64 (by omega) (by omega)]; omega
  have hr : rd (st ++ [x]) (st.length : Int) = x := by unfold rd; rw [Int.toNat_natCast, List.getD_eq_getElem?_getD]; simp
  have ht : (st ++ [x]).take st.length = st := by rw [List.take_left]
  obtain ⟨j, rfl⟩ : ∃ j : Nat, x = (j : Int) := ⟨x.toNat, by omega⟩
  simp only [impl_reached.l0, hw, hr, ht, impl_always.f, Option.bind_some, rdB, Int.toNat_natCast]
  rw [if_pos (by omega), if_pos (by omega), if_pos (by omega), if_pos (by omega), if_pos (by omega), if_pos (by omega)]
  by_cases hb : getB m j = true
  · rw [if_pos hb, if_pos hb]
  · rw [if_neg hb, if_neg hb, if_pos (by omega)]
    have e : rd_T61 c (j : Int) = c.getD j z61 := rdC c j
    rw [e]
    by_cases hf : (c.getD j z61).f0 = true
    · rw [if_pos hf, if_pos hf]
    · rw [if_neg hf, if_neg hf]
      simp only [if_true]
      rw [if_pos (by simp; omega)]

theorem reached_l0 (c : List S61) (hc : cellsOk c = true) (hn : c.length ≤ 200) (S : Nat → Prop) : ∀ (d : Nat) (m : List Bool) (st : List Int), 2 * m.count false + st.length ≤ d → d ≤ 100000 → m.length = c.length →
    (∀ x ∈ st, 0 ≤ x ∧ x < (c.length : Int)) → (∀ j, j < c.length → S j → getB m j = true ∨ (j : Int) ∈ st) →
    (∀ i, i < c.length → getB m i = true → pairAt c i = true → (getB m (pA c i) = true ∨ (pA c i : Int) ∈ st) ∧ (getB m (pB c i) = true ∨ (pB c i : Int) ∈ st)) →
    (∀ P : Nat → Prop, (∀ j, j < c.length → S j → P j) → (∀ i, i < c.length → P i → pairAt c i = true → P (pA c i) ∧ P (pB c i)) → (∀ j, getB m j = true → P j) ∧ ∀ x ∈ st, P x.toNat) →
    ∃ r, Least c S r ∧ Ev (fun k => impl_reached.l0 k c m st) r := by
  intro d
  induction d with
  | zero =>
    intro m st hd _ hm hst hbase hcl hmin
    have h0 : st = [] := List.length_eq_zero_iff.mp (by omega)
    subst h0
    refine ⟨m, ⟨hm, fun j hj hs => (hbase j hj hs).resolve_right (by simp), fun i hi hb hp => ?_, fun P h1 h2 => (hmin P h1 h2).1⟩, Ev.succ (Ev.congr (fun k => ?_) (Ev.now m))⟩
    · have := hcl i hi hb hp
      exact ⟨this.1.resolve_right (by simp), this.2.resolve_right (by simp)⟩
    · simp only [impl_reached.l0]
      rw [if_neg (by simp)]
  | succ d ih =>
    intro m st hd hdd hm hst hbase hcl hmin
    rcases List.eq_nil_or_concat st with rfl | ⟨st', x, rfl⟩
    · refine ⟨m, ⟨hm, fun j hj hs => (hbase j hj hs).resolve_right (by simp), fun i hi hb hp => ?_, fun P h1 h2 => (hmin P h1 h2).1⟩, Ev.succ (Ev.congr (fun k => ?_) (Ev.now m))⟩
      · have := hcl i hi hb hp
        exact ⟨this.1.resolve_right (by simp), this.2.resolve_right (by simp)⟩
      · simp only [impl_reached.l0]
        rw [if_neg (by simp)]
    · rw [List.concat_eq_append] at *
      have hx := hst x (by simp)
      have hst' : ∀ y ∈ st', 0 ≤ y ∧ y < (c.length : Int) := fun y hy => hst y (by simp [hy])
      have hl : st'.length + 1 + 2 * m.count false ≤ d + 1 := by simp at hd; omega
      have hstep := fun k => reached_step k c m st' x hm hx.1 hx.2 (by omega)
      have hxm : x.toNat < m.length := by omega
      by_cases hb : getB m x.toNat = true
      · have key : ∀ j : Nat, (j : Int) ∈ st' ++ [x] → getB m j = true ∨ (j : Int) ∈ st' := by
          intro j hj
          rcases List.mem_append.mp hj with h | h
          · exact .inr h
          · have : (j : Int) = x := by simpa using h
            exact .inl (by rw [← hb]; congr 1; omega)
        obtain ⟨r, hr, hev⟩ := ih m st' (by omega) (by omega) hm hst' (fun j hj hs => (hbase j hj hs).elim .inl (key j))
          (fun i hi hbi hp => ⟨(hcl i hi hbi hp).1.elim .inl (key _), (hcl i hi hbi hp).2.elim .inl (key _)⟩) (fun P h1 h2 => ⟨(hmin P h1 h2).1, fun y hy => (hmin P h1 h2).2 y (by simp [hy])⟩)
        exact ⟨r, hr, Ev.step (fun k => (hstep k).trans (if_pos hb)) hev⟩
      · have hbf : getB m x.toNat = false := Bool.eq_false_iff.mpr hb
        have hcnt := cnt_set m x.toNat hxm hbf
        have hm' : (m.set x.toNat true).length = c.length := by simpa using hm
        have up : ∀ j, getB m j = true → getB (m.set x.toNat true) j = true := fun j h => by rw [getB_set m _ _ hxm, h]; rfl
        have hit : ∀ j : Nat, (j : Int) = x → getB (m.set x.toNat true) j = true := fun j h => by rw [getB_set m _ _ hxm, decide_eq_true (by omega), Bool.or_true]
        have key : ∀ j : Nat, (j : Int) ∈ st' ++ [x] → getB (m.set x.toNat true) j = true ∨ (j : Int) ∈ st' := by
          intro j hj
          rcases List.mem_append.mp hj with h | h
          · exact .inr h
          · exact .inl (hit j (by simpa using h))
        have isx : ∀ i, getB (m.set x.toNat true) i = true → getB m i = true ∨ i = x.toNat := by
          intro i h
          rw [getB_set m _ _ hxm, Bool.or_eq_true, decide_eq_true_iff] at h
          exact h.imp id Eq.symm
        by_cases hf : (c.getD x.toNat z61).f0 = true
        · have np : pairAt c x.toNat = false := by unfold pairAt; rw [hf]; rfl
          obtain ⟨r, hr, hev⟩ := ih (m.set x.toNat true) st' (by omega) (by omega) hm' hst' (fun j hj hs => (hbase j hj hs).elim (fun h => .inl (up j h)) (key j))
            (fun i hi hbi hp => by
              rcases isx i hbi with h | h
              · exact ⟨(hcl i hi h hp).1.elim (fun h => .inl (up _ h)) (key _), (hcl i hi h hp).2.elim (fun h => .inl (up _ h)) (key _)⟩
              · rw [h, np] at hp; cases hp)
            (fun P h1 h2 => ⟨fun j hj => (isx j hj).elim ((hmin P h1 h2).1 j) (fun e => by rw [e]; exact (hmin P h1 h2).2 x (by simp)), fun y hy => (hmin P h1 h2).2 y (by simp [hy])⟩)
          exact ⟨r, hr, Ev.step (fun k => ((hstep k).trans (if_neg hb)).trans (if_pos hf)) hev⟩
        · have hp : pairAt c x.toNat = true := by unfold pairAt; rw [Bool.eq_false_iff.mpr hf]; rfl
          have hlt := parts_lt hc (by omega) hp
          have eA : ((pA c x.toNat : Nat) : Int) = (c.getD x.toNat z61).f2 := by unfold pA; omega
          have eB : ((pB c x.toNat : Nat) : Int) = (c.getD x.toNat z61).f3 := by unfold pB; omega
          have key2 : ∀ j : Nat, (getB (m.set x.toNat true) j = true ∨ (j : Int) ∈ st') → getB (m.set x.toNat true) j = true ∨ (j : Int) ∈ st' ++ [(c.getD x.toNat z61).f2, (c.getD x.toNat z61).f3] := fun j h => h.imp id (fun h => by simp [h])
          obtain ⟨r, hr, hev⟩ := ih (m.set x.toNat true) (st' ++ [(c.getD x.toNat z61).f2, (c.getD x.toNat z61).f3]) (by simp; omega) (by omega) hm'
            (fun y hy => by
              rcases List.mem_append.mp hy with h | h
              · exact hst' y h
              · simp only [List.mem_cons, List.mem_nil_iff, or_false] at h; rcases h with rfl | rfl <;> omega)
            (fun j hj hs => key2 j ((hbase j hj hs).elim (fun h => .inl (up j h)) (key j)))
            (fun i hi hbi hpi => by
              rcases isx i hbi with h | h
              · exact ⟨key2 _ ((hcl i hi h hpi).1.elim (fun h => .inl (up _ h)) (key _)), key2 _ ((hcl i hi h hpi).2.elim (fun h => .inl (up _ h)) (key _))⟩
              · subst h
                exact ⟨.inr (by rw [eA]; simp), .inr (by rw [eB]; simp)⟩)
            (fun P h1 h2 => by
              have hx' := (hmin P h1 h2).2 x (by simp)
              have hpp := h2 x.toNat (by omega) hx' hp
              refine ⟨fun j hj => (isx j hj).elim ((hmin P h1 h2).1 j) (fun e => by rw [e]; exact hx'), fun y hy => ?_⟩
              rcases List.mem_append.mp hy with h | h
              · exact (hmin P h1 h2).2 y (by simp [h])
              · simp only [List.mem_cons, List.mem_nil_iff, or_false] at h
                rcases h with rfl | rfl
                · exact hpp.1
                · exact hpp.2)
          exact ⟨r, hr, Ev.step (fun k => ((hstep k).trans (if_neg hb)).trans (if_neg hf)) hev⟩

theorem getB_rep (n j : Nat) : getB (List.replicate n false) j = false := by
  unfold getB
  rw [List.getD_eq_getElem?_getD, List.getElem?_replicate]
  split <;> rfl

theorem clone_eq (l : List Int) (h : l.length ≤ 1000000) : slices_Clone_int_int.f l = some l := by
  unfold slices_Clone_int_int.f
  simp only [Option.bind_some, List.nil_append, List.length_nil]
  rw [if_pos (by omega)]

theorem implReached (c : List S61) (st : List Int) (hc : cellsOk c = true) (hn : c.length ≤ 200) (hs : st.length ≤ 1000) (hr : rootsOk c.length st = true) :
    ∃ m, Least c (fun j => (j : Int) ∈ st) m ∧ Ev (fun k => impl_reached.f k c st) m := by
  have hr' : ∀ x ∈ st, 0 ≤ x ∧ x < (c.length : Int) := fun x hx => of_decide_eq_true (List.all_eq_true.mp hr x hx)
  obtain ⟨m, hm, hev⟩ := reached_l0 c hc hn (fun j => (j : Int) ∈ st) (2 * (List.replicate c.length false).count false + st.length) (List.replicate c.length false) st (Nat.le_refl _)
    (by rw [List.count_replicate_self]; omega) (by simp) hr' (fun j _ h => .inr h) (fun i _ h => by rw [getB_rep] at h; cases h)
    (fun P h1 h2 => ⟨fun j h => (by rw [getB_rep] at h; cases h), fun x hx => h1 x.toNat (by have := hr' x hx; omega) (by have := hr' x hx; rw [show ((x.toNat : Nat) : Int) = x by omega]; exact hx)⟩)
  refine ⟨m, hm, ?_⟩
  unfold impl_reached.f
  refine Ev.ite_pos (by omega) (Ev.ite_pos (by omega) ?_)
  rw [clone_eq st (by omega), Int.toNat_natCast]
  exact hev

def markAll (m : List Bool) (rs : List Int) : List Bool := rs.foldl (fun m r => m.set r.toNat true) m
theorem markAll_len : ∀ (rs : List Int) (m : List Bool), (markAll m rs).length = m.length
  | [], m => rfl
  | r :: rs, m => by show (markAll (m.set r.toNat true) rs).length = _; rw [markAll_len rs]; simp
theorem getB_markAll : ∀ (rs : List Int) (m : List Bool) (j : Nat), (∀ r ∈ rs, 0 ≤ r ∧ r < (m.length : Int)) → (getB (markAll m rs) j = true ↔ getB m j = true ∨ (j : Int) ∈ rs)
  | [], m, j, _ => by show getB m j = true ↔ _; simp
  | r :: rs, m, j, h => by
    have hr := h r (by simp)
    show getB (markAll (m.set r.toNat true) rs) j = true ↔ _
    rw [getB_markAll rs _ j (fun x hx => by have := h x (by simp [hx]); simpa using this), getB_set m _ _ (by omega), Bool.or_eq_true, decide_eq_true_iff, List.mem_cons]
    constructor
    · rintro ((h1 | h1) | h1)
      · exact .inl h1
      · exact .inr (.inl (by omega))
      · exact .inr (.inr h1)
    · rintro (h1 | h1 | h1)
      · exact .inl (.inl h1)
      · exact .inl (.inr (by omega))
      · exact .inr h1

def down1 (c : List S61) (i : Nat) (m : List Bool) : List Bool := if getB m i = true then (if pairAt c i = true then (m.set (pA c i) true).set (pB c i) true else m) else m
def passDown (c : List S61) : Nat → List Bool → List Bool
  | 0, m => m
  | i + 1, m => passDown c i (down1 c i m)

theorem down1_len (c : List S61) (i : Nat) (m : List Bool) : (down1 c i m).length = m.length := by
  unfold down1
  split
  · split
    · simp
    · rfl
  · rfl
theorem passDown_len (c : List S61) : ∀ (i : Nat) (m : List Bool), (passDown c i m).length = m.length
  | 0, m => rfl
  | i + 1, m => by show (passDown c i (down1 c i m)).length = _; rw [passDown_len c i, down1_len]
theorem down1_mono {c : List S61} {i : Nat} {m : List Bool} (hc : cellsOk c = true) (hm : m.length = c.length) (hi : i < c.length) {j : Nat} (h : getB m j = true) : getB (down1 c i m) j = true := by
  unfold down1
  split
  · split
    · rename_i hp
      have hl := parts_lt hc hi hp
      have hA : pA c i < m.length := by unfold pA; omega
      have hB : pB c i < m.length := by unfold pB; omega
      rw [getB_set _ _ _ (by simpa using hB), getB_set _ _ _ hA, h]; rfl
    · exact h
  · exact h
theorem passDown_mono {c : List S61} (hc : cellsOk c = true) {j : Nat} : ∀ (i : Nat) (m : List Bool), m.length = c.length → i ≤ c.length → getB m j = true → getB (passDown c i m) j = true
  | 0, m, _, _, h => h
  | i + 1, m, hm, hi, h => passDown_mono hc i (down1 c i m) ((down1_len c i m).trans hm) (by omega) (down1_mono hc hm (by omega) h)
theorem down1_high {c : List S61} {i : Nat} {m : List Bool} (hc : cellsOk c = true) (hm : m.length = c.length) (hi : i < c.length) {j : Nat} (hj : i ≤ j) : getB (down1 c i m) j = getB m j := by
  unfold down1
  split
  · split
    · rename_i hp
      have hl := parts_lt hc hi hp
      have hA : pA c i < i := by unfold pA; omega
      have hB : pB c i < i := by unfold pB; omega
      rw [getB_set _ _ _ (by simp; omega), getB_set _ _ _ (by omega), decide_eq_false (by omega), decide_eq_false (by omega), Bool.or_false, Bool.or_false]
    · rfl
  · rfl
theorem passDown_high {c : List S61} (hc : cellsOk c = true) {j : Nat} : ∀ (i : Nat) (m : List Bool), m.length = c.length → i ≤ c.length → i ≤ j → getB (passDown c i m) j = getB m j
  | 0, m, _, _, _ => rfl
  | i + 1, m, hm, hi, hj => (passDown_high hc i (down1 c i m) ((down1_len c i m).trans hm) (by omega) (by omega)).trans (down1_high hc hm (by omega) (by omega))
theorem passDown_closed {c : List S61} (hc : cellsOk c = true) : ∀ (i : Nat) (m : List Bool), m.length = c.length → i ≤ c.length → ∀ q, q < i → getB (passDown c i m) q = true → pairAt c q = true →
    getB (passDown c i m) (pA c q) = true ∧ getB (passDown c i m) (pB c q) = true
  | 0, m, _, _, q, h, _, _ => by omega
  | i + 1, m, hm, hi, q, hq, hb, hp => by
    have hm' := (down1_len c i m).trans hm
    by_cases e : q = i
    · subst e
      have h1 : getB (down1 c q m) q = true := by
        have := passDown_high hc q (down1 c q m) hm' (by omega) (Nat.le_refl q)
        rw [← this]; exact hb
      have h2 : getB m q = true := by rw [down1_high hc hm (by omega) (Nat.le_refl q)] at h1; exact h1
      have hl := parts_lt hc (show q < c.length by omega) hp
      have hA : pA c q < m.length := by unfold pA; omega
      have hB : pB c q < m.length := by unfold pB; omega
      have e1 : down1 c q m = (m.set (pA c q) true).set (pB c q) true := by unfold down1; rw [if_pos h2, if_pos hp]
      refine ⟨passDown_mono hc q _ hm' (by omega) ?_, passDown_mono hc q _ hm' (by omega) ?_⟩
      · rw [e1, getB_set _ _ _ (by simpa using hB), getB_set _ _ _ hA]; simp
      · rw [e1, getB_set _ _ _ (by simpa using hB)]; simp
    · exact passDown_closed hc i (down1 c i m) hm' (by omega) q (by omega) hb hp
theorem passDown_min {c : List S61} (hc : cellsOk c = true) (P : Nat → Prop) (h2 : ∀ i, i < c.length → P i → pairAt c i = true → P (pA c i) ∧ P (pB c i)) : ∀ (i : Nat) (m : List Bool), m.length = c.length → i ≤ c.length →
    (∀ j, getB m j = true → P j) → ∀ j, getB (passDown c i m) j = true → P j
  | 0, m, _, _, h, j, hj => h j hj
  | i + 1, m, hm, hi, h, j, hj => by
    refine passDown_min hc P h2 i (down1 c i m) ((down1_len c i m).trans hm) (by omega) ?_ j hj
    intro j hj
    unfold down1 at hj
    split at hj
    · rename_i hb
      split at hj
      · rename_i hp
        have hl := parts_lt hc (show i < c.length by omega) hp
        have hA : pA c i < m.length := by unfold pA; omega
        have hB : pB c i < m.length := by unfold pB; omega
        have hh := h2 i (by omega) (h i hb) hp
        rw [getB_set _ _ _ (by simpa using hB), getB_set _ _ _ hA, Bool.or_eq_true, Bool.or_eq_true, decide_eq_true_iff, decide_eq_true_iff] at hj
        rcases hj with (hj | rfl) | rfl
        · exact h j hj
        · exact hh.1
        · exact hh.2
      · exact h j hj
    · exact h j hj

theorem least_spec {c : List S61} (hc : cellsOk c = true) (m : List Bool) (hm : m.length = c.length) : Least c (fun j => getB m j = true) (passDown c c.length m) :=
  ⟨(passDown_len c _ m).trans hm, fun j _ h => passDown_mono hc _ m hm (Nat.le_refl _) h, fun i hi hb hp => passDown_closed hc _ m hm (Nat.le_refl _) i hi hb hp,
    fun P h1 h2 => passDown_min hc P h2 _ m hm (Nat.le_refl _) (fun j hj => h1 j (by have := getB_lt hj; omega) hj)⟩

theorem keep_l1 (old : Int) (c : List S61) (r : List Int) (hc : cellsOk c = true) (hn : c.length ≤ 200) : ∀ (i : Nat) (m : List Bool), m.length = c.length → i ≤ c.length →
    Ev (fun k => spec_l7Keep.l1 k m ((i : Int) - 1) old c r) (passDown c i m)
  | 0, m, hm, hi => by
    refine Ev.succ (Ev.congr (fun k => ?_) (Ev.now m))
    simp only [spec_l7Keep.l1]
    rw [if_neg (by omega)]
  | i + 1, m, hm, hi => by
    have e1 : ((i + 1 : Nat) : Int) - 1 = (i : Int) := by omega
    refine Ev.step (f := fun k => spec_l7Keep.l1 k (down1 c i m) ((i : Int) - 1) old c r) (fun k => ?_) (keep_l1 old c r hc hn i (down1 c i m) ((down1_len c i m).trans hm) (by omega))
    simp only [spec_l7Keep.l1, e1]
    rw [if_pos (by omega), if_pos (by omega), if_pos (by omega), if_pos (by omega), rdB, rdC, w64 (by omega) (by omega)]
    unfold down1
    by_cases hb : getB m i = true
    · rw [if_pos hb, if_pos hb]
      by_cases hf : (c.getD i z61).f0 = true
      · rw [if_pos hf, if_neg (by unfold pairAt; rw [hf]; decide)]
      · have hp : pairAt c i = true := by unfold pairAt; rw [Bool.eq_false_iff.mpr hf]; rfl
        have hl := parts_lt hc (show i < c.length by omega) hp
        rw [if_neg hf, if_pos hp, if_pos (by omega), if_pos (by omega), if_pos (by omega), if_pos (by omega)]
        rfl
    · rw [if_neg hb, if_neg hb]

theorem keep_l0 (old : Int) (c : List S61) (r : List Int) (hc : cellsOk c = true) (hn : c.length ≤ 200) (hr : r.length ≤ 60) (hro : rootsOk c.length r = true) : ∀ (d i : Nat) (m : List Bool), i + d = r.length → m.length = c.length →
    Ev (fun k => spec_l7Keep.l0 k m r r.length i old c r) (passDown c c.length (markAll m (r.drop i))) := by
  have hr' : ∀ x ∈ r, 0 ≤ x ∧ x < (c.length : Int) := fun x hx => of_decide_eq_true (List.all_eq_true.mp hro x hx)
  intro d
  induction d with
  | zero =>
    intro i m hi hm
    refine Ev.step (f := fun k => spec_l7Keep.l1 k m ((c.length : Int) - 1) old c r) (fun k => ?_) ?_
    · simp only [spec_l7Keep.l0]
      rw [if_neg (by omega), w64 (by omega) (by omega)]
    · rw [List.drop_of_length_le (by omega)]
      exact keep_l1 old c r hc hn c.length m hm (Nat.le_refl _)
  | succ d ih =>
    intro i m hi hm
    have hlt : i < r.length := by omega
    have hx := hr' r[i] (List.getElem_mem hlt)
    have e : rd r (i : Int) = r[i] := by rw [rdI, List.getD_eq_getElem?_getD, List.getElem?_eq_getElem hlt]; rfl
    refine Ev.step (f := fun k => spec_l7Keep.l0 k (m.set r[i].toNat true) r r.length ((i + 1 : Nat) : Int) old c r) (fun k => ?_) ?_
    · simp only [spec_l7Keep.l0, e]
      rw [if_pos (by omega), if_pos (by omega), if_pos (by omega), if_pos (by omega), if_pos (by omega), next i hlt (by omega)]
    · refine Ev.of_eq (ih (i + 1) (m.set r[i].toNat true) (by omega) (by simpa using hm)) ?_
      rw [List.drop_eq_getElem_cons hlt]
      rfl

theorem specKeep (old : Int) (c : List S61) (r : List Int) (m : List Bool) (hc : cellsOk c = true) (hn : c.length ≤ 200) (hr : r.length ≤ 60) (hro : rootsOk c.length r = true) (hm : m.length = c.length) :
    ∃ m', Least c (fun j => getB m j = true ∨ (j : Int) ∈ r) m' ∧ Ev (fun k => spec_l7Keep.f k old c r m) m' := by
  have hr' : ∀ x ∈ r, 0 ≤ x ∧ x < (m.length : Int) := fun x hx => by rw [hm]; exact of_decide_eq_true (List.all_eq_true.mp hro x hx)
  refine ⟨_, (least_spec hc (markAll m r) ((markAll_len r m).trans hm)).congr (fun j hj => getB_markAll r m j hr'), ?_⟩
  unfold spec_l7Keep.f
  exact keep_l0 old c r hc hn hr hro r.length 0 m (by omega) hm
end Go.Proofs.YtcbgjcnekdoloaaDoor.HeapL

namespace Go.Proofs.YtcbgjcnekdoloaaDoor.G
open Go.RowKit Go.Proofs.YtcbgjcnekdoloaaDoorW.PrintWords Go.Proofs.YtcbgjcnekdoloaaDoorW.PrintLast Go.Proofs.YtcbgjcnekdoloaaDoorW.PrintMore Go.Proofs.YtcbgjcnekdoloaaDoor.Short
theorem yI {A B : Prop} (h : Aside0 A) (k : A → B := by intro h; repeat (first | (with_reducible first | exact h | apply IsS76.alloc | apply IsS76.drewN | apply IsS76.drew | apply IsS76.set_1 | apply IsS76.set_2 | refine IsS76.far ?_ (Aside0.out (by assumption)) _) | exact h)) : B := k h.out
theorem yK {u W W' : World} {g : Nat} {row : Option Nat} (h : Aside0 (KeepBut u W g row)) (k : KeepBut u W g row → KeepBut u W' g row := by intro h; repeat (first | (with_reducible first | exact h | apply KeepBut.set_ | apply keep_drewN | apply keep_drew | apply keep_alloc | refine keep_far ?_ (Aside0.out (by assumption)) _) | exact h)) : KeepBut u W' g row := k h.out
theorem yH {A B : Prop} (h : Aside0 A) (k : A → B := by intro h; repeat (first | (with_reducible first | exact h | apply below_alloc | apply pw_below_drewN | apply below_drew1 | refine below_set ?_ (IsS76.ge (Aside0.out (by assumption))) | refine below_set ?_ (Aside0.out (by assumption))) | exact h)) : B := k h.out
end Go.Proofs.YtcbgjcnekdoloaaDoor.G
