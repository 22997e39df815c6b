/- Part 1 of 6 of the proof that the law FnCombsCardSaid holds: for every input that can be read the call returns true and leaves its arguments as they were; no condition but those each theorem names. -/
import Derived.Test.YthfkimbmepmelaaDoorProg
import Derived.Below
import Derived.Deep.Draws
import Derived.Deep.AppendLies
import Derived.Maps.AppendAt
import Derived.OwnWalk
import Derived.Laws.BytesArg
import Derived.Laws.MakeOwn
import Derived.Laws.OwnMore
import Derived.Deep.OwnRows
import Derived.Tactics
import Derived.Lib.ConvBytes
import Derived.Laws.Slices
import Derived.WalkKit
import Derived.KernelRfl
import Derived.RowKit3
import Derived.Deep.LoopGhost
import Derived.Deep.QuietTactic
import Derived.BigQuiet
import Derived.WideLaws
import Derived.Deep.DeepCutAuto
import Derived.Deep.CutBlock
import Derived.Deep.RegionHeld3
import Derived.Laws.Rows
import Derived.Lib.AppendStr
import Derived.ArgAppend
import Derived.Laws.IdiomCopy
import Derived.OrdersHeld
import Derived.Laws.BitsLemmas
import Derived.RowKit
import Derived.Ground.NamesProg
import Derived.Shelf.Lay
import Derived.Shelf.Strconv.ErrVarAll
import Derived.Shelf.Strconv.Itoa3
import Derived.Shelf.SlicesQ.Reverse
import Derived.Ground.SlgnProg
import Derived.Test.YthfkimbmepmelaaDoorQCombsW1
namespace Go.Proofs.YthfkimbmepmelaaDoor.Short
open Go.RowKit Go.Proofs.YthfkimbmepmelaaDoorW.PrintWords
theorem aM {p : Prop} (h : p) : Aside0 p := Aside0.mk h
end Go.Proofs.YthfkimbmepmelaaDoor.Short

namespace Go.Proofs.YthfkimbmepmelaaDoor.G
open Go.RowKit Go.Proofs.YthfkimbmepmelaaDoorW.PrintWords Go.Proofs.YthfkimbmepmelaaDoorW.PrintLast Go.Proofs.YthfkimbmepmelaaDoorW.PrintMore Go.Proofs.YthfkimbmepmelaaDoor.Short
attribute [local go_sem] max2_int min2_int max_two min_two max_three min_three max_four min_four   -- for this text's walks alone
set_option linter.unusedVariables false
set_option linter.unusedSimpArgs false



def errW : Option Int → Value
  | none => .nilIface
  | some c => .iface 92 (.int .i64 c)
theorem errW_none : errW none = .nilIface := rfl
theorem errW_some (c : Int) : errW (some c) = .iface 92 (.int .i64 c) := rfl

theorem info3 : (Tryd.prog.info? 3).map (fun i => (i.zero, i.size, i.bytes)) = some (some (.int .i64 0), 1, 8) := by kernel_rfl
theorem info45 : (Tryd.prog.info? 45).map (fun i => (i.zero, i.size, i.bytes)) = some (some (.agg #[(.int .i64 0), (.int .i64 0), (.slice none 0 0)]), 3, 40) := by kernel_rfl
theorem info53 : (Tryd.prog.info? 53).map (fun i => (i.zero, i.size, i.bytes)) = some (some (.agg #[(.int .i64 0), (.int .i64 0), (.slice none 0 0)]), 3, 40) := by kernel_rfl
-- the values' own types
structure S65 where
  f0 : Int
  f1 : Int
  f2 : Int
def z65 : S65 := ⟨(0 : Int), (0 : Int), (0 : Int)⟩
def k65 : Kd S65 := Kd.iso (Kd.pair (Kd.int .i64) (Kd.pair (Kd.int .i64) (Kd.int .i64))) (fun x : S65 => (x.f0, x.f1, x.f2))
theorem k65_open {w : World} {x : S65} {cs : List Value} (h : k65.K w x cs) : cs = [.int .i64 x.f0, .int .i64 x.f1, .int .i64 x.f2] := by
  obtain ⟨_, _, rfl, rfl, ⟨_, _, rfl, rfl, rfl⟩⟩ := h
  exact rfl
theorem k65_openM {w : World} {base : Nat} {ok : Nat → Prop} {x : S65} {cs : List Value} (h : k65.M w base ok x cs) : cs = [.int .i64 x.f0, .int .i64 x.f1, .int .i64 x.f2] := by
  obtain ⟨_, _, rfl, rfl, ⟨_, _, rfl, rfl, rfl⟩⟩ := h
  exact rfl
theorem k65_mkM (w : World) (base : Nat) (ok : Nat → Prop) (x : S65)  : k65.M w base ok x [.int .i64 x.f0, .int .i64 x.f1, .int .i64 x.f2] := ⟨[.int .i64 x.f0], [.int .i64 x.f1, .int .i64 x.f2], rfl, rfl, ⟨[.int .i64 x.f1], [.int .i64 x.f2], rfl, rfl, rfl⟩⟩
def rd_T65 (xs : List S65) (i : Int) : S65 := xs.getD i.toNat z65
theorem at_T65 {w : World} {A : Option Addr} {n : Nat} {xs : List S65} (h : Kd.C k65 w A n xs) (i : Int) (h0 : 0 ≤ i) (h1 : i < n) : ∃ ad , A = some ad ∧ w.cell? (ad.add (i.toNat * 3)) = some (.int .i64 (rd_T65 xs i).f0) ∧ w.cell? ⟨(ad.add (i.toNat * 3)).block, (ad.add (i.toNat * 3)).off + 1, none⟩ = some (.int .i64 (rd_T65 xs i).f1) ∧ w.cell? ⟨(ad.add (i.toNat * 3)).block, (ad.add (i.toNat * 3)).off + 2, none⟩ = some (.int .i64 (rd_T65 xs i).f2) := by
  obtain ⟨ad, c, e, _, hK, hc0⟩ := Kd.C_get h z65 i h0 h1
  have hc : ∀ j u, c[j]? = some u → w.cell? (ad.add (i.toNat * 3 + j)) = some u := hc0
  obtain rfl := k65_open hK
  exact ⟨ad, e, hc 0 _ rfl, by rw [← add_field _ _ 1 (by omega)]; exact hc 1 _ rfl, by rw [← add_field _ _ 2 (by omega)]; exact hc 2 _ rfl⟩

structure S53 where
  f0 : Int
  f1 : Int
  f2 : (List S53)
def z53 : S53 := ⟨(0 : Int), (0 : Int), ([] : List S53)⟩
def F53 (d : Kd S53) : Kd S53 := Kd.iso (Kd.pair (Kd.int .i64) (Kd.pair (Kd.int .i64) (Kd.slice 53 d))) (fun x : S53 => (x.f0, x.f1, x.f2))
theorem mono53 : Kd.Mono F53 := Kd.mono_iso _ (Kd.mono_pair (Kd.mono_const _) (Kd.mono_pair (Kd.mono_const _) (Kd.mono_slice 53 Kd.mono_id)))
theorem sub53 : Kd.Sub F53 [53] := Kd.sub_iso _ (Kd.sub_pair (Kd.sub_const _ (by decide)) (Kd.sub_pair (Kd.sub_const _ (by decide)) (Kd.sub_slice 53 (by decide) Kd.sub_id)))
theorem sz53 : ∀ n, (Kd.upto F53 3 [53] n).sz = 3 := Kd.upto_sz (fun _ => rfl)
def k53 : Kd S53 := Kd.fix F53 3 [53] sz53 (Kd.upto_E sub53)
theorem k53_open {w : World} {x : S53} {cs : List Value} (h : k53.K w x cs) : ∃ A2 c2, cs = [.int .i64 x.f0, .int .i64 x.f1, .slice A2 x.f2.length c2] ∧ x.f2.length ≤ c2 ∧ k53.C w A2 x.f2.length x.f2 := by
  obtain ⟨n, h⟩ := h
  cases n with
  | zero => exact h.elim
  | succ n =>
    obtain ⟨_, _, rfl, rfl, ⟨_, _, rfl, rfl, ⟨A2, c2, rfl, l2, g2⟩⟩⟩ := h
    exact ⟨A2, c2, rfl, l2, Kd.fix_C g2⟩
theorem k53_mk (w : World) (x : S53) {A2 : Option Addr} {c2 : Nat} (l2 : x.f2.length ≤ c2) (g2 : k53.C w A2 x.f2.length x.f2) : k53.K w x [.int .i64 x.f0, .int .i64 x.f1, .slice A2 x.f2.length c2] := by
  obtain ⟨n2, q2⟩ := Kd.fix_C_back mono53 g2
  have r2 := Kd.upto_C_le mono53 sz53 (show n2 ≤ n2 by omega) q2
  exact ⟨n2 + 1, ⟨[.int .i64 x.f0], [.int .i64 x.f1, .slice A2 x.f2.length c2], rfl, rfl, ⟨[.int .i64 x.f1], [.slice A2 x.f2.length c2], rfl, rfl, ⟨A2, c2, rfl, l2, r2⟩⟩⟩⟩
theorem k53_mkM (w : World) (base : Nat) (ok : Nat → Prop) (x : S53) {v2 : Value} (g2 : k53.R 53 w base ok v2 x.f2) : k53.M w base ok x [.int .i64 x.f0, .int .i64 x.f1, v2] := by
  obtain ⟨n2, q2⟩ := Kd.fix_R_back mono53 g2
  have r2 := Kd.upto_R_le mono53 sz53 (show n2 ≤ n2 by omega) q2
  exact ⟨n2 + 1, ⟨[.int .i64 x.f0], [.int .i64 x.f1, v2], rfl, rfl, ⟨[.int .i64 x.f1], [v2], rfl, rfl, ⟨v2, rfl, r2⟩⟩⟩⟩
theorem k53_openF {W : World} {ok : Nat → Prop} {x : S53} {cs : List Value} (h : Kd.FK k53 W ok x cs) : ∃ A2 c2, cs = [.int .i64 x.f0, .int .i64 x.f1, .slice A2 x.f2.length c2] ∧ x.f2.length ≤ c2 ∧ Kd.F k53 W ok A2 x.f2.length x.f2 := by
  obtain ⟨A2, c2, rfl, l2, _⟩ := k53_open (Kd.FK_now h)
  exact ⟨A2, c2, rfl, l2, (fun W' hW => by obtain ⟨A2_, c2_, he, l2_, g2_⟩ := k53_open (h W' hW); injection (Option.some.inj (show some (Value.slice A2 x.f2.length c2) = some (Value.slice A2_ x.f2.length c2_) from congrArg (fun l => l[2]?) he)) with ha_ _ _; rw [ha_]; exact g2_)⟩
theorem k53_mkF (W : World) (ok : Nat → Prop) (x : S53) {A2 : Option Addr} {c2 : Nat} (l2 : x.f2.length ≤ c2) (g2 : Kd.F k53 W ok A2 x.f2.length x.f2) : Kd.FK k53 W ok x [.int .i64 x.f0, .int .i64 x.f1, .slice A2 x.f2.length c2] := fun W2 hW => k53_mk W2 x l2 (g2 W2 hW)
def rd_T53 (xs : List S53) (i : Int) : S53 := xs.getD i.toNat z53
theorem at_T53 {w : World} {A : Option Addr} {n : Nat} {xs : List S53} (h : Kd.C k53 w A n xs) (i : Int) (h0 : 0 ≤ i) (h1 : i < n) : ∃ ad A2 c2, A = some ad ∧ w.cell? (ad.add (i.toNat * 3)) = some (.int .i64 (rd_T53 xs i).f0) ∧ w.cell? ⟨(ad.add (i.toNat * 3)).block, (ad.add (i.toNat * 3)).off + 1, none⟩ = some (.int .i64 (rd_T53 xs i).f1) ∧ w.cell? ⟨(ad.add (i.toNat * 3)).block, (ad.add (i.toNat * 3)).off + 2, none⟩ = some (.slice A2 (rd_T53 xs i).f2.length c2) ∧ (rd_T53 xs i).f2.length ≤ c2 ∧ k53.C w A2 (rd_T53 xs i).f2.length (rd_T53 xs i).f2 := by
  obtain ⟨ad, c, e, _, hK, hc0⟩ := Kd.C_get h z53 i h0 h1
  have hc : ∀ j u, c[j]? = some u → w.cell? (ad.add (i.toNat * 3 + j)) = some u := hc0
  obtain ⟨A2, c2, rfl, l2, g2⟩ := k53_open hK
  exact ⟨ad, A2, c2, e, hc 0 _ rfl, by rw [← add_field _ _ 1 (by omega)]; exact hc 1 _ rfl, by rw [← add_field _ _ 2 (by omega)]; exact hc 2 _ rfl, l2, g2⟩

structure S45 where
  f0 : Int
  f1 : Int
  f2 : (List S45)
def z45 : S45 := ⟨(0 : Int), (0 : Int), ([] : List S45)⟩
def F45 (d : Kd S45) : Kd S45 := Kd.iso (Kd.pair (Kd.int .i64) (Kd.pair (Kd.int .i64) (Kd.slice 45 d))) (fun x : S45 => (x.f0, x.f1, x.f2))
theorem mono45 : Kd.Mono F45 := Kd.mono_iso _ (Kd.mono_pair (Kd.mono_const _) (Kd.mono_pair (Kd.mono_const _) (Kd.mono_slice 45 Kd.mono_id)))
theorem sub45 : Kd.Sub F45 [45] := Kd.sub_iso _ (Kd.sub_pair (Kd.sub_const _ (by decide)) (Kd.sub_pair (Kd.sub_const _ (by decide)) (Kd.sub_slice 45 (by decide) Kd.sub_id)))
theorem sz45 : ∀ n, (Kd.upto F45 3 [45] n).sz = 3 := Kd.upto_sz (fun _ => rfl)
def k45 : Kd S45 := Kd.fix F45 3 [45] sz45 (Kd.upto_E sub45)
theorem k45_open {w : World} {x : S45} {cs : List Value} (h : k45.K w x cs) : ∃ A2 c2, cs = [.int .i64 x.f0, .int .i64 x.f1, .slice A2 x.f2.length c2] ∧ x.f2.length ≤ c2 ∧ k45.C w A2 x.f2.length x.f2 := by
  obtain ⟨n, h⟩ := h
  cases n with
  | zero => exact h.elim
  | succ n =>
    obtain ⟨_, _, rfl, rfl, ⟨_, _, rfl, rfl, ⟨A2, c2, rfl, l2, g2⟩⟩⟩ := h
    exact ⟨A2, c2, rfl, l2, Kd.fix_C g2⟩
theorem k45_mk (w : World) (x : S45) {A2 : Option Addr} {c2 : Nat} (l2 : x.f2.length ≤ c2) (g2 : k45.C w A2 x.f2.length x.f2) : k45.K w x [.int .i64 x.f0, .int .i64 x.f1, .slice A2 x.f2.length c2] := by
  obtain ⟨n2, q2⟩ := Kd.fix_C_back mono45 g2
  have r2 := Kd.upto_C_le mono45 sz45 (show n2 ≤ n2 by omega) q2
  exact ⟨n2 + 1, ⟨[.int .i64 x.f0], [.int .i64 x.f1, .slice A2 x.f2.length c2], rfl, rfl, ⟨[.int .i64 x.f1], [.slice A2 x.f2.length c2], rfl, rfl, ⟨A2, c2, rfl, l2, r2⟩⟩⟩⟩
theorem k45_mkM (w : World) (base : Nat) (ok : Nat → Prop) (x : S45) {v2 : Value} (g2 : k45.R 45 w base ok v2 x.f2) : k45.M w base ok x [.int .i64 x.f0, .int .i64 x.f1, v2] := by
  obtain ⟨n2, q2⟩ := Kd.fix_R_back mono45 g2
  have r2 := Kd.upto_R_le mono45 sz45 (show n2 ≤ n2 by omega) q2
  exact ⟨n2 + 1, ⟨[.int .i64 x.f0], [.int .i64 x.f1, v2], rfl, rfl, ⟨[.int .i64 x.f1], [v2], rfl, rfl, ⟨v2, rfl, r2⟩⟩⟩⟩
theorem k45_openF {W : World} {ok : Nat → Prop} {x : S45} {cs : List Value} (h : Kd.FK k45 W ok x cs) : ∃ A2 c2, cs = [.int .i64 x.f0, .int .i64 x.f1, .slice A2 x.f2.length c2] ∧ x.f2.length ≤ c2 ∧ Kd.F k45 W ok A2 x.f2.length x.f2 := by
  obtain ⟨A2, c2, rfl, l2, _⟩ := k45_open (Kd.FK_now h)
  exact ⟨A2, c2, rfl, l2, (fun W' hW => by obtain ⟨A2_, c2_, he, l2_, g2_⟩ := k45_open (h W' hW); injection (Option.some.inj (show some (Value.slice A2 x.f2.length c2) = some (Value.slice A2_ x.f2.length c2_) from congrArg (fun l => l[2]?) he)) with ha_ _ _; rw [ha_]; exact g2_)⟩
theorem k45_mkF (W : World) (ok : Nat → Prop) (x : S45) {A2 : Option Addr} {c2 : Nat} (l2 : x.f2.length ≤ c2) (g2 : Kd.F k45 W ok A2 x.f2.length x.f2) : Kd.FK k45 W ok x [.int .i64 x.f0, .int .i64 x.f1, .slice A2 x.f2.length c2] := fun W2 hW => k45_mk W2 x l2 (g2 W2 hW)
def rd_T45 (xs : List S45) (i : Int) : S45 := xs.getD i.toNat z45
theorem at_T45 {w : World} {A : Option Addr} {n : Nat} {xs : List S45} (h : Kd.C k45 w A n xs) (i : Int) (h0 : 0 ≤ i) (h1 : i < n) : ∃ ad A2 c2, A = some ad ∧ w.cell? (ad.add (i.toNat * 3)) = some (.int .i64 (rd_T45 xs i).f0) ∧ w.cell? ⟨(ad.add (i.toNat * 3)).block, (ad.add (i.toNat * 3)).off + 1, none⟩ = some (.int .i64 (rd_T45 xs i).f1) ∧ w.cell? ⟨(ad.add (i.toNat * 3)).block, (ad.add (i.toNat * 3)).off + 2, none⟩ = some (.slice A2 (rd_T45 xs i).f2.length c2) ∧ (rd_T45 xs i).f2.length ≤ c2 ∧ k45.C w A2 (rd_T45 xs i).f2.length (rd_T45 xs i).f2 := by
  obtain ⟨ad, c, e, _, hK, hc0⟩ := Kd.C_get h z45 i h0 h1
  have hc : ∀ j u, c[j]? = some u → w.cell? (ad.add (i.toNat * 3 + j)) = some u := hc0
  obtain ⟨A2, c2, rfl, l2, g2⟩ := k45_open hK
  exact ⟨ad, A2, c2, e, hc 0 _ rfl, by rw [← add_field _ _ 1 (by omega)]; exact hc 1 _ rfl, by rw [← add_field _ _ 2 (by omega)]; exact hc 2 _ rfl, l2, g2⟩

end Go.Proofs.YthfkimbmepmelaaDoor.G

namespace Go.Proofs
open Go.Shelf
def Tryd.laysC172_ren : Go.Shelf.Ren := ⟨fun | 172 => 38 | 244 => 50 | 245 => 51 | 247 => 55 | 279 => 56 | 280 => 57 | 281 => 58 | 282 => 59 | 287 => 64 | 316 => 65 | 171 => 32 | 205 => 66 | 321 => 72 | 322 => 73 | 243 => 48 | 246 => 53 | 283 => 60 | 284 => 61 | 285 => 62 | 286 => 63 | 129 => 68 | 317 => 67 | 318 => 69 | 319 => 70 | 320 => 71 | 337 => 74 | 338 => 75 | n => n, fun | 9 => 9 | 3 => 3 | 75 => 78 | 76 => 79 | 4 => 4 | 5 => 5 | 167 => 92 | 37 => 22 | 0 => 0 | 85 => 93 | 2 => 2 | 168 => 95 | 53 => 36 | 175 => 103 | 46 => 89 | 210 => 107 | 127 => 116 | 145 => 119 | 143 => 117 | 21 => 21 | 171 => 98 | 173 => 101 | 212 => 110 | 51 => 111 | 20 => 20 | 213 => 112 | 232 => 121 | 233 => 122 | 80 => 48 | n => n, fun | 15 => 0 | 16 => 1 | 17 => 2 | 18 => 3 | 19 => 4 | n => n⟩
theorem Tryd.laysC172 : Go.Proofs.LaysC.n172 Tryd.prog Tryd.laysC172_ren := {
 mixed := by kernel_rfl
 f129 := Tryd.func68.trans (congrArg some (by kernel_rfl))
 f171 := Tryd.func32.trans (congrArg some (by kernel_rfl))
 f172 := Tryd.func38.trans (congrArg some (by kernel_rfl))
 f205 := Tryd.func66.trans (congrArg some (by kernel_rfl))
 f243 := Tryd.func48.trans (congrArg some (by kernel_rfl))
 f244 := Tryd.func50.trans (congrArg some (by kernel_rfl))
 f245 := Tryd.func51.trans (congrArg some (by kernel_rfl))
 f246 := Tryd.func53.trans (congrArg some (by kernel_rfl))
 f247 := Tryd.func55.trans (congrArg some (by kernel_rfl))
 f279 := Tryd.func56.trans (congrArg some (by kernel_rfl))
 f280 := Tryd.func57.trans (congrArg some (by kernel_rfl))
 f281 := Tryd.func58.trans (congrArg some (by kernel_rfl))
 f282 := Tryd.func59.trans (congrArg some (by kernel_rfl))
 f283 := Tryd.func60.trans (congrArg some (by kernel_rfl))
 f284 := Tryd.func61.trans (congrArg some (by kernel_rfl))
 f285 := Tryd.func62.trans (congrArg some (by kernel_rfl))
 f286 := Tryd.func63.trans (congrArg some (by kernel_rfl))
 f287 := Tryd.func64.trans (congrArg some (by kernel_rfl))
 f316 := Tryd.func65.trans (congrArg some (by kernel_rfl))
 f317 := Tryd.func67.trans (congrArg some (by kernel_rfl))
 f318 := Tryd.func69.trans (congrArg some (by kernel_rfl))
 f319 := Tryd.func70.trans (congrArg some (by kernel_rfl))
 f320 := Tryd.func71.trans (congrArg some (by kernel_rfl))
 f321 := Tryd.func72.trans (congrArg some (by kernel_rfl))
 f322 := Tryd.func73.trans (congrArg some (by kernel_rfl))
 f337 := Tryd.func74.trans (congrArg some (by kernel_rfl))
 f338 := Tryd.func75.trans (congrArg some (by kernel_rfl))
 t0 := Tryd.underlying0
 a0 := Tryd.isAgg0
 z0 := Tryd.sizeOf0
 v0 := Tryd.zeroValue0
 t2 := Tryd.underlying2
 a2 := Tryd.isAgg2
 z2 := Tryd.sizeOf2
 v2 := Tryd.zeroValue2
 t3 := Tryd.underlying3
 a3 := Tryd.isAgg3
 z3 := Tryd.sizeOf3
 v3 := Tryd.zeroValue3
 t4 := Tryd.underlying4
 a4 := Tryd.isAgg4
 z4 := Tryd.sizeOf4
 v4 := Tryd.zeroValue4
 t5 := Tryd.underlying5
 a5 := Tryd.isAgg5
 z5 := Tryd.sizeOf5
 v5 := Tryd.zeroValue5
 t9 := Tryd.underlying9
 a9 := Tryd.isAgg9
 z9 := Tryd.sizeOf9
 v9 := Tryd.zeroValue9
 t20 := Tryd.underlying20
 a20 := Tryd.isAgg20
 z20 := Tryd.sizeOf20
 v20 := Tryd.zeroValue20
 t21 := Tryd.underlying21
 a21 := Tryd.isAgg21
 z21 := Tryd.sizeOf21
 v21 := Tryd.zeroValue21
 t37 := Tryd.underlying22
 a37 := Tryd.isAgg22
 z37 := Tryd.sizeOf22
 v37 := Tryd.zeroValue22
 t46 := Tryd.underlying89
 a46 := Tryd.isAgg89
 z46 := Tryd.sizeOf89
 v46 := Tryd.zeroValue89
 t51 := Tryd.underlying111
 a51 := Tryd.isAgg111
 z51 := Tryd.sizeOf111
 v51 := Tryd.zeroValue111
 t53 := Tryd.underlying36
 a53 := Tryd.isAgg36
 z53 := Tryd.sizeOf36
 v53 := Tryd.zeroValue36
 t75 := Tryd.underlying78
 a75 := Tryd.isAgg78
 z75 := Tryd.sizeOf78
 v75 := Tryd.zeroValue78
 t76 := Tryd.underlying79
 a76 := Tryd.isAgg79
 z76 := Tryd.sizeOf79
 v76 := Tryd.zeroValue79
 t85 := Tryd.underlying93
 a85 := Tryd.isAgg93
 z85 := Tryd.sizeOf93
 v85 := Tryd.zeroValue93
 t127 := Tryd.underlying116
 a127 := Tryd.isAgg116
 z127 := Tryd.sizeOf116
 v127 := Tryd.zeroValue116
 t143 := Tryd.underlying117
 a143 := Tryd.isAgg117
 z143 := Tryd.sizeOf117
 v143 := Tryd.zeroValue117
 t145 := Tryd.underlying119
 a145 := Tryd.isAgg119
 z145 := Tryd.sizeOf119
 v145 := Tryd.zeroValue119
 t167 := Tryd.underlying92
 a167 := Tryd.isAgg92
 z167 := Tryd.sizeOf92
 v167 := Tryd.zeroValue92
 t168 := Tryd.underlying95
 a168 := Tryd.isAgg95
 z168 := Tryd.sizeOf95
 v168 := Tryd.zeroValue95
 t171 := Tryd.underlying98
 a171 := Tryd.isAgg98
 z171 := Tryd.sizeOf98
 v171 := Tryd.zeroValue98
 t173 := Tryd.underlying101
 a173 := Tryd.isAgg101
 z173 := Tryd.sizeOf101
 v173 := Tryd.zeroValue101
 t175 := Tryd.underlying103
 a175 := Tryd.isAgg103
 z175 := Tryd.sizeOf103
 v175 := Tryd.zeroValue103
 t210 := Tryd.underlying107
 a210 := Tryd.isAgg107
 z210 := Tryd.sizeOf107
 v210 := Tryd.zeroValue107
 t212 := Tryd.underlying110
 a212 := Tryd.isAgg110
 z212 := Tryd.sizeOf110
 v212 := Tryd.zeroValue110
 t213 := Tryd.underlying112
 a213 := Tryd.isAgg112
 z213 := Tryd.sizeOf112
 t232 := Tryd.underlying121
 a232 := Tryd.isAgg121
 z232 := Tryd.sizeOf121
 v232 := Tryd.zeroValue121
 t233 := Tryd.underlying122
 a233 := Tryd.isAgg122
 z233 := Tryd.sizeOf122
 v233 := Tryd.zeroValue122
 g15 := by kernel_rfl
 g16 := by kernel_rfl
 g17 := by kernel_rfl
 g18 := by kernel_rfl
 g19 := by kernel_rfl
 t80 := Tryd.underlying48
 a80 := Tryd.isAgg48
 z80 := Tryd.sizeOf48
 v80 := Tryd.zeroValue48
 i0 := by kernel_rfl
 i2 := by kernel_rfl
 i3 := by kernel_rfl
 i4 := by kernel_rfl
 i5 := by kernel_rfl
 i9 := by kernel_rfl
 i20 := by kernel_rfl
 i21 := by kernel_rfl
 i37 := by kernel_rfl
 i46 := by kernel_rfl
 i51 := by kernel_rfl
 i53 := by kernel_rfl
 i75 := by kernel_rfl
 i76 := by kernel_rfl
 i80 := by kernel_rfl
 i85 := by kernel_rfl
 i127 := by kernel_rfl
 i143 := by kernel_rfl
 i145 := by kernel_rfl
 i167 := by kernel_rfl
 i168 := by kernel_rfl
 i171 := by kernel_rfl
 i173 := by kernel_rfl
 i175 := by kernel_rfl
 i210 := by kernel_rfl
 i212 := by kernel_rfl
 i232 := by kernel_rfl
 i233 := by kernel_rfl
 m15 := by kernel_rfl
 m16 := by kernel_rfl
 m17 := by kernel_rfl
 m18 := by kernel_rfl
 m19 := by kernel_rfl
 c0 := by kernel_rfl
 c2 := by kernel_rfl
 c3 := by kernel_rfl
 c4 := by kernel_rfl
 c5 := by kernel_rfl
 c9 := by kernel_rfl
 c20 := by kernel_rfl
 c21 := by kernel_rfl
 c37 := by kernel_rfl
 c46 := by kernel_rfl
 c51 := by kernel_rfl
 c53 := by kernel_rfl
 c75 := by kernel_rfl
 c76 := by kernel_rfl
 c80 := by kernel_rfl
 c85 := by kernel_rfl
 c127 := by kernel_rfl
 c143 := by kernel_rfl
 c145 := by kernel_rfl
 c167 := by kernel_rfl
 c168 := by kernel_rfl
 c171 := by kernel_rfl
 c173 := by kernel_rfl
 c175 := by kernel_rfl
 c210 := by kernel_rfl
 c212 := by kernel_rfl
 c213 := by kernel_rfl
 c232 := by kernel_rfl
 c233 := by kernel_rfl }
end Go.Proofs
namespace Go.Proofs.YthfkimbmepmelaaDoor.G
open Go.RowKit Go.Shelf Go.Proofs.YthfkimbmepmelaaDoorW.PrintWords
set_option linter.unusedVariables false

theorem var_below {n : String} {cs : Array Value} {w w' : World} (h : w.var? Tryd.prog n = some cs) (hb : Below w.heap.size w w') : w'.var? Tryd.prog n = some cs := by
  rw [← h]
  unfold World.var?
  cases hg : Tryd.prog.globalNamed n with
  | none => rfl
  | some g =>
    have hlt : g < w.heap.size := by
      rcases Nat.lt_or_ge g w.heap.size with h' | h'
      · exact h'
      · exfalso
        unfold World.var? at h
        rw [hg] at h
        simp [Array.getElem?_eq_none h'] at h
    simp [hb.block g hlt]
structure LibMet (w : World) : Prop where
  wrong : ∃ tp p, w.var? Tryd.prog "strconv.ErrSyntax" = some #[.iface tp p]
  range : ∃ tp p, w.var? Tryd.prog "strconv.ErrRange" = some #[.iface tp p]
theorem LibMet.below {w w' : World} (h : LibMet w) (hb : Below w.heap.size w w') : LibMet w' where
  wrong := by obtain ⟨t, p, h⟩ := h.wrong; exact ⟨t, p, var_below h hb⟩
  range := by obtain ⟨t, p, h⟩ := h.range; exact ⟨t, p, var_below h hb⟩
end Go.Proofs.YthfkimbmepmelaaDoor.G

namespace Go.Proofs.YthfkimbmepmelaaDoor.G
open Go.RowKit Go.Proofs.YthfkimbmepmelaaDoorW.PrintWords Go.Proofs.YthfkimbmepmelaaDoorW.PrintLast Go.Proofs.YthfkimbmepmelaaDoorW.PrintMore Go.Proofs.YthfkimbmepmelaaDoor.Short
section
variable {α : Type} {d : Kd α} {e base n c g a b : Nat} {ok : Nat → Prop} {W w1 w0 : World} {A : Option Addr} {u v : Value} {xs : List α} {o : Obj}
theorem qb (h : Aside0 (W.heap[g]? = some o)) (hb : Below W.heap.size W w1) : Aside0 (w1.heap[g]? = some o) := ⟨blk_below h.out hb⟩
theorem qv (h : Aside0 (Kd.V d e W base ok v xs)) (hg : a = W.heap.size) (hb : Below W.heap.size W w1) : Aside0 (Kd.V d e w1 base (fun k => ok k ∧ k ≠ a) v xs) := ⟨Kd.V_below (Kd.V_elderB h.out a (Nat.le_of_eq hg.symm)) hb⟩
theorem qn (h : Aside0 (Kd.N d e W base ok v xs)) (hg : a = W.heap.size) (hb : Below W.heap.size W w1) : Aside0 (Kd.N d e w1 base (fun k => ok k ∧ k ≠ a) v xs) := ⟨Kd.N_below (Kd.N_elderB h.out a (Nat.le_of_eq hg.symm)) hb⟩
theorem qe (h : Aside0 (Kd.V d e W base ok v xs)) (hbase : ∀ k, u.ownBlock = some k → W.heap.size ≤ k) (hb : Below W.heap.size W w1) : Aside0 (Kd.V d e w1 base (fun k => ok k ∧ some k ≠ u.ownBlock) v xs) := ⟨Kd.V_elder' h.out hbase hb⟩
theorem qs (h : Aside0 (Below w0.heap.size w0 W)) (hb : Below W.heap.size W w1) : Aside0 (Below w0.heap.size w0 w1) := ⟨below_step h.out hb⟩
theorem qw (h : Aside0 (Below w0.heap.size w0 W)) (hg : a = W.heap.size) : Aside0 (w0.heap.size ≤ a) := ⟨by rw [hg]; exact below_size h.out⟩
theorem ql (h : Aside0 (W.heap[g]? = some o)) (hg : a = W.heap.size) : Aside0 (g ≠ a) := ⟨by rw [hg]; exact Nat.ne_of_lt (blk_lt h.out)⟩
theorem qg (h : Aside0 (W.heap[g]? = some o)) (hg : a = W.heap.size) : Aside0 (a ≠ g) := ⟨by rw [hg]; exact Nat.ne_of_gt (blk_lt h.out)⟩
theorem qr (h : Aside0 (Kd.V d e W base ok (.slice A n c) xs)) (hb : Below W.heap.size W w1) : Aside0 (d.C w1 A xs.length xs) := ⟨Kd.C_below (Kd.V_reads' h.out).2.2 hb⟩
theorem qc (h : Aside0 (d.C W A n xs)) (hb : Below W.heap.size W w1) : Aside0 (d.C w1 A n xs) := ⟨Kd.C_below h.out hb⟩
end
theorem vC {α : Type} {d : Kd α} {e n c : Nat} {W : World} {base : Nat} {ok : Nat → Prop} {A : Option Addr} {xs : List α} (h : Kd.V d e W base ok (.slice A n c) xs) : d.C W A xs.length xs := (Kd.V_reads' h).2.2
theorem aK {p : Prop} (h : p) : Aside0 p := ⟨h⟩
theorem zN {w : World} {g : Nat} {o : Obj} (h : w.heap[g]? = some o) (n : Nat) : (w.drewN n).heap[g]? = some o := blk_drewN h n
theorem zD {w : World} {g : Nat} {o : Obj} (h : w.heap[g]? = some o) : w.drew.heap[g]? = some o := blk_drew h
theorem zA {w : World} {g : Nat} {o : Obj} (h : w.heap[g]? = some o) (o' : Obj) : (w.alloc o').heap[g]? = some o := blk_alloc h o'
theorem pB {A B : Prop} (h : Aside0 A) (k : A → B := by intro h; (with_reducible repeat (first | refine bN ?_ _ | refine bD ?_ | refine bA ?_ _)); exact h) : B := k h.out
theorem pH {A B : Prop} (h : Aside0 A) (k : A → B := by intro h; repeat (first | (with_reducible first | exact h | apply below_alloc | apply pw_below_drewN | apply below_drew1 | refine below_set ?_ (Aside0.out (by assumption))) | exact h)) : B := k h.out
theorem sC {A B : Prop} (h : A) (k : A → B := by intro h; repeat (first | exact h | (with_reducible refine Kd.C_alloc ?_ _) | (with_reducible refine Kd.C_drewN ?_ _) | (with_reducible refine Kd.C_drew ?_))) : B := k h
theorem eW {B : Prop} (h : B := by first | rfl | (simp [errW_none, errW_some] <;> rfl) | (simp [*, errW_none, errW_some] <;> rfl)) : B := h
theorem tA {B : Prop} (h : B := by (try simp only [List.map_toArray, List.map_cons, List.map_nil]); first | done | rfl) : B := h
theorem dA {p : Prop} [Decidable p] (h : decide p = true := by first | (with_reducible assumption) | assumption) : p := of_decide_eq_true h
theorem rS {B : Prop} (h : B := by first | rfl | (simp; done) | (simp [*]; done)) : B := h
theorem nG {w : World} {p q : Addr} {x : Value} {b : Nat} (h : w.cell? p = some x) (l : Aside0 (w.heap.size ≤ b)) (e : p.block = q.block := by first | rfl | exact add_block _ _ | exact (add_block _ _).symm | exact (add_block _ _).trans (add_block _ _).symm | (dsimp only; exact add_block _ _) | simp [add_block]) : q.block ≠ b := e ▸ Nat.ne_of_lt (Nat.lt_of_lt_of_le (World.block_lt_of_cell? w _ h) l.out)
theorem k30 {w : World} {g : Nat} {t : TypeId} {x y z : Value} (h : Aside0 (w.heap[g]? = some (.cells #[x, y, z] t (0, 0)))) : w.cell? ⟨g, 0, none⟩ = some x := (blk_cell h.out 0).trans rfl
theorem k31 {w : World} {g : Nat} {t : TypeId} {x y z : Value} (h : Aside0 (w.heap[g]? = some (.cells #[x, y, z] t (0, 0)))) : w.cell? ⟨g, 1, none⟩ = some y := (blk_cell h.out 1).trans rfl
theorem k32 {w : World} {g : Nat} {t : TypeId} {x y z : Value} (h : Aside0 (w.heap[g]? = some (.cells #[x, y, z] t (0, 0)))) : w.cell? ⟨g, 2, none⟩ = some z := (blk_cell h.out 2).trans rfl
theorem fz {w : World} {g : Nat} {t : TypeId} {cs : Array Value} (h : Aside0 (w.heap[g]? = some (.cells cs t (0, 0)))) (i : Nat) : w.frozen? ⟨g, i, none⟩ = false := blk_frozen h.out i
theorem cA3 {w : World} {g : Nat} {t : TypeId} {x y z : Value} (h : Aside0 (w.heap[g]? = some (.cells #[x, y, z] t (0, 0)))) : w.cell? ⟨g, 0, none⟩ = some x ∧ w.cell? ⟨g, 1, none⟩ = some y ∧ w.cell? ⟨g, 2, none⟩ = some z ∧ w.frozen? ⟨g, 0, none⟩ = false ∧ w.frozen? ⟨g, 1, none⟩ = false ∧ w.frozen? ⟨g, 2, none⟩ = false := ⟨k30 h, k31 h, k32 h, fz h 0, fz h 1, fz h 2⟩
theorem cF3 {w : World} {q : Addr} {g i j k : Nat} {x y z v : Value} (hn : q.block ≠ g) (h : w.cell? q = some v) : (((w.setCell ⟨g, i, none⟩ x).setCell ⟨g, j, none⟩ y).setCell ⟨g, k, none⟩ z).cell? q = some v := (cell_far (p := ⟨g, _, none⟩) hn _).trans ((cell_far (p := ⟨g, _, none⟩) hn _).trans ((cell_far (p := ⟨g, _, none⟩) hn _).trans h))
theorem p3 {w : World} {g : Nat} {t : TypeId} {a b c x y z : Value} {B : Prop} (h : Aside0 (w.heap[g]? = some (.cells #[a, b, c] t (0, 0)))) (k : (((w.setCell ⟨g, 0, none⟩ x).setCell ⟨g, 1, none⟩ y).setCell ⟨g, 2, none⟩ z).heap[g]? = some (.cells #[x, y, z] t (0, 0)) → B := by intro h; (with_reducible repeat first | apply zN | apply zD | apply zA); exact h) : B := k (blk_put (blk_put (blk_put h.out 0 x rfl) 1 y rfl) 2 z rfl)
theorem vF3 {α : Type} {d : Kd α} {e base : Nat} {W : World} {ok : Nat → Prop} {v x y z : Value} {xs : List α} (g : Nat) (h : Kd.V d e W base ok v xs) (hok : ∀ k, ok k → k ≠ g) : Kd.V d e (((W.setCell ⟨g, 0, none⟩ x).setCell ⟨g, 1, none⟩ y).setCell ⟨g, 2, none⟩ z) base ok v xs := Kd.V_far (Kd.V_far (Kd.V_far h (p := ⟨g, 0, none⟩) hok x) (p := ⟨g, 1, none⟩) hok y) (p := ⟨g, 2, none⟩) hok z
theorem nF3 {α : Type} {d : Kd α} {e base : Nat} {W : World} {ok : Nat → Prop} {v x y z : Value} {xs : List α} (g : Nat) (h : Kd.N d e W base ok v xs) (hok : ∀ k, ok k → k ≠ g) : Kd.N d e (((W.setCell ⟨g, 0, none⟩ x).setCell ⟨g, 1, none⟩ y).setCell ⟨g, 2, none⟩ z) base ok v xs := Kd.N_far (Kd.N_far (Kd.N_far h (p := ⟨g, 0, none⟩) hok x) (p := ⟨g, 1, none⟩) hok y) (p := ⟨g, 2, none⟩) hok z
abbrev bs (a b : Nat) : Array Bool := (List.replicate a true ++ List.replicate b false).toArray
theorem sP : (∀ (a : Act) (d : Tmp) (v : Value), a.put (some d) v = { a with tmps := a.tmps.setIfInBounds d v }) ∧ (∀ (a : Act) (v : Value), a.put none v = a) ∧ (∀ (l : List Value) (i : Nat) (x : Value), l.toArray.setIfInBounds i x = (l.set i x).toArray) ∧ (∀ (x y : Value) (l : List Value), (x :: l).set 0 y = y :: l) ∧ (∀ (x y : Value) (l : List Value) (n : Nat), (x :: l).set (n + 1) y = x :: l.set n y) := ⟨fun _ _ _ => rfl, fun _ _ => rfl, fun _ _ _ => List.setIfInBounds_toArray .., fun _ _ _ => rfl, fun _ _ _ _ => rfl⟩
theorem uC {w w1 : World} {p : Addr} {v : Value} (b : Aside0 (Below w.heap.size w w1)) (h : w.cell? p = some v) : w1.cell? p = some v := (b.out.cell (World.block_lt_of_cell? w p h)).trans h
theorem bE {P : Program} {ops : Array Oper} {rest : List Oper} {o : Oper} {a : Act} {Q : Exit → Act → World → Prop} {W : World} {N : Tmp} {cs : Array Value} {t : TypeId}
    (h : ∀ g, g = W.heap.size → ∀ w1, w1.heap[g]? = some (.cells cs t (0, 0)) → Below W.heap.size W w1 → wpList P ops Q rest (a.put o.dst (.pointer (some ⟨g, 0, none⟩))) w1)
    (hd : o.dst = some N := by rfl) (hgd : o.guard = none := by rfl) (hrun : (execOp a.eval o).run P W = .ok (.value (.pointer (some ⟨W.heap.size, 0, none⟩))) (W.alloc (.cells cs t (0, 0))) := by go_simp) : wpList P ops Q (o :: rest) a W := box_event hgd hd hrun h
end Go.Proofs.YthfkimbmepmelaaDoor.G

namespace Go.Proofs
open Go.Shelf
def Tryd.laysM171_ren : Go.Shelf.Ren := ⟨fun | 171 => 32 | 243 => 48 | 246 => 53 | 283 => 60 | 284 => 61 | 285 => 62 | 286 => 63 | 129 => 68 | 317 => 67 | 318 => 69 | 319 => 70 | 320 => 71 | 337 => 74 | 338 => 75 | n => n, fun | 3 => 3 | 9 => 9 | 2 => 2 | 4 => 4 | 171 => 98 | 0 => 0 | 53 => 36 | 37 => 22 | 5 => 5 | 173 => 101 | 212 => 110 | 51 => 111 | 20 => 20 | 213 => 112 | 46 => 89 | 232 => 121 | 233 => 122 | n => n, fun | 17 => 2 | 18 => 3 | 19 => 4 | n => n⟩
theorem Tryd.laysM171 : Go.Proofs.LaysM.n171 Tryd.prog Tryd.laysM171_ren := {
 mixed := by kernel_rfl
 f129 := Tryd.func68.trans (congrArg some (by kernel_rfl))
 f171 := Tryd.func32.trans (congrArg some (by kernel_rfl))
 f243 := Tryd.func48.trans (congrArg some (by kernel_rfl))
 f246 := Tryd.func53.trans (congrArg some (by kernel_rfl))
 f283 := Tryd.func60.trans (congrArg some (by kernel_rfl))
 f284 := Tryd.func61.trans (congrArg some (by kernel_rfl))
 f285 := Tryd.func62.trans (congrArg some (by kernel_rfl))
 f286 := Tryd.func63.trans (congrArg some (by kernel_rfl))
 f317 := Tryd.func67.trans (congrArg some (by kernel_rfl))
 f318 := Tryd.func69.trans (congrArg some (by kernel_rfl))
 f319 := Tryd.func70.trans (congrArg some (by kernel_rfl))
 f320 := Tryd.func71.trans (congrArg some (by kernel_rfl))
 f337 := Tryd.func74.trans (congrArg some (by kernel_rfl))
 f338 := Tryd.func75.trans (congrArg some (by kernel_rfl))
 t0 := Tryd.underlying0
 a0 := Tryd.isAgg0
 z0 := Tryd.sizeOf0
 v0 := Tryd.zeroValue0
 t2 := Tryd.underlying2
 a2 := Tryd.isAgg2
 z2 := Tryd.sizeOf2
 v2 := Tryd.zeroValue2
 t3 := Tryd.underlying3
 a3 := Tryd.isAgg3
 z3 := Tryd.sizeOf3
 v3 := Tryd.zeroValue3
 t4 := Tryd.underlying4
 a4 := Tryd.isAgg4
 z4 := Tryd.sizeOf4
 v4 := Tryd.zeroValue4
 t5 := Tryd.underlying5
 a5 := Tryd.isAgg5
 z5 := Tryd.sizeOf5
 v5 := Tryd.zeroValue5
 t9 := Tryd.underlying9
 a9 := Tryd.isAgg9
 z9 := Tryd.sizeOf9
 v9 := Tryd.zeroValue9
 t20 := Tryd.underlying20
 a20 := Tryd.isAgg20
 z20 := Tryd.sizeOf20
 v20 := Tryd.zeroValue20
 t37 := Tryd.underlying22
 a37 := Tryd.isAgg22
 z37 := Tryd.sizeOf22
 v37 := Tryd.zeroValue22
 t46 := Tryd.underlying89
 a46 := Tryd.isAgg89
 z46 := Tryd.sizeOf89
 v46 := Tryd.zeroValue89
 t51 := Tryd.underlying111
 a51 := Tryd.isAgg111
 z51 := Tryd.sizeOf111
 v51 := Tryd.zeroValue111
 t53 := Tryd.underlying36
 a53 := Tryd.isAgg36
 z53 := Tryd.sizeOf36
 v53 := Tryd.zeroValue36
 t171 := Tryd.underlying98
 a171 := Tryd.isAgg98
 z171 := Tryd.sizeOf98
 v171 := Tryd.zeroValue98
 t173 := Tryd.underlying101
 a173 := Tryd.isAgg101
 z173 := Tryd.sizeOf101
 v173 := Tryd.zeroValue101
 t212 := Tryd.underlying110
 a212 := Tryd.isAgg110
 z212 := Tryd.sizeOf110
 v212 := Tryd.zeroValue110
 t213 := Tryd.underlying112
 a213 := Tryd.isAgg112
 z213 := Tryd.sizeOf112
 t232 := Tryd.underlying121
 a232 := Tryd.isAgg121
 z232 := Tryd.sizeOf121
 v232 := Tryd.zeroValue121
 t233 := Tryd.underlying122
 a233 := Tryd.isAgg122
 z233 := Tryd.sizeOf122
 v233 := Tryd.zeroValue122
 g17 := by kernel_rfl
 g18 := by kernel_rfl
 g19 := by kernel_rfl
 i0 := by kernel_rfl
 i2 := by kernel_rfl
 i3 := by kernel_rfl
 i4 := by kernel_rfl
 i5 := by kernel_rfl
 i9 := by kernel_rfl
 i20 := by kernel_rfl
 i37 := by kernel_rfl
 i46 := by kernel_rfl
 i51 := by kernel_rfl
 i53 := by kernel_rfl
 i171 := by kernel_rfl
 i173 := by kernel_rfl
 i212 := by kernel_rfl
 i232 := by kernel_rfl
 i233 := by kernel_rfl
 m17 := by kernel_rfl
 m18 := by kernel_rfl
 m19 := by kernel_rfl }
end Go.Proofs
namespace Go.Proofs.YthfkimbmepmelaaDoor.G
open Go.RowKit Go.Shelf Go.Sort Go.Proofs.YthfkimbmepmelaaDoorW.PrintWords
set_option linter.unusedVariables false

def Tab (w : World) : Prop := Lib.TabIs Tryd.prog w "internal/strconv.uint64pow10" .u64 Lib.pow10Tab
theorem Tab.below {w w' : World} (h : Tab w) (hb : Below w.heap.size w w') : Tab w' := by
 unfold Tab Lib.TabIs at *
 rw [← h]
 unfold World.var?
 cases hg : Tryd.prog.globalNamed "internal/strconv.uint64pow10" with
 | none => rfl
 | some g =>
  have hlt : g < w.heap.size := by
   rcases Nat.lt_or_ge g w.heap.size with h' | h'
   ·exact h'
   ·exfalso
    unfold World.var? at h
    rw [hg] at h
    simp [Array.getElem?_eq_none h'] at h
  simp [hb.block g hlt]
def strconv_Itoa_32.f (a0 : Int) : Option (ByteArray) := if 0 ≤ a0 ∧ a0 ≤ 9223372036854775807 then some ⟨(Lib.decDigits a0.toNat).toArray⟩ else none
theorem strconv_Itoa_32.calls (a0 : Int) (r : ByteArray) (w : World) (h : strconv_Itoa_32.f a0 = some r) (hT : Tab w) :
  Calls Tryd.prog 32 #[.int .i64 a0] w fun e w' => e = .returned (.string r) ∧ Below w.heap.size w w' := by
 unfold strconv_Itoa_32.f at h
 by_cases c : 0 ≤ a0 ∧ a0 ≤ 9223372036854775807
 case neg => rw [if_neg c] at h; cases h
 rw [if_pos c] at h
 obtain rfl := Option.some.inj h
 refine (Any.strconv_Itoa Tryd.laysM171 a0 (by omega) c.2 w hT).mono ?_
 rintro e w' ⟨rfl, k, os, rfl⟩
 refine ⟨?_, ?_⟩
 ·obtain ⟨i, rfl⟩ : ∃ i : Nat, a0 = i := ⟨a0.toNat, by omega⟩
  rw [Lib.itoa_nonneg]; rfl
 ·exact ⟨rfl, rfl, rfl, by simp [grow, World.drewN], fun b hb => by simp [grow, World.drewN, Array.getElem?_append_left hb]⟩
end Go.Proofs.YthfkimbmepmelaaDoor.G

namespace Go.Proofs.YthfkimbmepmelaaDoor.G
open Go.RowKit
structure Met (w : World) : Prop where
  tab : Tab w
  lib : LibMet w
theorem Met.below {w w' : World} (h : Met w) (hb : Below w.heap.size w w') : Met w' := ⟨h.tab.below hb, h.lib.below hb⟩
end Go.Proofs.YthfkimbmepmelaaDoor.G

namespace Go.Proofs.YthfkimbmepmelaaDoor.G
open Go.RowKit Go.Proofs.YthfkimbmepmelaaDoorW.PrintWords Go.Proofs.YthfkimbmepmelaaDoorW.PrintLast Go.Proofs.YthfkimbmepmelaaDoorW.PrintMore Go.Proofs.YthfkimbmepmelaaDoor.Short
theorem aJ {p q : Prop} (hp : p) (hq : q) : p ∧ q := ⟨hp, hq⟩
theorem oB {α β : Type} {x : Option α} {f : α → Option β} {r : β} (h : x.bind f = some r) : ∃ a, Aside0 (x = some a) ∧ f a = some r := by
  obtain ⟨a, h1, h2⟩ := Option.bind_eq_some_iff.mp h
  exact ⟨a, ⟨h1⟩, h2⟩
section
variable {P : Program} {ops : Array Oper} {Q : Exit → Act → World → Prop} {md : Region.Mode} {S : World → Prop} {ds : List Nat}
theorem aO {T : Bool × List (List Nat × List Nat)} {l l' : Array Bool} {i : Nat} (hT : Aside0 (rtab md ops = T)) (h : anyT T l.toList l'.toList i = true := by kernel_rfl) : anyB md ops l l' i = true := any_of hT.out h
theorem pS {i : Nat} {N : Option Tmp} {oi : Oper} {v : Value} {fuel : Nat} {l : Array Bool} {a a' : Act} {w : World} (l' : Array Bool) (hc : anyB md ops l l' i = true) (h : wpAnyLast P md ops Q S ds fuel l' a' w)
    (hi : ops[i]? = some oi := by rfl) (hN : oi.dst = N := by rfl) (hy : Yields P ops oi v a := by exact Or.inl ⟨by rfl, by intro w'; go_simp; with_reducible rfl⟩) (hQ : ∀ c a w, Q (.panic c) (a.put oi.dst v) w → Q (.panic c) a w := by exact fun _ _ _ h => h) (ha : a.put N v = a' := by simp only [sP, i64_w, i32_w]; rfl) :
    wpAnyLast P md ops Q S ds (fuel + 1) l a w := pure_ l' hi hN hc hQ hy ha h
end
end Go.Proofs.YthfkimbmepmelaaDoor.G

namespace Go.Proofs.YthfkimbmepmelaaDoor.G
open Go.RowKit Go.Proofs.YthfkimbmepmelaaDoorW.PrintWords Go.Proofs.YthfkimbmepmelaaDoorW.PrintLast Go.Proofs.YthfkimbmepmelaaDoorW.PrintMore Go.Proofs.YthfkimbmepmelaaDoor.Short
attribute [local go_sem] max2_int min2_int max_two min_two max_three min_three max_four min_four   -- for this text's walks alone
set_option linter.unusedVariables false
set_option linter.unusedSimpArgs false

theorem eqA65 (d : Nat) (w : World) (x0 y0 : Int) (x1 y1 : Int) (x2 y2 : Int) :
    (Op.equalIn (d + 2) 65 (.agg #[.int .i64 x0, .int .i64 x1, .int .i64 x2]) (.agg #[.int .i64 y0, .int .i64 y1, .int .i64 y2])).run Tryd.prog w = .ok (x0 == y0 && (x1 == y1 && (x2 == y2))) w := by
  refine eqA_of Tryd.underlying65 (by kernel_rfl) ?_
  refine eqf_cons (by rfl) (by go_simp; rfl) (by go_simp; rfl) (by go_simp) ?_
  refine eqf_cons (by rfl) (by go_simp; rfl) (by go_simp; rfl) (by go_simp) ?_
  exact eqf_last (by rfl) (by go_simp; rfl) (by go_simp; rfl) (by go_simp)

attribute [local go_sem high] eqA65
def laws_sameCombs.l0 : Nat → List (S65) → List (S65) → Int → Int → Option (Bool)
 | 0, _, _, _, _ => none
 | k + 1, x0, x1, x12, x13 => if x13 < x12 then (if 0 ≤ x13 then (if x13 < (x0.length : Int) then (if x13 < (x1.length : Int) then (if (!(((rd_T65 x0 x13).f0) == ((rd_T65 x1 x13).f0)) || (!(((rd_T65 x0 x13).f1) == ((rd_T65 x1 x13).f1)) || (!(((rd_T65 x0 x13).f2) == ((rd_T65 x1 x13).f2))))) = true then (some false) else (laws_sameCombs.l0 k x0 x1 x12 (wrap64 (x13 + 1)))) else (none)) else (none)) else (none)) else (some true)
def laws_sameCombs.f (k : Nat) (l0 : List (S65)) (l1 : List (S65)) : Option (Bool) := if (l0.length : Int) = (l1.length : Int) then (laws_sameCombs.l0 k l0 l1 (l0.length : Int) 0) else (some false)
set_option maxHeartbeats 8000000 in
set_option maxRecDepth 100000 in
theorem laws_sameCombs.calls (k : Nat) (A0 : Option Addr) (c0 : Nat) (l0 : List (S65)) (A1 : Option Addr) (c1 : Nat) (l1 : List (S65)) (r : Bool) (w : World) (hr0 : Kd.C k65 w A0 l0.length l0) (hc0 : l0.length ≤ c0) (hr1 : Kd.C k65 w A1 l1.length l1) (hc1 : l1.length ≤ c1) (h : laws_sameCombs.f k l0 l1 = some r) :
  Calls Tryd.prog 10 #[.slice A0 l0.length c0, .slice A1 l1.length c1] w fun e w' => e = .returned (.bool r) ∧ Drawn0 w w' := by
 have hu65 := Tryd.underlying65
 have HR0 := aK hr0
 have HC0 := aK hc0
 clear hr0 hc0
 have HR1 := aK hr1
 have HC1 := aK hc1
 clear hr1 hc1
 have H : (if (l0.length : Int) = (l1.length : Int) then (laws_sameCombs.l0 k l0 l1 (l0.length : Int) 0) else (some false)) = some r := h
 clear h
 by_cases c3 : (l0.length : Int) = (l1.length : Int)
 ·rw [if_pos c3] at H
  have c3b0 : ((l0.length : Int) == (l1.length : Int)) = true := beq_iff_eq.mpr c3
  have c3b1 : ((l0.length : Int) != (l1.length : Int)) = false := bne_eq_false_iff_eq.mpr c3
  have c3b2 : (l0.length == l1.length) = true := by first | simpa using c3 | (simp at c3 ⊢; omega)
  clear c3
  have H' := aK H
  clear H
  go_enter Tryd.func10, Tryd.ntmps10
  go_wp2
  repeat (go_quiet (fail); try go_wp2)
  go_loopg [13] k (fun kq v13 w' => ∃ (x13_1 : Int), v13 = .int .i64 x13_1 ∧ Aside0 (laws_sameCombs.l0 kq l0 l1 (l0.length : Int) x13_1 = some r) ∧ Aside0 (kq ≤ k) ∧ Drawn0 w w')
  case atStart => exact ⟨(0), rS, H', ⟨Nat.le_refl _⟩, by repeat (first | exact Drawn0.refl _ | apply Drawn0.step)⟩
  case round =>
   clear H'
   try clear c1; try clear p2; try clear c3; try clear c3b0; try clear c3b1; try clear c3b2
   obtain ⟨x13_1, rfl, HA, HK1, ⟨m1, rfl⟩⟩ := hrel
   cases gk with
   | zero => exact absurd HA.out (by simp [laws_sameCombs.l0])
   | succ k1 =>
    have H := HA.out
    clear HA
    simp only [laws_sameCombs.l0] at H
    by_cases c4 : x13_1 < (l0.length : Int)
    ·rw [if_pos c4] at H
     have c4b0 : decide (x13_1 < (l0.length : Int)) = true := decide_eq_true c4
     clear c4
     by_cases c5 : 0 ≤ x13_1
     ·rw [if_pos c5] at H
      have c5b0 : decide (0 ≤ x13_1) = true := decide_eq_true c5
      clear c5
      by_cases c6 : x13_1 < (l0.length : Int)
      ·rw [if_pos c6] at H
       have c6b0 : decide (x13_1 < (l0.length : Int)) = true := decide_eq_true c6
       clear c6
       by_cases c7 : x13_1 < (l1.length : Int)
       ·rw [if_pos c7] at H
        have c7b0 : decide (x13_1 < (l1.length : Int)) = true := decide_eq_true c7
        clear c7
        by_cases c8 : (!(((rd_T65 l0 x13_1).f0) == ((rd_T65 l1 x13_1).f0)) || (!(((rd_T65 l0 x13_1).f1) == ((rd_T65 l1 x13_1).f1)) || (!(((rd_T65 l0 x13_1).f2) == ((rd_T65 l1 x13_1).f2))))) = true
        ·rw [if_pos c8] at H
         have c8b0 : (!(((rd_T65 l0 x13_1).f0) == ((rd_T65 l1 x13_1).f0)) || (!(((rd_T65 l0 x13_1).f1) == ((rd_T65 l1 x13_1).f1)) || (!(((rd_T65 l0 x13_1).f2) == ((rd_T65 l1 x13_1).f2))))) = true := c8
         clear c8
         obtain rfl := Option.some.inj H
         have p101 : 0 ≤ (x13_1 : Int) := dA
         have q101 : x13_1 < (l0.length : Int) := dA
         obtain ⟨ad101, e101, hx101_0, hx101_1, hx101_2⟩ := at_T65 HR0.out x13_1 p101 q101
         cases e101
         replace p101 := eq_true p101
         replace q101 := eq_true q101
         have p102 : 0 ≤ (x13_1 : Int) := dA
         have q102 : x13_1 < (l1.length : Int) := dA
         obtain ⟨ad102, e102, hx102_0, hx102_1, hx102_2⟩ := at_T65 HR1.out x13_1 p102 q102
         cases e102
         replace p102 := eq_true p102
         replace q102 := eq_true q102
         go_wp2
         repeat (go_quiet (fail); try go_wp2)
         go_ret
         exact ⟨by first | rfl | (simp; done) | (simp [*]; done), by repeat (first | exact Drawn0.refl _ | apply Drawn0.step)⟩
        ·rw [if_neg c8] at H
         have c8b0 : (!(((rd_T65 l0 x13_1).f0) == ((rd_T65 l1 x13_1).f0)) || (!(((rd_T65 l0 x13_1).f1) == ((rd_T65 l1 x13_1).f1)) || (!(((rd_T65 l0 x13_1).f2) == ((rd_T65 l1 x13_1).f2))))) = false := by simpa using c8
         clear c8
         have H' := aK H
         clear H
         have p101 : 0 ≤ (x13_1 : Int) := dA
         have q101 : x13_1 < (l0.length : Int) := dA
         obtain ⟨ad101, e101, hx101_0, hx101_1, hx101_2⟩ := at_T65 HR0.out x13_1 p101 q101
         cases e101
         replace p101 := eq_true p101
         replace q101 := eq_true q101
         have p102 : 0 ≤ (x13_1 : Int) := dA
         have q102 : x13_1 < (l1.length : Int) := dA
         obtain ⟨ad102, e102, hx102_0, hx102_1, hx102_2⟩ := at_T65 HR1.out x13_1 p102 q102
         cases e102
         replace p102 := eq_true p102
         replace q102 := eq_true q102
         go_wp2
         repeat (go_quiet (fail); try go_wp2)
         go_roundg k1
         case measure => have := HK1.out; omega
         case rel => exact ⟨(wrap64 (x13_1 + 1)), rS, H', ⟨by have := HK1.out; omega⟩, by repeat (first | exact Drawn0.refl _ | apply Drawn0.step)⟩
       ·rw [if_neg c7] at H
        exact absurd H (by simp)
      ·rw [if_neg c6] at H
       exact absurd H (by simp)
     ·rw [if_neg c5] at H
      exact absurd H (by simp)
    ·rw [if_neg c4] at H
     have c4b0 : decide (x13_1 < (l0.length : Int)) = false := decide_eq_false c4
     clear c4
     obtain rfl := Option.some.inj H
     go_wp2
     repeat (go_quiet (fail); try go_wp2)
     go_ret
     exact ⟨by first | rfl | (simp; done) | (simp [*]; done), by repeat (first | exact Drawn0.refl _ | apply Drawn0.step)⟩
 ·rw [if_neg c3] at H
  have c3b0 : ((l0.length : Int) == (l1.length : Int)) = false := beq_eq_false_iff_ne.mpr c3
  have c3b1 : ((l0.length : Int) != (l1.length : Int)) = true := bne_iff_ne.mpr c3
  have c3b2 : (l0.length == l1.length) = false := by first | simpa using c3 | (simp at c3 ⊢; omega)
  obtain rfl := Option.some.inj H
  go_enter Tryd.func10, Tryd.ntmps10
  go_wp2
  repeat (go_quiet (fail); try go_wp2)
  go_ret
  exact ⟨by first | rfl | (simp; done) | (simp [*]; done), by repeat (first | exact Drawn0.refl _ | apply Drawn0.step)⟩


mutual
def impl_comb_measure.j0 : Nat → Int → Int → Bool → Int → Int → List (S45) → Option (Int × Int × Bool)
 | 0, _, _, _, _, _, _ => none
 | k + 1, x5, x6, x7, x102000, x102001, x102002 => impl_comb_measure.l0 k x5 x6 x7 x102002 (x102002.length : Int) 0
def impl_comb_measure.l0 : Nat → Int → Int → Bool → List (S45) → Int → Int → Option (Int × Int × Bool)
 | 0, _, _, _, _, _, _ => none
 | k + 1, x5, x6, x7, x32, x33, x34 => if x34 < x33 then (if 0 ≤ x34 then (if x34 < (x32.length : Int) then ((impl_comb_measure.f k ((rd_T45 x32 x34).f0) ((rd_T45 x32 x34).f1) ((rd_T45 x32 x34).f2)).bind fun bt104 => (if x7 = true then (impl_comb_measure.l0 k (wrap64 (x5 + bt104.1)) (mx x6 bt104.2.1) bt104.2.2 x32 x33 (wrap64 (x34 + 1))) else (impl_comb_measure.l0 k (wrap64 (x5 + bt104.1)) (mx x6 bt104.2.1) false x32 x33 (wrap64 (x34 + 1))))) else (none)) else (none)) else (some (x5, wrap64 (x6 + 1), x7))
def impl_comb_measure.f : Nat → Int → Int → List (S45) → Option (Int × Int × Bool)
 | 0, _, _, _ => none
 | k + 1, a0_0, a0_1, l0_2 => if a0_1 ≥ 0 then (if a0_1 ≤ 999 then (if a0_0 = 1 then (impl_comb_measure.j0 k 1 0 true a0_0 a0_1 l0_2) else (impl_comb_measure.j0 k 1 0 (a0_1 == 0) a0_0 a0_1 l0_2)) else (impl_comb_measure.j0 k 1 0 false a0_0 a0_1 l0_2)) else (impl_comb_measure.j0 k 1 0 false a0_0 a0_1 l0_2)
end
set_option maxHeartbeats 8000000 in
set_option maxRecDepth 100000 in
theorem impl_comb_measure.calls (k : Nat) : ∀ (a0_0 : Int) (a0_1 : Int) (A0_2 : Option Addr) (c0_2 : Nat) (l0_2 : List (S45)) (r1 : Int) (r2 : Int) (r3 : Bool) (w : World) (hr0_2 : Kd.C k45 w A0_2 l0_2.length l0_2) (hc0_2 : l0_2.length ≤ c0_2) (h : impl_comb_measure.f k a0_0 a0_1 l0_2 = some (r1, r2, r3)),
  Calls Tryd.prog 43 #[.agg #[.int .i64 a0_0, .int .i64 a0_1, .slice A0_2 l0_2.length c0_2]] w fun e w' => e = .returned (.tuple #[.int .i64 r1, .int .i64 r2, .bool r3]) ∧ Below w.heap.size w w' := by
 induction k using Nat.strongRecOn with
 | _ k ih =>
 intro a0_0 a0_1 A0_2 c0_2 l0_2 r1 r2 r3 w hr0_2 hc0_2 h
 cases k with
 | zero => exact absurd h (by simp [impl_comb_measure.f])
 | succ k =>
 simp only [impl_comb_measure.f] at h
 have hu45 := Tryd.underlying45
 have HR0_2 := aK hr0_2
 have HC0_2 := aK hc0_2
 clear hr0_2 hc0_2
 have HB := aK (Below.refl w.heap.size w)
 have H : (if a0_1 ≥ 0 then (if a0_1 ≤ 999 then (if a0_0 = 1 then (impl_comb_measure.j0 k 1 0 true a0_0 a0_1 l0_2) else (impl_comb_measure.j0 k 1 0 (a0_1 == 0) a0_0 a0_1 l0_2)) else (impl_comb_measure.j0 k 1 0 false a0_0 a0_1 l0_2)) else (impl_comb_measure.j0 k 1 0 false a0_0 a0_1 l0_2)) = some (r1, r2, r3) := h
 clear h
 have HC2 := aK H
 clear H
 go_enter Tryd.func43, Tryd.ntmps43
 go_upto_region 2 with (first | ((with_reducible refine gate_dst (N := 1) rfl ?_); refine bE (N := 1) (cs := #[.int .i64 a0_0, .int .i64 a0_1, .slice A0_2 l0_2.length c0_2]) (t := 45) ?_; intro gb101 hg w3 hbox hb; have GW101 := qw HB hg; have GE101 := qw HB hg; have BK101 := aK hbox; replace HB := qs HB hb; clear hb hbox hg))
 (try simp only [Act.put, List.setIfInBounds_toArray, List.set_cons_zero, List.set_cons_succ])
 go_cut [7] (fun v7 wc => ∃ (kq : Nat) (x7_1 : Bool), v7 = .bool x7_1 ∧ Aside0 (impl_comb_measure.j0 kq 1 0 x7_1 a0_0 a0_1 l0_2 = some (r1, r2, r3)) ∧ Aside0 (kq ≤ k) ∧ Aside0 (wc.heap[gb101]? = some (.cells #[.int .i64 a0_0, .int .i64 a0_1, (.slice A0_2 l0_2.length c0_2)] 45 (0, 0))) ∧ Aside0 (Below w.heap.size w wc))
 case first =>
  have H := HC2.out
  clear HC2
  by_cases c4 : a0_1 ≥ 0
  ·rw [if_pos c4] at H
   have c4b0 : decide (0 ≤ a0_1) = true := decide_eq_true c4
   clear c4
   (first | rw [c4b0] | (simp only [i64_w, i32_w]; rw [c4b0]) | skip)
   by_cases c5 : a0_1 ≤ 999
   ·rw [if_pos c5] at H
    have c5b0 : decide (a0_1 ≤ 999) = true := decide_eq_true c5
    clear c5
    by_cases c6 : a0_0 = 1
    ·rw [if_pos c6] at H
     have c6b0 : (a0_0 == 1) = true := beq_iff_eq.mpr c6
     have c6b1 : (a0_0 != 1) = false := bne_eq_false_iff_eq.mpr c6
     clear c6
     have H' := aK H
     clear H
     obtain ⟨hcz7_0, hcz7_1, hcz7_2, hfz7_0, hfz7_1, hfz7_2⟩ := cA3 BK101
     go_wp2
     go_meet
     case rel => exact ⟨_, (true), rS, H', ⟨by first | omega | exact Nat.le_refl _⟩, ⟨pB BK101⟩, ⟨pH HB⟩⟩
    ·rw [if_neg c6] at H
     have c6b0 : (a0_0 == 1) = false := beq_eq_false_iff_ne.mpr c6
     have c6b1 : (a0_0 != 1) = true := bne_iff_ne.mpr c6
     have H' := aK H
     clear H
     obtain ⟨hcz8_0, hcz8_1, hcz8_2, hfz8_0, hfz8_1, hfz8_2⟩ := cA3 BK101
     go_wp2
     go_meet
     case rel => exact ⟨_, ((a0_1 == 0)), rS, H', ⟨by first | omega | exact Nat.le_refl _⟩, ⟨pB BK101⟩, ⟨pH HB⟩⟩
   ·rw [if_neg c5] at H
    have c5b0 : decide (a0_1 ≤ 999) = false := decide_eq_false c5
    clear c5
    have H' := aK H
    clear H
    obtain ⟨hcz9_0, hcz9_1, hcz9_2, hfz9_0, hfz9_1, hfz9_2⟩ := cA3 BK101
    go_wp2
    go_meet
    case rel => exact ⟨_, (false), rS, H', ⟨by first | omega | exact Nat.le_refl _⟩, ⟨pB BK101⟩, ⟨pH HB⟩⟩
  ·rw [if_neg c4] at H
   have c4b0 : decide (0 ≤ a0_1) = false := decide_eq_false c4
   clear c4
   (first | rw [c4b0] | (simp only [i64_w, i32_w]; rw [c4b0]) | skip)
   have H' := aK H
   clear H
   obtain ⟨hcz10_0, hcz10_1, hcz10_2, hfz10_0, hfz10_1, hfz10_2⟩ := cA3 BK101
   go_wp2
   go_meet
   case rel => exact ⟨_, (false), rS, H', ⟨by first | omega | exact Nat.le_refl _⟩, ⟨pB BK101⟩, ⟨pH HB⟩⟩
 case rest =>
  clear HC2
  try clear p2; try clear c4; try clear c4b0; try clear c5; try clear c5b0; try clear c6; try clear c6b0; try clear c6b1; try clear hcz10_0 hcz10_1 hcz10_2 hfz10_0 hfz10_1 hfz10_2; try clear hcz7_0 hcz7_1 hcz7_2 hfz7_0 hfz7_1 hfz7_2; try clear hcz8_0 hcz8_1 hcz8_2 hfz8_0 hfz8_1 hfz8_2; try clear hcz9_0 hcz9_1 hcz9_2 hfz9_0 hfz9_1 hfz9_2
  obtain ⟨kq, x7_1, rfl, HA, HJ1, BK101, HB⟩ := hcut
  cases kq with
  | zero => exact absurd HA.out (by simp [impl_comb_measure.j0])
  | succ kj1 =>
   have H := HA.out
   clear HA
   simp only [impl_comb_measure.j0] at H
   have H' := aK H
   clear H
   obtain ⟨hcz11_0, hcz11_1, hcz11_2, hfz11_0, hfz11_1, hfz11_2⟩ := cA3 BK101
   go_wp2
   go_loopg [5, 6, 7, 34] kj1 (fun kq v5 v6 v7 v34 w' => ∃ (x5_2 : Int) (x6_2 : Int) (x7_2 : Bool) (x34_2 : Int), v5 = .int .i64 x5_2 ∧ v6 = .int .i64 x6_2 ∧ v7 = .bool x7_2 ∧ v34 = .int .i64 x34_2 ∧ Aside0 (impl_comb_measure.l0 kq x5_2 x6_2 x7_2 l0_2 (l0_2.length : Int) x34_2 = some (r1, r2, r3)) ∧ Aside0 (kq ≤ kj1) ∧ Aside0 (w'.heap[gb101]? = some (.cells #[.int .i64 a0_0, .int .i64 a0_1, (.slice A0_2 l0_2.length c0_2)] 45 (0, 0))) ∧ Aside0 (Below w.heap.size w w'))
   case atStart => exact ⟨(1), (0), (x7_1), (0), rS, rS, rS, rS, H', ⟨Nat.le_refl _⟩, ⟨pB BK101⟩, ⟨pH HB⟩⟩
   case round =>
    clear H'
    try clear p2; try clear c4; try clear c4b0; try clear c5; try clear c5b0; try clear c6; try clear c6b0; try clear c6b1; try clear p2; try clear hcz10_0 hcz10_1 hcz10_2 hfz10_0 hfz10_1 hfz10_2; try clear hcz11_0 hcz11_1 hcz11_2 hfz11_0 hfz11_1 hfz11_2; try clear hcz7_0 hcz7_1 hcz7_2 hfz7_0 hfz7_1 hfz7_2; try clear hcz8_0 hcz8_1 hcz8_2 hfz8_0 hfz8_1 hfz8_2; try clear hcz9_0 hcz9_1 hcz9_2 hfz9_0 hfz9_1 hfz9_2
    obtain ⟨x5_2, x6_2, x7_2, x34_2, rfl, rfl, rfl, rfl, HA, HK2, BK101, HB⟩ := hrel
    cases gk with
    | zero => exact absurd HA.out (by simp [impl_comb_measure.l0])
    | succ k2 =>
     have H := HA.out
     clear HA
     simp only [impl_comb_measure.l0] at H
     by_cases c12 : x34_2 < (l0_2.length : Int)
     ·rw [if_pos c12] at H
      have c12b0 : decide (x34_2 < (l0_2.length : Int)) = true := decide_eq_true c12
      clear c12
      by_cases c13 : 0 ≤ x34_2
      ·rw [if_pos c13] at H
       have c13b0 : decide (0 ≤ x34_2) = true := decide_eq_true c13
       clear c13
       by_cases c14 : x34_2 < (l0_2.length : Int)
       ·rw [if_pos c14] at H
        have c14b0 : decide (x34_2 < (l0_2.length : Int)) = true := decide_eq_true c14
        clear c14
        obtain ⟨⟨t104, t105, t106⟩, A15, H⟩ := oB H
        try dsimp only at H
        obtain ⟨ji16, hji16⟩ : ∃ j_ : Int, (mx x6_2 t105) = j_ := ⟨_, rfl⟩
        replace H : (if x7_2 = true then (impl_comb_measure.l0 k2 (wrap64 (x5_2 + t104)) ji16 t106 l0_2 (l0_2.length : Int) (wrap64 (x34_2 + 1))) else (impl_comb_measure.l0 k2 (wrap64 (x5_2 + t104)) ji16 false l0_2 (l0_2.length : Int) (wrap64 (x34_2 + 1)))) = some (r1, r2, r3) := by first | (rw [hji16] at H; exact H) | (simp only [hji16] at H ⊢; exact H)
        (try rw [hji16] at A15)
        have hji16_ : (if x6_2 < t105 then t105 else x6_2) = ji16 := hji16
        by_cases c17 : x7_2 = true
        ·subst c17
         rw [if_pos rfl] at H
         have H' := aK H
         clear H
         have p102 : 0 ≤ (x34_2 : Int) := dA
         have q102 : x34_2 < (l0_2.length : Int) := dA
         obtain ⟨ad102, A102_2, c102_2, e102, hx102_0, hx102_1, hx102_2, hl102_2, hi102_2⟩ := at_T45 HR0_2.out x34_2 p102 q102
         cases e102
         replace hx102_0 := uC HB hx102_0
         replace hx102_1 := uC HB hx102_1
         replace hx102_2 := uC HB hx102_2
         have HR102_2 := aK hi102_2
         have HC102_2 := aK hl102_2
         clear hi102_2 hl102_2
         replace p102 := eq_true p102
         replace q102 := eq_true q102
         go_wp2_with (first | ((with_reducible refine gate_dst (N := 9) rfl ?_); refine bE (N := 9) (cs := #[.int .i64 0, .int .i64 0, .slice none 0 0]) (t := 45) ?_; intro gb103 hg w18 hbox hb; have GW103 := qw HB hg; have GE103 := qw HB hg; have NB101_103 := ql BK101 hg; have NB103_101 := qg BK101 hg; replace BK101 := qb BK101 hb; have BK103 := aK hbox; replace HB := qs HB hb; clear hb hbox hg; have hnb19 := NB103_101.out; have hnc19 := NB101_103.out; obtain ⟨hcz20_0, hcz20_1, hcz20_2, hfz20_0, hfz20_1, hfz20_2⟩ := cA3 BK103) | ((with_reducible refine gate_callee (f := 43) rfl ?_); refine goesL_ (some 40) rfl rfl Tryd.func43 (by kernel_rfl) rfl #[.agg #[.int .i64 ((rd_T45 l0_2 x34_2).f0), .int .i64 ((rd_T45 l0_2 x34_2).f1), .slice A102_2 ((rd_T45 l0_2 x34_2).f2).length c102_2]] rfl tA ?_; (with_reducible refine (ih k2 (by have := HJ1.out; have := HK2.out; omega) ((rd_T45 l0_2 x34_2).f0) ((rd_T45 l0_2 x34_2).f1) _ _ ((rd_T45 l0_2 x34_2).f2) t104 t105 t106 _ ?side1 ?side2 A15.out).mono ?_); (case side1 => exact Kd.C_below HR102_2.out (pH HB)); (case side2 => exact HC102_2.out); rintro e w21 ⟨rfl, hb⟩; refine ⟨_, rfl, ?_⟩; have n_ := aJ (aK (blk_below (g := gb101) (o := .cells #[.int .i64 a0_0, .int .i64 a0_1, .slice (some ad102) l0_2.length c0_2] 45 (0, 0)) (by (repeat first | with_reducible apply zN | with_reducible apply zD | with_reducible apply zA | refine blk_far ?_ NB101_103.out _); exact BK101.out) hb)) (aJ (aK (blk_below (g := gb103) (o := .cells #[.int .i64 ((rd_T45 l0_2 x34_2).f0), .int .i64 ((rd_T45 l0_2 x34_2).f1), .slice A102_2 ((rd_T45 l0_2 x34_2).f2).length c102_2] 45 (0, 0)) (p3 BK103) hb)) (aK (below_step (pH HB) hb))); clear BK101 BK103 HB; obtain ⟨BK101, BK103, HB⟩ := n_; (try clear hb)))
         go_roundg k2
         case measure => have := HJ1.out; have := HK2.out; omega
         case rel => exact ⟨(wrap64 (x5_2 + t104)), (ji16), (t106), (wrap64 (x34_2 + 1)), rS, (by first | rfl | (simp; done) | (simp only [← hji16] <;> (first | rfl | simp)) | (simp [*]; done)), rS, rS, H', ⟨by have := HJ1.out; have := HK2.out; omega⟩, ⟨pB BK101⟩, ⟨pH HB⟩⟩
        ·replace c17 := Bool.eq_false_iff.mpr c17
         subst c17
         rw [if_neg (show ¬ (false = true) by decide)] at H
         have H' := aK H
         clear H
         have p102 : 0 ≤ (x34_2 : Int) := dA
         have q102 : x34_2 < (l0_2.length : Int) := dA
         obtain ⟨ad102, A102_2, c102_2, e102, hx102_0, hx102_1, hx102_2, hl102_2, hi102_2⟩ := at_T45 HR0_2.out x34_2 p102 q102
         cases e102
         replace hx102_0 := uC HB hx102_0
         replace hx102_1 := uC HB hx102_1
         replace hx102_2 := uC HB hx102_2
         have HR102_2 := aK hi102_2
         have HC102_2 := aK hl102_2
         clear hi102_2 hl102_2
         replace p102 := eq_true p102
         replace q102 := eq_true q102
         go_wp2_with (first | ((with_reducible refine gate_dst (N := 9) rfl ?_); refine bE (N := 9) (cs := #[.int .i64 0, .int .i64 0, .slice none 0 0]) (t := 45) ?_; intro gb103 hg w22 hbox hb; have GW103 := qw HB hg; have GE103 := qw HB hg; have NB101_103 := ql BK101 hg; have NB103_101 := qg BK101 hg; replace BK101 := qb BK101 hb; have BK103 := aK hbox; replace HB := qs HB hb; clear hb hbox hg; have hnb23 := NB103_101.out; have hnc23 := NB101_103.out; obtain ⟨hcz24_0, hcz24_1, hcz24_2, hfz24_0, hfz24_1, hfz24_2⟩ := cA3 BK103) | ((with_reducible refine gate_callee (f := 43) rfl ?_); refine goesL_ (some 40) rfl rfl Tryd.func43 (by kernel_rfl) rfl #[.agg #[.int .i64 ((rd_T45 l0_2 x34_2).f0), .int .i64 ((rd_T45 l0_2 x34_2).f1), .slice A102_2 ((rd_T45 l0_2 x34_2).f2).length c102_2]] rfl tA ?_; (with_reducible refine (ih k2 (by have := HJ1.out; have := HK2.out; omega) ((rd_T45 l0_2 x34_2).f0) ((rd_T45 l0_2 x34_2).f1) _ _ ((rd_T45 l0_2 x34_2).f2) t104 t105 t106 _ ?side1 ?side2 A15.out).mono ?_); (case side1 => exact Kd.C_below HR102_2.out (pH HB)); (case side2 => exact HC102_2.out); rintro e w25 ⟨rfl, hb⟩; refine ⟨_, rfl, ?_⟩; have n_ := aJ (aK (blk_below (g := gb101) (o := .cells #[.int .i64 a0_0, .int .i64 a0_1, .slice (some ad102) l0_2.length c0_2] 45 (0, 0)) (by (repeat first | with_reducible apply zN | with_reducible apply zD | with_reducible apply zA | refine blk_far ?_ NB101_103.out _); exact BK101.out) hb)) (aJ (aK (blk_below (g := gb103) (o := .cells #[.int .i64 ((rd_T45 l0_2 x34_2).f0), .int .i64 ((rd_T45 l0_2 x34_2).f1), .slice A102_2 ((rd_T45 l0_2 x34_2).f2).length c102_2] 45 (0, 0)) (p3 BK103) hb)) (aK (below_step (pH HB) hb))); clear BK101 BK103 HB; obtain ⟨BK101, BK103, HB⟩ := n_; (try clear hb)))
         go_roundg k2
         case measure => have := HJ1.out; have := HK2.out; omega
         case rel => exact ⟨(wrap64 (x5_2 + t104)), (ji16), (false), (wrap64 (x34_2 + 1)), rS, (by first | rfl | (simp; done) | (simp only [← hji16] <;> (first | rfl | simp)) | (simp [*]; done)), rS, rS, H', ⟨by have := HJ1.out; have := HK2.out; omega⟩, ⟨pB BK101⟩, ⟨pH HB⟩⟩
       ·rw [if_neg c14] at H
        exact absurd H (by simp)
      ·rw [if_neg c13] at H
       exact absurd H (by simp)
     ·rw [if_neg c12] at H
      have c12b0 : decide (x34_2 < (l0_2.length : Int)) = false := decide_eq_false c12
      clear c12
      simp only [Option.some.injEq, Prod.mk.injEq] at H
      obtain ⟨rfl, rfl, rfl⟩ := H
      go_wp2
      go_ret3
      exact ⟨eW, pH HB⟩


def impl_comb_isGood.f (k : Nat) (a0_0 : Int) (a0_1 : Int) (l0_2 : List (S45)) : Option (Bool) := (impl_comb_measure.f k a0_0 a0_1 l0_2).bind fun bt102 => (if bt102.2.2 = true then (if bt102.1 ≤ 200 then (some (decide (bt102.2.1 ≤ 60))) else (some false)) else (some false))
set_option maxHeartbeats 8000000 in
set_option maxRecDepth 100000 in
theorem impl_comb_isGood.calls (k : Nat) (a0_0 : Int) (a0_1 : Int) (A0_2 : Option Addr) (c0_2 : Nat) (l0_2 : List (S45)) (r : Bool) (w : World) (hr0_2 : Kd.C k45 w A0_2 l0_2.length l0_2) (hc0_2 : l0_2.length ≤ c0_2) (h : impl_comb_isGood.f k a0_0 a0_1 l0_2 = some r) :
  Calls Tryd.prog 24 #[.agg #[.int .i64 a0_0, .int .i64 a0_1, .slice A0_2 l0_2.length c0_2]] w fun e w' => e = .returned (.bool r) ∧ Below w.heap.size w w' := by
 have hu45 := Tryd.underlying45
 have HR0_2 := aK hr0_2
 have HC0_2 := aK hc0_2
 clear hr0_2 hc0_2
 have HB := aK (Below.refl w.heap.size w)
 have H : ((impl_comb_measure.f k a0_0 a0_1 l0_2).bind fun bt102 => (if bt102.2.2 = true then (if bt102.1 ≤ 200 then (some (decide (bt102.2.1 ≤ 60))) else (some false)) else (some false))) = some r := h
 clear h
 obtain ⟨⟨t102, t103, t104⟩, A2, H⟩ := oB H
 try dsimp only at H
 by_cases c3 : t104 = true
 ·subst c3
  rw [if_pos rfl] at H
  by_cases c4 : t102 ≤ 200
  ·rw [if_pos c4] at H
   have c4b0 : decide (t102 ≤ 200) = true := decide_eq_true c4
   clear c4
   obtain rfl := Option.some.inj H
   go_enter Tryd.func24, Tryd.ntmps24
   go_wp2_with (first | ((with_reducible refine gate_dst (N := 1) rfl ?_); refine bE (N := 1) (cs := #[.int .i64 a0_0, .int .i64 a0_1, .slice A0_2 l0_2.length c0_2]) (t := 45) ?_; intro gb101 hg w5 hbox hb; have GW101 := qw HB hg; have GE101 := qw HB hg; have BK101 := aK hbox; replace HB := qs HB hb; clear hb hbox hg; obtain ⟨hcz6_0, hcz6_1, hcz6_2, hfz6_0, hfz6_1, hfz6_2⟩ := cA3 BK101) | ((with_reducible refine gate_callee (f := 43) rfl ?_); refine goesL_ (some 8) rfl rfl Tryd.func43 (by kernel_rfl) rfl #[.agg #[.int .i64 a0_0, .int .i64 a0_1, .slice A0_2 l0_2.length c0_2]] rfl tA ?_; (with_reducible refine (impl_comb_measure.calls k a0_0 a0_1 _ _ l0_2 t102 t103 true _ ?side1 ?side2 A2.out).mono ?_); (case side1 => exact sC (Kd.C_below HR0_2.out HB.out)); (case side2 => exact HC0_2.out); rintro e w7 ⟨rfl, hb⟩; refine ⟨_, rfl, ?_⟩; replace BK101 := qb BK101 hb; replace HB := qs HB hb; (try clear hb)))
   go_ret
   exact ⟨eW, pH HB⟩
  ·rw [if_neg c4] at H
   have c4b0 : decide (t102 ≤ 200) = false := decide_eq_false c4
   clear c4
   obtain rfl := Option.some.inj H
   go_enter Tryd.func24, Tryd.ntmps24
   go_wp2_with (first | ((with_reducible refine gate_dst (N := 1) rfl ?_); refine bE (N := 1) (cs := #[.int .i64 a0_0, .int .i64 a0_1, .slice A0_2 l0_2.length c0_2]) (t := 45) ?_; intro gb101 hg w8 hbox hb; have GW101 := qw HB hg; have GE101 := qw HB hg; have BK101 := aK hbox; replace HB := qs HB hb; clear hb hbox hg; obtain ⟨hcz9_0, hcz9_1, hcz9_2, hfz9_0, hfz9_1, hfz9_2⟩ := cA3 BK101) | ((with_reducible refine gate_callee (f := 43) rfl ?_); refine goesL_ (some 8) rfl rfl Tryd.func43 (by kernel_rfl) rfl #[.agg #[.int .i64 a0_0, .int .i64 a0_1, .slice A0_2 l0_2.length c0_2]] rfl tA ?_; (with_reducible refine (impl_comb_measure.calls k a0_0 a0_1 _ _ l0_2 t102 t103 true _ ?side1 ?side2 A2.out).mono ?_); (case side1 => exact sC (Kd.C_below HR0_2.out HB.out)); (case side2 => exact HC0_2.out); rintro e w10 ⟨rfl, hb⟩; refine ⟨_, rfl, ?_⟩; replace BK101 := qb BK101 hb; replace HB := qs HB hb; (try clear hb)))
   go_ret
   exact ⟨eW, pH HB⟩
 ·replace c3 := Bool.eq_false_iff.mpr c3
  subst c3
  rw [if_neg (show ¬ (false = true) by decide)] at H
  obtain rfl := Option.some.inj H
  go_enter Tryd.func24, Tryd.ntmps24
  go_wp2_with (first | ((with_reducible refine gate_dst (N := 1) rfl ?_); refine bE (N := 1) (cs := #[.int .i64 a0_0, .int .i64 a0_1, .slice A0_2 l0_2.length c0_2]) (t := 45) ?_; intro gb101 hg w11 hbox hb; have GW101 := qw HB hg; have GE101 := qw HB hg; have BK101 := aK hbox; replace HB := qs HB hb; clear hb hbox hg; obtain ⟨hcz12_0, hcz12_1, hcz12_2, hfz12_0, hfz12_1, hfz12_2⟩ := cA3 BK101) | ((with_reducible refine gate_callee (f := 43) rfl ?_); refine goesL_ (some 8) rfl rfl Tryd.func43 (by kernel_rfl) rfl #[.agg #[.int .i64 a0_0, .int .i64 a0_1, .slice A0_2 l0_2.length c0_2]] rfl tA ?_; (with_reducible refine (impl_comb_measure.calls k a0_0 a0_1 _ _ l0_2 t102 t103 false _ ?side1 ?side2 A2.out).mono ?_); (case side1 => exact sC (Kd.C_below HR0_2.out HB.out)); (case side2 => exact HC0_2.out); rintro e w13 ⟨rfl, hb⟩; refine ⟨_, rfl, ?_⟩; replace BK101 := qb BK101 hb; replace HB := qs HB hb; (try clear hb)))
  go_ret
  exact ⟨eW, pH HB⟩


mutual
def impl_combAt.j0 : Nat → List (S65) → Int → Bool → Option (Int × Int × (List (S45)) × Int × Bool)
 | 0, _, _, _ => none
 | k + 1, x0, x1, x42 => if x42 = true then (some (0, 0, ([] : List (S45)), 0, false)) else (if 0 ≤ x1 then (if x1 < (x0.length : Int) then (impl_combAt.l0 k x0 x1 (wrap64 (x1 + 1)) ((rd_T65 x0 x1).f0) ((rd_T65 x0 x1).f1) ([] : List (S45))) else (none)) else (none))
def impl_combAt.l0 : Nat → List (S65) → Int → Int → Int → Int → List (S45) → Option (Int × Int × (List (S45)) × Int × Bool)
 | 0, _, _, _, _, _, _ => none
 | k + 1, x0, x1, x10, x108000, x108001, x108002 => if x108000 = 2 then (impl_combAt.j2 k x0 x1 x10 (decide ((x108002.length : Int) < 2)) x108000 x108001 x108002) else (impl_combAt.j2 k x0 x1 x10 false x108000 x108001 x108002)
def impl_combAt.j2 : Nat → List (S65) → Int → Int → Bool → Int → Int → List (S45) → Option (Int × Int × (List (S45)) × Int × Bool)
 | 0, _, _, _, _, _, _, _ => none
 | k + 1, x0, x1, x10, x65, x108000, x108001, x108002 => if x65 = true then ((impl_combAt.f k x0 x10 x1).bind fun bt108 => (if bt108.2.2.2.2 = true then (if x108002.length < 3518437208883 then (impl_combAt.l0 k x0 x1 bt108.2.2.2.1 x108000 x108001 (x108002 ++ [(⟨bt108.1, bt108.2.1, bt108.2.2.1⟩ : S45)])) else (none)) else (some (0, 0, ([] : List (S45)), 0, false)))) else (some (x108000, x108001, x108002, x10, true))
def impl_combAt.f : Nat → List (S65) → Int → Int → Option (Int × Int × (List (S45)) × Int × Bool)
 | 0, _, _, _ => none
 | k + 1, l0, a1, a2 => if a1 = (l0.length : Int) then (impl_combAt.j0 k l0 a1 true) else (if 0 ≤ a1 then (if a1 < (l0.length : Int) then (if ((rd_T65 l0 a1).f2) = a2 then (if ((rd_T65 l0 a1).f0) < 1 then (impl_combAt.j0 k l0 a1 true) else (impl_combAt.j0 k l0 a1 (decide (((rd_T65 l0 a1).f0) > 5)))) else (impl_combAt.j0 k l0 a1 true)) else (none)) else (none))
end
def impl_combAt.T3 : Bool × List (List Nat × List Nat) := (true, [([], []), ([], []), ([0, 1], [0, 1]), ([2], [2]), ([3], [3]), ([], []), ([], []), ([5, 6], [5, 6]), ([7], [7]), ([8], [8]), ([4, 9], [4, 9]), ([], []), ([11], [11]), ([], []), ([13, 10, 0, 1, 2, 3, 4, 5, 6, 7, 8, 9, 10, 13], [10, 13]), ([12, 14, 0, 1, 2, 3, 4, 5, 6, 7, 8, 9, 10, 11, 12, 13, 14], [12])])
def impl_combAt.B3 : List Nat := [0, 0, 3, 7, 15, 0, 0, 96, 224, 480, 1023, 0, 2048, 0, 10239, 32767]
theorem impl_combAt.tab3 : rtab .any (opsOf Tryd.f31 3) = impl_combAt.T3 := by kernel_rfl
theorem impl_combAt.bits3 : waitsOk impl_combAt.T3.2 impl_combAt.B3 = true := by kernel_rfl
set_option maxHeartbeats 8000000 in
set_option maxRecDepth 100000 in
theorem impl_combAt.calls (k : Nat) : ∀ (A0 : Option Addr) (c0 : Nat) (l0 : List (S65)) (a1 : Int) (a2 : Int) (r1 : Int) (r2 : Int) (r3 : List (S45)) (r4 : Int) (r5 : Bool) (w : World) (hr0 : Kd.C k65 w A0 l0.length l0) (hc0 : l0.length ≤ c0) (h : impl_combAt.f k l0 a1 a2 = some (r1, r2, r3, r4, r5)),
  Calls Tryd.prog 31 #[.slice A0 l0.length c0, .int .i64 a1, .int .i64 a2] w fun e w' => ∃ v2_ : Value, e = .returned (.tuple #[.agg #[.int .i64 r1, .int .i64 r2, v2_], .int .i64 r4, .bool r5]) ∧ Kd.R k45 45 w' w.heap.size (fun _ => True) v2_ r3 ∧ Below w.heap.size w w' := by
 induction k using Nat.strongRecOn with
 | _ k ih =>
 intro A0 c0 l0 a1 a2 r1 r2 r3 r4 r5 w hr0 hc0 h
 cases k with
 | zero => exact absurd h (by simp [impl_combAt.f])
 | succ k =>
 simp only [impl_combAt.f] at h
 have hu45 := Tryd.underlying45
 have HR0 := aK hr0
 have HC0 := aK hc0
 clear hr0 hc0
 have HB := aK (Below.refl w.heap.size w)
 have H : (if a1 = (l0.length : Int) then (impl_combAt.j0 k l0 a1 true) else (if 0 ≤ a1 then (if a1 < (l0.length : Int) then (if ((rd_T65 l0 a1).f2) = a2 then (if ((rd_T65 l0 a1).f0) < 1 then (impl_combAt.j0 k l0 a1 true) else (impl_combAt.j0 k l0 a1 (decide (((rd_T65 l0 a1).f0) > 5)))) else (impl_combAt.j0 k l0 a1 true)) else (none)) else (none))) = some (r1, r2, r3, r4, r5) := h
 clear h
 have HC4 := aK H
 clear H
 go_enter Tryd.func31, Tryd.ntmps31
 go_upto_region 1 with (first | ((with_reducible refine gate_dst (N := 6) rfl ?_); (try (refine gate_guard (by rfl) ?_; dsimp only)); refine bE (N := 6) (cs := #[.int .i64 0, .int .i64 0, .slice none 0 0]) (t := 45) ?_; intro gb101 hg w5 hbox hb; have GW101 := qw HB hg; have GE101 := qw HB hg; have BK101 := aK hbox; replace HB := qs HB hb; clear hb hbox hg))
 (try simp only [Act.put, List.setIfInBounds_toArray, List.set_cons_zero, List.set_cons_succ])
 go_cut [42] (fun v42 wc => ∃ (kq : Nat) (x42_3 : Bool), v42 = .bool x42_3 ∧ Aside0 (impl_combAt.j0 kq l0 a1 x42_3 = some (r1, r2, r3, r4, r5)) ∧ Aside0 (kq ≤ k) ∧ Aside0 (wc.heap[gb101]? = some (.cells #[.int .i64 0, .int .i64 0, (.slice none 0 0)] 45 (0, 0))) ∧ Aside0 (Below w.heap.size w wc))
 case first =>
  have H := HC4.out
  clear HC4
  by_cases c6 : a1 = (l0.length : Int)
  ·rw [if_pos c6] at H
   have c6b0 : (a1 == (l0.length : Int)) = true := beq_iff_eq.mpr c6
   have c6b1 : (a1 != (l0.length : Int)) = false := bne_eq_false_iff_eq.mpr c6
   clear c6
   (first | rw [c6b0] | (simp only [i64_w, i32_w]; rw [c6b0]) | skip)
   have H' := aK H
   clear H
   go_wp2
   go_meet
   case rel => exact ⟨_, (true), rS, H', ⟨by first | omega | exact Nat.le_refl _⟩, ⟨pB BK101⟩, ⟨pH HB⟩⟩
  ·rw [if_neg c6] at H
   have c6b0 : (a1 == (l0.length : Int)) = false := beq_eq_false_iff_ne.mpr c6
   have c6b1 : (a1 != (l0.length : Int)) = true := bne_iff_ne.mpr c6
   (first | rw [c6b0] | (simp only [i64_w, i32_w]; rw [c6b0]) | skip)
   by_cases c7 : 0 ≤ a1
   ·rw [if_pos c7] at H
    have c7b0 : decide (0 ≤ a1) = true := decide_eq_true c7
    clear c7
    by_cases c8 : a1 < (l0.length : Int)
    ·rw [if_pos c8] at H
     have c8b0 : decide (a1 < (l0.length : Int)) = true := decide_eq_true c8
     clear c8
     by_cases c9 : ((rd_T65 l0 a1).f2) = a2
     ·rw [if_pos c9] at H
      have c9b0 : (((rd_T65 l0 a1).f2) == a2) = true := beq_iff_eq.mpr c9
      have c9b1 : (((rd_T65 l0 a1).f2) != a2) = false := bne_eq_false_iff_eq.mpr c9
      clear c9
      by_cases c10 : ((rd_T65 l0 a1).f0) < 1
      ·rw [if_pos c10] at H
       have c10b0 : decide (((rd_T65 l0 a1).f0) < 1) = true := decide_eq_true c10
       clear c10
       have H' := aK H
       clear H
       have p102 : 0 ≤ (a1 : Int) := dA
       have q102 : a1 < (l0.length : Int) := dA
       obtain ⟨ad102, e102, hx102_0, hx102_1, hx102_2⟩ := at_T65 HR0.out a1 p102 q102
       cases e102
       replace hx102_0 := uC HB hx102_0
       replace hx102_1 := uC HB hx102_1
       replace hx102_2 := uC HB hx102_2
       replace p102 := eq_true p102
       replace q102 := eq_true q102
       have p103 : 0 ≤ (a1 : Int) := dA
       have q103 : a1 < (l0.length : Int) := dA
       obtain ⟨ad103, e103, hx103_0, hx103_1, hx103_2⟩ := at_T65 HR0.out a1 p103 q103
       obtain rfl : ad102 = ad103 := (by injection e103)
       replace hx103_0 := uC HB hx103_0
       replace hx103_1 := uC HB hx103_1
       replace hx103_2 := uC HB hx103_2
       replace p103 := eq_true p103
       replace q103 := eq_true q103
       go_wp2
       go_meet
       case rel => exact ⟨_, (true), rS, H', ⟨by first | omega | exact Nat.le_refl _⟩, ⟨pB BK101⟩, ⟨pH HB⟩⟩
      ·rw [if_neg c10] at H
       have c10b0 : decide (((rd_T65 l0 a1).f0) < 1) = false := decide_eq_false c10
       clear c10
       have H' := aK H
       clear H
       have p102 : 0 ≤ (a1 : Int) := dA
       have q102 : a1 < (l0.length : Int) := dA
       obtain ⟨ad102, e102, hx102_0, hx102_1, hx102_2⟩ := at_T65 HR0.out a1 p102 q102
       cases e102
       replace hx102_0 := uC HB hx102_0
       replace hx102_1 := uC HB hx102_1
       replace hx102_2 := uC HB hx102_2
       replace p102 := eq_true p102
       replace q102 := eq_true q102
       have p103 : 0 ≤ (a1 : Int) := dA
       have q103 : a1 < (l0.length : Int) := dA
       obtain ⟨ad103, e103, hx103_0, hx103_1, hx103_2⟩ := at_T65 HR0.out a1 p103 q103
       obtain rfl : ad102 = ad103 := (by injection e103)
       replace hx103_0 := uC HB hx103_0
       replace hx103_1 := uC HB hx103_1
       replace hx103_2 := uC HB hx103_2
       replace p103 := eq_true p103
       replace q103 := eq_true q103
       have p104 : 0 ≤ (a1 : Int) := dA
       have q104 : a1 < (l0.length : Int) := dA
       obtain ⟨ad104, e104, hx104_0, hx104_1, hx104_2⟩ := at_T65 HR0.out a1 p104 q104
       obtain rfl : ad102 = ad104 := (by injection e104)
       replace hx104_0 := uC HB hx104_0
       replace hx104_1 := uC HB hx104_1
       replace hx104_2 := uC HB hx104_2
       replace p104 := eq_true p104
       replace q104 := eq_true q104
       go_wp2
       go_meet
       case rel => exact ⟨_, (decide (((rd_T65 l0 a1).f0) > 5)), rS, H', ⟨by first | omega | exact Nat.le_refl _⟩, ⟨pB BK101⟩, ⟨pH HB⟩⟩
     ·rw [if_neg c9] at H
      have c9b0 : (((rd_T65 l0 a1).f2) == a2) = false := beq_eq_false_iff_ne.mpr c9
      have c9b1 : (((rd_T65 l0 a1).f2) != a2) = true := bne_iff_ne.mpr c9
      have H' := aK H
      clear H
      have p102 : 0 ≤ (a1 : Int) := dA
      have q102 : a1 < (l0.length : Int) := dA
      obtain ⟨ad102, e102, hx102_0, hx102_1, hx102_2⟩ := at_T65 HR0.out a1 p102 q102
      cases e102
      replace hx102_0 := uC HB hx102_0
      replace hx102_1 := uC HB hx102_1
      replace hx102_2 := uC HB hx102_2
      replace p102 := eq_true p102
      replace q102 := eq_true q102
      go_wp2
      go_meet
      case rel => exact ⟨_, (true), rS, H', ⟨by first | omega | exact Nat.le_refl _⟩, ⟨pB BK101⟩, ⟨pH HB⟩⟩
    ·rw [if_neg c8] at H
     exact absurd H (by simp)
   ·rw [if_neg c7] at H
    exact absurd H (by simp)
 case rest =>
  clear HC4
  try clear c1; try clear p1; try clear q1; try clear hx1; try clear p2; try clear c3; try clear c6; try clear c6b0; try clear c6b1; try clear c7; try clear c7b0; try clear c8; try clear c8b0; try clear c9; try clear c9b0; try clear c9b1; try clear c10; try clear c10b0; try clear p10; try clear q10; try clear hx10; try clear hx102_0; try clear hx102_1; try clear hx102_2; try clear hx103_0; try clear hx103_1; try clear hx103_2; try clear hx104_0; try clear hx104_1; try clear hx104_2; try clear p102; try clear p103; try clear p104; try clear q102; try clear q103; try clear q104
  obtain ⟨kq, x42_3, rfl, HA, HJ3, BK101, HB⟩ := hcut
  cases kq with
  | zero => exact absurd HA.out (by simp [impl_combAt.j0])
  | succ kj3 =>
   have H := HA.out
   clear HA
   simp only [impl_combAt.j0] at H
   by_cases c11 : x42_3 = true
   ·subst c11
    rw [if_pos rfl] at H
    simp only [Option.some.injEq, Prod.mk.injEq] at H
    obtain ⟨rfl, rfl, rfl, rfl, rfl⟩ := H
    obtain ⟨hcz12_0, hcz12_1, hcz12_2, hfz12_0, hfz12_1, hfz12_2⟩ := cA3 BK101
    go_wp2
    refine bodyPost_ret (results_ctt rfl _ _ gb101 45 #[.int .i64 0, .int .i64 0, .slice none 0 0] (0, 0) _ rfl (p3 BK101) Tryd.underlying45 rfl (by kernel_rfl)) rfl ?_
    exact ⟨_, eW, by first | exact Kd.R_nil _ _ _ _ _ | exact Kd.N_nil _ _ _ _ _ | exact Kd.V_nil _ _ _ _ _ | exact Kd.Q_nil _ _ _ _ _ | exact Kd.S_nil _ _ _ _ _, pH HB⟩
   ·replace c11 := Bool.eq_false_iff.mpr c11
    subst c11
    rw [if_neg (show ¬ (false = true) by decide)] at H
    by_cases c13 : 0 ≤ a1
    ·rw [if_pos c13] at H
     have c13b0 : decide (0 ≤ a1) = true := decide_eq_true c13
     clear c13
     by_cases c14 : a1 < (l0.length : Int)
     ·rw [if_pos c14] at H
      have c14b0 : decide (a1 < (l0.length : Int)) = true := decide_eq_true c14
      clear c14
      have H' := aK H
      clear H
      try go_wp2
      have n_ := aJ (aK (blk_drew BK101.out)) (aK (below_drew1 HB.out))
      clear BK101 HB
      obtain ⟨BK101, HB⟩ := n_
      have p105 : 0 ≤ (a1 : Int) := dA
      have q105 : a1 < (l0.length : Int) := dA
      obtain ⟨ad105, e105, hx105_0, hx105_1, hx105_2⟩ := at_T65 HR0.out a1 p105 q105
      have hw105_2 := hx105_2
      have hw105_1 := hx105_1
      have hw105_0 := hx105_0
      cases e105
      replace hx105_0 := uC HB hx105_0
      replace hx105_1 := uC HB hx105_1
      replace hx105_2 := uC HB hx105_2
      replace p105 := eq_true p105
      replace q105 := eq_true q105
      have p106 : 0 ≤ (a1 : Int) := dA
      have q106 : a1 < (l0.length : Int) := dA
      obtain ⟨ad106, e106, hx106_0, hx106_1, hx106_2⟩ := at_T65 HR0.out a1 p106 q106
      have hw106_2 := hx106_2
      have hw106_1 := hx106_1
      have hw106_0 := hx106_0
      obtain rfl : ad105 = ad106 := (by injection e106)
      replace hx106_0 := uC HB hx106_0
      replace hx106_1 := uC HB hx106_1
      replace hx106_2 := uC HB hx106_2
      replace p106 := eq_true p106
      replace q106 := eq_true q106
      refine start_ (n := 16) (S := fun w' => w'.cell? (ad105.add ((a1).toNat * 3)) = some (.int .i64 ((rd_T65 l0 a1).f0)) ∧ w'.cell? ⟨(ad105.add ((a1).toNat * 3)).block, (ad105.add ((a1).toNat * 3)).off + 1, none⟩ = some (.int .i64 ((rd_T65 l0 a1).f1)) ∧ w'.cell? ⟨(ad105.add ((a1).toNat * 3)).block, (ad105.add ((a1).toNat * 3)).off + 2, none⟩ = some (.int .i64 ((rd_T65 l0 a1).f2)) ∧ w'.cell? (ad105.add ((a1).toNat * 3)) = some (.int .i64 ((rd_T65 l0 a1).f0)) ∧ w'.cell? ⟨(ad105.add ((a1).toNat * 3)).block, (ad105.add ((a1).toNat * 3)).off + 1, none⟩ = some (.int .i64 ((rd_T65 l0 a1).f1)) ∧ w'.cell? ⟨(ad105.add ((a1).toNat * 3)).block, (ad105.add ((a1).toNat * 3)).off + 2, none⟩ = some (.int .i64 ((rd_T65 l0 a1).f2))) (ds := []) (bs 0 16) (by kernel_rfl) rfl rfl ⟨(uC HB hw105_0), (uC HB hw105_1), (uC HB hw105_2), (uC HB hw106_0), (uC HB hw106_1), (uC HB hw106_2)⟩ (fun hHeld => ?_); refine with_tabW impl_combAt.tab3 impl_combAt.bits3 (fun HT_ HW_ => ?_)
      generalize wc.drew = w15 at BK101 HB hx105_0 hx105_1 hx105_2 hx106_0 hx106_1 hx106_2 hHeld ⊢
      refine pS (i := 0) (N := some 44) (bs 1 15) (aO HT_) ?_
      refine pS (i := 1) (N := some 45) (bs 2 14) (aO HT_) ?_
      refine pS (i := 2) (N := some 46) (bs 3 13) (aO HT_) ?_
      refine pS (i := 3) (N := some 47) (bs 4 12) (aO HT_) ?_
      refine pS (i := 5) (N := some 49) #[true, true, true, true, false, true, false, false, false, false, false, false, false, false, false, false] (aO HT_) ?_
      refine pS (i := 6) (N := some 50) #[true, true, true, true, false, true, true, false, false, false, false, false, false, false, false, false] (aO HT_) ?_
      refine pS (i := 7) (N := some 51) #[true, true, true, true, false, true, true, true, false, false, false, false, false, false, false, false] (aO HT_) ?_
      refine pS (i := 8) (N := some 52) #[true, true, true, true, false, true, true, true, true, false, false, false, false, false, false, false] (aO HT_) ?_
      refine pS (i := 11) (N := some 55) #[true, true, true, true, false, true, true, true, true, false, false, true, false, false, false, false] (aO HT_) ?_
      refine pS (i := 12) (N := some 56) #[true, true, true, true, false, true, true, true, true, false, false, true, true, false, false, false] (aO HT_) ?_
      refine take_ (i := 4) (N := some 48) (v := ?_) (a' := ?_) #[true, true, true, true, true, true, true, true, true, false, false, true, true, false, false, false] rfl rfl (take_ofW HT_.out HW_.out (by kernel_rfl)) (fun _ _ _ h => h) (Or.inl ⟨by rfl, ?_⟩) hHeld ?_ ?_
      rotate_left
      ·rintro w' ⟨s0, s1, s2, s3, s4, s5⟩
       go_simp
       with_reducible rfl
      rotate_left
      ·simp only [sP, i64_w, i32_w]
       rfl
      refine take_ (i := 9) (N := some 53) (v := ?_) (a' := ?_) #[true, true, true, true, true, true, true, true, true, true, false, true, true, false, false, false] rfl rfl (take_ofW HT_.out HW_.out (by kernel_rfl)) (fun _ _ _ h => h) (Or.inl ⟨by rfl, ?_⟩) hHeld ?_ ?_
      rotate_left
      ·rintro w' ⟨s0, s1, s2, s3, s4, s5⟩
       go_simp
       with_reducible rfl
      rotate_left
      ·simp only [sP, i64_w, i32_w]
       rfl
      refine pS (i := 10) (N := some 54) (bs 13 3) (aO HT_) ?_
      refine one_ (i := 13) (N := some 9) (bs 14 2) rfl rfl (one_of HT_.out (by kernel_rfl)) (by decide) (fun K hK => ?_)
      refine box_step ?hg (N := 9) ?hd (cs := #[.int .i64 0, .int .i64 0, .slice none 0 0]) (t := 45) ?hr ?_; (case hd => rfl); (case hg => rfl); (case hr => go_simp)
      intro gb107 hg w16 hbox hb
      have n_ := aJ (aK (blk_below BK101.out hb)) (aJ (aK (below_step (pH HB) hb)) (aJ (aK (hbox)) (aJ (aK ((by rw [hg]; exact (below_size (pH HB)) : w.heap.size ≤ gb107))) (aJ (aK ((by rw [hg]; exact (below_size (pH HB)) : w.heap.size ≤ gb107))) (aJ (aK ((by rw [hg]; exact Nat.ne_of_lt (blk_lt BK101.out) : gb101 ≠ gb107))) (aK ((by rw [hg]; exact Nat.ne_of_gt (blk_lt BK101.out) : gb107 ≠ gb101))))))))
      clear BK101 HB
      obtain ⟨BK101, HB, BK107, GW107, GE107, NB101_107, NB107_101⟩ := n_
      clear hb hbox hg
      refine hK.out _ _ ⟨(uC HB hw105_0), (uC HB hw105_1), (uC HB hw105_2), (uC HB hw106_0), (uC HB hw106_1), (uC HB hw106_2)⟩ (fun hHeld => ?_)
      clear hK K
      refine norm_ (a' := ?_) ?_ ?_
      rotate_left
      ·show Act.put _ (some 9) _ = _
       simp only [sP, i64_w, i32_w]
       rfl
      refine one_ (i := 14) (N := none) (bs 15 1) rfl rfl (one_of HT_.out (by kernel_rfl)) (by decide) (fun K hK => ?_)
      have hs17 : w16.cell? ⟨gb107, 0, none⟩ = some (.int .i64 0) := (blk_cell BK107.out 0).trans rfl
      have hfs17 := blk_frozen BK107.out 0
      have hns17_0 := NB101_107.out
      have hms17_0 := NB107_101.out
      have hs18 : w16.cell? ⟨gb107, 1, none⟩ = some (.int .i64 0) := (blk_cell BK107.out 1).trans rfl
      have hfs18 := blk_frozen BK107.out 1
      have hns18_0 := NB101_107.out
      have hms18_0 := NB107_101.out
      have hs19 : w16.cell? ⟨gb107, 2, none⟩ = some (.slice none 0 0) := (blk_cell BK107.out 2).trans rfl
      have hfs19 := blk_frozen BK107.out 2
      have hns19_0 := NB101_107.out
      have hms19_0 := NB107_101.out
      refine skip_ (w1 := ?_) (by rfl) rfl ?_ ?_
      rotate_left
      ·go_simp
       rfl
      refine hK.out _ _ ⟨(cF3 (nG hw105_0 GW107) (hHeld.1)), (cF3 (nG hw105_1 GW107) (hHeld.2.1)), (cF3 (nG hw105_2 GW107) (hHeld.2.2.1)), (cF3 (nG hw106_0 GW107) (hHeld.2.2.2.1)), (cF3 (nG hw106_1 GW107) (hHeld.2.2.2.2.1)), (cF3 (nG hw106_2 GW107) (hHeld.2.2.2.2.2))⟩ (fun hHeld => ?_)
      clear hK K
      refine pS (i := 15) (N := some 10) (bs 16 0) (aO HT_) ?_
      refine done_ (done_of HT_.out (by kernel_rfl)) ?_
      try go_wp2
      go_loopg [10] kj3 (fun kq v10 w' => ∃ (x10_2 : Int) (x102000_2 : Int) (x102001_2 : Int) (x108002_2 : List (S45)) (u108002 : Value), v10 = .int .i64 x10_2 ∧ Aside0 (impl_combAt.l0 kq l0 a1 x10_2 ((rd_T65 l0 a1).f0) ((rd_T65 l0 a1).f1) x108002_2 = some (r1, r2, r3, r4, r5)) ∧ Aside0 (kq ≤ kj3) ∧ Aside0 (Kd.R k45 45 w' w.heap.size (fun k_ => k_ ≠ gb101 ∧ k_ ≠ gb107) u108002 x108002_2) ∧ Aside0 (w'.heap[gb101]? = some (.cells #[.int .i64 x102000_2, .int .i64 x102001_2, (.slice none 0 0)] 45 (0, 0))) ∧ Aside0 (w'.heap[gb107]? = some (.cells #[.int .i64 ((rd_T65 l0 a1).f0), .int .i64 ((rd_T65 l0 a1).f1), u108002] 45 (0, 0))) ∧ Aside0 (Below w.heap.size w w'))
      case atStart => exact ⟨(wrap64 (a1 + 1)), (0), (0), (([] : List (S45))), (.slice none 0 0), rS, H', ⟨Nat.le_refl _⟩, ⟨by first | exact Kd.R_nil _ _ _ _ _ | exact Kd.N_nil _ _ _ _ _ | exact Kd.V_nil _ _ _ _ _ | exact Kd.Q_nil _ _ _ _ _ | exact Kd.S_nil _ _ _ _ _⟩, ⟨by (repeat first | with_reducible apply zN | with_reducible apply zD | with_reducible apply zA | refine blk_far ?_ NB101_107.out _); exact BK101.out⟩, ⟨p3 BK107⟩, ⟨pH HB⟩⟩
      case round =>
       clear H'
       try clear c1; try clear p1; try clear q1; try clear hx1; try clear p2; try clear c3; try clear c6; try clear c6b0; try clear c6b1; try clear p6; try clear c7; try clear c7b0; try clear c8; try clear c8b0; try clear c9; try clear c9b0; try clear c9b1; try clear c10; try clear c10b0; try clear p10; try clear q10; try clear hx10; try clear c11; try clear c13; try clear c13b0; try clear c14; try clear c14b0; try clear hx102_0; try clear hx102_1; try clear hx102_2; try clear hx103_0; try clear hx103_1; try clear hx103_2; try clear hx104_0; try clear hx104_1; try clear hx104_2; try clear hx105_0; try clear hx105_1; try clear hx105_2; try clear hx106_0; try clear hx106_1; try clear hx106_2; try clear p1; try clear p10; try clear p102; try clear p103; try clear p104; try clear p105; try clear p106; try clear p2; try clear q1; try clear q10; try clear q102; try clear q103; try clear q104; try clear q105; try clear q106; try clear hcz12_0 hcz12_1 hcz12_2 hfz12_0 hfz12_1 hfz12_2
       obtain ⟨x10_2, x102000_2, x102001_2, x108002_2, u108002, rfl, HA, HK2, HO_108002, BK101, BK107, HB⟩ := hrel
       cases gk with
       | zero => exact absurd HA.out (by simp [impl_combAt.l0])
       | succ k2 =>
        have H := HA.out
        clear HA
        simp only [impl_combAt.l0] at H
        have HC20 := aK H
        clear H
        go_upto_region 4 with (fail)
        go_cut [65] (fun v65 wc => ∃ (kq : Nat) (x65_19 : Bool), v65 = .bool x65_19 ∧ Aside0 (impl_combAt.j2 kq l0 a1 x10_2 x65_19 ((rd_T65 l0 a1).f0) ((rd_T65 l0 a1).f1) x108002_2 = some (r1, r2, r3, r4, r5)) ∧ Aside0 (kq ≤ k2) ∧ Aside0 (Kd.R k45 45 wc w.heap.size (fun k_ => k_ ≠ gb101 ∧ k_ ≠ gb107) u108002 x108002_2) ∧ Aside0 (wc.heap[gb101]? = some (.cells #[.int .i64 x102000_2, .int .i64 x102001_2, (.slice none 0 0)] 45 (0, 0))) ∧ Aside0 (wc.heap[gb107]? = some (.cells #[.int .i64 ((rd_T65 l0 a1).f0), .int .i64 ((rd_T65 l0 a1).f1), u108002] 45 (0, 0))) ∧ Aside0 (Below w.heap.size w wc))
        case first =>
         have H := HC20.out
         clear HC20
         by_cases c21 : ((rd_T65 l0 a1).f0) = 2
         ·rw [if_pos c21] at H
          have c21b0 : (((rd_T65 l0 a1).f0) == 2) = true := beq_iff_eq.mpr c21
          have c21b1 : (((rd_T65 l0 a1).f0) != 2) = false := bne_eq_false_iff_eq.mpr c21
          clear c21
          (first | rw [c21b0] | (simp only [i64_w, i32_w]; rw [c21b0]) | skip)
          have H' := aK H
          clear H
          have hnb22 := NB107_101.out
          have hnc22 := NB101_107.out
          obtain ⟨hcz23_0, hcz23_1, hcz23_2, hfz23_0, hfz23_1, hfz23_2⟩ := cA3 BK107
          obtain ⟨Ao24, co24, eo24⟩ := Kd.R_slice HO_108002.out
          subst eo24
          go_wp2
          go_meet
          case rel => exact ⟨_, (decide ((x108002_2.length : Int) < 2)), rS, H', ⟨by have := HJ3.out; have := HK2.out; first | omega | exact Nat.le_refl _⟩, ⟨by (with_reducible repeat (first | apply rA | apply rN | apply rD)); exact HO_108002.out⟩, ⟨pB BK101⟩, ⟨pB BK107⟩, ⟨pH HB⟩⟩
         ·rw [if_neg c21] at H
          have c21b0 : (((rd_T65 l0 a1).f0) == 2) = false := beq_eq_false_iff_ne.mpr c21
          have c21b1 : (((rd_T65 l0 a1).f0) != 2) = true := bne_iff_ne.mpr c21
          (first | rw [c21b0] | (simp only [i64_w, i32_w]; rw [c21b0]) | skip)
          have H' := aK H
          clear H
          have hnb25 := NB107_101.out
          have hnc25 := NB101_107.out
          obtain ⟨hcz26_0, hcz26_1, hcz26_2, hfz26_0, hfz26_1, hfz26_2⟩ := cA3 BK107
          go_wp2
          go_meet
          case rel => exact ⟨_, (false), rS, H', ⟨by have := HJ3.out; have := HK2.out; first | omega | exact Nat.le_refl _⟩, ⟨by (with_reducible repeat (first | apply rA | apply rN | apply rD)); exact HO_108002.out⟩, ⟨pB BK101⟩, ⟨pB BK107⟩, ⟨pH HB⟩⟩
        case rest =>
         clear HC20
         try clear c1; try clear p1; try clear q1; try clear hx1; try clear c2; try clear p2; try clear c3; try clear c6; try clear c6b0; try clear c6b1; try clear p6; try clear c7; try clear c7b0; try clear c8; try clear c8b0; try clear c9; try clear c9b0; try clear c9b1; try clear c10; try clear c10b0; try clear p10; try clear q10; try clear hx10; try clear c11; try clear c13; try clear c13b0; try clear c14; try clear c14b0; try clear c21; try clear c21b0; try clear c21b1; try clear c22; try clear c25; try clear hx102_0; try clear hx102_1; try clear hx102_2; try clear hx103_0; try clear hx103_1; try clear hx103_2; try clear hx104_0; try clear hx104_1; try clear hx104_2; try clear hx105_0; try clear hx105_1; try clear hx105_2; try clear hx106_0; try clear hx106_1; try clear hx106_2; try clear p1; try clear p10; try clear p102; try clear p103; try clear p104; try clear p105; try clear p106; try clear p2; try clear p6; try clear q1; try clear q10; try clear q102; try clear q103; try clear q104; try clear q105; try clear q106; try clear hcz12_0 hcz12_1 hcz12_2 hfz12_0 hfz12_1 hfz12_2; try clear hcz23_0 hcz23_1 hcz23_2 hfz23_0 hfz23_1 hfz23_2; try clear hcz26_0 hcz26_1 hcz26_2 hfz26_0 hfz26_1 hfz26_2
         obtain ⟨kq, x65_19, rfl, HA, HJ19, HO_108002, BK101, BK107, HB⟩ := hcut
         cases kq with
         | zero => exact absurd HA.out (by simp [impl_combAt.j2])
         | succ kj19 =>
          have H := HA.out
          clear HA
          simp only [impl_combAt.j2] at H
          by_cases c27 : x65_19 = true
          ·subst c27
           rw [if_pos rfl] at H
           obtain ⟨⟨t108, t109, t110, t113, t114⟩, A28, H⟩ := oB H
           try dsimp only at H
           by_cases c29 : t114 = true
           ·subst c29
            rw [if_pos rfl] at H
            by_cases c30 : x108002_2.length < 3518437208883
            ·rw [if_pos c30] at H
             have LMc30 := aK c30
             clear c30
             obtain ⟨y116, hy116⟩ : ∃ y_ : List (S45), y_ = (x108002_2 ++ [(⟨t108, t109, t110⟩ : S45)]) := ⟨_, rfl⟩
             replace H : (impl_combAt.l0 kj19 l0 a1 t113 ((rd_T65 l0 a1).f0) ((rd_T65 l0 a1).f1) y116) = some (r1, r2, r3, r4, r5) := by first | (rw [hy116]; with_reducible exact H) | (have H2_ := (Option.bind_some _ _).symm.trans H; rw [hy116]; with_reducible exact H2_) | (have H2_ := (Option.bind_some _ _).symm.trans H; with_reducible exact H2_) | with_reducible exact H | (rw [hy116]; exact H) | exact H
             have Ny116 := aK hy116
             clear hy116
             have H' := aK H
             clear H
             go_wp2_with (first | ((with_reducible refine gate_callee (f := 31) rfl ?_); refine goesL_ (some 70) rfl rfl Tryd.func31 (by kernel_rfl) rfl #[.slice (some ad105) l0.length c0, .int .i64 x10_2, .int .i64 a1] rfl tA ?_; (with_reducible refine (ih kj19 (by have := HJ3.out; have := HK2.out; have := HJ19.out; omega) _ _ l0 x10_2 a1 t108 t109 t110 t113 true _ ?side1 ?side2 A28.out).mono ?_); (case side1 => exact sC (Kd.C_below HR0.out HB.out)); (case side2 => exact HC0.out); rintro e w31 ⟨v111, rfl, ho0, hb⟩; refine ⟨_, rfl, ?_⟩; have n0_ := aK (Kd.R_elder' HO_108002.out (Kd.R_base ho0) hb); have HO112 := aK (Kd.R_lower (Kd.R_newB (Kd.R_newB (Kd.R_new' ho0 (Kd.R_lt HO_108002.out)) BK101.out) BK107.out) (below_size HB.out)); replace BK101 := qb BK101 hb; replace BK107 := qb BK107 hb; clear HO_108002; have HO_108002 := n0_; clear n0_; replace HB := qs HB hb; (try clear hb); (try clear ho0)) | ((with_reducible refine gate_dst (N := 11) rfl ?_); (try (refine gate_guard (by rfl) ?_; dsimp only)); refine bE (N := 11) (cs := #[.int .i64 0, .int .i64 0, .slice none 0 0]) (t := 45) ?_; intro gb115 hg w32 hbox hb; have n0_ := aK (Kd.R_below (Kd.R_elderB HO_108002.out gb115 (Nat.le_of_eq hg.symm)) hb); have n1_ := aK (Kd.R_below (Kd.R_elderB HO112.out gb115 (Nat.le_of_eq hg.symm)) hb); have GW115 := qw HB hg; have GE115 := qw HB hg; have NB101_115 := ql BK101 hg; have NB115_101 := qg BK101 hg; have NB107_115 := ql BK107 hg; have NB115_107 := qg BK107 hg; replace BK101 := qb BK101 hb; replace BK107 := qb BK107 hb; have BK115 := aK hbox; clear HO_108002; have HO_108002 := n0_; clear n0_; clear HO112; have HO112 := n1_; clear n1_; replace HB := qs HB hb; clear hb hbox hg; have hnb33 := NB115_101.out; have hnc33 := NB101_115.out; have hnb34 := NB115_107.out; have hnc34 := NB107_115.out; obtain ⟨hcz35_0, hcz35_1, hcz35_2, hfz35_0, hfz35_1, hfz35_2⟩ := cA3 BK115; obtain ⟨Ao36, co36, eo36⟩ := Kd.R_slice HO112.out; subst eo36) | ((with_reducible refine gate_store (t := 45) (p := 11) rfl ?_); refine store_event (t := 45) (p := 11) (v := ?vo_w37) (w1 := (((w32.setCell ⟨gb115, 0, none⟩ (.int .i64 t108)).setCell ⟨gb115, 1, none⟩ (.int .i64 t109)).setCell ⟨gb115, 2, none⟩ (.slice Ao36 t110.length co36))) ?hg ?ho ?hn ?hr ?_; (case ho => rfl); (case hg => rfl); (case hn => rfl); (case hr => first | (go_simp; done) | (go_simp; rfl)); intro w37 hw; have n_ := aJ (show Aside0 (Kd.R k45 45 w37 w.heap.size (fun k_ => some k_ ≠ (.slice Ao36 t110.length co36 : Value).ownBlock ∧ k_ ≠ gb101 ∧ k_ ≠ gb107 ∧ k_ ≠ gb115) u108002 x108002_2) from ⟨(by rw [hw]; exact (by (with_reducible repeat (first | apply rA | apply rN | apply rD)); exact Kd.R_mono (Kd.R_far (p := ⟨gb115, 2, none⟩) (Kd.R_far (p := ⟨gb115, 1, none⟩) (Kd.R_far (p := ⟨gb115, 0, none⟩) (Kd.R_mono HO_108002.out (fun k_ hk => (⟨hk, hk.2⟩ : _ ∧ k_ ≠ gb115))) (fun _ hk => hk.2) (.int .i64 t108)) (fun _ hk => hk.2) (.int .i64 t109)) (fun _ hk => hk.2) (.slice Ao36 t110.length co36)) (fun _ hk => ⟨hk.1.1.2, ⟨hk.1.1.1.1, ⟨hk.1.1.1.2, hk.1.2⟩⟩⟩)))⟩) (aJ (show Aside0 (Kd.R k45 45 w37 w.heap.size (fun k_ => some k_ ≠ (u108002 : Value).ownBlock ∧ k_ ≠ gb101 ∧ k_ ≠ gb107 ∧ k_ ≠ gb115) (.slice Ao36 t110.length co36) t110) from ⟨(by rw [hw]; exact (by (with_reducible repeat (first | apply rA | apply rN | apply rD)); exact Kd.R_mono (Kd.R_far (p := ⟨gb115, 2, none⟩) (Kd.R_far (p := ⟨gb115, 1, none⟩) (Kd.R_far (p := ⟨gb115, 0, none⟩) (Kd.R_mono HO112.out (fun k_ hk => (⟨hk, hk.2⟩ : _ ∧ k_ ≠ gb115))) (fun _ hk => hk.2) (.int .i64 t108)) (fun _ hk => hk.2) (.int .i64 t109)) (fun _ hk => hk.2) (.slice Ao36 t110.length co36)) (fun _ hk => ⟨hk.1.1.1.1.2, ⟨hk.1.1.1.2, ⟨hk.1.1.2, hk.1.2⟩⟩⟩)))⟩) (aJ (show Aside0 (w37.heap[gb101]? = some (.cells #[.int .i64 x102000_2, .int .i64 x102001_2, .slice none 0 0] 45 (0, 0))) from ⟨(by rw [hw]; exact (by (repeat first | with_reducible apply zN | with_reducible apply zD | with_reducible apply zA | refine blk_far ?_ NB101_115.out _); exact BK101.out))⟩) (aJ (show Aside0 (w37.heap[gb107]? = some (.cells #[.int .i64 ((rd_T65 l0 a1).f0), .int .i64 ((rd_T65 l0 a1).f1), u108002] 45 (0, 0))) from ⟨(by rw [hw]; exact (by (repeat first | with_reducible apply zN | with_reducible apply zD | with_reducible apply zA | refine blk_far ?_ NB107_115.out _); exact BK107.out))⟩) (aJ (show Aside0 (w37.heap[gb115]? = some (.cells #[.int .i64 t108, .int .i64 t109, .slice Ao36 t110.length co36] 45 (0, 0))) from ⟨(by rw [hw]; exact (p3 BK115))⟩) (show Aside0 (Below w.heap.size w w37) from ⟨(by rw [hw]; exact (pH HB))⟩))))); clear hw HO_108002 HO112 BK101 BK107 BK115 HB; obtain ⟨HO_108002, HO112, BK101, BK107, BK115, HB⟩ := n_; have hnb38 := NB107_101.out; have hnc38 := NB101_107.out; obtain ⟨hcz39_0, hcz39_1, hcz39_2, hfz39_0, hfz39_1, hfz39_2⟩ := cA3 BK107; obtain ⟨hcz40_0, hcz40_1, hcz40_2, hfz40_0, hfz40_1, hfz40_2⟩ := cA3 BK115) | ((with_reducible refine gate_builtin (b := .append) (xs := #[.tmp 78, .tmp 80]) rfl ?_); (try (refine gate_guard (by rfl) ?_; dsimp only)); at_builtin; refine Kd.R_append k45 (w0 := w) w.heap.size rfl (.tmp 78) (.tmp 80) 43 45 (.agg #[(.int .i64 0), (.int .i64 0), (.slice none 0 0)]) 40 rfl Tryd.underlying43 info45 rfl (by decide) (by omega) u108002 x108002_2 (⟨t108, t109, t110⟩ : S45) [.int .i64 t108, .int .i64 t109, .slice Ao36 t110.length co36] (fun k_ => k_ ≠ gb101 ∧ k_ ≠ gb107 ∧ k_ ≠ gb115) (fun k_ => ((fun k_ => k_ ≠ gb101 ∧ k_ ≠ gb107 ∧ k_ ≠ gb115)) k_ ∧ some k_ ≠ (u108002 : Value).ownBlock) rfl rfl ?aP (fun _ hk => hk) ?aF ?aO ?aB ?aS ?aL ?_; (case aP => exact k45_mkM _ _ _ (⟨t108, t109, t110⟩ : S45) (Kd.R_mono (HO112.out) (fun k_ hk => ⟨⟨hk.2.1, ⟨hk.2.2.1, hk.2.2.2⟩⟩, hk.1⟩))); (case aB => exact (pH HB)); (case aF => exact (fun k_ hk => ⟨Kd.freshB BK101.out k_ hk, Kd.freshB BK107.out k_ hk, Kd.freshB BK115.out k_ hk⟩)); (case aO => exact (by (with_reducible repeat (first | apply rA | apply rN | apply rD)); exact Kd.R_mono HO_108002.out (fun _ hk => ⟨hk.2.1, ⟨hk.2.2.1, hk.2.2.2⟩⟩))); (case aS => exact (below_size (pH HB))); (case aL => have := LMc30.out; omega); intro v117 w41 ho hb hg hat; rw [← Ny116.out] at ho; have n0_ := aK (blk_grown BK101.out hg (Kd.R_away HO_108002.out (fun _ hk => hk.2.1))); have n1_ := aK (blk_grown BK107.out hg (Kd.R_away HO_108002.out (fun _ hk => hk.2.2.1))); have n2_ := aK (blk_grown BK115.out hg (Kd.R_away HO_108002.out (fun _ hk => hk.2.2.2))); have n3_ := aK (hb); have HO118 := aK (ho); clear BK101; have BK101 := n0_; clear n0_; clear BK107; have BK107 := n1_; clear n1_; clear BK115; have BK115 := n2_; clear n2_; clear HB; have HB := n3_; clear n3_; clear HO_108002; clear HO112; clear ho hb hg hat; obtain ⟨Ao42, co42, eo42⟩ := Kd.R_slice HO118.out; subst eo42; obtain ⟨hcz43_0, hcz43_1, hcz43_2, hfz43_0, hfz43_1, hfz43_2⟩ := cA3 BK107))
             go_roundg kj19
             case measure => have := HJ3.out; have := HK2.out; have := HJ19.out; omega
             case rel => exact ⟨(t113), (x102000_2), (x102001_2), (y116), (.slice Ao42 y116.length co42), rS, H', ⟨by have := HJ3.out; have := HK2.out; have := HJ19.out; omega⟩, ⟨by (with_reducible repeat (first | apply rA | apply rN | apply rD)); exact Kd.R_mono (Kd.R_far (p := ⟨gb107, 2, none⟩) (Kd.R_mono HO118.out (fun k_ hk => (⟨hk, hk.2.1⟩ : _ ∧ k_ ≠ gb107))) (fun _ hk => hk.2) (.slice Ao42 y116.length co42)) (fun _ hk => ⟨hk.1.1, hk.1.2.1⟩)⟩, ⟨by (repeat first | with_reducible apply zN | with_reducible apply zD | with_reducible apply zA | refine blk_far ?_ NB101_107.out _); exact BK101.out⟩, ⟨by (with_reducible repeat first | apply zN | apply zD | apply zA); refine blk_put (cs := #[.int .i64 ((rd_T65 l0 a1).f0), .int .i64 ((rd_T65 l0 a1).f1), u108002]) ?_ 2 _ rfl; (with_reducible repeat first | apply zN | apply zD | apply zA); exact BK107.out⟩, ⟨pH HB⟩⟩
            ·rw [if_neg c30] at H
             exact absurd H (by simp)
           ·replace c29 := Bool.eq_false_iff.mpr c29
            subst c29
            rw [if_neg (show ¬ (false = true) by decide)] at H
            simp only [Option.some.injEq, Prod.mk.injEq] at H
            obtain ⟨rfl, rfl, rfl, rfl, rfl⟩ := H
            go_wp2_with (first | ((with_reducible refine gate_callee (f := 31) rfl ?_); refine goesL_ (some 70) rfl rfl Tryd.func31 (by kernel_rfl) rfl #[.slice (some ad105) l0.length c0, .int .i64 x10_2, .int .i64 a1] rfl tA ?_; (with_reducible refine (ih kj19 (by have := HJ3.out; have := HK2.out; have := HJ19.out; omega) _ _ l0 x10_2 a1 t108 t109 t110 t113 false _ ?side1 ?side2 A28.out).mono ?_); (case side1 => exact sC (Kd.C_below HR0.out HB.out)); (case side2 => exact HC0.out); rintro e w44 ⟨v111, rfl, ho0, hb⟩; refine ⟨_, rfl, ?_⟩; have n0_ := aK (Kd.R_elder' HO_108002.out (Kd.R_base ho0) hb); have HO112 := aK (Kd.R_lower (Kd.R_newB (Kd.R_newB (Kd.R_new' ho0 (Kd.R_lt HO_108002.out)) BK101.out) BK107.out) (below_size HB.out)); replace BK101 := qb BK101 hb; replace BK107 := qb BK107 hb; clear HO_108002; have HO_108002 := n0_; clear n0_; replace HB := qs HB hb; (try clear hb); (try clear ho0)) | ((with_reducible refine gate_dst (N := 11) rfl ?_); (try (refine gate_guard (by rfl) ?_; dsimp only)); refine bE (N := 11) (cs := #[.int .i64 0, .int .i64 0, .slice none 0 0]) (t := 45) ?_; intro gb115 hg w45 hbox hb; have n0_ := aK (Kd.R_below (Kd.R_elderB HO_108002.out gb115 (Nat.le_of_eq hg.symm)) hb); have n1_ := aK (Kd.R_below (Kd.R_elderB HO112.out gb115 (Nat.le_of_eq hg.symm)) hb); have GW115 := qw HB hg; have GE115 := qw HB hg; have NB101_115 := ql BK101 hg; have NB115_101 := qg BK101 hg; have NB107_115 := ql BK107 hg; have NB115_107 := qg BK107 hg; replace BK101 := qb BK101 hb; replace BK107 := qb BK107 hb; have BK115 := aK hbox; clear HO_108002; have HO_108002 := n0_; clear n0_; clear HO112; have HO112 := n1_; clear n1_; replace HB := qs HB hb; clear hb hbox hg; have hnb46 := NB115_101.out; have hnc46 := NB101_115.out; have hnb47 := NB115_107.out; have hnc47 := NB107_115.out; obtain ⟨hcz48_0, hcz48_1, hcz48_2, hfz48_0, hfz48_1, hfz48_2⟩ := cA3 BK115; obtain ⟨Ao49, co49, eo49⟩ := Kd.R_slice HO112.out; subst eo49; have hnb50 := NB101_107.out; have hnc50 := NB107_101.out; obtain ⟨hcz51_0, hcz51_1, hcz51_2, hfz51_0, hfz51_1, hfz51_2⟩ := cA3 BK101))
            refine bodyPost_ret (results_ctt rfl _ _ gb101 45 #[.int .i64 0, .int .i64 0, .slice none 0 0] (0, 0) _ rfl (by (with_reducible repeat first | apply zN | apply zD | apply zA); refine blk_put (cs := #[.int .i64 0, .int .i64 0, .slice none 0 0]) ?_ 2 _ rfl; (with_reducible repeat first | apply zN | apply zD | apply zA); refine blk_put (cs := #[.int .i64 0, .int .i64 x102001_2, .slice none 0 0]) ?_ 1 _ rfl; (with_reducible repeat first | apply zN | apply zD | apply zA); refine blk_put (cs := #[.int .i64 x102000_2, .int .i64 x102001_2, .slice none 0 0]) ?_ 0 _ rfl; (repeat first | with_reducible apply zN | with_reducible apply zD | with_reducible apply zA | refine blk_far ?_ NB101_115.out _); exact BK101.out) Tryd.underlying45 rfl (by kernel_rfl)) rfl ?_
            exact ⟨_, eW, by first | exact Kd.R_nil _ _ _ _ _ | exact Kd.N_nil _ _ _ _ _ | exact Kd.V_nil _ _ _ _ _ | exact Kd.Q_nil _ _ _ _ _ | exact Kd.S_nil _ _ _ _ _, pH HB⟩
          ·replace c27 := Bool.eq_false_iff.mpr c27
           subst c27
           rw [if_neg (show ¬ (false = true) by decide)] at H
           simp only [Option.some.injEq, Prod.mk.injEq] at H
           obtain ⟨rfl, rfl, rfl, rfl, rfl⟩ := H
           have hnb52 := NB107_101.out
           have hnc52 := NB101_107.out
           obtain ⟨hcz53_0, hcz53_1, hcz53_2, hfz53_0, hfz53_1, hfz53_2⟩ := cA3 BK107
           obtain ⟨hcz54_0, hcz54_1, hcz54_2, hfz54_0, hfz54_1, hfz54_2⟩ := cA3 BK101
           obtain ⟨Ao55, co55, eo55⟩ := Kd.R_slice HO_108002.out
           subst eo55
           go_wp2
           refine bodyPost_ret (results_ctt rfl _ _ gb101 45 #[.int .i64 ((rd_T65 l0 a1).f0), .int .i64 ((rd_T65 l0 a1).f1), .slice Ao55 x108002_2.length co55] (0, 0) _ rfl (p3 BK101) Tryd.underlying45 rfl (by kernel_rfl)) rfl ?_
           exact ⟨_, eW, by (with_reducible repeat (first | apply rA | apply rN | apply rD)); exact Kd.R_mono (Kd.R_far (p := ⟨gb101, 2, none⟩) (Kd.R_far (p := ⟨gb101, 1, none⟩) (Kd.R_far (p := ⟨gb101, 0, none⟩) (Kd.R_mono HO_108002.out (fun k_ hk => (⟨hk, hk.1⟩ : _ ∧ k_ ≠ gb101))) (fun _ hk => hk.2) (.int .i64 ((rd_T65 l0 a1).f0))) (fun _ hk => hk.2) (.int .i64 ((rd_T65 l0 a1).f1))) (fun _ hk => hk.2) (.slice Ao55 x108002_2.length co55)) (fun _ hk => trivial), pH HB⟩
     ·rw [if_neg c14] at H
      exact absurd H (by simp)
    ·rw [if_neg c13] at H
     exact absurd H (by simp)


def impl_combRoot.j0 : Nat → List (S65) → Bool → Option (Int × Int × (List (S45)) × Bool)
 | 0, _, _ => none
 | k + 1, x0, x14 => if x14 = true then (some (0, 0, ([] : List (S45)), false)) else ((impl_combAt.f k x0 0 (-1)).bind fun bt102 => (if bt102.2.2.2.2 = true then (if bt102.2.2.2.1 = (x0.length : Int) then ((impl_comb_isGood.f k bt102.1 bt102.2.1 bt102.2.2.1).bind fun t110 => (some (bt102.1, bt102.2.1, bt102.2.2.1, t110))) else (some (bt102.1, bt102.2.1, bt102.2.2.1, false))) else (some (bt102.1, bt102.2.1, bt102.2.2.1, false))))
def impl_combRoot.f (k : Nat) (l0 : List (S65)) : Option (Int × Int × (List (S45)) × Bool) := if (l0.length : Int) < 1 then (impl_combRoot.j0 k l0 true) else (impl_combRoot.j0 k l0 (decide ((l0.length : Int) > 200)))
def impl_combRoot.T4 : Bool × List (List Nat × List Nat) := (true, [([], []), ([], []), ([1], [1]), ([2], [2]), ([2], [2]), ([4, 2], [2, 4]), ([3, 5, 2], [2, 3, 5]), ([2, 6], [2, 6]), ([7, 2], [7]), ([8], [8]), ([9, 8, 8], [8, 9]), ([8, 10], [8, 10]), ([0, 10, 0], [0]), ([11, 12, 0, 1, 2, 3, 4, 5, 6, 7, 8, 9, 10, 11, 12], [11])])
def impl_combRoot.B4 : List Nat := [0, 0, 2, 6, 6, 22, 62, 126, 254, 510, 1022, 2046, 2047, 8191]
theorem impl_combRoot.tab4 : rtab .any (opsOf Tryd.f15 4) = impl_combRoot.T4 := by kernel_rfl
theorem impl_combRoot.bits4 : waitsOk impl_combRoot.T4.2 impl_combRoot.B4 = true := by kernel_rfl
set_option maxHeartbeats 8000000 in
set_option maxRecDepth 100000 in
theorem impl_combRoot.calls (k : Nat) (A0 : Option Addr) (c0 : Nat) (l0 : List (S65)) (r1 : Int) (r2 : Int) (r3 : List (S45)) (r4 : Bool) (w : World) (hr0 : Kd.C k65 w A0 l0.length l0) (hc0 : l0.length ≤ c0) (h : impl_combRoot.f k l0 = some (r1, r2, r3, r4)) :
  Calls Tryd.prog 15 #[.slice A0 l0.length c0] w fun e w' => ∃ v2_ : Value, e = .returned (.tuple #[.agg #[.int .i64 r1, .int .i64 r2, v2_], .bool r4]) ∧ Kd.R k45 45 w' w.heap.size (fun _ => True) v2_ r3 ∧ Below w.heap.size w w' := by
 have hu45 := Tryd.underlying45
 have HR0 := aK hr0
 have HC0 := aK hc0
 clear hr0 hc0
 have HB := aK (Below.refl w.heap.size w)
 have H : (if (l0.length : Int) < 1 then (impl_combRoot.j0 k l0 true) else (impl_combRoot.j0 k l0 (decide ((l0.length : Int) > 200)))) = some (r1, r2, r3, r4) := h
 clear h
 have HC2 := aK H
 clear H
 go_enter Tryd.func15, Tryd.ntmps15
 go_upto_region 1 with (first | ((with_reducible refine gate_dst (N := 2) rfl ?_); (try (refine gate_guard (by rfl) ?_; dsimp only)); refine bE (N := 2) (cs := #[.int .i64 0, .int .i64 0, .slice none 0 0]) (t := 45) ?_; intro gb101 hg w3 hbox hb; have GW101 := qw HB hg; have GE101 := qw HB hg; have BK101 := aK hbox; replace HB := qs HB hb; clear hb hbox hg))
 (try simp only [Act.put, List.setIfInBounds_toArray, List.set_cons_zero, List.set_cons_succ])
 go_cut [14] (fun v14 wc => ∃ (kq : Nat) (x14_1 : Bool), v14 = .bool x14_1 ∧ Aside0 (impl_combRoot.j0 kq l0 x14_1 = some (r1, r2, r3, r4)) ∧ Aside0 (kq ≤ k) ∧ Aside0 (wc.heap[gb101]? = some (.cells #[.int .i64 0, .int .i64 0, (.slice none 0 0)] 45 (0, 0))) ∧ Aside0 (Below w.heap.size w wc))
 case first =>
  have H := HC2.out
  clear HC2
  by_cases c4 : (l0.length : Int) < 1
  ·rw [if_pos c4] at H
   have c4b0 : decide ((l0.length : Int) < 1) = true := decide_eq_true c4
   have c4b1 : decide (l0.length < 1) = true := decide_eq_true (by omega)
   clear c4
   (first | rw [c4b0] | (simp only [i64_w, i32_w]; rw [c4b0]) | skip)
   have H' := aK H
   clear H
   go_wp2
   go_meet
   case rel => exact ⟨_, (true), rS, H', ⟨by first | omega | exact Nat.le_refl _⟩, ⟨pB BK101⟩, ⟨pH HB⟩⟩
  ·rw [if_neg c4] at H
   have c4b0 : decide ((l0.length : Int) < 1) = false := decide_eq_false c4
   have c4b1 : decide (l0.length < 1) = false := decide_eq_false (by omega)
   clear c4
   (first | rw [c4b0] | (simp only [i64_w, i32_w]; rw [c4b0]) | skip)
   have H' := aK H
   clear H
   go_wp2
   go_meet
   case rel => exact ⟨_, (decide ((l0.length : Int) > 200)), rS, H', ⟨by first | omega | exact Nat.le_refl _⟩, ⟨pB BK101⟩, ⟨pH HB⟩⟩
 case rest =>
  clear HC2
  try clear c1; try clear p2; try clear c4; try clear c4b0; try clear c4b1
  obtain ⟨kq, x14_1, rfl, HA, HJ1, BK101, HB⟩ := hcut
  cases kq with
  | zero => exact absurd HA.out (by simp [impl_combRoot.j0])
  | succ kj1 =>
   have H := HA.out
   clear HA
   simp only [impl_combRoot.j0] at H
   by_cases c5 : x14_1 = true
   ·subst c5
    rw [if_pos rfl] at H
    simp only [Option.some.injEq, Prod.mk.injEq] at H
    obtain ⟨rfl, rfl, rfl, rfl⟩ := H
    obtain ⟨hcz6_0, hcz6_1, hcz6_2, hfz6_0, hfz6_1, hfz6_2⟩ := cA3 BK101
    go_wp2
    refine bodyPost_ret (results_ct rfl _ _ gb101 45 #[.int .i64 0, .int .i64 0, .slice none 0 0] (0, 0) _ rfl (p3 BK101) Tryd.underlying45 rfl (by kernel_rfl)) rfl ?_
    exact ⟨_, eW, by first | exact Kd.R_nil _ _ _ _ _ | exact Kd.N_nil _ _ _ _ _ | exact Kd.V_nil _ _ _ _ _ | exact Kd.Q_nil _ _ _ _ _ | exact Kd.S_nil _ _ _ _ _, pH HB⟩
   ·replace c5 := Bool.eq_false_iff.mpr c5
    subst c5
    rw [if_neg (show ¬ (false = true) by decide)] at H
    obtain ⟨⟨t102, t103, t104, t107, t108⟩, A7, H⟩ := oB H
    try dsimp only at H
    by_cases c8 : t108 = true
    ·subst c8
     rw [if_pos rfl] at H
     by_cases c9 : t107 = (l0.length : Int)
     ·rw [if_pos c9] at H
      have c9b0 : (t107 == (l0.length : Int)) = true := beq_iff_eq.mpr c9
      have c9b1 : (t107 != (l0.length : Int)) = false := bne_eq_false_iff_eq.mpr c9
      clear c9
      obtain ⟨t110, A10, H⟩ := oB H
      try dsimp only at H
      simp only [Option.some.injEq, Prod.mk.injEq] at H
      obtain ⟨rfl, rfl, rfl, rfl⟩ := H
      try go_wp2_with (first | ((with_reducible refine gate_callee (f := 31) rfl ?_); refine goesL_ (some 18) rfl rfl Tryd.func31 (by kernel_rfl) rfl #[.slice A0 l0.length c0, .int .i64 0, .int .i64 (-1)] rfl tA ?_; (with_reducible refine (impl_combAt.calls kj1 _ _ l0 0 (-1) t102 t103 t104 t107 true _ ?side1 ?side2 A7.out).mono ?_); (case side1 => exact sC (Kd.C_below HR0.out HB.out)); (case side2 => exact HC0.out); rintro e w11 ⟨v105, rfl, ho0, hb⟩; refine ⟨_, rfl, ?_⟩; have HO106 := aK (Kd.R_lower (Kd.R_newB ho0 BK101.out) (below_size HB.out)); replace BK101 := qb BK101 hb; replace HB := qs HB hb; (try clear hb); (try clear ho0)) | ((with_reducible refine gate_dst (N := 4) rfl ?_); (try (refine gate_guard (by rfl) ?_; dsimp only)); refine bE (N := 4) (cs := #[.int .i64 0, .int .i64 0, .slice none 0 0]) (t := 45) ?_; intro gb109 hg w12 hbox hb; have n0_ := aK (Kd.R_below (Kd.R_elderB HO106.out gb109 (Nat.le_of_eq hg.symm)) hb); have GW109 := qw HB hg; have GE109 := qw HB hg; have NB101_109 := ql BK101 hg; have NB109_101 := qg BK101 hg; replace BK101 := qb BK101 hb; have BK109 := aK hbox; clear HO106; have HO106 := n0_; clear n0_; replace HB := qs HB hb; clear hb hbox hg; have hnb13 := NB109_101.out; have hnc13 := NB101_109.out; obtain ⟨hcz14_0, hcz14_1, hcz14_2, hfz14_0, hfz14_1, hfz14_2⟩ := cA3 BK109; obtain ⟨Ao15, co15, eo15⟩ := Kd.R_slice HO106.out; subst eo15))
      have n0_ : Aside0 (Kd.R k45 45 (((w12.setCell ⟨gb109, 0, none⟩ (.int .i64 t102)).setCell ⟨gb109, 1, none⟩ (.int .i64 t103)).setCell ⟨gb109, 2, none⟩ (.slice Ao15 t104.length co15)) w.heap.size (fun k_ => k_ ≠ gb101 ∧ k_ ≠ gb109) (.slice Ao15 t104.length co15) t104) := ⟨by (with_reducible repeat (first | apply rA | apply rN | apply rD)); exact Kd.R_mono (Kd.R_far (p := ⟨gb109, 2, none⟩) (Kd.R_far (p := ⟨gb109, 1, none⟩) (Kd.R_far (p := ⟨gb109, 0, none⟩) (Kd.R_mono HO106.out (fun k_ hk => (⟨hk, hk.2⟩ : _ ∧ k_ ≠ gb109))) (fun _ hk => hk.2) (.int .i64 t102)) (fun _ hk => hk.2) (.int .i64 t103)) (fun _ hk => hk.2) (.slice Ao15 t104.length co15)) (fun _ hk => ⟨hk.1.1.2, hk.1.2⟩)⟩
      have n1_ : Aside0 ((((w12.setCell ⟨gb109, 0, none⟩ (.int .i64 t102)).setCell ⟨gb109, 1, none⟩ (.int .i64 t103)).setCell ⟨gb109, 2, none⟩ (.slice Ao15 t104.length co15)).heap[gb101]? = some (.cells #[.int .i64 0, .int .i64 0, .slice none 0 0] 45 (0, 0))) := ⟨by (repeat first | with_reducible apply zN | with_reducible apply zD | with_reducible apply zA | refine blk_far ?_ NB101_109.out _); exact BK101.out⟩
      have n2_ : Aside0 ((((w12.setCell ⟨gb109, 0, none⟩ (.int .i64 t102)).setCell ⟨gb109, 1, none⟩ (.int .i64 t103)).setCell ⟨gb109, 2, none⟩ (.slice Ao15 t104.length co15)).heap[gb109]? = some (.cells #[.int .i64 t102, .int .i64 t103, .slice Ao15 t104.length co15] 45 (0, 0))) := ⟨p3 BK109⟩
      have n3_ : Aside0 (Below w.heap.size w (((w12.setCell ⟨gb109, 0, none⟩ (.int .i64 t102)).setCell ⟨gb109, 1, none⟩ (.int .i64 t103)).setCell ⟨gb109, 2, none⟩ (.slice Ao15 t104.length co15))) := ⟨pH HB⟩
      (try clear HO106)
      (try clear BK101)
      (try clear BK109)
      (try clear HB)
      generalize (((w12.setCell ⟨gb109, 0, none⟩ (.int .i64 t102)).setCell ⟨gb109, 1, none⟩ (.int .i64 t103)).setCell ⟨gb109, 2, none⟩ (.slice Ao15 t104.length co15)) = w16 at n0_ n1_ n2_ n3_ ⊢
      have HO106 := n0_
      have BK101 := n1_
      have BK109 := n2_
      have HB := n3_
      clear n0_ n1_ n2_ n3_
      have n_ := aJ (aK (Kd.R_drew HO106.out)) (aJ (aK (blk_drew BK101.out)) (aJ (aK (blk_drew BK109.out)) (aK (below_drew1 HB.out))))
      clear HO106 BK101 BK109 HB
      obtain ⟨HO106, BK101, BK109, HB⟩ := n_
      refine start_ (n := 14) (S := fun w' => w'.cell? ⟨gb109, 0, none⟩ = some (.int .i64 t102) ∧ w'.cell? ⟨gb109, 1, none⟩ = some (.int .i64 t103) ∧ w'.cell? ⟨gb109, 2, none⟩ = some (.slice Ao15 t104.length co15)) (ds := []) (bs 0 14) (by kernel_rfl) rfl rfl ⟨(blk_cell BK109.out 0).trans rfl, (blk_cell BK109.out 1).trans rfl, (blk_cell BK109.out 2).trans rfl⟩ (fun hHeld => ?_); refine with_tabW impl_combRoot.tab4 impl_combRoot.bits4 (fun HT_ HW_ => ?_)
      generalize w16.drew = w17 at HO106 BK101 BK109 HB hHeld ⊢
      refine pS (i := 1) (N := some 23) #[false, true, false, false, false, false, false, false, false, false, false, false, false, false] (aO HT_) ?_
      refine pS (i := 2) (N := some 24) #[false, true, true, false, false, false, false, false, false, false, false, false, false, false] (aO HT_) ?_
      refine pS (i := 3) (N := some 25) #[false, true, true, true, false, false, false, false, false, false, false, false, false, false] (aO HT_) ?_
      refine pS (i := 4) (N := some 26) #[false, true, true, true, true, false, false, false, false, false, false, false, false, false] (aO HT_) ?_
      refine pS (i := 5) (N := some 27) #[false, true, true, true, true, true, false, false, false, false, false, false, false, false] (aO HT_) ?_
      refine pS (i := 6) (N := some 28) #[false, true, true, true, true, true, true, false, false, false, false, false, false, false] (aO HT_) ?_
      refine pS (i := 7) (N := some 29) #[false, true, true, true, true, true, true, true, false, false, false, false, false, false] (aO HT_) ?_
      refine pS (i := 8) (N := some 30) #[false, true, true, true, true, true, true, true, true, false, false, false, false, false] (aO HT_) ?_
      refine take_ (i := 0) (N := some 22) (v := ?_) (a' := ?_) (bs 9 5) rfl rfl (take_ofW HT_.out HW_.out (by kernel_rfl)) (fun _ _ _ h => h) (Or.inl ⟨by rfl, ?_⟩) hHeld ?_ ?_
      rotate_left
      ·rintro w' ⟨s0, s1, s2⟩
       go_simp
       with_reducible rfl
      rotate_left
      ·simp only [sP, i64_w, i32_w]
       rfl
      refine take_ (i := 9) (N := some 31) (v := ?_) (a' := ?_) (bs 10 4) rfl rfl (take_ofW HT_.out HW_.out (by kernel_rfl)) (fun _ _ _ h => h) (Or.inl ⟨by rfl, ?_⟩) hHeld ?_ ?_
      rotate_left
      ·rintro w' ⟨s0, s1, s2⟩
       go_simp
       with_reducible rfl
      rotate_left
      ·simp only [sP, i64_w, i32_w]
       rfl
      refine one_ (i := 10) (N := some 32) (bs 11 3) rfl rfl (one_of HT_.out (by kernel_rfl)) (by decide) (fun K hK => ?_)
      refine goes_ Tryd.func24 (by kernel_rfl) rfl #[.agg #[.int .i64 t102, .int .i64 t103, .slice Ao15 t104.length co15]] (by rfl) rfl rfl tA ?_
      with_reducible refine (impl_comb_isGood.calls kj1 t102 t103 _ _ t104 t110 _ ?side1 ?side2 A10.out).mono ?_
      (case side1 => exact sC ((Kd.R_reads' HO106.out).2.2))
      (case side2 => exact (Kd.R_reads' HO106.out).2.1)
      rintro e w18 ⟨rfl, hb⟩
      refine ⟨_, rfl, ?_⟩
      have n_ := aJ (aK (Kd.R_below HO106.out hb)) (aJ (aK (blk_below BK101.out hb)) (aJ (aK (blk_below BK109.out hb)) (aK (below_step (pH HB) hb))))
      clear HO106 BK101 BK109 HB
      obtain ⟨HO106, BK101, BK109, HB⟩ := n_
      (try clear hb)
      (try clear hb2)
      (try clear hk)
      (try clear hi)
      refine hK.out _ _ ⟨(blk_cell BK109.out 0).trans rfl, (blk_cell BK109.out 1).trans rfl, (blk_cell BK109.out 2).trans rfl⟩ (fun hHeld => ?_)
      clear hK K
      refine norm_ (a' := ?_) ?_ ?_
      rotate_left
      ·show Act.put _ (some 32) _ = _
       simp only [sP, i64_w, i32_w]
       rfl
      refine pS (i := 11) (N := some 33) (bs 12 2) (aO HT_) ?_
      refine one_ (i := 12) (N := none) (bs 13 1) rfl rfl (one_of HT_.out (by kernel_rfl)) (by decide) (fun K hK => ?_)
      have hs19 : w18.cell? ⟨gb101, 0, none⟩ = some (.int .i64 0) := (blk_cell BK101.out 0).trans rfl
      have hfs19 := blk_frozen BK101.out 0
      have hns19_1 := NB109_101.out
      have hms19_1 := NB101_109.out
      have hs20 : w18.cell? ⟨gb101, 1, none⟩ = some (.int .i64 0) := (blk_cell BK101.out 1).trans rfl
      have hfs20 := blk_frozen BK101.out 1
      have hns20_1 := NB109_101.out
      have hms20_1 := NB101_109.out
      have hs21 : w18.cell? ⟨gb101, 2, none⟩ = some (.slice none 0 0) := (blk_cell BK101.out 2).trans rfl
      have hfs21 := blk_frozen BK101.out 2
      have hns21_1 := NB109_101.out
      have hms21_1 := NB101_109.out
      refine skip_ (w1 := ?_) (by rfl) rfl ?_ ?_
      rotate_left
      ·go_simp
       rfl
      refine hK.out _ _ ⟨(cF3 NB109_101.out (hHeld.1)), (cF3 NB109_101.out (hHeld.2.1)), (cF3 NB109_101.out (hHeld.2.2))⟩ (fun hHeld => ?_)
      clear hK K
      refine pS (i := 13) (N := some 3) (bs 14 0) (aO HT_) ?_
      refine done_ (done_of HT_.out (by kernel_rfl)) ?_
      try go_wp2
      refine bodyPost_ret (results_ct rfl _ _ gb101 45 #[.int .i64 t102, .int .i64 t103, .slice Ao15 t104.length co15] (0, 0) _ rfl (p3 BK101) Tryd.underlying45 rfl (by kernel_rfl)) rfl ?_
      exact ⟨_, eW, by (with_reducible repeat (first | apply rA | apply rN | apply rD)); exact Kd.R_mono (Kd.R_far (p := ⟨gb101, 2, none⟩) (Kd.R_far (p := ⟨gb101, 1, none⟩) (Kd.R_far (p := ⟨gb101, 0, none⟩) (Kd.R_mono HO106.out (fun k_ hk => (⟨hk, hk.1⟩ : _ ∧ k_ ≠ gb101))) (fun _ hk => hk.2) (.int .i64 t102)) (fun _ hk => hk.2) (.int .i64 t103)) (fun _ hk => hk.2) (.slice Ao15 t104.length co15)) (fun _ hk => trivial), pH HB⟩
     ·rw [if_neg c9] at H
      have c9b0 : (t107 == (l0.length : Int)) = false := beq_eq_false_iff_ne.mpr c9
      have c9b1 : (t107 != (l0.length : Int)) = true := bne_iff_ne.mpr c9
      simp only [Option.some.injEq, Prod.mk.injEq] at H
      obtain ⟨rfl, rfl, rfl, rfl⟩ := H
      try go_wp2_with (first | ((with_reducible refine gate_callee (f := 31) rfl ?_); refine goesL_ (some 18) rfl rfl Tryd.func31 (by kernel_rfl) rfl #[.slice A0 l0.length c0, .int .i64 0, .int .i64 (-1)] rfl tA ?_; (with_reducible refine (impl_combAt.calls kj1 _ _ l0 0 (-1) t102 t103 t104 t107 true _ ?side1 ?side2 A7.out).mono ?_); (case side1 => exact sC (Kd.C_below HR0.out HB.out)); (case side2 => exact HC0.out); rintro e w22 ⟨v105, rfl, ho0, hb⟩; refine ⟨_, rfl, ?_⟩; have HO106 := aK (Kd.R_lower (Kd.R_newB ho0 BK101.out) (below_size HB.out)); replace BK101 := qb BK101 hb; replace HB := qs HB hb; (try clear hb); (try clear ho0)) | ((with_reducible refine gate_dst (N := 4) rfl ?_); (try (refine gate_guard (by rfl) ?_; dsimp only)); refine bE (N := 4) (cs := #[.int .i64 0, .int .i64 0, .slice none 0 0]) (t := 45) ?_; intro gb109 hg w23 hbox hb; have n0_ := aK (Kd.R_below (Kd.R_elderB HO106.out gb109 (Nat.le_of_eq hg.symm)) hb); have GW109 := qw HB hg; have GE109 := qw HB hg; have NB101_109 := ql BK101 hg; have NB109_101 := qg BK101 hg; replace BK101 := qb BK101 hb; have BK109 := aK hbox; clear HO106; have HO106 := n0_; clear n0_; replace HB := qs HB hb; clear hb hbox hg; have hnb24 := NB109_101.out; have hnc24 := NB101_109.out; obtain ⟨hcz25_0, hcz25_1, hcz25_2, hfz25_0, hfz25_1, hfz25_2⟩ := cA3 BK109; obtain ⟨Ao26, co26, eo26⟩ := Kd.R_slice HO106.out; subst eo26))
      have n0_ : Aside0 (Kd.R k45 45 (((w23.setCell ⟨gb109, 0, none⟩ (.int .i64 t102)).setCell ⟨gb109, 1, none⟩ (.int .i64 t103)).setCell ⟨gb109, 2, none⟩ (.slice Ao26 t104.length co26)) w.heap.size (fun k_ => k_ ≠ gb101 ∧ k_ ≠ gb109) (.slice Ao26 t104.length co26) t104) := ⟨by (with_reducible repeat (first | apply rA | apply rN | apply rD)); exact Kd.R_mono (Kd.R_far (p := ⟨gb109, 2, none⟩) (Kd.R_far (p := ⟨gb109, 1, none⟩) (Kd.R_far (p := ⟨gb109, 0, none⟩) (Kd.R_mono HO106.out (fun k_ hk => (⟨hk, hk.2⟩ : _ ∧ k_ ≠ gb109))) (fun _ hk => hk.2) (.int .i64 t102)) (fun _ hk => hk.2) (.int .i64 t103)) (fun _ hk => hk.2) (.slice Ao26 t104.length co26)) (fun _ hk => ⟨hk.1.1.2, hk.1.2⟩)⟩
      have n1_ : Aside0 ((((w23.setCell ⟨gb109, 0, none⟩ (.int .i64 t102)).setCell ⟨gb109, 1, none⟩ (.int .i64 t103)).setCell ⟨gb109, 2, none⟩ (.slice Ao26 t104.length co26)).heap[gb101]? = some (.cells #[.int .i64 0, .int .i64 0, .slice none 0 0] 45 (0, 0))) := ⟨by (repeat first | with_reducible apply zN | with_reducible apply zD | with_reducible apply zA | refine blk_far ?_ NB101_109.out _); exact BK101.out⟩
      have n2_ : Aside0 ((((w23.setCell ⟨gb109, 0, none⟩ (.int .i64 t102)).setCell ⟨gb109, 1, none⟩ (.int .i64 t103)).setCell ⟨gb109, 2, none⟩ (.slice Ao26 t104.length co26)).heap[gb109]? = some (.cells #[.int .i64 t102, .int .i64 t103, .slice Ao26 t104.length co26] 45 (0, 0))) := ⟨p3 BK109⟩
      have n3_ : Aside0 (Below w.heap.size w (((w23.setCell ⟨gb109, 0, none⟩ (.int .i64 t102)).setCell ⟨gb109, 1, none⟩ (.int .i64 t103)).setCell ⟨gb109, 2, none⟩ (.slice Ao26 t104.length co26))) := ⟨pH HB⟩
      (try clear HO106)
      (try clear BK101)
      (try clear BK109)
      (try clear HB)
      generalize (((w23.setCell ⟨gb109, 0, none⟩ (.int .i64 t102)).setCell ⟨gb109, 1, none⟩ (.int .i64 t103)).setCell ⟨gb109, 2, none⟩ (.slice Ao26 t104.length co26)) = w27 at n0_ n1_ n2_ n3_ ⊢
      have HO106 := n0_
      have BK101 := n1_
      have BK109 := n2_
      have HB := n3_
      clear n0_ n1_ n2_ n3_
      have n_ := aJ (aK (Kd.R_drew HO106.out)) (aJ (aK (blk_drew BK101.out)) (aJ (aK (blk_drew BK109.out)) (aK (below_drew1 HB.out))))
      clear HO106 BK101 BK109 HB
      obtain ⟨HO106, BK101, BK109, HB⟩ := n_
      refine start_ (n := 14) (S := fun w' => w'.cell? ⟨gb109, 0, none⟩ = some (.int .i64 t102) ∧ w'.cell? ⟨gb109, 1, none⟩ = some (.int .i64 t103) ∧ w'.cell? ⟨gb109, 2, none⟩ = some (.slice Ao26 t104.length co26)) (ds := []) (bs 0 14) (by kernel_rfl) rfl rfl ⟨(blk_cell BK109.out 0).trans rfl, (blk_cell BK109.out 1).trans rfl, (blk_cell BK109.out 2).trans rfl⟩ (fun hHeld => ?_); refine with_tabW impl_combRoot.tab4 impl_combRoot.bits4 (fun HT_ HW_ => ?_)
      generalize w27.drew = w28 at HO106 BK101 BK109 HB hHeld ⊢
      refine pS (i := 1) (N := some 23) #[false, true, false, false, false, false, false, false, false, false, false, false, false, false] (aO HT_) ?_
      refine pS (i := 2) (N := some 24) #[false, true, true, false, false, false, false, false, false, false, false, false, false, false] (aO HT_) ?_
      refine pS (i := 3) (N := some 25) #[false, true, true, true, false, false, false, false, false, false, false, false, false, false] (aO HT_) ?_
      refine pS (i := 4) (N := some 26) #[false, true, true, true, true, false, false, false, false, false, false, false, false, false] (aO HT_) ?_
      refine pS (i := 5) (N := some 27) #[false, true, true, true, true, true, false, false, false, false, false, false, false, false] (aO HT_) ?_
      refine pS (i := 6) (N := some 28) #[false, true, true, true, true, true, true, false, false, false, false, false, false, false] (aO HT_) ?_
      refine pS (i := 7) (N := some 29) #[false, true, true, true, true, true, true, true, false, false, false, false, false, false] (aO HT_) ?_
      refine pS (i := 8) (N := some 30) #[false, true, true, true, true, true, true, true, true, false, false, false, false, false] (aO HT_) ?_
      refine pure_ (i := 9) (N := some 31) (v := undef) (a' := ?_) #[false, true, true, true, true, true, true, true, true, true, false, false, false, false] rfl rfl (any_of HT_.out (by kernel_rfl)) (fun _ _ _ h => h) (Or.inr ⟨by rfl, rfl⟩) ?_ ?_
      rotate_left
      ·simp only [sP, i64_w, i32_w]
       rfl
      refine pure_ (i := 10) (N := some 32) (v := undef) (a' := ?_) #[false, true, true, true, true, true, true, true, true, true, true, false, false, false] rfl rfl (any_of HT_.out (by kernel_rfl)) (fun _ _ _ h => h) (Or.inr ⟨by rfl, rfl⟩) ?_ ?_
      rotate_left
      ·simp only [sP, i64_w, i32_w]
       rfl
      refine pS (i := 11) (N := some 33) #[false, true, true, true, true, true, true, true, true, true, true, true, false, false] (aO HT_) ?_
      refine take_ (i := 0) (N := some 22) (v := ?_) (a' := ?_) (bs 12 2) rfl rfl (take_ofW HT_.out HW_.out (by kernel_rfl)) (fun _ _ _ h => h) (Or.inl ⟨by rfl, ?_⟩) hHeld ?_ ?_
      rotate_left
      ·rintro w' ⟨s0, s1, s2⟩
       go_simp
       with_reducible rfl
      rotate_left
      ·simp only [sP, i64_w, i32_w]
       rfl
      refine one_ (i := 12) (N := none) (bs 13 1) rfl rfl (one_of HT_.out (by kernel_rfl)) (by decide) (fun K hK => ?_)
      have hs29 : w28.cell? ⟨gb101, 0, none⟩ = some (.int .i64 0) := (blk_cell BK101.out 0).trans rfl
      have hfs29 := blk_frozen BK101.out 0
      have hns29_1 := NB109_101.out
      have hms29_1 := NB101_109.out
      have hs30 : w28.cell? ⟨gb101, 1, none⟩ = some (.int .i64 0) := (blk_cell BK101.out 1).trans rfl
      have hfs30 := blk_frozen BK101.out 1
      have hns30_1 := NB109_101.out
      have hms30_1 := NB101_109.out
      have hs31 : w28.cell? ⟨gb101, 2, none⟩ = some (.slice none 0 0) := (blk_cell BK101.out 2).trans rfl
      have hfs31 := blk_frozen BK101.out 2
      have hns31_1 := NB109_101.out
      have hms31_1 := NB101_109.out
      refine skip_ (w1 := ?_) (by rfl) rfl ?_ ?_
      rotate_left
      ·go_simp
       rfl
      refine hK.out _ _ ⟨(cF3 NB109_101.out (hHeld.1)), (cF3 NB109_101.out (hHeld.2.1)), (cF3 NB109_101.out (hHeld.2.2))⟩ (fun hHeld => ?_)
      clear hK K
      refine pS (i := 13) (N := some 3) (bs 14 0) (aO HT_) ?_
      refine done_ (done_of HT_.out (by kernel_rfl)) ?_
      try go_wp2
      refine bodyPost_ret (results_ct rfl _ _ gb101 45 #[.int .i64 t102, .int .i64 t103, .slice Ao26 t104.length co26] (0, 0) _ rfl (p3 BK101) Tryd.underlying45 rfl (by kernel_rfl)) rfl ?_
      exact ⟨_, eW, by (with_reducible repeat (first | apply rA | apply rN | apply rD)); exact Kd.R_mono (Kd.R_far (p := ⟨gb101, 2, none⟩) (Kd.R_far (p := ⟨gb101, 1, none⟩) (Kd.R_far (p := ⟨gb101, 0, none⟩) (Kd.R_mono HO106.out (fun k_ hk => (⟨hk, hk.1⟩ : _ ∧ k_ ≠ gb101))) (fun _ hk => hk.2) (.int .i64 t102)) (fun _ hk => hk.2) (.int .i64 t103)) (fun _ hk => hk.2) (.slice Ao26 t104.length co26)) (fun _ hk => trivial), pH HB⟩
    ·replace c8 := Bool.eq_false_iff.mpr c8
     subst c8
     rw [if_neg (show ¬ (false = true) by decide)] at H
     simp only [Option.some.injEq, Prod.mk.injEq] at H
     obtain ⟨rfl, rfl, rfl, rfl⟩ := H
     try go_wp2_with (first | ((with_reducible refine gate_callee (f := 31) rfl ?_); refine goesL_ (some 18) rfl rfl Tryd.func31 (by kernel_rfl) rfl #[.slice A0 l0.length c0, .int .i64 0, .int .i64 (-1)] rfl tA ?_; (with_reducible refine (impl_combAt.calls kj1 _ _ l0 0 (-1) t102 t103 t104 t107 false _ ?side1 ?side2 A7.out).mono ?_); (case side1 => exact sC (Kd.C_below HR0.out HB.out)); (case side2 => exact HC0.out); rintro e w32 ⟨v105, rfl, ho0, hb⟩; refine ⟨_, rfl, ?_⟩; have HO106 := aK (Kd.R_lower (Kd.R_newB ho0 BK101.out) (below_size HB.out)); replace BK101 := qb BK101 hb; replace HB := qs HB hb; (try clear hb); (try clear ho0)) | ((with_reducible refine gate_dst (N := 4) rfl ?_); (try (refine gate_guard (by rfl) ?_; dsimp only)); refine bE (N := 4) (cs := #[.int .i64 0, .int .i64 0, .slice none 0 0]) (t := 45) ?_; intro gb109 hg w33 hbox hb; have n0_ := aK (Kd.R_below (Kd.R_elderB HO106.out gb109 (Nat.le_of_eq hg.symm)) hb); have GW109 := qw HB hg; have GE109 := qw HB hg; have NB101_109 := ql BK101 hg; have NB109_101 := qg BK101 hg; replace BK101 := qb BK101 hb; have BK109 := aK hbox; clear HO106; have HO106 := n0_; clear n0_; replace HB := qs HB hb; clear hb hbox hg; have hnb34 := NB109_101.out; have hnc34 := NB101_109.out; obtain ⟨hcz35_0, hcz35_1, hcz35_2, hfz35_0, hfz35_1, hfz35_2⟩ := cA3 BK109; obtain ⟨Ao36, co36, eo36⟩ := Kd.R_slice HO106.out; subst eo36))
     have n0_ : Aside0 (Kd.R k45 45 (((w33.setCell ⟨gb109, 0, none⟩ (.int .i64 t102)).setCell ⟨gb109, 1, none⟩ (.int .i64 t103)).setCell ⟨gb109, 2, none⟩ (.slice Ao36 t104.length co36)) w.heap.size (fun k_ => k_ ≠ gb101 ∧ k_ ≠ gb109) (.slice Ao36 t104.length co36) t104) := ⟨by (with_reducible repeat (first | apply rA | apply rN | apply rD)); exact Kd.R_mono (Kd.R_far (p := ⟨gb109, 2, none⟩) (Kd.R_far (p := ⟨gb109, 1, none⟩) (Kd.R_far (p := ⟨gb109, 0, none⟩) (Kd.R_mono HO106.out (fun k_ hk => (⟨hk, hk.2⟩ : _ ∧ k_ ≠ gb109))) (fun _ hk => hk.2) (.int .i64 t102)) (fun _ hk => hk.2) (.int .i64 t103)) (fun _ hk => hk.2) (.slice Ao36 t104.length co36)) (fun _ hk => ⟨hk.1.1.2, hk.1.2⟩)⟩
     have n1_ : Aside0 ((((w33.setCell ⟨gb109, 0, none⟩ (.int .i64 t102)).setCell ⟨gb109, 1, none⟩ (.int .i64 t103)).setCell ⟨gb109, 2, none⟩ (.slice Ao36 t104.length co36)).heap[gb101]? = some (.cells #[.int .i64 0, .int .i64 0, .slice none 0 0] 45 (0, 0))) := ⟨by (repeat first | with_reducible apply zN | with_reducible apply zD | with_reducible apply zA | refine blk_far ?_ NB101_109.out _); exact BK101.out⟩
     have n2_ : Aside0 ((((w33.setCell ⟨gb109, 0, none⟩ (.int .i64 t102)).setCell ⟨gb109, 1, none⟩ (.int .i64 t103)).setCell ⟨gb109, 2, none⟩ (.slice Ao36 t104.length co36)).heap[gb109]? = some (.cells #[.int .i64 t102, .int .i64 t103, .slice Ao36 t104.length co36] 45 (0, 0))) := ⟨p3 BK109⟩
     have n3_ : Aside0 (Below w.heap.size w (((w33.setCell ⟨gb109, 0, none⟩ (.int .i64 t102)).setCell ⟨gb109, 1, none⟩ (.int .i64 t103)).setCell ⟨gb109, 2, none⟩ (.slice Ao36 t104.length co36))) := ⟨pH HB⟩
     (try clear HO106)
     (try clear BK101)
     (try clear BK109)
     (try clear HB)
     generalize (((w33.setCell ⟨gb109, 0, none⟩ (.int .i64 t102)).setCell ⟨gb109, 1, none⟩ (.int .i64 t103)).setCell ⟨gb109, 2, none⟩ (.slice Ao36 t104.length co36)) = w37 at n0_ n1_ n2_ n3_ ⊢
     have HO106 := n0_
     have BK101 := n1_
     have BK109 := n2_
     have HB := n3_
     clear n0_ n1_ n2_ n3_
     have n_ := aJ (aK (Kd.R_drew HO106.out)) (aJ (aK (blk_drew BK101.out)) (aJ (aK (blk_drew BK109.out)) (aK (below_drew1 HB.out))))
     clear HO106 BK101 BK109 HB
     obtain ⟨HO106, BK101, BK109, HB⟩ := n_
     refine start_ (n := 14) (S := fun w' => w'.cell? ⟨gb109, 0, none⟩ = some (.int .i64 t102) ∧ w'.cell? ⟨gb109, 1, none⟩ = some (.int .i64 t103) ∧ w'.cell? ⟨gb109, 2, none⟩ = some (.slice Ao36 t104.length co36)) (ds := []) (bs 0 14) (by kernel_rfl) rfl rfl ⟨(blk_cell BK109.out 0).trans rfl, (blk_cell BK109.out 1).trans rfl, (blk_cell BK109.out 2).trans rfl⟩ (fun hHeld => ?_); refine with_tabW impl_combRoot.tab4 impl_combRoot.bits4 (fun HT_ HW_ => ?_)
     generalize w37.drew = w38 at HO106 BK101 BK109 HB hHeld ⊢
     refine pS (i := 1) (N := some 23) #[false, true, false, false, false, false, false, false, false, false, false, false, false, false] (aO HT_) ?_
     refine pS (i := 2) (N := some 24) #[false, true, true, false, false, false, false, false, false, false, false, false, false, false] (aO HT_) ?_
     refine pure_ (i := 3) (N := some 25) (v := undef) (a' := ?_) #[false, true, true, true, false, false, false, false, false, false, false, false, false, false] rfl rfl (any_of HT_.out (by kernel_rfl)) (fun _ _ _ h => h) (Or.inr ⟨by rfl, rfl⟩) ?_ ?_
     rotate_left
     ·simp only [sP, i64_w, i32_w]
      rfl
     refine pure_ (i := 4) (N := some 26) (v := undef) (a' := ?_) #[false, true, true, true, true, false, false, false, false, false, false, false, false, false] rfl rfl (any_of HT_.out (by kernel_rfl)) (fun _ _ _ h => h) (Or.inr ⟨by rfl, rfl⟩) ?_ ?_
     rotate_left
     ·simp only [sP, i64_w, i32_w]
      rfl
     refine pure_ (i := 5) (N := some 27) (v := undef) (a' := ?_) #[false, true, true, true, true, true, false, false, false, false, false, false, false, false] rfl rfl (any_of HT_.out (by kernel_rfl)) (fun _ _ _ h => h) (Or.inr ⟨by rfl, rfl⟩) ?_ ?_
     rotate_left
     ·simp only [sP, i64_w, i32_w]
      rfl
     refine pure_ (i := 6) (N := some 28) (v := undef) (a' := ?_) #[false, true, true, true, true, true, true, false, false, false, false, false, false, false] rfl rfl (any_of HT_.out (by kernel_rfl)) (fun _ _ _ h => h) (Or.inr ⟨by rfl, rfl⟩) ?_ ?_
     rotate_left
     ·simp only [sP, i64_w, i32_w]
      rfl
     refine pS (i := 7) (N := some 29) #[false, true, true, true, true, true, true, true, false, false, false, false, false, false] (aO HT_) ?_
     refine pS (i := 8) (N := some 30) #[false, true, true, true, true, true, true, true, true, false, false, false, false, false] (aO HT_) ?_
     refine pure_ (i := 9) (N := some 31) (v := undef) (a' := ?_) #[false, true, true, true, true, true, true, true, true, true, false, false, false, false] rfl rfl (any_of HT_.out (by kernel_rfl)) (fun _ _ _ h => h) (Or.inr ⟨by rfl, rfl⟩) ?_ ?_
     rotate_left
     ·simp only [sP, i64_w, i32_w]
      rfl
     refine pure_ (i := 10) (N := some 32) (v := undef) (a' := ?_) #[false, true, true, true, true, true, true, true, true, true, true, false, false, false] rfl rfl (any_of HT_.out (by kernel_rfl)) (fun _ _ _ h => h) (Or.inr ⟨by rfl, rfl⟩) ?_ ?_
     rotate_left
     ·simp only [sP, i64_w, i32_w]
      rfl
     refine pS (i := 11) (N := some 33) #[false, true, true, true, true, true, true, true, true, true, true, true, false, false] (aO HT_) ?_
     refine take_ (i := 0) (N := some 22) (v := ?_) (a' := ?_) (bs 12 2) rfl rfl (take_ofW HT_.out HW_.out (by kernel_rfl)) (fun _ _ _ h => h) (Or.inl ⟨by rfl, ?_⟩) hHeld ?_ ?_
     rotate_left
     ·rintro w' ⟨s0, s1, s2⟩
      go_simp
      with_reducible rfl
     rotate_left
     ·simp only [sP, i64_w, i32_w]
      rfl
     refine one_ (i := 12) (N := none) (bs 13 1) rfl rfl (one_of HT_.out (by kernel_rfl)) (by decide) (fun K hK => ?_)
     have hs39 : w38.cell? ⟨gb101, 0, none⟩ = some (.int .i64 0) := (blk_cell BK101.out 0).trans rfl
     have hfs39 := blk_frozen BK101.out 0
     have hns39_1 := NB109_101.out
     have hms39_1 := NB101_109.out
     have hs40 : w38.cell? ⟨gb101, 1, none⟩ = some (.int .i64 0) := (blk_cell BK101.out 1).trans rfl
     have hfs40 := blk_frozen BK101.out 1
     have hns40_1 := NB109_101.out
     have hms40_1 := NB101_109.out
     have hs41 : w38.cell? ⟨gb101, 2, none⟩ = some (.slice none 0 0) := (blk_cell BK101.out 2).trans rfl
     have hfs41 := blk_frozen BK101.out 2
     have hns41_1 := NB109_101.out
     have hms41_1 := NB101_109.out
     refine skip_ (w1 := ?_) (by rfl) rfl ?_ ?_
     rotate_left
     ·go_simp
      rfl
     refine hK.out _ _ ⟨(cF3 NB109_101.out (hHeld.1)), (cF3 NB109_101.out (hHeld.2.1)), (cF3 NB109_101.out (hHeld.2.2))⟩ (fun hHeld => ?_)
     clear hK K
     refine pS (i := 13) (N := some 3) (bs 14 0) (aO HT_) ?_
     refine done_ (done_of HT_.out (by kernel_rfl)) ?_
     try go_wp2
     refine bodyPost_ret (results_ct rfl _ _ gb101 45 #[.int .i64 t102, .int .i64 t103, .slice Ao36 t104.length co36] (0, 0) _ rfl (p3 BK101) Tryd.underlying45 rfl (by kernel_rfl)) rfl ?_
     exact ⟨_, eW, by (with_reducible repeat (first | apply rA | apply rN | apply rD)); exact Kd.R_mono (Kd.R_far (p := ⟨gb101, 2, none⟩) (Kd.R_far (p := ⟨gb101, 1, none⟩) (Kd.R_far (p := ⟨gb101, 0, none⟩) (Kd.R_mono HO106.out (fun k_ hk => (⟨hk, hk.1⟩ : _ ∧ k_ ≠ gb101))) (fun _ hk => hk.2) (.int .i64 t102)) (fun _ hk => hk.2) (.int .i64 t103)) (fun _ hk => hk.2) (.slice Ao36 t104.length co36)) (fun _ hk => trivial), pH HB⟩


theorem info65 : (Tryd.prog.info? 65).map (fun i => (i.zero, i.size, i.bytes)) = some (some (.agg #[(.int .i64 0), (.int .i64 0), (.int .i64 0)]), 3, 24) := by kernel_rfl
namespace Flat53
mutual
def flT : S53 → Int → List S65 → List S65
 | ⟨k, n, ks⟩, up, l => flL ks (l.length : Int) (l ++ [⟨k, n, up⟩])
def flL : List S53 → Int → List S65 → List S65
 | [], _, l => l
 | x :: xs, k, l => flL xs k (if l.length ≤ 200 then flT x k l else l)
end
theorem flT_eq (x : S53) (up : Int) (l : List S65) : flT x up l = flL x.f2 (l.length : Int) (l ++ [⟨x.f0, x.f1, up⟩]) := by cases x; rw [flT]
theorem flL_cons (x : S53) (xs : List S53) (k : Int) (l : List S65) : flL (x :: xs) k l = flL xs k (if l.length ≤ 200 then flT x k l else l) := by rw [flL]
theorem flL_nil (k : Int) (l : List S65) : flL [] k l = l := by rw [flL]
theorem rd_drop (l : List S53) (i : Nat) (h : i < l.length) : l.drop i = rd_T53 l (i : Int) :: l.drop (i + 1) := by
 rw [List.drop_eq_getElem_cons h]
 congr 1
 unfold rd_T53
 rw [Int.toNat_natCast, List.getD_eq_getElem?_getD, List.getElem?_eq_getElem h]; rfl
theorem rd_mem (l : List S53) (i : Int) (h0 : 0 ≤ i) (h1 : i < l.length) : rd_T53 l i ∈ l := by
 have hlt : i.toNat < l.length := by omega
 have e : rd_T53 l i = l[i.toNat] := by unfold rd_T53; rw [List.getD_eq_getElem?_getD, List.getElem?_eq_getElem hlt]; rfl
 rw [e]; exact List.getElem_mem hlt
theorem len_of : ∀ (N : Nat), (∀ (x : S53) (up : Int) (l : List S65), SizeOf.sizeOf x ≤ N → l.length ≤ 200 → (flT x up l).length ≤ 201) ∧ (∀ (xs : List S53) (k : Int) (l : List S65), SizeOf.sizeOf xs ≤ N → l.length ≤ 201 → (flL xs k l).length ≤ 201) := by
 intro N
 induction N with
 | zero =>
  refine ⟨fun x up l h => ?_, fun xs k l h => ?_⟩
  ·cases x; simp at h
  ·cases xs <;> simp at h
 | succ N ih =>
  refine ⟨fun x up l h hl => ?_, fun xs k l h hl => ?_⟩
  ·cases x with
   | mk k n ks =>
    rw [flT]
    refine ih.2 ks _ _ (by simp at h; omega) ?_
    rw [List.length_append]; show l.length + 1 ≤ 201; omega
  ·cases xs with
   | nil => rw [flL]; exact hl
   | cons x xs =>
    rw [flL]
    have h1 : SizeOf.sizeOf x ≤ N := by simp at h; omega
    have h2 : SizeOf.sizeOf xs ≤ N := by simp at h; omega
    refine ih.2 xs k _ h2 ?_
    split
    ·exact ih.1 x k l h1 (by assumption)
    ·exact hl
theorem flT_len (x : S53) (up : Int) (l : List S65) (h : l.length ≤ 200) : (flT x up l).length ≤ 201 := (len_of _).1 x up l (Nat.le_refl _) h

set_option maxHeartbeats 4000000 in
set_option maxRecDepth 100000 in
theorem node_some (w0 : World) (a0 a1 up : Int) (ks : List S53) (A : Option Addr) (c : Nat) (l : List S65) (A0 : Option Addr) (c0 : Nat) (w : World) (hC : Kd.C k53 w0 A ks.length ks) (hc : ks.length ≤ c) (hl : l.length ≤ 200)
  (hO : Kd.R k65 65 w w0.heap.size (fun _ => True) (.slice A0 l.length c0) l) (hB : Below w0.heap.size w0 w)
  (ih : ∀ (j : Nat) (A : Option Addr) (c : Nat) (acc : List S65) (v : Value) (w : World), j < ks.length → (rd_T53 ks (j : Int)).f2.length ≤ c → acc.length ≤ 200 → Kd.R k65 65 w w0.heap.size (fun _ => True) v acc → Below w0.heap.size w0 w → Kd.C k53 w0 A (rd_T53 ks (j : Int)).f2.length (rd_T53 ks (j : Int)).f2 →
   Calls Tryd.prog 29 #[v, .agg #[.int .i64 (rd_T53 ks (j : Int)).f0, .int .i64 (rd_T53 ks (j : Int)).f1, .slice A (rd_T53 ks (j : Int)).f2.length c], .int .i64 (l.length : Int)] w fun e w' => ∃ v2, e = .returned v2 ∧ Kd.R k65 65 w' w0.heap.size (fun _ => True) v2 (flT (rd_T53 ks (j : Int)) (l.length : Int) acc) ∧ Below w0.heap.size w0 w') :
  Calls Tryd.prog 29 #[.slice A0 l.length c0, .agg #[.int .i64 a0, .int .i64 a1, .slice A ks.length c], .int .i64 up] w fun e w' => ∃ v2, e = .returned v2 ∧ Kd.R k65 65 w' w0.heap.size (fun _ => True) v2 (flL ks (l.length : Int) (l ++ [⟨a0, a1, up⟩])) ∧ Below w0.heap.size w0 w' := by
 have hu77 := Tryd.underlying53
 have HM := aK hC.2.1
 have HC0 := aK hC
 have HL := aK hl
 have HO := aK hO
 have HB := aK hB
 have IH := aK ih
 clear hC hl hO hB ih
 go_enter Tryd.func29, Tryd.ntmps29
 go_wp2_with (first | ((with_reducible refine gate_dst (N := 4) rfl ?_); refine bE (N := 4) (cs := #[.int .i64 a0, .int .i64 a1, .slice A ks.length c]) (t := 53) ?_; intro gb hg w5 hbox hb; have n_ := aJ (aK (below_step HB.out hb)) (aJ (aK (hbox)) (aK (Kd.R_below HO.out hb))); clear HB HO; obtain ⟨HB, BK, HO⟩ := n_; clear hb hbox hg; have hcz_0 : w5.cell? ⟨gb, 0, none⟩ = some (.int .i64 a0) := (blk_cell BK.out 0).trans rfl; have hcz_1 : w5.cell? ⟨gb, 1, none⟩ = some (.int .i64 a1) := (blk_cell BK.out 1).trans rfl; have hcz_2 : w5.cell? ⟨gb, 2, none⟩ = some (.slice A ks.length c) := (blk_cell BK.out 2).trans rfl; have hfz_0 := blk_frozen BK.out 0; have hfz_1 := blk_frozen BK.out 1; have hfz_2 := blk_frozen BK.out 2) | ((with_reducible refine gate_builtin (b := .append) (xs := #[.tmp 12, .tmp 19]) rfl ?_); at_builtin; refine Kd.R_append k65 (w0 := w0) w0.heap.size rfl (.tmp 12) (.tmp 19) 23 65 (.agg #[(.int .i64 0), (.int .i64 0), (.int .i64 0)]) 24 rfl Tryd.underlying23 info65 rfl (by decide) (by omega) (.slice A0 l.length c0) l (⟨a0, a1, up⟩ : S65) [.int .i64 a0, .int .i64 a1, .int .i64 up] (fun _ => True) (fun _ => False) rfl (by first | (go_simp; done) | (go_simp; rfl)) ?aP (fun _ hk => hk.elim) ?aF ?aO ?aB ?aS ?aL ?_; (case aP => exact k65_mkM _ _ _ (⟨a0, a1, up⟩ : S65)); (case aB => exact HB.out); (case aF => exact (fun _ _ => trivial)); (case aO => exact HO.out); (case aS => exact (below_size HB.out)); (case aL => have := HL.out; omega); intro v1 w7 ho hb hg hat; have n_ := aJ (aK (hb)) (aJ (aK (ho)) (aK ((hg.block gb (blk_lt BK.out) (Kd.R_ne HO.out BK.out (by decide))).trans BK.out))); clear HB HO BK hcz_0 hfz_0 hcz_1 hfz_1 hcz_2 hfz_2; obtain ⟨HB, HO, BK⟩ := n_; clear ho hb hg hat; have hcza_0 : w7.cell? ⟨gb, 0, none⟩ = some (.int .i64 a0) := (blk_cell BK.out 0).trans rfl; have hcza_1 : w7.cell? ⟨gb, 1, none⟩ = some (.int .i64 a1) := (blk_cell BK.out 1).trans rfl; have hcza_2 : w7.cell? ⟨gb, 2, none⟩ = some (.slice A ks.length c) := (blk_cell BK.out 2).trans rfl; have hfza_0 := blk_frozen BK.out 0; have hfza_1 := blk_frozen BK.out 1; have hfza_2 := blk_frozen BK.out 2))
 go_loopg [0, 24] (ks.length + 1) (fun kq v0 v24 w' => ∃ (i : Int) (acc : List S65), v24 = .int .i64 i ∧ Aside0 (Kd.R k65 65 w' w0.heap.size (fun _ => True) v0 acc) ∧ Aside0 (0 ≤ i ∧ i ≤ ks.length ∧ (kq : Int) = ks.length - i + 1) ∧ Aside0 (acc.length ≤ 201 ∧ flL (ks.drop i.toNat) (l.length : Int) acc = flL ks (l.length : Int) (l ++ [⟨a0, a1, up⟩])) ∧ Aside0 (Below w0.heap.size w0 w'))
 case atStart => exact ⟨0, l ++ [⟨a0, a1, up⟩], rfl, HO, ⟨by omega, by omega, by omega⟩, ⟨by have := HL.out; rw [List.length_append]; show l.length + 1 ≤ 201; omega, by rw [show (0 : Int).toNat = 0 from rfl, List.drop_zero]⟩, HB⟩
 case round =>
  clear HB HO BK
  obtain ⟨i, acc, rfl, HO0, HA, HF, HB⟩ := hrel
  obtain ⟨A1, c1, rfl⟩ := Kd.R_slice HO0.out
  have HO := HO0
  clear HO0
  by_cases c2 : i < (ks.length : Int)
  ·have cb : decide (i < (ks.length : Int)) = true := decide_eq_true c2
   have cz : decide (0 ≤ i) = true := decide_eq_true HA.out.1
   obtain ⟨j, rfl⟩ : ∃ j : Nat, i = (j : Int) := ⟨i.toNat, by have := HA.out.1; omega⟩
   obtain ⟨ad, A2, c2_, e1, hx0, hx1, hx2, hl2, hi2⟩ := at_T53 (HC0.out) (j : Int) HA.out.1 c2
   cases e1
   simp only [Int.toNat_natCast] at hx0 hx1 hx2
   have HC2 := aK hl2
   have HR2 := aK hi2
   clear hl2 hi2
   replace hx0 := uC HB hx0
   replace hx1 := uC HB hx1
   replace hx2 := uC HB hx2
   have w1 : wrap64 ((j : Int) + 1) = (j : Int) + 1 := by have := HM.out; unfold wrap64; omega
   have W1 := aK w1
   have PI := aK (show j < ks.length by omega)
   have p1 := eq_true HA.out.1
   have q1 := eq_true c2
   clear c2 w1
   have e9 : flL (ks.drop j) (l.length : Int) acc = flL (ks.drop (j + 1)) (l.length : Int) (if acc.length ≤ 200 then flT (rd_T53 ks (j : Int)) (l.length : Int) acc else acc) := by rw [rd_drop ks j PI.out, flL_cons]
   have E9 := aK e9
   clear e9
   obtain ⟨k1, rfl⟩ : ∃ m, gk = m + 1 := ⟨gk - 1, by have := HA.out; have := PI.out; omega⟩
   by_cases c3 : acc.length ≤ 200
   ·have c3b : decide ((acc.length : Int) ≤ 200) = true := decide_eq_true (by omega)
    have CL := aK c3
    clear c3
    go_wp2_with (first | ((with_reducible refine gate_dst (N := 9) rfl ?_); refine bE (N := 9) (cs := #[.int .i64 0, .int .i64 0, .slice none 0 0]) (t := 53) ?_; intro g2 hg w9 hbox hb; have n0_ := aK (below_step HB.out hb); have n1_ := aK (hbox); have n2_ := aK (Kd.R_below HO.out hb); have n3_ := aK ((by rw [hg]; exact below_size HB.out : w0.heap.size ≤ g2)); have hy0 := (hb.cell (World.block_lt_of_cell? _ _ hx0)).trans hx0; have hy1 := (hb.cell (World.block_lt_of_cell? _ _ hx1)).trans hx1; have hy2 := (hb.cell (World.block_lt_of_cell? _ _ hx2)).trans hx2; clear hx0 hx1 hx2; have hx0 := hy0; have hx1 := hy1; have hx2 := hy2; clear hy0 hy1 hy2; clear HB HO; have HB := n0_; have BK2 := n1_; have HO := n2_; have GE2 := n3_; clear n0_ n1_ n2_ n3_; clear hb hbox hg; have hczb_0 : w9.cell? ⟨g2, 0, none⟩ = some (.int .i64 0) := (blk_cell BK2.out 0).trans rfl; have hczb_1 : w9.cell? ⟨g2, 1, none⟩ = some (.int .i64 0) := (blk_cell BK2.out 1).trans rfl; have hczb_2 : w9.cell? ⟨g2, 2, none⟩ = some (.slice none 0 0) := (blk_cell BK2.out 2).trans rfl; have hfzb_0 := blk_frozen BK2.out 0; have hfzb_1 := blk_frozen BK2.out 1; have hfzb_2 := blk_frozen BK2.out 2) | ((with_reducible refine gate_callee (f := 29) rfl ?_); refine goesL_ (some 34) rfl rfl Tryd.func29 (by kernel_rfl) rfl #[.slice A1 acc.length c1, .agg #[.int .i64 (rd_T53 ks (j : Int)).f0, .int .i64 (rd_T53 ks (j : Int)).f1, .slice A2 (rd_T53 ks (j : Int)).f2.length c2_], .int .i64 (l.length : Int)] rfl tA ?_; refine (IH.out j A2 c2_ acc (.slice A1 acc.length c1) _ (PI.out) HC2.out (by have := CL.out; omega) (Kd.R_mono (Kd.R_far (p := ⟨g2, 2, none⟩) (Kd.R_far (p := ⟨g2, 1, none⟩) (Kd.R_far (p := ⟨g2, 0, none⟩) (Kd.R_types HO.out BK2.out (by decide)) (fun _ hk => hk.2) (.int .i64 (rd_T53 ks (j : Int)).f0)) (fun _ hk => hk.2) (.int .i64 (rd_T53 ks (j : Int)).f1)) (fun _ hk => hk.2) (.slice A2 (rd_T53 ks (j : Int)).f2.length c2_)) (fun _ hk => hk.1)) (below_set (below_set (below_set HB.out GE2.out) GE2.out) GE2.out) HR2.out).mono ?_; rintro e w7 ⟨v2, rfl, ho2, hb2⟩; refine ⟨_, rfl, ?_⟩; have n_ := aJ (aK hb2) (aK ho2); clear HB HO BK2; obtain ⟨HB, HO⟩ := n_; clear ho2 hb2))
    go_roundg k1
    case measure => omega
    case rel => exact ⟨(j : Int) + 1, _, by first | rfl | rw [W1.out], HO, ⟨by have := HA.out; omega, by have := PI.out; omega, by have := HA.out; omega⟩, ⟨flT_len _ _ _ CL.out, by rw [← HF.out.2, show ((j : Int) + 1).toNat = j + 1 by omega, show ((j : Int)).toNat = j by omega, E9.out, if_pos CL.out]⟩, HB⟩
   ·have c3b : decide ((acc.length : Int) ≤ 200) = false := decide_eq_false (by omega)
    have CL := aK c3
    clear c3
    go_wp2_with ((with_reducible refine gate_dst (N := 9) rfl ?_); refine bE (N := 9) (cs := #[.int .i64 0, .int .i64 0, .slice none 0 0]) (t := 53) ?_; intro g2 hg w9 hbox hb; have n0_ := aK (below_step HB.out hb); have n1_ := aK (hbox); have n2_ := aK (Kd.R_below HO.out hb); have n3_ := aK ((by rw [hg]; exact below_size HB.out : w0.heap.size ≤ g2)); have hy0 := (hb.cell (World.block_lt_of_cell? _ _ hx0)).trans hx0; have hy1 := (hb.cell (World.block_lt_of_cell? _ _ hx1)).trans hx1; have hy2 := (hb.cell (World.block_lt_of_cell? _ _ hx2)).trans hx2; clear hx0 hx1 hx2; have hx0 := hy0; have hx1 := hy1; have hx2 := hy2; clear hy0 hy1 hy2; clear HB HO; have HB := n0_; have BK2 := n1_; have HO := n2_; have GE2 := n3_; clear n0_ n1_ n2_ n3_; clear hb hbox hg; have hczb_0 : w9.cell? ⟨g2, 0, none⟩ = some (.int .i64 0) := (blk_cell BK2.out 0).trans rfl; have hczb_1 : w9.cell? ⟨g2, 1, none⟩ = some (.int .i64 0) := (blk_cell BK2.out 1).trans rfl; have hczb_2 : w9.cell? ⟨g2, 2, none⟩ = some (.slice none 0 0) := (blk_cell BK2.out 2).trans rfl; have hfzb_0 := blk_frozen BK2.out 0; have hfzb_1 := blk_frozen BK2.out 1; have hfzb_2 := blk_frozen BK2.out 2)
    go_roundg k1
    case measure => omega
    case rel => exact ⟨(j : Int) + 1, acc, by first | rfl | rw [W1.out], ⟨(Kd.R_mono (Kd.R_far (p := ⟨g2, 2, none⟩) (Kd.R_far (p := ⟨g2, 1, none⟩) (Kd.R_far (p := ⟨g2, 0, none⟩) (Kd.R_types HO.out BK2.out (by decide)) (fun _ hk => hk.2) (.int .i64 (rd_T53 ks (j : Int)).f0)) (fun _ hk => hk.2) (.int .i64 (rd_T53 ks (j : Int)).f1)) (fun _ hk => hk.2) (.slice A2 (rd_T53 ks (j : Int)).f2.length c2_)) (fun _ hk => hk.1))⟩, ⟨by have := HA.out; omega, by have := PI.out; omega, by have := HA.out; omega⟩, ⟨HF.out.1, by rw [← HF.out.2, show ((j : Int) + 1).toNat = j + 1 by omega, show ((j : Int)).toNat = j by omega, E9.out, if_neg CL.out]⟩, ⟨(below_set (below_set (below_set HB.out GE2.out) GE2.out) GE2.out)⟩⟩
  ·have cb : decide (i < (ks.length : Int)) = false := decide_eq_false c2
   have hi : i.toNat = ks.length := by have := HA.out; omega
   have e := HF.out.2
   rw [hi, List.drop_length, flL_nil] at e
   have E := aK e
   clear c2 hi e
   go_wp2
   go_ret
   exact ⟨_, rfl, by rw [← E.out]; exact HO.out, HB.out⟩

theorem flat_some (w0 : World) : ∀ (N : Nat) (x : S53) (up : Int) (A : Option Addr) (c : Nat) (l : List S65) (v : Value) (w : World), SizeOf.sizeOf x.f2 ≤ N → x.f2.length ≤ c → l.length ≤ 200 → Kd.R k65 65 w w0.heap.size (fun _ => True) v l → Below w0.heap.size w0 w → Kd.C k53 w0 A x.f2.length x.f2 →
  Calls Tryd.prog 29 #[v, .agg #[.int .i64 x.f0, .int .i64 x.f1, .slice A x.f2.length c], .int .i64 up] w fun e w' => ∃ v2, e = .returned v2 ∧ Kd.R k65 65 w' w0.heap.size (fun _ => True) v2 (flT x up l) ∧ Below w0.heap.size w0 w' := by
 intro N
 induction N with
 | zero =>
  intro x up A c l v w hN
  cases h : x.f2 with
  | nil => rw [h] at hN; simp at hN
  | cons y ys => rw [h] at hN; simp at hN
 | succ N ih =>
  intro x up A c l v w hN hc hl hO hB hC
  obtain ⟨A0, c0, rfl⟩ := Kd.R_slice hO
  rw [flT_eq]
  refine node_some w0 x.f0 x.f1 up x.f2 A c l A0 c0 w hC hc hl hO hB fun j A2 c2 acc v2 w2 hj hc2 hacc hO2 hB2 hC2 => ?_
  refine ih (rd_T53 x.f2 (j : Int)) (l.length : Int) A2 c2 acc v2 w2 ?_ hc2 hacc hO2 hB2 hC2
  have h1 := List.sizeOf_lt_of_mem (rd_mem x.f2 (j : Int) (by omega) (by omega))
  have h2 : ∀ y : S53, SizeOf.sizeOf y.f2 < SizeOf.sizeOf y := fun y => by cases y; simp; omega
  have h3 := h2 (rd_T53 x.f2 (j : Int))
  omega
end Flat53

def spec_ldFlat.f (k : Nat) (l0 : List (S65)) (a1_0 : Int) (a1_1 : Int) (l1_2 : List (S53)) (a2 : Int) : Option ((List (S65))) := if l0.length = 0 then some (Flat53.flT ⟨a1_0, a1_1, l1_2⟩ a2 []) else none
theorem spec_ldFlat.calls (k : Nat) (A0 : Option Addr) (c0 : Nat) (l0 : List (S65)) (a1_0 : Int) (a1_1 : Int) (A1_2 : Option Addr) (c1_2 : Nat) (l1_2 : List (S53)) (a2 : Int) (r : List (S65)) (w : World) (hr0 : A0 = none) (hc0 : c0 ≤ l0.length) (hr1_2 : Kd.C k53 w A1_2 l1_2.length l1_2) (hc1_2 : l1_2.length ≤ c1_2) (h : spec_ldFlat.f k l0 a1_0 a1_1 l1_2 a2 = some r) :
  Calls Tryd.prog 29 #[.slice A0 l0.length c0, .agg #[.int .i64 a1_0, .int .i64 a1_1, .slice A1_2 l1_2.length c1_2], .int .i64 a2] w fun e w' => ∃ v0_ : Value, e = .returned (v0_) ∧ Kd.R k65 65 w' w.heap.size (fun _ => True) v0_ r ∧ Below w.heap.size w w' := by
 unfold spec_ldFlat.f at h
 by_cases hl : l0.length = 0
 case neg => rw [if_neg hl] at h; exact absurd h (by simp)
 rw [if_pos hl] at h
 obtain rfl := Option.some.inj h
 subst hr0
 obtain rfl : c0 = 0 := by omega
 rw [hl]
 exact Flat53.flat_some w _ ⟨a1_0, a1_1, l1_2⟩ a2 A1_2 c1_2 [] (.slice none 0 0) w (Nat.le_refl _) hc1_2 (by simp) (Kd.R_nil _ _ _ _ _) (Below.refl w.heap.size w) hr1_2

namespace Nodes45
mutual
def flT : S45 → Int → List S65 → List S65
 | ⟨k, n, ks⟩, up, l => flL ks (l.length : Int) (l ++ [⟨k, n, up⟩])
def flL : List S45 → Int → List S65 → List S65
 | [], _, l => l
 | x :: xs, k, l => flL xs k (flT x k l)
end
mutual
def szT : S45 → Nat
 | ⟨_, _, ks⟩ => 1 + szL ks
def szL : List S45 → Nat
 | [] => 0
 | x :: xs => szT x + szL xs
end
theorem flT_eq (x : S45) (up : Int) (l : List S65) : flT x up l = flL x.f2 (l.length : Int) (l ++ [⟨x.f0, x.f1, up⟩]) := by cases x; rw [flT]
theorem szT_eq (x : S45) : szT x = 1 + szL x.f2 := by cases x; rw [szT]
theorem flL_cons (x : S45) (xs : List S45) (k : Int) (l : List S65) : flL (x :: xs) k l = flL xs k (flT x k l) := by rw [flL]
theorem flL_nil (k : Int) (l : List S65) : flL [] k l = l := by rw [flL]
theorem szL_cons (x : S45) (xs : List S45) : szL (x :: xs) = szT x + szL xs := by rw [szL]
theorem rd_drop (l : List S45) (i : Nat) (h : i < l.length) : l.drop i = rd_T45 l (i : Int) :: l.drop (i + 1) := by
 rw [List.drop_eq_getElem_cons h]
 congr 1
 unfold rd_T45
 rw [Int.toNat_natCast, List.getD_eq_getElem?_getD, List.getElem?_eq_getElem h]; rfl
theorem rd_mem (l : List S45) (i : Int) (h0 : 0 ≤ i) (h1 : i < l.length) : rd_T45 l i ∈ l := by
 have hlt : i.toNat < l.length := by omega
 have e : rd_T45 l i = l[i.toNat] := by unfold rd_T45; rw [List.getD_eq_getElem?_getD, List.getElem?_eq_getElem hlt]; rfl
 rw [e]; exact List.getElem_mem hlt
theorem len_of : ∀ (N : Nat), (∀ (x : S45) (up : Int) (l : List S65), SizeOf.sizeOf x ≤ N → (flT x up l).length = l.length + szT x) ∧ (∀ (xs : List S45) (k : Int) (l : List S65), SizeOf.sizeOf xs ≤ N → (flL xs k l).length = l.length + szL xs) := by
 intro N
 induction N with
 | zero =>
  refine ⟨fun x up l h => ?_, fun xs k l h => ?_⟩
  ·cases x; simp at h
  ·cases xs <;> simp at h
 | succ N ih =>
  refine ⟨fun x up l h => ?_, fun xs k l h => ?_⟩
  ·cases x with
   | mk k n ks =>
    rw [flT, szT, ih.2 ks _ _ (by simp at h; omega), List.length_append]
    show l.length + 1 + szL ks = _; omega
  ·cases xs with
   | nil => rw [flL, szL]; rfl
   | cons x xs =>
    have h1 : SizeOf.sizeOf x ≤ N := by simp at h; omega
    have h2 : SizeOf.sizeOf xs ≤ N := by simp at h; omega
    rw [flL, szL, ih.2 xs k _ h2, ih.1 x k l h1]; omega
theorem flT_len (x : S45) (up : Int) (l : List S65) : (flT x up l).length = l.length + szT x := (len_of _).1 x up l (Nat.le_refl _)

set_option maxHeartbeats 4000000 in
set_option maxRecDepth 100000 in
theorem node_some (w0 : World) (go gp : Nat) (hgo : w0.heap.size ≤ go) (hgp : w0.heap.size ≤ gp) (hne : gp ≠ go) (a0 a1 up : Int) (ks : List S45) (A : Option Addr) (c : Nat) (l : List S65) (A0 : Option Addr) (c0 : Nat) (w : World) (hC : Kd.C k45 w0 A ks.length ks) (hc : ks.length ≤ c) (hl : l.length + (1 + szL ks) ≤ 200000)
  (hO : Kd.R k65 65 w w0.heap.size (fun _ => True) (.slice A0 l.length c0) l) (hB : Below w0.heap.size w0 w) (hbo : w.heap[go]? = some (.cells #[.slice A0 l.length c0] 23 (0, 0))) (hbp : w.heap[gp]? = some (.cells #[.func (.func 40) #[] #[.pointer (some ⟨go, 0, none⟩), .pointer (some ⟨gp, 0, none⟩)]] 81 (0, 0)))
  (ih : ∀ (j : Nat) (A : Option Addr) (c : Nat) (acc : List S65) (v : Value) (w : World), j < ks.length → (rd_T45 ks (j : Int)).f2.length ≤ c → acc.length + szT (rd_T45 ks (j : Int)) ≤ 200000 → Kd.R k65 65 w w0.heap.size (fun _ => True) v acc → Below w0.heap.size w0 w → w.heap[go]? = some (.cells #[v] 23 (0, 0)) → w.heap[gp]? = some (.cells #[.func (.func 40) #[] #[.pointer (some ⟨go, 0, none⟩), .pointer (some ⟨gp, 0, none⟩)]] 81 (0, 0)) → Kd.C k45 w0 A (rd_T45 ks (j : Int)).f2.length (rd_T45 ks (j : Int)).f2 →
   Calls Tryd.prog 40 #[.agg #[.int .i64 (rd_T45 ks (j : Int)).f0, .int .i64 (rd_T45 ks (j : Int)).f1, .slice A (rd_T45 ks (j : Int)).f2.length c], .int .i64 (l.length : Int), .pointer (some ⟨go, 0, none⟩), .pointer (some ⟨gp, 0, none⟩)] w fun e w' => ∃ v2, e = .returned (.tuple #[]) ∧ w'.heap[go]? = some (.cells #[v2] 23 (0, 0)) ∧ w'.heap[gp]? = some (.cells #[.func (.func 40) #[] #[.pointer (some ⟨go, 0, none⟩), .pointer (some ⟨gp, 0, none⟩)]] 81 (0, 0)) ∧ Kd.R k65 65 w' w0.heap.size (fun _ => True) v2 (flT (rd_T45 ks (j : Int)) (l.length : Int) acc) ∧ Below w0.heap.size w0 w') :
  Calls Tryd.prog 40 #[.agg #[.int .i64 a0, .int .i64 a1, .slice A ks.length c], .int .i64 up, .pointer (some ⟨go, 0, none⟩), .pointer (some ⟨gp, 0, none⟩)] w fun e w' => ∃ v2, e = .returned (.tuple #[]) ∧ w'.heap[go]? = some (.cells #[v2] 23 (0, 0)) ∧ w'.heap[gp]? = some (.cells #[.func (.func 40) #[] #[.pointer (some ⟨go, 0, none⟩), .pointer (some ⟨gp, 0, none⟩)]] 81 (0, 0)) ∧ Kd.R k65 65 w' w0.heap.size (fun _ => True) v2 (flL ks (l.length : Int) (l ++ [⟨a0, a1, up⟩])) ∧ Below w0.heap.size w0 w' := by
 have hu58 := Tryd.underlying45
 have hu25 := Tryd.underlying23
 have eg := enters_ Tryd.func40 (by kernel_rfl) rfl
 have HM := aK hC.2.1
 have HC0 := aK hC
 have HL := aK (show l.length ≤ 200000 by omega)
 have HZ := aK hl
 have HO := aK hO
 have HB := aK hB
 have BO := aK hbo
 have BP := aK hbp
 have GO := aK hgo
 have NGO := aK hne
 have NGB : Aside0 (∀ {gb : Nat} {v : Value} {W : World}, W.heap[gb]? = some (.cells #[.int .i64 a0, .int .i64 a1, .slice A ks.length c] 45 (0, 0)) → W.heap[go]? = some (.cells #[v] 23 (0, 0)) → gb ≠ go) := ⟨fun h1 h2 e => by subst e; rw [h1] at h2; simp at h2⟩
 have IH := aK ih
 clear hC hl hO hB ih hbo hbp hgo hgp hne
 go_enter Tryd.func40, Tryd.ntmps40
 go_wp2_with (first | ((with_reducible refine gate_dst (N := 4) rfl ?_); refine bE (N := 4) (cs := #[.int .i64 a0, .int .i64 a1, .slice A ks.length c]) (t := 45) ?_; intro gb hg w5 hbox hb; have m0_ := aK (below_step HB.out hb); have m1_ := aK (hbox); have m2_ := aK (Kd.R_below HO.out hb); have m3_ := aK (blk_below (g := go) (o := .cells #[.slice A0 l.length c0] 23 (0, 0)) BO.out hb); have m4_ := aK (blk_below (g := gp) (o := .cells #[.func (.func 40) #[] #[.pointer (some ⟨go, 0, none⟩), .pointer (some ⟨gp, 0, none⟩)]] 81 (0, 0)) BP.out hb); clear BO BP HB HO; have HB := m0_; have BK := m1_; have HO := m2_; have BO := m3_; have BP := m4_; clear m0_ m1_ m2_ m3_ m4_; clear hb hbox hg; have hcz_0 : w5.cell? ⟨gb, 0, none⟩ = some (.int .i64 a0) := (blk_cell BK.out 0).trans rfl; have hcz_1 : w5.cell? ⟨gb, 1, none⟩ = some (.int .i64 a1) := (blk_cell BK.out 1).trans rfl; have hcz_2 : w5.cell? ⟨gb, 2, none⟩ = some (.slice A ks.length c) := (blk_cell BK.out 2).trans rfl; have hfz_0 := blk_frozen BK.out 0; have hfz_1 := blk_frozen BK.out 1; have hfz_2 := blk_frozen BK.out 2; have hczo_0 : w5.cell? ⟨go, 0, none⟩ = some (.slice A0 l.length c0) := (blk_cell BO.out 0).trans rfl; have hfzo_0 := blk_frozen BO.out 0) | ((with_reducible refine gate_builtin (b := .append) (xs := #[.tmp 11, .tmp 18]) rfl ?_); at_builtin; refine Kd.R_append k65 (w0 := w0) w0.heap.size rfl (.tmp 11) (.tmp 18) 23 65 (.agg #[(.int .i64 0), (.int .i64 0), (.int .i64 0)]) 24 rfl Tryd.underlying23 info65 rfl (by decide) (by omega) (.slice A0 l.length c0) l (⟨a0, a1, up⟩ : S65) [.int .i64 a0, .int .i64 a1, .int .i64 up] (fun _ => True) (fun _ => False) rfl (by first | (go_simp; done) | (go_simp; rfl)) ?aP (fun _ hk => hk.elim) ?aF ?aO ?aB ?aS ?aL ?_; (case aP => exact k65_mkM _ _ _ (⟨a0, a1, up⟩ : S65)); (case aB => exact HB.out); (case aF => exact (fun _ _ => trivial)); (case aO => exact HO.out); (case aS => exact (below_size HB.out)); (case aL => have := HL.out; omega); intro v1 w7 ho hb hg hat; obtain ⟨A3, c3, hv3⟩ := Kd.R_slice ho; obtain ⟨n3, hn3⟩ : ∃ n3, n3 = (l ++ [(⟨a0, a1, up⟩ : S65)]).length := ⟨_, rfl⟩; rw [← hn3] at hv3; subst hv3; clear hn3; have m0_ := aK (hb); have m1_ := aK ((hg.block gb (blk_lt BK.out) (Kd.R_ne HO.out BK.out (by decide))).trans BK.out); have m2_ := aK ((hg.block go (blk_lt BO.out) (Kd.R_ne HO.out BO.out (by decide))).trans BO.out); have m3_ := aK ((hg.block gp (blk_lt BP.out) (Kd.R_ne HO.out BP.out (by decide))).trans BP.out); have m4_ := aK (ho); clear BO BP HB HO; have HB := m0_; have BK := m1_; have BO := m2_; have BP := m3_; have HO := m4_; clear m0_ m1_ m2_ m3_ m4_; clear ho hb hg hat; clear hcz_0 hfz_0 hcz_1 hfz_1 hcz_2 hfz_2 hczo_0 hfzo_0; have hcza_0 : w7.cell? ⟨gb, 0, none⟩ = some (.int .i64 a0) := (blk_cell BK.out 0).trans rfl; have hcza_1 : w7.cell? ⟨gb, 1, none⟩ = some (.int .i64 a1) := (blk_cell BK.out 1).trans rfl; have hcza_2 : w7.cell? ⟨gb, 2, none⟩ = some (.slice A ks.length c) := (blk_cell BK.out 2).trans rfl; have hfza_0 := blk_frozen BK.out 0; have hfza_1 := blk_frozen BK.out 1; have hfza_2 := blk_frozen BK.out 2; have hczp_0 : w7.cell? ⟨go, 0, none⟩ = some (.slice A0 l.length c0) := (blk_cell BO.out 0).trans rfl; have hfzp_0 := blk_frozen BO.out 0; have hnb_ := NGB.out BK.out BO.out; have hnc_ := NGO.out))
 have n0_ : Aside0 (Kd.R k65 65 (w7.setCell ⟨go, 0, none⟩ (.slice A3 n3 c3)) w0.heap.size (fun _ => True) (.slice A3 n3 c3) (l ++ [⟨a0, a1, up⟩])) := ⟨Kd.R_mono (Kd.R_far (p := ⟨go, 0, none⟩) (Kd.R_types HO.out BO.out (by decide)) (fun _ hk => hk.2) (.slice A3 n3 c3)) (fun _ hk => hk.1)⟩
 have n1_ : Aside0 (Below w0.heap.size w0 (w7.setCell ⟨go, 0, none⟩ (.slice A3 n3 c3))) := ⟨below_set HB.out GO.out⟩
 have n2_ : Aside0 ((w7.setCell ⟨go, 0, none⟩ (.slice A3 n3 c3)).heap[go]? = some (.cells #[.slice A3 n3 c3] 23 (0, 0))) := ⟨by refine blk_put (cs := #[.slice A0 l.length c0]) ?_ 0 _ rfl; exact BO.out⟩
 have n3_ : Aside0 ((w7.setCell ⟨go, 0, none⟩ (.slice A3 n3 c3)).heap[gp]? = some (.cells #[.func (.func 40) #[] #[.pointer (some ⟨go, 0, none⟩), .pointer (some ⟨gp, 0, none⟩)]] 81 (0, 0))) := ⟨by refine blk_far ?_ NGO.out _; exact BP.out⟩
 clear HO HB BO BP
 go_loopg [23] (ks.length + 1) (fun kq v23 w' => ∃ (i : Int) (acc : List S65) (v : Value), v23 = .int .i64 i ∧ Aside0 (Kd.R k65 65 w' w0.heap.size (fun _ => True) v acc) ∧ Aside0 (0 ≤ i ∧ i ≤ ks.length ∧ (kq : Int) = ks.length - i + 1) ∧ Aside0 (acc.length + szL (ks.drop i.toNat) ≤ 200000 ∧ flL (ks.drop i.toNat) (l.length : Int) acc = flL ks (l.length : Int) (l ++ [⟨a0, a1, up⟩])) ∧ Aside0 (Below w0.heap.size w0 w') ∧ Aside0 (w'.heap[go]? = some (.cells #[v] 23 (0, 0))) ∧ Aside0 (w'.heap[gp]? = some (.cells #[.func (.func 40) #[] #[.pointer (some ⟨go, 0, none⟩), .pointer (some ⟨gp, 0, none⟩)]] 81 (0, 0))))
 case atStart => exact ⟨0, l ++ [⟨a0, a1, up⟩], .slice A3 n3 c3, rfl, n0_, ⟨by omega, by omega, by omega⟩, ⟨by have := HZ.out; rw [List.length_append, show (0 : Int).toNat = 0 from rfl, List.drop_zero]; show l.length + 1 + _ ≤ _; omega, by rw [show (0 : Int).toNat = 0 from rfl, List.drop_zero]⟩, n1_, n2_, n3_⟩
 case round =>
  clear n0_ n1_ n2_ n3_ BK
  obtain ⟨i, acc, v, rfl, HO0, HA, HF, HB, BO, BP⟩ := hrel
  obtain ⟨A1, c1, rfl⟩ := Kd.R_slice HO0.out
  have HO := HO0
  clear HO0
  by_cases c2 : i < (ks.length : Int)
  ·have cb : decide (i < (ks.length : Int)) = true := decide_eq_true c2
   have cz : decide (0 ≤ i) = true := decide_eq_true HA.out.1
   obtain ⟨j, rfl⟩ : ∃ j : Nat, i = (j : Int) := ⟨i.toNat, by have := HA.out.1; omega⟩
   obtain ⟨ad, A2, c2_, e1, hx0, hx1, hx2, hl2, hi2⟩ := at_T45 (HC0.out) (j : Int) HA.out.1 c2
   cases e1
   simp only [Int.toNat_natCast] at hx0 hx1 hx2
   have HC2 := aK hl2
   have HR2 := aK hi2
   clear hl2 hi2
   replace hx0 := uC HB hx0
   replace hx1 := uC HB hx1
   replace hx2 := uC HB hx2
   have w1 : wrap64 ((j : Int) + 1) = (j : Int) + 1 := by have := HM.out; unfold wrap64; omega
   have W1 := aK w1
   have PI := aK (show j < ks.length by omega)
   have p1 := eq_true HA.out.1
   have q1 := eq_true c2
   clear c2 w1
   have e9 : flL (ks.drop j) (l.length : Int) acc = flL (ks.drop (j + 1)) (l.length : Int) (flT (rd_T45 ks (j : Int)) (l.length : Int) acc) := by rw [rd_drop ks j PI.out, flL_cons]
   have E9 := aK e9
   have e8 : szL (ks.drop j) = szT (rd_T45 ks (j : Int)) + szL (ks.drop (j + 1)) := by rw [rd_drop ks j PI.out, szL_cons]
   have E8 := aK e8
   have CL : Aside0 (acc.length + szT (rd_T45 ks (j : Int)) ≤ 200000) := ⟨by have h := HF.out.1; rw [show ((j : Int)).toNat = j by omega, e8] at h; omega⟩
   clear e9 e8
   obtain ⟨k1, rfl⟩ : ∃ m, gk = m + 1 := ⟨gk - 1, by have := HA.out; have := PI.out; omega⟩
   go_wp2_with ((with_reducible refine gate_dst (N := 8) rfl ?_); refine bE (N := 8) (cs := #[.int .i64 0, .int .i64 0, .slice none 0 0]) (t := 45) ?_; intro g2 hg w9 hbox hb; have hy0 := (hb.cell (World.block_lt_of_cell? _ _ hx0)).trans hx0; have hy1 := (hb.cell (World.block_lt_of_cell? _ _ hx1)).trans hx1; have hy2 := (hb.cell (World.block_lt_of_cell? _ _ hx2)).trans hx2; clear hx0 hx1 hx2; have hx0 := hy0; have hx1 := hy1; have hx2 := hy2; clear hy0 hy1 hy2; have m0_ := aK (below_step HB.out hb); have m1_ := aK (hbox); have m2_ := aK (Kd.R_below HO.out hb); have m3_ := aK (blk_below (g := go) (o := .cells #[.slice A1 acc.length c1] 23 (0, 0)) BO.out hb); have m4_ := aK (blk_below (g := gp) (o := .cells #[.func (.func 40) #[] #[.pointer (some ⟨go, 0, none⟩), .pointer (some ⟨gp, 0, none⟩)]] 81 (0, 0)) BP.out hb); have m5_ := aK ((by rw [hg]; exact below_size HB.out : w0.heap.size ≤ g2)); have m6_ := aK ((by rw [hg]; exact Nat.ne_of_lt (blk_lt BO.out) : go ≠ g2)); have m7_ := aK ((by rw [hg]; exact Nat.ne_of_lt (blk_lt BP.out) : gp ≠ g2)); clear BO BP HB HO; have HB := m0_; have BK2 := m1_; have HO := m2_; have BO := m3_; have BP := m4_; have GE2 := m5_; have N2O := m6_; have N2P := m7_; clear m0_ m1_ m2_ m3_ m4_ m5_ m6_ m7_; clear hb hbox hg; have hn1_ := N2O.out; have hn2_ := N2P.out; have hczb_0 : w9.cell? ⟨g2, 0, none⟩ = some (.int .i64 0) := (blk_cell BK2.out 0).trans rfl; have hczb_1 : w9.cell? ⟨g2, 1, none⟩ = some (.int .i64 0) := (blk_cell BK2.out 1).trans rfl; have hczb_2 : w9.cell? ⟨g2, 2, none⟩ = some (.slice none 0 0) := (blk_cell BK2.out 2).trans rfl; have hfzb_0 := blk_frozen BK2.out 0; have hfzb_1 := blk_frozen BK2.out 1; have hfzb_2 := blk_frozen BK2.out 2; have hczq_0 : w9.cell? ⟨go, 0, none⟩ = some (.slice A1 acc.length c1) := (blk_cell BO.out 0).trans rfl; have hfzq_0 := blk_frozen BO.out 0; have hczr_0 : w9.cell? ⟨gp, 0, none⟩ = some (.func (.func 40) #[] #[.pointer (some ⟨go, 0, none⟩), .pointer (some ⟨gp, 0, none⟩)]) := (blk_cell BP.out 0).trans rfl; have hfzr_0 := blk_frozen BP.out 0)
   refine (IH.out j A2 c2_ acc (.slice A1 acc.length c1) _ PI.out HC2.out (by have := CL.out; omega) (Kd.R_mono (Kd.R_far (p := ⟨g2, 2, none⟩) (Kd.R_far (p := ⟨g2, 1, none⟩) (Kd.R_far (p := ⟨g2, 0, none⟩) (Kd.R_types HO.out BK2.out (by decide)) (fun _ hk => hk.2) (.int .i64 (rd_T45 ks (j : Int)).f0)) (fun _ hk => hk.2) (.int .i64 (rd_T45 ks (j : Int)).f1)) (fun _ hk => hk.2) (.slice A2 (rd_T45 ks (j : Int)).f2.length c2_)) (fun _ hk => hk.1)) (below_set (below_set (below_set HB.out GE2.out) GE2.out) GE2.out) (by refine blk_far ?_ N2O.out _; refine blk_far ?_ N2O.out _; refine blk_far ?_ N2O.out _; exact BO.out) (by refine blk_far ?_ N2P.out _; refine blk_far ?_ N2P.out _; refine blk_far ?_ N2P.out _; exact BP.out) HR2.out).mono ?_
   rintro e w' ⟨v2, rfl, bo2, bp2, ho2, hb2⟩
   have HO2 := aK ho2
   have HB2 := aK hb2
   have BO2 := aK bo2
   have BP2 := aK bp2
   clear HB HO BK2 BO BP ho2 hb2 bo2 bp2
   go_wp2
   go_roundg k1
   case measure => omega
   case rel => exact ⟨(j : Int) + 1, _, v2, by first | rfl | rw [W1.out], HO2, ⟨by have := HA.out; omega, by have := PI.out; omega, by have := HA.out; omega⟩, ⟨by have h := HF.out.1; rw [show ((j : Int)).toNat = j by omega, E8.out] at h; rw [flT_len, show ((j : Int) + 1).toNat = j + 1 by omega]; omega, by rw [← HF.out.2, show ((j : Int) + 1).toNat = j + 1 by omega, show ((j : Int)).toNat = j by omega, E9.out]⟩, HB2, BO2, BP2⟩
  ·have cb : decide (i < (ks.length : Int)) = false := decide_eq_false c2
   have hi : i.toNat = ks.length := by have := HA.out; omega
   have e := HF.out.2
   rw [hi, List.drop_length, flL_nil] at e
   have E := aK e
   clear c2 hi e
   go_wp2
   go_end0
   exact ⟨_, rfl, BO.out, BP.out, by rw [← E.out]; exact HO.out, HB.out⟩

theorem flat_some (w0 : World) (go gp : Nat) (hgo : w0.heap.size ≤ go) (hgp : w0.heap.size ≤ gp) (hne : gp ≠ go) : ∀ (N : Nat) (x : S45) (up : Int) (A : Option Addr) (c : Nat) (l : List S65) (v : Value) (w : World), SizeOf.sizeOf x.f2 ≤ N → x.f2.length ≤ c → l.length + szT x ≤ 200000 → Kd.R k65 65 w w0.heap.size (fun _ => True) v l → Below w0.heap.size w0 w → w.heap[go]? = some (.cells #[v] 23 (0, 0)) → w.heap[gp]? = some (.cells #[.func (.func 40) #[] #[.pointer (some ⟨go, 0, none⟩), .pointer (some ⟨gp, 0, none⟩)]] 81 (0, 0)) → Kd.C k45 w0 A x.f2.length x.f2 →
  Calls Tryd.prog 40 #[.agg #[.int .i64 x.f0, .int .i64 x.f1, .slice A x.f2.length c], .int .i64 up, .pointer (some ⟨go, 0, none⟩), .pointer (some ⟨gp, 0, none⟩)] w fun e w' => ∃ v2, e = .returned (.tuple #[]) ∧ w'.heap[go]? = some (.cells #[v2] 23 (0, 0)) ∧ w'.heap[gp]? = some (.cells #[.func (.func 40) #[] #[.pointer (some ⟨go, 0, none⟩), .pointer (some ⟨gp, 0, none⟩)]] 81 (0, 0)) ∧ Kd.R k65 65 w' w0.heap.size (fun _ => True) v2 (flT x up l) ∧ Below w0.heap.size w0 w' := by
 intro N
 induction N with
 | zero =>
  intro x up A c l v w hN
  cases h : x.f2 with
  | nil => rw [h] at hN; simp at hN
  | cons y ys => rw [h] at hN; simp at hN
 | succ N ih =>
  intro x up A c l v w hN hc hl hO hB hbo hbp hC
  obtain ⟨A0, c0, rfl⟩ := Kd.R_slice hO
  rw [flT_eq]
  refine node_some w0 go gp hgo hgp hne x.f0 x.f1 up x.f2 A c l A0 c0 w hC hc (by rw [← szT_eq]; exact hl) hO hB hbo hbp fun j A2 c2 acc v2 w2 hj hc2 hacc hO2 hB2 hbo2 hbp2 hC2 => ?_
  refine ih (rd_T45 x.f2 (j : Int)) (l.length : Int) A2 c2 acc v2 w2 ?_ hc2 hacc hO2 hB2 hbo2 hbp2 hC2
  have h1 := List.sizeOf_lt_of_mem (rd_mem x.f2 (j : Int) (by omega) (by omega))
  have h2 : ∀ y : S45, SizeOf.sizeOf y.f2 < SizeOf.sizeOf y := fun y => by cases y; simp; omega
  have h3 := h2 (rd_T45 x.f2 (j : Int))
  omega
end Nodes45

theorem Nodes45.store_func (P : Program) (w : World) (a : Addr) (m : Mode) (fn : Fn) (first captured : Array Value) : (store a (.func fn first captured) m).run P w = stored P w a (.func fn first captured) m := run_store P w a _ m rfl
attribute [local go_sem] Nodes45.store_func
def impl_comb_goodNodes.f (k : Nat) (a0_0 : Int) (a0_1 : Int) (l0_2 : List (S45)) : Option ((List (S65)) × Bool) := (impl_comb_isGood.f k a0_0 a0_1 l0_2).bind fun b => (if b = true then (if Nodes45.szT ⟨a0_0, a0_1, l0_2⟩ ≤ 200000 then (some (Nodes45.flT ⟨a0_0, a0_1, l0_2⟩ (-1) [], true)) else (none)) else (some (([] : List S65), false)))
set_option maxHeartbeats 4000000 in
set_option maxRecDepth 100000 in
theorem impl_comb_goodNodes.calls (k : Nat) (a0_0 : Int) (a0_1 : Int) (A0_2 : Option Addr) (c0_2 : Nat) (l0_2 : List (S45)) (r1 : List (S65)) (r2 : Bool) (w : World) (hr0_2 : Kd.C k45 w A0_2 l0_2.length l0_2) (hc0_2 : l0_2.length ≤ c0_2) (h : impl_comb_goodNodes.f k a0_0 a0_1 l0_2 = some (r1, r2)) :
  Calls Tryd.prog 21 #[.agg #[.int .i64 a0_0, .int .i64 a0_1, .slice A0_2 l0_2.length c0_2]] w fun e w' => ∃ v0_ : Value, e = .returned (.tuple #[v0_, .bool r2]) ∧ Kd.R k65 65 w' w.heap.size (fun _ => True) v0_ r1 ∧ Below w.heap.size w w' := by
 have hu58 := Tryd.underlying45
 have hu25 := Tryd.underlying23
 have eg := enters_ Tryd.func40 (by kernel_rfl) rfl
 have hmf : ∀ (fn : Fn) (first cap : Array Value) (w : World), (Instr.makeFunc fn first cap).run Tryd.prog w = .ok (.func fn first cap) w := fun _ _ _ _ => rfl
 have HR0 := aK hr0_2
 have HC0 := aK hc0_2
 clear hr0_2 hc0_2
 have HB := aK (Below.refl w.heap.size w)
 have H : ((impl_comb_isGood.f k a0_0 a0_1 l0_2).bind fun b => (if b = true then (if Nodes45.szT ⟨a0_0, a0_1, l0_2⟩ ≤ 200000 then (some (Nodes45.flT ⟨a0_0, a0_1, l0_2⟩ (-1) [], true)) else (none)) else (some (([] : List S65), false)))) = some (r1, r2) := h
 clear h
 replace H := Option.bind_eq_some_iff.mp H
 obtain ⟨b, HG0, H⟩ := H
 have HG := aK HG0
 clear HG0
 cases b with
 | true =>
  rw [if_pos rfl] at H
  by_cases hz : Nodes45.szT ⟨a0_0, a0_1, l0_2⟩ ≤ 200000
  case neg => rw [if_neg hz] at H; exact absurd H (by simp)
  rw [if_pos hz] at H
  have HZ := aK hz
  clear hz
  simp only [Option.some.injEq, Prod.mk.injEq] at H
  obtain ⟨rfl, rfl⟩ := H
  go_enter Tryd.func21, Tryd.ntmps21
  go_wp2_with (first | ((with_reducible refine gate_dst (N := 1) rfl ?_); refine bE (N := 1) (cs := #[.int .i64 a0_0, .int .i64 a0_1, .slice A0_2 l0_2.length c0_2]) (t := 45) ?_; intro gb hg w5 hbox hb; have n0_ := aK (below_step HB.out hb); have BK := aK hbox; clear HB; have HB := n0_; clear n0_; clear hb hbox hg; have hcz_0 : w5.cell? ⟨gb, 0, none⟩ = some (.int .i64 a0_0) := (blk_cell BK.out 0).trans rfl; have hcz_1 : w5.cell? ⟨gb, 1, none⟩ = some (.int .i64 a0_1) := (blk_cell BK.out 1).trans rfl; have hcz_2 : w5.cell? ⟨gb, 2, none⟩ = some (.slice A0_2 l0_2.length c0_2) := (blk_cell BK.out 2).trans rfl; have hfz_0 := blk_frozen BK.out 0; have hfz_1 := blk_frozen BK.out 1; have hfz_2 := blk_frozen BK.out 2) | ((with_reducible refine gate_callee (f := 24) rfl ?_); refine goesL_ (some 7) rfl rfl Tryd.func24 (by kernel_rfl) rfl #[.agg #[.int .i64 a0_0, .int .i64 a0_1, .slice A0_2 l0_2.length c0_2]] rfl tA ?_; refine (impl_comb_isGood.calls k a0_0 a0_1 _ _ l0_2 true _ (Kd.C_below HR0.out HB.out) HC0.out HG.out).mono ?_; rintro e w7 ⟨rfl, hb⟩; refine ⟨_, rfl, ?_⟩; have n_ := aJ (aK (below_step HB.out hb)) (aK (blk_below (g := gb) (o := .cells #[.int .i64 a0_0, .int .i64 a0_1, .slice A0_2 l0_2.length c0_2] 45 (0, 0)) BK.out hb)); clear HB BK; obtain ⟨HB, BK⟩ := n_; clear hb; clear hcz_0 hcz_1 hcz_2 hfz_0 hfz_1 hfz_2; have hcza_0 : w7.cell? ⟨gb, 0, none⟩ = some (.int .i64 a0_0) := (blk_cell BK.out 0).trans rfl; have hcza_1 : w7.cell? ⟨gb, 1, none⟩ = some (.int .i64 a0_1) := (blk_cell BK.out 1).trans rfl; have hcza_2 : w7.cell? ⟨gb, 2, none⟩ = some (.slice A0_2 l0_2.length c0_2) := (blk_cell BK.out 2).trans rfl; have hfza_0 := blk_frozen BK.out 0; have hfza_1 := blk_frozen BK.out 1; have hfza_2 := blk_frozen BK.out 2) | ((with_reducible refine gate_dst (N := 9) rfl ?_); refine Kd.R_lit k65 _ 65 ?hg (N := 9) ?hd (xs := ([] : List S65)) (inner := []) (ok := fun _ => True) (okp := fun _ => True) ?hr ?hp (fun _ hk => hk) trivial (Below.refl _ _) (Nat.le_refl _) (by simp) ?_; (case hd => rfl); (case hg => rfl); (case hr => go_simp); (case hp => exact (Reps.none _ _)); intro v1 w8 ho hb hg_ hnew_; clear hg_ hnew_; obtain ⟨A1, c1, rfl⟩ := Kd.R_slice ho; have n_ := aJ (aK (Kd.R_lower ho (below_size HB.out))) (aJ (aK (below_step HB.out hb)) (aK (blk_below (g := gb) (o := .cells #[.int .i64 a0_0, .int .i64 a0_1, .slice A0_2 l0_2.length c0_2] 45 (0, 0)) BK.out hb))); clear HB BK; obtain ⟨HO, HB, BK⟩ := n_; clear hb ho; clear hcza_0 hcza_1 hcza_2 hfza_0 hfza_1 hfza_2) | ((with_reducible refine gate_dst (N := 4) rfl ?_); refine bE (N := 4) (cs := #[.slice none 0 0]) (t := 23) ?_; intro go hg w9 hbox hb; have n_ := aJ (aK (Kd.R_below HO.out hb)) (aJ (aK (below_step HB.out hb)) (aJ (aK (blk_below (g := gb) (o := .cells #[.int .i64 a0_0, .int .i64 a0_1, .slice A0_2 l0_2.length c0_2] 45 (0, 0)) BK.out hb)) (aJ (aK hbox) (aJ (aK ((by rw [hg]; exact below_size HB.out : w.heap.size ≤ go))) (aK ((by rw [hg]; exact Nat.ne_of_lt (blk_lt BK.out) : gb ≠ go))))))); clear HB BK HO; obtain ⟨HO, HB, BK, BO, GO, NGB⟩ := n_; clear hb hbox hg; have hczo_0 : w9.cell? ⟨go, 0, none⟩ = some (.slice none 0 0) := (blk_cell BO.out 0).trans rfl; have hfzo_0 := blk_frozen BO.out 0) | ((with_reducible refine gate_dst (N := 5) rfl ?_); refine bE (N := 5) (cs := #[.nilFunc]) (t := 81) ?_; intro gp hg w10 hbox hb; have n_ := aJ (aK (Kd.R_below (Kd.R_mono (Kd.R_far (p := ⟨go, 0, none⟩) (Kd.R_types HO.out BO.out (by decide)) (fun _ hk => hk.2) (.slice A1 0 c1)) (fun _ hk => hk.1)) hb)) (aJ (aK (below_step (below_set HB.out GO.out) hb)) (aJ (aK (blk_below (g := gb) (o := .cells #[.int .i64 a0_0, .int .i64 a0_1, .slice A0_2 l0_2.length c0_2] 45 (0, 0)) (blk_far BK.out NGB.out _) hb)) (aJ (aK (blk_below (g := go) (o := .cells #[.slice A1 0 c1] 23 (0, 0)) (blk_put (cs := #[.slice none 0 0]) BO.out 0 (.slice A1 0 c1) rfl) hb)) (aJ (aK hbox) (aJ (aK ((by rw [hg]; exact below_size (below_set HB.out GO.out) : w.heap.size ≤ gp))) (aJ (aK ((by rw [hg]; exact Nat.ne_of_gt (blk_lt (o := .cells #[.slice A1 0 c1] 23 (0, 0)) (blk_put (cs := #[.slice none 0 0]) BO.out 0 (.slice A1 0 c1) rfl)) : gp ≠ go))) (aK ((by rw [hg]; exact Nat.ne_of_lt (blk_lt (o := .cells #[.int .i64 a0_0, .int .i64 a0_1, .slice A0_2 l0_2.length c0_2] 45 (0, 0)) (blk_far BK.out NGB.out _)) : gb ≠ gp))))))))); clear HB BK HO BO; obtain ⟨HO, HB, BK, BO, BP, GP, NPO, NBP⟩ := n_; clear hb hbox hg; clear hczo_0 hfzo_0; have hq1_ := NBP.out; have hq2_ := NPO.out; have hq3_ := NGB.out; have hczc_0 : w10.cell? ⟨gb, 0, none⟩ = some (.int .i64 a0_0) := (blk_cell BK.out 0).trans rfl; have hczc_1 : w10.cell? ⟨gb, 1, none⟩ = some (.int .i64 a0_1) := (blk_cell BK.out 1).trans rfl; have hczc_2 : w10.cell? ⟨gb, 2, none⟩ = some (.slice A0_2 l0_2.length c0_2) := (blk_cell BK.out 2).trans rfl; have hfzc_0 := blk_frozen BK.out 0; have hfzc_1 := blk_frozen BK.out 1; have hfzc_2 := blk_frozen BK.out 2; have hczd_0 : w10.cell? ⟨go, 0, none⟩ = some (.slice A1 0 c1) := (blk_cell BO.out 0).trans rfl; have hfzd_0 := blk_frozen BO.out 0; have hcze_0 : w10.cell? ⟨gp, 0, none⟩ = some (.nilFunc) := (blk_cell BP.out 0).trans rfl; have hfze_0 := blk_frozen BP.out 0))
  refine (Nodes45.flat_some w go gp GO.out GP.out NPO.out (SizeOf.sizeOf l0_2) (⟨a0_0, a0_1, l0_2⟩ : S45) (-1) A0_2 c0_2 [] (.slice A1 0 c1) _ (Nat.le_refl _) HC0.out (by have := HZ.out; simpa using this) (Kd.R_mono (Kd.R_far (p := ⟨gp, 0, none⟩) (Kd.R_types HO.out BP.out (by decide)) (fun _ hk => hk.2) (.func (.func 40) #[] #[.pointer (some ⟨go, 0, none⟩), .pointer (some ⟨gp, 0, none⟩)])) (fun _ hk => hk.1)) (below_set HB.out GP.out) (blk_far BO.out NPO.out.symm _) (blk_put (cs := #[.nilFunc]) BP.out 0 (.func (.func 40) #[] #[.pointer (some ⟨go, 0, none⟩), .pointer (some ⟨gp, 0, none⟩)]) rfl) HR0.out).mono ?_
  rintro e w' ⟨v2, rfl, bo2, bp2, ho2, hb2⟩
  obtain ⟨A9, c9, hv9⟩ := Kd.R_slice ho2
  obtain ⟨n9, hn9⟩ : ∃ n9, n9 = (Nodes45.flT (⟨a0_0, a0_1, l0_2⟩ : S45) (-1) []).length := ⟨_, rfl⟩
  rw [← hn9] at hv9
  subst hv9
  clear hn9
  have hq_ : w'.cell? ⟨go, 0, none⟩ = some (.slice A9 n9 c9) := (blk_cell bo2 0).trans rfl
  have hf_ := blk_frozen bo2 0
  have HO2 := aK ho2
  have HB2 := aK hb2
  clear ho2 hb2 bo2 bp2
  go_wp2
  go_ret2
  exact ⟨_, rfl, HO2.out, HB2.out⟩
 | false =>
  rw [if_neg (by decide)] at H
  simp only [Option.some.injEq, Prod.mk.injEq] at H
  obtain ⟨rfl, rfl⟩ := H
  go_enter Tryd.func21, Tryd.ntmps21
  go_wp2_with (first | ((with_reducible refine gate_dst (N := 1) rfl ?_); refine bE (N := 1) (cs := #[.int .i64 a0_0, .int .i64 a0_1, .slice A0_2 l0_2.length c0_2]) (t := 45) ?_; intro gb hg w5 hbox hb; have n0_ := aK (below_step HB.out hb); have BK := aK hbox; clear HB; have HB := n0_; clear n0_; clear hb hbox hg; have hcz_0 : w5.cell? ⟨gb, 0, none⟩ = some (.int .i64 a0_0) := (blk_cell BK.out 0).trans rfl; have hcz_1 : w5.cell? ⟨gb, 1, none⟩ = some (.int .i64 a0_1) := (blk_cell BK.out 1).trans rfl; have hcz_2 : w5.cell? ⟨gb, 2, none⟩ = some (.slice A0_2 l0_2.length c0_2) := (blk_cell BK.out 2).trans rfl; have hfz_0 := blk_frozen BK.out 0; have hfz_1 := blk_frozen BK.out 1; have hfz_2 := blk_frozen BK.out 2) | ((with_reducible refine gate_callee (f := 24) rfl ?_); refine goesL_ (some 7) rfl rfl Tryd.func24 (by kernel_rfl) rfl #[.agg #[.int .i64 a0_0, .int .i64 a0_1, .slice A0_2 l0_2.length c0_2]] rfl tA ?_; refine (impl_comb_isGood.calls k a0_0 a0_1 _ _ l0_2 false _ (Kd.C_below HR0.out HB.out) HC0.out HG.out).mono ?_; rintro e w7 ⟨rfl, hb⟩; refine ⟨_, rfl, ?_⟩; have n_ := aJ (aK (below_step HB.out hb)) (aK (blk_below (g := gb) (o := .cells #[.int .i64 a0_0, .int .i64 a0_1, .slice A0_2 l0_2.length c0_2] 45 (0, 0)) BK.out hb)); clear HB BK; obtain ⟨HB, BK⟩ := n_; clear hb; clear hcz_0 hcz_1 hcz_2 hfz_0 hfz_1 hfz_2; have hcza_0 : w7.cell? ⟨gb, 0, none⟩ = some (.int .i64 a0_0) := (blk_cell BK.out 0).trans rfl; have hcza_1 : w7.cell? ⟨gb, 1, none⟩ = some (.int .i64 a0_1) := (blk_cell BK.out 1).trans rfl; have hcza_2 : w7.cell? ⟨gb, 2, none⟩ = some (.slice A0_2 l0_2.length c0_2) := (blk_cell BK.out 2).trans rfl; have hfza_0 := blk_frozen BK.out 0; have hfza_1 := blk_frozen BK.out 1; have hfza_2 := blk_frozen BK.out 2))
  go_ret2
  exact ⟨_, rfl, Kd.R_nil _ _ _ _ _, HB.out⟩

def impl_combApp.f (a0_0 : Int) (a0_1 : Int) (l0_2 : List (S45)) (a1_0 : Int) (a1_1 : Int) (l1_2 : List (S45)) : Option (Int × Int × (List (S45))) := some (2, 0, (([(⟨a0_0, a0_1, l0_2⟩ : S45), (⟨a1_0, a1_1, l1_2⟩ : S45)] : List (S45))))
set_option maxHeartbeats 8000000 in
set_option maxRecDepth 100000 in
theorem impl_combApp.calls (a0_0 : Int) (a0_1 : Int) (P0_2_ : Nat → Prop) (A0_2 : Option Addr) (c0_2 : Nat) (l0_2 : List (S45)) (a1_0 : Int) (a1_1 : Int) (P1_2_ : Nat → Prop) (A1_2 : Option Addr) (c1_2 : Nat) (l1_2 : List (S45)) (r1 : Int) (r2 : Int) (r3 : List (S45)) (w : World) (hs0_2 : Kd.V k45 45 w w.heap.size (fun k_ => P0_2_ k_) (.slice A0_2 l0_2.length c0_2) l0_2) (hs1_2 : Kd.V k45 45 w w.heap.size (fun k_ => P1_2_ k_) (.slice A1_2 l1_2.length c1_2) l1_2) (h : impl_combApp.f a0_0 a0_1 l0_2 a1_0 a1_1 l1_2 = some (r1, r2, r3)) :
  Calls Tryd.prog 37 #[.agg #[.int .i64 a0_0, .int .i64 a0_1, .slice A0_2 l0_2.length c0_2], .agg #[.int .i64 a1_0, .int .i64 a1_1, .slice A1_2 l1_2.length c1_2]] w fun e w' => ∃ v2_ : Value, e = .returned (.agg #[.int .i64 r1, .int .i64 r2, v2_]) ∧ Kd.N k45 45 w' w.heap.size (fun k_ => ((P0_2_ k_ ∨ P1_2_ k_) ∨ w.heap.size ≤ k_)) v2_ r3 ∧ Below w.heap.size w w' := by
 have hu45 := Tryd.underlying45
 have HO0_2 := aK (show Kd.V k45 45 w w.heap.size (fun k_ => ((P0_2_ k_ ∨ P1_2_ k_) ∨ w.heap.size ≤ k_)) (.slice A0_2 l0_2.length c0_2) l0_2 from Kd.V_mono hs0_2 (fun k_ hk => .inl (.inl hk)))
 have HO1_2 := aK (show Kd.V k45 45 w w.heap.size (fun k_ => ((P0_2_ k_ ∨ P1_2_ k_) ∨ w.heap.size ≤ k_)) (.slice A1_2 l1_2.length c1_2) l1_2 from Kd.V_mono hs1_2 (fun k_ hk => .inl (.inr hk)))
 have HB := aK (Below.refl w.heap.size w)
 have H : (some (2, 0, (([(⟨a0_0, a0_1, l0_2⟩ : S45), (⟨a1_0, a1_1, l1_2⟩ : S45)] : List (S45))))) = some (r1, r2, r3) := h
 clear h
 obtain ⟨y104, hy104⟩ : ∃ y_ : List (S45), y_ = (([(⟨a0_0, a0_1, l0_2⟩ : S45), (⟨a1_0, a1_1, l1_2⟩ : S45)] : List (S45))) := ⟨_, rfl⟩
 replace H : (some (2, 0, y104)) = some (r1, r2, r3) := by first | (rw [hy104]; with_reducible exact H) | (have H2_ := (Option.bind_some _ _).symm.trans H; rw [hy104]; with_reducible exact H2_) | (have H2_ := (Option.bind_some _ _).symm.trans H; with_reducible exact H2_) | with_reducible exact H | (rw [hy104]; exact H) | exact H
 have Ny104 := aK hy104
 clear hy104
 simp only [Option.some.injEq, Prod.mk.injEq] at H
 obtain ⟨rfl, rfl, rfl⟩ := H
 go_enter Tryd.func37, Tryd.ntmps37
 go_wp2_with (first | ((with_reducible refine gate_dst (N := 2) rfl ?_); refine bE (N := 2) (cs := #[.int .i64 a0_0, .int .i64 a0_1, .slice A0_2 l0_2.length c0_2]) (t := 45) ?_; intro gb101 hg w3 hbox hb; have GW101 := qw HB hg; have GE101 := qw HB hg; replace HO0_2 := qv HO0_2 hg hb; replace HO1_2 := qv HO1_2 hg hb; have BK101 := aK hbox; replace HB := qs HB hb; clear hb hbox hg) | ((with_reducible refine gate_dst (N := 3) rfl ?_); refine bE (N := 3) (cs := #[.int .i64 a1_0, .int .i64 a1_1, .slice A1_2 l1_2.length c1_2]) (t := 45) ?_; intro gb102 hg w4 hbox hb; have GW102 := qw HB hg; have GE102 := qw HB hg; have NB101_102 := ql BK101 hg; have NB102_101 := qg BK101 hg; replace HO0_2 := qv HO0_2 hg hb; replace HO1_2 := qv HO1_2 hg hb; replace BK101 := qb BK101 hb; have BK102 := aK hbox; replace HB := qs HB hb; clear hb hbox hg) | ((with_reducible refine gate_dst (N := 4) rfl ?_); refine bE (N := 4) (cs := #[.int .i64 0, .int .i64 0, .slice none 0 0]) (t := 45) ?_; intro gb103 hg w5 hbox hb; have GW103 := qw HB hg; have GE103 := qw HB hg; have NB101_103 := ql BK101 hg; have NB103_101 := qg BK101 hg; have NB102_103 := ql BK102 hg; have NB103_102 := qg BK102 hg; replace HO0_2 := qv HO0_2 hg hb; replace HO1_2 := qv HO1_2 hg hb; replace BK101 := qb BK101 hb; replace BK102 := qb BK102 hb; have BK103 := aK hbox; replace HB := qs HB hb; clear hb hbox hg; have hnb6 := NB101_102.out; have hnc6 := NB102_101.out; have hnb7 := NB101_103.out; have hnc7 := NB103_101.out; obtain ⟨hcz8_0, hcz8_1, hcz8_2, hfz8_0, hfz8_1, hfz8_2⟩ := cA3 BK101; have hnb9 := NB102_103.out; have hnc9 := NB103_102.out; obtain ⟨hcz10_0, hcz10_1, hcz10_2, hfz10_0, hfz10_1, hfz10_2⟩ := cA3 BK102) | ((with_reducible refine gate_dst (N := 7) rfl ?_); refine Kd.N_lit k45 _ 45 ?hg (N' := 7) ?hd (xs := ([(⟨a0_0, a0_1, l0_2⟩ : S45), (⟨a1_0, a1_1, l1_2⟩ : S45)] : List (S45))) (inner := [.int .i64 a0_0, .int .i64 a0_1, .slice A0_2 l0_2.length c0_2, .int .i64 a1_0, .int .i64 a1_1, .slice A1_2 l1_2.length c1_2]) (ok := (fun k_ => ((P0_2_ k_ ∨ P1_2_ k_) ∨ w.heap.size ≤ k_) ∧ k_ ≠ gb101 ∧ k_ ≠ gb102 ∧ k_ ≠ gb103)) (okp := (fun k_ => ((P0_2_ k_ ∨ P1_2_ k_) ∨ w.heap.size ≤ k_) ∧ k_ ≠ gb101 ∧ k_ ≠ gb102 ∧ k_ ≠ gb103)) ?hr ?hp (fun _ hk => hk) ((show ∀ k_, w5.heap.size ≤ k_ → (fun k_ => ((P0_2_ k_ ∨ P1_2_ k_) ∨ w.heap.size ≤ k_) ∧ k_ ≠ gb101 ∧ k_ ≠ gb102 ∧ k_ ≠ gb103) k_ from fun k_ hk => ⟨(.inr (Nat.le_trans (below_size (pH HB)) hk)), Kd.freshB BK101.out k_ hk, Kd.freshB BK102.out k_ hk, Kd.freshB BK103.out k_ hk⟩) _ (Nat.le_refl _)) (Below.refl _ _) (Nat.le_refl _) (by simp) ?_; (case hd => rfl); (case hg => rfl); (case hr => go_simp); (case hp => exact (Reps.c3 (show Kd.FK k45 _ _ (⟨a0_0, a0_1, l0_2⟩ : S45) [.int .i64 a0_0, .int .i64 a0_1, .slice A0_2 l0_2.length c0_2] from (k45_mkF _ _ (⟨a0_0, a0_1, l0_2⟩ : S45) (Kd.V_reads' (Kd.V_mono (ok' := (fun k_ => ((P0_2_ k_ ∨ P1_2_ k_) ∨ w.heap.size ≤ k_) ∧ k_ ≠ gb101 ∧ k_ ≠ gb102 ∧ k_ ≠ gb103)) (HO0_2.out) (fun k_ hk => ⟨hk.1.1.1, ⟨hk.1.1.2, ⟨hk.1.2, hk.2⟩⟩⟩))).2.1 (Kd.V_F (Kd.V_mono (ok' := (fun k_ => ((P0_2_ k_ ∨ P1_2_ k_) ∨ w.heap.size ≤ k_) ∧ k_ ≠ gb101 ∧ k_ ≠ gb102 ∧ k_ ≠ gb103)) (HO0_2.out) (fun k_ hk => ⟨hk.1.1.1, ⟨hk.1.1.2, ⟨hk.1.2, hk.2⟩⟩⟩))))) (Reps.c3 (show Kd.FK k45 _ _ (⟨a1_0, a1_1, l1_2⟩ : S45) [.int .i64 a1_0, .int .i64 a1_1, .slice A1_2 l1_2.length c1_2] from (k45_mkF _ _ (⟨a1_0, a1_1, l1_2⟩ : S45) (Kd.V_reads' (Kd.V_mono (ok' := (fun k_ => ((P0_2_ k_ ∨ P1_2_ k_) ∨ w.heap.size ≤ k_) ∧ k_ ≠ gb101 ∧ k_ ≠ gb102 ∧ k_ ≠ gb103)) (HO1_2.out) (fun k_ hk => ⟨hk.1.1.1, ⟨hk.1.1.2, ⟨hk.1.2, hk.2⟩⟩⟩))).2.1 (Kd.V_F (Kd.V_mono (ok' := (fun k_ => ((P0_2_ k_ ∨ P1_2_ k_) ∨ w.heap.size ≤ k_) ∧ k_ ≠ gb101 ∧ k_ ≠ gb102 ∧ k_ ≠ gb103)) (HO1_2.out) (fun k_ hk => ⟨hk.1.1.1, ⟨hk.1.1.2, ⟨hk.1.2, hk.2⟩⟩⟩))))) (Reps.none _ _)))); intro v105 w11 ho12 hb hg_ hnew_; clear hg_ hnew_; (first | rw [← Ny104.out] at ho12 | (simp only [Int.reduceToNat] at ho12; rw [← Ny104.out] at ho12)); have HO106 := aK (Kd.N_lower ho12 (below_size HB.out)); replace HO0_2 := qe HO0_2 (Kd.N_base ho12) hb; replace HO1_2 := qe HO1_2 (Kd.N_base ho12) hb; replace BK101 := qb BK101 hb; replace BK102 := qb BK102 hb; replace BK103 := qb BK103 hb; replace HB := qs HB hb; clear hb ho12; obtain ⟨Ao13, co13, eo13⟩ := Kd.N_slice HO106.out; subst eo13; obtain ⟨hcz14_0, hcz14_1, hcz14_2, hfz14_0, hfz14_1, hfz14_2⟩ := cA3 BK103))
 refine bodyPost_ret (results_cell_row rfl _ _ gb103 45 #[.int .i64 2, .int .i64 0, .slice Ao13 y104.length co13] (0, 0) _ rfl (p3 BK103) Tryd.underlying45 rfl (by kernel_rfl)) rfl ?_
 exact ⟨_, eW, by (with_reducible repeat (first | apply Kd.N_alloc | apply Kd.N_drewN | apply Kd.N_drew)); exact Kd.N_mono (nF3 gb103 (Kd.N_mono HO106.out (fun k_ hk => (⟨hk, hk.2.2.2⟩ : _ ∧ k_ ≠ gb103))) (fun _ hk => hk.2)) (fun _ hk => hk.1.1), pH HB⟩

end Go.Proofs.YthfkimbmepmelaaDoor.G

namespace Go.Proofs
open Go.Shelf
def Tryd.reverse91_ren : Go.Shelf.Ren := ⟨fun | 35 => 52 | n => n, fun | 22 => 43 | 23 => 45 | 3 => 3 | 4 => 4 | 0 => 0 | n => n, fun | n => n⟩
theorem Tryd.reverse91 : Go.Proofs.SlLaysE0.n35 Tryd.prog Tryd.reverse91_ren := {
 mixed := by kernel_rfl
 f35 := ⟨Tryd.f52.name, by decide, Tryd.func52.trans (congrArg some (by kernel_rfl))⟩
 t0 := Tryd.underlying0
 a0 := Tryd.isAgg0
 z0 := Tryd.sizeOf0
 v0 := Tryd.zeroValue0
 t3 := Tryd.underlying3
 a3 := Tryd.isAgg3
 z3 := Tryd.sizeOf3
 v3 := Tryd.zeroValue3
 t4 := Tryd.underlying4
 a4 := Tryd.isAgg4
 z4 := Tryd.sizeOf4
 v4 := Tryd.zeroValue4
 t22 := Tryd.underlying43
 a22 := Tryd.isAgg43
 z22 := Tryd.sizeOf43
 v22 := Tryd.zeroValue43 }
end Go.Proofs
namespace Go.Proofs.YthfkimbmepmelaaDoor.G
open Go.RowKit Go.Sort Go.Proofs.YthfkimbmepmelaaDoorW.PrintWords Go.Proofs.YthfkimbmepmelaaDoorW.PrintLast Go.Proofs.YthfkimbmepmelaaDoorW.PrintMore Go.Proofs.YthfkimbmepmelaaDoor.Short
set_option linter.unusedVariables false

namespace Rev91
abbrev C3 : Type := { l : List Value // l.length = 3 ∧ ∀ v ∈ l, v.oneCell' = true }
instance : Inhabited C3 := ⟨⟨[.bool false, .bool false, .bool false], rfl, by intro v hv; simp at hv; subst hv; rfl⟩⟩
def enc (x : C3) : List Value := x.1
theorem enc_len (x : C3) : (enc x).length = 3 := x.2.1
theorem enc_one (x : C3) : ∀ v ∈ enc x, v.oneCell' = true := x.2.2
abbrev RR : List Value → List Value → Prop := fun x cs => cs = x ∧ cs.length = 3 ∧ ∀ u ∈ cs, u.oneCell' = true

theorem lifted : ∀ (rows : List (List Value)), (∀ r ∈ rows, r.length = 3 ∧ ∀ v ∈ r, v.oneCell' = true) → ∃ d : List C3, d.map enc = rows
 | [], _ => ⟨[], rfl⟩
 | r :: rows, h => by
  obtain ⟨d, hd⟩ := lifted rows (fun r' hr' => h r' (List.mem_cons_of_mem _ hr'))
  exact ⟨⟨r, h r (List.mem_cons_self ..)⟩ :: d, by rw [List.map_cons, hd]; rfl⟩

theorem flat_get (d : List C3) (j t : Nat) (hj : j < d.length) (ht : t < 3) : (flatK enc 3 d.toArray).toList[j * 3 + t]? = (enc d[j])[t]? := by
 have hlt : j * 3 + t < d.length * 3 := by omega
 have hs : (flatK enc 3 d.toArray).size = d.length * 3 := by simp
 have h1 := get_flatK enc 3 d.toArray (j * 3 + t) (by simpa using hlt)
 rw [getElem!_pos _ _ (by rw [hs]; exact hlt)] at h1
 rw [Array.getElem?_toList, Array.getElem?_eq_getElem (by rw [hs]; exact hlt), h1]
 have e1 : (j * 3 + t) / 3 = j := by omega
 have e2 : (j * 3 + t) % 3 = t := by omega
 rw [e1, e2]
 have hl := enc_len d[j]
 have e3 : d.toArray[j]! = d[j] := by rw [getElem!_pos _ _ (by simpa using hj)]; simp
 rw [e3, getElem!_pos _ t (by omega), List.getElem?_eq_getElem (by omega)]

theorem chunk (d : List C3) (j : Nat) (hj : j < d.length) : ((flatK enc 3 d.toArray).toList.drop (j * 3)).take 3 = enc d[j] := by
 apply List.ext_getElem?
 intro t
 by_cases ht : t < 3
 ·rw [List.getElem?_take, if_pos ht, List.getElem?_drop, flat_get d j t hj ht]
 ·rw [List.getElem?_take, if_neg ht, List.getElem?_eq_none (by rw [enc_len]; omega)]

theorem reps_flat (d : List C3) : Reps RR 3 (d.map enc) (flatK enc 3 d.toArray).toList := by
 refine ⟨by simp, fun j p hj => ?_⟩
 obtain ⟨hlt, he⟩ := List.getElem?_eq_some_iff.1 hj
 have hlt' : j < d.length := by simpa using hlt
 rw [chunk d j hlt']
 rw [List.getElem_map] at he
 subst he
 exact ⟨rfl, enc_len _, enc_one _⟩

theorem inner_eq (d : List C3) (inner : List Value) (h : Reps RR 3 (d.map enc) inner) : inner = (flatK enc 3 d.toArray).toList := by
 apply List.ext_getElem?
 intro t
 have hl : inner.length = d.length * 3 := by rw [h.1]; simp
 by_cases ht : t < d.length * 3
 ·have hj : t / 3 < d.length := by omega
  have hm : t % 3 < 3 := by omega
  have e : t / 3 * 3 + t % 3 = t := by omega
  obtain ⟨hc, _, _⟩ := h.2 (t / 3) (enc d[t / 3]) (by rw [List.getElem?_map, List.getElem?_eq_getElem hj]; rfl)
  have h1 := flat_get d (t / 3) (t % 3) hj hm
  rw [e] at h1
  rw [h1, ← hc, List.getElem?_take, if_pos hm, List.getElem?_drop, e]
 ·rw [List.getElem?_eq_none (by omega), List.getElem?_eq_none (by simp; omega)]

theorem grown (W : World) (g n : Nat) (d : Array C3) : W.grownBy (putRowK enc 3 (Sort.ahead W n) g 0 d) (some g) where
 os := rfl
 tape := rfl
 output := rfl
 size := by
  show W.heap.size ≤ (W.heap.modify g _).size
  rw [Array.size_modify]; exact Nat.le_refl _
 block := fun k _ hne => by
  show (W.heap.modify g _)[k]? = _
  rw [Array.getElem?_modify, if_neg (fun h => hne (by rw [h]))]

theorem own_after (W : World) (base g n cap : Nat) (cur : Array Value) (d : List C3) (hh : W.heap[g]? = some (.cells cur 45 (0, 0))) (hb : base ≤ g) (hn : d.length ≤ cap) (hcap : cap ≤ maxLen) (hcur : cur.size = cap * 3) :
  (putRowK enc 3 (Sort.ahead W n) g 0 d.toArray).ownsRow base 45 3 (.slice (some ⟨g, 0, none⟩) d.length cap) d.length (flatK enc 3 d.toArray).toList := by
 refine ⟨by simp, .inr ⟨g, cap, putCells id 0 (flatK enc 3 d.toArray) cur, rfl, hb, ?_, hn, hcap, ?_, ?_⟩⟩
 ·show (W.heap.modify g _)[g]? = _
  rw [Array.getElem?_modify, if_pos rfl, hh]; rfl
 ·unfold putCells
  rw [Array.size_mapIdx, hcur]
 ·apply List.ext_getElem?
  intro t
  have hfs : (flatK enc 3 d.toArray).size = d.length * 3 := by simp
  by_cases ht : t < d.length * 3
  ·rw [List.getElem?_take, if_pos ht, Array.getElem?_toList, Array.getElem?_toList]
   unfold putCells
   rw [Array.getElem?_mapIdx, Array.getElem?_eq_getElem (by rw [hcur]; omega), Option.map_some, if_pos (by omega), Array.getElem?_eq_getElem (by omega), getElem!_pos _ _ (by omega)]
   simp
  ·rw [List.getElem?_take, if_neg ht, List.getElem?_eq_none (by rw [Array.length_toList]; omega)]
end Rev91

def impl_comb_52.f (l : List S45) : Option (List S45) := some l.reverse
set_option maxHeartbeats 1000000 in
theorem impl_comb_52.calls (base : Nat) (ok : Nat → Prop) (A : Option Addr) (c : Nat) (xs : List S45) (W : World) (h : Kd.N k45 45 W base ok (.slice A xs.length c) xs) (hl : xs.length ≤ 9223372036854775807) :
  Calls Tryd.prog 52 #[.slice A xs.length c] W fun e W' => e = .returned (.tuple #[]) ∧ Kd.N k45 45 W' base ok (.slice A xs.length c) xs.reverse ∧ W.grownBy W' (Value.slice A xs.length c).ownBlock := by
 obtain ⟨h0, rows, hlr, ⟨h1, inner, hown, hreps⟩, hf⟩ := h
 replace hreps : Reps Rev91.RR 3 rows inner := hreps
 rcases hown.2 with ⟨he, hn⟩ | ⟨g, cap, cur, he, hb, hh, hnc, hcap, hcur, htake⟩
 ·injection he with hA hlen hc
  subst hA hc
  have hx : xs = [] := List.eq_nil_of_length_eq_zero hlen
  subst hx
  obtain rfl : rows = [] := List.eq_nil_of_length_eq_zero hn
  refine (AnyQ.slices_Reverse_empty Tryd.reverse91 none 0 W).mono ?_
  rintro e w' ⟨rfl, rfl⟩
  exact ⟨rfl, ⟨h0, [], rfl, ⟨h1, inner, hown, hreps⟩, hf⟩, World.grownBy.refl _ _⟩
 ·injection he with hA hlen hc
  subst hA hc
  obtain ⟨d, hd⟩ := Rev91.lifted rows (fun r hr => by
   obtain ⟨j, hj⟩ := List.getElem?_of_mem hr
   obtain ⟨e, h2⟩ := hreps.2 j r hj
   rw [e] at h2
   exact h2)
  subst hd
  have hdl : d.length = xs.length := by rw [← hlr]; simp
  have hin := Rev91.inner_eq d inner hreps
  have hlen3 : (d.map Rev91.enc).length = d.length := by simp
  rw [hlen3] at hnc htake
  replace htake : cur.toList.take (d.length * 3) = inner := htake
  replace hcur : cur.size = c * 3 := hcur
  have hH : HoldsK Rev91.enc 3 W g 0 d.toArray := by
   intro j hj
   have hj' : j < d.length * 3 := by simpa using hj
   refine ⟨?_, blk_frozen hh _⟩
   have h3 : W.cell? ⟨g, 0 + j, none⟩ = cur[j]? := by rw [Nat.zero_add]; exact blk_cell hh j
   rw [h3]
   show cur[j]? = some (flatK Rev91.enc 3 d.toArray)[j]!
   rw [getElem!_pos (flatK Rev91.enc 3 d.toArray) j hj]
   have h2 : (cur.toList.take (d.length * 3))[j]? = (flatK Rev91.enc 3 d.toArray).toList[j]? := by rw [htake, hin]
   rw [List.getElem?_take, if_pos hj', Array.getElem?_toList, Array.getElem?_toList, Array.getElem?_eq_getElem hj] at h2
   exact h2
  have hcon := AnyQ.slices_Reverse Tryd.reverse91 3 Tryd.isAgg45 Tryd.sizeOf45 Rev91.enc Rev91.enc_len Rev91.enc_one g 0 c d.toArray W hH (by simpa using (by omega : d.length ≤ 9223372036854775807))
  have hsz : d.toArray.size = xs.length := by simpa using hdl
  rw [hsz] at hcon
  refine hcon.mono ?_
  rintro e w' ⟨rfl, n, rfl⟩
  have hrev : d.toArray.reverse = d.reverse.toArray := by simp
  rw [hrev]
  have hg := Rev91.grown W g n d.reverse.toArray
  have hoa := Rev91.own_after W base g n c cur d.reverse hh hb (by simpa using hnc) hcap hcur
  have hrl : d.reverse.length = xs.length := by simpa using hdl
  rw [hrl] at hoa
  refine ⟨rfl, ⟨h0, d.reverse.map Rev91.enc, by simp [hdl], ⟨h1, _, ?_, Rev91.reps_flat d.reverse⟩, fun j x cs hx hc => ?_⟩, hg⟩
  ·rw [show (d.reverse.map Rev91.enc).length = xs.length by simp [hdl]]; exact hoa
  ·obtain ⟨hjl, hje⟩ := List.getElem?_eq_some_iff.1 hx
   obtain ⟨hjl2, hje2⟩ := List.getElem?_eq_some_iff.1 hc
   have hjx : j < xs.length := by simpa using hjl
   have e1 : xs[xs.length - 1 - j]? = some x := by rw [← hje, List.getElem_reverse, List.getElem?_eq_getElem]
   have e2 : (d.map Rev91.enc)[xs.length - 1 - j]? = some cs := by
    rw [← hje2, List.getElem_map, List.getElem_reverse, List.getElem?_map, List.getElem?_eq_getElem (by omega)]
    simp [hdl]
   exact Kd.FK_step (hf _ x cs e1 e2) (fun k hk hlt => hg.block k hlt hk.2)
end Go.Proofs.YthfkimbmepmelaaDoor.G
