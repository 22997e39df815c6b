/- Part 1 of 6 of the proof that the law FnUnifiedCardSaid holds: for every input that can be read the call returns true and leaves its arguments as they were; no condition but those each theorem names. -/
import Derived.Test.YteffjlhljeodpaaGreatDoorProg
import Derived.Below
import Derived.Deep.Draws
import Derived.Deep.AppendLies
import Derived.Maps.AppendAt
import Derived.OwnWalk
import Derived.Laws.BytesArg
import Derived.Laws.MakeOwn
import Derived.Laws.OwnMore
import Derived.Deep.OwnRows
import Derived.Tactics
import Derived.Lib.ConvBytes
import Derived.Laws.Slices
import Derived.WalkKit
import Derived.KernelRfl
import Derived.RowKit3
import Derived.Deep.LoopGhost
import Derived.Deep.QuietTactic
import Derived.BigQuiet
import Derived.WideLaws
import Derived.Deep.DeepCutAuto
import Derived.Deep.CutBlock
import Derived.Deep.RegionHeld3
import Derived.Laws.Rows
import Derived.Lib.AppendStr
import Derived.ArgAppend
import Derived.Laws.IdiomCopy
import Derived.OrdersHeld
import Derived.Laws.BitsLemmas
import Derived.RowKit
import Derived.Ground.NamesProg
import Derived.Shelf.Lay
import Derived.Shelf.Strconv.ErrVarAll
import Derived.Shelf.Strconv.Itoa3
import Derived.Maps.OwnSet
import Derived.Maps.OwnOps
import Derived.Lib.ItoaNum
import Derived.Lib.AtoiAll
import Derived.Lib.IndexMore
import Derived.Lib.CutLaws
import Derived.Lib.Split
import Derived.Shelf.Small.Wraps
import Derived.Test.YteffjlhljeodpaaGreatDoorQUnifiedW1
namespace Go.Proofs.YteffjlhljeodpaaGreatDoor.Short
open Go.RowKit Go.Proofs.YteffjlhljeodpaaGreatDoorW.PrintWords
theorem rA {α : Type} {d : Kd α} {e : Nat} {w : World} {base : Nat} {ok : Nat → Prop} {v : Value} {xs : List α} (h : d.R e w base ok v xs) (o : Obj) : d.R e (w.alloc o) base ok v xs := Kd.R_alloc h o
theorem rN {α : Type} {d : Kd α} {e : Nat} {w : World} {base : Nat} {ok : Nat → Prop} {v : Value} {xs : List α} (h : d.R e w base ok v xs) (m : Nat) : d.R e (w.drewN m) base ok v xs := Kd.R_drewN h m
theorem rD {α : Type} {d : Kd α} {e : Nat} {w : World} {base : Nat} {ok : Nat → Prop} {v : Value} {xs : List α} (h : d.R e w base ok v xs) : d.R e w.drew base ok v xs := Kd.R_drew h
theorem aM {p : Prop} (h : p) : Aside0 p := Aside0.mk h
end Go.Proofs.YteffjlhljeodpaaGreatDoor.Short

namespace Go.Proofs.YteffjlhljeodpaaGreatDoor.G
open Go.RowKit Go.Proofs.YteffjlhljeodpaaGreatDoorW.PrintWords Go.Proofs.YteffjlhljeodpaaGreatDoorW.PrintLast Go.Proofs.YteffjlhljeodpaaGreatDoorW.PrintMore Go.Proofs.YteffjlhljeodpaaGreatDoor.Short
attribute [local go_sem] max2_int min2_int max_two min_two max_three min_three max_four min_four   -- for this text's walks alone
set_option linter.unusedVariables false
set_option linter.unusedSimpArgs false



def errW : Option Int → Value
  | none => .nilIface
  | some c => .iface 134 (.int .i64 c)
theorem errW_none : errW none = .nilIface := rfl
theorem errW_some (c : Int) : errW (some c) = .iface 134 (.int .i64 c) := rfl

theorem info3 : (Tryz.prog.info? 3).map (fun i => (i.zero, i.size, i.bytes)) = some (some (.int .i64 0), 1, 8) := by kernel_rfl
theorem info29 : (Tryz.prog.info? 29).map (fun i => (i.zero, i.size, i.bytes)) = some (some (.agg #[(.int .i64 0), (.string ⟨#[]⟩)]), 2, 24) := by kernel_rfl
theorem info55 : (Tryz.prog.info? 55).map (fun i => (i.zero, i.size, i.bytes)) = some (some (.agg #[(.int .i64 0), (.slice none 0 0)]), 2, 32) := by kernel_rfl
-- the values' own types
structure S55 where
  f0 : Int
  f1 : (List S55)
def z55 : S55 := ⟨(0 : Int), ([] : List S55)⟩
def F55 (d : Kd S55) : Kd S55 := Kd.iso (Kd.pair (Kd.int .i64) (Kd.slice 55 d)) (fun x : S55 => (x.f0, x.f1))
theorem mono55 : Kd.Mono F55 := Kd.mono_iso _ (Kd.mono_pair (Kd.mono_const _) (Kd.mono_slice 55 Kd.mono_id))
theorem sub55 : Kd.Sub F55 [55] := Kd.sub_iso _ (Kd.sub_pair (Kd.sub_const _ (by decide)) (Kd.sub_slice 55 (by decide) Kd.sub_id))
theorem sz55 : ∀ n, (Kd.upto F55 2 [55] n).sz = 2 := Kd.upto_sz (fun _ => rfl)
def k55 : Kd S55 := Kd.fix F55 2 [55] sz55 (Kd.upto_E sub55)
theorem k55_open {w : World} {x : S55} {cs : List Value} (h : k55.K w x cs) : ∃ A1 c1, cs = [.int .i64 x.f0, .slice A1 x.f1.length c1] ∧ x.f1.length ≤ c1 ∧ k55.C w A1 x.f1.length x.f1 := by
  obtain ⟨n, h⟩ := h
  cases n with
  | zero => exact h.elim
  | succ n =>
    obtain ⟨_, _, rfl, rfl, ⟨A1, c1, rfl, l1, g1⟩⟩ := h
    exact ⟨A1, c1, rfl, l1, Kd.fix_C g1⟩
theorem k55_mk (w : World) (x : S55) {A1 : Option Addr} {c1 : Nat} (l1 : x.f1.length ≤ c1) (g1 : k55.C w A1 x.f1.length x.f1) : k55.K w x [.int .i64 x.f0, .slice A1 x.f1.length c1] := by
  obtain ⟨n1, q1⟩ := Kd.fix_C_back mono55 g1
  have r1 := Kd.upto_C_le mono55 sz55 (show n1 ≤ n1 by omega) q1
  exact ⟨n1 + 1, ⟨[.int .i64 x.f0], [.slice A1 x.f1.length c1], rfl, rfl, ⟨A1, c1, rfl, l1, r1⟩⟩⟩
theorem k55_mkM (w : World) (base : Nat) (ok : Nat → Prop) (x : S55) {v1 : Value} (g1 : k55.R 55 w base ok v1 x.f1) : k55.M w base ok x [.int .i64 x.f0, v1] := by
  obtain ⟨n1, q1⟩ := Kd.fix_R_back mono55 g1
  have r1 := Kd.upto_R_le mono55 sz55 (show n1 ≤ n1 by omega) q1
  exact ⟨n1 + 1, ⟨[.int .i64 x.f0], [v1], rfl, rfl, ⟨v1, rfl, r1⟩⟩⟩
theorem k55_openF {W : World} {ok : Nat → Prop} {x : S55} {cs : List Value} (h : Kd.FK k55 W ok x cs) : ∃ A1 c1, cs = [.int .i64 x.f0, .slice A1 x.f1.length c1] ∧ x.f1.length ≤ c1 ∧ Kd.F k55 W ok A1 x.f1.length x.f1 := by
  obtain ⟨A1, c1, rfl, l1, _⟩ := k55_open (Kd.FK_now h)
  exact ⟨A1, c1, rfl, l1, (fun W' hW => by obtain ⟨A1_, c1_, he, l1_, g1_⟩ := k55_open (h W' hW); injection (Option.some.inj (show some (Value.slice A1 x.f1.length c1) = some (Value.slice A1_ x.f1.length c1_) from congrArg (fun l => l[1]?) he)) with ha_ _ _; rw [ha_]; exact g1_)⟩
theorem k55_mkF (W : World) (ok : Nat → Prop) (x : S55) {A1 : Option Addr} {c1 : Nat} (l1 : x.f1.length ≤ c1) (g1 : Kd.F k55 W ok A1 x.f1.length x.f1) : Kd.FK k55 W ok x [.int .i64 x.f0, .slice A1 x.f1.length c1] := fun W2 hW => k55_mk W2 x l1 (g1 W2 hW)
def rd_T55 (xs : List S55) (i : Int) : S55 := xs.getD i.toNat z55
theorem at_T55 {w : World} {A : Option Addr} {n : Nat} {xs : List S55} (h : Kd.C k55 w A n xs) (i : Int) (h0 : 0 ≤ i) (h1 : i < n) : ∃ ad A1 c1, A = some ad ∧ w.cell? (ad.add (i.toNat * 2)) = some (.int .i64 (rd_T55 xs i).f0) ∧ w.cell? ⟨(ad.add (i.toNat * 2)).block, (ad.add (i.toNat * 2)).off + 1, none⟩ = some (.slice A1 (rd_T55 xs i).f1.length c1) ∧ (rd_T55 xs i).f1.length ≤ c1 ∧ k55.C w A1 (rd_T55 xs i).f1.length (rd_T55 xs i).f1 := by
  obtain ⟨ad, c, e, _, hK, hc0⟩ := Kd.C_get h z55 i h0 h1
  have hc : ∀ j u, c[j]? = some u → w.cell? (ad.add (i.toNat * 2 + j)) = some u := hc0
  obtain ⟨A1, c1, rfl, l1, g1⟩ := k55_open hK
  exact ⟨ad, A1, c1, e, hc 0 _ rfl, by rw [← add_field _ _ 1 (by omega)]; exact hc 1 _ rfl, l1, g1⟩

structure S29 where
  f0 : Int
  f1 : ByteArray
def z29 : S29 := ⟨(0 : Int), (⟨#[]⟩ : ByteArray)⟩
def k29 : Kd S29 := Kd.iso (Kd.pair (Kd.int .i64) Kd.string) (fun x : S29 => (x.f0, x.f1))
theorem k29_open {w : World} {x : S29} {cs : List Value} (h : k29.K w x cs) : cs = [.int .i64 x.f0, .string x.f1] := by
  obtain ⟨_, _, rfl, rfl, rfl⟩ := h
  exact rfl
theorem k29_openM {w : World} {base : Nat} {ok : Nat → Prop} {x : S29} {cs : List Value} (h : k29.M w base ok x cs) : cs = [.int .i64 x.f0, .string x.f1] := by
  obtain ⟨_, _, rfl, rfl, rfl⟩ := h
  exact rfl
theorem k29_mkM (w : World) (base : Nat) (ok : Nat → Prop) (x : S29)  : k29.M w base ok x [.int .i64 x.f0, .string x.f1] := ⟨[.int .i64 x.f0], [.string x.f1], rfl, rfl, rfl⟩
def rd_T29 (xs : List S29) (i : Int) : S29 := xs.getD i.toNat z29
theorem at_T29 {w : World} {A : Option Addr} {n : Nat} {xs : List S29} (h : Kd.C k29 w A n xs) (i : Int) (h0 : 0 ≤ i) (h1 : i < n) : ∃ ad , A = some ad ∧ w.cell? (ad.add (i.toNat * 2)) = some (.int .i64 (rd_T29 xs i).f0) ∧ w.cell? ⟨(ad.add (i.toNat * 2)).block, (ad.add (i.toNat * 2)).off + 1, none⟩ = some (.string (rd_T29 xs i).f1) := by
  obtain ⟨ad, c, e, _, hK, hc0⟩ := Kd.C_get h z29 i h0 h1
  have hc : ∀ j u, c[j]? = some u → w.cell? (ad.add (i.toNat * 2 + j)) = some u := hc0
  obtain rfl := k29_open hK
  exact ⟨ad, e, hc 0 _ rfl, by rw [← add_field _ _ 1 (by omega)]; exact hc 1 _ rfl⟩

end Go.Proofs.YteffjlhljeodpaaGreatDoor.G

namespace Go.Proofs
open Go.Shelf
def Tryz.laysC172_ren : Go.Shelf.Ren := ⟨fun | 172 => 60 | 244 => 77 | 245 => 78 | 247 => 86 | 279 => 87 | 280 => 88 | 281 => 89 | 282 => 90 | 287 => 96 | 316 => 97 | 171 => 39 | 205 => 98 | 321 => 103 | 322 => 104 | 243 => 63 | 246 => 79 | 283 => 91 | 284 => 92 | 285 => 93 | 286 => 94 | 129 => 73 | 317 => 99 | 318 => 100 | 319 => 101 | 320 => 102 | 337 => 105 | 338 => 106 | n => n, fun | 9 => 9 | 3 => 3 | 75 => 107 | 76 => 108 | 4 => 4 | 5 => 5 | 167 => 134 | 37 => 22 | 0 => 0 | 85 => 135 | 2 => 2 | 168 => 137 | 53 => 38 | 175 => 146 | 46 => 90 | 210 => 150 | 127 => 157 | 145 => 160 | 143 => 158 | 21 => 21 | 171 => 140 | 173 => 142 | 212 => 153 | 51 => 121 | 20 => 20 | 213 => 154 | 232 => 161 | 233 => 162 | 80 => 41 | n => n, fun | 15 => 0 | 16 => 1 | 17 => 2 | 18 => 3 | 19 => 4 | n => n⟩
theorem Tryz.laysC172 : Go.Proofs.LaysC.n172 Tryz.prog Tryz.laysC172_ren := {
 mixed := by kernel_rfl
 f129 := Tryz.func73.trans (congrArg some (by kernel_rfl))
 f171 := Tryz.func39.trans (congrArg some (by kernel_rfl))
 f172 := Tryz.func60.trans (congrArg some (by kernel_rfl))
 f205 := Tryz.func98.trans (congrArg some (by kernel_rfl))
 f243 := Tryz.func63.trans (congrArg some (by kernel_rfl))
 f244 := Tryz.func77.trans (congrArg some (by kernel_rfl))
 f245 := Tryz.func78.trans (congrArg some (by kernel_rfl))
 f246 := Tryz.func79.trans (congrArg some (by kernel_rfl))
 f247 := Tryz.func86.trans (congrArg some (by kernel_rfl))
 f279 := Tryz.func87.trans (congrArg some (by kernel_rfl))
 f280 := Tryz.func88.trans (congrArg some (by kernel_rfl))
 f281 := Tryz.func89.trans (congrArg some (by kernel_rfl))
 f282 := Tryz.func90.trans (congrArg some (by kernel_rfl))
 f283 := Tryz.func91.trans (congrArg some (by kernel_rfl))
 f284 := Tryz.func92.trans (congrArg some (by kernel_rfl))
 f285 := Tryz.func93.trans (congrArg some (by kernel_rfl))
 f286 := Tryz.func94.trans (congrArg some (by kernel_rfl))
 f287 := Tryz.func96.trans (congrArg some (by kernel_rfl))
 f316 := Tryz.func97.trans (congrArg some (by kernel_rfl))
 f317 := Tryz.func99.trans (congrArg some (by kernel_rfl))
 f318 := Tryz.func100.trans (congrArg some (by kernel_rfl))
 f319 := Tryz.func101.trans (congrArg some (by kernel_rfl))
 f320 := Tryz.func102.trans (congrArg some (by kernel_rfl))
 f321 := Tryz.func103.trans (congrArg some (by kernel_rfl))
 f322 := Tryz.func104.trans (congrArg some (by kernel_rfl))
 f337 := Tryz.func105.trans (congrArg some (by kernel_rfl))
 f338 := Tryz.func106.trans (congrArg some (by kernel_rfl))
 t0 := Tryz.underlying0
 a0 := Tryz.isAgg0
 z0 := Tryz.sizeOf0
 v0 := Tryz.zeroValue0
 t2 := Tryz.underlying2
 a2 := Tryz.isAgg2
 z2 := Tryz.sizeOf2
 v2 := Tryz.zeroValue2
 t3 := Tryz.underlying3
 a3 := Tryz.isAgg3
 z3 := Tryz.sizeOf3
 v3 := Tryz.zeroValue3
 t4 := Tryz.underlying4
 a4 := Tryz.isAgg4
 z4 := Tryz.sizeOf4
 v4 := Tryz.zeroValue4
 t5 := Tryz.underlying5
 a5 := Tryz.isAgg5
 z5 := Tryz.sizeOf5
 v5 := Tryz.zeroValue5
 t9 := Tryz.underlying9
 a9 := Tryz.isAgg9
 z9 := Tryz.sizeOf9
 v9 := Tryz.zeroValue9
 t20 := Tryz.underlying20
 a20 := Tryz.isAgg20
 z20 := Tryz.sizeOf20
 v20 := Tryz.zeroValue20
 t21 := Tryz.underlying21
 a21 := Tryz.isAgg21
 z21 := Tryz.sizeOf21
 v21 := Tryz.zeroValue21
 t37 := Tryz.underlying22
 a37 := Tryz.isAgg22
 z37 := Tryz.sizeOf22
 v37 := Tryz.zeroValue22
 t46 := Tryz.underlying90
 a46 := Tryz.isAgg90
 z46 := Tryz.sizeOf90
 v46 := Tryz.zeroValue90
 t51 := Tryz.underlying121
 a51 := Tryz.isAgg121
 z51 := Tryz.sizeOf121
 v51 := Tryz.zeroValue121
 t53 := Tryz.underlying38
 a53 := Tryz.isAgg38
 z53 := Tryz.sizeOf38
 v53 := Tryz.zeroValue38
 t75 := Tryz.underlying107
 a75 := Tryz.isAgg107
 z75 := Tryz.sizeOf107
 v75 := Tryz.zeroValue107
 t76 := Tryz.underlying108
 a76 := Tryz.isAgg108
 z76 := Tryz.sizeOf108
 v76 := Tryz.zeroValue108
 t85 := Tryz.underlying135
 a85 := Tryz.isAgg135
 z85 := Tryz.sizeOf135
 v85 := Tryz.zeroValue135
 t127 := Tryz.underlying157
 a127 := Tryz.isAgg157
 z127 := Tryz.sizeOf157
 v127 := Tryz.zeroValue157
 t143 := Tryz.underlying158
 a143 := Tryz.isAgg158
 z143 := Tryz.sizeOf158
 v143 := Tryz.zeroValue158
 t145 := Tryz.underlying160
 a145 := Tryz.isAgg160
 z145 := Tryz.sizeOf160
 v145 := Tryz.zeroValue160
 t167 := Tryz.underlying134
 a167 := Tryz.isAgg134
 z167 := Tryz.sizeOf134
 v167 := Tryz.zeroValue134
 t168 := Tryz.underlying137
 a168 := Tryz.isAgg137
 z168 := Tryz.sizeOf137
 v168 := Tryz.zeroValue137
 t171 := Tryz.underlying140
 a171 := Tryz.isAgg140
 z171 := Tryz.sizeOf140
 v171 := Tryz.zeroValue140
 t173 := Tryz.underlying142
 a173 := Tryz.isAgg142
 z173 := Tryz.sizeOf142
 v173 := Tryz.zeroValue142
 t175 := Tryz.underlying146
 a175 := Tryz.isAgg146
 z175 := Tryz.sizeOf146
 v175 := Tryz.zeroValue146
 t210 := Tryz.underlying150
 a210 := Tryz.isAgg150
 z210 := Tryz.sizeOf150
 v210 := Tryz.zeroValue150
 t212 := Tryz.underlying153
 a212 := Tryz.isAgg153
 z212 := Tryz.sizeOf153
 v212 := Tryz.zeroValue153
 t213 := Tryz.underlying154
 a213 := Tryz.isAgg154
 z213 := Tryz.sizeOf154
 t232 := Tryz.underlying161
 a232 := Tryz.isAgg161
 z232 := Tryz.sizeOf161
 v232 := Tryz.zeroValue161
 t233 := Tryz.underlying162
 a233 := Tryz.isAgg162
 z233 := Tryz.sizeOf162
 v233 := Tryz.zeroValue162
 g15 := by kernel_rfl
 g16 := by kernel_rfl
 g17 := by kernel_rfl
 g18 := by kernel_rfl
 g19 := by kernel_rfl
 t80 := Tryz.underlying41
 a80 := Tryz.isAgg41
 z80 := Tryz.sizeOf41
 v80 := Tryz.zeroValue41
 i0 := by kernel_rfl
 i2 := by kernel_rfl
 i3 := by kernel_rfl
 i4 := by kernel_rfl
 i5 := by kernel_rfl
 i9 := by kernel_rfl
 i20 := by kernel_rfl
 i21 := by kernel_rfl
 i37 := by kernel_rfl
 i46 := by kernel_rfl
 i51 := by kernel_rfl
 i53 := by kernel_rfl
 i75 := by kernel_rfl
 i76 := by kernel_rfl
 i80 := by kernel_rfl
 i85 := by kernel_rfl
 i127 := by kernel_rfl
 i143 := by kernel_rfl
 i145 := by kernel_rfl
 i167 := by kernel_rfl
 i168 := by kernel_rfl
 i171 := by kernel_rfl
 i173 := by kernel_rfl
 i175 := by kernel_rfl
 i210 := by kernel_rfl
 i212 := by kernel_rfl
 i232 := by kernel_rfl
 i233 := by kernel_rfl
 m15 := by kernel_rfl
 m16 := by kernel_rfl
 m17 := by kernel_rfl
 m18 := by kernel_rfl
 m19 := by kernel_rfl
 c0 := by kernel_rfl
 c2 := by kernel_rfl
 c3 := by kernel_rfl
 c4 := by kernel_rfl
 c5 := by kernel_rfl
 c9 := by kernel_rfl
 c20 := by kernel_rfl
 c21 := by kernel_rfl
 c37 := by kernel_rfl
 c46 := by kernel_rfl
 c51 := by kernel_rfl
 c53 := by kernel_rfl
 c75 := by kernel_rfl
 c76 := by kernel_rfl
 c80 := by kernel_rfl
 c85 := by kernel_rfl
 c127 := by kernel_rfl
 c143 := by kernel_rfl
 c145 := by kernel_rfl
 c167 := by kernel_rfl
 c168 := by kernel_rfl
 c171 := by kernel_rfl
 c173 := by kernel_rfl
 c175 := by kernel_rfl
 c210 := by kernel_rfl
 c212 := by kernel_rfl
 c213 := by kernel_rfl
 c232 := by kernel_rfl
 c233 := by kernel_rfl }
end Go.Proofs
namespace Go.Proofs.YteffjlhljeodpaaGreatDoor.G
open Go.RowKit Go.Shelf Go.Proofs.YteffjlhljeodpaaGreatDoorW.PrintWords
set_option linter.unusedVariables false

theorem var_below {n : String} {cs : Array Value} {w w' : World} (h : w.var? Tryz.prog n = some cs) (hb : Below w.heap.size w w') : w'.var? Tryz.prog n = some cs := by
  rw [← h]
  unfold World.var?
  cases hg : Tryz.prog.globalNamed n with
  | none => rfl
  | some g =>
    have hlt : g < w.heap.size := by
      rcases Nat.lt_or_ge g w.heap.size with h' | h'
      · exact h'
      · exfalso
        unfold World.var? at h
        rw [hg] at h
        simp [Array.getElem?_eq_none h'] at h
    simp [hb.block g hlt]
structure LibMet (w : World) : Prop where
  wrong : ∃ tp p, w.var? Tryz.prog "strconv.ErrSyntax" = some #[.iface tp p]
  range : ∃ tp p, w.var? Tryz.prog "strconv.ErrRange" = some #[.iface tp p]
theorem LibMet.below {w w' : World} (h : LibMet w) (hb : Below w.heap.size w w') : LibMet w' where
  wrong := by obtain ⟨t, p, h⟩ := h.wrong; exact ⟨t, p, var_below h hb⟩
  range := by obtain ⟨t, p, h⟩ := h.range; exact ⟨t, p, var_below h hb⟩
end Go.Proofs.YteffjlhljeodpaaGreatDoor.G

namespace Go.Proofs
open Go.Shelf
def Tryz.laysM171_ren : Go.Shelf.Ren := ⟨fun | 171 => 39 | 243 => 63 | 246 => 79 | 283 => 91 | 284 => 92 | 285 => 93 | 286 => 94 | 129 => 73 | 317 => 99 | 318 => 100 | 319 => 101 | 320 => 102 | 337 => 105 | 338 => 106 | n => n, fun | 3 => 3 | 9 => 9 | 2 => 2 | 4 => 4 | 171 => 140 | 0 => 0 | 53 => 38 | 37 => 22 | 5 => 5 | 173 => 142 | 212 => 153 | 51 => 121 | 20 => 20 | 213 => 154 | 46 => 90 | 232 => 161 | 233 => 162 | n => n, fun | 17 => 2 | 18 => 3 | 19 => 4 | n => n⟩
theorem Tryz.laysM171 : Go.Proofs.LaysM.n171 Tryz.prog Tryz.laysM171_ren := {
 mixed := by kernel_rfl
 f129 := Tryz.func73.trans (congrArg some (by kernel_rfl))
 f171 := Tryz.func39.trans (congrArg some (by kernel_rfl))
 f243 := Tryz.func63.trans (congrArg some (by kernel_rfl))
 f246 := Tryz.func79.trans (congrArg some (by kernel_rfl))
 f283 := Tryz.func91.trans (congrArg some (by kernel_rfl))
 f284 := Tryz.func92.trans (congrArg some (by kernel_rfl))
 f285 := Tryz.func93.trans (congrArg some (by kernel_rfl))
 f286 := Tryz.func94.trans (congrArg some (by kernel_rfl))
 f317 := Tryz.func99.trans (congrArg some (by kernel_rfl))
 f318 := Tryz.func100.trans (congrArg some (by kernel_rfl))
 f319 := Tryz.func101.trans (congrArg some (by kernel_rfl))
 f320 := Tryz.func102.trans (congrArg some (by kernel_rfl))
 f337 := Tryz.func105.trans (congrArg some (by kernel_rfl))
 f338 := Tryz.func106.trans (congrArg some (by kernel_rfl))
 t0 := Tryz.underlying0
 a0 := Tryz.isAgg0
 z0 := Tryz.sizeOf0
 v0 := Tryz.zeroValue0
 t2 := Tryz.underlying2
 a2 := Tryz.isAgg2
 z2 := Tryz.sizeOf2
 v2 := Tryz.zeroValue2
 t3 := Tryz.underlying3
 a3 := Tryz.isAgg3
 z3 := Tryz.sizeOf3
 v3 := Tryz.zeroValue3
 t4 := Tryz.underlying4
 a4 := Tryz.isAgg4
 z4 := Tryz.sizeOf4
 v4 := Tryz.zeroValue4
 t5 := Tryz.underlying5
 a5 := Tryz.isAgg5
 z5 := Tryz.sizeOf5
 v5 := Tryz.zeroValue5
 t9 := Tryz.underlying9
 a9 := Tryz.isAgg9
 z9 := Tryz.sizeOf9
 v9 := Tryz.zeroValue9
 t20 := Tryz.underlying20
 a20 := Tryz.isAgg20
 z20 := Tryz.sizeOf20
 v20 := Tryz.zeroValue20
 t37 := Tryz.underlying22
 a37 := Tryz.isAgg22
 z37 := Tryz.sizeOf22
 v37 := Tryz.zeroValue22
 t46 := Tryz.underlying90
 a46 := Tryz.isAgg90
 z46 := Tryz.sizeOf90
 v46 := Tryz.zeroValue90
 t51 := Tryz.underlying121
 a51 := Tryz.isAgg121
 z51 := Tryz.sizeOf121
 v51 := Tryz.zeroValue121
 t53 := Tryz.underlying38
 a53 := Tryz.isAgg38
 z53 := Tryz.sizeOf38
 v53 := Tryz.zeroValue38
 t171 := Tryz.underlying140
 a171 := Tryz.isAgg140
 z171 := Tryz.sizeOf140
 v171 := Tryz.zeroValue140
 t173 := Tryz.underlying142
 a173 := Tryz.isAgg142
 z173 := Tryz.sizeOf142
 v173 := Tryz.zeroValue142
 t212 := Tryz.underlying153
 a212 := Tryz.isAgg153
 z212 := Tryz.sizeOf153
 v212 := Tryz.zeroValue153
 t213 := Tryz.underlying154
 a213 := Tryz.isAgg154
 z213 := Tryz.sizeOf154
 t232 := Tryz.underlying161
 a232 := Tryz.isAgg161
 z232 := Tryz.sizeOf161
 v232 := Tryz.zeroValue161
 t233 := Tryz.underlying162
 a233 := Tryz.isAgg162
 z233 := Tryz.sizeOf162
 v233 := Tryz.zeroValue162
 g17 := by kernel_rfl
 g18 := by kernel_rfl
 g19 := by kernel_rfl
 i0 := by kernel_rfl
 i2 := by kernel_rfl
 i3 := by kernel_rfl
 i4 := by kernel_rfl
 i5 := by kernel_rfl
 i9 := by kernel_rfl
 i20 := by kernel_rfl
 i37 := by kernel_rfl
 i46 := by kernel_rfl
 i51 := by kernel_rfl
 i53 := by kernel_rfl
 i171 := by kernel_rfl
 i173 := by kernel_rfl
 i212 := by kernel_rfl
 i232 := by kernel_rfl
 i233 := by kernel_rfl
 m17 := by kernel_rfl
 m18 := by kernel_rfl
 m19 := by kernel_rfl }
end Go.Proofs
namespace Go.Proofs.YteffjlhljeodpaaGreatDoor.G
open Go.RowKit Go.Shelf Go.Sort Go.Proofs.YteffjlhljeodpaaGreatDoorW.PrintWords
set_option linter.unusedVariables false

def Tab (w : World) : Prop := Lib.TabIs Tryz.prog w "internal/strconv.uint64pow10" .u64 Lib.pow10Tab
theorem Tab.below {w w' : World} (h : Tab w) (hb : Below w.heap.size w w') : Tab w' := by
  unfold Tab Lib.TabIs at *
  rw [← h]
  unfold World.var?
  cases hg : Tryz.prog.globalNamed "internal/strconv.uint64pow10" with
  | none => rfl
  | some g =>
    have hlt : g < w.heap.size := by
      rcases Nat.lt_or_ge g w.heap.size with h' | h'
      · exact h'
      · exfalso
        unfold World.var? at h
        rw [hg] at h
        simp [Array.getElem?_eq_none h'] at h
    simp [hb.block g hlt]
def strconv_Itoa_39.f (a0 : Int) : Option (ByteArray) := if 0 ≤ a0 ∧ a0 ≤ 9223372036854775807 then some ⟨(Lib.decDigits a0.toNat).toArray⟩ else none
theorem strconv_Itoa_39.calls (a0 : Int) (r : ByteArray) (w : World) (h : strconv_Itoa_39.f a0 = some r) (hT : Tab w) :
    Calls Tryz.prog 39 #[.int .i64 a0] w fun e w' => e = .returned (.string r) ∧ Below w.heap.size w w' := by
  unfold strconv_Itoa_39.f at h
  by_cases c : 0 ≤ a0 ∧ a0 ≤ 9223372036854775807
  case neg => rw [if_neg c] at h; cases h
  rw [if_pos c] at h
  obtain rfl := Option.some.inj h
  refine (Any.strconv_Itoa Tryz.laysM171 a0 (by omega) c.2 w hT).mono ?_
  rintro e w' ⟨rfl, k, os, rfl⟩
  refine ⟨?_, ?_⟩
  · obtain ⟨i, rfl⟩ : ∃ i : Nat, a0 = i := ⟨a0.toNat, by omega⟩
    rw [Lib.itoa_nonneg]; rfl
  · exact ⟨rfl, rfl, rfl, by simp [grow, World.drewN], fun b hb => by simp [grow, World.drewN, Array.getElem?_append_left hb]⟩
end Go.Proofs.YteffjlhljeodpaaGreatDoor.G

namespace Go.Proofs.YteffjlhljeodpaaGreatDoor.G
open Go.RowKit
structure Met (w : World) : Prop where
  tab : Tab w
  lib : LibMet w
theorem Met.below {w w' : World} (h : Met w) (hb : Below w.heap.size w w') : Met w' := ⟨h.tab.below hb, h.lib.below hb⟩
end Go.Proofs.YteffjlhljeodpaaGreatDoor.G

namespace Go.Proofs.YteffjlhljeodpaaGreatDoor.G
open Go.RowKit Go.Proofs.YteffjlhljeodpaaGreatDoorW.PrintWords Go.Proofs.YteffjlhljeodpaaGreatDoorW.PrintLast Go.Proofs.YteffjlhljeodpaaGreatDoorW.PrintMore Go.Proofs.YteffjlhljeodpaaGreatDoor.Short
section
variable {α : Type} {d : Kd α} {e base n c g a b : Nat} {ok : Nat → Prop} {W w1 w0 : World} {A : Option Addr} {u v : Value} {xs : List α} {o : Obj}
theorem qb (h : Aside0 (W.heap[g]? = some o)) (hb : Below W.heap.size W w1) : Aside0 (w1.heap[g]? = some o) := ⟨blk_below h.out hb⟩
theorem qv (h : Aside0 (Kd.V d e W base ok v xs)) (hg : a = W.heap.size) (hb : Below W.heap.size W w1) : Aside0 (Kd.V d e w1 base (fun k => ok k ∧ k ≠ a) v xs) := ⟨Kd.V_below (Kd.V_elderB h.out a (Nat.le_of_eq hg.symm)) hb⟩
theorem qn (h : Aside0 (Kd.N d e W base ok v xs)) (hg : a = W.heap.size) (hb : Below W.heap.size W w1) : Aside0 (Kd.N d e w1 base (fun k => ok k ∧ k ≠ a) v xs) := ⟨Kd.N_below (Kd.N_elderB h.out a (Nat.le_of_eq hg.symm)) hb⟩
theorem qe (h : Aside0 (Kd.V d e W base ok v xs)) (hbase : ∀ k, u.ownBlock = some k → W.heap.size ≤ k) (hb : Below W.heap.size W w1) : Aside0 (Kd.V d e w1 base (fun k => ok k ∧ some k ≠ u.ownBlock) v xs) := ⟨Kd.V_elder' h.out hbase hb⟩
theorem qs (h : Aside0 (Below w0.heap.size w0 W)) (hb : Below W.heap.size W w1) : Aside0 (Below w0.heap.size w0 w1) := ⟨below_step h.out hb⟩
theorem qw (h : Aside0 (Below w0.heap.size w0 W)) (hg : a = W.heap.size) : Aside0 (w0.heap.size ≤ a) := ⟨by rw [hg]; exact below_size h.out⟩
theorem ql (h : Aside0 (W.heap[g]? = some o)) (hg : a = W.heap.size) : Aside0 (g ≠ a) := ⟨by rw [hg]; exact Nat.ne_of_lt (blk_lt h.out)⟩
theorem qg (h : Aside0 (W.heap[g]? = some o)) (hg : a = W.heap.size) : Aside0 (a ≠ g) := ⟨by rw [hg]; exact Nat.ne_of_gt (blk_lt h.out)⟩
end
theorem aK {p : Prop} (h : p) : Aside0 p := ⟨h⟩
theorem zN {w : World} {g : Nat} {o : Obj} (h : w.heap[g]? = some o) (n : Nat) : (w.drewN n).heap[g]? = some o := blk_drewN h n
theorem zD {w : World} {g : Nat} {o : Obj} (h : w.heap[g]? = some o) : w.drew.heap[g]? = some o := blk_drew h
theorem zA {w : World} {g : Nat} {o : Obj} (h : w.heap[g]? = some o) (o' : Obj) : (w.alloc o').heap[g]? = some o := blk_alloc h o'
theorem pB {A B : Prop} (h : Aside0 A) (k : A → B := by intro h; (with_reducible repeat (first | refine bN ?_ _ | refine bD ?_ | refine bA ?_ _)); exact h) : B := k h.out
theorem pH {A B : Prop} (h : Aside0 A) (k : A → B := by intro h; repeat (first | (with_reducible first | exact h | apply below_alloc | apply pw_below_drewN | apply below_drew1 | refine below_set ?_ (Aside0.out (by assumption))) | exact h)) : B := k h.out
theorem sC {A B : Prop} (h : A) (k : A → B := by intro h; repeat (first | exact h | (with_reducible refine Kd.C_alloc ?_ _) | (with_reducible refine Kd.C_drewN ?_ _) | (with_reducible refine Kd.C_drew ?_))) : B := k h
theorem eW {B : Prop} (h : B := by first | rfl | (simp [errW_none, errW_some] <;> rfl) | (simp [*, errW_none, errW_some] <;> rfl)) : B := h
theorem tA {B : Prop} (h : B := by (try simp only [List.map_toArray, List.map_cons, List.map_nil]); first | done | rfl) : B := h
theorem dA {p : Prop} [Decidable p] (h : decide p = true := by first | (with_reducible assumption) | assumption) : p := of_decide_eq_true h
theorem rS {B : Prop} (h : B := by first | rfl | (simp; done) | (simp [*]; done)) : B := h
theorem nF {w : World} {p : Addr} {x : Value} {A b : Nat} (h : w.cell? p = some x) (l : Aside0 (w.heap.size ≤ b)) (e : p.block = A := by first | rfl | exact add_block _ _) : A ≠ b := e ▸ Nat.ne_of_lt (Nat.lt_of_lt_of_le (World.block_lt_of_cell? w _ h) l.out)
theorem cB {p : Addr} {A b : Nat} (h : A ≠ b) (e : p.block = A := by first | rfl | exact add_block _ _) : p.block ≠ b := e ▸ h
theorem kq20 {w : World} {g : Nat} {t : TypeId} {x y : Value} (h : Aside0 (w.heap[g]? = some (.cells #[x, y] t (0, 0)))) : w.cell? ⟨g, 0, none⟩ = some x := (blk_cell h.out 0).trans rfl
theorem kq21 {w : World} {g : Nat} {t : TypeId} {x y : Value} (h : Aside0 (w.heap[g]? = some (.cells #[x, y] t (0, 0)))) : w.cell? ⟨g, 1, none⟩ = some y := (blk_cell h.out 1).trans rfl
theorem fz {w : World} {g : Nat} {t : TypeId} {cs : Array Value} (h : Aside0 (w.heap[g]? = some (.cells cs t (0, 0)))) (i : Nat) : w.frozen? ⟨g, i, none⟩ = false := blk_frozen h.out i
theorem p3 {w : World} {g : Nat} {t : TypeId} {a b c x y z : Value} {B : Prop} (h : Aside0 (w.heap[g]? = some (.cells #[a, b, c] t (0, 0)))) (k : (((w.setCell ⟨g, 0, none⟩ x).setCell ⟨g, 1, none⟩ y).setCell ⟨g, 2, none⟩ z).heap[g]? = some (.cells #[x, y, z] t (0, 0)) → B := by intro h; (with_reducible repeat first | apply zN | apply zD | apply zA); exact h) : B := k (blk_put (blk_put (blk_put h.out 0 x rfl) 1 y rfl) 2 z rfl)
abbrev bs (a b : Nat) : Array Bool := (List.replicate a true ++ List.replicate b false).toArray
theorem sP : (∀ (a : Act) (d : Tmp) (v : Value), a.put (some d) v = { a with tmps := a.tmps.setIfInBounds d v }) ∧ (∀ (a : Act) (v : Value), a.put none v = a) ∧ (∀ (l : List Value) (i : Nat) (x : Value), l.toArray.setIfInBounds i x = (l.set i x).toArray) ∧ (∀ (x y : Value) (l : List Value), (x :: l).set 0 y = y :: l) ∧ (∀ (x y : Value) (l : List Value) (n : Nat), (x :: l).set (n + 1) y = x :: l.set n y) := ⟨fun _ _ _ => rfl, fun _ _ => rfl, fun _ _ _ => List.setIfInBounds_toArray .., fun _ _ _ => rfl, fun _ _ _ _ => rfl⟩
theorem uC {w w1 : World} {p : Addr} {v : Value} (b : Aside0 (Below w.heap.size w w1)) (h : w.cell? p = some v) : w1.cell? p = some v := (b.out.cell (World.block_lt_of_cell? w p h)).trans h
theorem bE {P : Program} {ops : Array Oper} {rest : List Oper} {o : Oper} {a : Act} {Q : Exit → Act → World → Prop} {W : World} {N : Tmp} {cs : Array Value} {t : TypeId}
    (h : ∀ g, g = W.heap.size → ∀ w1, w1.heap[g]? = some (.cells cs t (0, 0)) → Below W.heap.size W w1 → wpList P ops Q rest (a.put o.dst (.pointer (some ⟨g, 0, none⟩))) w1)
    (hd : o.dst = some N := by rfl) (hgd : o.guard = none := by rfl) (hrun : (execOp a.eval o).run P W = .ok (.value (.pointer (some ⟨W.heap.size, 0, none⟩))) (W.alloc (.cells cs t (0, 0))) := by go_simp) : wpList P ops Q (o :: rest) a W := box_event hgd hd hrun h
theorem aJ {p q : Prop} (hp : p) (hq : q) : p ∧ q := ⟨hp, hq⟩
theorem oB {α β : Type} {x : Option α} {f : α → Option β} {r : β} (h : x.bind f = some r) : ∃ a, Aside0 (x = some a) ∧ f a = some r := by
  obtain ⟨a, h1, h2⟩ := Option.bind_eq_some_iff.mp h
  exact ⟨a, ⟨h1⟩, h2⟩
section
variable {P : Program} {ops : Array Oper} {Q : Exit → Act → World → Prop} {md : Region.Mode} {S : World → Prop} {ds : List Nat}
theorem aO {T : Bool × List (List Nat × List Nat)} {l l' : Array Bool} {i : Nat} (hT : Aside0 (rtab md ops = T)) (h : anyT T l.toList l'.toList i = true := by kernel_rfl) : anyB md ops l l' i = true := any_of hT.out h
theorem pS {i : Nat} {N : Option Tmp} {oi : Oper} {v : Value} {fuel : Nat} {l : Array Bool} {a a' : Act} {w : World} (l' : Array Bool) (hc : anyB md ops l l' i = true) (h : wpAnyLast P md ops Q S ds fuel l' a' w)
    (hi : ops[i]? = some oi := by rfl) (hN : oi.dst = N := by rfl) (hy : Yields P ops oi v a := by exact Or.inl ⟨by rfl, by intro w'; go_simp; with_reducible rfl⟩) (hQ : ∀ c a w, Q (.panic c) (a.put oi.dst v) w → Q (.panic c) a w := by exact fun _ _ _ h => h) (ha : a.put N v = a' := by simp only [sP, i64_w, i32_w]; rfl) :
    wpAnyLast P md ops Q S ds (fuel + 1) l a w := pure_ l' hi hN hc hQ hy ha h
end
end Go.Proofs.YteffjlhljeodpaaGreatDoor.G

namespace Go.Proofs.YteffjlhljeodpaaGreatDoor.G
open Go.RowKit Go.Proofs.YteffjlhljeodpaaGreatDoorW.PrintWords Go.Proofs.YteffjlhljeodpaaGreatDoorW.PrintLast Go.Proofs.YteffjlhljeodpaaGreatDoorW.PrintMore Go.Proofs.YteffjlhljeodpaaGreatDoor.Short
attribute [local go_sem] max2_int min2_int max_two min_two max_three min_three max_four min_four   -- for this text's walks alone
set_option linter.unusedVariables false
set_option linter.unusedSimpArgs false

theorem eqA29 (d : Nat) (w : World) (x0 y0 : Int) (x1 y1 : ByteArray) :
    (Op.equalIn (d + 2) 29 (.agg #[.int .i64 x0, .string x1]) (.agg #[.int .i64 y0, .string y1])).run Tryz.prog w = .ok (x0 == y0 && (x1.toList == y1.toList)) w := by
  refine eqA_of Tryz.underlying29 (by kernel_rfl) ?_
  refine eqf_cons (by rfl) (by go_simp; rfl) (by go_simp; rfl) (by go_simp) ?_
  exact eqf_last (by rfl) (by go_simp; rfl) (by go_simp; rfl) (by go_simp)
end Go.Proofs.YteffjlhljeodpaaGreatDoor.G

namespace Go.Proofs.YteffjlhljeodpaaGreatDoor.G
open Go.RowKit Go.Proofs.YteffjlhljeodpaaGreatDoorW.PrintWords Go.Proofs.YteffjlhljeodpaaGreatDoorW.PrintLast Go.Proofs.YteffjlhljeodpaaGreatDoorW.PrintMore Go.Proofs.YteffjlhljeodpaaGreatDoor.Short
set_option linter.unusedVariables false
section
variable {α : Type} {d : Kd α} {e base g t : Nat} {ok ok' : Nat → Prop} {W W' : World} {v : Value} {xs : List α} {cells : Array Value}
theorem vY (h : Aside0 (Kd.V d e W base ok v xs)) (k : Kd.V d e W base ok v xs → Kd.V d e W' base ok v xs := by intro h; repeat (first | with_reducible exact h | with_reducible apply Kd.V_alloc | with_reducible apply Kd.V_drewN | with_reducible apply Kd.V_drew | refine Kd.V_far ?_ (by intro _; (try simp only [and_imp]); intros; assumption) _)) : Kd.V d e W' base ok v xs := k h.out
theorem vZ (h : Aside0 (Kd.V d e W base ok v xs)) (k : Kd.V d e W base ok v xs → Kd.V d e W' base ok v xs := by intro h; repeat (first | with_reducible exact h | with_reducible apply Kd.V_alloc | with_reducible apply Kd.V_drewN | with_reducible apply Kd.V_drew | refine Kd.V_far ?_ (by intro _; (try simp only [and_imp]); intros; assumption) _)) (m : ∀ k, ok k → ok' k := by intro _; (try simp only [and_imp]); intros; (repeat' apply And.intro) <;> first | assumption | trivial | (simp [Value.ownBlock]; done)) : Kd.V d e W' base ok' v xs := Kd.V_mono (k h.out) m
theorem nY (h : Aside0 (Kd.N d e W base ok v xs)) (k : Kd.N d e W base ok v xs → Kd.N d e W' base ok v xs := by intro h; repeat (first | with_reducible exact h | with_reducible apply Kd.N_alloc | with_reducible apply Kd.N_drewN | with_reducible apply Kd.N_drew | refine Kd.N_far ?_ (by intro _; (try simp only [and_imp]); intros; assumption) _)) : Kd.N d e W' base ok v xs := k h.out
theorem nZ (h : Aside0 (Kd.N d e W base ok v xs)) (k : Kd.N d e W base ok v xs → Kd.N d e W' base ok v xs := by intro h; repeat (first | with_reducible exact h | with_reducible apply Kd.N_alloc | with_reducible apply Kd.N_drewN | with_reducible apply Kd.N_drew | refine Kd.N_far ?_ (by intro _; (try simp only [and_imp]); intros; assumption) _)) (m : ∀ k, ok k → ok' k := by intro _; (try simp only [and_imp]); intros; (repeat' apply And.intro) <;> first | assumption | trivial | (simp [Value.ownBlock]; done)) : Kd.N d e W' base ok' v xs := Kd.N_mono (k h.out) m
theorem rX (h : Aside0 (Kd.R d e W base ok v xs)) (k : Kd.R d e W base ok v xs → Kd.R d e W' base ok v xs := by intro h; repeat (first | with_reducible exact h | with_reducible apply rA | with_reducible apply rN | with_reducible apply rD | refine Kd.R_far ?_ (by intro _; (try simp only [and_imp]); intros; assumption) _)) : Kd.R d e W' base ok v xs := k h.out
theorem rZ (h : Aside0 (Kd.R d e W base ok v xs)) (k : Kd.R d e W base ok v xs → Kd.R d e W' base ok v xs := by intro h; repeat (first | with_reducible exact h | with_reducible apply rA | with_reducible apply rN | with_reducible apply rD | refine Kd.R_far ?_ (by intro _; (try simp only [and_imp]); intros; assumption) _)) (m : ∀ k, ok k → ok' k := by intro _; (try simp only [and_imp]); intros; (repeat' apply And.intro) <;> first | assumption | trivial | (simp [Value.ownBlock]; done)) : Kd.R d e W' base ok' v xs := Kd.R_mono (k h.out) m
theorem rY (h : Aside0 (Kd.R d e W base ok v xs)) (hb : Aside0 (W.heap[g]? = some (.cells cells t (0, 0)))) (ht : ∀ q, q ∈ e :: d.E → q ≠ t := by decide) (k : Kd.R d e W base (fun k => ok k ∧ k ≠ g) v xs → Kd.R d e W' base (fun k => ok k ∧ k ≠ g) v xs := by intro h; repeat (first | with_reducible exact h | with_reducible apply rA | with_reducible apply rN | with_reducible apply rD | refine Kd.R_far ?_ (fun _ hk => hk.2) _)) : Kd.R d e W' base ok v xs := Kd.R_mono (k (Kd.R_types h.out hb.out ht)) (fun _ hk => hk.1)
theorem rW (h : Aside0 (Kd.R d e W base ok v xs)) (hb : Aside0 (W.heap[g]? = some (.cells cells t (0, 0)))) (ht : ∀ q, q ∈ e :: d.E → q ≠ t := by decide) (k : Kd.R d e W base (fun k => ok k ∧ k ≠ g) v xs → Kd.R d e W' base (fun k => ok k ∧ k ≠ g) v xs := by intro h; repeat (first | with_reducible exact h | with_reducible apply rA | with_reducible apply rN | with_reducible apply rD | refine Kd.R_far ?_ (fun _ hk => hk.2) _)) (m : ∀ k, ok k → ok' k := by intro _; (try simp only [and_imp]); intros; (repeat' apply And.intro) <;> first | assumption | trivial | (simp [Value.ownBlock]; done)) : Kd.R d e W' base ok' v xs := Kd.R_mono (k (Kd.R_types h.out hb.out ht)) (fun j hk => m j hk.1)
end
theorem bY {A B : Prop} (h : Aside0 A) (k : A → B := by intro h; (repeat first | with_reducible exact h | with_reducible apply zN | with_reducible apply zD | with_reducible apply zA | refine blk_far ?_ (Aside0.out (by assumption)) _)) : B := k h.out
theorem bP {A B : Prop} (h : Aside0 A) (k : A → B := by intro h; (repeat first | with_reducible exact h | with_reducible apply zN | with_reducible apply zD | with_reducible apply zA | apply blk_put); all_goals rfl) : B := k h.out
theorem kK {w W W' : World} {S : Nat → Prop} (h : Aside0 (Kept w W S)) (k : Kept w W S → Kept w W' S := by intro h; repeat (first | (with_reducible first | exact h | apply Kept.alloc | apply Kept.drewN | apply Kept.drew | refine Kept.setCell ?_ (.inr (Aside0.out (by assumption))) _) | exact h)) : Kept w W' S := k h.out
section
variable {α : Type} {d : Kd α} {e base g t : Nat} {ok ok' : Nat → Prop} {W W' : World} {v : Value} {xs : List α}
theorem vB (h : Aside0 (Kd.V d e W base ok v xs)) (hb : Below W.heap.size W W') : Aside0 (Kd.V d e W' base ok v xs) := ⟨Kd.V_below h.out hb⟩
theorem nB (h : Aside0 (Kd.N d e W base ok v xs)) (hb : Below W.heap.size W W') : Aside0 (Kd.N d e W' base ok v xs) := ⟨Kd.N_below h.out hb⟩
theorem rB (h : Aside0 (Kd.R d e W base ok v xs)) (hb : Below W.heap.size W W') : Aside0 (Kd.R d e W' base ok v xs) := ⟨Kd.R_below h.out hb⟩
theorem vD (h : Aside0 (Kd.V d e W base ok v xs)) : Aside0 (Kd.V d e W.drew base ok v xs) := ⟨Kd.V_drew h.out⟩
theorem nD (h : Aside0 (Kd.N d e W base ok v xs)) : Aside0 (Kd.N d e W.drew base ok v xs) := ⟨Kd.N_drew h.out⟩
theorem rE (h : Aside0 (Kd.R d e W base ok v xs)) : Aside0 (Kd.R d e W.drew base ok v xs) := ⟨Kd.R_drew h.out⟩
end
abbrev nS {α : Type} (k : Nat) (A : Option Addr) (l : List α) (c : Nat) : Prop := some k ≠ (Value.slice A l.length c).ownBlock
abbrev pU (p q r s : Nat → Prop) (w : World) (k : Nat) : Prop := (p k ∨ q k ∨ r k ∨ s k) ∨ w.heap.size ≤ k
theorem cA2 {w : World} {g : Nat} {t : TypeId} {x y : Value} (h : Aside0 (w.heap[g]? = some (.cells #[x, y] t (0, 0)))) : w.cell? ⟨g, 0, none⟩ = some x ∧ w.cell? ⟨g, 1, none⟩ = some y ∧ w.frozen? ⟨g, 0, none⟩ = false ∧ w.frozen? ⟨g, 1, none⟩ = false := ⟨kq20 h, kq21 h, fz h 0, fz h 1⟩
theorem bB {W W1 W2 : World} {g : Nat} {o : Obj} (h : Aside0 (W.heap[g]? = some o)) (hb : Below W1.heap.size W1 W2) (k : W.heap[g]? = some o → W1.heap[g]? = some o := by intro h; (repeat first | with_reducible exact h | with_reducible apply zN | with_reducible apply zD | with_reducible apply zA | refine blk_far ?_ (Aside0.out (by assumption)) _)) : Aside0 (W2.heap[g]? = some o) := ⟨blk_below (k h.out) hb⟩
theorem bG {W W1 W2 : World} {g : Nat} {o : Obj} {row : Option Nat} (h : Aside0 (W.heap[g]? = some o)) (hg : W1.grownBy W2 row) (hne : some g ≠ row) (k : W.heap[g]? = some o → W1.heap[g]? = some o := by intro h; (repeat first | with_reducible exact h | with_reducible apply zN | with_reducible apply zD | with_reducible apply zA | refine blk_far ?_ (Aside0.out (by assumption)) _)) : Aside0 (W2.heap[g]? = some o) := ⟨blk_grown (k h.out) hg hne⟩
theorem kB {w W W1 W2 : World} {S : Nat → Prop} (h : Aside0 (Kept w W S)) (hb : Below W1.heap.size W1 W2) (k : Kept w W S → Kept w W1 S := by intro h; repeat (first | (with_reducible first | exact h | apply Kept.alloc | apply Kept.drewN | apply Kept.drew | refine Kept.setCell ?_ (.inr (Aside0.out (by assumption))) _) | exact h)) : Aside0 (Kept w W2 S) := ⟨Kept.below (k h.out) hb⟩
theorem gW {w W W1 : World} {S : Nat → Prop} {a : Nat} (h : Aside0 (Kept w W S)) (hg : a = W1.heap.size) (k : Kept w W S → Kept w W1 S := by intro h; repeat (first | (with_reducible first | exact h | apply Kept.alloc | apply Kept.drewN | apply Kept.drew | refine Kept.setCell ?_ (.inr (Aside0.out (by assumption))) _) | exact h)) : Aside0 (w.heap.size ≤ a) := ⟨by rw [hg]; exact (k h.out).1⟩
section
variable {P : Program} {ops : Array Oper} {Q : Exit → Act → World → Prop} {md : Region.Mode} {S : World → Prop} {ds : List Nat}
theorem pQ {T : Bool × List (List Nat × List Nat)} (i n : Nat) (hT : Aside0 (rtab md ops = T)) {oi : Oper} {v : Value} {fuel : Nat} {l l' : Array Bool} {a a' : Act} {w : World} (h : wpAnyLast P md ops Q S ds fuel l' a' w)
    (hi : ops[i]? = some oi := by rfl) (hl : l.setIfInBounds i true = l' := by simp only [List.setIfInBounds_toArray, List.set_cons_zero, List.set_cons_succ]; rfl) (hk : anyT T l.toList l'.toList i = true := by kernel_rfl) (hN : oi.dst = some n := by rfl) (hy : Yields P ops oi v a := by exact Or.inl ⟨by rfl, by intro w'; go_simp; with_reducible rfl⟩)
    (hQ : ∀ c a w, Q (.panic c) (a.put oi.dst v) w → Q (.panic c) a w := by exact fun _ _ _ h => h) (ha : a.put (some n) v = a' := by simp only [sP, i64_w, i32_w]; rfl) : wpAnyLast P md ops Q S ds (fuel + 1) l a w := pure_ l' hi hN (any_of hT.out hk) hQ hy ha h
theorem tQ {T : Bool × List (List Nat × List Nat)} {B : List Nat} (i n : Nat) (hT : Aside0 (rtab md ops = T)) (hB : Aside0 (waitsOk T.2 B = true)) {w : World} (hS : S w) {oi : Oper} {v : Value} {fuel : Nat} {l l' : Array Bool} {a a' : Act} (h : wpAnyLast P md ops Q S ds fuel l' a' w)
    (hi : ops[i]? = some oi := by rfl) (hl : l.setIfInBounds i true = l' := by simp only [List.setIfInBounds_toArray, List.set_cons_zero, List.set_cons_succ]; rfl) (hk : takeW T B ds l.toList l'.toList i = true := by kernel_rfl) (hN : oi.dst = some n := by rfl) (hy : YieldsIf P ops S oi v a := by exact Or.inl ⟨by rfl, by intro w' hS_; go_simp; with_reducible rfl⟩)
    (hQ : ∀ c a w, Q (.panic c) (a.put oi.dst v) w → Q (.panic c) a w := by exact fun _ _ _ h => h) (ha : a.put (some n) v = a' := by simp only [sP, i64_w, i32_w]; rfl) : wpAnyLast P md ops Q S ds (fuel + 1) l a w := take_ l' hi hN (take_ofW hT.out hB.out hk) hQ hy hS ha h
theorem oQ {T : Bool × List (List Nat × List Nat)} (i n : Nat) (hT : Aside0 (rtab md ops = T)) {oi : Oper} {fuel : Nat} {l l' : Array Bool} {a : Act} {w : World}
    (h : ∀ K : Act → World → Prop, Shut (∀ a' w', S w' → (S w' → wpAnyLast P md ops Q S ds fuel l' a' w') → K a' w') → if Region.wanted oi (yielded ops a.tmps) = true then Oper.wp P oi a w K Q else K (a.put (some n) undef) w)
    (hi : ops[i]? = some oi := by rfl) (hl : l.setIfInBounds i true = l' := by simp only [List.setIfInBounds_toArray, List.set_cons_zero, List.set_cons_succ]; rfl) (hN : oi.dst = some n := by rfl) (hk : (readyT T.2 l.toList == [i] && l.toList.set i true == l'.toList) = true := by kernel_rfl) (hd : i ∉ ds := by decide) : wpAnyLast P md ops Q S ds (fuel + 1) l a w := one_ l' hi hN (one_of hT.out hk) hd h
theorem uQ {T : Bool × List (List Nat × List Nat)} (i n : Nat) (hT : Aside0 (rtab md ops = T)) {oi : Oper} {fuel : Nat} {l l' : Array Bool} {a a' : Act} {w : World} (h : wpAnyLast P md ops Q S ds fuel l' a' w)
    (hi : ops[i]? = some oi := by rfl) (hl : l.setIfInBounds i true = l' := by simp only [List.setIfInBounds_toArray, List.set_cons_zero, List.set_cons_succ]; rfl) (hk : anyT T l.toList l'.toList i = true := by kernel_rfl) (hN : oi.dst = some n := by rfl) (hy : Yields P ops oi undef a := by exact Or.inr ⟨by rfl, rfl⟩)
    (hQ : ∀ c a w, Q (.panic c) (a.put oi.dst undef) w → Q (.panic c) a w := by exact fun _ _ _ h => h) (ha : a.put (some n) undef = a' := by simp only [sP, i64_w, i32_w]; rfl) : wpAnyLast P md ops Q S ds (fuel + 1) l a w := pure_ l' hi hN (any_of hT.out hk) hQ hy ha h
theorem pR (i n : Nat) {oi : Oper} {v : Value} {fuel : Nat} {l l' : Array Bool} {a a' : Act} {w : World} (h : wpAnyLast P md ops Q S ds fuel l' a' w)
    (hi : ops[i]? = some oi := by rfl) (hl : l.setIfInBounds i true = l' := by simp only [List.setIfInBounds_toArray, List.set_cons_zero, List.set_cons_succ]; rfl) (hk : anyB md ops l l' i = true := by kernel_rfl) (hN : oi.dst = some n := by rfl) (hy : Yields P ops oi v a := by exact Or.inl ⟨by rfl, by intro w'; go_simp; with_reducible rfl⟩)
    (hQ : ∀ c a w, Q (.panic c) (a.put oi.dst v) w → Q (.panic c) a w := by exact fun _ _ _ h => h) (ha : a.put (some n) v = a' := by simp only [sP, i64_w, i32_w]; rfl) : wpAnyLast P md ops Q S ds (fuel + 1) l a w := pure_ l' hi hN hk hQ hy ha h
theorem tR (i n : Nat) {w : World} (hS : S w) {oi : Oper} {v : Value} {fuel : Nat} {l l' : Array Bool} {a a' : Act} (h : wpAnyLast P md ops Q S ds fuel l' a' w)
    (hi : ops[i]? = some oi := by rfl) (hl : l.setIfInBounds i true = l' := by simp only [List.setIfInBounds_toArray, List.set_cons_zero, List.set_cons_succ]; rfl) (hk : takeB md ops ds l l' i = true := by kernel_rfl) (hN : oi.dst = some n := by rfl) (hy : YieldsIf P ops S oi v a := by exact Or.inl ⟨by rfl, by intro w' hS_; go_simp; with_reducible rfl⟩)
    (hQ : ∀ c a w, Q (.panic c) (a.put oi.dst v) w → Q (.panic c) a w := by exact fun _ _ _ h => h) (ha : a.put (some n) v = a' := by simp only [sP, i64_w, i32_w]; rfl) : wpAnyLast P md ops Q S ds (fuel + 1) l a w := take_ l' hi hN hk hQ hy hS ha h
theorem oR (i n : Nat) {oi : Oper} {fuel : Nat} {l l' : Array Bool} {a : Act} {w : World}
    (h : ∀ K : Act → World → Prop, Shut (∀ a' w', S w' → (S w' → wpAnyLast P md ops Q S ds fuel l' a' w') → K a' w') → if Region.wanted oi (yielded ops a.tmps) = true then Oper.wp P oi a w K Q else K (a.put (some n) undef) w)
    (hi : ops[i]? = some oi := by rfl) (hl : l.setIfInBounds i true = l' := by simp only [List.setIfInBounds_toArray, List.set_cons_zero, List.set_cons_succ]; rfl) (hN : oi.dst = some n := by rfl) (hk : readyB md ops l l' i = true := by kernel_rfl) (hd : i ∉ ds := by decide) : wpAnyLast P md ops Q S ds (fuel + 1) l a w := one_ l' hi hN hk hd h
theorem nQ (n : Nat) {fuel : Nat} {l : Array Bool} {a a' : Act} {v : Value} {w : World} (h : wpAnyLast P md ops Q S ds fuel l a' w) (ha : Act.put a (some n) v = a' := by simp only [sP, i64_w, i32_w]; rfl) : wpAnyLast P md ops Q S ds fuel l (Act.put a (some n) v) w := norm_ ha h
end

inductive Ty where
  | v (n : Int)
  | a (l r : Ty)
def IsT (W : World) : Ty → Value → Prop
  | .v n, x => ∃ g, x = .pointer (some ⟨g, 0, none⟩) ∧ W.heap[g]? = some (.cells #[.int .i64 n, .slice none 0 0] 85 (0, 0))
  | .a l r, x => ∃ g p u1 u2, x = .pointer (some ⟨g, 0, none⟩) ∧ W.heap[g]? = some (.cells #[.int .i64 0, .slice (some ⟨p, 0, none⟩) 2 2] 85 (0, 0)) ∧ W.heap[p]? = some (.cells #[u1, u2] 44 (0, 0)) ∧ IsT W l u1 ∧ IsT W r u2
def Stay (W W1 : World) : Prop := ∀ (i : Nat) (cs : Array Value) (t : TypeId), W.heap[i]? = some (.cells cs t (0, 0)) → W1.heap[i]? = some (.cells cs t (0, 0))
theorem Stay.below {W W1 : World} (h : Below W.heap.size W W1) : Stay W W1 := fun i cs t hi => blk_below hi h
theorem Stay.trans {W W1 W2 : World} (h : Stay W W1) (k : Stay W1 W2) : Stay W W2 := fun i cs t hi => k i cs t (h i cs t hi)
theorem IsT.stay {W W1 : World} (h : Stay W W1) : ∀ {t : Ty} {x : Value}, IsT W t x → IsT W1 t x
  | .v n, x, ⟨g, e, hb⟩ => ⟨g, e, h _ _ _ hb⟩
  | .a l r, x, ⟨g, p, u1, u2, e, hb, hp, hl, hr⟩ => ⟨g, p, u1, u2, e, h _ _ _ hb, h _ _ _ hp, IsT.stay h hl, IsT.stay h hr⟩
theorem IsT.below {W W1 : World} {t : Ty} {x : Value} (h : IsT W t x) (hb : Below W.heap.size W W1) : IsT W1 t x := h.stay (Stay.below hb)
theorem IsT.drewN {W : World} {t : Ty} {x : Value} (h : IsT W t x) (m : Nat) : IsT (W.drewN m) t x := h.below (pw_below_drewN (Below.refl _ _) m)
theorem IsT.drew {W : World} {t : Ty} {x : Value} (h : IsT W t x) : IsT W.drew t x := h.below (below_drew1 (Below.refl _ _))
theorem IsT.ptr {W : World} {t : Ty} {x : Value} (h : IsT W t x) : ∃ g, x = .pointer (some ⟨g, 0, none⟩) := by
  cases t with
  | v n => obtain ⟨g, e, _⟩ := h; exact ⟨g, e⟩
  | a l r => obtain ⟨g, p, u1, u2, e, _⟩ := h; exact ⟨g, e⟩
def Ty.isVar : Ty → Bool
  | .v _ => true
  | .a _ _ => false
theorem IsT.cells {W : World} {t : Ty} {x : Value} (h : IsT W t x) : ∃ g n A c, x = .pointer (some ⟨g, 0, none⟩) ∧ W.cell? ⟨g, 0, none⟩ = some (.int .i64 n) ∧ W.cell? ⟨g, 1, none⟩ = some (.slice A (if t.isVar then 0 else 2) c) := by
  cases t with
  | v n => obtain ⟨g, e, hb⟩ := h; exact ⟨g, n, _, _, e, (blk_cell hb 0).trans rfl, (blk_cell hb 1).trans rfl⟩
  | a l r => obtain ⟨g, p, u1, u2, e, hb, _⟩ := h; exact ⟨g, 0, _, _, e, (blk_cell hb 0).trans rfl, (blk_cell hb 1).trans rfl⟩
theorem IsT.varc {W : World} {n : Int} {x : Value} (h : IsT W (.v n) x) : ∃ g, x = .pointer (some ⟨g, 0, none⟩) ∧ W.cell? ⟨g, 0, none⟩ = some (.int .i64 n) ∧ W.cell? ⟨g, 1, none⟩ = some (.slice none 0 0) := by
  obtain ⟨g, e, hb⟩ := h
  exact ⟨g, e, (blk_cell hb 0).trans rfl, (blk_cell hb 1).trans rfl⟩
theorem IsT.arrc {W : World} {l r : Ty} {x : Value} (h : IsT W (.a l r) x) : ∃ g p u1 u2, x = .pointer (some ⟨g, 0, none⟩) ∧ W.cell? ⟨g, 1, none⟩ = some (.slice (some ⟨p, 0, none⟩) 2 2) ∧ W.cell? ⟨p, 0, none⟩ = some u1 ∧ W.cell? ⟨p, 1, none⟩ = some u2 ∧ IsT W l u1 ∧ IsT W r u2 := by
  obtain ⟨g, p, u1, u2, e, hb, hp, hl, hr⟩ := h
  exact ⟨g, p, u1, u2, e, (blk_cell hb 1).trans rfl, (blk_cell hp 0).trans rfl, (blk_cell hp 1).trans rfl, hl, hr⟩
end Go.Proofs.YteffjlhljeodpaaGreatDoor.G

namespace Go.Proofs.YteffjlhljeodpaaGreatDoor.G
open Go.RowKit Go.Proofs.YteffjlhljeodpaaGreatDoorW.PrintWords Go.Proofs.YteffjlhljeodpaaGreatDoorW.PrintLast Go.Proofs.YteffjlhljeodpaaGreatDoorW.PrintMore Go.Proofs.YteffjlhljeodpaaGreatDoor.Short
set_option linter.unusedVariables false
set_option linter.unusedSimpArgs false

theorem impl_typeVar.calls (n : Int) (w : World) : Calls Tryz.prog 61 #[.int .i64 n] w fun e w' => ∃ x, e = .returned x ∧ IsT w' (.v n) x ∧ Below w.heap.size w w' := by
 have hu85 := Tryz.underlying85
 go_enter Tryz.func61, Tryz.ntmps61
 go_wp2
 go_ret
 exact ⟨_, rfl, ⟨w.heap.size, rfl, heap_alloc_new w _⟩, below_alloc (Below.refl _ _) _⟩
theorem impl_arrow.made (p1 p2 : Option Addr) (w : World) : Calls Tryz.prog 50 #[.pointer p1, .pointer p2] w fun e w' => ∃ g p, e = .returned (.pointer (some ⟨g, 0, none⟩)) ∧ w'.heap[g]? = some (.cells #[.int .i64 0, .slice (some ⟨p, 0, none⟩) 2 2] 85 (0, 0)) ∧ w'.heap[p]? = some (.cells #[.pointer p1, .pointer p2] 44 (0, 0)) ∧ Below w.heap.size w w' := by
 have hu85 := Tryz.underlying85
 have hu83 := Tryz.underlying83
 go_enter Tryz.func50, Tryz.ntmps50
 go_wp2
 go_ret
 have h1 := heap_alloc_new w (.cells #[.pointer p1, .pointer p2] 44 (0, 0))
 have h2 := heap_alloc_new (w.alloc (.cells #[.pointer p1, .pointer p2] 44 (0, 0))) (.cells #[.int .i64 0, .slice (some ⟨w.heap.size, 0, none⟩) 2 2] 85 (0, 0))
 rw [show (w.alloc (.cells #[.pointer p1, .pointer p2] 44 (0, 0))).heap.size = w.heap.size + 1 by simp] at h2
 exact ⟨w.heap.size + 1, w.heap.size, rfl, h2, blk_alloc h1 _, below_alloc (below_alloc (Below.refl _ _) _) _⟩
theorem impl_arrow.calls {l r : Ty} {u1 u2 : Value} (w : World) (hl : IsT w l u1) (hr : IsT w r u2) : Calls Tryz.prog 50 #[u1, u2] w fun e w' => ∃ x, e = .returned x ∧ IsT w' (.a l r) x ∧ Below w.heap.size w w' := by
 obtain ⟨g1, rfl⟩ := hl.ptr
 obtain ⟨g2, rfl⟩ := hr.ptr
 refine (impl_arrow.made _ _ w).mono ?_
 rintro _ w1 ⟨g, p, rfl, hg, hp, hb⟩
 exact ⟨_, rfl, ⟨g, p, _, _, rfl, hg, hp, hl.below hb, hr.below hb⟩, hb⟩
theorem impl_typ_isVar.calls {t : Ty} {x : Value} (w : World) (h : IsT w t x) : Calls Tryz.prog 35 #[x] w fun e w' => e = .returned (.bool t.isVar) ∧ Below w.heap.size w w' := by
 have hu85 := Tryz.underlying85
 cases t with
 | v m =>
  obtain ⟨g, rfl, h0, h1⟩ := h.varc
  clear h
  go_enter Tryz.func35, Tryz.ntmps35
  go_wp2
  go_ret
  exact ⟨rfl, Below.refl _ _⟩
 | a l r =>
  obtain ⟨g, p, u1, u2, rfl, h1, h2, h3, hl, hr⟩ := h.arrc
  clear h h2 h3 hl hr
  go_enter Tryz.func35, Tryz.ntmps35
  go_wp2
  go_ret
  exact ⟨rfl, Below.refl _ _⟩

def Ty.text : Ty → ByteArray
 | .v n => (⟨#[116]⟩ : ByteArray) ++ ⟨(Lib.decDigits n.toNat).toArray⟩
 | .a l r => ((((⟨#[40]⟩ : ByteArray) ++ l.text) ++ (⟨#[62]⟩ : ByteArray)) ++ r.text) ++ (⟨#[41]⟩ : ByteArray)
def Ty.ok : Ty → Prop
 | .v n => 0 ≤ n ∧ n ≤ 9223372036854775807
 | .a l r => l.ok ∧ r.ok
def impl_typ_text.T3 : Bool × List (List Nat × List Nat) := (true, [([], []), ([0], [0]), ([1], [1]), ([2], [2]), ([3], [3]), ([4], [4]), ([5], [5]), ([6], [6]), ([7], [7]), ([], []), ([9], [9]), ([10], [10]), ([11], [11]), ([12], [12]), ([13], [13]), ([14, 6], [14]), ([8, 15], [8, 15]), ([16], [16]), ([17, 15, 0, 1, 2, 3, 4, 5, 6, 7, 8, 9, 10, 11, 12, 13, 14, 15, 16, 17], [17])])
def impl_typ_text.B3 : List Nat := [0, 1, 3, 7, 15, 31, 63, 127, 255, 0, 512, 1536, 3584, 7680, 15872, 32383, 65535, 131071, 262143]
theorem impl_typ_text.tab3 : rtab .any (opsOf Tryz.f16 3) = impl_typ_text.T3 := by kernel_rfl
theorem impl_typ_text.bits3 : waitsOk impl_typ_text.T3.2 impl_typ_text.B3 = true := by kernel_rfl
set_option maxHeartbeats 8000000 in
set_option maxRecDepth 100000 in
theorem impl_typ_text.calls : ∀ (t : Ty) (x : Value) (w : World) (h : IsT w t x) (ho : t.ok) (hs : t.text.size ≤ 4611686018427387904) (hT : Tab w), Calls Tryz.prog 16 #[x] w fun e w' => e = .returned (.string t.text) ∧ Below w.heap.size w w'
 | .v n, x, w, h, ho, hs, hT => by
  have HT := aK hT
  have HO : Aside0 (0 ≤ n ∧ n ≤ 9223372036854775807) := ⟨ho⟩
  obtain ⟨g, rfl, h0, h1⟩ := h.varc
  have HX := aK h
  obtain ⟨d, hd⟩ : ∃ d : ByteArray, d = ⟨(Lib.decDigits n.toNat).toArray⟩ := ⟨_, rfl⟩
  have ht : Ty.text (.v n) = (⟨#[116]⟩ : ByteArray) ++ d := by rw [hd]; rfl
  have hz : (9223372036854775807 < 1 + d.size) = False := eq_false (by have : (Ty.text (.v n)).size = 1 + d.size := by { rw [ht, ByteArray.size_append]; rfl }; omega)
  rw [ht]
  have HD := aK hd
  clear hd ht
  clear hT ho h hs
  go_enter Tryz.func16, Tryz.ntmps16
  go_wp2_with (first
   | ((with_reducible refine gate_callee (f := 35) rfl ?_); refine goesL_ (some 4) rfl rfl Tryz.func35 (by kernel_rfl) rfl #[.pointer (some ⟨g, 0, none⟩)] rfl tA ?_; (with_reducible refine (impl_typ_isVar.calls (t := .v n) _ ?s1).mono ?_); (case s1 => exact HX.out); rintro _ w1 ⟨rfl, hb⟩; refine ⟨_, rfl, ?_⟩; have HB := aK hb; have k0 := (hb.cell (World.block_lt_of_cell? _ _ h0)).trans h0; clear hb h0 h1)
   | ((with_reducible refine gate_callee (f := 39) rfl ?_); refine goesL_ (some 9) rfl rfl Tryz.func39 (by kernel_rfl) rfl #[.int .i64 n] rfl tA ?_; (with_reducible refine (strconv_Itoa_39.calls n d _ ?s1 ?s2).mono ?_); (case s1 => rw [HD.out]; exact if_pos HO.out); (case s2 => exact HT.out.below HB.out); rintro _ w2 ⟨rfl, hb⟩; refine ⟨_, rfl, ?_⟩; have HB2 := aK (below_step HB.out hb); clear hb k0))
  go_ret
  exact ⟨rfl, HB2.out⟩
 | .a l r, x, w, h, ho, hs, hT => by
  have HT := aK hT
  have HX := aK h
  obtain ⟨g, p, u1, u2, rfl, h1, h2, h3, hl, hr⟩ := h.arrc
  have HL := aK hl
  have HR := aK hr
  obtain ⟨g1, rfl⟩ := hl.ptr
  obtain ⟨g2, rfl⟩ := hr.ptr
  have OL : Aside0 l.ok := ⟨ho.1⟩
  have OR : Aside0 r.ok := ⟨ho.2⟩
  have hz : (Ty.text (.a l r)).size = 1 + l.text.size + 1 + r.text.size + 1 := by
   show (((((⟨#[40]⟩ : ByteArray) ++ l.text) ++ (⟨#[62]⟩ : ByteArray)) ++ r.text) ++ (⟨#[41]⟩ : ByteArray)).size = _
   rw [ByteArray.size_append, ByteArray.size_append, ByteArray.size_append, ByteArray.size_append]; rfl
  have SL : Aside0 (l.text.size ≤ 4611686018427387904 ∧ r.text.size ≤ 4611686018427387904) := ⟨by omega⟩
  have z1 : (9223372036854775807 < 1 + l.text.size) = False := eq_false (by omega)
  have z2 : (9223372036854775807 < 1 + l.text.size + 1) = False := eq_false (by omega)
  have z3 : (9223372036854775807 < 1 + l.text.size + 1 + r.text.size) = False := eq_false (by omega)
  have z4 : (9223372036854775807 < 1 + l.text.size + 1 + r.text.size + 1) = False := eq_false (by omega)
  clear hT ho h hs hz hl hr
  go_enter Tryz.func16, Tryz.ntmps16
  go_upto_region 3 with (first
   | ((with_reducible refine gate_callee (f := 35) rfl ?_); refine goesL_ (some 4) rfl rfl Tryz.func35 (by kernel_rfl) rfl #[.pointer (some ⟨g, 0, none⟩)] rfl tA ?_; (with_reducible refine (impl_typ_isVar.calls (t := .a l r) _ ?s1).mono ?_); (case s1 => exact HX.out); rintro _ w1 ⟨rfl, hb⟩; refine ⟨_, rfl, ?_⟩; have HB := aK hb; have k1 := (hb.cell (World.block_lt_of_cell? _ _ h1)).trans h1; have k2 := (hb.cell (World.block_lt_of_cell? _ _ h2)).trans h2; have k3 := (hb.cell (World.block_lt_of_cell? _ _ h3)).trans h3; clear hb h1 h2 h3))
  refine start_ (n := 19) (S := fun w' => w'.cell? ⟨g, 1, none⟩ = some (.slice (some ⟨p, 0, none⟩) 2 2) ∧ w'.cell? ⟨p, 0, none⟩ = some (.pointer (some ⟨g1, 0, none⟩)) ∧ w'.cell? ⟨p, 1, none⟩ = some (.pointer (some ⟨g2, 0, none⟩))) (ds := []) (bs 0 19) (by kernel_rfl) rfl rfl ⟨k1, k2, k3⟩ (fun hHeld => ?_); refine with_tabW impl_typ_text.tab3 impl_typ_text.bits3 (fun HT_ HW_ => ?_)
  have n0_ := aK (below_drew1 HB.out)
  clear HB k1 k2 k3
  have HB := n0_
  clear n0_
  generalize w1.drew = w2 at HB hHeld ⊢
  refine pQ 0 11 HT_ ?_
  refine pQ 1 12 HT_ ?_
  refine pQ 2 13 HT_ ?_
  refine pQ 9 20 HT_ ?_
  refine pQ 10 21 HT_ ?_
  refine pQ 11 22 HT_ ?_
  refine tQ 3 14 HT_ HW_ hHeld ?_
  refine tQ 12 23 HT_ HW_ hHeld ?_
  refine pQ 4 15 HT_ ?_
  refine pQ 13 24 HT_ ?_
  refine tQ 5 16 HT_ HW_ hHeld ?_
  refine tQ 14 25 HT_ HW_ hHeld ?_
  refine oQ 6 17 HT_ (fun K hK => ?_)
  refine goes_ Tryz.func16 (by kernel_rfl) rfl #[.pointer (some ⟨g1, 0, none⟩)] (by rfl) rfl rfl tA ?_
  refine (impl_typ_text.calls l _ _ (HL.out.below HB.out) OL.out SL.out.1 (HT.out.below HB.out)).mono ?_
  rintro _ w3 ⟨rfl, hb⟩
  refine ⟨_, rfl, ?_⟩
  have HB3 := aK (below_step HB.out hb)
  refine hK.out _ _ ⟨(hb.cell (World.block_lt_of_cell? _ _ hHeld.1)).trans hHeld.1, (hb.cell (World.block_lt_of_cell? _ _ hHeld.2.1)).trans hHeld.2.1, (hb.cell (World.block_lt_of_cell? _ _ hHeld.2.2)).trans hHeld.2.2⟩ (fun hHeld => ?_)
  clear hb
  clear hK K
  refine nQ 17 ?_
  refine pQ 7 18 HT_ ?_
  refine pQ 8 19 HT_ ?_
  refine oQ 15 26 HT_ (fun K hK => ?_)
  refine goes_ Tryz.func16 (by kernel_rfl) rfl #[.pointer (some ⟨g2, 0, none⟩)] (by rfl) rfl rfl tA ?_
  refine (impl_typ_text.calls r _ _ (HR.out.below HB3.out) OR.out SL.out.2 (HT.out.below HB3.out)).mono ?_
  rintro _ w4 ⟨rfl, hb⟩
  refine ⟨_, rfl, ?_⟩
  have HB4 := aK (below_step HB3.out hb)
  refine hK.out _ _ ⟨(hb.cell (World.block_lt_of_cell? _ _ hHeld.1)).trans hHeld.1, (hb.cell (World.block_lt_of_cell? _ _ hHeld.2.1)).trans hHeld.2.1, (hb.cell (World.block_lt_of_cell? _ _ hHeld.2.2)).trans hHeld.2.2⟩ (fun hHeld => ?_)
  clear hb
  clear hK K
  refine nQ 26 ?_
  refine pQ 16 27 HT_ ?_
  refine pQ 17 28 HT_ ?_
  refine pQ 18 2 HT_ ?_
  refine done_ (done_of HT_.out (by kernel_rfl)) ?_
  go_wp2
  go_ret
  exact ⟨rfl, HB4.out⟩
end Go.Proofs.YteffjlhljeodpaaGreatDoor.G

namespace Go.Proofs.YteffjlhljeodpaaGreatDoor.G
open Go.RowKit Go.Proofs.YteffjlhljeodpaaGreatDoorW.PrintWords Go.Proofs.YteffjlhljeodpaaGreatDoorW.PrintLast Go.Proofs.YteffjlhljeodpaaGreatDoorW.PrintMore Go.Proofs.YteffjlhljeodpaaGreatDoor.Short
set_option linter.unusedVariables false

def ptrR : Value → Option (DataW Unit × List MemPlace)
  | .pointer (some ⟨g, 0, none⟩) => some (.lit (.int .i64 (g : Int)), [])
  | .pointer none => some (.lit (.int .i64 (-1)), [])
  | _ => none
abbrev nilD : DataW Unit := .lit (.int .i64 (-1))
theorem ptrR_inv {v : Value} {g : Nat} {ps : List MemPlace} (h : ptrR v = some (.lit (.int .i64 (g : Int)), ps)) : v = .pointer (some ⟨g, 0, none⟩) := by
  unfold ptrR at h
  split at h
  · rename_i g'
    simp only [Option.some.injEq, Prod.mk.injEq, DataW.lit.injEq, Lit.int.injEq, true_and] at h
    have : g' = g := by omega
    rw [this]
  · simp only [Option.some.injEq, Prod.mk.injEq, DataW.lit.injEq, Lit.int.injEq, true_and] at h
    omega
  · cases h
def i64ok (k : Int) : Prop := -9223372036854775808 ≤ k ∧ k ≤ 9223372036854775807
theorem wf_of {k : Int} (h : i64ok k) : (Lit.int .i64 k).wf = true := by
  show (decide (IntKind.i64.min ≤ k) && decide (k ≤ IntKind.i64.max)) = true
  have h1 : IntKind.i64.min = -9223372036854775808 := by decide
  have h2 : IntKind.i64.max = 9223372036854775807 := by decide
  unfold i64ok at h
  rw [h1, h2, decide_eq_true h.1, decide_eq_true h.2]; rfl
def IsM (W : World) (b n : Nat) (M : Int → Option Ty) : Prop :=
  ∃ D, W.ownsMap Tryz.prog 3 ptrR b n D ∧ Go.Maps.IsMap D ∧ ∀ k, i64ok k → (M k = none ∧ Go.Maps.has D (.int .i64 k) = false) ∨
    (∃ t g, M k = some t ∧ Go.Maps.has D (.int .i64 k) = true ∧ D.atKey (.int .i64 k) nilD = .lit (.int .i64 ((g : Nat) : Int)) ∧ IsT W t (.pointer (some ⟨g, 0, none⟩)))
theorem IsM.made (W : World) : IsM (W.alloc (.map #[] 0)) W.heap.size 0 (fun _ => none) :=
  ⟨_, World.ownsMap_made W _ _ _, Go.Maps.isMap_empty, fun k _ => .inl ⟨rfl, rfl⟩⟩
theorem IsM.below {W W1 : World} {b n : Nat} {M : Int → Option Ty} (h : IsM W b n M) (hb : Below W.heap.size W W1) : IsM W1 b n M := by
  obtain ⟨D, h1, h2, h3⟩ := h
  refine ⟨D, h1.kept (grown_of_below hb none) (by simp), h2, fun k hk => ?_⟩
  rcases h3 k hk with h | ⟨t, g, a1, a2, a3, a4⟩
  · exact .inl h
  · exact .inr ⟨t, g, a1, a2, a3, a4.below hb⟩
theorem IsM.drewN {W : World} {b n : Nat} {M : Int → Option Ty} (h : IsM W b n M) (m : Nat) : IsM (W.drewN m) b n M := h.below (pw_below_drewN (Below.refl _ _) m)
theorem IsM.drew {W : World} {b n : Nat} {M : Int → Option Ty} (h : IsM W b n M) : IsM W.drew b n M := h.below (below_drew1 (Below.refl _ _))
theorem IsM.stay {W W1 : World} {b n : Nat} {M : Int → Option Ty} (h : IsM W b n M) (hg : W.grownBy W1 (some b)) : Stay W W1 := by
  obtain ⟨D, ⟨es, clock, hb, _⟩, _⟩ := h
  intro i cs t hi
  refine (hg.block i (blk_lt hi) (fun e => ?_)).trans hi
  injection e with e
  rw [e, hb] at hi
  cases hi
theorem IsM.lt {W : World} {b n : Nat} {M : Int → Option Ty} (h : IsM W b n M) : b < W.heap.size := by
  obtain ⟨D, h1, _⟩ := h
  exact h1.lt
def updM (M : Int → Option Ty) (k : Int) (t : Ty) : Int → Option Ty := fun j => if j = k then some t else M j
section
variable {ops : Array Oper} {rest : List Oper} {o : Oper} {a : Act} {Q : Exit → Act → World → Prop}
theorem law3 : Go.Maps.Keyed Tryz.prog 3 := Go.Maps.int_keyed Tryz.underlying3
theorem zero44 (w : World) : (zeroValue 44).run Tryz.prog w = .ok (.pointer none) w := by kernel_rfl
theorem look_M (w : World) (hg : o.guard = none) (m x : Operand) (hop : o.op = Op.lookup 47 m x true) (b n : Nat) (M : Int → Option Ty) (hm : a.eval m = .map (some b)) (hM : IsM w b n M) (k : Int) (hk : i64ok k) (hx : a.eval x = .int .i64 k)
    (h0 : M k = none → ∀ v, wpList Tryz.prog ops Q rest (a.put o.dst (.tuple #[v, .bool false])) w)
    (h1 : ∀ t g, M k = some t → IsT w t (.pointer (some ⟨g, 0, none⟩)) → wpList Tryz.prog ops Q rest (a.put o.dst (.tuple #[.pointer (some ⟨g, 0, none⟩), .bool true])) w) : wpList Tryz.prog ops Q (o :: rest) a w := by
  obtain ⟨D, hO, hI, hD⟩ := hM
  refine wpList_lookup_own_ok w hg m x 47 hop 3 44 law3 Tryz.underlying47 ptrR (zero44 w) nilD [] rfl b n D hm hO _ (.int .i64 k) hx (Go.Maps.keyOf_int_mk Tryz.underlying3 (wf_of hk)) ?_
  intro v ps hv
  rcases hD k hk with ⟨e1, e2⟩ | ⟨t, g, e1, e2, e3, e4⟩
  · rw [e2]
    exact h0 e1 v
  · rw [e3] at hv
    rw [e2, ptrR_inv hv]
    exact h1 t g e1 e4
theorem put_M (w : World) (hg : o.guard = none) (m x v : Operand) (hop : o.op = Op.mapUpdate 47 m x v) (b n : Nat) (M : Int → Option Ty) (hm : a.eval m = .map (some b)) (hM : IsM w b n M) (hn : n < 1099511627776) (k : Int) (hk : i64ok k) (hx : a.eval x = .int .i64 k) (t : Ty) (g : Nat) (hv : a.eval v = .pointer (some ⟨g, 0, none⟩)) (ht : IsT w t (.pointer (some ⟨g, 0, none⟩)))
    (h : ∀ w', IsM w' b (n + 1) (updM M k t) → Stay w w' → w.grownBy w' (some b) → wpList Tryz.prog ops Q rest (a.put o.dst undef) w') : wpList Tryz.prog ops Q (o :: rest) a w := by
  have hM' := hM
  obtain ⟨D, hO, hI, hD⟩ := hM
  refine wpList_mapUpdate_own w hg m x v 47 hop 3 44 law3 Tryz.underlying47 ptrR b n D hm hO (by unfold maxLen; omega) _ _ (.int .i64 k) hx hv (Go.Maps.keyOf_int_mk Tryz.underlying3 (wf_of hk)) (.lit (.int .i64 (g : Int))) [] rfl ?_
  intro w' hO' hgr
  have hs := hM'.stay hgr
  refine h w' ⟨D.put (.int .i64 k) (.lit (.int .i64 (g : Int))), hO', hI.put _ _, fun j hj => ?_⟩ hs hgr
  by_cases e : j = k
  · subst e
    exact .inr ⟨t, g, if_pos rfl, Go.Maps.has_put_same hI (by trivial) _, Go.Maps.atKey_put_same hI (by trivial) _ _, ht.stay hs⟩
  · have hne : (Lit.int .i64 j) ≠ Lit.int .i64 k := fun h => e (by injection h)
    rcases hD j hj with ⟨e1, e2⟩ | ⟨t', g', e1, e2, e3, e4⟩
    · exact .inl ⟨(if_neg e).trans e1, (Go.Maps.has_put_other hne _).trans e2⟩
    · exact .inr ⟨t', g', (if_neg e).trans e1, (Go.Maps.has_put_other hne _).trans e2, (Go.Maps.atKey_put_other hne _ _).trans e3, e4.stay hs⟩
end
end Go.Proofs.YteffjlhljeodpaaGreatDoor.G

namespace Go.Proofs.YteffjlhljeodpaaGreatDoor.G
open Go.RowKit Go.Proofs.YteffjlhljeodpaaGreatDoorW.PrintWords Go.Proofs.YteffjlhljeodpaaGreatDoorW.PrintLast Go.Proofs.YteffjlhljeodpaaGreatDoorW.PrintMore Go.Proofs.YteffjlhljeodpaaGreatDoor.Short
set_option linter.unusedVariables false
set_option linter.unusedSimpArgs false

def Ty.apply (M : Int → Option Ty) : Ty → Ty
  | .v n => (M n).getD (.v n)
  | .a l r => .a (l.apply M) (r.apply M)
theorem isVar_v (n : Int) : (Ty.v n).isVar = true := rfl
theorem isVar_a (l r : Ty) : (Ty.a l r).isVar = false := rfl
def impl_typ_apply.T6 : Bool × List (List Nat × List Nat) := (true, [([], []), ([0], [0]), ([1], [1]), ([2], [2]), ([3], [3]), ([4], [4]), ([], []), ([5, 6], [5, 6]), ([], []), ([8], [8]), ([9], [9]), ([10], [10]), ([11], [11]), ([12], [12]), ([], []), ([13, 14, 7], [13, 14]), ([7, 15, 15], [7, 15]), ([16, 16, 0, 1, 2, 3, 4, 5, 6, 7, 8, 9, 10, 11, 12, 13, 14, 15, 16], [16])])
def impl_typ_apply.B6 : List Nat := [0, 1, 3, 7, 15, 31, 0, 127, 0, 256, 768, 1792, 3840, 7936, 0, 32767, 65535, 131071]
theorem impl_typ_apply.tab6 : rtab .any (opsOf Tryz.f23 6) = impl_typ_apply.T6 := by kernel_rfl
theorem impl_typ_apply.bits6 : waitsOk impl_typ_apply.T6.2 impl_typ_apply.B6 = true := by kernel_rfl
set_option maxHeartbeats 8000000 in
set_option maxRecDepth 100000 in
theorem impl_typ_apply.calls : ∀ (t : Ty) (x : Value) (b k : Nat) (M : Int → Option Ty) (w : World) (h : IsT w t x) (ho : t.ok) (hM : IsM w b k M), Calls Tryz.prog 23 #[x, .map (some b)] w fun e w' => ∃ y, e = .returned y ∧ IsT w' (t.apply M) y ∧ Below w.heap.size w w'
  | .v n, x, b, k, M, w, h, ho, hM => by
    have ho' : 0 ≤ n ∧ n ≤ 9223372036854775807 := ho
    have HO : Aside0 (i64ok n) := ⟨⟨by omega, by omega⟩⟩
    obtain ⟨g, rfl, h0, h1⟩ := h.varc
    have HX := aM h
    have HM := aM hM
    clear h h1 ho ho' hM
    cases hm : M n with
    | none =>
      have HN := aM hm
      clear hm
      go_enter Tryz.func23, Tryz.ntmps23
      go_wp2_with (first
        | ((with_reducible refine gate_callee (f := 35) rfl ?_); refine goesL_ (some 8) rfl rfl Tryz.func35 (by kernel_rfl) rfl #[.pointer (some ⟨g, 0, none⟩)] rfl tA ?_; (with_reducible refine (impl_typ_isVar.calls (t := .v n) _ ?s1).mono ?_); (case s1 => exact HX.out); rintro _ w1 ⟨rfl, hb⟩; rw [isVar_v]; refine ⟨_, rfl, ?_⟩; have HB := aM (hb); have k0 := (hb.cell (World.block_lt_of_cell? _ _ h0)).trans h0; clear hb h0)
        | (at_lookup; refine look_M _ rfl _ _ rfl b k M rfl (HM.out.below HB.out) n HO.out rfl ?_ (fun t g e _ => absurd (HN.out.symm.trans e) (by simp)); intro _ v))
      go_ret
      exact ⟨_, rfl, by show IsT _ ((M n).getD (.v n)) _; rw [HN.out]; exact HX.out.below HB.out, HB.out⟩
    | some u =>
      have HN := aM hm
      clear hm
      go_enter Tryz.func23, Tryz.ntmps23
      go_wp2_with (first
        | ((with_reducible refine gate_callee (f := 35) rfl ?_); refine goesL_ (some 8) rfl rfl Tryz.func35 (by kernel_rfl) rfl #[.pointer (some ⟨g, 0, none⟩)] rfl tA ?_; (with_reducible refine (impl_typ_isVar.calls (t := .v n) _ ?s1).mono ?_); (case s1 => exact HX.out); rintro _ w1 ⟨rfl, hb⟩; rw [isVar_v]; refine ⟨_, rfl, ?_⟩; have HB := aM (hb); have k0 := (hb.cell (World.block_lt_of_cell? _ _ h0)).trans h0; clear hb h0)
        | (at_lookup; refine look_M _ rfl _ _ rfl b k M rfl (HM.out.below HB.out) n HO.out rfl (fun e => absurd (HN.out.symm.trans e) (by simp)) ?_; intro t g' e hI; have TT : Aside0 (t = u) := ⟨Option.some.inj (e.symm.trans HN.out)⟩; have II := aM hI; clear hI e))
      go_ret
      exact ⟨_, rfl, by show IsT _ ((M n).getD (.v n)) _; rw [HN.out]; exact TT.out ▸ II.out, HB.out⟩
  | .a l r, x, b, k, M, w, h, ho, hM => by
    have HX := aM h
    have HM := aM hM
    have HO : Aside0 (l.ok ∧ r.ok) := ⟨ho⟩
    obtain ⟨g, p, u1, u2, rfl, h1, h2, h3, hl, hr⟩ := h.arrc
    have HL := aM hl
    have HR := aM hr
    obtain ⟨a1, rfl⟩ := hl.ptr
    obtain ⟨a2, rfl⟩ := hr.ptr
    clear h hl hr ho hM
    go_enter Tryz.func23, Tryz.ntmps23
    go_upto_region 6 with (first
      | ((with_reducible refine gate_callee (f := 35) rfl ?_); refine goesL_ (some 8) rfl rfl Tryz.func35 (by kernel_rfl) rfl #[.pointer (some ⟨g, 0, none⟩)] rfl tA ?_; (with_reducible refine (impl_typ_isVar.calls (t := .a l r) _ ?s1).mono ?_); (case s1 => exact HX.out); rintro _ w1 ⟨rfl, hb⟩; rw [isVar_a]; refine ⟨_, rfl, ?_⟩; have HB := aM (hb); have k1 := (hb.cell (World.block_lt_of_cell? _ _ h1)).trans h1; have k2 := (hb.cell (World.block_lt_of_cell? _ _ h2)).trans h2; have k3 := (hb.cell (World.block_lt_of_cell? _ _ h3)).trans h3; clear hb h1 h2 h3))
    refine start_ (n := 18) (S := fun w' => w'.cell? ⟨g, 1, none⟩ = some (.slice (some ⟨p, 0, none⟩) 2 2) ∧ w'.cell? ⟨p, 0, none⟩ = some (.pointer (some ⟨a1, 0, none⟩)) ∧ w'.cell? ⟨p, 1, none⟩ = some (.pointer (some ⟨a2, 0, none⟩))) (ds := []) #[false, false, false, false, false, false, false, false, false, false, false, false, false, false, false, false, false, false] (by kernel_rfl) rfl rfl ⟨k1, k2, k3⟩ (fun hHeld => ?_); refine with_tabW impl_typ_apply.tab6 impl_typ_apply.bits6 (fun HT_ HW_ => ?_)
    have HB2 := aM (below_drew1 HB.out)
    clear HB k1 k2 k3
    generalize w1.drew = w2 at HB2 hHeld ⊢
    refine pQ 0 21 HT_ ?_
    refine pQ 1 22 HT_ ?_
    refine pQ 2 23 HT_ ?_
    refine pQ 6 27 HT_ ?_
    refine pQ 8 29 HT_ ?_
    refine pQ 9 30 HT_ ?_
    refine pQ 10 31 HT_ ?_
    refine pQ 14 35 HT_ ?_
    refine tQ 3 24 HT_ HW_ hHeld ?_
    refine tQ 11 32 HT_ HW_ hHeld ?_
    refine pQ 4 25 HT_ ?_
    refine pQ 12 33 HT_ ?_
    refine tQ 5 26 HT_ HW_ hHeld ?_
    refine tQ 13 34 HT_ HW_ hHeld ?_
    refine oQ 7 28 HT_ (fun K hK => ?_)
    refine goes_ Tryz.func23 (by kernel_rfl) rfl #[.pointer (some ⟨a1, 0, none⟩), .map (some b)] (by rfl) rfl rfl tA ?_
    refine (impl_typ_apply.calls l _ b k M _ (HL.out.below HB2.out) HO.out.1 (HM.out.below HB2.out)).mono ?_
    rintro _ w3 ⟨y1, rfl, hi, hb⟩
    obtain ⟨d1, rfl⟩ := hi.ptr
    refine ⟨_, rfl, ?_⟩
    have HB3 := aM (below_step HB2.out hb)
    have I1 := aM hi
    refine hK.out _ _ ⟨(hb.cell (World.block_lt_of_cell? _ _ hHeld.1)).trans hHeld.1, (hb.cell (World.block_lt_of_cell? _ _ hHeld.2.1)).trans hHeld.2.1, (hb.cell (World.block_lt_of_cell? _ _ hHeld.2.2)).trans hHeld.2.2⟩ (fun hHeld => ?_)
    clear hb hi
    clear hK K
    refine nQ 28 ?_
    refine oQ 15 36 HT_ (fun K hK => ?_)
    refine goes_ Tryz.func23 (by kernel_rfl) rfl #[.pointer (some ⟨a2, 0, none⟩), .map (some b)] (by rfl) rfl rfl tA ?_
    refine (impl_typ_apply.calls r _ b k M _ (HR.out.below HB3.out) HO.out.2 (HM.out.below HB3.out)).mono ?_
    rintro _ w4 ⟨y2, rfl, hi, hb⟩
    obtain ⟨d2, rfl⟩ := hi.ptr
    refine ⟨_, rfl, ?_⟩
    have HB4 := aM (below_step HB3.out hb)
    have I2 := aM hi
    have J1 := aM (I1.out.below hb)
    refine hK.out _ _ ⟨(hb.cell (World.block_lt_of_cell? _ _ hHeld.1)).trans hHeld.1, (hb.cell (World.block_lt_of_cell? _ _ hHeld.2.1)).trans hHeld.2.1, (hb.cell (World.block_lt_of_cell? _ _ hHeld.2.2)).trans hHeld.2.2⟩ (fun hHeld => ?_)
    clear hb hi I1
    clear hK K
    refine nQ 36 ?_
    refine oQ 16 37 HT_ (fun K hK => ?_)
    refine goes_ Tryz.func50 (by kernel_rfl) rfl #[.pointer (some ⟨d1, 0, none⟩), .pointer (some ⟨d2, 0, none⟩)] (by rfl) rfl rfl tA ?_
    refine (impl_arrow.calls _ J1.out I2.out).mono ?_
    rintro _ w5 ⟨y3, rfl, hi, hb⟩
    obtain ⟨d3, rfl⟩ := hi.ptr
    refine ⟨_, rfl, ?_⟩
    have HB5 := aM (below_step HB4.out hb)
    have I3 := aM hi
    refine hK.out _ _ ⟨(hb.cell (World.block_lt_of_cell? _ _ hHeld.1)).trans hHeld.1, (hb.cell (World.block_lt_of_cell? _ _ hHeld.2.1)).trans hHeld.2.1, (hb.cell (World.block_lt_of_cell? _ _ hHeld.2.2)).trans hHeld.2.2⟩ (fun hHeld => ?_)
    clear hb hi
    clear hK K
    refine nQ 37 ?_
    refine pQ 17 4 HT_ ?_
    refine done_ (done_of HT_.out (by kernel_rfl)) ?_
    go_wp2
    go_ret
    exact ⟨_, rfl, I3.out, HB5.out⟩

def Ty.same : Ty → Ty → Bool
 | .v n, .v m => n == m
 | .a l r, .a l' r' => l.same l' && r.same r'
 | _, _ => false
def impl_typ_isSame.T2 : Bool × List (List Nat × List Nat) := (true, [([], []), ([0], [0]), ([1, 1], [1]), ([2], [2]), ([3, 2, 2], [2, 3]), ([2, 4], [2, 4]), ([5, 4], [5]), ([6], [6]), ([7, 6], [6, 7]), ([8, 6], [6, 8]), ([9, 6], [6, 9]), ([6], [6]), ([11, 6], [6, 11]), ([12, 6], [6, 12]), ([13, 6], [6, 13]), ([10, 14, 6], [6, 10, 14]), ([6, 15], [6, 15]), ([16, 6, 0, 1, 2, 3, 4, 5, 6, 7, 8, 9, 10, 11, 12, 13, 14, 15, 16], [16])])
def impl_typ_isSame.B2 : List Nat := [0, 1, 3, 7, 15, 31, 63, 127, 255, 511, 1023, 127, 2175, 6271, 14463, 32767, 65535, 131071]
theorem impl_typ_isSame.tab2 : rtab .any (opsOf Tryz.f38 2) = impl_typ_isSame.T2 := by kernel_rfl
theorem impl_typ_isSame.bits2 : waitsOk impl_typ_isSame.T2.2 impl_typ_isSame.B2 = true := by kernel_rfl
def impl_typ_isSame.T3 : Bool × List (List Nat × List Nat) := (true, [([], []), ([0], [0]), ([1], [1]), ([2], [2]), ([3], [3]), ([4], [4]), ([], []), ([6], [6]), ([7], [7]), ([8], [8]), ([9], [9]), ([10], [10]), ([5, 11], [5, 11]), ([12, 12], [12]), ([13], [13]), ([14, 13], [13, 14]), ([15, 13], [13, 15]), ([16, 13], [13, 16]), ([17, 13], [13, 17]), ([18, 13], [13, 18]), ([13], [13]), ([20, 13], [13, 20]), ([21, 13], [13, 21]), ([22, 13], [13, 22]), ([23, 13], [13, 23]), ([24, 13], [13, 24]), ([19, 25, 13, 13], [13, 19, 25]), ([13, 26], [13, 26]), ([27, 26, 0, 1, 2, 3, 4, 5, 6, 7, 8, 9, 10, 11, 12, 13, 14, 15, 16, 17, 18, 19, 20, 21, 22, 23, 24, 25, 26, 27], [27])])
def impl_typ_isSame.B3 : List Nat := [0, 1, 3, 7, 15, 31, 0, 64, 192, 448, 960, 1984, 4095, 8191, 16383, 32767, 65535, 131071, 262143, 524287, 16383, 1064959, 3162111, 7356415, 15745023, 32522239, 67108863, 134217727, 268435455]
theorem impl_typ_isSame.tab3 : rtab .any (opsOf Tryz.f38 3) = impl_typ_isSame.T3 := by kernel_rfl
theorem impl_typ_isSame.bits3 : waitsOk impl_typ_isSame.T3.2 impl_typ_isSame.B3 = true := by kernel_rfl
set_option maxHeartbeats 8000000 in
set_option maxRecDepth 100000 in
theorem impl_typ_isSame.calls : ∀ (t u : Ty) (x y : Value) (w : World) (h : IsT w t x) (h' : IsT w u y), Calls Tryz.prog 38 #[x, y] w fun e w' => e = .returned (.bool (t.same u)) ∧ Below w.heap.size w w'
 | .v n, .v m, x, y, w, h, h' => by
  obtain ⟨g, rfl, h0, h1⟩ := h.varc
  obtain ⟨g', rfl, h0', h1'⟩ := h'.varc
  have HX := aK h
  have HY := aK h'
  clear h h' h1 h1'
  go_enter Tryz.func38, Tryz.ntmps38
  go_upto_region 2 with (first
   | ((with_reducible refine gate_callee (f := 35) rfl ?_); refine goesL_ (some 6) rfl rfl Tryz.func35 (by kernel_rfl) rfl #[.pointer (some ⟨g, 0, none⟩)] rfl tA ?_; (with_reducible refine (impl_typ_isVar.calls (t := .v n) _ ?s1).mono ?_); (case s1 => exact HX.out); rintro _ w1 ⟨rfl, hb⟩; refine ⟨_, rfl, ?_⟩; have HB := aK (hb); have k0 := (hb.cell (World.block_lt_of_cell? _ _ h0)).trans h0; have k1 := (hb.cell (World.block_lt_of_cell? _ _ h0')).trans h0'; clear hb h0 h0'))
  refine start_ (n := 18) (S := fun w' => w'.cell? ⟨g, 0, none⟩ = some (.int .i64 n) ∧ w'.cell? ⟨g', 0, none⟩ = some (.int .i64 m)) (ds := []) (bs 0 18) (by kernel_rfl) rfl rfl ⟨k0, k1⟩ (fun hHeld => ?_); refine with_tabW impl_typ_isSame.tab2 impl_typ_isSame.bits2 (fun HT_ HW_ => ?_)
  have HB2 := aK (below_drew1 HB.out)
  clear HB k0 k1
  generalize w1.drew = w2 at HB2 hHeld ⊢
  refine pQ 0 11 HT_ ?_
  refine oQ 1 12 HT_ (fun K hK => ?_)
  refine goes_ Tryz.func35 (by kernel_rfl) rfl #[.pointer (some ⟨g, 0, none⟩)] (by rfl) rfl rfl tA ?_
  refine (impl_typ_isVar.calls (t := .v n) _ (HX.out.below HB2.out)).mono ?_
  rintro _ w3 ⟨rfl, hb⟩
  refine ⟨_, rfl, ?_⟩
  have HB3 := aK (below_step HB2.out hb)
  refine hK.out _ _ ⟨(hb.cell (World.block_lt_of_cell? _ _ hHeld.1)).trans hHeld.1, (hb.cell (World.block_lt_of_cell? _ _ hHeld.2)).trans hHeld.2⟩ (fun hHeld => ?_)
  clear hb
  clear hK K
  refine nQ 12 ?_
  refine pQ 2 13 HT_ ?_
  refine pQ 3 14 HT_ ?_
  refine oQ 4 15 HT_ (fun K hK => ?_)
  refine goes_ Tryz.func35 (by kernel_rfl) rfl #[.pointer (some ⟨g', 0, none⟩)] (by rfl) rfl rfl tA ?_
  refine (impl_typ_isVar.calls (t := .v m) _ (HY.out.below HB3.out)).mono ?_
  rintro _ w4 ⟨rfl, hb⟩
  refine ⟨_, rfl, ?_⟩
  have HB4 := aK (below_step HB3.out hb)
  refine hK.out _ _ ⟨(hb.cell (World.block_lt_of_cell? _ _ hHeld.1)).trans hHeld.1, (hb.cell (World.block_lt_of_cell? _ _ hHeld.2)).trans hHeld.2⟩ (fun hHeld => ?_)
  clear hb
  clear hK K
  refine nQ 15 ?_
  refine pQ 5 16 HT_ ?_
  refine pQ 6 17 HT_ ?_
  refine pQ 7 18 HT_ ?_
  refine pQ 8 19 HT_ ?_
  refine pQ 9 20 HT_ ?_
  refine pQ 11 22 HT_ ?_
  refine pQ 12 23 HT_ ?_
  refine pQ 13 24 HT_ ?_
  refine tQ 10 21 HT_ HW_ hHeld ?_
  refine tQ 14 25 HT_ HW_ hHeld ?_
  refine pQ 15 26 HT_ ?_
  refine pQ 16 27 HT_ ?_
  refine pQ 17 4 HT_ ?_
  refine done_ (done_of HT_.out (by kernel_rfl)) ?_
  go_wp2
  go_ret
  exact ⟨rfl, HB4.out⟩
 | .v n, .a l r, x, y, w, h, h' => by
  obtain ⟨g, rfl, h0, h1⟩ := h.varc
  obtain ⟨g', hg'⟩ := h'.ptr
  subst hg'
  have HX := aK h
  have HY := aK h'
  clear h h' h1
  go_enter Tryz.func38, Tryz.ntmps38
  go_upto_region 2 with (first
   | ((with_reducible refine gate_callee (f := 35) rfl ?_); refine goesL_ (some 6) rfl rfl Tryz.func35 (by kernel_rfl) rfl #[.pointer (some ⟨g, 0, none⟩)] rfl tA ?_; (with_reducible refine (impl_typ_isVar.calls (t := .v n) _ ?s1).mono ?_); (case s1 => exact HX.out); rintro _ w1 ⟨rfl, hb⟩; refine ⟨_, rfl, ?_⟩; have HB := aK (hb); have k0 := (hb.cell (World.block_lt_of_cell? _ _ h0)).trans h0; clear hb h0))
  refine start_ (n := 18) (S := fun w' => True) (ds := []) (bs 0 18) (by kernel_rfl) rfl rfl trivial (fun hHeld => ?_); refine with_tabW impl_typ_isSame.tab2 impl_typ_isSame.bits2 (fun HT_ HW_ => ?_)
  have HB2 := aK (below_drew1 HB.out)
  clear HB k0
  generalize w1.drew = w2 at HB2 hHeld ⊢
  refine pQ 0 11 HT_ ?_
  refine oQ 1 12 HT_ (fun K hK => ?_)
  refine goes_ Tryz.func35 (by kernel_rfl) rfl #[.pointer (some ⟨g, 0, none⟩)] (by rfl) rfl rfl tA ?_
  refine (impl_typ_isVar.calls (t := .v n) _ (HX.out.below HB2.out)).mono ?_
  rintro _ w3 ⟨rfl, hb⟩
  refine ⟨_, rfl, ?_⟩
  have HB3 := aK (below_step HB2.out hb)
  refine hK.out _ _ trivial (fun hHeld => ?_)
  clear hb
  clear hK K
  refine nQ 12 ?_
  refine pQ 2 13 HT_ ?_
  refine pQ 3 14 HT_ ?_
  refine oQ 4 15 HT_ (fun K hK => ?_)
  refine goes_ Tryz.func35 (by kernel_rfl) rfl #[.pointer (some ⟨g', 0, none⟩)] (by rfl) rfl rfl tA ?_
  refine (impl_typ_isVar.calls (t := .a l r) _ (HY.out.below HB3.out)).mono ?_
  rintro _ w4 ⟨rfl, hb⟩
  refine ⟨_, rfl, ?_⟩
  have HB4 := aK (below_step HB3.out hb)
  refine hK.out _ _ trivial (fun hHeld => ?_)
  clear hb
  clear hK K
  refine nQ 15 ?_
  refine pQ 5 16 HT_ ?_
  refine pQ 6 17 HT_ ?_
  refine uQ 7 18 HT_ ?_
  refine uQ 8 19 HT_ ?_
  refine uQ 9 20 HT_ ?_
  refine uQ 10 21 HT_ ?_
  refine uQ 11 22 HT_ ?_
  refine uQ 12 23 HT_ ?_
  refine uQ 13 24 HT_ ?_
  refine uQ 14 25 HT_ ?_
  refine uQ 15 26 HT_ ?_
  refine pQ 16 27 HT_ ?_
  refine pQ 17 4 HT_ ?_
  refine done_ (done_of HT_.out (by kernel_rfl)) ?_
  go_wp2
  go_ret
  exact ⟨rfl, HB4.out⟩
 | .a l r, .v n, x, y, w, h, h' => by
  obtain ⟨g', rfl, h0', h1'⟩ := h'.varc
  obtain ⟨g, hg⟩ := h.ptr
  subst hg
  have HX := aK h
  have HY := aK h'
  clear h h' h1'
  go_enter Tryz.func38, Tryz.ntmps38
  go_upto_region 2 with (first
   | ((with_reducible refine gate_callee (f := 35) rfl ?_); refine goesL_ (some 6) rfl rfl Tryz.func35 (by kernel_rfl) rfl #[.pointer (some ⟨g, 0, none⟩)] rfl tA ?_; (with_reducible refine (impl_typ_isVar.calls (t := .a l r) _ ?s1).mono ?_); (case s1 => exact HX.out); rintro _ w1 ⟨rfl, hb⟩; refine ⟨_, rfl, ?_⟩; have HB := aK (hb); have k0 := (hb.cell (World.block_lt_of_cell? _ _ h0')).trans h0'; clear hb h0')
   | (go_at_call 35; (with_reducible refine (impl_typ_isVar.calls (t := .v n) _ ?s1).mono ?_); (case s1 => exact HY.out.below HB.out); rintro _ w1' ⟨rfl, hb⟩; have HB1 := aK (below_step HB.out hb); have k1 := (hb.cell (World.block_lt_of_cell? _ _ k0)).trans k0; clear hb k0))
  refine start_ (n := 18) (S := fun w' => True) (ds := []) (bs 0 18) (by kernel_rfl) rfl rfl trivial (fun hHeld => ?_); refine with_tabW impl_typ_isSame.tab2 impl_typ_isSame.bits2 (fun HT_ HW_ => ?_)
  have HB2 := aK (below_drew1 HB1.out)
  clear HB HB1 k1
  generalize w1'.drew = w2 at HB2 hHeld ⊢
  refine pQ 0 11 HT_ ?_
  refine oQ 1 12 HT_ (fun K hK => ?_)
  refine goes_ Tryz.func35 (by kernel_rfl) rfl #[.pointer (some ⟨g, 0, none⟩)] (by rfl) rfl rfl tA ?_
  refine (impl_typ_isVar.calls (t := .a l r) _ (HX.out.below HB2.out)).mono ?_
  rintro _ w3 ⟨rfl, hb⟩
  refine ⟨_, rfl, ?_⟩
  have HB3 := aK (below_step HB2.out hb)
  refine hK.out _ _ trivial (fun hHeld => ?_)
  clear hb
  clear hK K
  refine nQ 12 ?_
  refine pQ 2 13 HT_ ?_
  refine uQ 3 14 HT_ ?_
  refine uQ 4 15 HT_ ?_
  refine pQ 5 16 HT_ ?_
  refine pQ 6 17 HT_ ?_
  refine uQ 7 18 HT_ ?_
  refine uQ 8 19 HT_ ?_
  refine uQ 9 20 HT_ ?_
  refine uQ 10 21 HT_ ?_
  refine uQ 11 22 HT_ ?_
  refine uQ 12 23 HT_ ?_
  refine uQ 13 24 HT_ ?_
  refine uQ 14 25 HT_ ?_
  refine uQ 15 26 HT_ ?_
  refine pQ 16 27 HT_ ?_
  refine pQ 17 4 HT_ ?_
  refine done_ (done_of HT_.out (by kernel_rfl)) ?_
  go_wp2
  go_ret
  exact ⟨rfl, HB3.out⟩
 | .a l r, .a l' r', x, y, w, h, h' => by
  have HX := aK h
  have HY := aK h'
  obtain ⟨g, p, u1, u2, rfl, h1, h2, h3, hl, hr⟩ := h.arrc
  obtain ⟨g', p', u1', u2', rfl, h1', h2', h3', hl', hr'⟩ := h'.arrc
  have HL := aK hl
  have HR := aK hr
  have HL' := aK hl'
  have HR' := aK hr'
  obtain ⟨a1, rfl⟩ := hl.ptr
  obtain ⟨a2, rfl⟩ := hr.ptr
  obtain ⟨b1, rfl⟩ := hl'.ptr
  obtain ⟨b2, rfl⟩ := hr'.ptr
  clear h h' hl hr hl' hr'
  go_enter Tryz.func38, Tryz.ntmps38
  go_upto_region 3 with (first
   | ((with_reducible refine gate_callee (f := 35) rfl ?_); refine goesL_ (some 6) rfl rfl Tryz.func35 (by kernel_rfl) rfl #[.pointer (some ⟨g, 0, none⟩)] rfl tA ?_; (with_reducible refine (impl_typ_isVar.calls (t := .a l r) _ ?s1).mono ?_); (case s1 => exact HX.out); rintro _ w1 ⟨rfl, hb⟩; refine ⟨_, rfl, ?_⟩; have HB := aK (hb); have k1 := (hb.cell (World.block_lt_of_cell? _ _ h1)).trans h1; have k2 := (hb.cell (World.block_lt_of_cell? _ _ h2)).trans h2; have k3 := (hb.cell (World.block_lt_of_cell? _ _ h3)).trans h3; have k1' := (hb.cell (World.block_lt_of_cell? _ _ h1')).trans h1'; have k2' := (hb.cell (World.block_lt_of_cell? _ _ h2')).trans h2'; have k3' := (hb.cell (World.block_lt_of_cell? _ _ h3')).trans h3'; clear hb h1 h2 h3 h1' h2' h3')
   | (go_at_call 35; (with_reducible refine (impl_typ_isVar.calls (t := .a l' r') _ ?s1).mono ?_); (case s1 => exact HY.out.below HB.out); rintro _ w1' ⟨rfl, hb⟩; have HB1 := aK (below_step HB.out hb); have j1 := (hb.cell (World.block_lt_of_cell? _ _ k1)).trans k1; have j2 := (hb.cell (World.block_lt_of_cell? _ _ k2)).trans k2; have j3 := (hb.cell (World.block_lt_of_cell? _ _ k3)).trans k3; have j1' := (hb.cell (World.block_lt_of_cell? _ _ k1')).trans k1'; have j2' := (hb.cell (World.block_lt_of_cell? _ _ k2')).trans k2'; have j3' := (hb.cell (World.block_lt_of_cell? _ _ k3')).trans k3'; clear hb k1 k2 k3 k1' k2' k3'))
  refine start_ (n := 29) (S := fun w' => w'.cell? ⟨g, 1, none⟩ = some (.slice (some ⟨p, 0, none⟩) 2 2) ∧ w'.cell? ⟨p, 0, none⟩ = some (.pointer (some ⟨a1, 0, none⟩)) ∧ w'.cell? ⟨p, 1, none⟩ = some (.pointer (some ⟨a2, 0, none⟩)) ∧ w'.cell? ⟨g', 1, none⟩ = some (.slice (some ⟨p', 0, none⟩) 2 2) ∧ w'.cell? ⟨p', 0, none⟩ = some (.pointer (some ⟨b1, 0, none⟩)) ∧ w'.cell? ⟨p', 1, none⟩ = some (.pointer (some ⟨b2, 0, none⟩))) (ds := []) (bs 0 29) (by kernel_rfl) rfl rfl ⟨j1, j2, j3, j1', j2', j3'⟩ (fun hHeld => ?_); refine with_tabW impl_typ_isSame.tab3 impl_typ_isSame.bits3 (fun HT_ HW_ => ?_)
  have HB2 := aK (below_drew1 HB1.out)
  clear HB HB1 j1 j2 j3 j1' j2' j3'
  generalize w1'.drew = w2 at HB2 hHeld ⊢
  refine pQ 0 28 HT_ ?_
  refine pQ 1 29 HT_ ?_
  refine pQ 2 30 HT_ ?_
  refine pQ 6 34 HT_ ?_
  refine pQ 7 35 HT_ ?_
  refine pQ 8 36 HT_ ?_
  refine tQ 3 31 HT_ HW_ hHeld ?_
  refine tQ 9 37 HT_ HW_ hHeld ?_
  refine pQ 4 32 HT_ ?_
  refine pQ 10 38 HT_ ?_
  refine tQ 5 33 HT_ HW_ hHeld ?_
  refine tQ 11 39 HT_ HW_ hHeld ?_
  cases hq : l.same l' with
  | true =>
   have HQ := aK hq
   clear hq
   refine oQ 12 40 HT_ (fun K hK => ?_)
   refine goes_ Tryz.func38 (by kernel_rfl) rfl #[.pointer (some ⟨a1, 0, none⟩), .pointer (some ⟨b1, 0, none⟩)] (by rfl) rfl rfl tA ?_
   refine (impl_typ_isSame.calls l l' _ _ _ (HL.out.below HB2.out) (HL'.out.below HB2.out)).mono ?_
   rintro _ w3 ⟨rfl, hb⟩
   rw [HQ.out]
   refine ⟨_, rfl, ?_⟩
   have HB3 := aK (below_step HB2.out hb)
   refine hK.out _ _ ⟨(hb.cell (World.block_lt_of_cell? _ _ hHeld.1)).trans hHeld.1, (hb.cell (World.block_lt_of_cell? _ _ hHeld.2.1)).trans hHeld.2.1, (hb.cell (World.block_lt_of_cell? _ _ hHeld.2.2.1)).trans hHeld.2.2.1, (hb.cell (World.block_lt_of_cell? _ _ hHeld.2.2.2.1)).trans hHeld.2.2.2.1, (hb.cell (World.block_lt_of_cell? _ _ hHeld.2.2.2.2.1)).trans hHeld.2.2.2.2.1, (hb.cell (World.block_lt_of_cell? _ _ hHeld.2.2.2.2.2)).trans hHeld.2.2.2.2.2⟩ (fun hHeld => ?_)
   clear hb
   clear hK K
   refine nQ 40 ?_
   refine pQ 13 41 HT_ ?_
   refine pQ 14 42 HT_ ?_
   refine pQ 15 43 HT_ ?_
   refine pQ 16 44 HT_ ?_
   refine pQ 20 48 HT_ ?_
   refine pQ 21 49 HT_ ?_
   refine pQ 22 50 HT_ ?_
   refine tQ 17 45 HT_ HW_ hHeld ?_
   refine tQ 23 51 HT_ HW_ hHeld ?_
   refine pQ 18 46 HT_ ?_
   refine pQ 24 52 HT_ ?_
   refine tQ 19 47 HT_ HW_ hHeld ?_
   refine tQ 25 53 HT_ HW_ hHeld ?_
   refine oQ 26 54 HT_ (fun K hK => ?_)
   refine goes_ Tryz.func38 (by kernel_rfl) rfl #[.pointer (some ⟨a2, 0, none⟩), .pointer (some ⟨b2, 0, none⟩)] (by rfl) rfl rfl tA ?_
   refine (impl_typ_isSame.calls r r' _ _ _ (HR.out.below HB3.out) (HR'.out.below HB3.out)).mono ?_
   rintro _ w4 ⟨rfl, hb⟩
   refine ⟨_, rfl, ?_⟩
   have HB4 := aK (below_step HB3.out hb)
   refine hK.out _ _ ⟨(hb.cell (World.block_lt_of_cell? _ _ hHeld.1)).trans hHeld.1, (hb.cell (World.block_lt_of_cell? _ _ hHeld.2.1)).trans hHeld.2.1, (hb.cell (World.block_lt_of_cell? _ _ hHeld.2.2.1)).trans hHeld.2.2.1, (hb.cell (World.block_lt_of_cell? _ _ hHeld.2.2.2.1)).trans hHeld.2.2.2.1, (hb.cell (World.block_lt_of_cell? _ _ hHeld.2.2.2.2.1)).trans hHeld.2.2.2.2.1, (hb.cell (World.block_lt_of_cell? _ _ hHeld.2.2.2.2.2)).trans hHeld.2.2.2.2.2⟩ (fun hHeld => ?_)
   clear hb
   clear hK K
   refine nQ 54 ?_
   refine pQ 27 55 HT_ ?_
   refine pQ 28 4 HT_ ?_
   refine done_ (done_of HT_.out (by kernel_rfl)) ?_
   go_wp2
   go_ret
   exact ⟨by show _ = Ending.returned (.bool (l.same l' && r.same r')); rw [HQ.out]; rfl, HB4.out⟩
  | false =>
   have HQ := aK hq
   clear hq
   refine oQ 12 40 HT_ (fun K hK => ?_)
   refine goes_ Tryz.func38 (by kernel_rfl) rfl #[.pointer (some ⟨a1, 0, none⟩), .pointer (some ⟨b1, 0, none⟩)] (by rfl) rfl rfl tA ?_
   refine (impl_typ_isSame.calls l l' _ _ _ (HL.out.below HB2.out) (HL'.out.below HB2.out)).mono ?_
   rintro _ w3 ⟨rfl, hb⟩
   rw [HQ.out]
   refine ⟨_, rfl, ?_⟩
   have HB3 := aK (below_step HB2.out hb)
   refine hK.out _ _ ⟨(hb.cell (World.block_lt_of_cell? _ _ hHeld.1)).trans hHeld.1, (hb.cell (World.block_lt_of_cell? _ _ hHeld.2.1)).trans hHeld.2.1, (hb.cell (World.block_lt_of_cell? _ _ hHeld.2.2.1)).trans hHeld.2.2.1, (hb.cell (World.block_lt_of_cell? _ _ hHeld.2.2.2.1)).trans hHeld.2.2.2.1, (hb.cell (World.block_lt_of_cell? _ _ hHeld.2.2.2.2.1)).trans hHeld.2.2.2.2.1, (hb.cell (World.block_lt_of_cell? _ _ hHeld.2.2.2.2.2)).trans hHeld.2.2.2.2.2⟩ (fun hHeld => ?_)
   clear hb
   clear hK K
   refine nQ 40 ?_
   refine pQ 13 41 HT_ ?_
   refine uQ 14 42 HT_ ?_
   refine uQ 15 43 HT_ ?_
   refine uQ 16 44 HT_ ?_
   refine uQ 17 45 HT_ ?_
   refine uQ 18 46 HT_ ?_
   refine uQ 19 47 HT_ ?_
   refine uQ 20 48 HT_ ?_
   refine uQ 21 49 HT_ ?_
   refine uQ 22 50 HT_ ?_
   refine uQ 23 51 HT_ ?_
   refine uQ 24 52 HT_ ?_
   refine uQ 25 53 HT_ ?_
   refine uQ 26 54 HT_ ?_
   refine pQ 27 55 HT_ ?_
   refine pQ 28 4 HT_ ?_
   refine done_ (done_of HT_.out (by kernel_rfl)) ?_
   go_wp2
   go_ret
   exact ⟨by show _ = Ending.returned (.bool (l.same l' && r.same r')); rw [HQ.out]; rfl, HB3.out⟩
end Go.Proofs.YteffjlhljeodpaaGreatDoor.G

namespace Go.Proofs.YteffjlhljeodpaaGreatDoor.EvL
open Go.RowKit Go.Proofs.YteffjlhljeodpaaGreatDoorW.PrintWords
set_option linter.unusedVariables false

theorem w64 {x : Int} (h1 : -9223372036854775808 ≤ x) (h2 : x ≤ 9223372036854775807) : wrap64 x = x := by unfold wrap64; omega
theorem Ev.const {α : Type} {a : Option α} {r : α} (h : a = some r) : Ev (fun _ => a) r := ⟨0, fun _ _ => h⟩
theorem Ev.of_eq {α : Type} {g : Nat → Option α} {r r' : α} (h : Ev g r) (e : r = r') : Ev g r' := e ▸ h
theorem Ev.ite_pos {α : Type} {c : Prop} [Decidable c] {g f : Nat → Option α} {r : α} (hc : c) (h : Ev g r) : Ev (fun k => if c then g k else f k) r := Ev.congr (fun k => if_pos hc) h
theorem Ev.ite_neg {α : Type} {c : Prop} [Decidable c] {g f : Nat → Option α} {r : α} (hc : ¬ c) (h : Ev f r) : Ev (fun k => if c then g k else f k) r := Ev.congr (fun k => if_neg hc) h
theorem Ev.succ {α : Type} {g : Nat → Option α} {r : α} (h : Ev (fun k => g (k + 1)) r) : Ev g r := Ev.step (fun k => rfl) h
end Go.Proofs.YteffjlhljeodpaaGreatDoor.EvL

namespace Go.Proofs.YteffjlhljeodpaaGreatDoor.G
open Go.RowKit Go.Proofs.YteffjlhljeodpaaGreatDoorW.PrintWords Go.Proofs.YteffjlhljeodpaaGreatDoorW.PrintLast Go.Proofs.YteffjlhljeodpaaGreatDoorW.PrintMore Go.Proofs.YteffjlhljeodpaaGreatDoor.EvL Go.Proofs.YteffjlhljeodpaaGreatDoor.Short
attribute [local go_sem] max2_int min2_int max_two min_two max_three min_three max_four min_four   -- for this text's walks alone
set_option linter.unusedVariables false
set_option linter.unusedSimpArgs false

def Ty.nodes : Ty → Nat
 | .v _ => 1
 | .a l r => 1 + l.nodes + r.nodes
def mstep (f : Int → Int × Int) (most : Int) (s : Int × Int) : Int × Int := (s.1 + (f (most - s.1)).1, max s.2 (f (most - s.1)).2)
def Ty.meas : Ty → Int → Int × Int
 | .v _, _ => (1, 1)
 | .a l r, most =>
  if 1 > most then (1, 1) else
  if (mstep l.meas most (1, 0)).1 > most then ((mstep l.meas most (1, 0)).1, (mstep l.meas most (1, 0)).2 + 1) else
  ((mstep r.meas most (mstep l.meas most (1, 0))).1, (mstep r.meas most (mstep l.meas most (1, 0))).2 + 1)
theorem Ty.meas_le : ∀ (t : Ty) (m : Int), (1 ≤ (t.meas m).1 ∧ (t.meas m).1 ≤ (t.nodes : Int)) ∧ 1 ≤ (t.meas m).2 ∧ (t.meas m).2 ≤ (t.nodes : Int)
 | .v _, m => by show (1 ≤ (1 : Int) ∧ (1 : Int) ≤ ((1 : Nat) : Int)) ∧ 1 ≤ (1 : Int) ∧ (1 : Int) ≤ ((1 : Nat) : Int); omega
 | .a l r, m => by
  have hl := Ty.meas_le l (m - 1)
  have hr := Ty.meas_le r (m - (mstep l.meas m (1, 0)).1)
  have hn : ((Ty.a l r).nodes : Int) = 1 + l.nodes + r.nodes := by show ((1 + l.nodes + r.nodes : Nat) : Int) = _; omega
  rw [hn]
  unfold Ty.meas
  split
  ·exact ⟨⟨by show (1 : Int) ≤ 1; omega, by show (1 : Int) ≤ _; omega⟩, by show (1 : Int) ≤ 1; omega, by show (1 : Int) ≤ _; omega⟩
  split
  ·unfold mstep
   dsimp only
   omega
  ·unfold mstep at hr ⊢
   dsimp only at hr ⊢
   omega
def mAt (l r : Ty) (most : Int) (j : Nat) (q1 q2 : Int) : Prop :=
 (j = 0 ∧ q1 = 1 ∧ q2 = 0) ∨ (j = 1 ∧ mstep l.meas most (1, 0) = (q1, q2) ∧ ¬ 1 > most) ∨ (j = 2 ∧ mstep r.meas most (mstep l.meas most (1, 0)) = (q1, q2) ∧ ¬ 1 > most ∧ ¬ (mstep l.meas most (1, 0)).1 > most)
theorem mAt.bound {l r : Ty} {most : Int} {j : Nat} {q1 q2 : Int} (h : mAt l r most j q1 q2) : (1 ≤ q1 ∧ q1 ≤ 1 + l.nodes + r.nodes) ∧ 0 ≤ q2 ∧ q2 ≤ 1 + l.nodes + r.nodes := by
 have hl := Ty.meas_le l (most - 1)
 rcases h with ⟨_, rfl, rfl⟩ | ⟨_, e, _⟩ | ⟨_, e, _, _⟩
 ·omega
 ·have e1 := congrArg Prod.fst e
  have e2 := congrArg Prod.snd e
  unfold mstep at e1 e2
  dsimp only at e1 e2
  omega
 ·have hr := Ty.meas_le r (most - (mstep l.meas most (1, 0)).1)
  have e1 := congrArg Prod.fst e
  have e2 := congrArg Prod.snd e
  unfold mstep at e1 e2 hr
  dsimp only at e1 e2 hr
  omega
theorem mAt.one {l r : Ty} {most : Int} {q1 q2 : Int} (h : mAt l r most 0 q1 q2) (c : ¬ q1 > most) {o d : Int} (ho : l.meas (most - q1) = (o, d)) : mAt l r most 1 (q1 + o) (max q2 d) := by
 rcases h with ⟨_, rfl, rfl⟩ | ⟨h, _⟩ | ⟨h, _⟩
 ·exact .inr (.inl ⟨rfl, by unfold mstep; dsimp only; rw [ho], c⟩)
 ·omega
 ·omega
theorem mAt.two {l r : Ty} {most : Int} {q1 q2 : Int} (h : mAt l r most 1 q1 q2) (c : ¬ q1 > most) {o d : Int} (ho : r.meas (most - q1) = (o, d)) : mAt l r most 2 (q1 + o) (max q2 d) := by
 rcases h with ⟨h, _⟩ | ⟨_, e, c0⟩ | ⟨h, _⟩
 ·omega
 ·exact .inr (.inr ⟨rfl, by rw [e]; unfold mstep; dsimp only; rw [ho], c0, by rw [e]; exact c⟩)
 ·omega
theorem mAt.stop0 {l r : Ty} {most : Int} {q1 q2 : Int} (h : mAt l r most 0 q1 q2) (c : q1 > most) : (Ty.a l r).meas most = (q1, q2 + 1) := by
 rcases h with ⟨_, rfl, rfl⟩ | ⟨h, _⟩ | ⟨h, _⟩
 ·exact if_pos c
 ·omega
 ·omega
theorem mAt.stop1 {l r : Ty} {most : Int} {q1 q2 : Int} (h : mAt l r most 1 q1 q2) (c : q1 > most) : (Ty.a l r).meas most = (q1, q2 + 1) := by
 rcases h with ⟨h, _⟩ | ⟨_, e, c0⟩ | ⟨h, _⟩
 ·omega
 ·have : (Ty.a l r).meas most = if (mstep l.meas most (1, 0)).1 > most then ((mstep l.meas most (1, 0)).1, (mstep l.meas most (1, 0)).2 + 1) else ((mstep r.meas most (mstep l.meas most (1, 0))).1, (mstep r.meas most (mstep l.meas most (1, 0))).2 + 1) := if_neg c0
  rw [this, e, if_pos c]
 ·omega
theorem mAt.stop2 {l r : Ty} {most : Int} {q1 q2 : Int} (h : mAt l r most 2 q1 q2) : (Ty.a l r).meas most = (q1, q2 + 1) := by
 rcases h with ⟨h, _⟩ | ⟨h, _⟩ | ⟨_, e, c0, c1⟩
 ·omega
 ·omega
 ·have : (Ty.a l r).meas most = if (mstep l.meas most (1, 0)).1 > most then ((mstep l.meas most (1, 0)).1, (mstep l.meas most (1, 0)).2 + 1) else ((mstep r.meas most (mstep l.meas most (1, 0))).1, (mstep r.meas most (mstep l.meas most (1, 0))).2 + 1) := if_neg c0
  rw [this, if_neg c1, e]
set_option maxHeartbeats 8000000 in
set_option maxRecDepth 100000 in
theorem impl_typ_measure.calls : ∀ (t : Ty) (x : Value) (most : Int) (w : World) (h : IsT w t x) (hn : t.nodes ≤ 4611686018427387904) (hm : -4611686018427387904 ≤ most ∧ most ≤ 4611686018427387904), Calls Tryz.prog 51 #[x, .int .i64 most] w fun e w' => e = .returned (.tuple #[.int .i64 (t.meas most).1, .int .i64 (t.meas most).2]) ∧ Below w.heap.size w w'
 | .v n, x, most, w, h, hn, hm => by
  obtain ⟨g, rfl, h0, h1⟩ := h.varc
  clear h
  go_enter Tryz.func51, Tryz.ntmps51
  go_wp2
  go_loopg [6, 7, 17] 0 (fun gk v6 v7 v17 w' => v6 = .int .i64 1 ∧ v7 = .int .i64 0 ∧ v17 = .int .i64 0 ∧ Aside0 (Below w.heap.size w w'))
  case atStart => exact ⟨rfl, rfl, rfl, ⟨Below.refl _ _⟩⟩
  case round =>
   obtain ⟨rfl, rfl, rfl, HB⟩ := hrel
   go_wp2
   go_ret2
   exact ⟨rfl, HB.out⟩
 | .a l r, x, most, w, h, hn, hm => by
  have hN : 1 + l.nodes + r.nodes ≤ 4611686018427387904 := hn
  obtain ⟨g, p, u1, u2, rfl, h1, h2, h3, hl, hr⟩ := h.arrc
  have HL := aK hl
  have HR := aK hr
  obtain ⟨g1, rfl⟩ := hl.ptr
  obtain ⟨g2, rfl⟩ := hr.ptr
  have HN : Aside0 (l.nodes ≤ 4611686018427387904 ∧ r.nodes ≤ 4611686018427387904) := ⟨by omega⟩
  have HM := aK hm
  have HQ := aK hN
  clear h hn hm hN hl hr
  go_enter Tryz.func51, Tryz.ntmps51
  go_wp2
  go_loopg [6, 7, 17] 2 (fun gk v6 v7 v17 w' => ∃ (j : Nat) (q1 q2 : Int), v6 = .int .i64 q1 ∧ v7 = .int .i64 q2 ∧ v17 = .int .i64 (j : Int) ∧ Aside0 (gk + j = 2) ∧ Aside0 (mAt l r most j q1 q2) ∧ Aside0 (Below w.heap.size w w'))
  case atStart => exact ⟨0, 1, 0, rfl, rfl, rfl, ⟨rfl⟩, ⟨.inl ⟨rfl, rfl, rfl⟩⟩, ⟨Below.refl _ _⟩⟩
  case round =>
   obtain ⟨j, q1, q2, rfl, rfl, rfl, HJ, HA, HB⟩ := hrel
   have k1 := uC HB h1
   have k2 := uC HB h2
   have k3 := uC HB h3
   have HD := aK HA.out.bound
   have HV : Aside0 (wrap64 (q2 + 1) = q2 + 1) := ⟨w64 (by have := HD.out; have := HQ.out; omega) (by have := HD.out; have := HQ.out; omega)⟩
   have hj : j = 0 ∨ j = 1 ∨ j = 2 := by have := HJ.out; omega
   rcases hj with rfl | rfl | rfl
   ·by_cases c : q1 > most
    ·have cw : decide (most < q1) = true := decide_eq_true c
     have e := HA.out.stop0 c
     have HE := aK e
     clear e c
     go_wp2
     (try go_ret2)
     exact ⟨by show Ending.returned (.tuple #[.int .i64 q1, .int .i64 (wrap64 (q2 + 1))]) = _; rw [HV.out, HE.out], HB.out⟩
    ·have cw : decide (most < q1) = false := decide_eq_false c
     obtain ⟨o, d, ho⟩ : ∃ o d, l.meas (most - q1) = (o, d) := ⟨_, _, rfl⟩
     have C0 := aK c
     have W1 := aK ho
     have HW : Aside0 (wrap64 (most - q1) = most - q1) := ⟨w64 (by have := HM.out; have := HD.out; have := HQ.out; omega) (by have := HM.out; have := HD.out; have := HQ.out; omega)⟩
     have hm1 := l.meas_le (most - q1)
     rw [ho] at hm1
     have HS : Aside0 (wrap64 (q1 + o) = q1 + o) := ⟨w64 (by have := HD.out; have := HQ.out; dsimp only at hm1; omega) (by have := HD.out; have := HQ.out; dsimp only at hm1; omega)⟩
     clear hm1 ho c
     go_wp2_with (first
      | ((with_reducible refine gate_callee (f := 51) rfl ?_); refine goesL_ (some 29) rfl rfl Tryz.func51 (by kernel_rfl) rfl #[.pointer (some ⟨g1, 0, none⟩), .int .i64 (wrap64 (most - q1))] rfl tA ?_; (with_reducible refine (impl_typ_measure.calls l _ (wrap64 (most - q1)) _ ?s1 ?s2 ?s3).mono ?_); (case s1 => exact HL.out.below HB.out); (case s2 => exact HN.out.1); (case s3 => rw [HW.out]; have := HM.out; have := HQ.out; have := HD.out; have := C0.out; omega); rintro _ w2 ⟨rfl, hb⟩; rw [HW.out, W1.out]; refine ⟨_, rfl, ?_⟩; have HB2 := aK (below_step HB.out hb); clear hb))
     all_goals
      go_roundg 1
      case measure => have := HJ.out; omega
      case rel =>
       refine ⟨1, q1 + o, max q2 d, ?_, ?_, rfl, ⟨rfl⟩, ⟨HA.out.one (Int.not_lt.mpr C0.out) W1.out⟩, HB2⟩
       ·rw [HS.out]
       ·exact congrArg (Value.int .i64) (by omega)
   ·by_cases c : q1 > most
    ·have cw : decide (most < q1) = true := decide_eq_true c
     have e := HA.out.stop1 c
     have HE := aK e
     clear e c
     go_wp2
     (try go_ret2)
     exact ⟨by show Ending.returned (.tuple #[.int .i64 q1, .int .i64 (wrap64 (q2 + 1))]) = _; rw [HV.out, HE.out], HB.out⟩
    ·have cw : decide (most < q1) = false := decide_eq_false c
     obtain ⟨o, d, ho⟩ : ∃ o d, r.meas (most - q1) = (o, d) := ⟨_, _, rfl⟩
     have C0 := aK c
     have W1 := aK ho
     have HW : Aside0 (wrap64 (most - q1) = most - q1) := ⟨w64 (by have := HM.out; have := HD.out; have := HQ.out; omega) (by have := HM.out; have := HD.out; have := HQ.out; omega)⟩
     have hm1 := r.meas_le (most - q1)
     rw [ho] at hm1
     have HS : Aside0 (wrap64 (q1 + o) = q1 + o) := ⟨w64 (by have := HD.out; have := HQ.out; dsimp only at hm1; omega) (by have := HD.out; have := HQ.out; dsimp only at hm1; omega)⟩
     clear hm1 ho c
     go_wp2_with (first
      | ((with_reducible refine gate_callee (f := 51) rfl ?_); refine goesL_ (some 29) rfl rfl Tryz.func51 (by kernel_rfl) rfl #[.pointer (some ⟨g2, 0, none⟩), .int .i64 (wrap64 (most - q1))] rfl tA ?_; (with_reducible refine (impl_typ_measure.calls r _ (wrap64 (most - q1)) _ ?s1 ?s2 ?s3).mono ?_); (case s1 => exact HR.out.below HB.out); (case s2 => exact HN.out.2); (case s3 => rw [HW.out]; have := HM.out; have := HQ.out; have := HD.out; have := C0.out; omega); rintro _ w2 ⟨rfl, hb⟩; rw [HW.out, W1.out]; refine ⟨_, rfl, ?_⟩; have HB2 := aK (below_step HB.out hb); clear hb))
     all_goals
      go_roundg 0
      case measure => have := HJ.out; omega
      case rel =>
       refine ⟨2, q1 + o, max q2 d, ?_, ?_, rfl, ⟨rfl⟩, ⟨HA.out.two (Int.not_lt.mpr C0.out) W1.out⟩, HB2⟩
       ·rw [HS.out]
       ·exact congrArg (Value.int .i64) (by omega)
   ·have HE := aK HA.out.stop2
    have c2 : decide ((2 : Int) < 2) = false := by decide
    go_wp2
    (try go_ret2)
    exact ⟨by show Ending.returned (.tuple #[.int .i64 q1, .int .i64 (wrap64 (q2 + 1))]) = _; rw [HV.out, HE.out], HB.out⟩
end Go.Proofs.YteffjlhljeodpaaGreatDoor.G

namespace Go.Proofs.YteffjlhljeodpaaGreatDoor.G
open Go.RowKit Go.Proofs.YteffjlhljeodpaaGreatDoorW.PrintWords Go.Proofs.YteffjlhljeodpaaGreatDoorW.PrintLast Go.Proofs.YteffjlhljeodpaaGreatDoorW.PrintMore Go.Proofs.YteffjlhljeodpaaGreatDoor.Short
set_option linter.unusedVariables false
set_option linter.unusedSimpArgs false

def fitV (M : Int → Option Ty) (n : Int) (s : Ty) : Bool × (Int → Option Ty) := match M n with
 | some o => (o.same s, M)
 | none => (true, updM M n s)
theorem fitV_none {M : Int → Option Ty} {n : Int} {s : Ty} (h : M n = none) : fitV M n s = (true, updM M n s) := by unfold fitV; rw [h]
theorem fitV_some {M : Int → Option Ty} {n : Int} {s o : Ty} (h : M n = some o) : fitV M n s = (o.same s, M) := by unfold fitV; rw [h]
def Ty.fits : Ty → Ty → (Int → Option Ty) → Bool × (Int → Option Ty)
 | .v n, s, M => fitV M n s
 | .a _ _, .v _, M => (false, M)
 | .a l r, .a l' r', M => if (l.fits l' M).1 = true then r.fits r' (l.fits l' M).2 else (false, (l.fits l' M).2)
def ArrAt (W : World) (g p : Nat) (u1 u2 : Value) : Prop := W.heap[g]? = some (.cells #[.int .i64 0, .slice (some ⟨p, 0, none⟩) 2 2] 85 (0, 0)) ∧ W.heap[p]? = some (.cells #[u1, u2] 44 (0, 0))
theorem ArrAt.c1 {W : World} {g p : Nat} {u1 u2 : Value} (h : ArrAt W g p u1 u2) : W.cell? ⟨g, 1, none⟩ = some (.slice (some ⟨p, 0, none⟩) 2 2) := (blk_cell h.1 1).trans rfl
theorem ArrAt.c2 {W : World} {g p : Nat} {u1 u2 : Value} (h : ArrAt W g p u1 u2) : W.cell? ⟨p, 0, none⟩ = some u1 := (blk_cell h.2 0).trans rfl
theorem ArrAt.c3 {W : World} {g p : Nat} {u1 u2 : Value} (h : ArrAt W g p u1 u2) : W.cell? ⟨p, 1, none⟩ = some u2 := (blk_cell h.2 1).trans rfl
theorem ArrAt.stay {W W1 : World} {g p : Nat} {u1 u2 : Value} (h : ArrAt W g p u1 u2) (s : Stay W W1) : ArrAt W1 g p u1 u2 := ⟨s _ _ _ h.1, s _ _ _ h.2⟩
theorem IsT.arrb {W : World} {l r : Ty} {x : Value} (h : IsT W (.a l r) x) : ∃ g p u1 u2, x = .pointer (some ⟨g, 0, none⟩) ∧ ArrAt W g p u1 u2 ∧ IsT W l u1 ∧ IsT W r u2 := by
 obtain ⟨g, p, u1, u2, e, hb, hp, hl, hr⟩ := h
 exact ⟨g, p, u1, u2, e, ⟨hb, hp⟩, hl, hr⟩
def Left (w w' : World) (b k : Nat) (M : Int → Option Ty) (m : Nat) : Prop := (∃ k', k' ≤ k + m ∧ IsM w' b k' M) ∧ w.grownBy w' (some b)
def impl_typ_fits.T7 : Bool × List (List Nat × List Nat) := (true, [([], []), ([0], [0]), ([1], [1]), ([2, 1], [2]), ([3], [3]), ([4, 3], [3, 4]), ([5, 3], [3, 5]), ([6, 3], [3, 6]), ([7, 3], [3, 7]), ([8, 3], [3, 8]), ([3], [3]), ([10, 3], [3, 10]), ([11, 3], [3, 11]), ([12, 3], [3, 12]), ([13, 3], [3, 13]), ([14, 3], [3, 14]), ([3], [3]), ([9, 15, 16, 3, 3], [3, 9, 15, 16]), ([3, 17], [3, 17]), ([18, 17], [18]), ([19], [19]), ([20, 19], [19, 20]), ([21, 19], [19, 21]), ([22, 19], [19, 22]), ([23, 19], [19, 23]), ([24, 19], [19, 24]), ([19], [19]), ([26, 19], [19, 26]), ([27, 19], [19, 27]), ([28, 19], [19, 28]), ([29, 19], [19, 29]), ([30, 19], [19, 30]), ([19], [19]), ([25, 31, 32, 19, 19], [19, 25, 31, 32]), ([19, 33], [19, 33]), ([34, 33, 0, 1, 2, 3, 4, 5, 6, 7, 8, 9, 10, 11, 12, 13, 14, 15, 16, 17, 18, 19, 20, 21, 22, 23, 24, 25, 26, 27, 28, 29, 30, 31, 32, 33, 34], [34])])
def impl_typ_fits.B7 : List Nat := [0, 1, 3, 7, 15, 31, 63, 127, 255, 511, 15, 1039, 3087, 7183, 15375, 31759, 15, 131071, 262143, 524287, 1048575, 2097151, 4194303, 8388607, 16777215, 33554431, 1048575, 68157439, 202375167, 470810623, 1007681535, 2081423359, 1048575, 8589934591, 17179869183, 34359738367]
theorem impl_typ_fits.tab7 : rtab .any (opsOf Tryz.f29 7) = impl_typ_fits.T7 := by kernel_rfl
theorem impl_typ_fits.bits7 : waitsOk impl_typ_fits.T7.2 impl_typ_fits.B7 = true := by kernel_rfl
set_option maxHeartbeats 8000000 in
set_option maxRecDepth 100000 in
theorem impl_typ_fits.calls : ∀ (t u : Ty) (x y : Value) (b k : Nat) (M : Int → Option Ty) (w : World) (h : IsT w t x) (h' : IsT w u y) (ho : t.ok) (hM : IsM w b k M) (hk : k + t.nodes ≤ 1099511627776), Calls Tryz.prog 29 #[x, y, .map (some b)] w fun e w' => e = .returned (.bool (t.fits u M).1) ∧ Left w w' b k (t.fits u M).2 t.nodes
 | .v n, u, x, y, b, k, M, w, h, h', ho, hM, hk => by
  have ho' : 0 ≤ n ∧ n ≤ 9223372036854775807 := ho
  have hk' : k + 1 ≤ 1099511627776 := hk
  have HO : Aside0 (i64ok n) := ⟨⟨by omega, by omega⟩⟩
  have HK := aK hk'
  obtain ⟨g, rfl, h0, h1⟩ := h.varc
  have HX := aK h
  have HY := aK h'
  have HM := aK hM
  obtain ⟨g', rfl⟩ := h'.ptr
  clear h h' h1 ho ho' hM hk hk'
  have hR : (Ty.v n).fits u M = fitV M n u := rfl
  have hN1 : (Ty.v n).nodes = 1 := rfl
  rw [hR, hN1]
  clear hR hN1
  cases hm : M n with
  | none =>
   have HN := aK hm
   rw [fitV_none hm]
   clear hm
   go_enter Tryz.func29, Tryz.ntmps29
   go_wp2_with (first
    | ((with_reducible refine gate_callee (f := 35) rfl ?_); refine goesL_ (some 10) rfl rfl Tryz.func35 (by kernel_rfl) rfl #[.pointer (some ⟨g, 0, none⟩)] rfl tA ?_; (with_reducible refine (impl_typ_isVar.calls (t := .v n) _ ?s1).mono ?_); (case s1 => exact HX.out); rintro _ w1 ⟨rfl, hb⟩; rw [isVar_v]; refine ⟨_, rfl, ?_⟩; have HB := aK (hb); have k0 := (hb.cell (World.block_lt_of_cell? _ _ h0)).trans h0; clear hb h0)
    | (at_lookup; refine look_M _ rfl _ _ rfl b k M rfl (HM.out.below HB.out) n HO.out rfl ?_ (fun t g e _ => absurd (HN.out.symm.trans e) (by simp)); intro _ v)
    | (at_mapUpdate; refine put_M _ rfl _ _ _ rfl b k M rfl (HM.out.below HB.out) (by have := HK.out; omega) n HO.out rfl u g' rfl (HY.out.below HB.out) ?_; intro w2 hM2 hs2 hg2; have M2 := aK hM2; have G2 := aK ((grown_of_below HB.out (some b)).trans hg2); clear hM2 hs2 hg2))
   go_ret
   exact ⟨rfl, ⟨k + 1, Nat.le_refl _, M2.out⟩, G2.out⟩
  | some o =>
   have HN := aK hm
   rw [fitV_some hm]
   clear hm
   go_enter Tryz.func29, Tryz.ntmps29
   go_wp2_with (first
    | ((with_reducible refine gate_callee (f := 35) rfl ?_); refine goesL_ (some 10) rfl rfl Tryz.func35 (by kernel_rfl) rfl #[.pointer (some ⟨g, 0, none⟩)] rfl tA ?_; (with_reducible refine (impl_typ_isVar.calls (t := .v n) _ ?s1).mono ?_); (case s1 => exact HX.out); rintro _ w1 ⟨rfl, hb⟩; rw [isVar_v]; refine ⟨_, rfl, ?_⟩; have HB := aK (hb); have k0 := (hb.cell (World.block_lt_of_cell? _ _ h0)).trans h0; clear hb h0)
    | (at_lookup; refine look_M _ rfl _ _ rfl b k M rfl (HM.out.below HB.out) n HO.out rfl (fun e => absurd (HN.out.symm.trans e) (by simp)) ?_; intro t q e hI; have TT : Aside0 (t = o) := ⟨Option.some.inj (e.symm.trans HN.out)⟩; have II := aK (TT.out ▸ hI); clear hI e)
    | (go_at_call 38; (with_reducible refine (impl_typ_isSame.calls o u _ _ _ ?s1 ?s2).mono ?_); (case s1 => exact II.out); (case s2 => exact HY.out.below HB.out); rintro _ w2 ⟨rfl, hb⟩; have HB2 := aK (below_step HB.out hb); clear hb))
   go_ret
   exact ⟨rfl, ⟨k, by omega, HM.out.below HB2.out⟩, grown_of_below HB2.out _⟩
 | .a l r, .v m, x, y, b, k, M, w, h, h', ho, hM, hk => by
  obtain ⟨g, hg⟩ := h.ptr
  subst hg
  obtain ⟨g', hg'⟩ := h'.ptr
  subst hg'
  have HX := aK h
  have HY := aK h'
  have HM := aK hM
  clear h h' hM ho hk
  go_enter Tryz.func29, Tryz.ntmps29
  go_upto_region 7 with (first
   | ((with_reducible refine gate_callee (f := 35) rfl ?_); refine goesL_ (some 10) rfl rfl Tryz.func35 (by kernel_rfl) rfl #[.pointer (some ⟨g, 0, none⟩)] rfl tA ?_; (with_reducible refine (impl_typ_isVar.calls (t := .a l r) _ ?s1).mono ?_); (case s1 => exact HX.out); rintro _ w1 ⟨rfl, hb⟩; rw [isVar_a]; refine ⟨_, rfl, ?_⟩; have HB := aK (hb); clear hb))
  refine start_ (n := 36) (S := fun w' => True) (ds := []) (bs 0 36) (by kernel_rfl) rfl rfl trivial (fun hHeld => ?_); refine with_tabW impl_typ_fits.tab7 impl_typ_fits.bits7 (fun HT_ HW_ => ?_)
  have HB2 := aK (below_drew1 HB.out)
  clear HB
  generalize w1.drew = w2 at HB2 hHeld ⊢
  refine pQ 0 30 HT_ ?_
  refine oQ 1 31 HT_ (fun K hK => ?_)
  refine goes_ Tryz.func35 (by kernel_rfl) rfl #[.pointer (some ⟨g', 0, none⟩)] (by rfl) rfl rfl tA ?_
  refine (impl_typ_isVar.calls (t := .v m) _ (HY.out.below HB2.out)).mono ?_
  rintro _ w3 ⟨rfl, hb⟩
  rw [isVar_v]
  refine ⟨_, rfl, ?_⟩
  have HB3 := aK (below_step HB2.out hb)
  refine hK.out _ _ trivial (fun hHeld => ?_)
  clear hb
  clear hK K
  refine nQ 31 ?_
  refine pQ 2 32 HT_ ?_
  refine pQ 3 33 HT_ ?_
  refine uQ 4 34 HT_ ?_
  refine uQ 5 35 HT_ ?_
  refine uQ 6 36 HT_ ?_
  refine uQ 7 37 HT_ ?_
  refine uQ 8 38 HT_ ?_
  refine uQ 9 39 HT_ ?_
  refine uQ 10 40 HT_ ?_
  refine uQ 11 41 HT_ ?_
  refine uQ 12 42 HT_ ?_
  refine uQ 13 43 HT_ ?_
  refine uQ 14 44 HT_ ?_
  refine uQ 15 45 HT_ ?_
  refine uQ 16 46 HT_ ?_
  refine uQ 17 47 HT_ ?_
  refine pQ 18 48 HT_ ?_
  refine pQ 19 49 HT_ ?_
  refine uQ 20 50 HT_ ?_
  refine uQ 21 51 HT_ ?_
  refine uQ 22 52 HT_ ?_
  refine uQ 23 53 HT_ ?_
  refine uQ 24 54 HT_ ?_
  refine uQ 25 55 HT_ ?_
  refine uQ 26 56 HT_ ?_
  refine uQ 27 57 HT_ ?_
  refine uQ 28 58 HT_ ?_
  refine uQ 29 59 HT_ ?_
  refine uQ 30 60 HT_ ?_
  refine uQ 31 61 HT_ ?_
  refine uQ 32 62 HT_ ?_
  refine uQ 33 63 HT_ ?_
  refine pQ 34 64 HT_ ?_
  refine pQ 35 6 HT_ ?_
  refine done_ (done_of HT_.out (by kernel_rfl)) ?_
  go_wp2
  go_ret
  exact ⟨rfl, ⟨k, by omega, HM.out.below HB3.out⟩, grown_of_below HB3.out _⟩
 | .a l r, .a l' r', x, y, b, k, M, w, h, h', ho, hM, hk => by
  have hk' : k + (1 + l.nodes + r.nodes) ≤ 1099511627776 := hk
  have HX := aK h
  have HY := aK h'
  have HM := aK hM
  have HO : Aside0 (l.ok ∧ r.ok) := ⟨ho⟩
  have HK := aK hk'
  obtain ⟨g, p, u1, u2, rfl, ha, hl, hr⟩ := h.arrb
  obtain ⟨g', p', u1', u2', rfl, ha', hl', hr'⟩ := h'.arrb
  have HL := aK hl
  have HR := aK hr
  have HL' := aK hl'
  have HR' := aK hr'
  obtain ⟨a1, rfl⟩ := hl.ptr
  obtain ⟨a2, rfl⟩ := hr.ptr
  obtain ⟨b1, rfl⟩ := hl'.ptr
  obtain ⟨b2, rfl⟩ := hr'.ptr
  have A0 := aK ha
  have A0' := aK ha'
  have hf : (Ty.a l r).fits (.a l' r') M = if (l.fits l' M).1 = true then r.fits r' (l.fits l' M).2 else (false, (l.fits l' M).2) := rfl
  have hN1 : (Ty.a l r).nodes = 1 + l.nodes + r.nodes := rfl
  rw [hf, hN1]
  obtain ⟨q1, M1, hq⟩ : ∃ a c, l.fits l' M = (a, c) := ⟨_, _, rfl⟩
  rw [hq]
  obtain ⟨rb, RM, hrr⟩ : ∃ a c, (if (q1, M1).1 = true then r.fits r' (q1, M1).2 else (false, (q1, M1).2)) = (a, c) := ⟨_, _, rfl⟩
  rw [hrr]
  have RR := aK hrr
  have HQ := aK hq
  clear h h' hl hr hl' hr' ha ha' ho hM hk hk' hf hN1 hq hrr
  go_enter Tryz.func29, Tryz.ntmps29
  go_upto_region 7 with (first
   | ((with_reducible refine gate_callee (f := 35) rfl ?_); refine goesL_ (some 10) rfl rfl Tryz.func35 (by kernel_rfl) rfl #[.pointer (some ⟨g, 0, none⟩)] rfl tA ?_; (with_reducible refine (impl_typ_isVar.calls (t := .a l r) _ ?s1).mono ?_); (case s1 => exact HX.out); rintro _ w1 ⟨rfl, hb⟩; rw [isVar_a]; refine ⟨_, rfl, ?_⟩; have HB := aK (hb); clear hb))
  have A1 := aK (A0.out.stay (Stay.below HB.out))
  have A1' := aK (A0'.out.stay (Stay.below HB.out))
  refine start_ (n := 36) (S := fun w' => w'.cell? ⟨g, 1, none⟩ = some (.slice (some ⟨p, 0, none⟩) 2 2) ∧ w'.cell? ⟨p, 0, none⟩ = some (.pointer (some ⟨a1, 0, none⟩)) ∧ w'.cell? ⟨p, 1, none⟩ = some (.pointer (some ⟨a2, 0, none⟩)) ∧ w'.cell? ⟨g', 1, none⟩ = some (.slice (some ⟨p', 0, none⟩) 2 2) ∧ w'.cell? ⟨p', 0, none⟩ = some (.pointer (some ⟨b1, 0, none⟩)) ∧ w'.cell? ⟨p', 1, none⟩ = some (.pointer (some ⟨b2, 0, none⟩))) (ds := []) (bs 0 36) (by kernel_rfl) rfl rfl ⟨A1.out.c1, A1.out.c2, A1.out.c3, A1'.out.c1, A1'.out.c2, A1'.out.c3⟩ (fun hHeld => ?_); refine with_tabW impl_typ_fits.tab7 impl_typ_fits.bits7 (fun HT_ HW_ => ?_)
  have HB2 := aK (below_drew1 HB.out)
  clear HB A1 A1'
  generalize w1.drew = w2 at HB2 hHeld ⊢
  refine pQ 0 30 HT_ ?_
  refine oQ 1 31 HT_ (fun K hK => ?_)
  refine goes_ Tryz.func35 (by kernel_rfl) rfl #[.pointer (some ⟨g', 0, none⟩)] (by rfl) rfl rfl tA ?_
  refine (impl_typ_isVar.calls (t := .a l' r') _ (HY.out.below HB2.out)).mono ?_
  rintro _ w3 ⟨rfl, hb⟩
  rw [isVar_a]
  refine ⟨_, rfl, ?_⟩
  have HB3 := aK (below_step HB2.out hb)
  have A3 := aK (A0.out.stay (Stay.below HB3.out))
  have A3' := aK (A0'.out.stay (Stay.below HB3.out))
  refine hK.out _ _ ⟨A3.out.c1, A3.out.c2, A3.out.c3, A3'.out.c1, A3'.out.c2, A3'.out.c3⟩ (fun hHeld => ?_)
  clear hb
  clear hK K
  refine nQ 31 ?_
  refine pQ 2 32 HT_ ?_
  refine pQ 3 33 HT_ ?_
  refine pQ 4 34 HT_ ?_
  refine pQ 5 35 HT_ ?_
  refine pQ 6 36 HT_ ?_
  refine pQ 10 40 HT_ ?_
  refine pQ 11 41 HT_ ?_
  refine pQ 12 42 HT_ ?_
  refine pQ 16 46 HT_ ?_
  refine tQ 7 37 HT_ HW_ hHeld ?_
  refine tQ 13 43 HT_ HW_ hHeld ?_
  refine pQ 8 38 HT_ ?_
  refine pQ 14 44 HT_ ?_
  refine tQ 9 39 HT_ HW_ hHeld ?_
  refine tQ 15 45 HT_ HW_ hHeld ?_
  cases q1 with
  | true =>
   refine oQ 17 47 HT_ (fun K hK => ?_)
   refine goes_ Tryz.func29 (by kernel_rfl) rfl #[.pointer (some ⟨a1, 0, none⟩), .pointer (some ⟨b1, 0, none⟩), .map (some b)] (by rfl) rfl rfl tA ?_
   refine (impl_typ_fits.calls l l' _ _ b k M _ (HL.out.below HB3.out) (HL'.out.below HB3.out) HO.out.1 (HM.out.below HB3.out) (by have := HK.out; omega)).mono ?_
   rw [HQ.out]
   rintro _ w4 ⟨rfl, ⟨k1, hk1, hM1⟩, hg4⟩
   refine ⟨_, rfl, ?_⟩
   have ST := aK ((Stay.below HB3.out).trans ((HM.out.below HB3.out).stay hg4))
   have G4 := aK ((grown_of_below HB3.out (some b)).trans hg4)
   have K1 := aK hk1
   have HM1 := aK hM1
   have A4 := aK (A0.out.stay ST.out)
   have A4' := aK (A0'.out.stay ST.out)
   refine hK.out _ _ ⟨A4.out.c1, A4.out.c2, A4.out.c3, A4'.out.c1, A4'.out.c2, A4'.out.c3⟩ (fun hHeld => ?_)
   clear hg4 hk1 hM1
   clear hK K
   refine nQ 47 ?_
   refine pQ 18 48 HT_ ?_
   refine pQ 19 49 HT_ ?_
   refine pQ 20 50 HT_ ?_
   refine pQ 21 51 HT_ ?_
   refine pQ 22 52 HT_ ?_
   refine pQ 26 56 HT_ ?_
   refine pQ 27 57 HT_ ?_
   refine pQ 28 58 HT_ ?_
   refine pQ 32 62 HT_ ?_
   refine tQ 23 53 HT_ HW_ hHeld ?_
   refine tQ 29 59 HT_ HW_ hHeld ?_
   refine pQ 24 54 HT_ ?_
   refine pQ 30 60 HT_ ?_
   refine tQ 25 55 HT_ HW_ hHeld ?_
   refine tQ 31 61 HT_ HW_ hHeld ?_
   refine oQ 33 63 HT_ (fun K hK => ?_)
   refine goes_ Tryz.func29 (by kernel_rfl) rfl #[.pointer (some ⟨a2, 0, none⟩), .pointer (some ⟨b2, 0, none⟩), .map (some b)] (by rfl) rfl rfl tA ?_
   refine (impl_typ_fits.calls r r' _ _ b k1 M1 _ (HR.out.stay ST.out) (HR'.out.stay ST.out) HO.out.2 HM1.out (by have := HK.out; have := K1.out; omega)).mono ?_
   rintro _ w5 ⟨rfl, ⟨k2, hk2, hM2⟩, hg5⟩
   refine ⟨_, rfl, ?_⟩
   have ST5 := aK (ST.out.trans (HM1.out.stay hg5))
   have G5 := aK (G4.out.trans hg5)
   have K2 := aK hk2
   have HM2 := aK hM2
   have A5 := aK (A0.out.stay ST5.out)
   have A5' := aK (A0'.out.stay ST5.out)
   refine hK.out _ _ ⟨A5.out.c1, A5.out.c2, A5.out.c3, A5'.out.c1, A5'.out.c2, A5'.out.c3⟩ (fun hHeld => ?_)
   clear hg5 hk2 hM2
   clear hK K
   refine nQ 63 ?_
   refine pQ 34 64 HT_ ?_
   refine pQ 35 6 HT_ ?_
   refine done_ (done_of HT_.out (by kernel_rfl)) ?_
   go_wp2
   go_ret
   have e : r.fits r' M1 = (rb, RM) := RR.out
   exact ⟨congrArg (fun z : Bool × (Int → Option Ty) => Ending.returned (Value.bool z.1)) e, ⟨k2, by have := K1.out; have := K2.out; omega, by have h2 := HM2.out; rw [e] at h2; exact h2⟩, G5.out⟩
  | false =>
   refine oQ 17 47 HT_ (fun K hK => ?_)
   refine goes_ Tryz.func29 (by kernel_rfl) rfl #[.pointer (some ⟨a1, 0, none⟩), .pointer (some ⟨b1, 0, none⟩), .map (some b)] (by rfl) rfl rfl tA ?_
   refine (impl_typ_fits.calls l l' _ _ b k M _ (HL.out.below HB3.out) (HL'.out.below HB3.out) HO.out.1 (HM.out.below HB3.out) (by have := HK.out; omega)).mono ?_
   rw [HQ.out]
   rintro _ w4 ⟨rfl, ⟨k1, hk1, hM1⟩, hg4⟩
   refine ⟨_, rfl, ?_⟩
   have ST := aK ((Stay.below HB3.out).trans ((HM.out.below HB3.out).stay hg4))
   have G4 := aK ((grown_of_below HB3.out (some b)).trans hg4)
   have K1 := aK hk1
   have HM1 := aK hM1
   have A4 := aK (A0.out.stay ST.out)
   have A4' := aK (A0'.out.stay ST.out)
   refine hK.out _ _ ⟨A4.out.c1, A4.out.c2, A4.out.c3, A4'.out.c1, A4'.out.c2, A4'.out.c3⟩ (fun hHeld => ?_)
   clear hg4 hk1 hM1
   clear hK K
   refine nQ 47 ?_
   refine pQ 18 48 HT_ ?_
   refine pQ 19 49 HT_ ?_
   refine uQ 20 50 HT_ ?_
   refine uQ 21 51 HT_ ?_
   refine uQ 22 52 HT_ ?_
   refine uQ 23 53 HT_ ?_
   refine uQ 24 54 HT_ ?_
   refine uQ 25 55 HT_ ?_
   refine uQ 26 56 HT_ ?_
   refine uQ 27 57 HT_ ?_
   refine uQ 28 58 HT_ ?_
   refine uQ 29 59 HT_ ?_
   refine uQ 30 60 HT_ ?_
   refine uQ 31 61 HT_ ?_
   refine uQ 32 62 HT_ ?_
   refine uQ 33 63 HT_ ?_
   refine pQ 34 64 HT_ ?_
   refine pQ 35 6 HT_ ?_
   refine done_ (done_of HT_.out (by kernel_rfl)) ?_
   go_wp2
   go_ret
   have e : (false, M1) = (rb, RM) := RR.out
   cases e
   exact ⟨rfl, ⟨k1, by have := K1.out; omega, HM1.out⟩, G4.out⟩
end Go.Proofs.YteffjlhljeodpaaGreatDoor.G

namespace Go.Proofs.YteffjlhljeodpaaGreatDoor.TxtL
open Go.RowKit Go.Proofs.YteffjlhljeodpaaGreatDoor.EvL Go.Proofs.YteffjlhljeodpaaGreatDoorW.PrintWords
set_option linter.unusedVariables false
set_option linter.unusedSimpArgs false

def B (l : List UInt8) : ByteArray := ⟨l.toArray⟩
theorem B_list (l : List UInt8) : (B l).data.toList = l := rfl
theorem B_of (s : ByteArray) : B s.data.toList = s := rfl
theorem B_size (l : List UInt8) : (B l).size = l.length := by show l.toArray.size = _; simp
theorem len (s : ByteArray) : s.data.toList.length = s.size := by rw [Array.length_toList]; rfl
theorem B_append (a b : List UInt8) : B a ++ B b = B (a ++ b) := by
  apply ByteArray.ext
  simp [B]
theorem B_inj {a b : List UInt8} (h : B a = B b) : a = b := by have := congrArg (fun s => s.data.toList) h; exact this
theorem data_inj {s t : ByteArray} (h : s.data.toList = t.data.toList) : s = t := by rw [← B_of s, ← B_of t, h]
theorem loop_eq (s : ByteArray) : ∀ (n i : Nat) (r : List UInt8), s.size - i = n → ByteArray.toList.loop s i r = r.reverse ++ s.data.toList.drop i := by
  intro n
  induction n with
  | zero =>
    intro i r h
    rw [ByteArray.toList.loop, if_neg (by omega), List.drop_eq_nil_of_le (by rw [len]; omega), List.append_nil]
  | succ n ih =>
    intro i r h
    have hi : i < s.size := by omega
    rw [ByteArray.toList.loop, if_pos hi, ih (i + 1) _ (by omega), List.drop_eq_getElem_cons (show i < s.data.toList.length by rw [len]; exact hi)]
    have e : s.get! i = s.data.toList[i]'(by rw [len]; exact hi) := by
      show s.data[i]! = _
      rw [getElem!_pos s.data i hi]
      exact (Array.getElem_toList _).symm
    rw [List.reverse_cons, List.append_assoc, List.singleton_append, e]
theorem toList_eq (s : ByteArray) : s.toList = s.data.toList := by
  show ByteArray.toList.loop s 0 [] = _
  rw [loop_eq s s.size 0 [] (by omega)]; rfl
theorem toList_B (l : List UInt8) : (B l).toList = l := toList_eq _
theorem toList_iff (s t : ByteArray) : s.toList = t.toList ↔ s = t := by rw [toList_eq, toList_eq]; exact ⟨data_inj, fun h => h ▸ rfl⟩
theorem bt_B (l : List UInt8) (i : Nat) (h : i < l.length) : bt (B l) (i : Int) = ((l[i]).toNat : Int) := by
  rw [← bt_at (B l) i (by rw [Int.toNat_natCast, B_size]; exact h)]
  rfl
theorem ext_drop (l : List UInt8) (n m : Nat) (h : m = l.length) : (B l).extract n m = B (l.drop n) := by
  subst h
  apply ByteArray.ext
  simp [B]
  exact List.take_of_length_le (by rw [List.length_drop]; omega)

def isD (c : UInt8) : Prop := 48 ≤ c.toNat ∧ c.toNat ≤ 57
instance (c : UInt8) : Decidable (isD c) := by unfold isD; exact inferInstance
def stepD (a : Nat) (c : UInt8) : Nat := a * 10 + (c.toNat - 48)
def valF (a : Nat) (l : List UInt8) : Nat := l.foldl stepD a
theorem valF_cons (a : Nat) (c : UInt8) (l : List UInt8) : valF a (c :: l) = valF (a * 10 + (c.toNat - 48)) l := by unfold valF; rw [List.foldl_cons, stepD]
theorem valF_one (a : Nat) (c : UInt8) : valF a [c] = a * 10 + (c.toNat - 48) := by unfold valF; rw [List.foldl_cons, List.foldl_nil, stepD]
theorem valF_app (l m : List UInt8) (a : Nat) : valF a (l ++ m) = valF (valF a l) m := List.foldl_append
theorem head_app {α : Type} {l : List α} (m : List α) (h : l ≠ []) : (l ++ m).head? = l.head? := by
  cases l with
  | nil => exact absurd rfl h
  | cons a l => rfl
theorem valF_ge : ∀ (l : List UInt8) (a : Nat), a ≤ valF a l
  | [], a => Nat.le_refl _
  | c :: l, a => by rw [valF_cons]; exact Nat.le_trans (by omega) (valF_ge l _)
theorem valF_lt : ∀ (l : List UInt8) (a : Nat), (∀ c ∈ l, isD c) → valF a l < (a + 1) * 10 ^ l.length
  | [], a, _ => by show a < (a + 1) * 1; omega
  | c :: l, a, h => by
    have hc := h c (by simp)
    have ih := valF_lt l (a * 10 + (c.toNat - 48)) (fun x hx => h x (by simp [hx]))
    rw [valF_cons, List.length_cons, Nat.pow_succ]
    refine Nat.lt_of_lt_of_le ih ?_
    rw [Nat.mul_comm (10 ^ l.length) 10, ← Nat.mul_assoc]
    exact Nat.mul_le_mul_right _ (by unfold isD at hc; omega)
theorem digit_ofNat (i : Nat) (h : i < 10) : (UInt8.ofNat (48 + i)).toNat = 48 + i := by
  rw [UInt8.toNat_ofNat']; omega
def Numeral (l : List UInt8) : Prop := (∀ c ∈ l, isD c) ∧ l ≠ [] ∧ (l.head? ≠ some 48 ∨ l.length = 1)
theorem dec_numeral : ∀ (n : Nat), Numeral (Lib.decDigits n) ∧ valF 0 (Lib.decDigits n) = n ∧ (1 ≤ n → (Lib.decDigits n).head? ≠ some 48) := by
  intro n
  induction n using Nat.strongRecOn with
  | _ n ih =>
    by_cases h : n < 10
    · have hd := digit_ofNat n h
      rw [Lib.decDigits_one h]
      refine ⟨⟨?_, by simp, .inr rfl⟩, ?_, ?_⟩
      · intro c hc
        rw [List.mem_singleton] at hc
        rw [hc]; unfold isD; rw [hd]; omega
      · rw [valF_one, hd]; omega
      · intro h1 e
        have e2 : UInt8.ofNat (48 + n) = 48 := by simpa using e
        have e3 := congrArg UInt8.toNat e2
        rw [hd] at e3
        have : (48 : UInt8).toNat = 48 := rfl
        omega
    · have e : Lib.decDigits n = Lib.decDigits (n / 10) ++ [UInt8.ofNat (48 + n % 10)] := by rw [Lib.decDigits, dif_neg h]
      obtain ⟨⟨h1, h2, _⟩, h4, h5⟩ := ih (n / 10) (by omega)
      have hd := digit_ofNat (n % 10) (by omega)
      have hh : (Lib.decDigits n).head? ≠ some 48 := by
        rw [e, head_app _ h2]
        exact h5 (by omega)
      refine ⟨⟨?_, by rw [e]; simp, .inl hh⟩, ?_, fun _ => hh⟩
      · intro c hc
        rw [e, List.mem_append, List.mem_singleton] at hc
        rcases hc with hc | hc
        · exact h1 c hc
        · rw [hc]; unfold isD; rw [hd]; omega
      · rw [e, valF_app, h4, valF_one, hd]; omega
theorem parse_ok : ∀ (l : List UInt8) (a : Nat), (∀ c ∈ l, isD c) → valF a l ≤ 1000000000000000000 → Lib.parseUint10 a l = .ok (valF a l)
  | [], a, _, _ => rfl
  | c :: l, a, h, hv => by
    have hc : isD c := h c (by simp)
    rw [valF_cons] at hv
    have hg := valF_ge l (a * 10 + (c.toNat - 48))
    unfold Lib.parseUint10
    rw [if_pos (show 48 ≤ c.toNat ∧ c.toNat ≤ 57 from hc), if_neg (by omega), if_neg (by omega), parse_ok l _ (fun x hx => h x (by simp [hx])) hv, valF_cons]
theorem atoi_digits (l : List UInt8) (h1 : ∀ c ∈ l, isD c) (h2 : l ≠ []) (hn : valF 0 l ≤ 1000000000000000000) : Lib.atoiAll l = .ok ((valF 0 l : Nat) : Int) := by
  have hp := parse_ok l 0 h1 hn
  generalize valF 0 l = n at hp hn
  cases l with
  | nil => exact absurd rfl h2
  | cons c r =>
    have hc : isD c := h1 c (by simp)
    unfold isD at hc
    unfold Lib.atoiAll
    have hs : ¬ (c.toNat = 43 ∨ c.toNat = 45) := by omega
    have hs2 : ¬ c.toNat = 45 := by omega
    simp only [if_neg hs]
    unfold Lib.parseMag
    rw [if_neg (by simp), hp]
    simp only [hs2, not_false_eq_true, true_and, false_and, if_false]
    rw [if_neg (by omega)]
end Go.Proofs.YteffjlhljeodpaaGreatDoor.TxtL

namespace Go.Proofs.YteffjlhljeodpaaGreatDoor.ReadM
open Go.RowKit Go.Proofs.YteffjlhljeodpaaGreatDoor.EvL Go.Proofs.YteffjlhljeodpaaGreatDoor.TxtL Go.Proofs.YteffjlhljeodpaaGreatDoorW.PrintWords
set_option linter.unusedVariables false
set_option linter.unusedSimpArgs false

def digs : Nat → List UInt8 → List UInt8
  | 0, _ => []
  | _ + 1, [] => []
  | m + 1, c :: l => if isD c then c :: digs m l else []
theorem digs_all : ∀ (m : Nat) (l : List UInt8), ∀ c ∈ digs m l, isD c
  | 0, _, c, h => by simp [digs] at h
  | _ + 1, [], c, h => by simp [digs] at h
  | m + 1, x :: l, c, h => by
    unfold digs at h
    by_cases hx : isD x
    · rw [if_pos hx] at h
      rcases List.mem_cons.mp h with rfl | h
      · exact hx
      · exact digs_all m l c h
    · rw [if_neg hx] at h; simp at h
theorem digs_len : ∀ (m : Nat) (l : List UInt8), (digs m l).length ≤ m ∧ (digs m l).length ≤ l.length
  | 0, _ => by simp [digs]
  | _ + 1, [] => by simp [digs]
  | m + 1, x :: l => by
    have ih := digs_len m l
    unfold digs
    split
    · simp only [List.length_cons]; omega
    · simp
theorem digs_pre : ∀ (m : Nat) (l : List UInt8), l = digs m l ++ l.drop (digs m l).length
  | 0, _ => by simp [digs]
  | _ + 1, [] => by simp [digs]
  | m + 1, x :: l => by
    have ih := digs_pre m l
    unfold digs
    split
    · rw [List.length_cons, List.drop_succ_cons, List.cons_append, ← ih]
    · rfl
def NoD (r : List UInt8) : Prop := ∀ c, r.head? = some c → ¬ isD c
theorem noD_nil : NoD [] := fun c h => by cases h
theorem noD_cons {c : UInt8} (r : List UInt8) (h : ¬ isD c) : NoD (c :: r) := fun x hx => by
  have : c = x := by simpa using hx
  rw [← this]; exact h
theorem digs_app : ∀ (m : Nat) (ds r : List UInt8), (∀ c ∈ ds, isD c) → ds.length ≤ m → NoD r → digs m (ds ++ r) = ds
  | 0, ds, r, _, hl, _ => by
    have : ds = [] := List.eq_nil_of_length_eq_zero (by omega)
    rw [this]; rfl
  | m + 1, [], r, _, _, hr => by
    cases r with
    | nil => rfl
    | cons c r => rw [List.nil_append, digs, if_neg (hr c rfl)]
  | m + 1, x :: ds, r, h, hl, hr => by
    rw [List.cons_append, digs, if_pos (h x (by simp)), digs_app m ds r (fun c hc => h c (by simp [hc])) (by simpa using hl) hr]
theorem dec_len : ∀ (m n : Nat), 1 ≤ m → n < 10 ^ m → (Lib.decDigits n).length ≤ m
  | 0, n, h, _ => by omega
  | m + 1, n, _, hn => by
    by_cases h : n < 10
    · rw [Lib.decDigits_one h]; simp
    · have hm : 1 ≤ m := by
        cases m with
        | zero => simp at hn; omega
        | succ m => omega
      rw [Nat.pow_succ] at hn
      have ih := dec_len m (n / 10) hm (by omega)
      rw [Lib.decDigits, dif_neg h, List.length_append, List.length_singleton]
      omega
theorem val_lt (ds : List UInt8) (h : ∀ c ∈ ds, isD c) : valF 0 ds < 10 ^ ds.length := by
  have := valF_lt ds 0 h
  rwa [Nat.zero_add, Nat.one_mul] at this
theorem val_le (m : Nat) (ds : List UInt8) (h : ∀ c ∈ ds, isD c) (hl : ds.length ≤ m) : valF 0 ds < 10 ^ m := Nat.lt_of_lt_of_le (val_lt ds h) (Nat.pow_le_pow_right (by omega) hl)
def eat (x : UInt8) : List UInt8 → Option (List UInt8)
  | [] => none
  | c :: r => if c = x then some r else none
theorem eat_some {x : UInt8} {r r' : List UInt8} (h : eat x r = some r') : r = x :: r' := by
  cases r with
  | nil => cases h
  | cons c r =>
    replace h : (if c = x then some r else none) = some r' := h
    by_cases hc : c = x
    · rw [if_pos hc] at h; injection h with h; rw [hc, h]
    · rw [if_neg hc] at h; cases h
theorem eat_cons (x : UInt8) (r : List UInt8) : eat x (x :: r) = some r := if_pos rfl
theorem trim_eat (x : UInt8) (r : List UInt8) : Lib.hasPrefix r [x] = (eat x r).isSome ∧ Lib.trimPrefix r [x] = (eat x r).getD r := by
  cases r with
  | nil => exact ⟨rfl, rfl⟩
  | cons c r =>
    have hp : Lib.hasPrefix (c :: r) [x] = decide (x = c) := by unfold Lib.hasPrefix; rw [Bool.eq_iff_iff, decide_eq_true_iff]; simp [List.isPrefixOf]
    have he : eat x (c :: r) = if c = x then some r else none := rfl
    unfold Lib.trimPrefix
    rw [hp, he]
    by_cases h : c = x
    · subst h; simp
    · have h' : ¬ x = c := fun e => h e.symm
      simp [h, h']

end Go.Proofs.YteffjlhljeodpaaGreatDoor.ReadM

namespace Go.Proofs.YteffjlhljeodpaaGreatDoor.G
open Go.RowKit Go.Proofs.YteffjlhljeodpaaGreatDoorW.PrintWords Go.Proofs.YteffjlhljeodpaaGreatDoorW.PrintLast Go.Proofs.YteffjlhljeodpaaGreatDoorW.PrintMore Go.Proofs.YteffjlhljeodpaaGreatDoor.Short
attribute [local go_sem] max2_int min2_int max_two min_two max_three min_three max_four min_four   -- for this text's walks alone
set_option linter.unusedVariables false
set_option linter.unusedSimpArgs false

def slices_Index_int_int.l0 : Nat → List Int → Int → Int → Int → Option (Int)
 | 0, _, _, _, _ => none
 | k + 1, x0, x1, x7, x8 => if x8 < x7 then (if 0 ≤ x8 then (if x8 < (x0.length : Int) then (if x1 = (rd x0 x8) then (some x8) else (slices_Index_int_int.l0 k x0 x1 x7 (wrap64 (x8 + 1)))) else (none)) else (none)) else (some (-1))
def slices_Index_int_int.f (k : Nat) (l0 : List Int) (a1 : Int) : Option (Int) := slices_Index_int_int.l0 k l0 a1 (l0.length : Int) 0
set_option maxHeartbeats 8000000 in
set_option maxRecDepth 100000 in
theorem slices_Index_int_int.calls (k : Nat) (A0 : Option Addr) (c0 : Nat) (l0 : List Int) (a1 : Int) (r : Int) (w : World) (hr0 : Kd.C (Kd.int .i64) w A0 l0.length l0) (hc0 : l0.length ≤ c0) (h : slices_Index_int_int.f k l0 a1 = some r) :
  Calls Tryz.prog 62 #[.slice A0 l0.length c0, .int .i64 a1] w fun e w' => e = .returned (.int .i64 r) ∧ Drawn0 w w' := by
 have HR0 := aK hr0
 have HC0 := aK hc0
 clear hr0 hc0
 have H : (slices_Index_int_int.l0 k l0 a1 (l0.length : Int) 0) = some r := h
 clear h
 have H' := aK H
 clear H
 go_enter Tryz.func62, Tryz.ntmps62
 go_wp2
 go_loopg [8] k (fun kq v8 w' => ∃ (x8_1 : Int), v8 = .int .i64 x8_1 ∧ Aside0 (slices_Index_int_int.l0 kq l0 a1 (l0.length : Int) x8_1 = some r) ∧ Aside0 (kq ≤ k) ∧ Drawn0 w w')
 case atStart => exact ⟨(0), rS, H', ⟨Nat.le_refl _⟩, by repeat (first | exact Drawn0.refl _ | apply Drawn0.step)⟩
 case round =>
  clear H'
  obtain ⟨x8_1, rfl, HA, HK1, ⟨m1, rfl⟩⟩ := hrel
  cases gk with
  | zero => exact absurd HA.out (by simp [slices_Index_int_int.l0])
  | succ k1 =>
   have H := HA.out
   clear HA
   simp only [slices_Index_int_int.l0] at H
   by_cases c3 : x8_1 < (l0.length : Int)
   ·rw [if_pos c3] at H
    have c3b0 : decide (x8_1 < (l0.length : Int)) = true := decide_eq_true c3
    clear c3
    by_cases c4 : 0 ≤ x8_1
    ·rw [if_pos c4] at H
     have c4b0 : decide (0 ≤ x8_1) = true := decide_eq_true c4
     clear c4
     by_cases c5 : x8_1 < (l0.length : Int)
     ·rw [if_pos c5] at H
      have c5b0 : decide (x8_1 < (l0.length : Int)) = true := decide_eq_true c5
      clear c5
      by_cases c6 : a1 = (rd l0 x8_1)
      ·rw [if_pos c6] at H
       have c6b0 : (a1 == (rd l0 x8_1)) = true := beq_iff_eq.mpr c6
       have c6b1 : (a1 != (rd l0 x8_1)) = false := bne_eq_false_iff_eq.mpr c6
       clear c6
       obtain rfl := Option.some.inj H
       have p101 : 0 ≤ (x8_1 : Int) := dA
       have q101 : x8_1 < (l0.length : Int) := dA
       obtain ⟨ad101, e101, hx101_0⟩ := Kd.at_int HR0.out x8_1 p101 q101
       cases e101
       replace p101 := eq_true p101
       replace q101 := eq_true q101
       go_wp2
       go_ret
       exact ⟨by first | rfl | (simp; done) | (simp [*]; done), by repeat (first | exact Drawn0.refl _ | apply Drawn0.step)⟩
      ·rw [if_neg c6] at H
       have c6b0 : (a1 == (rd l0 x8_1)) = false := beq_eq_false_iff_ne.mpr c6
       have c6b1 : (a1 != (rd l0 x8_1)) = true := bne_iff_ne.mpr c6
       have H' := aK H
       clear H
       have p101 : 0 ≤ (x8_1 : Int) := dA
       have q101 : x8_1 < (l0.length : Int) := dA
       obtain ⟨ad101, e101, hx101_0⟩ := Kd.at_int HR0.out x8_1 p101 q101
       cases e101
       replace p101 := eq_true p101
       replace q101 := eq_true q101
       go_wp2
       go_roundg k1
       case measure => have := HK1.out; omega
       case rel => exact ⟨(wrap64 (x8_1 + 1)), rS, H', ⟨by have := HK1.out; omega⟩, by repeat (first | exact Drawn0.refl _ | apply Drawn0.step)⟩
     ·rw [if_neg c5] at H
      exact absurd H (by simp)
    ·rw [if_neg c4] at H
     exact absurd H (by simp)
   ·rw [if_neg c3] at H
    have c3b0 : decide (x8_1 < (l0.length : Int)) = false := decide_eq_false c3
    clear c3
    obtain rfl := Option.some.inj H
    go_wp2
    go_ret
    exact ⟨by first | rfl | (simp; done) | (simp [*]; done), by repeat (first | exact Drawn0.refl _ | apply Drawn0.step)⟩


def slices_Contains_int_int.f (k : Nat) (l0 : List Int) (a1 : Int) : Option (Bool) := (slices_Index_int_int.f k l0 a1).bind fun t101 => (some (decide (t101 ≥ 0)))
set_option maxHeartbeats 8000000 in
set_option maxRecDepth 100000 in
theorem slices_Contains_int_int.calls (k : Nat) (A0 : Option Addr) (c0 : Nat) (l0 : List Int) (a1 : Int) (r : Bool) (w : World) (hr0 : Kd.C (Kd.int .i64) w A0 l0.length l0) (hc0 : l0.length ≤ c0) (h : slices_Contains_int_int.f k l0 a1 = some r) :
    Calls Tryz.prog 36 #[.slice A0 l0.length c0, .int .i64 a1] w fun e w' => e = .returned (.bool r) ∧ Drawn0 w w' := by
  have HR0 := aM hr0
  have HC0 := aM hc0
  clear hr0 hc0
  have H : ((slices_Index_int_int.f k l0 a1).bind fun t101 => (some (decide (t101 ≥ 0)))) = some r := h
  clear h
  replace H := Option.bind_eq_some_iff.mp H
  obtain ⟨t101, A30, H⟩ := H
  replace H : (some (decide (t101 ≥ 0))) = some r := H
  have A3 := aM A30
  clear A30
  obtain rfl := Option.some.inj H
  go_enter Tryz.func36, Tryz.ntmps36
  go_wp2_with (first | ((with_reducible refine gate_callee (f := 62) rfl ?_); refine goesL_ (some 7) rfl rfl Tryz.func62 (by kernel_rfl) rfl #[.slice A0 l0.length c0, .int .i64 a1] rfl (by (try simp only [List.map_toArray, List.map_cons, List.map_nil]); first | done | rfl | (simp only [List.length_drop, List.length_take]; rfl)) ?_; (with_reducible refine (slices_Index_int_int.calls k _ _ l0 a1 t101 _ ?side1 ?side2 A3.out).mono ?_); (case side1 => repeat (first | exact HR0.out | (with_reducible refine Kd.C_alloc ?_ _) | (with_reducible refine Kd.C_drewN ?_ _) | (with_reducible refine Kd.C_drew ?_))); (case side2 => exact HC0.out); rintro e w' ⟨rfl, ⟨nd, rfl⟩⟩; refine ⟨_, rfl, ?_⟩))
  go_ret
  exact ⟨by first | rfl | (simp; done) | (simp [*]; done), by repeat (first | exact Drawn0.refl _ | apply Drawn0.step)⟩

end Go.Proofs.YteffjlhljeodpaaGreatDoor.G

namespace Go.Proofs.YteffjlhljeodpaaGreatDoor.G
open Go.RowKit Go.Proofs.YteffjlhljeodpaaGreatDoorW.PrintWords Go.Proofs.YteffjlhljeodpaaGreatDoorW.PrintLast Go.Proofs.YteffjlhljeodpaaGreatDoorW.PrintMore Go.Proofs.YteffjlhljeodpaaGreatDoor.EvL Go.Proofs.YteffjlhljeodpaaGreatDoor.Short
set_option linter.unusedVariables false
set_option linter.unusedSimpArgs false

theorem index_f (l : List Int) (n : Int) (hl : l.length ≤ 4611686018427387904) : ∀ (d i : Nat), i + d = l.length → ∃ r, slices_Index_int_int.l0 (d + 1) l n (l.length : Int) (i : Int) = some r ∧ (r ≥ 0 ↔ n ∈ l.drop i)
 | 0, i, h => by
  refine ⟨-1, ?_, ?_⟩
  ·simp only [slices_Index_int_int.l0]
   rw [if_neg (by omega)]
  ·rw [List.drop_eq_nil_of_le (by omega)]
   simp
 | d + 1, i, h => by
  have hi : i < l.length := by omega
  have e : rd l (i : Int) = l[i] := by unfold rd; rw [Int.toNat_natCast, List.getD_eq_getElem?_getD, List.getElem?_eq_getElem hi]; rfl
  have w1 : wrap64 ((i : Int) + 1) = ((i + 1 : Nat) : Int) := by rw [w64 (by omega) (by omega)]; omega
  obtain ⟨r, h1, h2⟩ := index_f l n hl d (i + 1) (by omega)
  rw [slices_Index_int_int.l0, if_pos (by omega), if_pos (by omega), if_pos (by omega), e, w1, List.drop_eq_getElem_cons hi]
  by_cases c : n = l[i]
  ·rw [if_pos c]
   exact ⟨_, rfl, by rw [← c]; simp⟩
  ·rw [if_neg c]
   exact ⟨r, h1, by rw [h2, List.mem_cons]; exact ⟨Or.inr, fun h => h.resolve_left c⟩⟩
theorem has_f (l : List Int) (n : Int) (hl : l.length ≤ 4611686018427387904) : slices_Contains_int_int.f (l.length + 1) l n = some (decide (n ∈ l)) := by
 obtain ⟨r, h1, h2⟩ := index_f l n hl l.length 0 (by omega)
 unfold slices_Contains_int_int.f slices_Index_int_int.f
 have h1' : slices_Index_int_int.l0 (l.length + 1) l n (l.length : Int) 0 = some r := h1
 rw [h1']
 exact congrArg some (decide_eq_decide.mpr (by rw [h2, List.drop_zero]))
def vstep (out : List Int) (n : Int) : List Int := if n ∈ out then out else out ++ [n]
theorem vstep_len (out : List Int) (n : Int) : (vstep out n).length ≤ out.length + 1 := by
 unfold vstep
 split
 ·omega
 ·rw [List.length_append, List.length_singleton]; omega
theorem vfold_len : ∀ (ys out : List Int), (ys.foldl vstep out).length ≤ out.length + ys.length
 | [], out => by simp
 | y :: ys, out => by
  have h1 := vfold_len ys (vstep out y)
  have h2 := vstep_len out y
  rw [List.foldl_cons, List.length_cons]
  omega
def Ty.vars : Ty → List Int
 | .v n => [n]
 | .a l r => r.vars.foldl vstep l.vars
theorem Ty.vars_len : ∀ t : Ty, t.vars.length ≤ t.nodes
 | .v n => Nat.le_refl _
 | .a l r => by
  have h1 := vfold_len r.vars l.vars
  have h2 := Ty.vars_len l
  have h3 := Ty.vars_len r
  show (r.vars.foldl vstep l.vars).length ≤ 1 + l.nodes + r.nodes
  omega
set_option maxHeartbeats 8000000 in
set_option maxRecDepth 100000 in
theorem impl_typ_vars.calls : ∀ (t : Ty) (x : Value) (w : World) (h : IsT w t x) (hn : t.nodes ≤ 1099511627776), Calls Tryz.prog 37 #[x] w fun e w' => ∃ v, e = .returned v ∧ Kd.R (Kd.int .i64) 3 w' w.heap.size (fun _ => True) v t.vars ∧ Below w.heap.size w w'
 | .v n, x, w, h, hn => by
  obtain ⟨g, rfl, h0, h1⟩ := h.varc
  have HX := aK h
  clear h hn
  go_enter Tryz.func37, Tryz.ntmps37
  go_wp2_with (first
   | ((with_reducible refine gate_callee (f := 35) rfl ?_); refine goesL_ (some 7) rfl rfl Tryz.func35 (by kernel_rfl) rfl #[.pointer (some ⟨g, 0, none⟩)] rfl tA ?_; (with_reducible refine (impl_typ_isVar.calls (t := .v n) _ ?s1).mono ?_); (case s1 => exact HX.out); rintro _ w1 ⟨rfl, hb⟩; refine ⟨_, rfl, ?_⟩; have HB := aK hb; have k0 := (hb.cell (World.block_lt_of_cell? _ _ h0)).trans h0; clear hb h0 h1)
   | ((with_reducible refine gate_dst (N := 12) rfl ?_); refine Kd.R_lit (Kd.int .i64) _ 3 ?hg (N := 12) ?hd (xs := ([n] : List Int)) (inner := [.int .i64 n]) (ok := fun _ => True) (okp := fun _ => True) ?hr ?hp (fun _ hk => hk) trivial (Below.refl _ _) (Nat.le_refl _) (by simp) ?_; (case hd => rfl); (case hg => rfl); (case hr => go_simp); (case hp => exact (Reps.one (show Kd.M (Kd.int .i64) _ _ _ n [.int .i64 n] from rfl) (Reps.none _ _))); intro v2 w2 ho hb hg_ hnew_; have HO := aK (Kd.R_lower ho HB.out.size); have HB2 := aK (below_step HB.out hb); clear hg_ hnew_ ho hb))
  go_ret
  exact ⟨_, rfl, HO.out, HB2.out⟩
 | .a l r, x, w, h, hn => by
  have hN : 1 + l.nodes + r.nodes ≤ 1099511627776 := hn
  obtain ⟨g, p, u1, u2, rfl, h1, h2, h3, hl, hr⟩ := h.arrc
  have HX := aK h
  have HL := aK hl
  have HR := aK hr
  obtain ⟨g1, rfl⟩ := hl.ptr
  obtain ⟨g2, rfl⟩ := hr.ptr
  have HN : Aside0 (l.nodes ≤ 1099511627776 ∧ r.nodes ≤ 1099511627776) := ⟨by omega⟩
  have HQ : Aside0 (l.vars.length + r.vars.length ≤ 1099511627776) := ⟨by have := Ty.vars_len l; have := Ty.vars_len r; omega⟩
  obtain ⟨xs, hxs⟩ : ∃ y, y = l.vars := ⟨_, rfl⟩
  obtain ⟨ys, hys⟩ : ∃ y, y = r.vars := ⟨_, rfl⟩
  rw [← hxs, ← hys] at HQ
  have XS := aK hxs
  have YS := aK hys
  clear h hn hN hl hr hxs hys
  go_enter Tryz.func37, Tryz.ntmps37
  go_wp2_with (first
   | ((with_reducible refine gate_callee (f := 35) rfl ?_); refine goesL_ (some 7) rfl rfl Tryz.func35 (by kernel_rfl) rfl #[.pointer (some ⟨g, 0, none⟩)] rfl tA ?_; (with_reducible refine (impl_typ_isVar.calls (t := .a l r) _ ?s1).mono ?_); (case s1 => exact HX.out); rintro _ w1 ⟨rfl, hb⟩; refine ⟨_, rfl, ?_⟩; have HB := aK hb; have k1 := (hb.cell (World.block_lt_of_cell? _ _ h1)).trans h1; have k2 := (hb.cell (World.block_lt_of_cell? _ _ h2)).trans h2; have k3 := (hb.cell (World.block_lt_of_cell? _ _ h3)).trans h3; clear hb h1 h2 h3)
   | ((with_reducible refine gate_callee (f := 37) rfl ?_); refine goesL_ (some 19) rfl rfl Tryz.func37 (by kernel_rfl) rfl #[.pointer (some ⟨g1, 0, none⟩)] rfl tA ?_; (with_reducible refine (impl_typ_vars.calls l _ _ ?s1 ?s2).mono ?_); (case s1 => exact HL.out.below HB.out); (case s2 => exact HN.out.1); rintro _ w2 ⟨v2, rfl, hR, hb⟩; rw [← XS.out] at hR; refine ⟨_, rfl, ?_⟩; have HO := aK (Kd.R_lower hR HB.out.size); have HB2 := aK (below_step HB.out hb); have m1 := (hb.cell (World.block_lt_of_cell? _ _ k1)).trans k1; have m3 := (hb.cell (World.block_lt_of_cell? _ _ k3)).trans k3; clear hb hR k1 k2 k3)
   | ((with_reducible refine gate_callee (f := 37) rfl ?_); refine goesL_ (some 26) rfl rfl Tryz.func37 (by kernel_rfl) rfl #[.pointer (some ⟨g2, 0, none⟩)] rfl tA ?_; (with_reducible refine (impl_typ_vars.calls r _ _ ?s1 ?s2).mono ?_); (case s1 => exact HR.out.below HB2.out); (case s2 => exact HN.out.2); rintro _ w3 ⟨v3, rfl, hR, hb⟩; rw [← YS.out] at hR; obtain ⟨Ay, cy, rfl⟩ := Kd.R_slice hR; refine ⟨_, rfl, ?_⟩; have HY : Aside0 (Kd.R (Kd.int .i64) 3 w3 w.heap.size (fun k => True ∧ some k ≠ v2.ownBlock) (.slice Ay ys.length cy) ys) := ⟨Kd.R_lower (Kd.R_mono (Kd.R_bound hR) (fun k hk => ⟨trivial, fun e => by have := Kd.R_lt HO.out k e.symm; have := hk.2.1; omega⟩)) HB2.out.size⟩; have HO3 := aK (Kd.R_below HO.out hb); have HB3 := aK (below_step HB2.out hb); clear hb hR m1 m3 HO))
  go_loopg [3, 28] ys.length (fun gk v3 v28 w' => ∃ (j : Nat) (out : List Int), v28 = .int .i64 (j : Int) ∧ Aside0 (gk + j = ys.length) ∧ Aside0 (out = (ys.take j).foldl vstep xs) ∧ Aside0 (Kd.R (Kd.int .i64) 3 w' w.heap.size (fun _ => True) v3 out) ∧ Aside0 (Kd.R (Kd.int .i64) 3 w' w.heap.size (fun k => True ∧ some k ≠ v3.ownBlock) (.slice Ay ys.length cy) ys) ∧ Aside0 (Below w.heap.size w w'))
  case atStart => exact ⟨0, xs, rfl, ⟨rfl⟩, ⟨rfl⟩, HO3, HY, HB3⟩
  case round =>
   clear HO3 HY HB3 HB HB2
   obtain ⟨j, out, rfl, HJ, HE, HO, HY, HB⟩ := hrel
   cases gk with
   | zero =>
    have z : decide ((j : Int) < (ys.length : Int)) = false := decide_eq_false (by have := HJ.out; omega)
    have z2 : decide (j < ys.length) = false := decide_eq_false (by have := HJ.out; omega)
    go_wp2
    go_ret
    refine ⟨_, rfl, ?_, HB.out⟩
    have e := HE.out
    rw [List.take_of_length_le (by have := HJ.out; omega), XS.out, YS.out] at e
    have e2 : out = (Ty.a l r).vars := e
    rw [← e2]
    exact HO.out
   | succ k1 =>
    have hj : j < ys.length := by have := HJ.out; omega
    have z : decide ((j : Int) < (ys.length : Int)) = true := decide_eq_true (by omega)
    have z2 : decide (j < ys.length) = true := decide_eq_true hj
    obtain ⟨ad, ea, hx⟩ := Kd.at_int (Kd.R_reads' HY.out).2.2 (j : Int) (by omega) (by omega)
    obtain ⟨Ao, co, eo⟩ := Kd.R_slice HO.out
    subst ea
    subst eo
    have LO : Aside0 (out.length ≤ xs.length + ys.length) := ⟨by have h1 := vfold_len (ys.take j) xs; have h2 : (ys.take j).length ≤ ys.length := by { rw [List.length_take]; omega }; have e := HE.out; rw [← e] at h1; omega⟩
    have hs : (ys.take (j + 1)).foldl vstep xs = vstep out (rd ys (j : Int)) := by
     have e : rd ys (j : Int) = ys[j] := by unfold rd; rw [Int.toNat_natCast, List.getD_eq_getElem?_getD, List.getElem?_eq_getElem hj]; rfl
     rw [List.take_succ_eq_append_getElem hj, List.foldl_append, ← HE.out, e]; rfl
    rw [Int.toNat_natCast] at hx
    generalize rd ys (j : Int) = y at hx hs
    have p1 := eq_true (show (0 : Int) ≤ (j : Int) by omega)
    have p2 := eq_true (show (j : Int) < (ys.length : Int) by omega)
    have HS := aK hs
    clear hs hj
    by_cases hm : y ∈ out
    ·have hc := (has_f out y (by have := LO.out; have := HQ.out; omega)).trans (congrArg some (decide_eq_true hm))
     have CC := aK hc
     have ht : vstep out y = out := if_pos hm
     rw [ht] at HS
     clear hm hc ht
     go_wp2_with (first
      | ((with_reducible refine gate_callee (f := 36) rfl ?_); refine goesL_ (some 34) rfl rfl Tryz.func36 (by kernel_rfl) rfl #[.slice Ao out.length co, .int .i64 y] rfl tA ?_; (with_reducible refine (slices_Contains_int_int.calls (out.length + 1) Ao co out y true _ ?s1 ?s2 ?s3).mono ?_); (case s1 => exact (Kd.R_reads' HO.out).2.2); (case s2 => exact (Kd.R_reads' HO.out).2.1); (case s3 => exact CC.out); rintro _ w5 ⟨rfl, hb0⟩; have hb := hb0.below; clear hb0; refine ⟨_, rfl, ?_⟩; have HO5 := aK (Kd.R_below HO.out hb); have HY5 := aK (Kd.R_below HY.out hb); have HB5 := aK (below_step HB.out hb); clear hb))
     go_roundg k1
     case measure => omega
     case rel => exact ⟨j + 1, out, by rw [show wrap64 ((j : Int) + 1) = ((j + 1 : Nat) : Int) by rw [w64 (by have := HJ.out; have := HQ.out; omega) (by have := HJ.out; have := HQ.out; omega)]; omega], ⟨by have := HJ.out; omega⟩, ⟨HS.out.symm⟩, HO5, HY5, HB5⟩
    ·have hc := (has_f out y (by have := LO.out; have := HQ.out; omega)).trans (congrArg some (decide_eq_false hm))
     have CC := aK hc
     have ht : vstep out y = out ++ [y] := if_neg hm
     rw [ht] at HS
     clear hm hc ht
     obtain ⟨o2, ho2⟩ : ∃ z, z = out ++ [y] := ⟨_, rfl⟩
     rw [← ho2] at HS
     have O2 := aK ho2
     clear ho2
     go_wp2_with (first
      | ((with_reducible refine gate_callee (f := 36) rfl ?_); refine goesL_ (some 34) rfl rfl Tryz.func36 (by kernel_rfl) rfl #[.slice Ao out.length co, .int .i64 y] rfl tA ?_; (with_reducible refine (slices_Contains_int_int.calls (out.length + 1) Ao co out y false _ ?s1 ?s2 ?s3).mono ?_); (case s1 => exact (Kd.R_reads' HO.out).2.2); (case s2 => exact (Kd.R_reads' HO.out).2.1); (case s3 => exact CC.out); rintro _ w5 ⟨rfl, hb0⟩; have hb := hb0.below; clear hb0; refine ⟨_, rfl, ?_⟩; have HO5 := aK (Kd.R_below HO.out hb); have HY5 := aK (Kd.R_below HY.out hb); have HB5 := aK (below_step HB.out hb); clear hb)
      | ((with_reducible refine gate_builtin (b := .append) (xs := #[.tmp 36, .tmp 38]) rfl ?_); at_builtin; refine Kd.R_append (Kd.int .i64) (w0 := w) w.heap.size rfl (.tmp 36) (.tmp 38) 58 3 (.int .i64 0) 8 rfl Tryz.underlying58 info3 rfl (by decide) (by omega) (.slice Ao out.length co) out y [.int .i64 y] (fun _ => True) (fun _ => False) rfl rfl ?aP (fun _ hk => hk.elim) ?aF ?aO ?aB ?aS ?aL ?_; (case aP => exact rfl); (case aF => exact (fun _ _ => trivial)); (case aO => exact HO5.out); (case aB => exact HB5.out); (case aS => exact HB5.out.size); (case aL => have := LO.out; have := HQ.out; omega); intro v6 w6 ho hb hg hat; rw [← O2.out] at ho; have HO6 := aK ho; have HY6 := aK (Kd.R_after HY5.out hg hat); have HB6 := aK hb; clear ho hb hg hat HO5 HY5 HB5))
     go_roundg k1
     case measure => omega
     case rel => exact ⟨j + 1, o2, by rw [show wrap64 ((j : Int) + 1) = ((j + 1 : Nat) : Int) by rw [w64 (by have := HJ.out; have := HQ.out; omega) (by have := HJ.out; have := HQ.out; omega)]; omega], ⟨by have := HJ.out; omega⟩, ⟨HS.out.symm⟩, HO6, HY6, HB6⟩
end Go.Proofs.YteffjlhljeodpaaGreatDoor.G

namespace Go.Proofs.YteffjlhljeodpaaGreatDoor.G
open Go.RowKit Go.Proofs.YteffjlhljeodpaaGreatDoor.EvL Go.Proofs.YteffjlhljeodpaaGreatDoor.TxtL Go.Proofs.YteffjlhljeodpaaGreatDoor.ReadM Go.Proofs.YteffjlhljeodpaaGreatDoorW.PrintWords
set_option linter.unusedVariables false
set_option linter.unusedSimpArgs false

def tyl : Ty → List UInt8
  | .v n => 116 :: Lib.decDigits n.toNat
  | .a l r => 40 :: (tyl l ++ 62 :: (tyl r ++ [41]))
theorem text_B : ∀ t : Ty, t.text = B (tyl t)
  | .v n => by
    show B [116] ++ B (Lib.decDigits n.toNat) = _
    rw [B_append]; rfl
  | .a l r => by
    show ((((B [40] ++ l.text) ++ B [62]) ++ r.text) ++ B [41]) = _
    rw [text_B l, text_B r, B_append, B_append, B_append, B_append]
    exact congrArg B (by simp [tyl])
def yrd (m : Nat) : Nat → List UInt8 → Option (Ty × List UInt8)
  | 0, _ => none
  | _ + 1, [] => none
  | d + 1, c :: s =>
    if c = 40 then (yrd m d s).bind fun p => (eat 62 p.2).bind fun r1 => (yrd m d r1).bind fun q => (eat 41 q.2).bind fun r3 => some (.a p.1 q.1, r3)
    else if c = 116 ∧ digs m s ≠ [] then some (.v (valF 0 (digs m s) : Nat), s.drop (digs m s).length)
    else none
theorem yrd_sound (m : Nat) : ∀ (d : Nat) (s : List UInt8) (t : Ty) (r : List UInt8), yrd m d s = some (t, r) → t.nodes + r.length ≤ s.length ∧ t.ok ∨ 18 < m
  | 0, _, _, _, h => by cases h
  | _ + 1, [], _, _, h => by cases h
  | d + 1, c :: s, t, r, h => by
    by_cases hm : 18 < m
    · exact .inr hm
    left
    unfold yrd at h
    by_cases h1 : c = 40
    · rw [if_pos h1] at h
      obtain ⟨⟨a, r0⟩, ha, h⟩ := Option.bind_eq_some_iff.mp h
      obtain ⟨r1, e1, h⟩ := Option.bind_eq_some_iff.mp h
      obtain ⟨⟨b, r2⟩, hb, h⟩ := Option.bind_eq_some_iff.mp h
      obtain ⟨r3, e2, h⟩ := Option.bind_eq_some_iff.mp h
      simp only [Option.some.injEq, Prod.mk.injEq] at h
      obtain ⟨rfl, rfl⟩ := h
      obtain ⟨a1, a2⟩ := (yrd_sound m d s a r0 ha).resolve_right hm
      obtain ⟨b1, b2⟩ := (yrd_sound m d r1 b r2 hb).resolve_right hm
      have q1 : r0 = 62 :: r1 := eat_some e1
      have q2 : r2 = 41 :: r3 := eat_some e2
      rw [q1, List.length_cons] at a1
      rw [q2, List.length_cons] at b1
      refine ⟨?_, a2, b2⟩
      show 1 + a.nodes + b.nodes + _ ≤ _
      rw [List.length_cons]; omega
    rw [if_neg h1] at h
    by_cases h2 : c = 116 ∧ digs m s ≠ []
    · rw [if_pos h2] at h
      simp only [Option.some.injEq, Prod.mk.injEq] at h
      obtain ⟨rfl, rfl⟩ := h
      have hl := digs_len m s
      have hv := val_le m (digs m s) (digs_all m s) hl.1
      have h18 : 10 ^ m ≤ 10 ^ 18 := Nat.pow_le_pow_right (by omega) (by omega)
      refine ⟨?_, ?_⟩
      · rw [List.length_drop, List.length_cons]; show 1 + _ ≤ _; omega
      · show (0 : Int) ≤ ((valF 0 (digs m s) : Nat) : Int) ∧ ((valF 0 (digs m s) : Nat) : Int) ≤ 9223372036854775807
        have : (10 : Nat) ^ 18 = 1000000000000000000 := by decide
        omega
    · rw [if_neg h2] at h; cases h
def ReadsAs (o : Option (Ty × List UInt8)) (W : World) (x : Option Addr) (r : List UInt8) (ok : Bool) : Prop := (o = none ∧ ok = false) ∨ (∃ t, o = some (t, r) ∧ ok = true ∧ IsT W t (.pointer x))
theorem ReadsAs.below {o : Option (Ty × List UInt8)} {W W1 : World} {x : Option Addr} {r : List UInt8} {ok : Bool} (h : ReadsAs o W x r ok) (hb : Below W.heap.size W W1) : ReadsAs o W1 x r ok := by
  rcases h with h | ⟨t, h1, h2, h3⟩
  · exact .inl h
  · exact .inr ⟨t, h1, h2, h3.below hb⟩
end Go.Proofs.YteffjlhljeodpaaGreatDoor.G

namespace Go.Proofs
open Go.Shelf
def Tryz.lays103_ren : Go.Shelf.Ren := ⟨fun | 103 => 59 | 210 => 76 | 206 => 85 | n => n, fun | 9 => 9 | 4 => 4 | 24 => 30 | 3 => 3 | n => n, fun | n => n⟩
theorem Tryz.lays103 : Go.Proofs.Lays.n103 Tryz.prog Tryz.lays103_ren := {
 mixed := by kernel_rfl
 f103 := Tryz.func59.trans (congrArg some (by kernel_rfl))
 f206 := Tryz.func85.trans (congrArg some (by kernel_rfl))
 f210 := Tryz.func76.trans (congrArg some (by kernel_rfl))
 t3 := Tryz.underlying3
 a3 := Tryz.isAgg3
 z3 := Tryz.sizeOf3
 v3 := Tryz.zeroValue3
 t4 := Tryz.underlying4
 a4 := Tryz.isAgg4
 z4 := Tryz.sizeOf4
 v4 := Tryz.zeroValue4
 t9 := Tryz.underlying9
 a9 := Tryz.isAgg9
 z9 := Tryz.sizeOf9
 v9 := Tryz.zeroValue9
 t24 := Tryz.underlying30
 a24 := Tryz.isAgg30
 z24 := Tryz.sizeOf30
 v24 := Tryz.zeroValue30 }
end Go.Proofs
namespace Go.Proofs.YteffjlhljeodpaaGreatDoor.G
open Go.RowKit Go.Shelf Go.Proofs.YteffjlhljeodpaaGreatDoorW.PrintWords
set_option linter.unusedVariables false

def strings_CutPrefix.f (a0 : ByteArray) (a1 : ByteArray) : Option (ByteArray × Bool) := some (⟨(Lib.trimPrefix a0.data.toList a1.data.toList).toArray⟩, Lib.hasPrefix a0.data.toList a1.data.toList)
theorem strings_CutPrefix.calls (a0 : ByteArray) (a1 : ByteArray) (r1 : ByteArray) (r2 : Bool) (w : World) (h : strings_CutPrefix.f a0 a1 = some (r1, r2)) :
    Calls Tryz.prog 59 #[.string a0, .string a1] w fun e w' => e = .returned (.tuple #[.string r1, .bool r2]) ∧ Below w.heap.size w w' := by
  injection h with h
  simp only [Prod.mk.injEq] at h
  obtain ⟨rfl, rfl⟩ := h
  refine (Any.strings_CutPrefix Tryz.lays103 a0 a1 w).mono ?_
  rintro e w' ⟨rfl, rfl⟩
  exact ⟨rfl, Below.refl _ _⟩
end Go.Proofs.YteffjlhljeodpaaGreatDoor.G

namespace Go.Proofs.YteffjlhljeodpaaGreatDoor.G
open Go.RowKit Go.Shelf Go.Proofs.YteffjlhljeodpaaGreatDoorW.PrintWords
set_option linter.unusedVariables false

def atoiNum (s : ByteArray) : Int := match Lib.atoiAll s.data.toList with
 | .ok v => v
 | .range => Lib.atoiSat s.data.toList
 | _ => 0
def atoiErr (s : ByteArray) : Option Int := match Lib.atoiAll s.data.toList with
 | .ok _ => none
 | .range => some 1
 | _ => some 2
def ErrIs (r : Option Int) (ev : Value) : Prop := (r = none ∧ ev = .nilIface) ∨ (r ≠ none ∧ ∃ t p, ev = .iface t p)
def strconv_Atoi_60.f (a0 : ByteArray) : Option (Int × Option Int) := if a0.size ≤ 281474976710656 then some (atoiNum a0, atoiErr a0) else none
theorem strconv_Atoi_60.calls (a0 : ByteArray) (r1 : Int) (r2 : Option Int) (w : World) (h : strconv_Atoi_60.f a0 = some (r1, r2)) (hE : LibMet w) :
  Calls Tryz.prog 60 #[.string a0] w fun e w' => ∃ ev, e = .returned (.tuple #[.int .i64 r1, ev]) ∧ ErrIs r2 ev ∧ Below w.heap.size w w' := by
 unfold strconv_Atoi_60.f at h
 by_cases c : a0.size ≤ 281474976710656
 case neg => rw [if_neg c] at h; cases h
 rw [if_pos c] at h
 injection h with h
 simp only [Prod.mk.injEq] at h
 obtain ⟨rfl, rfl⟩ := h
 unfold atoiNum atoiErr
 cases ha : Lib.atoiAll a0.data.toList with
 | ok v =>
  refine (Any.strconv_Atoi_ok Tryz.laysC172 a0 (by omega) v ha w).mono ?_
  rintro e w' ⟨rfl, hw⟩
  refine ⟨_, rfl, .inl ⟨rfl, rfl⟩, ?_⟩
  rcases hw with rfl | ⟨t, rfl⟩
  ·exact Below.refl _ _
  ·exact Lib.bytesWorld_below _ _ _
 | range =>
  obtain ⟨tp, p, hv⟩ := hE.range
  refine (Any.strconv_Atoi_range_var Tryz.laysC172 a0 c ha tp p w hv).mono ?_
  rintro e w' ⟨N, rfl, _, _, hb⟩
  exact ⟨_, rfl, .inr ⟨by simp, _, _, rfl⟩, hb⟩
 | _ =>
  obtain ⟨tp, p, hv⟩ := hE.wrong
  refine (Any.strconv_Atoi_syntax_var Tryz.laysC172 a0 c ha tp p w hv).mono ?_
  rintro e w' ⟨N, rfl, _, _, hb⟩
  exact ⟨_, rfl, .inr ⟨by simp, _, _, rfl⟩, hb⟩
theorem strconv_Atoi_60.callsN (a0 : ByteArray) (r1 : Int) (w : World) (h : strconv_Atoi_60.f a0 = some (r1, none)) (hE : LibMet w) :
  Calls Tryz.prog 60 #[.string a0] w fun e w' => e = .returned (.tuple #[.int .i64 r1, .nilIface]) ∧ Below w.heap.size w w' := by
 refine (strconv_Atoi_60.calls a0 r1 none w h hE).mono ?_
 rintro e w' ⟨ev, rfl, he, hb⟩
 rcases he with ⟨_, rfl⟩ | ⟨h, _⟩
 ·exact ⟨rfl, hb⟩
 ·exact absurd rfl h
theorem strconv_Atoi_60.callsS (a0 : ByteArray) (r1 c : Int) (w : World) (h : strconv_Atoi_60.f a0 = some (r1, some c)) (hE : LibMet w) :
  Calls Tryz.prog 60 #[.string a0] w fun e w' => ∃ t p, e = .returned (.tuple #[.int .i64 r1, .iface t p]) ∧ Below w.heap.size w w' := by
 refine (strconv_Atoi_60.calls a0 r1 (some c) w h hE).mono ?_
 rintro e w' ⟨ev, rfl, he, hb⟩
 rcases he with ⟨h, _⟩ | ⟨_, t, p, rfl⟩
 ·cases h
 ·exact ⟨t, p, rfl, hb⟩
end Go.Proofs.YteffjlhljeodpaaGreatDoor.G

namespace Go.Proofs.YteffjlhljeodpaaGreatDoor.G
open Go.RowKit Go.Proofs.YteffjlhljeodpaaGreatDoorW.PrintWords Go.Proofs.YteffjlhljeodpaaGreatDoorW.PrintLast Go.Proofs.YteffjlhljeodpaaGreatDoorW.PrintMore Go.Proofs.YteffjlhljeodpaaGreatDoor.EvL Go.Proofs.YteffjlhljeodpaaGreatDoor.TxtL Go.Proofs.YteffjlhljeodpaaGreatDoor.ReadM Go.Proofs.YteffjlhljeodpaaGreatDoor.Short
set_option linter.unusedVariables false
set_option linter.unusedSimpArgs false

def impl_typeRead.T15 : Bool × List (List Nat × List Nat) := (true, [([], []), ([0], [0]), ([], []), ([], []), ([2, 3], [2, 3]), ([], []), ([5], [5]), ([6, 1], [6]), ([7], [7]), ([8, 7], [7, 8]), ([9, 7], [7, 9]), ([7, 10], [7, 10]), ([1, 7, 0, 1], [1]), ([4, 12, 0, 1, 2, 3, 4, 12], [4]), ([11, 13, 0, 1, 2, 3, 4, 5, 6, 7, 8, 9, 10, 11, 12, 13], [11])])
def impl_typeRead.B15 : List Nat := [0, 1, 0, 0, 12, 0, 32, 99, 227, 483, 995, 2019, 227, 4351, 16383]
theorem impl_typeRead.tab15 : rtab .any (opsOf Tryz.f34 15) = impl_typeRead.T15 := by kernel_rfl
theorem impl_typeRead.bits15 : waitsOk impl_typeRead.T15.2 impl_typeRead.B15 = true := by kernel_rfl
theorem cutp (x : UInt8) (r : List UInt8) : strings_CutPrefix.f (B r) (B [x]) = some (B ((eat x r).getD r), (eat x r).isSome) := by
 unfold strings_CutPrefix.f
 rw [B_list, B_list]
 show some (B (Lib.trimPrefix r [x]), Lib.hasPrefix r [x]) = _
 rw [(trim_eat x r).1, (trim_eat x r).2]
theorem getD_len (x : UInt8) (r : List UInt8) : ((eat x r).getD r).length ≤ r.length := by
 cases h : eat x r with
 | none => exact Nat.le_refl _
 | some r' => rw [eat_some h]; simp
theorem digs_end : ∀ (m : Nat) (l : List UInt8), (digs m l).length < m → ∀ h : (digs m l).length < l.length, ¬ isD (l[(digs m l).length]'h)
 | 0, _, h, _ => by omega
 | _ + 1, [], _, h => by simp at h
 | m + 1, x :: l, h1, h2 => by
  have ih := digs_end m l
  by_cases hx : isD x
  ·have e : digs (m + 1) (x :: l) = x :: digs m l := if_pos hx
   simp only [e, List.length_cons] at h1 h2 ⊢
   exact ih (by omega) (by omega)
  ·have e : digs (m + 1) (x :: l) = [] := if_neg hx
   simp only [e, List.length_nil]
   exact hx
set_option maxHeartbeats 8000000 in
set_option maxRecDepth 100000 in
theorem impl_typeRead.calls : ∀ (d : Nat) (l : List UInt8) (w : World) (hd : d ≤ 61) (hl : l.length ≤ 1099511627776) (hE : Met w),
  Calls Tryz.prog 34 #[.string (B l), .int .i64 (61 - (d : Int))] w fun e w' => ∃ (x : Option Addr) (r : List UInt8) (ok : Bool), e = .returned (.tuple #[.pointer x, .string (B r), .bool ok]) ∧ r.length ≤ l.length ∧ Below w.heap.size w w' ∧ ReadsAs ((yrd 4 d l)) w' x r ok
 | 0, l, w, hd, hl, hE => by
  go_enter Tryz.func34, Tryz.ntmps34
  go_wp2
  go_ret3
  exact ⟨none, [], false, rfl, Nat.zero_le _, Below.refl _ _, .inl ⟨rfl, rfl⟩⟩
 | d + 1, [], w, hd, hl, hE => by
  obtain ⟨dp, hdp⟩ : ∃ z : Int, z = 61 - ((d + 1 : Nat) : Int) := ⟨_, rfl⟩
  rw [← hdp]
  have z1 : decide (60 < dp) = false := decide_eq_false (by omega)
  have z2 : (B []).toList.isEmpty = true := by rw [toList_B]; rfl
  clear hdp
  go_enter Tryz.func34, Tryz.ntmps34
  go_wp2
  go_ret3
  exact ⟨none, [], false, rfl, Nat.zero_le _, Below.refl _ _, .inl ⟨rfl, rfl⟩⟩
 | d + 1, c :: s, w, hd, hl, hE => by
  obtain ⟨dp, hdp⟩ : ∃ z : Int, z = 61 - ((d + 1 : Nat) : Int) := ⟨_, rfl⟩
  rw [← hdp]
  obtain ⟨S, hS⟩ : ∃ S, S = B (c :: s) := ⟨_, rfl⟩
  rw [← hS]
  have hsz : S.size = s.length + 1 := by rw [hS, B_size]; rfl
  have hb0 : bt S 0 = (c.toNat : Int) := by rw [hS]; exact bt_B (c :: s) 0 (by simp)
  have z1 : decide (60 < dp) = false := decide_eq_false (by omega)
  have z2 : S.toList.isEmpty = false := by rw [hS, toList_B]; rfl
  have HL : Aside0 (s.length + 1 ≤ 1099511627776) := ⟨hl⟩
  have HD : Aside0 (d ≤ 61 ∧ dp = 60 - (d : Int)) := ⟨by omega, by omega⟩
  have HE := aK hE
  have HS := aK hS
  have HZ := aK hsz
  have q1 : (0 < S.size) = True := eq_true (by omega)
  have hx : ∀ h : 0 < S.size, ((S[0]'h).toNat : Int) = (c.toNat : Int) := fun h => (bt_at S 0 h).trans hb0
  clear hd hl hE hdp
  by_cases c40 : c = 40
  ·subst c40
   replace hx : ∀ h : 0 < S.size, ((S[0]'h).toNat : Int) = 40 := hx
   have q2 : (1 ≤ S.size) = True := eq_true (by omega)
   have q3 : ((1 : Int) ≤ (S.size : Int)) = True := eq_true (by omega)
   have e1 : S.extract 1 S.size = B s := by rw [hS]; exact ext_drop _ 1 _ (by rw [B_size])
   have E1 := aK e1
   have EW : Aside0 (wrap64 (dp + 1) = 61 - (d : Int)) := ⟨by rw [w64 (by have := HD.out; omega) (by have := HD.out; omega)]; have := HD.out; omega⟩
   clear e1 hS hsz hb0
   go_enter Tryz.func34, Tryz.ntmps34
   go_upto_region 5 with (first
    | ((with_reducible refine gate_callee (f := 34) rfl ?_); refine goesL_ (some 34) rfl rfl Tryz.func34 (by kernel_rfl) rfl #[.string (S.extract 1 S.size), .int .i64 (wrap64 (dp + 1))] rfl tA ?_; rw [E1.out, EW.out]; (with_reducible refine (impl_typeRead.calls d s w ?s1 ?s2 HE.out).mono ?_); (case s1 => exact HD.out.1); (case s2 => have := HL.out; omega); rintro _ w1 ⟨x1, r1, ok1, rfl, hlen1, hb, hr1⟩; refine ⟨_, rfl, ?_⟩; have R1 := aK hr1; have L1 := aK hlen1; have HB := aK hb; clear hr1 hlen1 hb))
   obtain ⟨r2, hr2⟩ : ∃ z, z = (eat 62 r1).getD r1 := ⟨_, rfl⟩
   obtain ⟨ok2, hok2⟩ : ∃ z, z = (eat 62 r1).isSome := ⟨_, rfl⟩
   have CP := aK (cutp 62 r1)
   rw [← hr2, ← hok2] at CP
   have L2 : Aside0 (r2.length ≤ s.length) := ⟨by have := getD_len 62 r1; rw [hr2]; have := L1.out; omega⟩
   have K2 := aK hr2
   have O2 := aK hok2
   clear hr2 hok2
   go_upto_region 6 with (first
    | ((with_reducible refine gate_callee (f := 59) rfl ?_); refine goesL_ (some 40) rfl rfl Tryz.func59 (by kernel_rfl) rfl #[.string (B r1), .string (B [62])] rfl tA ?_; (with_reducible refine (strings_CutPrefix.calls (B r1) (B [62]) (B r2) ok2 w1 ?s1).mono ?_); (case s1 => exact CP.out); rintro _ w2 ⟨rfl, hb⟩; refine ⟨_, rfl, ?_⟩; have HB2 := aK (below_step HB.out hb); have R2 := aK (R1.out.below hb); clear hb R1 HB))
   cases ok1 with
   | false =>
    have hn : yrd 4 d s = none := by
     rcases R2.out with ⟨h, _⟩ | ⟨t, _, h, _⟩
     ·exact h
     ·cases h
    have hN : yrd 4 (d + 1) (40 :: s) = none := by rw [yrd, if_pos rfl, hn]; rfl
    have HN := aK hN
    clear hn hN
    go_wp2
    go_ret3
    exact ⟨none, [], false, rfl, Nat.zero_le _, HB2.out, .inl ⟨HN.out, rfl⟩⟩
   | true =>
    have h1 : ∃ t1, yrd 4 d s = some (t1, r1) ∧ IsT w2 t1 (.pointer x1) := by
     rcases R2.out with ⟨_, h⟩ | ⟨t, h, _, h2⟩
     ·cases h
     ·exact ⟨t, h, h2⟩
    obtain ⟨t1, y1, i1⟩ := h1
    have Y1 := aK y1
    have I1 := aK i1
    clear y1 i1
    cases ok2 with
    | false =>
     have hN : yrd 4 (d + 1) (40 :: s) = none := by
      have he : eat 62 r1 = none := by
       have := O2.out
       cases h : eat 62 r1 with
       | none => rfl
       | some z => rw [h] at this; cases this
      rw [yrd, if_pos rfl, Y1.out, Option.bind_some, he]; rfl
     have HN := aK hN
     clear hN
     go_wp2
     go_ret3
     exact ⟨none, [], false, rfl, Nat.zero_le _, HB2.out, .inl ⟨HN.out, rfl⟩⟩
    | true =>
     have he : eat 62 r1 = some r2 := by
      have h0 := O2.out
      have h1 := K2.out
      cases h : eat 62 r1 with
      | none => rw [h] at h0; cases h0
      | some z => rw [h] at h1; rw [h1]; rfl
     have E2 := aK he
     clear he
     go_upto_region 9 with (first
      | ((with_reducible refine gate_callee (f := 34) rfl ?_); refine goesL_ (some 53) rfl rfl Tryz.func34 (by kernel_rfl) rfl #[.string (B r2), .int .i64 (wrap64 (dp + 1))] rfl tA ?_; rw [EW.out]; (with_reducible refine (impl_typeRead.calls d r2 w2 ?s1 ?s2 ?s3).mono ?_); (case s1 => exact HD.out.1); (case s2 => have := HL.out; have := L2.out; omega); (case s3 => exact HE.out.below HB2.out); rintro _ w3 ⟨x3, r3, ok3, rfl, hlen3, hb, hr3⟩; refine ⟨_, rfl, ?_⟩; have R3 := aK hr3; have L3 := aK hlen3; have HB3 := aK (below_step HB2.out hb); have I2 := aK (I1.out.below hb); clear hr3 hlen3 hb I1 HB2))
     obtain ⟨r4, hr4⟩ : ∃ z, z = (eat 41 r3).getD r3 := ⟨_, rfl⟩
     obtain ⟨ok4, hok4⟩ : ∃ z, z = (eat 41 r3).isSome := ⟨_, rfl⟩
     have CP4 := aK (cutp 41 r3)
     rw [← hr4, ← hok4] at CP4
     have L4 : Aside0 (r4.length ≤ s.length) := ⟨by have := getD_len 41 r3; rw [hr4]; have := L3.out; have := L2.out; omega⟩
     have K4 := aK hr4
     have O4 := aK hok4
     clear hr4 hok4
     cases ok3 with
     | false =>
      have hN : yrd 4 (d + 1) (40 :: s) = none := by
       have hn : yrd 4 d r2 = none := by
        rcases R3.out with ⟨h, _⟩ | ⟨t, _, h, _⟩
        ·exact h
        ·cases h
       rw [yrd, if_pos rfl, Y1.out, Option.bind_some, E2.out, Option.bind_some, hn]; rfl
      have HN := aK hN
      clear hN
      go_wp2_with (first
       | ((with_reducible refine gate_callee (f := 59) rfl ?_); refine goesL_ (some 59) rfl rfl Tryz.func59 (by kernel_rfl) rfl #[.string (B r3), .string (B [41])] rfl tA ?_; (with_reducible refine (strings_CutPrefix.calls (B r3) (B [41]) (B r4) ok4 w3 ?s1).mono ?_); (case s1 => exact CP4.out); rintro _ w4 ⟨rfl, hb⟩; refine ⟨_, rfl, ?_⟩; have HB4 := aK (below_step HB3.out hb); clear hb)
       | ((with_reducible refine gate_callee (f := 50) rfl ?_); refine goesL_ (some 64) rfl rfl Tryz.func50 (by kernel_rfl) rfl #[.pointer x1, .pointer x3] rfl tA ?_; refine (impl_arrow.made x1 x3 w4).mono ?_; rintro _ w5 ⟨g, p, rfl, hg, hp, hb⟩; refine ⟨_, rfl, ?_⟩; have HB5 := aK (below_step HB4.out hb); clear hb hg hp))
      go_ret3
      exact ⟨_, r4, false, rfl, by have := L4.out; show _ ≤ s.length + 1; omega, HB5.out, .inl ⟨HN.out, rfl⟩⟩
     | true =>
      have h3 : ∃ t2, yrd 4 d r2 = some (t2, r3) ∧ IsT w3 t2 (.pointer x3) := by
       rcases R3.out with ⟨_, h⟩ | ⟨t, h, _, h2⟩
       ·cases h
       ·exact ⟨t, h, h2⟩
      obtain ⟨t2, y2, i2⟩ := h3
      have Y2 := aK y2
      have I3 := aK i2
      clear y2 i2
      go_wp2_with (first
       | ((with_reducible refine gate_callee (f := 59) rfl ?_); refine goesL_ (some 59) rfl rfl Tryz.func59 (by kernel_rfl) rfl #[.string (B r3), .string (B [41])] rfl tA ?_; (with_reducible refine (strings_CutPrefix.calls (B r3) (B [41]) (B r4) ok4 w3 ?s1).mono ?_); (case s1 => exact CP4.out); rintro _ w4 ⟨rfl, hb⟩; refine ⟨_, rfl, ?_⟩; have HB4 := aK (below_step HB3.out hb); have I4 := aK (I2.out.below hb); have I5 := aK (I3.out.below hb); clear hb)
       | ((with_reducible refine gate_callee (f := 50) rfl ?_); refine goesL_ (some 64) rfl rfl Tryz.func50 (by kernel_rfl) rfl #[.pointer x1, .pointer x3] rfl tA ?_; refine (impl_arrow.made x1 x3 w4).mono ?_; rintro _ w5 ⟨g, p, rfl, hg, hp, hb⟩; refine ⟨_, rfl, ?_⟩; have HB5 := aK (below_step HB4.out hb); have IA : Aside0 (IsT w5 (.a t1 t2) (.pointer (some ⟨g, 0, none⟩))) := ⟨⟨g, p, _, _, rfl, hg, hp, I4.out.below hb, I5.out.below hb⟩⟩; clear hb hg hp))
      go_ret3
      refine ⟨_, r4, ok4, rfl, by have := L4.out; show _ ≤ s.length + 1; omega, HB5.out, ?_⟩
      have hO : yrd 4 (d + 1) (40 :: s) = (eat 41 r3).bind fun r => some (.a t1 t2, r) := by
       rw [yrd, if_pos rfl, Y1.out, Option.bind_some, E2.out, Option.bind_some, Y2.out, Option.bind_some]
      have h0 := O4.out
      have h1 := K4.out
      cases h : eat 41 r3 with
      | none => rw [h] at h0 hO; exact .inl ⟨hO, h0⟩
      | some z =>
       rw [h] at h0 h1 hO
       exact .inr ⟨.a t1 t2, by rw [hO, h1]; rfl, h0, IA.out⟩
  ·obtain ⟨n, hn⟩ : ∃ n, n = (digs 4 s).length := ⟨_, rfl⟩
   have hdl := digs_len 4 s
   have NL : Aside0 (n ≤ 4 ∧ n ≤ s.length) := ⟨by rw [hn]; exact hdl⟩
   have DA : Aside0 (∀ j, j < n → 48 ≤ bt S ((j : Int) + 1) ∧ bt S ((j : Int) + 1) ≤ 57) := ⟨fun j hj => by
    have hp := digs_pre 4 s
    have hjs : j < s.length := by omega
    have hd := digs_all 4 s ((digs 4 s)[j]'(by omega)) (List.getElem_mem _)
    have e : s[j] = (digs 4 s)[j]'(by omega) := by
     have : s[j]? = (digs 4 s)[j]? := by
      conv => lhs; rw [hp]
      rw [List.getElem?_append_left (by omega)]
     rw [List.getElem?_eq_getElem hjs, List.getElem?_eq_getElem (by omega)] at this
     exact Option.some.inj this
    have eb : bt S ((j : Int) + 1) = (s[j].toNat : Int) := by
     rw [hS]
     exact (bt_B (c :: s) (j + 1) (by simp; omega))
    rw [eb, e]
    unfold isD at hd
    omega⟩
   have DE : Aside0 (n < s.length → n < 4 → ¬ (48 ≤ bt S ((n : Int) + 1) ∧ bt S ((n : Int) + 1) ≤ 57)) := ⟨fun h1 h4 hb => by
    have eb : bt S ((n : Int) + 1) = (s[n].toNat : Int) := by
     rw [hS]
     exact (bt_B (c :: s) (n + 1) (by simp; omega))
    rw [eb] at hb
    have hD : isD s[n] := by unfold isD; omega
    have := digs_end 4 s (by omega) (by omega)
    exact this (by simpa [← hn] using hD)⟩
   have hne : (((S[0]'(by omega)).toNat : Int) == 40) = false := by
    rw [hx (by omega)]
    have : (c.toNat : Int) ≠ 40 := fun h => c40 (by have h2 : c.toNat = 40 := by { omega }; rw [show c = UInt8.ofNat c.toNat by simp, h2]; rfl)
    simpa using this
   have HX := aK hx
   replace hx : ∀ h : 0 < S.size, (((S[0]'h).toNat : Int) == 40) = false := fun _ => hne
   have HN := aK hn
   have HC := aK c40
   clear hn hdl hne c40 hS hsz hb0
   go_enter Tryz.func34, Tryz.ntmps34
   go_upto_block 1 with fail
   go_cut [15] (fun v15 wc => v15 = .int .i64 ((n : Int) + 1) ∧ Aside0 (Below w.heap.size w wc))
   case first =>
    go_wp2
    go_loopg [15] n (fun gk v15 w' => ∃ (i : Int) (j : Nat), v15 = .int .i64 i ∧ Aside0 (i = (j : Int) + 1 ∧ gk + j = n) ∧ Aside0 (Below w.heap.size w w'))
    case atStart => exact ⟨1, 0, rfl, ⟨rfl, rfl⟩, ⟨Below.refl _ _⟩⟩
    case round =>
     obtain ⟨i, j, rfl, HJ, HB⟩ := hrel
     have hZ := HZ.out
     have hL := NL.out
     have h0 : 0 ≤ i := by have := HJ.out; omega
     have p1 := eq_true h0
     have hxi := bt_at S i
     cases gk with
     | zero =>
      have hj : j = n := by have := HJ.out; omega
      have hi : i = (n : Int) + 1 := by have := HJ.out; omega
      by_cases ca : n = s.length
      ·have s1 : decide (i < (S.size : Int)) = false := decide_eq_false (by omega)
       have RI : Aside0 (i = (n : Int) + 1) := ⟨hi⟩
       clear ca hj hi hZ hL h0
       go_wp2
       go_meet
       case rel => exact ⟨by rw [RI.out], HB⟩
      ·have s1 : decide (i < (S.size : Int)) = true := decide_eq_true (by omega)
       have q4 : (i < (S.size : Int)) = True := eq_true (by omega)
       by_cases cb : n = 4
       ·have s2 : decide (i < 5) = false := decide_eq_false (by omega)
        have RI : Aside0 (i = (n : Int) + 1) := ⟨hi⟩
        clear ca cb hj hi hZ hL h0
        go_wp2
        go_meet
        case rel => exact ⟨by rw [RI.out], HB⟩
       ·have s2 : decide (i < 5) = true := decide_eq_true (by omega)
        have hde := DE.out (by omega) (by omega)
        rw [← hi] at hde
        have RI : Aside0 (i = (n : Int) + 1) := ⟨hi⟩
        by_cases cc : 48 ≤ bt S i
        ·have s3 : decide (48 ≤ bt S i) = true := decide_eq_true cc
         have s4 : decide (bt S i ≤ 57) = false := decide_eq_false (fun h => hde ⟨cc, h⟩)
         clear ca cb hj hi hZ hL h0 hde cc
         go_wp2
         go_meet
         case rel => exact ⟨by rw [RI.out], HB⟩
        ·have s3 : decide (48 ≤ bt S i) = false := decide_eq_false cc
         clear ca cb hj hi hZ hL h0 hde cc
         go_wp2
         go_meet
         case rel => exact ⟨by rw [RI.out], HB⟩
     | succ k1 =>
      have hd := DA.out j (by have := HJ.out; omega)
      have s1 : decide (i < (S.size : Int)) = true := decide_eq_true (by have := HJ.out; omega)
      have q4 : (i < (S.size : Int)) = True := eq_true (by have := HJ.out; omega)
      have s2 : decide (i < 5) = true := decide_eq_true (by have := HJ.out; omega)
      rw [← HJ.out.1] at hd
      have s3 : decide (48 ≤ bt S i) = true := decide_eq_true hd.1
      have s4 : decide (bt S i ≤ 57) = true := decide_eq_true hd.2
      clear hd hZ hL h0
      go_wp2
      go_roundg k1
      case measure => omega
      case rel => exact ⟨i + 1, j + 1, by rw [w64 (by have := HJ.out; have := NL.out; omega) (by have := HJ.out; have := NL.out; omega)], ⟨by have := HJ.out; omega, by have := HJ.out; omega⟩, HB⟩
   case rest =>
    obtain ⟨rfl, HB⟩ := hcut
    have q5 : ((1 : Int) ≤ (n : Int) + 1) = True := eq_true (by omega)
    have q6 : ((n : Int) + 1 ≤ (S.size : Int)) = True := eq_true (by have := HZ.out; have := NL.out; omega)
    have q7 : ((0 : Int) ≤ (n : Int) + 1) = True := eq_true (by omega)
    have EX : S.extract 1 (n + 1) = B (digs 4 s) := by
     have hp := digs_pre 4 s
     rw [HS.out]
     refine data_inj ?_
     rw [B_list]
     have h1 : ((B (c :: s)).extract 1 (n + 1)).data.toList = s.take n := by
      have : (B (c :: s)).extract 1 (n + 1) = B (s.take n) := by
       apply ByteArray.ext
       simp [B, List.drop_take]
      rw [this, B_list]
     rw [h1, HN.out]
     have h2 := congrArg (List.take (digs 4 s).length) hp
     rw [List.take_left] at h2
     exact h2
    have ED : S.extract (n + 1) S.size = B (s.drop n) := by
     rw [HS.out]
     exact ext_drop (c :: s) (n + 1) _ (by rw [B_size])
    have ED1 := aK ED
    by_cases h0 : digs 4 s = []
    ·have hN : yrd 4 (d + 1) (c :: s) = none := by rw [yrd, if_neg HC.out, if_neg (fun h => h.2 h0)]
     have hA : strconv_Atoi_60.f (B []) = some (0, some 2) := rfl
     rw [h0] at EX
     have EX1 := aK EX
     have A1 := aK hA
     have HNo := aK hN
     clear EX hA hN h0 ED
     go_upto_region 15 with (first
      | (go_at_call 60; rw [EX1.out]; refine (strconv_Atoi_60.callsS (B []) 0 2 wc A1.out (HE.out.below HB.out).lib).mono ?_; rintro _ w4 ⟨ti, pi, rfl, hb⟩; have HB4 := aK (below_step HB.out hb); clear hb))
     refine start_ (n := 15) (S := fun w' => True) (ds := []) (bs 0 15) (by kernel_rfl) rfl rfl trivial (fun hHeld => ?_); refine with_tabW impl_typeRead.tab15 impl_typeRead.bits15 (fun HT_ HW_ => ?_)
     have HB6 := aK (below_drew1 HB4.out)
     clear HB4
     generalize w4.drew = w6 at HB6 hHeld ⊢
     refine pQ 0 99 HT_ ?_
     refine pQ 2 101 HT_ ?_
     refine pQ 3 102 HT_ ?_
     refine pQ 4 103 HT_ ?_
     refine pQ 5 104 HT_ ?_
     refine pQ 6 105 HT_ ?_
     refine oQ 1 100 HT_ (fun K hK => ?_)
     refine goes_ Tryz.func61 (by kernel_rfl) rfl #[.int .i64 0] (by rfl) rfl rfl tA ?_
     refine (impl_typeVar.calls 0 w6).mono ?_
     rintro _ w5 ⟨xv, rfl, hv, hb⟩
     obtain ⟨gv, rfl⟩ := hv.ptr
     refine ⟨_, rfl, ?_⟩
     have HV := aK hv
     have HB5 := aK (below_step HB6.out hb)
     clear hb hv
     refine hK.out _ _ trivial (fun hHeld => ?_)
     clear hK K
     refine nQ 100 ?_
     refine pQ 7 106 HT_ ?_
     refine uQ 8 107 HT_ ?_
     refine uQ 9 108 HT_ ?_
     refine uQ 10 109 HT_ ?_
     refine pQ 11 110 HT_ ?_
     refine pQ 12 4 HT_ ?_
     refine pQ 13 5 HT_ ?_
     refine pQ 14 6 HT_ ?_
     refine done_ (done_of HT_.out (by kernel_rfl)) ?_
     go_wp2
     go_ret3
     exact ⟨_, s.drop n, false, by rw [ED1.out]; rfl, by rw [List.length_drop]; show _ ≤ s.length + 1; omega, HB5.out, .inl ⟨HNo.out, rfl⟩⟩
    ·have hA : strconv_Atoi_60.f (B (digs 4 s)) = some (((valF 0 (digs 4 s) : Nat) : Int), none) := by
      have hv := val_le 4 (digs 4 s) (digs_all 4 s) (digs_len 4 s).1
      have ha := atoi_digits (digs 4 s) (digs_all 4 s) h0 (by omega)
      unfold strconv_Atoi_60.f atoiNum atoiErr
      rw [if_pos (by rw [B_size]; have := (digs_len 4 s).1; omega), B_list, ha]
     obtain ⟨v, hv⟩ : ∃ z : Int, z = ((valF 0 (digs 4 s) : Nat) : Int) := ⟨_, rfl⟩
     rw [← hv] at hA
     have EX1 := aK EX
     have A1 := aK hA
     have H0 := aK h0
     have V0 := aK hv
     clear EX hA h0 ED hv
     go_upto_region 15 with (first
      | (go_at_call 60; rw [EX1.out]; refine (strconv_Atoi_60.callsN (B (digs 4 s)) v wc A1.out (HE.out.below HB.out).lib).mono ?_; rintro _ w4 ⟨rfl, hb⟩; have HB4 := aK (below_step HB.out hb); clear hb))
     by_cases c116 : c = 116
     ·replace hx : ∀ h : 0 < S.size, (((S[0]'h).toNat : Int) == 116) = true := fun h => by rw [HX.out h, c116]; rfl
      have hO : yrd 4 (d + 1) (c :: s) = some (.v v, s.drop n) := by rw [yrd, if_neg HC.out, if_pos ⟨c116, H0.out⟩, V0.out, HN.out]
      have OO := aK hO
      clear hO c116
      refine start_ (n := 15) (S := fun w' => True) (ds := []) (bs 0 15) (by kernel_rfl) rfl rfl trivial (fun hHeld => ?_); refine with_tabW impl_typeRead.tab15 impl_typeRead.bits15 (fun HT_ HW_ => ?_)
      have HB6 := aK (below_drew1 HB4.out)
      clear HB4
      generalize w4.drew = w6 at HB6 hHeld ⊢
      refine pQ 0 99 HT_ ?_
      refine pQ 2 101 HT_ ?_
      refine pQ 3 102 HT_ ?_
      refine pQ 4 103 HT_ ?_
      refine pQ 5 104 HT_ ?_
      refine pQ 6 105 HT_ ?_
      refine oQ 1 100 HT_ (fun K hK => ?_)
      refine goes_ Tryz.func61 (by kernel_rfl) rfl #[.int .i64 v] (by rfl) rfl rfl tA ?_
      refine (impl_typeVar.calls v w6).mono ?_
      rintro _ w5 ⟨xv, rfl, hv, hb⟩
      obtain ⟨gv, rfl⟩ := hv.ptr
      refine ⟨_, rfl, ?_⟩
      have HV := aK hv
      have HB5 := aK (below_step HB6.out hb)
      clear hb hv
      refine hK.out _ _ trivial (fun hHeld => ?_)
      clear hK K
      refine nQ 100 ?_
      refine pQ 7 106 HT_ ?_
      refine pQ 8 107 HT_ ?_
      refine pQ 9 108 HT_ ?_
      refine pQ 10 109 HT_ ?_
      refine pQ 11 110 HT_ ?_
      refine pQ 12 4 HT_ ?_
      refine pQ 13 5 HT_ ?_
      refine pQ 14 6 HT_ ?_
      refine done_ (done_of HT_.out (by kernel_rfl)) ?_
      go_wp2
      go_ret3
      exact ⟨_, s.drop n, true, by rw [ED1.out]; rfl, by rw [List.length_drop]; show _ ≤ s.length + 1; omega, HB5.out, .inr ⟨_, OO.out, rfl, HV.out⟩⟩
     ·replace hx : ∀ h : 0 < S.size, (((S[0]'h).toNat : Int) == 116) = false := fun h => by
       rw [HX.out h]
       have : (c.toNat : Int) ≠ 116 := fun h => c116 (by have h2 : c.toNat = 116 := by { omega }; rw [show c = UInt8.ofNat c.toNat by simp, h2]; rfl)
       simpa using this
      have hN : yrd 4 (d + 1) (c :: s) = none := by rw [yrd, if_neg HC.out, if_neg (fun h => c116 h.1)]
      have HNo := aK hN
      clear hN c116
      refine start_ (n := 15) (S := fun w' => True) (ds := []) (bs 0 15) (by kernel_rfl) rfl rfl trivial (fun hHeld => ?_); refine with_tabW impl_typeRead.tab15 impl_typeRead.bits15 (fun HT_ HW_ => ?_)
      have HB6 := aK (below_drew1 HB4.out)
      clear HB4
      generalize w4.drew = w6 at HB6 hHeld ⊢
      refine pQ 0 99 HT_ ?_
      refine pQ 2 101 HT_ ?_
      refine pQ 3 102 HT_ ?_
      refine pQ 4 103 HT_ ?_
      refine pQ 5 104 HT_ ?_
      refine pQ 6 105 HT_ ?_
      refine oQ 1 100 HT_ (fun K hK => ?_)
      refine goes_ Tryz.func61 (by kernel_rfl) rfl #[.int .i64 v] (by rfl) rfl rfl tA ?_
      refine (impl_typeVar.calls v w6).mono ?_
      rintro _ w5 ⟨xv, rfl, hv, hb⟩
      obtain ⟨gv, rfl⟩ := hv.ptr
      refine ⟨_, rfl, ?_⟩
      have HV := aK hv
      have HB5 := aK (below_step HB6.out hb)
      clear hb hv
      refine hK.out _ _ trivial (fun hHeld => ?_)
      clear hK K
      refine nQ 100 ?_
      refine pQ 7 106 HT_ ?_
      refine pQ 8 107 HT_ ?_
      refine pQ 9 108 HT_ ?_
      refine pQ 10 109 HT_ ?_
      refine pQ 11 110 HT_ ?_
      refine pQ 12 4 HT_ ?_
      refine pQ 13 5 HT_ ?_
      refine pQ 14 6 HT_ ?_
      refine done_ (done_of HT_.out (by kernel_rfl)) ?_
      go_wp2
      go_ret3
      exact ⟨_, s.drop n, false, by rw [ED1.out]; rfl, by rw [List.length_drop]; show _ ≤ s.length + 1; omega, HB5.out, .inl ⟨HNo.out, rfl⟩⟩
end Go.Proofs.YteffjlhljeodpaaGreatDoor.G

namespace Go.Proofs.YteffjlhljeodpaaGreatDoor.G
open Go.RowKit Go.Proofs.YteffjlhljeodpaaGreatDoorW.PrintWords Go.Proofs.YteffjlhljeodpaaGreatDoorW.PrintLast Go.Proofs.YteffjlhljeodpaaGreatDoorW.PrintMore Go.Proofs.YteffjlhljeodpaaGreatDoor.Short
set_option linter.unusedVariables false
set_option linter.unusedSimpArgs false

def Tells (g : Nat) (lb : Array Value) (p : Int → Bool) (w : World) : Prop :=
 ∀ (W : World) (x : Int), Below w.heap.size w W → Calls Tryz.prog g (#[.int .i64 x] ++ lb) W fun e w' => e = .returned (.bool (p x)) ∧ Below W.heap.size W w'

theorem any_take_succ (p : Int → Bool) (l : List Int) (i : Int) (h0 : 0 ≤ i) (h1 : i < l.length) (h : (l.take i.toNat).any p = false) (hx : p (rd l i) = false) : (l.take (i + 1).toNat).any p = false := by
 have hlt : i.toNat < l.length := by omega
 rw [show (i + 1).toNat = i.toNat + 1 by omega, List.take_succ_eq_append_getElem hlt, List.any_append, h]
 have e : rd l i = l[i.toNat] := by unfold rd; rw [List.getD_eq_getElem?_getD, List.getElem?_eq_getElem hlt]; rfl
 rw [← e]; simp [hx]
theorem any_at (p : Int → Bool) (l : List Int) (i : Int) (h0 : 0 ≤ i) (h1 : i < l.length) (hx : p (rd l i) = true) : l.any p = true := by
 have hlt : i.toNat < l.length := by omega
 have e : rd l i = l[i.toNat] := by unfold rd; rw [List.getD_eq_getElem?_getD, List.getElem?_eq_getElem hlt]; rfl
 rw [List.any_eq_true]
 exact ⟨l[i.toNat], List.getElem_mem hlt, by rw [← e]; exact hx⟩

set_option maxHeartbeats 1000000 in
set_option maxRecDepth 100000 in
theorem index_some (g : Nat) (lb : Array Value) (p : Int → Bool) (A0 : Option Addr) (c0 : Nat) (l0 : List Int) (w : World) (hr0 : Kd.C (Kd.int .i64) w A0 l0.length l0)
  (eg : ∀ (args : Array Value) (w : World), (callFunc g args).run Tryz.prog w = .ok (.enter g args) w) (hp : Tells g lb p w) :
  Calls Tryz.prog 75 #[.slice A0 l0.length c0, .func (.func g) #[] lb] w fun e w' => (∃ r : Int, e = .returned (.int .i64 r) ∧ decide (0 ≤ r) = l0.any p) ∧ Below w.heap.size w w' := by
 have HR0 := aK hr0
 have HL := aK hr0.2.1
 clear hr0
 have HP := aK hp
 clear hp
 have HB := aK (Below.refl w.heap.size w)
 go_enter Tryz.func75, Tryz.ntmps75
 go_wp2
 go_loopg [8] (l0.length + 1) (fun kq v8 w' => ∃ (i : Int), v8 = .int .i64 i ∧ Aside0 (0 ≤ i ∧ i ≤ l0.length ∧ (kq : Int) = l0.length - i + 1 ∧ (l0.take i.toNat).any p = false) ∧ Aside0 (Below w.heap.size w w'))
 case atStart => exact ⟨0, rfl, ⟨by omega, by omega, by omega, by simp⟩, HB⟩
 case round =>
  clear HB
  obtain ⟨i, rfl, HA, HB1⟩ := hrel
  by_cases c : i < (l0.length : Int)
  ·have cb : decide (i < (l0.length : Int)) = true := decide_eq_true c
   have cz : decide (0 ≤ i) = true := decide_eq_true HA.out.1
   obtain ⟨ad, e1, hx0⟩ := Kd.at_int (Kd.C_below HR0.out HB1.out) i HA.out.1 c
   cases e1
   have p1 := eq_true HA.out.1
   have q1 := eq_true c
   have w1 : wrap64 (i + 1) = i + 1 := by have := HA.out.1; have := HA.out.2.1; have := HL.out; unfold wrap64; omega
   have W1 := aK w1
   have Cc := aK c
   clear c w1
   go_wp2_with fail
   refine (HP.out _ (rd l0 i) HB1.out).mono ?_
   rintro e w' ⟨rfl, hb⟩
   have HB2 := aK (below_step HB1.out hb)
   clear hb
   by_cases hpx : p (rd l0 i) = true
   ·have HX := aK hpx
    go_wp2
    go_ret
    exact ⟨⟨i, rfl, by rw [any_at p l0 i HA.out.1 Cc.out HX.out]; exact decide_eq_true HA.out.1⟩, HB2.out⟩
   ·replace hpx := Bool.eq_false_iff.mpr hpx
    have HX := aK hpx
    obtain ⟨k1, rfl⟩ : ∃ m, gk = m + 1 := ⟨gk - 1, by have := HA.out; omega⟩
    go_wp2
    go_roundg k1
    case measure => omega
    case rel => exact ⟨i + 1, by first | rfl | rw [W1.out], ⟨by have := HA.out; omega, by have := HA.out; have := Cc.out; omega, by have := HA.out; omega, any_take_succ p l0 i HA.out.1 Cc.out HA.out.2.2.2 HX.out⟩, HB2⟩
  ·have cb : decide (i < (l0.length : Int)) = false := decide_eq_false c
   have Cc := aK c
   clear c
   go_wp2
   go_ret
   refine ⟨⟨-1, rfl, ?_⟩, HB1.out⟩
   have h := HA.out.2.2.2
   rw [List.take_of_length_le (by have := HA.out; have := Cc.out; omega)] at h
   rw [h]; rfl

set_option maxHeartbeats 1000000 in
set_option maxRecDepth 100000 in
theorem contains_some (g : Nat) (lb : Array Value) (p : Int → Bool) (A0 : Option Addr) (c0 : Nat) (l0 : List Int) (w : World) (hr0 : Kd.C (Kd.int .i64) w A0 l0.length l0)
  (eg : ∀ (args : Array Value) (w : World), (callFunc g args).run Tryz.prog w = .ok (.enter g args) w) (hp : Tells g lb p w) :
  Calls Tryz.prog 52 #[.slice A0 l0.length c0, .func (.func g) #[] lb] w fun e w' => e = .returned (.bool (l0.any p)) ∧ Below w.heap.size w w' := by
 go_enter Tryz.func52, Tryz.ntmps52
 go_wp2_with fail
 refine (index_some g lb p A0 c0 l0 _ hr0 eg hp).mono ?_
 rintro e w' ⟨⟨r, rfl, hr⟩, hb⟩
 have HR := aK hr
 clear hr
 go_wp2
 go_ret
 exact ⟨by rw [← HR.out]; rfl, hb⟩

def noVar (n : Int) : Bool := decide (n < 0) || decide (999 < n)
theorem lit_some (x : Int) (W : World) : Calls Tryz.prog 53 #[.int .i64 x] W fun e w' => e = .returned (.bool (noVar x)) ∧ Below W.heap.size W w' := by
 by_cases c : x < 0
 ·have z : decide (x < 0) = true := decide_eq_true c
  go_enter Tryz.func53, Tryz.ntmps53
  go_wp2
  go_ret
  exact ⟨by simp [noVar, z], Below.refl _ _⟩
 ·have z : decide (x < 0) = false := decide_eq_false c
  go_enter Tryz.func53, Tryz.ntmps53
  go_wp2
  go_ret
  exact ⟨by simp [noVar, z], Below.refl _ _⟩
def Ty.good (t : Ty) : Bool := (decide ((t.meas 200).1 ≤ 200) && decide ((t.meas 200).2 ≤ 60)) && !(t.vars.any noVar)
set_option maxHeartbeats 4000000 in
set_option maxRecDepth 100000 in
theorem impl_typ_isGood.calls (t : Ty) (x : Value) (w : World) (h : IsT w t x) (hn : t.nodes ≤ 1099511627776) : Calls Tryz.prog 24 #[x] w fun e w' => e = .returned (.bool t.good) ∧ Below w.heap.size w w' := by
 have eg := enters_ Tryz.func53 (by kernel_rfl) rfl
 have HX := aK h
 have HN := aK hn
 obtain ⟨g, rfl⟩ := h.ptr
 obtain ⟨q1, q2, hq⟩ : ∃ a b, t.meas 200 = (a, b) := ⟨_, _, rfl⟩
 have MQ := aK hq
 have hG : t.good = ((decide (q1 ≤ 200) && decide (q2 ≤ 60)) && !(t.vars.any noVar)) := by unfold Ty.good; rw [hq]
 rw [hG]
 clear h hn hq hG
 by_cases c1 : q1 ≤ 200
 ·have z1 : decide (q1 ≤ 200) = true := decide_eq_true c1
  by_cases c2 : q2 ≤ 60
  ·have z2 : decide (q2 ≤ 60) = true := decide_eq_true c2
   go_enter Tryz.func24, Tryz.ntmps24
   go_wp2_with (first
    | ((with_reducible refine gate_callee (f := 51) rfl ?_); refine goesL_ (some 7) rfl rfl Tryz.func51 (by kernel_rfl) rfl #[.pointer (some ⟨g, 0, none⟩), .int .i64 200] rfl tA ?_; (with_reducible refine (impl_typ_measure.calls t _ 200 _ ?s1 ?s2 ?s3).mono ?_); (case s1 => exact HX.out); (case s2 => have := HN.out; omega); (case s3 => omega); rintro _ w1 ⟨rfl, hb⟩; rw [MQ.out]; refine ⟨_, rfl, ?_⟩; have HB := aK hb; clear hb)
    | (go_at_call 37; (with_reducible refine (impl_typ_vars.calls t _ _ ?s1 ?s2).mono ?_); (case s1 => exact HX.out.below HB.out); (case s2 => exact HN.out); rintro _ w2 ⟨v2, rfl, hR, hb⟩; obtain ⟨Av, cv, rfl⟩ := Kd.R_slice hR; have HO := aK hR; have HB2 := aK (below_step HB.out hb); clear hb hR)
    | (go_at_call 52; (with_reducible refine (contains_some 53 #[] noVar Av cv t.vars _ ?s1 eg ?s2).mono ?_); (case s1 => exact (Kd.R_reads' HO.out).2.2); (case s2 => exact fun W y _ => lit_some y W); rintro _ w3 ⟨rfl, hb⟩; have HB3 := aK (below_step HB2.out hb); clear hb))
   go_ret
   exact ⟨by simp [z1, z2], HB3.out⟩
  ·have z2 : decide (q2 ≤ 60) = false := decide_eq_false c2
   go_enter Tryz.func24, Tryz.ntmps24
   go_wp2_with (first
    | ((with_reducible refine gate_callee (f := 51) rfl ?_); refine goesL_ (some 7) rfl rfl Tryz.func51 (by kernel_rfl) rfl #[.pointer (some ⟨g, 0, none⟩), .int .i64 200] rfl tA ?_; (with_reducible refine (impl_typ_measure.calls t _ 200 _ ?s1 ?s2 ?s3).mono ?_); (case s1 => exact HX.out); (case s2 => have := HN.out; omega); (case s3 => omega); rintro _ w1 ⟨rfl, hb⟩; rw [MQ.out]; refine ⟨_, rfl, ?_⟩; have HB := aK hb; clear hb))
   go_ret
   exact ⟨by simp [z1, z2], HB.out⟩
 ·have z1 : decide (q1 ≤ 200) = false := decide_eq_false c1
  go_enter Tryz.func24, Tryz.ntmps24
  go_wp2_with (first
   | ((with_reducible refine gate_callee (f := 51) rfl ?_); refine goesL_ (some 7) rfl rfl Tryz.func51 (by kernel_rfl) rfl #[.pointer (some ⟨g, 0, none⟩), .int .i64 200] rfl tA ?_; (with_reducible refine (impl_typ_measure.calls t _ 200 _ ?s1 ?s2 ?s3).mono ?_); (case s1 => exact HX.out); (case s2 => have := HN.out; omega); (case s3 => omega); rintro _ w1 ⟨rfl, hb⟩; rw [MQ.out]; refine ⟨_, rfl, ?_⟩; have HB := aK hb; clear hb))
  go_ret
  exact ⟨by simp [z1], HB.out⟩
end Go.Proofs.YteffjlhljeodpaaGreatDoor.G

namespace Go.Proofs.YteffjlhljeodpaaGreatDoor.G
open Go.RowKit Go.Proofs.YteffjlhljeodpaaGreatDoorW.PrintWords Go.Proofs.YteffjlhljeodpaaGreatDoorW.PrintLast Go.Proofs.YteffjlhljeodpaaGreatDoorW.PrintMore Go.Proofs.YteffjlhljeodpaaGreatDoor.EvL Go.Proofs.YteffjlhljeodpaaGreatDoor.TxtL Go.Proofs.YteffjlhljeodpaaGreatDoor.ReadM Go.Proofs.YteffjlhljeodpaaGreatDoor.Short
set_option linter.unusedVariables false
set_option linter.unusedSimpArgs false

theorem tyl_len : ∀ t : Ty, t.ok → (tyl t).length ≤ 20 * t.nodes
  | .v n, h => by
    have h1 : 0 ≤ n ∧ n ≤ 9223372036854775807 := h
    have := dec_len 19 n.toNat (by omega) (by have : (10 : Nat) ^ 19 = 10000000000000000000 := by { decide }; omega)
    show (116 :: Lib.decDigits n.toNat).length ≤ 20 * 1
    rw [List.length_cons]; omega
  | .a l r, h => by
    have h1 := tyl_len l h.1
    have h2 := tyl_len r h.2
    show (40 :: (tyl l ++ 62 :: (tyl r ++ [41]))).length ≤ 20 * (1 + l.nodes + r.nodes)
    simp only [List.length_cons, List.length_append, List.length_nil]
    omega
def tyOf (l : List UInt8) : Option Ty := (yrd 4 60 l).bind fun p => if p.2 = [] then (if p.1.good = true then (if tyl p.1 = l then some p.1 else none) else none) else none
def OfAs (l : List UInt8) (W : World) (x : Option Addr) (ok : Bool) : Prop := (tyOf l = none ∧ ok = false) ∨ (∃ t, tyOf l = some t ∧ ok = true ∧ IsT W t (.pointer x))
theorem OfAs.below {l : List UInt8} {W W1 : World} {x : Option Addr} {ok : Bool} (h : OfAs l W x ok) (hb : Below W.heap.size W W1) : OfAs l W1 x ok := by
  rcases h with h | ⟨t, h1, h2, h3⟩
  · exact .inl h
  · exact .inr ⟨t, h1, h2, h3.below hb⟩
set_option maxHeartbeats 8000000 in
set_option maxRecDepth 100000 in
theorem impl_typeOf.calls (l : List UInt8) (w : World) (hl : l.length ≤ 1099511627776) (hE : Met w) : Calls Tryz.prog 14 #[.string (B l)] w fun e w' => ∃ (x : Option Addr) (ok : Bool), e = .returned (.tuple #[.pointer x, .bool ok]) ∧ Below w.heap.size w w' ∧ OfAs l w' x ok := by
  obtain ⟨S, hS⟩ : ∃ S, S = B l := ⟨_, rfl⟩
  rw [← hS]
  have HS := aM hS
  have HL := aM hl
  have HE := aM hE
  clear hS hl hE
  go_enter Tryz.func14, Tryz.ntmps14
  go_upto_region 2 with (first
    | ((with_reducible refine gate_callee (f := 34) rfl ?_); refine goesL_ (some 9) rfl rfl Tryz.func34 (by kernel_rfl) rfl #[.string S, .int .i64 1] rfl tA ?_; rw [HS.out]; refine (impl_typeRead.calls 60 l w (by omega) HL.out HE.out).mono ?_; rintro _ w1 ⟨x1, r1, ok1, rfl, hlen1, hb, hr1⟩; rw [← HS.out]; refine ⟨_, rfl, ?_⟩; have R1 := aM hr1; have HB := aM hb; clear hr1 hlen1 hb))
  cases ok1 with
  | false =>
    have hN : tyOf l = none := by
      rcases R1.out with ⟨h, _⟩ | ⟨t, _, h, _⟩
      · unfold tyOf; rw [h]; rfl
      · cases h
    have HN := aM hN
    clear hN
    go_wp2
    go_ret2
    exact ⟨none, false, rfl, HB.out, .inl ⟨HN.out, rfl⟩⟩
  | true =>
    have h1 : ∃ t1, yrd 4 60 l = some (t1, r1) ∧ IsT w1 t1 (.pointer x1) := by
      rcases R1.out with ⟨_, h⟩ | ⟨t, h, _, h2⟩
      · cases h
      · exact ⟨t, h, h2⟩
    obtain ⟨t, y1, i1⟩ := h1
    have Y1 := aM y1
    have I1 := aM i1
    have hsd := (yrd_sound 4 60 l t r1 y1).resolve_right (by omega)
    have NN : Aside0 (t.nodes ≤ 1099511627776) := ⟨by have := HL.out; omega⟩
    have OK := aM hsd.2
    have TS : Aside0 (t.text.size ≤ 4611686018427387904) := ⟨by rw [text_B, B_size]; have := tyl_len t hsd.2; have := NN.out; omega⟩
    obtain ⟨g1, hg1⟩ := i1.ptr
    injection hg1 with hg1
    subst hg1
    clear y1 i1 hsd R1
    cases r1 with
    | cons c0 r0 =>
      have z0 : (B (c0 :: r0)).toList.isEmpty = false := by rw [toList_B]; rfl
      have hN : tyOf l = none := by unfold tyOf; rw [Y1.out]; rfl
      have HN := aM hN
      clear hN
      go_wp2
      go_ret2
      exact ⟨none, false, rfl, HB.out, .inl ⟨HN.out, rfl⟩⟩
    | nil =>
      have z0 : (B []).toList.isEmpty = true := by rw [toList_B]; rfl
      cases hg : t.good with
      | false =>
        have HG := aM hg
        have hN : tyOf l = none := by
          unfold tyOf; rw [Y1.out, Option.bind_some, if_pos rfl, if_neg (by rw [hg]; decide)]
        have HN := aM hN
        clear hN hg
        go_wp2_with (first
          | (go_at_call 24; (with_reducible refine (impl_typ_isGood.calls t _ _ ?s1 ?s2).mono ?_); (case s1 => exact I1.out); (case s2 => exact NN.out); rintro _ w2 ⟨rfl, hb⟩; rw [HG.out]; have HB2 := aM (below_step HB.out hb); have I2 := aM (I1.out.below hb); clear hb))
        go_ret2
        exact ⟨none, false, rfl, HB2.out, .inl ⟨HN.out, rfl⟩⟩
      | true =>
        have HG := aM hg
        by_cases ht : tyl t = l
        · have hO : tyOf l = some t := by
            unfold tyOf; rw [Y1.out, Option.bind_some, if_pos rfl, if_pos hg, if_pos ht]
          have OO := aM hO
          have TT : Aside0 (t.text = S) := ⟨by rw [text_B, ht, HS.out]⟩
          clear hO hg ht
          go_wp2_with (first
            | (go_at_call 24; (with_reducible refine (impl_typ_isGood.calls t _ _ ?s1 ?s2).mono ?_); (case s1 => exact I1.out); (case s2 => exact NN.out); rintro _ w2 ⟨rfl, hb⟩; rw [HG.out]; have HB2 := aM (below_step HB.out hb); have I2 := aM (I1.out.below hb); clear hb)
            | (go_at_call 16; (with_reducible refine (impl_typ_text.calls t _ _ ?s1 ?s2 ?s3 ?s4).mono ?_); (case s1 => exact I2.out); (case s2 => exact OK.out); (case s3 => exact TS.out); (case s4 => exact (HE.out.below HB2.out).tab); rintro _ w3 ⟨rfl, hb⟩; rw [TT.out]; have HB3 := aM (below_step HB2.out hb); have I3 := aM (I2.out.below hb); clear hb))
          go_ret2
          exact ⟨_, true, rfl, HB3.out, .inr ⟨t, OO.out, rfl, I3.out⟩⟩
        · have hN : tyOf l = none := by
            unfold tyOf; rw [Y1.out, Option.bind_some, if_pos rfl, if_pos hg, if_neg ht]
          have HN := aM hN
          obtain ⟨T, hT⟩ : ∃ T, T = t.text := ⟨_, rfl⟩
          have TT : Aside0 (t.text = T) := ⟨hT.symm⟩
          have hne : T ≠ S := fun h => ht (B_inj (by rw [← text_B, ← hT, h, HS.out]))
          have hne2 : ¬ T.toList = S.toList := fun h => hne ((toList_iff T S).mp h)
          have hq : (T.toList == S.toList) = false := by simpa using hne2
          clear hN hg ht hT
          go_wp2_with (first
            | (go_at_call 24; (with_reducible refine (impl_typ_isGood.calls t _ _ ?s1 ?s2).mono ?_); (case s1 => exact I1.out); (case s2 => exact NN.out); rintro _ w2 ⟨rfl, hb⟩; rw [HG.out]; have HB2 := aM (below_step HB.out hb); have I2 := aM (I1.out.below hb); clear hb)
            | (go_at_call 16; (with_reducible refine (impl_typ_text.calls t _ _ ?s1 ?s2 ?s3 ?s4).mono ?_); (case s1 => exact I2.out); (case s2 => exact OK.out); (case s3 => exact TS.out); (case s4 => exact (HE.out.below HB2.out).tab); rintro _ w3 ⟨rfl, hb⟩; rw [TT.out]; have HB3 := aM (below_step HB2.out hb); have I3 := aM (I2.out.below hb); clear hb))
          go_ret2
          exact ⟨none, false, rfl, HB3.out, .inl ⟨HN.out, rfl⟩⟩

theorem tyOf_some {l : List UInt8} {t : Ty} (h : tyOf l = some t) : t.ok ∧ t.nodes ≤ l.length ∧ t.good = true ∧ tyl t = l := by
  unfold tyOf at h
  obtain ⟨⟨a, r⟩, h1, h2⟩ := Option.bind_eq_some_iff.mp h
  dsimp only at h2
  split at h2
  · split at h2
    · split at h2
      · injection h2 with h2
        subst h2
        have hs := (yrd_sound 4 60 l a r h1).resolve_right (by omega)
        exact ⟨hs.2, by omega, by assumption, by assumption⟩
      · cases h2
    · cases h2
  · cases h2
theorem typeOfS (s : ByteArray) (w : World) (hl : s.size ≤ 1099511627776) (hE : Met w) : Calls Tryz.prog 14 #[.string s] w fun e w' => ∃ (x : Option Addr) (ok : Bool), e = .returned (.tuple #[.pointer x, .bool ok]) ∧ Below w.heap.size w w' ∧ OfAs s.data.toList w' x ok :=
  impl_typeOf.calls s.data.toList w (by rw [len]; exact hl) hE
theorem below_map {w w2 w3 : World} (h : Below w.heap.size w w2) (hg : (w2.alloc (.map #[] 0)).grownBy w3 (some w2.heap.size)) : Below w.heap.size w w3 :=
  (below_alloc h _).grown hg (by have := h.size; simp; omega) (fun k hk => by cases hk; exact h.size)
def noB : Int → Option Ty := fun _ => none
def instF (g s : List UInt8) : Bool × Bool := match tyOf g, tyOf s with
  | some x, some y => ((x.fits y noB).1, true)
  | _, _ => (false, false)
theorem instF_none1 {g s : List UInt8} (h : tyOf g = none) : instF g s = (false, false) := by unfold instF; rw [h]
theorem instF_none2 {g s : List UInt8} (h : tyOf s = none) : instF g s = (false, false) := by unfold instF; rw [h]; cases tyOf g <;> rfl
theorem instF_some {g s : List UInt8} {x y : Ty} (h : tyOf g = some x) (k : tyOf s = some y) : instF g s = ((x.fits y noB).1, true) := by unfold instF; rw [h, k]
def impl_InstanceOf.f (_ : Nat) (a0 : ByteArray) (a1 : ByteArray) : Option (Bool × Bool) := if a0.size ≤ 1099511627776 ∧ a1.size ≤ 1099511627776 then some (instF a0.data.toList a1.data.toList) else none
set_option maxHeartbeats 8000000 in
set_option maxRecDepth 100000 in
theorem impl_InstanceOf.calls (k : Nat) (a0 : ByteArray) (a1 : ByteArray) (r1 : Bool) (r2 : Bool) (w : World) (h : impl_InstanceOf.f k a0 a1 = some (r1, r2)) (hE : Met w) :
    Calls Tryz.prog 10 #[.string a0, .string a1] w fun e w' => e = .returned (.tuple #[.bool r1, .bool r2]) ∧ Below w.heap.size w w' := by
  have hmm := @run_makeMap Tryz.prog
  unfold impl_InstanceOf.f at h
  by_cases hs : a0.size ≤ 1099511627776 ∧ a1.size ≤ 1099511627776
  case neg => rw [if_neg hs] at h; cases h
  rw [if_pos hs] at h
  injection h with h
  have HR := aM h
  have HS := aM hs
  have HE := aM hE
  clear h hs hE
  go_enter Tryz.func10, Tryz.ntmps10
  go_upto_region 3 with (first
    | ((with_reducible refine gate_callee (f := 14) rfl ?_); refine goesL_ (some 12) rfl rfl Tryz.func14 (by kernel_rfl) rfl #[.string a0] rfl tA ?_; refine (typeOfS a0 w HS.out.1 HE.out).mono ?_; rintro _ w1 ⟨x1, ok1, rfl, hb, ho⟩; refine ⟨_, rfl, ?_⟩; have O1 := aM ho; have HB := aM hb; clear ho hb)
    | ((with_reducible refine gate_callee (f := 14) rfl ?_); refine goesL_ (some 17) rfl rfl Tryz.func14 (by kernel_rfl) rfl #[.string a1] rfl tA ?_; refine (typeOfS a1 w1 HS.out.2 (HE.out.below HB.out)).mono ?_; rintro _ w2 ⟨x2, ok2, rfl, hb, ho⟩; refine ⟨_, rfl, ?_⟩; have O2 := aM ho; have P1 := aM (O1.out.below hb); have HB2 := aM (below_step HB.out hb); clear ho hb))
  cases ok1 with
  | false =>
    have e1 : tyOf a0.data.toList = none := by
      rcases O1.out with ⟨h, _⟩ | ⟨_, _, h, _⟩
      · exact h
      · cases h
    have E := aM ((instF_none1 (s := a1.data.toList) e1).symm.trans HR.out)
    clear e1 HR
    go_wp2
    go_ret2
    cases E.out
    exact ⟨rfl, HB2.out⟩
  | true =>
    cases ok2 with
    | false =>
      have e1 : tyOf a1.data.toList = none := by
        rcases O2.out with ⟨h, _⟩ | ⟨_, _, h, _⟩
        · exact h
        · cases h
      have E := aM ((instF_none2 (g := a0.data.toList) e1).symm.trans HR.out)
      clear e1 HR
      go_wp2
      go_ret2
      cases E.out
      exact ⟨rfl, HB2.out⟩
    | true =>
      obtain ⟨t1, e1, i1⟩ : ∃ t, tyOf a0.data.toList = some t ∧ IsT w2 t (.pointer x1) := by
        rcases P1.out with ⟨_, h⟩ | ⟨t, h, _, hi⟩
        · cases h
        · exact ⟨t, h, hi⟩
      obtain ⟨t2, e2, i2⟩ : ∃ t, tyOf a1.data.toList = some t ∧ IsT w2 t (.pointer x2) := by
        rcases O2.out with ⟨_, h⟩ | ⟨t, h, _, hi⟩
        · cases h
        · exact ⟨t, h, hi⟩
      have E := aM ((instF_some e1 e2).symm.trans HR.out)
      have OK := aM (tyOf_some e1)
      have I1 := aM i1
      have I2 := aM i2
      have LN : Aside0 (a0.data.toList.length ≤ 1099511627776) := ⟨by rw [len]; exact HS.out.1⟩
      obtain ⟨g1, hg1⟩ := i1.ptr
      injection hg1 with hg1
      subst hg1
      obtain ⟨g2, hg2⟩ := i2.ptr
      injection hg2 with hg2
      subst hg2
      clear e1 e2 i1 i2 HR O1 O2 P1
      go_wp2_with (first
        | (go_at_call 29; (with_reducible refine (impl_typ_fits.calls t1 t2 _ _ w2.heap.size 0 noB _ ?s1 ?s2 ?s3 ?s4 ?s5).mono ?_); (case s1 => exact I1.out.below (below_alloc (Below.refl _ _) _)); (case s2 => exact I2.out.below (below_alloc (Below.refl _ _) _)); (case s3 => exact OK.out.1); (case s4 => exact IsM.made w2); (case s5 => have := OK.out.2.1; have := LN.out; omega); rintro _ w3 ⟨rfl, _, hg⟩; have HB3 := aM (below_map HB2.out hg); clear hg))
      go_ret2
      exact ⟨congrArg (fun z : Bool × Bool => Ending.returned (.tuple #[.bool z.1, .bool z.2])) E.out, HB3.out⟩
end Go.Proofs.YteffjlhljeodpaaGreatDoor.G

namespace Go.Proofs.YteffjlhljeodpaaGreatDoor.G
open Go.RowKit Go.Proofs.YteffjlhljeodpaaGreatDoorW.PrintWords Go.Proofs.YteffjlhljeodpaaGreatDoorW.PrintLast Go.Proofs.YteffjlhljeodpaaGreatDoorW.PrintMore Go.Proofs.YteffjlhljeodpaaGreatDoor.Short
attribute [local go_sem] max2_int min2_int max_two min_two max_three min_three max_four min_four   -- for this text's walks alone
set_option linter.unusedVariables false
set_option linter.unusedSimpArgs false

def IsS40 (w0 W : World) (g : Nat) (f0 : List Int) (f1 : Int) (f2 : Int) : Prop := ∃ A0 c0, W.heap[g]? = some (.cells #[.slice A0 f0.length c0, .int .i64 f1, .int .u64 f2] 40 (0, 0)) ∧ w0.heap.size ≤ g ∧ Kd.C (Kd.int .u8) w0 A0 f0.length f0
theorem IsS40.grown {w0 W : World} {g : Nat} {f0 : List Int} {f1 : Int} {f2 : Int} {W1 : World} {row : Option Nat} (h : IsS40 w0 W g f0 f1 f2) (hw : W.grownBy W1 row) (hne : some g ≠ row) : IsS40 w0 W1 g f0 f1 f2 := by
  obtain ⟨A0, c0, hb, hg, hr0⟩ := h
  exact ⟨A0, c0, blk_grown hb hw hne, hg, hr0⟩
theorem IsS40.fresh {w0 W : World} {g : Nat} {f0 : List Int} {f1 : Int} {f2 : Int} (h : IsS40 w0 W g f0 f1 f2) : ∀ k, W.heap.size ≤ k → k ≠ g := by
  obtain ⟨A0, c0, hb, hg, hr0⟩ := h
  exact Kd.freshB hb
theorem IsS40.kept {w0 W : World} {g : Nat} {f0 : List Int} {f1 : Int} {f2 : Int} {W1 : World} {S : Nat → Prop} (h : IsS40 w0 W g f0 f1 f2) (hk : Kept W W1 S) (hne : ¬ S g) : IsS40 w0 W1 g f0 f1 f2 := by
  obtain ⟨A0, c0, hb, hg, hr0⟩ := h
  exact ⟨A0, c0, blk_kept hb hk hne, hg, hr0⟩
theorem IsS40.below {w0 W : World} {g : Nat} {f0 : List Int} {f1 : Int} {f2 : Int} {W1 : World} (h : IsS40 w0 W g f0 f1 f2) (hw : Below W.heap.size W W1) : IsS40 w0 W1 g f0 f1 f2 := h.grown (grown_of_below hw none) (by simp)
theorem IsS40.alloc {w0 W : World} {g : Nat} {f0 : List Int} {f1 : Int} {f2 : Int} (h : IsS40 w0 W g f0 f1 f2) (o : Obj) : IsS40 w0 (W.alloc o) g f0 f1 f2 := h.below (below_alloc (Below.refl _ _) o)
theorem IsS40.drewN {w0 W : World} {g : Nat} {f0 : List Int} {f1 : Int} {f2 : Int} (h : IsS40 w0 W g f0 f1 f2) (m : Nat) : IsS40 w0 (W.drewN m) g f0 f1 f2 := h
theorem IsS40.drew {w0 W : World} {g : Nat} {f0 : List Int} {f1 : Int} {f2 : Int} (h : IsS40 w0 W g f0 f1 f2) : IsS40 w0 W.drew g f0 f1 f2 := h
theorem IsS40.apart {w0 W : World} {g : Nat} {f0 : List Int} {f1 : Int} {f2 : Int} {α : Type} {d : Kd α} {e : Nat} {base : Nat} {ok : Nat → Prop} {v : Value} {xs : List α} (h : IsS40 w0 W g f0 f1 f2) (ho : d.R e W base ok v xs) (ht : ∀ q, q ∈ e :: d.E → q ≠ 40) : d.R e W base (fun k => ok k ∧ k ≠ g) v xs := by
  obtain ⟨A0, c0, hb, hg, hr0⟩ := h
  exact Kd.R_types ho hb ht
theorem IsS40.own_ne {w0 W : World} {g : Nat} {f0 : List Int} {f1 : Int} {f2 : Int} {α : Type} {d : Kd α} {e : Nat} {base : Nat} {ok : Nat → Prop} {v : Value} {xs : List α} (h : IsS40 w0 W g f0 f1 f2) (ho : d.R e W base ok v xs) (ht : e ≠ 40) : some g ≠ v.ownBlock := by
  obtain ⟨A0, c0, hb, hg, hr0⟩ := h
  exact Kd.R_ne ho hb ht
theorem IsS40.lt {w0 W : World} {g : Nat} {f0 : List Int} {f1 : Int} {f2 : Int} (h : IsS40 w0 W g f0 f1 f2) : g < W.heap.size := by
  obtain ⟨A0, c0, hb, hg, hr0⟩ := h
  exact blk_lt hb
theorem IsS40.ge {w0 W : World} {g : Nat} {f0 : List Int} {f1 : Int} {f2 : Int} (h : IsS40 w0 W g f0 f1 f2) : w0.heap.size ≤ g := by
  obtain ⟨A0, c0, hb, hg, hr0⟩ := h
  exact hg
theorem IsS40.far {w0 W : World} {g : Nat} {f0 : List Int} {f1 : Int} {f2 : Int} {p : Addr} (h : IsS40 w0 W g f0 f1 f2) (hne : g ≠ p.block) (u : Value) : IsS40 w0 (W.setCell p u) g f0 f1 f2 := by
  obtain ⟨A0, c0, hb, hg, hr0⟩ := h
  exact ⟨A0, c0, blk_far hb hne u, hg, hr0⟩
theorem cellS40_0 {W : World} {g : Nat} {A0 : Option Addr} {c0 : Nat} {f0 : List Int} {f1 : Int} {f2 : Int} (h : W.heap[g]? = some (.cells #[.slice A0 f0.length c0, .int .i64 f1, .int .u64 f2] 40 (0, 0))) : W.cell? ⟨g, 0, none⟩ = some (.slice A0 f0.length c0) := (blk_cell h 0).trans rfl
theorem cellS40_1 {W : World} {g : Nat} {A0 : Option Addr} {c0 : Nat} {f0 : List Int} {f1 : Int} {f2 : Int} (h : W.heap[g]? = some (.cells #[.slice A0 f0.length c0, .int .i64 f1, .int .u64 f2] 40 (0, 0))) : W.cell? ⟨g, 1, none⟩ = some (.int .i64 f1) := (blk_cell h 1).trans rfl
theorem IsS40.set_1 {w0 W : World} {g : Nat} {f0 : List Int} {f1 : Int} {f2 : Int} (h : IsS40 w0 W g f0 f1 f2) (x : Int) : IsS40 w0 (W.setCell ⟨g, 1, none⟩ (.int .i64 x)) g f0 x f2 := by
  obtain ⟨A0, c0, hb, hg, hr0⟩ := h
  exact ⟨A0, c0, by simpa using blk_set hb 1 (.int .i64 x), hg, hr0⟩
theorem cellS40_2 {W : World} {g : Nat} {A0 : Option Addr} {c0 : Nat} {f0 : List Int} {f1 : Int} {f2 : Int} (h : W.heap[g]? = some (.cells #[.slice A0 f0.length c0, .int .i64 f1, .int .u64 f2] 40 (0, 0))) : W.cell? ⟨g, 2, none⟩ = some (.int .u64 f2) := (blk_cell h 2).trans rfl
theorem IsS40.set_2 {w0 W : World} {g : Nat} {f0 : List Int} {f1 : Int} {f2 : Int} (h : IsS40 w0 W g f0 f1 f2) (x : Int) : IsS40 w0 (W.setCell ⟨g, 2, none⟩ (.int .u64 x)) g f0 f1 x := by
  obtain ⟨A0, c0, hb, hg, hr0⟩ := h
  exact ⟨A0, c0, by simpa using blk_set hb 2 (.int .u64 x), hg, hr0⟩
theorem IsS40.new (w0 W : World) (A0 : Option Addr) (c0 : Nat) (f0 : List Int) (f1 : Int) (f2 : Int) (hB : Below w0.heap.size w0 W) (hr0 : Kd.C (Kd.int .u8) w0 A0 f0.length f0) : IsS40 w0 (W.alloc (.cells #[.slice A0 f0.length c0, .int .i64 f1, .int .u64 f2] 40)) W.heap.size f0 f1 f2 := ⟨A0, c0, by simpa using heap_alloc_new W _, hB.size, hr0⟩

def spec_l1Cur_next.f (s0_0 : List Int) (s0_1 : Int) (s0_2 : Int) : Option (Int × Int × Int) := if s0_1 < (s0_0.length : Int) then (if 0 ≤ s0_1 then (if (wrap64 (s0_1 + 1)) ≤ (s0_0.length : Int) then (some (wrap64 (rd s0_0 s0_1), wrap64 (s0_1 + 1), IntKind.u64.wrap ((IntKind.u64.wrap ((IntKind.u64.wrap (s0_2 * 6364136223846793005)) + (IntKind.u64.wrap (wrap64 (rd s0_0 s0_1))))) + 1442695040888963407))) else (some (wrap64 (Go.bits .and .u64 ((IntKind.u64.wrap ((IntKind.u64.wrap ((IntKind.u64.wrap (s0_2 * 6364136223846793005)) + (IntKind.u64.wrap (wrap64 (rd s0_0 s0_1))))) + 1442695040888963407)) / 1099511627776) 255), wrap64 (s0_1 + 1), IntKind.u64.wrap ((IntKind.u64.wrap ((IntKind.u64.wrap (s0_2 * 6364136223846793005)) + (IntKind.u64.wrap (wrap64 (rd s0_0 s0_1))))) + 1442695040888963407)))) else (none)) else (if (wrap64 (s0_1 + 1)) ≤ (s0_0.length : Int) then (some (0, wrap64 (s0_1 + 1), IntKind.u64.wrap ((IntKind.u64.wrap ((IntKind.u64.wrap (s0_2 * 6364136223846793005)) + 0)) + 1442695040888963407))) else (some (wrap64 (Go.bits .and .u64 ((IntKind.u64.wrap ((IntKind.u64.wrap ((IntKind.u64.wrap (s0_2 * 6364136223846793005)) + 0)) + 1442695040888963407)) / 1099511627776) 255), wrap64 (s0_1 + 1), IntKind.u64.wrap ((IntKind.u64.wrap ((IntKind.u64.wrap (s0_2 * 6364136223846793005)) + 0)) + 1442695040888963407))))
set_option maxHeartbeats 8000000 in
set_option maxRecDepth 100000 in
theorem spec_l1Cur_next.calls (g : Nat) (s0_0 : List Int) (s0_1 : Int) (s0_2 : Int) (r1 : Int) (r2 : Int) (r3 : Int) (w0 w : World) (hI : IsS40 w0 w g s0_0 s0_1 s0_2) (hB : Below w0.heap.size w0 w) (h : spec_l1Cur_next.f s0_0 s0_1 s0_2 = some (r1, r2, r3)) :
    Calls Tryz.prog 58 #[.pointer (some ⟨g, 0, none⟩)] w fun e w' => e = .returned (.int .i64 r1) ∧ IsS40 w0 w' g s0_0 r2 r3 ∧ Below w0.heap.size w0 w' ∧ KeepBut w w' g none := by
  have HI0 := aM hI
  have HK := aM (KeepBut.refl w g none)
  have HL := aM hB.size
  clear hI
  have HW0 := aM hB.size
  have HB := aM hB
  clear hB
  have H : (if s0_1 < (s0_0.length : Int) then (if 0 ≤ s0_1 then (if (wrap64 (s0_1 + 1)) ≤ (s0_0.length : Int) then (some (wrap64 (rd s0_0 s0_1), wrap64 (s0_1 + 1), IntKind.u64.wrap ((IntKind.u64.wrap ((IntKind.u64.wrap (s0_2 * 6364136223846793005)) + (IntKind.u64.wrap (wrap64 (rd s0_0 s0_1))))) + 1442695040888963407))) else (some (wrap64 (Go.bits .and .u64 ((IntKind.u64.wrap ((IntKind.u64.wrap ((IntKind.u64.wrap (s0_2 * 6364136223846793005)) + (IntKind.u64.wrap (wrap64 (rd s0_0 s0_1))))) + 1442695040888963407)) / 1099511627776) 255), wrap64 (s0_1 + 1), IntKind.u64.wrap ((IntKind.u64.wrap ((IntKind.u64.wrap (s0_2 * 6364136223846793005)) + (IntKind.u64.wrap (wrap64 (rd s0_0 s0_1))))) + 1442695040888963407)))) else (none)) else (if (wrap64 (s0_1 + 1)) ≤ (s0_0.length : Int) then (some (0, wrap64 (s0_1 + 1), IntKind.u64.wrap ((IntKind.u64.wrap ((IntKind.u64.wrap (s0_2 * 6364136223846793005)) + 0)) + 1442695040888963407))) else (some (wrap64 (Go.bits .and .u64 ((IntKind.u64.wrap ((IntKind.u64.wrap ((IntKind.u64.wrap (s0_2 * 6364136223846793005)) + 0)) + 1442695040888963407)) / 1099511627776) 255), wrap64 (s0_1 + 1), IntKind.u64.wrap ((IntKind.u64.wrap ((IntKind.u64.wrap (s0_2 * 6364136223846793005)) + 0)) + 1442695040888963407))))) = some (r1, r2, r3) := h
  clear h
  by_cases c2 : s0_1 < (s0_0.length : Int)
  · rw [if_pos c2] at H
    have c2b0 : decide (s0_1 < (s0_0.length : Int)) = true := decide_eq_true c2
    clear c2
    by_cases c3 : 0 ≤ s0_1
    · rw [if_pos c3] at H
      have c3b0 : decide (0 ≤ s0_1) = true := decide_eq_true c3
      clear c3
      by_cases c4 : (wrap64 (s0_1 + 1)) ≤ (s0_0.length : Int)
      · rw [if_pos c4] at H
        have c4b0 : decide ((wrap64 (s0_1 + 1)) ≤ (s0_0.length : Int)) = true := decide_eq_true c4
        clear c4
        simp only [Option.some.injEq, Prod.mk.injEq] at H
        obtain ⟨rfl, rfl, rfl⟩ := H
        obtain ⟨ASz5_0, cSz5_0, HGz5, hgz5, HSz5_0⟩ := HI0.out
        have hcz5_0 := cellS40_0 HGz5
        have hcz5_1 := cellS40_1 HGz5
        have hcz5_2 := cellS40_2 HGz5
        have hfz5_1 := blk_frozen HGz5 1
        have hfz5_2 := blk_frozen HGz5 2
        clear HGz5 hgz5
        have p101 : 0 ≤ (s0_1 : Int) := of_decide_eq_true (by first | (with_reducible assumption) | assumption)
        have q101 : s0_1 < (s0_0.length : Int) := of_decide_eq_true (by first | (with_reducible assumption) | assumption)
        obtain ⟨ad101, e101, hx101_0⟩ := Kd.at_int HSz5_0 s0_1 p101 q101
        cases e101
        replace hx101_0 := pw_cell_below HB.out hx101_0
        replace p101 := eq_true p101
        replace q101 := eq_true q101
        go_enter Tryz.func58, Tryz.ntmps58
        go_wp2
        repeat (go_quiet (fail); try go_wp2)
        go_ret
        exact ⟨by first | rfl | (simp [errW_none, errW_some] <;> rfl) | (simp [*, errW_none, errW_some] <;> rfl), by repeat (first | (with_reducible first | exact HI0.out | apply IsS40.alloc | apply IsS40.drewN | apply IsS40.drew | apply IsS40.set_1 | apply IsS40.set_2) | exact HI0.out), by repeat (first | (with_reducible first | exact HB.out | apply below_alloc | apply pw_below_drewN | apply below_drew1 | refine below_set ?_ (IsS40.ge HI0.out)) | exact HB.out), by repeat (first | (with_reducible first | exact HK.out | apply KeepBut.set_ | apply keep_drewN | apply keep_drew | apply keep_alloc) | exact HK.out)⟩
      · rw [if_neg c4] at H
        have c4b0 : decide ((wrap64 (s0_1 + 1)) ≤ (s0_0.length : Int)) = false := decide_eq_false c4
        clear c4
        simp only [Option.some.injEq, Prod.mk.injEq] at H
        obtain ⟨rfl, rfl, rfl⟩ := H
        obtain ⟨ASz6_0, cSz6_0, HGz6, hgz6, HSz6_0⟩ := HI0.out
        have hcz6_0 := cellS40_0 HGz6
        have hcz6_1 := cellS40_1 HGz6
        have hcz6_2 := cellS40_2 HGz6
        have hfz6_1 := blk_frozen HGz6 1
        have hfz6_2 := blk_frozen HGz6 2
        clear HGz6 hgz6
        have p101 : 0 ≤ (s0_1 : Int) := of_decide_eq_true (by first | (with_reducible assumption) | assumption)
        have q101 : s0_1 < (s0_0.length : Int) := of_decide_eq_true (by first | (with_reducible assumption) | assumption)
        obtain ⟨ad101, e101, hx101_0⟩ := Kd.at_int HSz6_0 s0_1 p101 q101
        cases e101
        replace hx101_0 := pw_cell_below HB.out hx101_0
        replace p101 := eq_true p101
        replace q101 := eq_true q101
        go_enter Tryz.func58, Tryz.ntmps58
        go_wp2
        repeat (go_quiet (fail); try go_wp2)
        go_ret
        exact ⟨by first | rfl | (simp [errW_none, errW_some] <;> rfl) | (simp [*, errW_none, errW_some] <;> rfl), by repeat (first | (with_reducible first | exact HI0.out | apply IsS40.alloc | apply IsS40.drewN | apply IsS40.drew | apply IsS40.set_1 | apply IsS40.set_2) | exact HI0.out), by repeat (first | (with_reducible first | exact HB.out | apply below_alloc | apply pw_below_drewN | apply below_drew1 | refine below_set ?_ (IsS40.ge HI0.out)) | exact HB.out), by repeat (first | (with_reducible first | exact HK.out | apply KeepBut.set_ | apply keep_drewN | apply keep_drew | apply keep_alloc) | exact HK.out)⟩
    · rw [if_neg c3] at H
      exact absurd H (by simp)
  · rw [if_neg c2] at H
    have c2b0 : decide (s0_1 < (s0_0.length : Int)) = false := decide_eq_false c2
    clear c2
    by_cases c7 : (wrap64 (s0_1 + 1)) ≤ (s0_0.length : Int)
    · rw [if_pos c7] at H
      have c7b0 : decide ((wrap64 (s0_1 + 1)) ≤ (s0_0.length : Int)) = true := decide_eq_true c7
      clear c7
      simp only [Option.some.injEq, Prod.mk.injEq] at H
      obtain ⟨rfl, rfl, rfl⟩ := H
      obtain ⟨ASz8_0, cSz8_0, HGz8, hgz8, HSz8_0⟩ := HI0.out
      have hcz8_0 := cellS40_0 HGz8
      have hcz8_1 := cellS40_1 HGz8
      have hcz8_2 := cellS40_2 HGz8
      have hfz8_1 := blk_frozen HGz8 1
      have hfz8_2 := blk_frozen HGz8 2
      clear HGz8 hgz8
      go_enter Tryz.func58, Tryz.ntmps58
      go_wp2
      repeat (go_quiet (fail); try go_wp2)
      go_ret
      simp only [Int.add_zero]
      exact ⟨by first | rfl | (simp [errW_none, errW_some] <;> rfl) | (simp [*, errW_none, errW_some] <;> rfl), by repeat (first | (with_reducible first | exact HI0.out | apply IsS40.alloc | apply IsS40.drewN | apply IsS40.drew | apply IsS40.set_1 | apply IsS40.set_2) | exact HI0.out), by repeat (first | (with_reducible first | exact HB.out | apply below_alloc | apply pw_below_drewN | apply below_drew1 | refine below_set ?_ (IsS40.ge HI0.out)) | exact HB.out), by repeat (first | (with_reducible first | exact HK.out | apply KeepBut.set_ | apply keep_drewN | apply keep_drew | apply keep_alloc) | exact HK.out)⟩
    · rw [if_neg c7] at H
      have c7b0 : decide ((wrap64 (s0_1 + 1)) ≤ (s0_0.length : Int)) = false := decide_eq_false c7
      clear c7
      simp only [Option.some.injEq, Prod.mk.injEq] at H
      obtain ⟨rfl, rfl, rfl⟩ := H
      obtain ⟨ASz9_0, cSz9_0, HGz9, hgz9, HSz9_0⟩ := HI0.out
      have hcz9_0 := cellS40_0 HGz9
      have hcz9_1 := cellS40_1 HGz9
      have hcz9_2 := cellS40_2 HGz9
      have hfz9_1 := blk_frozen HGz9 1
      have hfz9_2 := blk_frozen HGz9 2
      clear HGz9 hgz9
      go_enter Tryz.func58, Tryz.ntmps58
      go_wp2
      repeat (go_quiet (fail); try go_wp2)
      go_ret
      simp only [Int.add_zero]
      exact ⟨by first | rfl | (simp [errW_none, errW_some] <;> rfl) | (simp [*, errW_none, errW_some] <;> rfl), by repeat (first | (with_reducible first | exact HI0.out | apply IsS40.alloc | apply IsS40.drewN | apply IsS40.drew | apply IsS40.set_1 | apply IsS40.set_2) | exact HI0.out), by repeat (first | (with_reducible first | exact HB.out | apply below_alloc | apply pw_below_drewN | apply below_drew1 | refine below_set ?_ (IsS40.ge HI0.out)) | exact HB.out), by repeat (first | (with_reducible first | exact HK.out | apply KeepBut.set_ | apply keep_drewN | apply keep_drew | apply keep_alloc) | exact HK.out)⟩

end Go.Proofs.YteffjlhljeodpaaGreatDoor.G

namespace Go.Proofs.YteffjlhljeodpaaGreatDoor.G
open Go.RowKit Go.Proofs.YteffjlhljeodpaaGreatDoorW.PrintWords Go.Proofs.YteffjlhljeodpaaGreatDoorW.PrintLast Go.Proofs.YteffjlhljeodpaaGreatDoorW.PrintMore Go.Proofs.YteffjlhljeodpaaGreatDoor.Short
theorem yI {A B : Prop} (h : Aside0 A) (k : A → B := by intro h; repeat (first | (with_reducible first | exact h | apply IsS40.alloc | apply IsS40.drewN | apply IsS40.drew | apply IsS40.set_1 | apply IsS40.set_2 | refine IsS40.far ?_ (Aside0.out (by assumption)) _) | exact h)) : B := k h.out
theorem yK {u W W' : World} {g : Nat} {row : Option Nat} (h : Aside0 (KeepBut u W g row)) (k : KeepBut u W g row → KeepBut u W' g row := by intro h; repeat (first | (with_reducible first | exact h | apply KeepBut.set_ | apply keep_drewN | apply keep_drew | apply keep_alloc | refine keep_far ?_ (Aside0.out (by assumption)) _) | exact h)) : KeepBut u W' g row := k h.out
theorem yH {A B : Prop} (h : Aside0 A) (k : A → B := by intro h; repeat (first | (with_reducible first | exact h | apply below_alloc | apply pw_below_drewN | apply below_drew1 | refine below_set ?_ (IsS40.ge (Aside0.out (by assumption))) | refine below_set ?_ (Aside0.out (by assumption))) | exact h)) : B := k h.out
end Go.Proofs.YteffjlhljeodpaaGreatDoor.G

namespace Go.Proofs.YteffjlhljeodpaaGreatDoor.G
open Go.RowKit Go.Proofs.YteffjlhljeodpaaGreatDoorW.PrintWords Go.Proofs.YteffjlhljeodpaaGreatDoorW.PrintLast Go.Proofs.YteffjlhljeodpaaGreatDoorW.PrintMore Go.Proofs.YteffjlhljeodpaaGreatDoor.Short
attribute [local go_sem] max2_int min2_int max_two min_two max_three min_three max_four min_four   -- for this text's walks alone
set_option linter.unusedVariables false
set_option linter.unusedSimpArgs false

def spec_l1Cur_pick.f (s0_0 : List Int) (s0_1 : Int) (s0_2 : Int) (a1 : Int) : Option (Int × Int × Int) := if a1 ≤ 1 then (some (0, s0_1, s0_2)) else ((spec_l1Cur_next.f s0_0 s0_1 s0_2).bind fun bt101 => (if a1 > 200 then ((spec_l1Cur_next.f s0_0 bt101.2.1 bt101.2.2).bind fun bt104 => (if a1 = 0 then (none) else (some (Int.tmod (wrap64 ((wrap64 (bt101.1 * 256)) + bt104.1)) a1, bt104.2.1, bt104.2.2)))) else (if a1 = 0 then (none) else (some (Int.tmod bt101.1 a1, bt101.2.1, bt101.2.2)))))
set_option maxHeartbeats 8000000 in
set_option maxRecDepth 100000 in
theorem spec_l1Cur_pick.calls (g : Nat) (s0_0 : List Int) (s0_1 : Int) (s0_2 : Int) (a1 : Int) (r1 : Int) (r2 : Int) (r3 : Int) (w0 w : World) (hI : IsS40 w0 w g s0_0 s0_1 s0_2) (hB : Below w0.heap.size w0 w) (h : spec_l1Cur_pick.f s0_0 s0_1 s0_2 a1 = some (r1, r2, r3)) :
  Calls Tryz.prog 31 #[.pointer (some ⟨g, 0, none⟩), .int .i64 a1] w fun e w' => e = .returned (.int .i64 r1) ∧ IsS40 w0 w' g s0_0 r2 r3 ∧ Below w0.heap.size w0 w' ∧ KeepBut w w' g none := by
 have HI0 := aK hI
 have HK := aK (KeepBut.refl w g none)
 have HL := aK hB.size
 clear hI
 have HW0 := aK hB.size
 have HB := aK hB
 clear hB
 have H : (if a1 ≤ 1 then (some (0, s0_1, s0_2)) else ((spec_l1Cur_next.f s0_0 s0_1 s0_2).bind fun bt101 => (if a1 > 200 then ((spec_l1Cur_next.f s0_0 bt101.2.1 bt101.2.2).bind fun bt104 => (if a1 = 0 then (none) else (some (Int.tmod (wrap64 ((wrap64 (bt101.1 * 256)) + bt104.1)) a1, bt104.2.1, bt104.2.2)))) else (if a1 = 0 then (none) else (some (Int.tmod bt101.1 a1, bt101.2.1, bt101.2.2)))))) = some (r1, r2, r3) := h
 clear h
 by_cases c3 : a1 ≤ 1
 ·rw [if_pos c3] at H
  have c3b0 : decide (a1 ≤ 1) = true := decide_eq_true c3
  clear c3
  simp only [Option.some.injEq, Prod.mk.injEq] at H
  obtain ⟨rfl, rfl, rfl⟩ := H
  go_enter Tryz.func31, Tryz.ntmps31
  go_wp2
  go_ret
  exact ⟨eW, yI HI0, yH HB, yK HK⟩
 ·rw [if_neg c3] at H
  have c3b0 : decide (a1 ≤ 1) = false := decide_eq_false c3
  clear c3
  obtain ⟨⟨t101, t102, t103⟩, A4, H⟩ := oB H
  try dsimp only at H
  by_cases c5 : a1 > 200
  ·rw [if_pos c5] at H
   have c5b0 : decide (200 < a1) = true := decide_eq_true c5
   clear c5
   obtain ⟨⟨t104, t105, t106⟩, A6, H⟩ := oB H
   try dsimp only at H
   by_cases c7 : a1 = 0
   ·rw [if_pos c7] at H
    exact absurd H (by simp)
   ·rw [if_neg c7] at H
    have c7b0 : (a1 == 0) = false := beq_eq_false_iff_ne.mpr c7
    have c7b1 : (a1 != 0) = true := bne_iff_ne.mpr c7
    simp only [Option.some.injEq, Prod.mk.injEq] at H
    obtain ⟨rfl, rfl, rfl⟩ := H
    go_enter Tryz.func31, Tryz.ntmps31
    go_wp2_with (first | ((with_reducible refine gate_callee (f := 58) rfl ?_); refine goesL_ (some 9) rfl rfl Tryz.func58 (by kernel_rfl) rfl #[.pointer (some ⟨g, 0, none⟩)] rfl tA ?_; (with_reducible refine (spec_l1Cur_next.calls g s0_0 s0_1 s0_2 t101 t102 t103 w0 _ ?side1 ?side2 A4.out).mono ?_); (case side1 => exact yI HI0); (case side2 => exact yH HB); rintro e w8 ⟨rfl, hi, hb, hk⟩; refine ⟨_, rfl, ?_⟩; have n0_ := aK (KeepBut.trans (yK HK) hk (.inl rfl)); have n1_ := aK (hb); have n2_ := aK (hi); clear HK; have HK := n0_; clear n0_; clear HB; have HB := n1_; clear n1_; clear HI0; have HI0 := n2_; clear n2_; (try clear hb)) | ((with_reducible refine gate_callee (f := 58) rfl ?_); refine goesL_ (some 15) rfl rfl Tryz.func58 (by kernel_rfl) rfl #[.pointer (some ⟨g, 0, none⟩)] rfl tA ?_; (with_reducible refine (spec_l1Cur_next.calls g s0_0 t102 t103 t104 t105 t106 w0 _ ?side1 ?side2 A6.out).mono ?_); (case side1 => exact yI HI0); (case side2 => exact yH HB); rintro e w9 ⟨rfl, hi, hb, hk⟩; refine ⟨_, rfl, ?_⟩; have n0_ := aK (KeepBut.trans (yK HK) hk (.inl rfl)); have n1_ := aK (hb); have n2_ := aK (hi); clear HK; have HK := n0_; clear n0_; clear HB; have HB := n1_; clear n1_; clear HI0; have HI0 := n2_; clear n2_; (try clear hb)))
    go_ret
    exact ⟨eW, yI HI0, yH HB, yK HK⟩
  ·rw [if_neg c5] at H
   have c5b0 : decide (200 < a1) = false := decide_eq_false c5
   clear c5
   by_cases c10 : a1 = 0
   ·rw [if_pos c10] at H
    exact absurd H (by simp)
   ·rw [if_neg c10] at H
    have c10b0 : (a1 == 0) = false := beq_eq_false_iff_ne.mpr c10
    have c10b1 : (a1 != 0) = true := bne_iff_ne.mpr c10
    simp only [Option.some.injEq, Prod.mk.injEq] at H
    obtain ⟨rfl, rfl, rfl⟩ := H
    go_enter Tryz.func31, Tryz.ntmps31
    go_wp2_with (first | ((with_reducible refine gate_callee (f := 58) rfl ?_); refine goesL_ (some 9) rfl rfl Tryz.func58 (by kernel_rfl) rfl #[.pointer (some ⟨g, 0, none⟩)] rfl tA ?_; (with_reducible refine (spec_l1Cur_next.calls g s0_0 s0_1 s0_2 t101 t102 t103 w0 _ ?side1 ?side2 A4.out).mono ?_); (case side1 => exact yI HI0); (case side2 => exact yH HB); rintro e w11 ⟨rfl, hi, hb, hk⟩; refine ⟨_, rfl, ?_⟩; have n0_ := aK (KeepBut.trans (yK HK) hk (.inl rfl)); have n1_ := aK (hb); have n2_ := aK (hi); clear HK; have HK := n0_; clear n0_; clear HB; have HB := n1_; clear n1_; clear HI0; have HI0 := n2_; clear n2_; (try clear hb)))
    go_ret
    exact ⟨eW, yI HI0, yH HB, yK HK⟩


def spec_l1Cur_one.f (s0_0 : List Int) (s0_1 : Int) (s0_2 : Int) (a1 : Int) : Option (Bool × Int × Int) := (spec_l1Cur_pick.f s0_0 s0_1 s0_2 a1).bind fun bt101 => (some ((bt101.1 == 0), bt101.2.1, bt101.2.2))
set_option maxHeartbeats 8000000 in
set_option maxRecDepth 100000 in
theorem spec_l1Cur_one.calls (g : Nat) (s0_0 : List Int) (s0_1 : Int) (s0_2 : Int) (a1 : Int) (r1 : Bool) (r2 : Int) (r3 : Int) (w0 w : World) (hI : IsS40 w0 w g s0_0 s0_1 s0_2) (hB : Below w0.heap.size w0 w) (h : spec_l1Cur_one.f s0_0 s0_1 s0_2 a1 = some (r1, r2, r3)) :
  Calls Tryz.prog 13 #[.pointer (some ⟨g, 0, none⟩), .int .i64 a1] w fun e w' => e = .returned (.bool r1) ∧ IsS40 w0 w' g s0_0 r2 r3 ∧ Below w0.heap.size w0 w' ∧ KeepBut w w' g none := by
 have HI0 := aK hI
 have HK := aK (KeepBut.refl w g none)
 have HL := aK hB.size
 clear hI
 have HW0 := aK hB.size
 have HB := aK hB
 clear hB
 have H : ((spec_l1Cur_pick.f s0_0 s0_1 s0_2 a1).bind fun bt101 => (some ((bt101.1 == 0), bt101.2.1, bt101.2.2))) = some (r1, r2, r3) := h
 clear h
 obtain ⟨⟨t101, t102, t103⟩, A3, H⟩ := oB H
 try dsimp only at H
 simp only [Option.some.injEq, Prod.mk.injEq] at H
 obtain ⟨rfl, rfl, rfl⟩ := H
 go_enter Tryz.func13, Tryz.ntmps13
 go_wp2_with (first | ((with_reducible refine gate_callee (f := 31) rfl ?_); refine goesL_ (some 7) rfl rfl Tryz.func31 (by kernel_rfl) rfl #[.pointer (some ⟨g, 0, none⟩), .int .i64 a1] rfl tA ?_; (with_reducible refine (spec_l1Cur_pick.calls g s0_0 s0_1 s0_2 a1 t101 t102 t103 w0 _ ?side1 ?side2 A3.out).mono ?_); (case side1 => exact yI HI0); (case side2 => exact yH HB); rintro e w4 ⟨rfl, hi, hb, hk⟩; refine ⟨_, rfl, ?_⟩; have n0_ := aK (KeepBut.trans (yK HK) hk (.inl rfl)); have n1_ := aK (hb); have n2_ := aK (hi); clear HK; have HK := n0_; clear n0_; clear HB; have HB := n1_; clear n1_; clear HI0; have HI0 := n2_; clear n2_; (try clear hb)))
 go_ret
 exact ⟨eW, yI HI0, yH HB, yK HK⟩


def spec_l1Num.f : Nat → Int → Option (ByteArray)
  | 0, _ => none
  | k + 1, a0 => if a0 < 0 then (if a0 = (-9223372036854775808) then (some (⟨#[45, 57, 50, 50, 51, 51, 55, 50, 48, 51, 54, 56, 53, 52, 55, 55, 53, 56, 48, 56]⟩ : ByteArray)) else ((spec_l1Num.f k (wrap64 (-a0))).bind fun t101 => (if 1 + t101.size ≤ 9223372036854775807 then (some ((⟨#[45]⟩ : ByteArray) ++ t101)) else (none)))) else (if a0 < 10 then (some (strOfNums (([(wrap64 (48 + a0)) % 256] : List Int)))) else ((spec_l1Num.f k (wrap64 (Int.tdiv a0 10))).bind fun t105 => ((some (([(wrap64 (48 + (Int.tmod a0 10))) % 256] : List Int) : List Int)).bind fun y106 => (if t105.size + (strOfNums y106).size ≤ 9223372036854775807 then (some (t105 ++ (strOfNums y106))) else (none)))))
def spec_l1Num.T7 : Bool × List (List Nat × List Nat) := (true, [([], []), ([0], [0]), ([1], [1]), ([], []), ([3], [3]), ([4], [4]), ([5], [5]), ([6], [6]), ([7], [7]), ([2, 8], [2, 8]), ([9, 2, 0, 1, 2, 3, 4, 5, 6, 7, 8, 9], [9])])
def spec_l1Num.B7 : List Nat := [0, 1, 3, 0, 8, 24, 56, 120, 248, 511, 1023]
theorem spec_l1Num.tab7 : rtab .any (opsOf Tryz.f57 7) = spec_l1Num.T7 := by kernel_rfl
theorem spec_l1Num.bits7 : waitsOk spec_l1Num.T7.2 spec_l1Num.B7 = true := by kernel_rfl
set_option maxHeartbeats 8000000 in
set_option maxRecDepth 100000 in
theorem spec_l1Num.calls (k : Nat) : ∀ (a0 : Int) (r : ByteArray) (w : World) (h : spec_l1Num.f k a0 = some r),
    Calls Tryz.prog 57 #[.int .i64 a0] w fun e w' => e = .returned (.string r) ∧ Below w.heap.size w w' := by
  induction k using Nat.strongRecOn with
  | _ k ih =>
  intro a0 r w h
  cases k with
  | zero => exact absurd h (by simp [spec_l1Num.f])
  | succ k =>
  simp only [spec_l1Num.f] at h
  have HB := aM (Below.refl w.heap.size w)
  have H : (if a0 < 0 then (if a0 = (-9223372036854775808) then (some (⟨#[45, 57, 50, 50, 51, 51, 55, 50, 48, 51, 54, 56, 53, 52, 55, 55, 53, 56, 48, 56]⟩ : ByteArray)) else ((spec_l1Num.f k (wrap64 (-a0))).bind fun t101 => (if 1 + t101.size ≤ 9223372036854775807 then (some ((⟨#[45]⟩ : ByteArray) ++ t101)) else (none)))) else (if a0 < 10 then (some (strOfNums (([(wrap64 (48 + a0)) % 256] : List Int)))) else ((spec_l1Num.f k (wrap64 (Int.tdiv a0 10))).bind fun t105 => ((some (([(wrap64 (48 + (Int.tmod a0 10))) % 256] : List Int) : List Int)).bind fun y106 => (if t105.size + (strOfNums y106).size ≤ 9223372036854775807 then (some (t105 ++ (strOfNums y106))) else (none)))))) = some r := h
  clear h
  by_cases c2 : a0 < 0
  · rw [if_pos c2] at H
    have c2b0 : decide (a0 < 0) = true := decide_eq_true c2
    clear c2
    by_cases c3 : a0 = (-9223372036854775808)
    · rw [if_pos c3] at H
      have c3b0 : (a0 == (-9223372036854775808)) = true := beq_iff_eq.mpr c3
      have c3b1 : (a0 != (-9223372036854775808)) = false := bne_eq_false_iff_eq.mpr c3
      clear c3
      obtain rfl := Option.some.inj H
      go_enter Tryz.func57, Tryz.ntmps57
      go_wp2
      go_ret
      exact ⟨by first | rfl | (simp [errW_none, errW_some] <;> rfl) | (simp [*, errW_none, errW_some] <;> rfl), by repeat (first | (with_reducible first | exact HB.out | apply below_alloc | apply pw_below_drewN | apply below_drew1) | exact HB.out)⟩
    · rw [if_neg c3] at H
      have c3b0 : (a0 == (-9223372036854775808)) = false := beq_eq_false_iff_ne.mpr c3
      have c3b1 : (a0 != (-9223372036854775808)) = true := bne_iff_ne.mpr c3
      replace H := Option.bind_eq_some_iff.mp H
      obtain ⟨t101, A40, H⟩ := H
      replace H : (if 1 + t101.size ≤ 9223372036854775807 then (some ((⟨#[45]⟩ : ByteArray) ++ t101)) else (none)) = some r := H
      have A4 := aM A40
      clear A40
      by_cases c5 : 1 + t101.size ≤ 9223372036854775807
      · rw [if_pos c5] at H
        have c5b0 := eq_true c5
        have c5b1 : decide (1 + t101.size ≤ 9223372036854775807) = true := decide_eq_true c5
        try have c5b2 : (9223372036854775807 < 1 + t101.size) = False := eq_false (Nat.not_lt.2 c5)
        obtain rfl := Option.some.inj H
        go_enter Tryz.func57, Tryz.ntmps57
        go_wp2_with (first | ((with_reducible refine gate_callee (f := 57) rfl ?_); refine goesL_ (some 9) rfl rfl Tryz.func57 (by kernel_rfl) rfl #[.int .i64 (wrap64 (-a0))] rfl (by (try simp only [List.map_toArray, List.map_cons, List.map_nil]); first | done | rfl | (simp only [List.length_drop, List.length_take]; rfl)) ?_; (with_reducible refine (ih k (by omega) (wrap64 (-a0)) t101 _ A4.out).mono ?_); rintro e w6 ⟨rfl, hb⟩; refine ⟨_, rfl, ?_⟩; have n0_ := aM (below_step (by repeat (first | (with_reducible first | exact HB.out | apply below_alloc | apply pw_below_drewN | apply below_drew1) | exact HB.out)) hb); clear HB; have HB := n0_; clear n0_; (try clear hb); (try clear hb2); (try clear hk); (try clear hi)))
        go_ret
        exact ⟨by first | rfl | (simp [errW_none, errW_some] <;> rfl) | (simp [*, errW_none, errW_some] <;> rfl), by repeat (first | (with_reducible first | exact HB.out | apply below_alloc | apply pw_below_drewN | apply below_drew1) | exact HB.out)⟩
      · rw [if_neg c5] at H
        exact absurd H (by simp)
  · rw [if_neg c2] at H
    have c2b0 : decide (a0 < 0) = false := decide_eq_false c2
    clear c2
    by_cases c7 : a0 < 10
    · rw [if_pos c7] at H
      have c7b0 : decide (a0 < 10) = true := decide_eq_true c7
      clear c7
      obtain ⟨y102, hy102⟩ : ∃ y_ : List Int, y_ = (([(wrap64 (48 + a0)) % 256] : List Int)) := ⟨_, rfl⟩
      replace H : (some (strOfNums y102)) = some r := by first | (rw [hy102]; with_reducible exact H) | (have H2_ := (Option.bind_some _ _).symm.trans H; rw [hy102]; with_reducible exact H2_) | (have H2_ := (Option.bind_some _ _).symm.trans H; with_reducible exact H2_) | with_reducible exact H | (rw [hy102]; exact H) | exact H
      have Ny102 := aM hy102
      clear hy102
      obtain rfl := Option.some.inj H
      go_enter Tryz.func57, Tryz.ntmps57
      go_wp2_with (first | ((with_reducible refine gate_dst (N := 16) rfl ?_); refine Kd.R_lit (Kd.int .u8) _ 5 ?hg (N := 16) ?hd (xs := ([(wrap64 (48 + a0)) % 256] : List Int)) (inner := [.int .u8 ((wrap64 (48 + a0)) % 256)]) (ok := fun _ => True) (okp := fun _ => True) ?hr ?hp (fun _ hk => hk) trivial (Below.refl _ _) (Nat.le_refl _) (by simp) ?_; (case hd => rfl); (case hg => rfl); (case hr => first | (go_simp; done) | (go_simp; rfl)); (case hp => exact (Reps.one (show Kd.M (Kd.int .u8) _ _ _ ((wrap64 (48 + a0)) % 256) [.int .u8 ((wrap64 (48 + a0)) % 256)] from rfl) (Reps.none _ _))); intro v103 w8 ho9 hb hg_ hnew_; clear hg_ hnew_; (first | rw [← Ny102.out] at ho9 | (simp only [Int.reduceToNat] at ho9; rw [← Ny102.out] at ho9)); have n0_ := aM (Kd.R_lower ho9 (below_size (by repeat (first | (with_reducible first | exact HB.out | apply below_alloc | apply pw_below_drewN | apply below_drew1) | exact HB.out)))); have n1_ := aM (below_step (by repeat (first | (with_reducible first | exact HB.out | apply below_alloc | apply pw_below_drewN | apply below_drew1) | exact HB.out)) hb); clear HB; have HO104 := n0_; have HB := n1_; clear n0_ n1_; clear hb ho9; have hcv10 := own_string (P := Tryz.prog) Tryz.underlying22 Tryz.underlying5 Tryz.underlying9 (Kd.own_of_R HO104.out)))
      go_ret
      exact ⟨by first | rfl | (simp [errW_none, errW_some] <;> rfl) | (simp [*, errW_none, errW_some] <;> rfl), by repeat (first | (with_reducible first | exact HB.out | apply below_alloc | apply pw_below_drewN | apply below_drew1) | exact HB.out)⟩
    · rw [if_neg c7] at H
      have c7b0 : decide (a0 < 10) = false := decide_eq_false c7
      clear c7
      replace H := Option.bind_eq_some_iff.mp H
      obtain ⟨t105, A110, H⟩ := H
      replace H : ((some (([(wrap64 (48 + (Int.tmod a0 10))) % 256] : List Int) : List Int)).bind fun y106 => (if t105.size + (strOfNums y106).size ≤ 9223372036854775807 then (some (t105 ++ (strOfNums y106))) else (none))) = some r := H
      have A11 := aM A110
      clear A110
      obtain ⟨y106, hy106⟩ : ∃ y_ : List Int, y_ = (([(wrap64 (48 + (Int.tmod a0 10))) % 256] : List Int)) := ⟨_, rfl⟩
      replace H : (if t105.size + (strOfNums y106).size ≤ 9223372036854775807 then (some (t105 ++ (strOfNums y106))) else (none)) = some r := by first | (rw [hy106]; with_reducible exact H) | (have H2_ := (Option.bind_some _ _).symm.trans H; rw [hy106]; with_reducible exact H2_) | (have H2_ := (Option.bind_some _ _).symm.trans H; with_reducible exact H2_) | with_reducible exact H | (rw [hy106]; exact H) | exact H
      have Ny106 := aM hy106
      clear hy106
      by_cases c12 : t105.size + (strOfNums y106).size ≤ 9223372036854775807
      · rw [if_pos c12] at H
        have c12b0 := eq_true c12
        have c12b1 : decide (t105.size + (strOfNums y106).size ≤ 9223372036854775807) = true := decide_eq_true c12
        try have c12b2 : (9223372036854775807 < t105.size + (strOfNums y106).size) = False := eq_false (Nat.not_lt.2 c12)
        obtain rfl := Option.some.inj H
        go_enter Tryz.func57, Tryz.ntmps57
        try go_wp2
        have n0_ := aM (below_drew1 HB.out)
        clear HB
        have HB := n0_
        clear n0_
        refine start_ (n := 11) (S := fun w' => True) (ds := []) #[false, false, false, false, false, false, false, false, false, false, false] (by kernel_rfl) rfl rfl trivial (fun hHeld => ?_); refine with_tabW spec_l1Num.tab7 spec_l1Num.bits7 (fun HT_ HW_ => ?_)
        generalize w.drew = w13 at HB hHeld ⊢
        refine pure_ (i := 0) (N := some 18) (v := ?_) (a' := ?_) #[true, false, false, false, false, false, false, false, false, false, false] rfl rfl (any_of HT_.out (by kernel_rfl)) (fun _ _ _ h => h) (Or.inl ⟨by rfl, ?_⟩) ?_ ?_
        rotate_left
        · intro w'
          go_simp
          with_reducible rfl
        rotate_left
        · simp only [Act.put, List.setIfInBounds_toArray, List.set_cons_zero, List.set_cons_succ, i64_w, i32_w]
          rfl
        refine pure_ (i := 1) (N := some 19) (v := ?_) (a' := ?_) #[true, true, false, false, false, false, false, false, false, false, false] rfl rfl (any_of HT_.out (by kernel_rfl)) (fun _ _ _ h => h) (Or.inl ⟨by rfl, ?_⟩) ?_ ?_
        rotate_left
        · intro w'
          go_simp
          with_reducible rfl
        rotate_left
        · simp only [Act.put, List.setIfInBounds_toArray, List.set_cons_zero, List.set_cons_succ, i64_w, i32_w]
          rfl
        refine pure_ (i := 3) (N := some 21) (v := ?_) (a' := ?_) #[true, true, false, true, false, false, false, false, false, false, false] rfl rfl (any_of HT_.out (by kernel_rfl)) (fun _ _ _ h => h) (Or.inl ⟨by rfl, ?_⟩) ?_ ?_
        rotate_left
        · intro w'
          go_simp
          with_reducible rfl
        rotate_left
        · simp only [Act.put, List.setIfInBounds_toArray, List.set_cons_zero, List.set_cons_succ, i64_w, i32_w]
          rfl
        refine pure_ (i := 4) (N := some 22) (v := ?_) (a' := ?_) #[true, true, false, true, true, false, false, false, false, false, false] rfl rfl (any_of HT_.out (by kernel_rfl)) (fun _ _ _ h => h) (Or.inl ⟨by rfl, ?_⟩) ?_ ?_
        rotate_left
        · intro w'
          go_simp
          with_reducible rfl
        rotate_left
        · simp only [Act.put, List.setIfInBounds_toArray, List.set_cons_zero, List.set_cons_succ, i64_w, i32_w]
          rfl
        refine pure_ (i := 5) (N := some 23) (v := ?_) (a' := ?_) #[true, true, false, true, true, true, false, false, false, false, false] rfl rfl (any_of HT_.out (by kernel_rfl)) (fun _ _ _ h => h) (Or.inl ⟨by rfl, ?_⟩) ?_ ?_
        rotate_left
        · intro w'
          go_simp
          with_reducible rfl
        rotate_left
        · simp only [Act.put, List.setIfInBounds_toArray, List.set_cons_zero, List.set_cons_succ, i64_w, i32_w]
          rfl
        refine pure_ (i := 6) (N := some 24) (v := ?_) (a' := ?_) #[true, true, false, true, true, true, true, false, false, false, false] rfl rfl (any_of HT_.out (by kernel_rfl)) (fun _ _ _ h => h) (Or.inl ⟨by rfl, ?_⟩) ?_ ?_
        rotate_left
        · intro w'
          go_simp
          with_reducible rfl
        rotate_left
        · simp only [Act.put, List.setIfInBounds_toArray, List.set_cons_zero, List.set_cons_succ, i64_w, i32_w]
          rfl
        refine join_ (σ := Value) 2 #[true, true, true, true, true, true, true, true, true, false, false] (fun s_ => [(20, .string t105), (25, s_), (26, .string (strOfNums y106))]) (fun s_ w' => (Kd.R (Kd.int .u8) 5 w' w.heap.size (fun _ => True) s_ y106) ∧ (Below w.heap.size w w')) ?_ ?_
        rotate_left
        · intro hCont
          refine two_ (i := 2) (j := 7) (Ni := some 20) (Nj := some 25) #[true, true, true, true, true, true, true, false, false, false, false] #[true, true, false, true, true, true, true, true, false, false, false] rfl rfl rfl rfl (two_of HT_.out (by kernel_rfl)) (by decide) (by decide) (fun K hK => ?_) (fun K hK => ?_)
          · skip
            refine goes_ Tryz.func57 (by kernel_rfl) rfl #[.int .i64 (wrap64 (Int.tdiv a0 10))] (by rfl) rfl rfl (by (try simp only [List.map_toArray, List.map_cons, List.map_nil]); first | done | rfl | (simp only [List.length_drop, List.length_take]; rfl)) ?_
            with_reducible refine (ih k (by omega) (wrap64 (Int.tdiv a0 10)) t105 _ A11.out).mono ?_
            rintro e w14 ⟨rfl, hb⟩
            refine ⟨_, rfl, ?_⟩
            have n0_ := aM (below_step (by repeat (first | (with_reducible first | exact HB.out | apply below_alloc | apply pw_below_drewN | apply below_drew1) | exact HB.out)) hb)
            clear HB
            have HB := n0_
            clear n0_
            (try clear hb)
            (try clear hb2)
            (try clear hk)
            (try clear hi)
            refine hK.out _ _ trivial (fun hHeld => ?_)
            clear hK K
            refine norm_ (a' := ?_) ?_ ?_
            rotate_left
            · show Act.put _ (some 20) _ = _
              simp only [Act.put, List.setIfInBounds_toArray, List.set_cons_zero, List.set_cons_succ, i64_w, i32_w]
              rfl
            refine one_ (i := 7) (N := some 25) #[true, true, true, true, true, true, true, true, false, false, false] rfl rfl (one_of HT_.out (by kernel_rfl)) (by decide) (fun K hK => ?_)
            refine Kd.R_lit_step (Kd.int .u8) _ 5 ?hg (N := 25) ?hd (xs := ([(wrap64 (48 + (Int.tmod a0 10))) % 256] : List Int)) (inner := [.int .u8 ((wrap64 (48 + (Int.tmod a0 10))) % 256)]) (ok := fun _ => True) (okp := fun _ => True) ?hr ?hp (fun _ hk => hk) trivial (Below.refl _ _) (Nat.le_refl _) (by simp) ?_; (case hd => rfl); (case hg => rfl); (case hr => first | (go_simp; done) | (go_simp; rfl)); (case hp => exact (Reps.one (show Kd.M (Kd.int .u8) _ _ _ ((wrap64 (48 + (Int.tmod a0 10))) % 256) [.int .u8 ((wrap64 (48 + (Int.tmod a0 10))) % 256)] from rfl) (Reps.none _ _)))
            intro v107 w15 ho16 hb hg_ hnew_
            clear hg_ hnew_
            (first | rw [← Ny106.out] at ho16 | (simp only [Int.reduceToNat] at ho16; rw [← Ny106.out] at ho16))
            have n0_ := aM (Kd.R_lower ho16 (below_size (by repeat (first | (with_reducible first | exact HB.out | apply below_alloc | apply pw_below_drewN | apply below_drew1) | exact HB.out))))
            have n1_ := aM (below_step (by repeat (first | (with_reducible first | exact HB.out | apply below_alloc | apply pw_below_drewN | apply below_drew1) | exact HB.out)) hb)
            clear HB
            have HO108 := n0_
            have HB := n1_
            clear n0_ n1_
            clear hb ho16
            refine hK.out _ _ trivial (fun hHeld => ?_)
            clear hK K
            refine norm_ (a' := ?_) ?_ ?_
            rotate_left
            · show Act.put _ (some 25) _ = _
              simp only [Act.put, List.setIfInBounds_toArray, List.set_cons_zero, List.set_cons_succ, i64_w, i32_w]
              rfl
            refine one_ (i := 8) (N := some 26) #[true, true, true, true, true, true, true, true, true, false, false] rfl rfl (one_of HT_.out (by kernel_rfl)) (by decide) (fun K hK => ?_)
            have hcv17 := own_string (P := Tryz.prog) Tryz.underlying22 Tryz.underlying5 Tryz.underlying9 (Kd.own_of_R HO108.out)
            refine value_ (w1 := ?_) (v := ?_) (by rfl) rfl ?_ ?_
            rotate_left 2
            · go_simp
              constructor
              · rfl
              · rfl
            clear hcv17
            refine hK.out _ _ trivial (fun hHeld => ?_)
            clear hK K
            refine norm_ (a' := ?_) ?_ ?_
            rotate_left
            · show Act.put _ (some 26) _ = _
              simp only [Act.put, List.setIfInBounds_toArray, List.set_cons_zero, List.set_cons_succ, i64_w, i32_w]
              rfl
            exact norm_ (by simp only [putAll, Act.put, List.setIfInBounds_toArray, List.set_cons_zero, List.set_cons_succ]) (hCont (v107) _ ⟨(rX HO108), (by repeat (first | (with_reducible first | exact HB.out | apply below_alloc | apply pw_below_drewN | apply below_drew1) | exact HB.out))⟩)
          · skip
            refine Kd.R_lit_step (Kd.int .u8) _ 5 ?hg (N := 25) ?hd (xs := ([(wrap64 (48 + (Int.tmod a0 10))) % 256] : List Int)) (inner := [.int .u8 ((wrap64 (48 + (Int.tmod a0 10))) % 256)]) (ok := fun _ => True) (okp := fun _ => True) ?hr ?hp (fun _ hk => hk) trivial (Below.refl _ _) (Nat.le_refl _) (by simp) ?_; (case hd => rfl); (case hg => rfl); (case hr => first | (go_simp; done) | (go_simp; rfl)); (case hp => exact (Reps.one (show Kd.M (Kd.int .u8) _ _ _ ((wrap64 (48 + (Int.tmod a0 10))) % 256) [.int .u8 ((wrap64 (48 + (Int.tmod a0 10))) % 256)] from rfl) (Reps.none _ _)))
            intro v107 w14 ho15 hb hg_ hnew_
            clear hg_ hnew_
            (first | rw [← Ny106.out] at ho15 | (simp only [Int.reduceToNat] at ho15; rw [← Ny106.out] at ho15))
            have n0_ := aM (Kd.R_lower ho15 (below_size (by repeat (first | (with_reducible first | exact HB.out | apply below_alloc | apply pw_below_drewN | apply below_drew1) | exact HB.out))))
            have n1_ := aM (below_step (by repeat (first | (with_reducible first | exact HB.out | apply below_alloc | apply pw_below_drewN | apply below_drew1) | exact HB.out)) hb)
            clear HB
            have HO108 := n0_
            have HB := n1_
            clear n0_ n1_
            clear hb ho15
            refine hK.out _ _ trivial (fun hHeld => ?_)
            clear hK K
            refine norm_ (a' := ?_) ?_ ?_
            rotate_left
            · show Act.put _ (some 25) _ = _
              simp only [Act.put, List.setIfInBounds_toArray, List.set_cons_zero, List.set_cons_succ, i64_w, i32_w]
              rfl
            refine two_ (i := 2) (j := 8) (Ni := some 20) (Nj := some 26) #[true, true, true, true, true, true, true, true, false, false, false] #[true, true, false, true, true, true, true, true, true, false, false] rfl rfl rfl rfl (two_of HT_.out (by kernel_rfl)) (by decide) (by decide) (fun K hK => ?_) (fun K hK => ?_)
            · skip
              refine goes_ Tryz.func57 (by kernel_rfl) rfl #[.int .i64 (wrap64 (Int.tdiv a0 10))] (by rfl) rfl rfl (by (try simp only [List.map_toArray, List.map_cons, List.map_nil]); first | done | rfl | (simp only [List.length_drop, List.length_take]; rfl)) ?_
              with_reducible refine (ih k (by omega) (wrap64 (Int.tdiv a0 10)) t105 _ A11.out).mono ?_
              rintro e w16 ⟨rfl, hb⟩
              refine ⟨_, rfl, ?_⟩
              have n0_ := aM (Kd.R_below (rX HO108) hb)
              have n1_ := aM (below_step (by repeat (first | (with_reducible first | exact HB.out | apply below_alloc | apply pw_below_drewN | apply below_drew1) | exact HB.out)) hb)
              clear HO108
              clear HB
              have HO108 := n0_
              have HB := n1_
              clear n0_ n1_
              (try clear hb)
              (try clear hb2)
              (try clear hk)
              (try clear hi)
              refine hK.out _ _ trivial (fun hHeld => ?_)
              clear hK K
              refine norm_ (a' := ?_) ?_ ?_
              rotate_left
              · show Act.put _ (some 20) _ = _
                simp only [Act.put, List.setIfInBounds_toArray, List.set_cons_zero, List.set_cons_succ, i64_w, i32_w]
                rfl
              refine one_ (i := 8) (N := some 26) #[true, true, true, true, true, true, true, true, true, false, false] rfl rfl (one_of HT_.out (by kernel_rfl)) (by decide) (fun K hK => ?_)
              have hcv17 := own_string (P := Tryz.prog) Tryz.underlying22 Tryz.underlying5 Tryz.underlying9 (Kd.own_of_R HO108.out)
              refine value_ (w1 := ?_) (v := ?_) (by rfl) rfl ?_ ?_
              rotate_left 2
              · go_simp
                constructor
                · rfl
                · rfl
              clear hcv17
              refine hK.out _ _ trivial (fun hHeld => ?_)
              clear hK K
              refine norm_ (a' := ?_) ?_ ?_
              rotate_left
              · show Act.put _ (some 26) _ = _
                simp only [Act.put, List.setIfInBounds_toArray, List.set_cons_zero, List.set_cons_succ, i64_w, i32_w]
                rfl
              exact norm_ (by simp only [putAll, Act.put, List.setIfInBounds_toArray, List.set_cons_zero, List.set_cons_succ]) (hCont (v107) _ ⟨(rX HO108), (by repeat (first | (with_reducible first | exact HB.out | apply below_alloc | apply pw_below_drewN | apply below_drew1) | exact HB.out))⟩)
            · skip
              have hcv16 := own_string (P := Tryz.prog) Tryz.underlying22 Tryz.underlying5 Tryz.underlying9 (Kd.own_of_R HO108.out)
              refine value_ (w1 := ?_) (v := ?_) (by rfl) rfl ?_ ?_
              rotate_left 2
              · go_simp
                constructor
                · rfl
                · rfl
              clear hcv16
              refine hK.out _ _ trivial (fun hHeld => ?_)
              clear hK K
              refine norm_ (a' := ?_) ?_ ?_
              rotate_left
              · show Act.put _ (some 26) _ = _
                simp only [Act.put, List.setIfInBounds_toArray, List.set_cons_zero, List.set_cons_succ, i64_w, i32_w]
                rfl
              refine one_ (i := 2) (N := some 20) #[true, true, true, true, true, true, true, true, true, false, false] rfl rfl (one_of HT_.out (by kernel_rfl)) (by decide) (fun K hK => ?_)
              refine goes_ Tryz.func57 (by kernel_rfl) rfl #[.int .i64 (wrap64 (Int.tdiv a0 10))] (by rfl) rfl rfl (by (try simp only [List.map_toArray, List.map_cons, List.map_nil]); first | done | rfl | (simp only [List.length_drop, List.length_take]; rfl)) ?_
              with_reducible refine (ih k (by omega) (wrap64 (Int.tdiv a0 10)) t105 _ A11.out).mono ?_
              rintro e w17 ⟨rfl, hb⟩
              refine ⟨_, rfl, ?_⟩
              have n0_ := aM (Kd.R_below (rX HO108) hb)
              have n1_ := aM (below_step (by repeat (first | (with_reducible first | exact HB.out | apply below_alloc | apply pw_below_drewN | apply below_drew1) | exact HB.out)) hb)
              clear HO108
              clear HB
              have HO108 := n0_
              have HB := n1_
              clear n0_ n1_
              (try clear hb)
              (try clear hb2)
              (try clear hk)
              (try clear hi)
              refine hK.out _ _ trivial (fun hHeld => ?_)
              clear hK K
              refine norm_ (a' := ?_) ?_ ?_
              rotate_left
              · show Act.put _ (some 20) _ = _
                simp only [Act.put, List.setIfInBounds_toArray, List.set_cons_zero, List.set_cons_succ, i64_w, i32_w]
                rfl
              exact norm_ (by simp only [putAll, Act.put, List.setIfInBounds_toArray, List.set_cons_zero, List.set_cons_succ]) (hCont (v107) _ ⟨(rX HO108), (by repeat (first | (with_reducible first | exact HB.out | apply below_alloc | apply pw_below_drewN | apply below_drew1) | exact HB.out))⟩)
        rintro v107 w18 ⟨h0_, h1_⟩
        have n0_ : Aside0 (Kd.R (Kd.int .u8) 5 w18 w.heap.size (fun _ => True) v107 y106) := ⟨h0_⟩
        have n1_ : Aside0 (Below w.heap.size w w18) := ⟨h1_⟩
        clear HB
        clear h0_ h1_
        have HO108 := n0_
        have HB := n1_
        clear n0_ n1_
        have hHeld := trivial
        refine norm_ (a' := ?_) ?_ ?_
        rotate_left
        · simp only [putAll, Act.put, List.setIfInBounds_toArray, List.set_cons_zero, List.set_cons_succ]
          rfl
        refine pure_ (i := 9) (N := some 27) (v := ?_) (a' := ?_) #[true, true, true, true, true, true, true, true, true, true, false] rfl rfl (any_of HT_.out (by kernel_rfl)) (fun _ _ _ h => h) (Or.inl ⟨by rfl, ?_⟩) ?_ ?_
        rotate_left
        · intro w'
          go_simp
          with_reducible rfl
        rotate_left
        · simp only [Act.put, List.setIfInBounds_toArray, List.set_cons_zero, List.set_cons_succ, i64_w, i32_w]
          rfl
        refine pure_ (i := 10) (N := some 2) (v := ?_) (a' := ?_) #[true, true, true, true, true, true, true, true, true, true, true] rfl rfl (any_of HT_.out (by kernel_rfl)) (fun _ _ _ h => h) (Or.inl ⟨by rfl, ?_⟩) ?_ ?_
        rotate_left
        · intro w'
          go_simp
          with_reducible rfl
        rotate_left
        · simp only [Act.put, List.setIfInBounds_toArray, List.set_cons_zero, List.set_cons_succ, i64_w, i32_w]
          rfl
        refine done_ (done_of HT_.out (by kernel_rfl)) ?_
        try go_wp2
        go_ret
        exact ⟨by first | rfl | (simp [errW_none, errW_some] <;> rfl) | (simp [*, errW_none, errW_some] <;> rfl), by repeat (first | (with_reducible first | exact HB.out | apply below_alloc | apply pw_below_drewN | apply below_drew1) | exact HB.out)⟩
      · rw [if_neg c12] at H
        exact absurd H (by simp)


def spec_leText.f : Nat → Int → List (S55) → Option (ByteArray)
 | 0, _, _ => none
 | k + 1, a0_0, l0_1 => if (l0_1.length : Int) = 0 then ((spec_l1Num.f k a0_0).bind fun t102 => (if 1 + t102.size ≤ 9223372036854775807 then (some ((⟨#[116]⟩ : ByteArray) ++ t102)) else (none))) else (if 0 < (l0_1.length : Int) then ((spec_leText.f k ((rd_T55 l0_1 0).f0) ((rd_T55 l0_1 0).f1)).bind fun t104 => (if 1 + t104.size ≤ 9223372036854775807 then (if ((⟨#[40]⟩ : ByteArray) ++ t104).size + 1 ≤ 9223372036854775807 then (if 1 < (l0_1.length : Int) then ((spec_leText.f k ((rd_T55 l0_1 1).f0) ((rd_T55 l0_1 1).f1)).bind fun t106 => (if (((⟨#[40]⟩ : ByteArray) ++ t104) ++ (⟨#[62]⟩ : ByteArray)).size + t106.size ≤ 9223372036854775807 then (if ((((⟨#[40]⟩ : ByteArray) ++ t104) ++ (⟨#[62]⟩ : ByteArray)) ++ t106).size + 1 ≤ 9223372036854775807 then (some (((((⟨#[40]⟩ : ByteArray) ++ t104) ++ (⟨#[62]⟩ : ByteArray)) ++ t106) ++ (⟨#[41]⟩ : ByteArray))) else (none)) else (none))) else (none)) else (none)) else (none))) else (none))
def spec_leText.T3 : Bool × List (List Nat × List Nat) := (true, [([], []), ([0], [0]), ([1], [1]), ([2], [2]), ([3], [3]), ([4], [4]), ([5], [5]), ([], []), ([7], [7]), ([8], [8]), ([9], [9]), ([10, 4], [10]), ([6, 11], [6, 11]), ([12], [12]), ([13, 11, 0, 1, 2, 3, 4, 5, 6, 7, 8, 9, 10, 11, 12, 13], [13])])
def spec_leText.B3 : List Nat := [0, 1, 3, 7, 15, 31, 63, 0, 128, 384, 896, 1951, 4095, 8191, 16383]
theorem spec_leText.tab3 : rtab .any (opsOf Tryz.f28 3) = spec_leText.T3 := by kernel_rfl
theorem spec_leText.bits3 : waitsOk spec_leText.T3.2 spec_leText.B3 = true := by kernel_rfl
set_option maxHeartbeats 8000000 in
set_option maxRecDepth 100000 in
theorem spec_leText.calls (k : Nat) : ∀ (a0_0 : Int) (A0_1 : Option Addr) (c0_1 : Nat) (l0_1 : List (S55)) (r : ByteArray) (w : World) (hr0_1 : Kd.C k55 w A0_1 l0_1.length l0_1) (hc0_1 : l0_1.length ≤ c0_1) (h : spec_leText.f k a0_0 l0_1 = some r),
  Calls Tryz.prog 28 #[.agg #[.int .i64 a0_0, .slice A0_1 l0_1.length c0_1]] w fun e w' => e = .returned (.string r) ∧ Below w.heap.size w w' := by
 induction k using Nat.strongRecOn with
 | _ k ih =>
 intro a0_0 A0_1 c0_1 l0_1 r w hr0_1 hc0_1 h
 cases k with
 | zero => exact absurd h (by simp [spec_leText.f])
 | succ k =>
 simp only [spec_leText.f] at h
 have hu55 := Tryz.underlying55
 have HR0_1 := aK hr0_1
 have HC0_1 := aK hc0_1
 clear hr0_1 hc0_1
 have HB := aK (Below.refl w.heap.size w)
 have H : (if (l0_1.length : Int) = 0 then ((spec_l1Num.f k a0_0).bind fun t102 => (if 1 + t102.size ≤ 9223372036854775807 then (some ((⟨#[116]⟩ : ByteArray) ++ t102)) else (none))) else (if 0 < (l0_1.length : Int) then ((spec_leText.f k ((rd_T55 l0_1 0).f0) ((rd_T55 l0_1 0).f1)).bind fun t104 => (if 1 + t104.size ≤ 9223372036854775807 then (if ((⟨#[40]⟩ : ByteArray) ++ t104).size + 1 ≤ 9223372036854775807 then (if 1 < (l0_1.length : Int) then ((spec_leText.f k ((rd_T55 l0_1 1).f0) ((rd_T55 l0_1 1).f1)).bind fun t106 => (if (((⟨#[40]⟩ : ByteArray) ++ t104) ++ (⟨#[62]⟩ : ByteArray)).size + t106.size ≤ 9223372036854775807 then (if ((((⟨#[40]⟩ : ByteArray) ++ t104) ++ (⟨#[62]⟩ : ByteArray)) ++ t106).size + 1 ≤ 9223372036854775807 then (some (((((⟨#[40]⟩ : ByteArray) ++ t104) ++ (⟨#[62]⟩ : ByteArray)) ++ t106) ++ (⟨#[41]⟩ : ByteArray))) else (none)) else (none))) else (none)) else (none)) else (none))) else (none))) = some r := h
 clear h
 by_cases c2 : (l0_1.length : Int) = 0
 ·rw [if_pos c2] at H
  have c2b0 : ((l0_1.length : Int) == 0) = true := beq_iff_eq.mpr c2
  have c2b1 : ((l0_1.length : Int) != 0) = false := bne_eq_false_iff_eq.mpr c2
  clear c2
  obtain ⟨t102, A3, H⟩ := oB H
  try dsimp only at H
  by_cases c4 : 1 + t102.size ≤ 9223372036854775807
  ·rw [if_pos c4] at H
   have c4b0 := eq_true c4
   have c4b1 : decide (1 + t102.size ≤ 9223372036854775807) = true := decide_eq_true c4
   try have c4b2 : (9223372036854775807 < 1 + t102.size) = False := eq_false (Nat.not_lt.2 c4)
   obtain rfl := Option.some.inj H
   go_enter Tryz.func28, Tryz.ntmps28
   go_wp2_with (first | ((with_reducible refine gate_dst (N := 1) rfl ?_); refine bE (N := 1) (cs := #[.int .i64 a0_0, .slice A0_1 l0_1.length c0_1]) (t := 55) ?_; intro gb101 hg w5 hbox hb; have GW101 := qw HB hg; have GE101 := qw HB hg; have BK101 := aK hbox; replace HB := qs HB hb; clear hb hbox hg; obtain ⟨hcz6_0, hcz6_1, hfz6_0, hfz6_1⟩ := cA2 BK101) | ((with_reducible refine gate_callee (f := 57) rfl ?_); refine goesL_ (some 9) rfl rfl Tryz.func57 (by kernel_rfl) rfl #[.int .i64 a0_0] rfl tA ?_; (with_reducible refine (spec_l1Num.calls k a0_0 t102 _ A3.out).mono ?_); rintro e w7 ⟨rfl, hb⟩; refine ⟨_, rfl, ?_⟩; replace BK101 := qb BK101 hb; replace HB := qs HB hb; (try clear hb)))
   go_ret
   exact ⟨eW, pH HB⟩
  ·rw [if_neg c4] at H
   exact absurd H (by simp)
 ·rw [if_neg c2] at H
  have c2b0 : ((l0_1.length : Int) == 0) = false := beq_eq_false_iff_ne.mpr c2
  have c2b1 : ((l0_1.length : Int) != 0) = true := bne_iff_ne.mpr c2
  have c2b2 : ¬ (l0_1 = []) := fun h_ => c2 (by rw [h_]; rfl)
  by_cases c8 : 0 < (l0_1.length : Int)
  ·rw [if_pos c8] at H
   have c8b0 : decide (0 < (l0_1.length : Int)) = true := decide_eq_true c8
   have c8b1 : decide (0 < l0_1.length) = true := decide_eq_true (by omega)
   clear c8
   obtain ⟨t104, A9, H⟩ := oB H
   try dsimp only at H
   by_cases c10 : 1 + t104.size ≤ 9223372036854775807
   ·rw [if_pos c10] at H
    have c10b0 := eq_true c10
    have c10b1 : decide (1 + t104.size ≤ 9223372036854775807) = true := decide_eq_true c10
    try have c10b2 : (9223372036854775807 < 1 + t104.size) = False := eq_false (Nat.not_lt.2 c10)
    by_cases c11 : ((⟨#[40]⟩ : ByteArray) ++ t104).size + 1 ≤ 9223372036854775807
    ·rw [if_pos c11] at H
     have c11b0 := eq_true c11
     have c11b1 : decide (((⟨#[40]⟩ : ByteArray) ++ t104).size + 1 ≤ 9223372036854775807) = true := decide_eq_true c11
     try have c11b2 : (9223372036854775807 < ((⟨#[40]⟩ : ByteArray) ++ t104).size + 1) = False := eq_false (Nat.not_lt.2 c11)
     have c11b3 : (9223372036854775807 < 1 + t104.size + 1) = False := by have e := c11b2; simp only [ByteArray.size_append] at e; exact e
     by_cases c12 : 1 < (l0_1.length : Int)
     ·rw [if_pos c12] at H
      have c12b0 : decide (1 < (l0_1.length : Int)) = true := decide_eq_true c12
      have c12b1 : decide (1 < l0_1.length) = true := decide_eq_true (by omega)
      clear c12
      obtain ⟨t106, A13, H⟩ := oB H
      try dsimp only at H
      by_cases c14 : (((⟨#[40]⟩ : ByteArray) ++ t104) ++ (⟨#[62]⟩ : ByteArray)).size + t106.size ≤ 9223372036854775807
      ·rw [if_pos c14] at H
       have c14b0 := eq_true c14
       have c14b1 : decide ((((⟨#[40]⟩ : ByteArray) ++ t104) ++ (⟨#[62]⟩ : ByteArray)).size + t106.size ≤ 9223372036854775807) = true := decide_eq_true c14
       try have c14b2 : (9223372036854775807 < (((⟨#[40]⟩ : ByteArray) ++ t104) ++ (⟨#[62]⟩ : ByteArray)).size + t106.size) = False := eq_false (Nat.not_lt.2 c14)
       have c14b3 : (9223372036854775807 < 1 + t104.size + 1 + t106.size) = False := by have e := c14b2; simp only [ByteArray.size_append] at e; exact e
       by_cases c15 : ((((⟨#[40]⟩ : ByteArray) ++ t104) ++ (⟨#[62]⟩ : ByteArray)) ++ t106).size + 1 ≤ 9223372036854775807
       ·rw [if_pos c15] at H
        have c15b0 := eq_true c15
        have c15b1 : decide (((((⟨#[40]⟩ : ByteArray) ++ t104) ++ (⟨#[62]⟩ : ByteArray)) ++ t106).size + 1 ≤ 9223372036854775807) = true := decide_eq_true c15
        try have c15b2 : (9223372036854775807 < ((((⟨#[40]⟩ : ByteArray) ++ t104) ++ (⟨#[62]⟩ : ByteArray)) ++ t106).size + 1) = False := eq_false (Nat.not_lt.2 c15)
        have c15b3 : (9223372036854775807 < 1 + t104.size + 1 + t106.size + 1) = False := by have e := c15b2; simp only [ByteArray.size_append] at e; exact e
        obtain rfl := Option.some.inj H
        go_enter Tryz.func28, Tryz.ntmps28
        try go_wp2_with (first | ((with_reducible refine gate_dst (N := 1) rfl ?_); refine bE (N := 1) (cs := #[.int .i64 a0_0, .slice A0_1 l0_1.length c0_1]) (t := 55) ?_; intro gb101 hg w16 hbox hb; have GW101 := qw HB hg; have GE101 := qw HB hg; have BK101 := aK hbox; replace HB := qs HB hb; clear hb hbox hg; obtain ⟨hcz17_0, hcz17_1, hfz17_0, hfz17_1⟩ := cA2 BK101))
        have n_ := aJ (aK (blk_drew BK101.out)) (aK (below_drew1 HB.out))
        clear BK101 HB
        obtain ⟨BK101, HB⟩ := n_
        have p103 : 0 ≤ (0 : Int) := (by omega)
        have q103 : 0 < (l0_1.length : Int) := dA
        obtain ⟨ad103, A103_1, c103_1, e103, hx103_0, hx103_1, hl103_1, hi103_1⟩ := at_T55 HR0_1.out 0 p103 q103
        have hw103_1 := hx103_1
        (try rw [show ((0 : Int)).toNat = 0 from rfl] at hw103_1)
        (try rw [show 0 * 2 = 0 from rfl] at hw103_1)
        (try rw [Addr.add_zero'] at hw103_1)
        have hw103_0 := hx103_0
        (try rw [show ((0 : Int)).toNat = 0 from rfl] at hw103_0)
        (try rw [show 0 * 2 = 0 from rfl] at hw103_0)
        (try rw [Addr.add_zero'] at hw103_0)
        cases e103
        have qi103 : (0 < l0_1.length) = True := eq_true (by omega)
        (try rw [show ((0 : Int)).toNat = 0 from rfl] at hx103_0)
        (try rw [show 0 * 2 = 0 from rfl] at hx103_0)
        (try rw [Addr.add_zero'] at hx103_0)
        (try rw [show ((0 : Int)).toNat = 0 from rfl] at hx103_1)
        (try rw [show 0 * 2 = 0 from rfl] at hx103_1)
        (try rw [Addr.add_zero'] at hx103_1)
        replace hx103_0 := uC HB hx103_0
        replace hx103_1 := uC HB hx103_1
        have HR103_1 := aK hi103_1
        have HC103_1 := aK hl103_1
        clear hi103_1 hl103_1
        replace p103 := eq_true p103
        replace q103 := eq_true q103
        have p105 : 0 ≤ (1 : Int) := (by omega)
        have q105 : 1 < (l0_1.length : Int) := dA
        obtain ⟨ad105, A105_1, c105_1, e105, hx105_0, hx105_1, hl105_1, hi105_1⟩ := at_T55 HR0_1.out 1 p105 q105
        have hw105_1 := hx105_1
        (try rw [show ((1 : Int)).toNat = 1 from rfl] at hw105_1)
        (try rw [show 1 * 2 = 2 from rfl] at hw105_1)
        (try simp only [Nat.reduceMul, Nat.reduceEqDiff, Go.Addr.add, ↓reduceIte] at hw105_1)
        have hw105_0 := hx105_0
        (try rw [show ((1 : Int)).toNat = 1 from rfl] at hw105_0)
        (try rw [show 1 * 2 = 2 from rfl] at hw105_0)
        (try simp only [Nat.reduceMul, Nat.reduceEqDiff, Go.Addr.add, ↓reduceIte] at hw105_0)
        obtain rfl : ad103 = ad105 := (by injection e105)
        (try simp only [show (1 : Int).toNat = 1 from rfl, Nat.reduceMul, Nat.reduceEqDiff, Go.Addr.add, ↓reduceIte] at hx105_0)
        (try simp only [show (1 : Int).toNat = 1 from rfl, Nat.reduceMul, Nat.reduceEqDiff, Go.Addr.add, ↓reduceIte] at hx105_1)
        have qi105 : (1 < l0_1.length) = True := eq_true (by omega)
        (try rw [show ((1 : Int)).toNat = 1 from rfl] at hx105_0)
        (try rw [show 1 * 2 = 2 from rfl] at hx105_0)
        (try rw [show ((1 : Int)).toNat = 1 from rfl] at hx105_1)
        (try rw [show 1 * 2 = 2 from rfl] at hx105_1)
        replace hx105_0 := uC HB hx105_0
        replace hx105_1 := uC HB hx105_1
        have HR105_1 := aK hi105_1
        have HC105_1 := aK hl105_1
        clear hi105_1 hl105_1
        replace p105 := eq_true p105
        replace q105 := eq_true q105
        refine start_ (n := 15) (S := fun w' => w'.cell? ⟨gb101, 0, none⟩ = some (.int .i64 a0_0) ∧ w'.cell? ⟨gb101, 1, none⟩ = some (.slice (some ad103) l0_1.length c0_1) ∧ w'.cell? ad103 = some (.int .i64 ((rd_T55 l0_1 0).f0)) ∧ w'.cell? ⟨ad103.block, ad103.off + 1, none⟩ = some (.slice A103_1 ((rd_T55 l0_1 0).f1).length c103_1) ∧ w'.cell? ⟨ad103.block, ad103.off + 2, none⟩ = some (.int .i64 ((rd_T55 l0_1 1).f0)) ∧ w'.cell? ⟨ad103.block, ad103.off + 2 + 1, none⟩ = some (.slice A105_1 ((rd_T55 l0_1 1).f1).length c105_1)) (ds := []) (bs 0 15) (by kernel_rfl) rfl rfl ⟨(blk_cell BK101.out 0).trans rfl, (blk_cell BK101.out 1).trans rfl, (uC HB hw103_0), (uC HB hw103_1), (uC HB hw105_0), (uC HB hw105_1)⟩ (fun hHeld => ?_); refine with_tabW spec_leText.tab3 spec_leText.bits3 (fun HT_ HW_ => ?_)
        generalize w16.drew = w18 at BK101 HB HR103_1 HR105_1 hx103_0 hx103_1 hx105_0 hx105_1 hHeld ⊢
        refine pS (i := 0) (N := some 11) (bs 1 14) (aO HT_) ?_
        refine pS (i := 7) (N := some 18) #[true, false, false, false, false, false, false, true, false, false, false, false, false, false, false] (aO HT_) ?_
        refine take_ (i := 1) (N := some 12) (v := ?_) (a' := ?_) #[true, true, false, false, false, false, false, true, false, false, false, false, false, false, false] rfl rfl (take_ofW HT_.out HW_.out (by kernel_rfl)) (fun _ _ _ h => h) (Or.inl ⟨by rfl, ?_⟩) hHeld ?_ ?_
        rotate_left
        ·rintro w' ⟨s0, s1, s2, s3, s4, s5⟩
         go_simp
         with_reducible rfl
        rotate_left
        ·simp only [sP, i64_w, i32_w]
         rfl
        refine pS (i := 2) (N := some 13) #[true, true, true, false, false, false, false, true, false, false, false, false, false, false, false] (aO HT_) ?_
        refine take_ (i := 3) (N := some 14) (v := ?_) (a' := ?_) #[true, true, true, true, false, false, false, true, false, false, false, false, false, false, false] rfl rfl (take_ofW HT_.out HW_.out (by kernel_rfl)) (fun _ _ _ h => h) (Or.inl ⟨by rfl, ?_⟩) hHeld ?_ ?_
        rotate_left
        ·rintro w' ⟨s0, s1, s2, s3, s4, s5⟩
         go_simp
         with_reducible rfl
        rotate_left
        ·simp only [sP, i64_w, i32_w]
         rfl
        refine take_ (i := 8) (N := some 19) (v := ?_) (a' := ?_) #[true, true, true, true, false, false, false, true, true, false, false, false, false, false, false] rfl rfl (take_ofW HT_.out HW_.out (by kernel_rfl)) (fun _ _ _ h => h) (Or.inl ⟨by rfl, ?_⟩) hHeld ?_ ?_
        rotate_left
        ·rintro w' ⟨s0, s1, s2, s3, s4, s5⟩
         go_simp
         with_reducible rfl
        rotate_left
        ·simp only [sP, i64_w, i32_w]
         rfl
        refine pS (i := 9) (N := some 20) #[true, true, true, true, false, false, false, true, true, true, false, false, false, false, false] (aO HT_) ?_
        refine take_ (i := 10) (N := some 21) (v := ?_) (a' := ?_) #[true, true, true, true, false, false, false, true, true, true, true, false, false, false, false] rfl rfl (take_ofW HT_.out HW_.out (by kernel_rfl)) (fun _ _ _ h => h) (Or.inl ⟨by rfl, ?_⟩) hHeld ?_ ?_
        rotate_left
        ·rintro w' ⟨s0, s1, s2, s3, s4, s5⟩
         go_simp
         with_reducible rfl
        rotate_left
        ·simp only [sP, i64_w, i32_w]
         rfl
        refine one_ (i := 4) (N := some 15) #[true, true, true, true, true, false, false, true, true, true, true, false, false, false, false] rfl rfl (one_of HT_.out (by kernel_rfl)) (by decide) (fun K hK => ?_)
        refine goes_ Tryz.func28 (by kernel_rfl) rfl #[.agg #[.int .i64 ((rd_T55 l0_1 0).f0), .slice A103_1 ((rd_T55 l0_1 0).f1).length c103_1]] (by rfl) rfl rfl tA ?_
        with_reducible refine (ih k (by omega) ((rd_T55 l0_1 0).f0) _ _ ((rd_T55 l0_1 0).f1) t104 _ ?side1 ?side2 A9.out).mono ?_
        (case side1 => exact sC (Kd.C_below HR103_1.out HB.out))
        (case side2 => exact HC103_1.out)
        rintro e w19 ⟨rfl, hb⟩
        refine ⟨_, rfl, ?_⟩
        have n_ := aJ (qb BK101 hb) (aK (below_step (pH HB) hb))
        clear BK101 HB
        obtain ⟨BK101, HB⟩ := n_
        (try clear hb)
        (try clear hb2)
        (try clear hk)
        (try clear hi)
        refine hK.out _ _ ⟨(blk_cell BK101.out 0).trans rfl, (blk_cell BK101.out 1).trans rfl, (uC HB hw103_0), (uC HB hw103_1), (uC HB hw105_0), (uC HB hw105_1)⟩ (fun hHeld => ?_)
        clear hK K
        refine norm_ (a' := ?_) ?_ ?_
        rotate_left
        ·show Act.put _ (some 15) _ = _
         simp only [sP, i64_w, i32_w]
         rfl
        refine pS (i := 5) (N := some 16) #[true, true, true, true, true, true, false, true, true, true, true, false, false, false, false] (aO HT_) ?_
        refine pS (i := 6) (N := some 17) (bs 11 4) (aO HT_) ?_
        refine one_ (i := 11) (N := some 22) (bs 12 3) rfl rfl (one_of HT_.out (by kernel_rfl)) (by decide) (fun K hK => ?_)
        refine goes_ Tryz.func28 (by kernel_rfl) rfl #[.agg #[.int .i64 ((rd_T55 l0_1 1).f0), .slice A105_1 ((rd_T55 l0_1 1).f1).length c105_1]] (by rfl) rfl rfl tA ?_
        with_reducible refine (ih k (by omega) ((rd_T55 l0_1 1).f0) _ _ ((rd_T55 l0_1 1).f1) t106 _ ?side1 ?side2 A13.out).mono ?_
        (case side1 => exact sC (Kd.C_below HR105_1.out HB.out))
        (case side2 => exact HC105_1.out)
        rintro e w20 ⟨rfl, hb⟩
        refine ⟨_, rfl, ?_⟩
        have n_ := aJ (qb BK101 hb) (aK (below_step (pH HB) hb))
        clear BK101 HB
        obtain ⟨BK101, HB⟩ := n_
        (try clear hb)
        (try clear hb2)
        (try clear hk)
        (try clear hi)
        refine hK.out _ _ ⟨(blk_cell BK101.out 0).trans rfl, (blk_cell BK101.out 1).trans rfl, (uC HB hw103_0), (uC HB hw103_1), (uC HB hw105_0), (uC HB hw105_1)⟩ (fun hHeld => ?_)
        clear hK K
        refine norm_ (a' := ?_) ?_ ?_
        rotate_left
        ·show Act.put _ (some 22) _ = _
         simp only [sP, i64_w, i32_w]
         rfl
        refine pS (i := 12) (N := some 23) (bs 13 2) (aO HT_) ?_
        refine pS (i := 13) (N := some 24) (bs 14 1) (aO HT_) ?_
        refine pS (i := 14) (N := some 2) (bs 15 0) (aO HT_) ?_
        refine done_ (done_of HT_.out (by kernel_rfl)) ?_
        try go_wp2
        go_ret
        exact ⟨eW, pH HB⟩
       ·rw [if_neg c15] at H
        exact absurd H (by simp)
      ·rw [if_neg c14] at H
       exact absurd H (by simp)
     ·rw [if_neg c12] at H
      exact absurd H (by simp)
    ·rw [if_neg c11] at H
     exact absurd H (by simp)
   ·rw [if_neg c10] at H
    exact absurd H (by simp)
  ·rw [if_neg c8] at H
   exact absurd H (by simp)


mutual
def spec_l1Cur_typeOf.j0 : Nat → Int → Bool → List Int → Int → Int → Option (Int × (List (S55)) × Int × Int)
 | 0, _, _, _, _, _ => none
 | k + 1, x1, x10, x1000, x1001, x1002 => if x10 = true then ((spec_l1Cur_pick.f x1000 x1001 x1002 4).bind fun bt105 => (some (bt105.1, ([] : List (S55)), bt105.2.1, bt105.2.2))) else ((spec_l1Cur_typeOf.f k x1000 x1001 x1002 (wrap64 (x1 - 1))).bind fun bt108 => ((spec_l1Cur_typeOf.f k x1000 bt108.2.2.1 bt108.2.2.2 (wrap64 (x1 - 1))).bind fun bt114 => (some (0, (([(⟨bt108.1, bt108.2.1⟩ : S55), (⟨bt114.1, bt114.2.1⟩ : S55)] : List (S55))), bt114.2.2.1, bt114.2.2.2))))
def spec_l1Cur_typeOf.f : Nat → List Int → Int → Int → Int → Option (Int × (List (S55)) × Int × Int)
 | 0, _, _, _, _ => none
 | k + 1, s0_0, s0_1, s0_2, a1 => if a1 = 0 then (spec_l1Cur_typeOf.j0 k a1 true s0_0 s0_1 s0_2) else ((spec_l1Cur_one.f s0_0 s0_1 s0_2 3).bind fun bt102 => (spec_l1Cur_typeOf.j0 k a1 bt102.1 s0_0 bt102.2.1 bt102.2.2))
end
set_option maxHeartbeats 8000000 in
set_option maxRecDepth 100000 in
theorem spec_l1Cur_typeOf.calls (k : Nat) : ∀ (g : Nat) (s0_0 : List Int) (s0_1 : Int) (s0_2 : Int) (a1 : Int) (r1 : Int) (r2 : List (S55)) (r3 : Int) (r4 : Int) (w0 w : World) (hI : IsS40 w0 w g s0_0 s0_1 s0_2) (hB : Below w0.heap.size w0 w) (h : spec_l1Cur_typeOf.f k s0_0 s0_1 s0_2 a1 = some (r1, r2, r3, r4)),
  Calls Tryz.prog 30 #[.pointer (some ⟨g, 0, none⟩), .int .i64 a1] w fun e w' => ∃ v1_ : Value, e = .returned (.agg #[.int .i64 r1, v1_]) ∧ Kd.N k55 55 w' w.heap.size (fun k_ => (w.heap.size ≤ k_)) v1_ r2 ∧ IsS40 w0 w' g s0_0 r3 r4 ∧ Below w0.heap.size w0 w' ∧ KeepBut w w' g none := by
 induction k using Nat.strongRecOn with
 | _ k ih =>
 intro g s0_0 s0_1 s0_2 a1 r1 r2 r3 r4 w0 w hI hB h
 cases k with
 | zero => exact absurd h (by simp [spec_l1Cur_typeOf.f])
 | succ k =>
 simp only [spec_l1Cur_typeOf.f] at h
 have hu55 := Tryz.underlying55
 have HI0 := aK hI
 have HK := aK (KeepBut.refl w g none)
 have HL := aK hB.size
 clear hI
 have HW0 := aK hB.size
 have HB := aK hB
 clear hB
 have H : (if a1 = 0 then (spec_l1Cur_typeOf.j0 k a1 true s0_0 s0_1 s0_2) else ((spec_l1Cur_one.f s0_0 s0_1 s0_2 3).bind fun bt102 => (spec_l1Cur_typeOf.j0 k a1 bt102.1 s0_0 bt102.2.1 bt102.2.2))) = some (r1, r2, r3, r4) := h
 clear h
 have HC3 := aK H
 clear H
 go_enter Tryz.func30, Tryz.ntmps30
 go_upto_region 1 with (first | ((with_reducible refine gate_dst (N := 4) rfl ?_); refine bE (N := 4) (cs := #[.int .i64 0, .slice none 0 0]) (t := 55) ?_; intro gb101 hg w4 hbox hb; have n0_ := aK (IsS40.below (yI HI0) hb); have n1_ := aK (KeepBut.trans (yK HK) (KeepBut.of_below hb g none) (.inl rfl)); have n2_ := aK (below_step (yH HB) hb); have GW101 := aK ((by rw [hg]; exact (keep_size (w := w) (g := g) (row := none) (yK HK)) : w.heap.size ≤ gb101)); have GE101 := aK ((Nat.le_trans HW0.out (by rw [hg]; exact (keep_size (w := w) (g := g) (row := none) (yK HK)) : w.heap.size ≤ gb101) : w0.heap.size ≤ gb101)); have NB0_101 := aK ((by rw [hg]; exact Nat.ne_of_lt (IsS40.lt (show IsS40 w0 _ g s0_0 s0_1 s0_2 from by repeat (first | (with_reducible first | exact HI0.out | apply IsS40.alloc | apply IsS40.drewN | apply IsS40.drew | apply IsS40.set_1 | apply IsS40.set_2) | exact HI0.out))) : g ≠ gb101)); have NB101_0 := aK ((by rw [hg]; exact Nat.ne_of_gt (IsS40.lt (show IsS40 w0 _ g s0_0 s0_1 s0_2 from by repeat (first | (with_reducible first | exact HI0.out | apply IsS40.alloc | apply IsS40.drewN | apply IsS40.drew | apply IsS40.set_1 | apply IsS40.set_2) | exact HI0.out))) : gb101 ≠ g)); have BK101 := aK hbox; clear HI0; have HI0 := n0_; clear n0_; clear HK; have HK := n1_; clear n1_; clear HB; have HB := n2_; clear n2_; clear hb hbox hg))
 (try simp only [Act.put, List.setIfInBounds_toArray, List.set_cons_zero, List.set_cons_succ])
 go_cut [10] (fun v10 wc => ∃ (kq : Nat) (x10_2 : Bool) (x1001_2 : Int) (x1002_2 : Int), v10 = .bool x10_2 ∧ Aside0 (spec_l1Cur_typeOf.j0 kq a1 x10_2 s0_0 x1001_2 x1002_2 = some (r1, r2, r3, r4)) ∧ Aside0 (kq ≤ k) ∧ Aside0 (wc.heap[gb101]? = some (.cells #[.int .i64 0, (.slice none 0 0)] 55 (0, 0))) ∧ Aside0 (IsS40 w0 wc g s0_0 x1001_2 x1002_2) ∧ Aside0 (KeepBut w wc g none) ∧ Aside0 (Below w0.heap.size w0 wc))
 case first =>
  have H := HC3.out
  clear HC3
  by_cases c5 : a1 = 0
  ·rw [if_pos c5] at H
   have c5b0 : (a1 == 0) = true := beq_iff_eq.mpr c5
   have c5b1 : (a1 != 0) = false := bne_eq_false_iff_eq.mpr c5
   clear c5
   (first | rw [c5b0] | (simp only [i64_w, i32_w]; rw [c5b0]) | skip)
   have H' := aK H
   clear H
   go_wp2
   go_meet
   case rel => exact ⟨_, (true), (s0_1), (s0_2), rS, H', ⟨by first | omega | exact Nat.le_refl _⟩, ⟨pB BK101⟩, ⟨yI HI0⟩, ⟨yK HK⟩, ⟨yH HB⟩⟩
  ·rw [if_neg c5] at H
   have c5b0 : (a1 == 0) = false := beq_eq_false_iff_ne.mpr c5
   have c5b1 : (a1 != 0) = true := bne_iff_ne.mpr c5
   (first | rw [c5b0] | (simp only [i64_w, i32_w]; rw [c5b0]) | skip)
   obtain ⟨⟨t102, t103, t104⟩, A6, H⟩ := oB H
   try dsimp only at H
   have H' := aK H
   clear H
   go_wp2_with (first | (go_at_call 13; (with_reducible refine (spec_l1Cur_one.calls g s0_0 s0_1 s0_2 3 t102 t103 t104 w0 _ ?side1 ?side2 A6.out).mono ?_); (case side1 => exact yI HI0); (case side2 => exact yH HB); rintro e w7 ⟨rfl, hi, hb, hk⟩; have n_ := aJ (aK (KeepBut.blk hk (g' := gb101) (o := .cells #[.int .i64 0, .slice none 0 0] 55 (0, 0)) BK101.out NB101_0.out (by simp))) (aJ (aK (KeepBut.trans (yK HK) hk (.inl rfl))) (aJ (aK (hb)) (aK (hi)))); clear BK101 HK HB HI0; obtain ⟨BK101, HK, HB, HI0⟩ := n_; (try clear hb)))
   go_meet
   case rel => exact ⟨_, (t102), (t103), (t104), rS, H', ⟨by first | omega | exact Nat.le_refl _⟩, ⟨pB BK101⟩, ⟨yI HI0⟩, ⟨yK HK⟩, ⟨yH HB⟩⟩
 case rest =>
  clear HC3
  obtain ⟨kq, x10_2, x1001_2, x1002_2, rfl, HA, HJ2, BK101, HI0, HK, HB⟩ := hcut
  cases kq with
  | zero => exact absurd HA.out (by simp [spec_l1Cur_typeOf.j0])
  | succ kj2 =>
   have H := HA.out
   clear HA
   simp only [spec_l1Cur_typeOf.j0] at H
   by_cases c8 : x10_2 = true
   ·subst c8
    rw [if_pos rfl] at H
    obtain ⟨⟨t105, t106, t107⟩, A9, H⟩ := oB H
    try dsimp only at H
    simp only [Option.some.injEq, Prod.mk.injEq] at H
    obtain ⟨rfl, rfl, rfl, rfl⟩ := H
    go_wp2_with (first | ((with_reducible refine gate_callee (f := 31) rfl ?_); refine goesL_ (some 12) rfl rfl Tryz.func31 (by kernel_rfl) rfl #[.pointer (some ⟨g, 0, none⟩), .int .i64 4] rfl tA ?_; (with_reducible refine (spec_l1Cur_pick.calls g s0_0 x1001_2 x1002_2 4 t105 t106 t107 w0 _ ?side1 ?side2 A9.out).mono ?_); (case side1 => exact yI HI0); (case side2 => exact yH HB); rintro e w10 ⟨rfl, hi, hb, hk⟩; refine ⟨_, rfl, ?_⟩; have n_ := aJ (aK (KeepBut.blk hk (g' := gb101) (o := .cells #[.int .i64 0, .slice none 0 0] 55 (0, 0)) BK101.out NB101_0.out (by simp))) (aJ (aK (KeepBut.trans (yK HK) hk (.inl rfl))) (aJ (aK (hb)) (aK (hi)))); clear BK101 HK HB HI0; obtain ⟨BK101, HK, HB, HI0⟩ := n_; (try clear hb); have hnb11 := NB101_0.out; have hnc11 := NB0_101.out; have hcz12_0 := kq20 BK101; have hcz12_1 := kq21 BK101; have hfz12_0 := fz BK101 0; have hfz12_1 := fz BK101 1))
    refine bodyPost_ret (results_cell_row rfl _ _ gb101 55 #[.int .i64 t105, .slice none 0 0] (0, 0) _ rfl (bP BK101) Tryz.underlying55 rfl (by kernel_rfl)) rfl ?_
    exact ⟨_, eW, by first | exact Kd.R_nil _ _ _ _ _ | exact Kd.N_nil _ _ _ _ _ | exact Kd.V_nil _ _ _ _ _ | exact Kd.Q_nil _ _ _ _ _ | exact Kd.S_nil _ _ _ _ _, yI HI0, yH HB, yK HK⟩
   ·replace c8 := Bool.eq_false_iff.mpr c8
    subst c8
    rw [if_neg (show ¬ (false = true) by decide)] at H
    obtain ⟨⟨t108, t109, t112, t113⟩, A13, H⟩ := oB H
    try dsimp only at H
    obtain ⟨⟨t114, t115, t118, t119⟩, A14, H⟩ := oB H
    try dsimp only at H
    obtain ⟨y120, hy120⟩ : ∃ y_ : List (S55), y_ = (([(⟨t108, t109⟩ : S55), (⟨t114, t115⟩ : S55)] : List (S55))) := ⟨_, rfl⟩
    replace H : (some (0, y120, t118, t119)) = some (r1, r2, r3, r4) := by first | (rw [hy120]; with_reducible exact H) | (have H2_ := (Option.bind_some _ _).symm.trans H; rw [hy120]; with_reducible exact H2_) | (have H2_ := (Option.bind_some _ _).symm.trans H; with_reducible exact H2_) | with_reducible exact H | (rw [hy120]; exact H) | exact H
    have Ny120 := aK hy120
    clear hy120
    simp only [Option.some.injEq, Prod.mk.injEq] at H
    obtain ⟨rfl, rfl, rfl, rfl⟩ := H
    go_wp2_with (first | ((with_reducible refine gate_callee (f := 30) rfl ?_); refine goesL_ (some 17) rfl rfl Tryz.func30 (by kernel_rfl) rfl #[.pointer (some ⟨g, 0, none⟩), .int .i64 (wrap64 (a1 - 1))] rfl tA ?_; (with_reducible refine (ih kj2 (by have := HJ2.out; omega) g s0_0 x1001_2 x1002_2 (wrap64 (a1 - 1)) t108 t109 t112 t113 w0 _ ?side1 ?side2 A13.out).mono ?_); (case side1 => exact yI HI0); (case side2 => exact yH HB); rintro e w15 ⟨v110, rfl, ho0, hi, hb, hk⟩; refine ⟨_, rfl, ?_⟩; have n_ := aJ (aK (KeepBut.blk hk (g' := gb101) (o := .cells #[.int .i64 0, .slice none 0 0] 55 (0, 0)) BK101.out NB101_0.out (by simp))) (aJ (aK (Kd.N_lower (Kd.N_mono (ok' := fun k_ => (w.heap.size ≤ k_) ∧ k_ ≠ gb101 ∧ k_ ≠ g) ho0 (fun k_ hk_ => ⟨(Nat.le_trans (keep_size (w := w) (g := g) (row := none) (yK HK)) hk_), (Kd.freshB BK101.out k_ hk_), (IsS40.fresh (yI HI0) k_ hk_)⟩)) (keep_size (w := w) (g := g) (row := none) (yK HK)))) (aJ (aK (KeepBut.trans (yK HK) hk (.inl rfl))) (aJ (aK (hb)) (aK (hi))))); clear BK101 HK HB HI0; obtain ⟨BK101, HO111, HK, HB, HI0⟩ := n_; (try clear hb); (try clear ho0)) | ((with_reducible refine gate_callee (f := 30) rfl ?_); refine goesL_ (some 21) rfl rfl Tryz.func30 (by kernel_rfl) rfl #[.pointer (some ⟨g, 0, none⟩), .int .i64 (wrap64 (a1 - 1))] rfl tA ?_; (with_reducible refine (ih kj2 (by have := HJ2.out; omega) g s0_0 t112 t113 (wrap64 (a1 - 1)) t114 t115 t118 t119 w0 _ ?side1 ?side2 A14.out).mono ?_); (case side1 => exact yI HI0); (case side2 => exact yH HB); rintro e w16 ⟨v116, rfl, ho0, hi, hb, hk⟩; refine ⟨_, rfl, ?_⟩; have n_ := aJ (aK (KeepBut.blk hk (g' := gb101) (o := .cells #[.int .i64 0, .slice none 0 0] 55 (0, 0)) BK101.out NB101_0.out (by simp))) (aJ (aK (Kd.N_mono (Kd.N_told (Kd.N_oldK (Kd.N_mono (ok := fun k_ => (((w.heap.size ≤ k_)) ∧ (k_ ≠ gb101 ∧ k_ ≠ g))) HO111.out (fun k_ hk_ => (⟨hk_, hk_.2.2⟩ : _ ∧ k_ ≠ g))) hk) (Kd.N_base ho0)) (fun _ h_ => h_.1))) (aJ (aK (Kd.N_lower (Kd.N_mono (ok' := fun k_ => (w.heap.size ≤ k_) ∧ some k_ ≠ (v110 : Value).ownBlock ∧ k_ ≠ gb101 ∧ k_ ≠ g) ho0 (fun k_ hk_ => ⟨(Nat.le_trans (keep_size (w := w) (g := g) (row := none) (yK HK)) hk_), (Kd.fresh' (Kd.N_lt HO111.out) k_ hk_), (Kd.freshB BK101.out k_ hk_), (IsS40.fresh (yI HI0) k_ hk_)⟩)) (keep_size (w := w) (g := g) (row := none) (yK HK)))) (aJ (aK (KeepBut.trans (yK HK) hk (.inl rfl))) (aJ (aK (hb)) (aK (hi)))))); clear BK101 HO111 HK HB HI0; obtain ⟨BK101, HO111, HO117, HK, HB, HI0⟩ := n_; (try clear hb); (try clear ho0); obtain ⟨Ao17, co17, eo17⟩ := Kd.N_slice HO111.out; subst eo17; obtain ⟨Ao18, co18, eo18⟩ := Kd.N_slice HO117.out; subst eo18) | ((with_reducible refine gate_dst (N := 22) rfl ?_); refine Kd.N_lit k55 _ 55 ?hg (N' := 22) ?hd (xs := ([(⟨t108, t109⟩ : S55), (⟨t114, t115⟩ : S55)] : List (S55))) (inner := [.int .i64 t108, .slice Ao17 t109.length co17, .int .i64 t114, .slice Ao18 t115.length co18]) (ok := (fun k_ => (w.heap.size ≤ k_) ∧ k_ ≠ gb101 ∧ k_ ≠ g)) (okp := (fun k_ => (w.heap.size ≤ k_) ∧ k_ ≠ gb101 ∧ k_ ≠ g)) ?hr ?hp (fun _ hk => hk) ((show ∀ k_, w16.heap.size ≤ k_ → (fun k_ => (w.heap.size ≤ k_) ∧ k_ ≠ gb101 ∧ k_ ≠ g) k_ from fun k_ hk => ⟨(Nat.le_trans (keep_size (w := w) (g := g) (row := none) (yK HK)) hk), Kd.freshB BK101.out k_ hk, IsS40.fresh (yI HI0) k_ hk⟩) _ (Nat.le_refl _)) (Below.refl _ _) (Nat.le_refl _) (by simp) ?_; (case hd => rfl); (case hg => rfl); (case hr => go_simp); (case hp => exact (Reps.c2 (show Kd.FK k55 _ _ (⟨t108, t109⟩ : S55) [.int .i64 t108, .slice Ao17 t109.length co17] from (k55_mkF _ _ (⟨t108, t109⟩ : S55) (Kd.N_reads' (Kd.N_mono (ok' := (fun k_ => (w.heap.size ≤ k_) ∧ k_ ≠ gb101 ∧ k_ ≠ g)) (HO111.out) (fun k_ hk => ⟨hk.1.1, ⟨hk.1.2.1, hk.1.2.2⟩⟩))).2.1 (Kd.N_F (Kd.N_mono (ok' := (fun k_ => (w.heap.size ≤ k_) ∧ k_ ≠ gb101 ∧ k_ ≠ g)) (HO111.out) (fun k_ hk => ⟨hk.1.1, ⟨hk.1.2.1, hk.1.2.2⟩⟩))))) (Reps.c2 (show Kd.FK k55 _ _ (⟨t114, t115⟩ : S55) [.int .i64 t114, .slice Ao18 t115.length co18] from (k55_mkF _ _ (⟨t114, t115⟩ : S55) (Kd.N_reads' (Kd.N_mono (ok' := (fun k_ => (w.heap.size ≤ k_) ∧ k_ ≠ gb101 ∧ k_ ≠ g)) (HO117.out) (fun k_ hk => ⟨hk.1, ⟨hk.2.2.1, hk.2.2.2⟩⟩))).2.1 (Kd.N_F (Kd.N_mono (ok' := (fun k_ => (w.heap.size ≤ k_) ∧ k_ ≠ gb101 ∧ k_ ≠ g)) (HO117.out) (fun k_ hk => ⟨hk.1, ⟨hk.2.2.1, hk.2.2.2⟩⟩))))) (Reps.none _ _)))); intro v121 w19 ho20 hb hg_ hnew_; clear hg_ hnew_; (first | rw [← Ny120.out] at ho20 | (simp only [Int.reduceToNat] at ho20; rw [← Ny120.out] at ho20)); have n_ := aJ (aK (Kd.N_lower ho20 (keep_size (w := w) (g := g) (row := none) (yK HK)))) (aJ (qb BK101 hb) (aJ (aK (IsS40.below (yI HI0) hb)) (aJ (aK (KeepBut.trans (yK HK) (KeepBut.of_below hb g none) (.inl rfl))) (aK (below_step (yH HB) hb))))); clear BK101 HI0 HK HB HO111 HO117; obtain ⟨HO122, BK101, HI0, HK, HB⟩ := n_; clear hb ho20; obtain ⟨Ao21, co21, eo21⟩ := Kd.N_slice HO122.out; subst eo21; have hnb22 := NB101_0.out; have hnc22 := NB0_101.out; have hcz23_0 := kq20 BK101; have hcz23_1 := kq21 BK101; have hfz23_0 := fz BK101 0; have hfz23_1 := fz BK101 1))
    refine bodyPost_ret (results_cell_row rfl _ _ gb101 55 #[.int .i64 0, .slice Ao21 y120.length co21] (0, 0) _ rfl (bP BK101) Tryz.underlying55 rfl (by kernel_rfl)) rfl ?_
    exact ⟨_, eW, by (with_reducible repeat (first | apply Kd.N_alloc | apply Kd.N_drewN | apply Kd.N_drew)); exact Kd.N_mono (Kd.N_far (p := ⟨gb101, 1, none⟩) (Kd.N_far (p := ⟨gb101, 0, none⟩) (Kd.N_mono HO122.out (fun k_ hk => (⟨hk, hk.2.1⟩ : _ ∧ k_ ≠ gb101))) (fun _ hk => hk.2) (.int .i64 0)) (fun _ hk => hk.2) (.slice Ao21 y120.length co21)) (fun _ hk => hk.1.1), yI HI0, yH HB, yK HK⟩


def spec_l1Cur_of.f (s0_0 : List Int) (s0_1 : Int) (s0_2 : Int) (l1 : List ByteArray) : Option (ByteArray × Int × Int) := (spec_l1Cur_pick.f s0_0 s0_1 s0_2 (l1.length : Int)).bind fun bt101 => (if 0 ≤ bt101.1 then (if bt101.1 < (l1.length : Int) then (some (rdOf ByteArray.empty l1 bt101.1, bt101.2.1, bt101.2.2)) else (none)) else (none))
set_option maxHeartbeats 8000000 in
set_option maxRecDepth 100000 in
theorem spec_l1Cur_of.calls (g : Nat) (s0_0 : List Int) (s0_1 : Int) (s0_2 : Int) (A1 : Option Addr) (c1 : Nat) (l1 : List ByteArray) (r1 : ByteArray) (r2 : Int) (r3 : Int) (w0 w : World) (hI : IsS40 w0 w g s0_0 s0_1 s0_2) (hB : Below w0.heap.size w0 w) (hr1 : Kd.C Kd.string w A1 l1.length l1) (hc1 : l1.length ≤ c1) (hf1 : ∀ ad, A1 = some ad → 0 < l1.length → ad.block ≠ g) (h : spec_l1Cur_of.f s0_0 s0_1 s0_2 l1 = some (r1, r2, r3)) :
  Calls Tryz.prog 32 #[.pointer (some ⟨g, 0, none⟩), .slice A1 l1.length c1] w fun e w' => e = .returned (.string r1) ∧ IsS40 w0 w' g s0_0 r2 r3 ∧ Below w0.heap.size w0 w' ∧ KeepBut w w' g none := by
 have HR1 := aK hr1
 have HC1 := aK hc1
 clear hr1 hc1
 have HI0 := aK hI
 have HK := aK (KeepBut.refl w g none)
 have HL := aK hB.size
 clear hI
 have HW0 := aK hB.size
 have HB := aK hB
 clear hB
 have H : ((spec_l1Cur_pick.f s0_0 s0_1 s0_2 (l1.length : Int)).bind fun bt101 => (if 0 ≤ bt101.1 then (if bt101.1 < (l1.length : Int) then (some (rdOf ByteArray.empty l1 bt101.1, bt101.2.1, bt101.2.2)) else (none)) else (none))) = some (r1, r2, r3) := h
 clear h
 obtain ⟨⟨t101, t102, t103⟩, A3, H⟩ := oB H
 try dsimp only at H
 by_cases c4 : 0 ≤ t101
 ·rw [if_pos c4] at H
  have c4b0 : decide (0 ≤ t101) = true := decide_eq_true c4
  clear c4
  by_cases c5 : t101 < (l1.length : Int)
  ·rw [if_pos c5] at H
   have c5b0 : decide (t101 < (l1.length : Int)) = true := decide_eq_true c5
   clear c5
   simp only [Option.some.injEq, Prod.mk.injEq] at H
   obtain ⟨rfl, rfl, rfl⟩ := H
   go_enter Tryz.func32, Tryz.ntmps32
   go_wp2_with (first | ((with_reducible refine gate_callee (f := 31) rfl ?_); refine goesL_ (some 9) rfl rfl Tryz.func31 (by kernel_rfl) rfl #[.pointer (some ⟨g, 0, none⟩), .int .i64 (l1.length : Int)] rfl tA ?_; (with_reducible refine (spec_l1Cur_pick.calls g s0_0 s0_1 s0_2 (l1.length : Int) t101 t102 t103 w0 _ ?side1 ?side2 A3.out).mono ?_); (case side1 => exact yI HI0); (case side2 => exact yH HB); rintro e w6 ⟨rfl, hi, hb, hk⟩; refine ⟨_, rfl, ?_⟩; have n0_ := aK (KeepBut.trans (yK HK) hk (.inl rfl)); have n1_ := aK (hb); have n2_ := aK (hi); clear HK; have HK := n0_; clear n0_; clear HB; have HB := n1_; clear n1_; clear HI0; have HI0 := n2_; clear n2_; (try clear hb); have p104 : 0 ≤ (t101 : Int) := dA; have q104 : t101 < (l1.length : Int) := dA; obtain ⟨ad104, e104, hx104_0⟩ := Kd.at_string HR1.out t101 p104 q104; cases e104; replace hx104_0 := keep_cell HK.out hx104_0 (by first | (rw [add_block]; exact hf1 _ rfl (by omega)) | exact hf1 _ rfl (by omega) | exact hf1 ad104 rfl (by omega)); replace p104 := eq_true p104; replace q104 := eq_true q104))
   go_ret
   exact ⟨eW, yI HI0, yH HB, yK HK⟩
  ·rw [if_neg c5] at H
   exact absurd H (by simp)
 ·rw [if_neg c4] at H
  exact absurd H (by simp)

end Go.Proofs.YteffjlhljeodpaaGreatDoor.G
