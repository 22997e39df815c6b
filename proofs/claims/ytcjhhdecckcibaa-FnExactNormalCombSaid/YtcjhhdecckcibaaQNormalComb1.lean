/- Part 1 of 5 of the proof that the law FnExactNormalCombSaid holds: for every input that can be read the call returns true and leaves its arguments as they were; no condition but those each theorem names. -/
import Derived.Test.YtcjhhdecckcibaaProg
import Derived.Below
import Derived.Deep.Draws
import Derived.Deep.AppendLies
import Derived.Maps.AppendAt
import Derived.OwnWalk
import Derived.Laws.BytesArg
import Derived.Laws.MakeOwn
import Derived.Laws.OwnMore
import Derived.Deep.OwnRows
import Derived.Tactics
import Derived.Lib.ConvBytes
import Derived.Laws.Slices
import Derived.WalkKit
import Derived.KernelRfl
import Derived.RowKit3
import Derived.Deep.LoopGhost
import Derived.Deep.QuietTactic
import Derived.BigQuiet
import Derived.WideLaws
import Derived.Deep.DeepCutAuto
import Derived.Deep.CutBlock
import Derived.Deep.RegionHeld3
import Derived.Laws.Rows
import Derived.Lib.AppendStr
import Derived.ArgAppend
import Derived.Laws.IdiomCopy
import Derived.OrdersHeld
import Derived.Laws.BitsLemmas
import Derived.RowKit
import Derived.Test.YtcjhhdecckcibaaQNormalCombW1
namespace Go.Proofs.Ytcjhhdecckcibaa.G
open Go.RowKit Go.Proofs.YtcjhhdecckcibaaW.PrintWords Go.Proofs.YtcjhhdecckcibaaW.PrintLast Go.Proofs.YtcjhhdecckcibaaW.PrintMore
attribute [local go_sem] max2_int min2_int max_two min_two max_three min_three max_four min_four   -- for this text's walks alone
set_option linter.unusedVariables false
set_option linter.unusedSimpArgs false



def errW : Option Int → Value
  | none => .nilIface
  | some c => .iface 0 (.int .i64 c)
theorem errW_none : errW none = .nilIface := rfl
theorem errW_some (c : Int) : errW (some c) = .iface 0 (.int .i64 c) := rfl

theorem info3 : (Try.prog.info? 3).map (fun i => (i.zero, i.size, i.bytes)) = some (some (.int .i64 0), 1, 8) := by kernel_rfl
theorem info52 : (Try.prog.info? 52).map (fun i => (i.zero, i.size, i.bytes)) = some (some (.agg #[(.int .i64 0), (.int .i64 0), (.int .i64 0)]), 3, 24) := by kernel_rfl
theorem info58 : (Try.prog.info? 58).map (fun i => (i.zero, i.size, i.bytes)) = some (some (.agg #[(.int .i64 0), (.int .i64 0), (.slice none 0 0)]), 3, 40) := by kernel_rfl
theorem info77 : (Try.prog.info? 77).map (fun i => (i.zero, i.size, i.bytes)) = some (some (.agg #[(.int .i64 0), (.int .i64 0), (.slice none 0 0)]), 3, 40) := by kernel_rfl
-- the values' own types
structure S55 where
  f0 : Int
  f1 : Int
  f2 : Int
def z55 : S55 := ⟨(0 : Int), (0 : Int), (0 : Int)⟩
def k55 : Kd S55 := Kd.iso (Kd.pair (Kd.int .i64) (Kd.pair (Kd.int .i64) (Kd.int .i64))) (fun x : S55 => (x.f0, x.f1, x.f2))
theorem k55_open {w : World} {x : S55} {cs : List Value} (h : k55.K w x cs) : cs = [.int .i64 x.f0, .int .i64 x.f1, .int .i64 x.f2] := by
  obtain ⟨_, _, rfl, rfl, ⟨_, _, rfl, rfl, rfl⟩⟩ := h
  exact rfl
def rd_T55 (xs : List S55) (i : Int) : S55 := xs.getD i.toNat z55
theorem at_T55 {w : World} {A : Option Addr} {n : Nat} {xs : List S55} (h : Kd.C k55 w A n xs) (i : Int) (h0 : 0 ≤ i) (h1 : i < n) : ∃ ad , A = some ad ∧ w.cell? (ad.add (i.toNat * 3)) = some (.int .i64 (rd_T55 xs i).f0) ∧ w.cell? ⟨(ad.add (i.toNat * 3)).block, (ad.add (i.toNat * 3)).off + 1, none⟩ = some (.int .i64 (rd_T55 xs i).f1) ∧ w.cell? ⟨(ad.add (i.toNat * 3)).block, (ad.add (i.toNat * 3)).off + 2, none⟩ = some (.int .i64 (rd_T55 xs i).f2) := by
  obtain ⟨ad, c, e, _, hK, hc0⟩ := Kd.C_get h z55 i h0 h1
  have hc : ∀ j u, c[j]? = some u → w.cell? (ad.add (i.toNat * 3 + j)) = some u := hc0
  obtain rfl := k55_open hK
  exact ⟨ad, e, hc 0 _ rfl, by rw [← add_field _ _ 1 (by omega)]; exact hc 1 _ rfl, by rw [← add_field _ _ 2 (by omega)]; exact hc 2 _ rfl⟩

structure S52 where
  f0 : Int
  f1 : Int
  f2 : Int
def z52 : S52 := ⟨(0 : Int), (0 : Int), (0 : Int)⟩
def k52 : Kd S52 := Kd.iso (Kd.pair (Kd.int .i64) (Kd.pair (Kd.int .i64) (Kd.int .i64))) (fun x : S52 => (x.f0, x.f1, x.f2))
theorem k52_open {w : World} {x : S52} {cs : List Value} (h : k52.K w x cs) : cs = [.int .i64 x.f0, .int .i64 x.f1, .int .i64 x.f2] := by
  obtain ⟨_, _, rfl, rfl, ⟨_, _, rfl, rfl, rfl⟩⟩ := h
  exact rfl
theorem k52_openM {w : World} {base : Nat} {ok : Nat → Prop} {x : S52} {cs : List Value} (h : k52.M w base ok x cs) : cs = [.int .i64 x.f0, .int .i64 x.f1, .int .i64 x.f2] := by
  obtain ⟨_, _, rfl, rfl, ⟨_, _, rfl, rfl, rfl⟩⟩ := h
  exact rfl
theorem k52_mkM (w : World) (base : Nat) (ok : Nat → Prop) (x : S52)  : k52.M w base ok x [.int .i64 x.f0, .int .i64 x.f1, .int .i64 x.f2] := ⟨[.int .i64 x.f0], [.int .i64 x.f1, .int .i64 x.f2], rfl, rfl, ⟨[.int .i64 x.f1], [.int .i64 x.f2], rfl, rfl, rfl⟩⟩
def rd_T52 (xs : List S52) (i : Int) : S52 := xs.getD i.toNat z52
theorem at_T52 {w : World} {A : Option Addr} {n : Nat} {xs : List S52} (h : Kd.C k52 w A n xs) (i : Int) (h0 : 0 ≤ i) (h1 : i < n) : ∃ ad , A = some ad ∧ w.cell? (ad.add (i.toNat * 3)) = some (.int .i64 (rd_T52 xs i).f0) ∧ w.cell? ⟨(ad.add (i.toNat * 3)).block, (ad.add (i.toNat * 3)).off + 1, none⟩ = some (.int .i64 (rd_T52 xs i).f1) ∧ w.cell? ⟨(ad.add (i.toNat * 3)).block, (ad.add (i.toNat * 3)).off + 2, none⟩ = some (.int .i64 (rd_T52 xs i).f2) := by
  obtain ⟨ad, c, e, _, hK, hc0⟩ := Kd.C_get h z52 i h0 h1
  have hc : ∀ j u, c[j]? = some u → w.cell? (ad.add (i.toNat * 3 + j)) = some u := hc0
  obtain rfl := k52_open hK
  exact ⟨ad, e, hc 0 _ rfl, by rw [← add_field _ _ 1 (by omega)]; exact hc 1 _ rfl, by rw [← add_field _ _ 2 (by omega)]; exact hc 2 _ rfl⟩

structure S58 where
  f0 : Int
  f1 : Int
  f2 : (List S58)
def z58 : S58 := ⟨(0 : Int), (0 : Int), ([] : List S58)⟩
def F58 (d : Kd S58) : Kd S58 := Kd.iso (Kd.pair (Kd.int .i64) (Kd.pair (Kd.int .i64) (Kd.slice 58 d))) (fun x : S58 => (x.f0, x.f1, x.f2))
theorem mono58 : Kd.Mono F58 := Kd.mono_iso _ (Kd.mono_pair (Kd.mono_const _) (Kd.mono_pair (Kd.mono_const _) (Kd.mono_slice 58 Kd.mono_id)))
theorem sub58 : Kd.Sub F58 [58] := Kd.sub_iso _ (Kd.sub_pair (Kd.sub_const _ (by decide)) (Kd.sub_pair (Kd.sub_const _ (by decide)) (Kd.sub_slice 58 (by decide) Kd.sub_id)))
theorem sz58 : ∀ n, (Kd.upto F58 3 [58] n).sz = 3 := Kd.upto_sz (fun _ => rfl)
def k58 : Kd S58 := Kd.fix F58 3 [58] sz58 (Kd.upto_E sub58)
theorem k58_open {w : World} {x : S58} {cs : List Value} (h : k58.K w x cs) : ∃ A2 c2, cs = [.int .i64 x.f0, .int .i64 x.f1, .slice A2 x.f2.length c2] ∧ x.f2.length ≤ c2 ∧ k58.C w A2 x.f2.length x.f2 := by
  obtain ⟨n, h⟩ := h
  cases n with
  | zero => exact h.elim
  | succ n =>
    obtain ⟨_, _, rfl, rfl, ⟨_, _, rfl, rfl, ⟨A2, c2, rfl, l2, g2⟩⟩⟩ := h
    exact ⟨A2, c2, rfl, l2, Kd.fix_C g2⟩
theorem k58_mk (w : World) (x : S58) {A2 : Option Addr} {c2 : Nat} (l2 : x.f2.length ≤ c2) (g2 : k58.C w A2 x.f2.length x.f2) : k58.K w x [.int .i64 x.f0, .int .i64 x.f1, .slice A2 x.f2.length c2] := by
  obtain ⟨n2, q2⟩ := Kd.fix_C_back mono58 g2
  have r2 := Kd.upto_C_le mono58 sz58 (show n2 ≤ n2 by omega) q2
  exact ⟨n2 + 1, ⟨[.int .i64 x.f0], [.int .i64 x.f1, .slice A2 x.f2.length c2], rfl, rfl, ⟨[.int .i64 x.f1], [.slice A2 x.f2.length c2], rfl, rfl, ⟨A2, c2, rfl, l2, r2⟩⟩⟩⟩
theorem k58_mkM (w : World) (base : Nat) (ok : Nat → Prop) (x : S58) {v2 : Value} (g2 : k58.R 58 w base ok v2 x.f2) : k58.M w base ok x [.int .i64 x.f0, .int .i64 x.f1, v2] := by
  obtain ⟨n2, q2⟩ := Kd.fix_R_back mono58 g2
  have r2 := Kd.upto_R_le mono58 sz58 (show n2 ≤ n2 by omega) q2
  exact ⟨n2 + 1, ⟨[.int .i64 x.f0], [.int .i64 x.f1, v2], rfl, rfl, ⟨[.int .i64 x.f1], [v2], rfl, rfl, ⟨v2, rfl, r2⟩⟩⟩⟩
theorem k58_openF {W : World} {ok : Nat → Prop} {x : S58} {cs : List Value} (h : Kd.FK k58 W ok x cs) : ∃ A2 c2, cs = [.int .i64 x.f0, .int .i64 x.f1, .slice A2 x.f2.length c2] ∧ x.f2.length ≤ c2 ∧ Kd.F k58 W ok A2 x.f2.length x.f2 := by
  obtain ⟨A2, c2, rfl, l2, _⟩ := k58_open (Kd.FK_now h)
  exact ⟨A2, c2, rfl, l2, (fun W' hW => by obtain ⟨A2_, c2_, he, l2_, g2_⟩ := k58_open (h W' hW); injection (Option.some.inj (show some (Value.slice A2 x.f2.length c2) = some (Value.slice A2_ x.f2.length c2_) from congrArg (fun l => l[2]?) he)) with ha_ _ _; rw [ha_]; exact g2_)⟩
theorem k58_mkF (W : World) (ok : Nat → Prop) (x : S58) {A2 : Option Addr} {c2 : Nat} (l2 : x.f2.length ≤ c2) (g2 : Kd.F k58 W ok A2 x.f2.length x.f2) : Kd.FK k58 W ok x [.int .i64 x.f0, .int .i64 x.f1, .slice A2 x.f2.length c2] := fun W2 hW => k58_mk W2 x l2 (g2 W2 hW)
def rd_T58 (xs : List S58) (i : Int) : S58 := xs.getD i.toNat z58
theorem at_T58 {w : World} {A : Option Addr} {n : Nat} {xs : List S58} (h : Kd.C k58 w A n xs) (i : Int) (h0 : 0 ≤ i) (h1 : i < n) : ∃ ad A2 c2, A = some ad ∧ w.cell? (ad.add (i.toNat * 3)) = some (.int .i64 (rd_T58 xs i).f0) ∧ w.cell? ⟨(ad.add (i.toNat * 3)).block, (ad.add (i.toNat * 3)).off + 1, none⟩ = some (.int .i64 (rd_T58 xs i).f1) ∧ w.cell? ⟨(ad.add (i.toNat * 3)).block, (ad.add (i.toNat * 3)).off + 2, none⟩ = some (.slice A2 (rd_T58 xs i).f2.length c2) ∧ (rd_T58 xs i).f2.length ≤ c2 ∧ k58.C w A2 (rd_T58 xs i).f2.length (rd_T58 xs i).f2 := by
  obtain ⟨ad, c, e, _, hK, hc0⟩ := Kd.C_get h z58 i h0 h1
  have hc : ∀ j u, c[j]? = some u → w.cell? (ad.add (i.toNat * 3 + j)) = some u := hc0
  obtain ⟨A2, c2, rfl, l2, g2⟩ := k58_open hK
  exact ⟨ad, A2, c2, e, hc 0 _ rfl, by rw [← add_field _ _ 1 (by omega)]; exact hc 1 _ rfl, by rw [← add_field _ _ 2 (by omega)]; exact hc 2 _ rfl, l2, g2⟩

structure S65 where
  f0 : Int
  f1 : Int
  f2 : Int
structure S62 where
  f0 : Int
  f1 : Int
  f2 : Int
structure S68 where
  f0 : Int
  f1 : Int
  f2 : (List S68)
structure S77 where
  f0 : Int
  f1 : Int
  f2 : (List S77)
def z77 : S77 := ⟨(0 : Int), (0 : Int), ([] : List S77)⟩
def F77 (d : Kd S77) : Kd S77 := Kd.iso (Kd.pair (Kd.int .i64) (Kd.pair (Kd.int .i64) (Kd.slice 77 d))) (fun x : S77 => (x.f0, x.f1, x.f2))
theorem mono77 : Kd.Mono F77 := Kd.mono_iso _ (Kd.mono_pair (Kd.mono_const _) (Kd.mono_pair (Kd.mono_const _) (Kd.mono_slice 77 Kd.mono_id)))
theorem sub77 : Kd.Sub F77 [77] := Kd.sub_iso _ (Kd.sub_pair (Kd.sub_const _ (by decide)) (Kd.sub_pair (Kd.sub_const _ (by decide)) (Kd.sub_slice 77 (by decide) Kd.sub_id)))
theorem sz77 : ∀ n, (Kd.upto F77 3 [77] n).sz = 3 := Kd.upto_sz (fun _ => rfl)
def k77 : Kd S77 := Kd.fix F77 3 [77] sz77 (Kd.upto_E sub77)
theorem k77_open {w : World} {x : S77} {cs : List Value} (h : k77.K w x cs) : ∃ A2 c2, cs = [.int .i64 x.f0, .int .i64 x.f1, .slice A2 x.f2.length c2] ∧ x.f2.length ≤ c2 ∧ k77.C w A2 x.f2.length x.f2 := by
  obtain ⟨n, h⟩ := h
  cases n with
  | zero => exact h.elim
  | succ n =>
    obtain ⟨_, _, rfl, rfl, ⟨_, _, rfl, rfl, ⟨A2, c2, rfl, l2, g2⟩⟩⟩ := h
    exact ⟨A2, c2, rfl, l2, Kd.fix_C g2⟩
theorem k77_mk (w : World) (x : S77) {A2 : Option Addr} {c2 : Nat} (l2 : x.f2.length ≤ c2) (g2 : k77.C w A2 x.f2.length x.f2) : k77.K w x [.int .i64 x.f0, .int .i64 x.f1, .slice A2 x.f2.length c2] := by
  obtain ⟨n2, q2⟩ := Kd.fix_C_back mono77 g2
  have r2 := Kd.upto_C_le mono77 sz77 (show n2 ≤ n2 by omega) q2
  exact ⟨n2 + 1, ⟨[.int .i64 x.f0], [.int .i64 x.f1, .slice A2 x.f2.length c2], rfl, rfl, ⟨[.int .i64 x.f1], [.slice A2 x.f2.length c2], rfl, rfl, ⟨A2, c2, rfl, l2, r2⟩⟩⟩⟩
theorem k77_mkM (w : World) (base : Nat) (ok : Nat → Prop) (x : S77) {v2 : Value} (g2 : k77.R 77 w base ok v2 x.f2) : k77.M w base ok x [.int .i64 x.f0, .int .i64 x.f1, v2] := by
  obtain ⟨n2, q2⟩ := Kd.fix_R_back mono77 g2
  have r2 := Kd.upto_R_le mono77 sz77 (show n2 ≤ n2 by omega) q2
  exact ⟨n2 + 1, ⟨[.int .i64 x.f0], [.int .i64 x.f1, v2], rfl, rfl, ⟨[.int .i64 x.f1], [v2], rfl, rfl, ⟨v2, rfl, r2⟩⟩⟩⟩
theorem k77_openF {W : World} {ok : Nat → Prop} {x : S77} {cs : List Value} (h : Kd.FK k77 W ok x cs) : ∃ A2 c2, cs = [.int .i64 x.f0, .int .i64 x.f1, .slice A2 x.f2.length c2] ∧ x.f2.length ≤ c2 ∧ Kd.F k77 W ok A2 x.f2.length x.f2 := by
  obtain ⟨A2, c2, rfl, l2, _⟩ := k77_open (Kd.FK_now h)
  exact ⟨A2, c2, rfl, l2, (fun W' hW => by obtain ⟨A2_, c2_, he, l2_, g2_⟩ := k77_open (h W' hW); injection (Option.some.inj (show some (Value.slice A2 x.f2.length c2) = some (Value.slice A2_ x.f2.length c2_) from congrArg (fun l => l[2]?) he)) with ha_ _ _; rw [ha_]; exact g2_)⟩
theorem k77_mkF (W : World) (ok : Nat → Prop) (x : S77) {A2 : Option Addr} {c2 : Nat} (l2 : x.f2.length ≤ c2) (g2 : Kd.F k77 W ok A2 x.f2.length x.f2) : Kd.FK k77 W ok x [.int .i64 x.f0, .int .i64 x.f1, .slice A2 x.f2.length c2] := fun W2 hW => k77_mk W2 x l2 (g2 W2 hW)
def rd_T77 (xs : List S77) (i : Int) : S77 := xs.getD i.toNat z77
theorem at_T77 {w : World} {A : Option Addr} {n : Nat} {xs : List S77} (h : Kd.C k77 w A n xs) (i : Int) (h0 : 0 ≤ i) (h1 : i < n) : ∃ ad A2 c2, A = some ad ∧ w.cell? (ad.add (i.toNat * 3)) = some (.int .i64 (rd_T77 xs i).f0) ∧ w.cell? ⟨(ad.add (i.toNat * 3)).block, (ad.add (i.toNat * 3)).off + 1, none⟩ = some (.int .i64 (rd_T77 xs i).f1) ∧ w.cell? ⟨(ad.add (i.toNat * 3)).block, (ad.add (i.toNat * 3)).off + 2, none⟩ = some (.slice A2 (rd_T77 xs i).f2.length c2) ∧ (rd_T77 xs i).f2.length ≤ c2 ∧ k77.C w A2 (rd_T77 xs i).f2.length (rd_T77 xs i).f2 := by
  obtain ⟨ad, c, e, _, hK, hc0⟩ := Kd.C_get h z77 i h0 h1
  have hc : ∀ j u, c[j]? = some u → w.cell? (ad.add (i.toNat * 3 + j)) = some u := hc0
  obtain ⟨A2, c2, rfl, l2, g2⟩ := k77_open hK
  exact ⟨ad, A2, c2, e, hc 0 _ rfl, by rw [← add_field _ _ 1 (by omega)]; exact hc 1 _ rfl, by rw [← add_field _ _ 2 (by omega)]; exact hc 2 _ rfl, l2, g2⟩

structure S90 where
  f0 : Int
  f1 : Int
  f2 : (List S90)
end Go.Proofs.Ytcjhhdecckcibaa.G

namespace Go.Proofs.Ytcjhhdecckcibaa.G
open Go.RowKit Go.Proofs.YtcjhhdecckcibaaW.PrintWords Go.Proofs.YtcjhhdecckcibaaW.PrintLast Go.Proofs.YtcjhhdecckcibaaW.PrintMore
attribute [local go_sem] max2_int min2_int max_two min_two max_three min_three max_four min_four   -- for this text's walks alone
set_option linter.unusedVariables false
set_option linter.unusedSimpArgs false

def laws_szCombS.f (l0 : List (S55)) (a1 : Int) : Option (Int) := if (wrap64 (a1 - (l0.length : Int))) < 0 then (some (-1)) else (some (wrap64 (a1 - (l0.length : Int))))
set_option maxHeartbeats 8000000 in
set_option maxRecDepth 100000 in
theorem laws_szCombS.calls (A0 : Option Addr) (c0 : Nat) (l0 : List (S55)) (a1 : Int) (r : Int) (w : World) (hr0 : Kd.C k55 w A0 l0.length l0) (hc0 : l0.length ≤ c0) (h : laws_szCombS.f l0 a1 = some r) :
    Calls Try.prog 11 #[.slice A0 l0.length c0, .int .i64 a1] w fun e w' => e = .returned (.int .i64 r) ∧ Drawn0 w w' := by
  have HR0 := Aside0.mk hr0
  have HC0 := Aside0.mk hc0
  clear hr0 hc0
  have H : (if (wrap64 (a1 - (l0.length : Int))) < 0 then (some (-1)) else (some (wrap64 (a1 - (l0.length : Int))))) = some r := h
  clear h
  by_cases c3 : (wrap64 (a1 - (l0.length : Int))) < 0
  · rw [if_pos c3] at H
    have c3b0 : decide ((wrap64 (a1 - (l0.length : Int))) < 0) = true := decide_eq_true c3
    clear c3
    obtain rfl := Option.some.inj H
    go_enter Try.func11, Try.ntmps11
    go_wp2
    go_ret
    exact ⟨by first | rfl | (simp; done) | (simp [*]; done), by repeat (first | exact Drawn0.refl _ | apply Drawn0.step)⟩
  · rw [if_neg c3] at H
    have c3b0 : decide ((wrap64 (a1 - (l0.length : Int))) < 0) = false := decide_eq_false c3
    clear c3
    obtain rfl := Option.some.inj H
    go_enter Try.func11, Try.ntmps11
    go_wp2
    go_ret
    exact ⟨by first | rfl | (simp; done) | (simp [*]; done), by repeat (first | exact Drawn0.refl _ | apply Drawn0.step)⟩

end Go.Proofs.Ytcjhhdecckcibaa.G

namespace Go.Proofs.Ytcjhhdecckcibaa.G
open Go.RowKit Go.Proofs.YtcjhhdecckcibaaW.PrintWords Go.Proofs.YtcjhhdecckcibaaW.PrintLast Go.Proofs.YtcjhhdecckcibaaW.PrintMore
attribute [local go_sem] max2_int min2_int max_two min_two max_three min_three max_four min_four   -- for this text's walks alone
set_option linter.unusedVariables false
set_option linter.unusedSimpArgs false

def laws_toComb.f (a0_0 : Int) (a0_1 : Int) (a0_2 : Int) : Option (Int × Int × Int) := some (a0_0, a0_1, a0_2)
set_option maxHeartbeats 8000000 in
set_option maxRecDepth 100000 in
theorem laws_toComb.calls (a0_0 : Int) (a0_1 : Int) (a0_2 : Int) (r1 : Int) (r2 : Int) (r3 : Int) (w : World) (h : laws_toComb.f a0_0 a0_1 a0_2 = some (r1, r2, r3)) :
    Calls Try.prog 41 #[.agg #[.int .i64 a0_0, .int .i64 a0_1, .int .i64 a0_2]] w fun e w' => e = .returned (.agg #[.int .i64 r1, .int .i64 r2, .int .i64 r3]) ∧ Below w.heap.size w w' := by
  have hu55 := Try.underlying55
  have hu52 := Try.underlying52
  have HB := Aside0.mk (Below.refl w.heap.size w)
  have H : (some (a0_0, a0_1, a0_2)) = some (r1, r2, r3) := h
  clear h
  simp only [Option.some.injEq, Prod.mk.injEq] at H
  obtain ⟨rfl, rfl, rfl⟩ := H
  go_enter Try.func41, Try.ntmps41
  go_wp2_with (first | ((with_reducible refine gate_dst (N := 1) rfl ?_); refine box_event ?hg (N := 1) ?hd (cs := #[.int .i64 a0_0, .int .i64 a0_1, .int .i64 a0_2]) (t := 55) ?hr ?_; (case hd => rfl); (case hg => rfl); (case hr => first | (go_simp; done) | (go_simp; rfl)); intro gb101 hg w2 hbox hb; have n0_ := Aside0.mk (below_step (by repeat (first | (with_reducible first | exact HB.out | apply below_alloc | apply pw_below_drewN | apply below_drew1) | exact HB.out)) hb); have n1_ := Aside0.mk (hbox); have n2_ := Aside0.mk ((by rw [hg]; exact (below_size (by repeat (first | (with_reducible first | exact HB.out | apply below_alloc | apply pw_below_drewN | apply below_drew1) | exact HB.out))) : w.heap.size ≤ gb101)); have n3_ := Aside0.mk ((by rw [hg]; exact (below_size (by repeat (first | (with_reducible first | exact HB.out | apply below_alloc | apply pw_below_drewN | apply below_drew1) | exact HB.out))) : w.heap.size ≤ gb101)); clear HB; have HB := n0_; have BK101 := n1_; have GW101 := n2_; have GE101 := n3_; clear n0_ n1_ n2_ n3_; clear hb hbox hg) | ((with_reducible refine gate_dst (N := 2) rfl ?_); refine box_event ?hg (N := 2) ?hd (cs := #[.int .i64 0, .int .i64 0, .int .i64 0]) (t := 52) ?hr ?_; (case hd => rfl); (case hg => rfl); (case hr => first | (go_simp; done) | (go_simp; rfl)); intro gb102 hg w3 hbox hb; have n0_ := Aside0.mk (blk_below (g := gb101) (o := .cells #[.int .i64 a0_0, .int .i64 a0_1, .int .i64 a0_2] 55 (0, 0)) (by (with_reducible repeat (first | refine blk_drewN ?_ _ | refine blk_drew ?_ | refine blk_alloc ?_ _)); exact BK101.out) hb); have n1_ := Aside0.mk (below_step (by repeat (first | (with_reducible first | exact HB.out | apply below_alloc | apply pw_below_drewN | apply below_drew1 | refine below_set ?_ GE101.out) | exact HB.out)) hb); have n2_ := Aside0.mk (hbox); have n3_ := Aside0.mk ((by rw [hg]; exact (below_size (by repeat (first | (with_reducible first | exact HB.out | apply below_alloc | apply pw_below_drewN | apply below_drew1 | refine below_set ?_ GE101.out) | exact HB.out))) : w.heap.size ≤ gb102)); have n4_ := Aside0.mk ((by rw [hg]; exact (below_size (by repeat (first | (with_reducible first | exact HB.out | apply below_alloc | apply pw_below_drewN | apply below_drew1 | refine below_set ?_ GE101.out) | exact HB.out))) : w.heap.size ≤ gb102)); have n5_ := Aside0.mk ((by rw [hg]; exact Nat.ne_of_lt (blk_lt (g := gb101) (o := .cells #[.int .i64 a0_0, .int .i64 a0_1, .int .i64 a0_2] 55 (0, 0)) (by (with_reducible repeat (first | refine blk_drewN ?_ _ | refine blk_drew ?_ | refine blk_alloc ?_ _)); exact BK101.out)) : gb101 ≠ gb102)); have n6_ := Aside0.mk ((by rw [hg]; exact Nat.ne_of_gt (blk_lt (g := gb101) (o := .cells #[.int .i64 a0_0, .int .i64 a0_1, .int .i64 a0_2] 55 (0, 0)) (by (with_reducible repeat (first | refine blk_drewN ?_ _ | refine blk_drew ?_ | refine blk_alloc ?_ _)); exact BK101.out)) : gb102 ≠ gb101)); clear BK101; clear HB; have BK101 := n0_; have HB := n1_; have BK102 := n2_; have GW102 := n3_; have GE102 := n4_; have NB101_102 := n5_; have NB102_101 := n6_; clear n0_ n1_ n2_ n3_ n4_ n5_ n6_; clear hb hbox hg) | ((with_reducible refine gate_dst (N := 3) rfl ?_); refine box_event ?hg (N := 3) ?hd (cs := #[.int .i64 0, .int .i64 0, .int .i64 0]) (t := 52) ?hr ?_; (case hd => rfl); (case hg => rfl); (case hr => first | (go_simp; done) | (go_simp; rfl)); intro gb103 hg w4 hbox hb; have n0_ := Aside0.mk (blk_below (g := gb101) (o := .cells #[.int .i64 a0_0, .int .i64 a0_1, .int .i64 a0_2] 55 (0, 0)) (by (with_reducible repeat (first | refine blk_drewN ?_ _ | refine blk_drew ?_ | refine blk_alloc ?_ _)); exact BK101.out) hb); have n1_ := Aside0.mk (blk_below (g := gb102) (o := .cells #[.int .i64 0, .int .i64 0, .int .i64 0] 52 (0, 0)) (by (with_reducible repeat (first | refine blk_drewN ?_ _ | refine blk_drew ?_ | refine blk_alloc ?_ _)); exact BK102.out) hb); have n2_ := Aside0.mk (below_step (by repeat (first | (with_reducible first | exact HB.out | apply below_alloc | apply pw_below_drewN | apply below_drew1 | refine below_set ?_ GE101.out | refine below_set ?_ GE102.out) | exact HB.out)) hb); have n3_ := Aside0.mk (hbox); have n4_ := Aside0.mk ((by rw [hg]; exact (below_size (by repeat (first | (with_reducible first | exact HB.out | apply below_alloc | apply pw_below_drewN | apply below_drew1 | refine below_set ?_ GE101.out | refine below_set ?_ GE102.out) | exact HB.out))) : w.heap.size ≤ gb103)); have n5_ := Aside0.mk ((by rw [hg]; exact (below_size (by repeat (first | (with_reducible first | exact HB.out | apply below_alloc | apply pw_below_drewN | apply below_drew1 | refine below_set ?_ GE101.out | refine below_set ?_ GE102.out) | exact HB.out))) : w.heap.size ≤ gb103)); have n6_ := Aside0.mk ((by rw [hg]; exact Nat.ne_of_lt (blk_lt (g := gb101) (o := .cells #[.int .i64 a0_0, .int .i64 a0_1, .int .i64 a0_2] 55 (0, 0)) (by (with_reducible repeat (first | refine blk_drewN ?_ _ | refine blk_drew ?_ | refine blk_alloc ?_ _)); exact BK101.out)) : gb101 ≠ gb103)); have n7_ := Aside0.mk ((by rw [hg]; exact Nat.ne_of_gt (blk_lt (g := gb101) (o := .cells #[.int .i64 a0_0, .int .i64 a0_1, .int .i64 a0_2] 55 (0, 0)) (by (with_reducible repeat (first | refine blk_drewN ?_ _ | refine blk_drew ?_ | refine blk_alloc ?_ _)); exact BK101.out)) : gb103 ≠ gb101)); have n8_ := Aside0.mk ((by rw [hg]; exact Nat.ne_of_lt (blk_lt (g := gb102) (o := .cells #[.int .i64 0, .int .i64 0, .int .i64 0] 52 (0, 0)) (by (with_reducible repeat (first | refine blk_drewN ?_ _ | refine blk_drew ?_ | refine blk_alloc ?_ _)); exact BK102.out)) : gb102 ≠ gb103)); have n9_ := Aside0.mk ((by rw [hg]; exact Nat.ne_of_gt (blk_lt (g := gb102) (o := .cells #[.int .i64 0, .int .i64 0, .int .i64 0] 52 (0, 0)) (by (with_reducible repeat (first | refine blk_drewN ?_ _ | refine blk_drew ?_ | refine blk_alloc ?_ _)); exact BK102.out)) : gb103 ≠ gb102)); clear BK101; clear BK102; clear HB; have BK101 := n0_; have BK102 := n1_; have HB := n2_; have BK103 := n3_; have GW103 := n4_; have GE103 := n5_; have NB101_103 := n6_; have NB103_101 := n7_; have NB102_103 := n8_; have NB103_102 := n9_; clear n0_ n1_ n2_ n3_ n4_ n5_ n6_ n7_ n8_ n9_; clear hb hbox hg; have hnb5 := NB101_102.out; have hnc5 := NB102_101.out; have hnb6 := NB101_103.out; have hnc6 := NB103_101.out; have hcz7_0 : w4.cell? ⟨gb101, 0, none⟩ = some (.int .i64 a0_0) := (blk_cell BK101.out 0).trans rfl; have hcz7_1 : w4.cell? ⟨gb101, 1, none⟩ = some (.int .i64 a0_1) := (blk_cell BK101.out 1).trans rfl; have hcz7_2 : w4.cell? ⟨gb101, 2, none⟩ = some (.int .i64 a0_2) := (blk_cell BK101.out 2).trans rfl; have hfz7_0 := blk_frozen BK101.out 0; have hfz7_1 := blk_frozen BK101.out 1; have hfz7_2 := blk_frozen BK101.out 2; have hnb8 := NB103_102.out; have hnc8 := NB102_103.out; have hcz9_0 : w4.cell? ⟨gb103, 0, none⟩ = some (.int .i64 0) := (blk_cell BK103.out 0).trans rfl; have hcz9_1 : w4.cell? ⟨gb103, 1, none⟩ = some (.int .i64 0) := (blk_cell BK103.out 1).trans rfl; have hcz9_2 : w4.cell? ⟨gb103, 2, none⟩ = some (.int .i64 0) := (blk_cell BK103.out 2).trans rfl; have hfz9_0 := blk_frozen BK103.out 0; have hfz9_1 := blk_frozen BK103.out 1; have hfz9_2 := blk_frozen BK103.out 2; have hcz10_0 : w4.cell? ⟨gb102, 0, none⟩ = some (.int .i64 0) := (blk_cell BK102.out 0).trans rfl; have hcz10_1 : w4.cell? ⟨gb102, 1, none⟩ = some (.int .i64 0) := (blk_cell BK102.out 1).trans rfl; have hcz10_2 : w4.cell? ⟨gb102, 2, none⟩ = some (.int .i64 0) := (blk_cell BK102.out 2).trans rfl; have hfz10_0 := blk_frozen BK102.out 0; have hfz10_1 := blk_frozen BK102.out 1; have hfz10_2 := blk_frozen BK102.out 2))
  refine bodyPost_ret (results_cell_row rfl _ _ gb102 52 #[.int .i64 a0_0, .int .i64 a0_1, .int .i64 a0_2] (0, 0) _ rfl (by (with_reducible repeat (first | refine blk_drewN ?_ _ | refine blk_drew ?_ | refine blk_alloc ?_ _)); refine blk_put (cs := #[.int .i64 a0_0, .int .i64 a0_1, .int .i64 0]) ?_ 2 _ rfl; (with_reducible repeat (first | refine blk_drewN ?_ _ | refine blk_drew ?_ | refine blk_alloc ?_ _)); refine blk_put (cs := #[.int .i64 a0_0, .int .i64 0, .int .i64 0]) ?_ 1 _ rfl; (with_reducible repeat (first | refine blk_drewN ?_ _ | refine blk_drew ?_ | refine blk_alloc ?_ _)); refine blk_put (cs := #[.int .i64 0, .int .i64 0, .int .i64 0]) ?_ 0 _ rfl; (with_reducible repeat (first | refine blk_drewN ?_ _ | refine blk_drew ?_ | refine blk_alloc ?_ _)); refine blk_far ?_ NB102_103.out _; (with_reducible repeat (first | refine blk_drewN ?_ _ | refine blk_drew ?_ | refine blk_alloc ?_ _)); refine blk_far ?_ NB102_103.out _; (with_reducible repeat (first | refine blk_drewN ?_ _ | refine blk_drew ?_ | refine blk_alloc ?_ _)); refine blk_far ?_ NB102_103.out _; (with_reducible repeat (first | refine blk_drewN ?_ _ | refine blk_drew ?_ | refine blk_alloc ?_ _)); exact BK102.out) Try.underlying52 rfl (by kernel_rfl)) rfl ?_
  exact ⟨by first | rfl | (simp [errW_none, errW_some] <;> rfl) | (simp [*, errW_none, errW_some] <;> rfl), by repeat (first | (with_reducible first | exact HB.out | apply below_alloc | apply pw_below_drewN | apply below_drew1 | refine below_set ?_ GE101.out | refine below_set ?_ GE102.out | refine below_set ?_ GE103.out) | exact HB.out)⟩

end Go.Proofs.Ytcjhhdecckcibaa.G

namespace Go.Proofs.Ytcjhhdecckcibaa.G
open Go.RowKit Go.Proofs.YtcjhhdecckcibaaW.PrintWords Go.Proofs.YtcjhhdecckcibaaW.PrintLast Go.Proofs.YtcjhhdecckcibaaW.PrintMore
attribute [local go_sem] max2_int min2_int max_two min_two max_three min_three max_four min_four   -- for this text's walks alone
set_option linter.unusedVariables false
set_option linter.unusedSimpArgs false

def laws_toCombS.l0 : Nat → List (S55) → List (S52) → Int → Option ((List (S52)))
  | 0, _, _, _ => none
  | k + 1, x0, x3, x4 => if x4 < (x0.length : Int) then (if 0 ≤ x4 then ((laws_toComb.f ((rd_T55 x0 x4).f0) ((rd_T55 x0 x4).f1) ((rd_T55 x0 x4).f2)).bind fun bt105 => (if x4 < (x3.length : Int) then (laws_toCombS.l0 k x0 (x3.set (x4 : Int).toNat (⟨bt105.1, bt105.2.1, bt105.2.2⟩ : S52)) (wrap64 (x4 + 1))) else (none))) else (none)) else (some x3)
def laws_toCombS.f (k : Nat) (l0 : List (S55)) : Option ((List (S52))) := if 0 ≤ (l0.length : Int) then (if ((l0.length : Int) : Int).toNat ≤ 11728124029610 then (laws_toCombS.l0 k l0 (List.replicate ((l0.length : Int) : Int).toNat z52) 0) else (none)) else (none)
set_option maxHeartbeats 8000000 in
set_option maxRecDepth 100000 in
theorem laws_toCombS.calls (k : Nat) (A0 : Option Addr) (c0 : Nat) (l0 : List (S55)) (r : List (S52)) (w : World) (hr0 : Kd.C k55 w A0 l0.length l0) (hc0 : l0.length ≤ c0) (h : laws_toCombS.f k l0 = some r) :
    Calls Try.prog 13 #[.slice A0 l0.length c0] w fun e w' => ∃ v0_ : Value, e = .returned (v0_) ∧ Kd.R k52 52 w' w.heap.size (fun _ => True) v0_ r ∧ Below w.heap.size w w' := by
  have hu55 := Try.underlying55
  have hu52 := Try.underlying52
  have HR0 := Aside0.mk hr0
  have HC0 := Aside0.mk hc0
  clear hr0 hc0
  have HB := Aside0.mk (Below.refl w.heap.size w)
  have H : (if 0 ≤ (l0.length : Int) then (if ((l0.length : Int) : Int).toNat ≤ 11728124029610 then (laws_toCombS.l0 k l0 (List.replicate ((l0.length : Int) : Int).toNat z52) 0) else (none)) else (none)) = some r := h
  clear h
  by_cases c2 : 0 ≤ (l0.length : Int)
  · rw [if_pos c2] at H
    have c2b0 := eq_true c2
    have c2b1 : decide (0 ≤ (l0.length : Int)) = true := decide_eq_true c2
    clear c2
    by_cases c3 : ((l0.length : Int) : Int).toNat ≤ 11728124029610
    · rw [if_pos c3] at H
      have c3b0 := eq_true c3
      have c3b1 : decide (((l0.length : Int) : Int).toNat ≤ 11728124029610) = true := decide_eq_true c3
      clear c3
      obtain ⟨y101, hy101⟩ : ∃ y_ : List (S52), y_ = (List.replicate ((l0.length : Int) : Int).toNat z52) := ⟨_, rfl⟩
      replace H : (laws_toCombS.l0 k l0 y101 0) = some r := by first | (rw [hy101]; with_reducible exact H) | (have H2_ := (Option.bind_some _ _).symm.trans H; rw [hy101]; with_reducible exact H2_) | (have H2_ := (Option.bind_some _ _).symm.trans H; with_reducible exact H2_) | with_reducible exact H | (rw [hy101]; exact H) | exact H
      have Ny101 := Aside0.mk hy101
      clear hy101
      have H' := Aside0.mk H
      clear H
      go_enter Try.func13, Try.ntmps13
      go_wp2_with (first | ((with_reducible refine gate_dst (N := 7) rfl ?_); refine Kd.R_make k52 _ 52 rfl (N := 7) rfl 25 _ _ rfl (l0.length : Int) rfl rfl Try.underlying25 (.agg #[(.int .i64 0), (.int .i64 0), (.int .i64 0)]) 24 info52 rfl (by decide) (by omega) z52 (ok := fun _ => True) (okp := fun _ => True) (k52_mkM _ _ _ z52 ) (fun _ hk => hk) trivial (of_decide_eq_true (by first | (with_reducible assumption) | assumption)) (Nat.le_trans (Nat.mul_le_mul_right _ (of_decide_eq_true (by first | (with_reducible assumption) | assumption) : (l0.length : Int).toNat ≤ 11728124029610)) (by omega)) (Below.refl _ _) (Nat.le_refl _) ?_; intro v102 w4 ho5 hb hg_ hnew_; clear hg_ hnew_; (first | rw [← Ny101.out] at ho5 | (simp only [Int.reduceToNat] at ho5; rw [← Ny101.out] at ho5)); have n0_ := Aside0.mk (Kd.R_lower ho5 (below_size (by repeat (first | (with_reducible first | exact HB.out | apply below_alloc | apply pw_below_drewN | apply below_drew1) | exact HB.out)))); have n1_ := Aside0.mk (below_step (by repeat (first | (with_reducible first | exact HB.out | apply below_alloc | apply pw_below_drewN | apply below_drew1) | exact HB.out)) hb); clear HB; have HO103 := n0_; have HB := n1_; clear n0_ n1_; clear hb ho5))
      go_loopg [4] k (fun kq v4 w' => ∃ (x3_1 : List (S52)) (x4_1 : Int), v4 = .int .i64 x4_1 ∧ Aside0 (laws_toCombS.l0 kq l0 x3_1 x4_1 = some r) ∧ Aside0 (kq ≤ k) ∧ Aside0 (Kd.R k52 52 w' w.heap.size (fun _ => True) v102 x3_1) ∧ Aside0 (Below w.heap.size w w'))
      case atStart => exact ⟨(y101), (0), (by first | rfl | (simp; done) | (simp [*]; done)), H', ⟨Nat.le_refl _⟩, ⟨by (with_reducible repeat (first | apply Kd.R_alloc | apply Kd.R_drewN | apply Kd.R_drew)); exact HO103.out⟩, ⟨by repeat (first | (with_reducible first | exact HB.out | apply below_alloc | apply pw_below_drewN | apply below_drew1) | exact HB.out)⟩⟩
      case round =>
        clear H'
        try clear c1
        try clear c2
        try clear c2b0
        try clear c2b1
        try clear p2
        try clear c3
        try clear c3b0
        try clear c3b1
        obtain ⟨x3_1, x4_1, rfl, HA, HK1, HO_3, HB⟩ := hrel
        cases gk with
        | zero => exact absurd HA.out (by simp [laws_toCombS.l0])
        | succ k1 =>
          have H := HA.out
          clear HA
          simp only [laws_toCombS.l0] at H
          by_cases c6 : x4_1 < (l0.length : Int)
          · rw [if_pos c6] at H
            have c6b0 : decide (x4_1 < (l0.length : Int)) = true := decide_eq_true c6
            clear c6
            by_cases c7 : 0 ≤ x4_1
            · rw [if_pos c7] at H
              have c7b0 : decide (0 ≤ x4_1) = true := decide_eq_true c7
              clear c7
              replace H := Option.bind_eq_some_iff.mp H
              obtain ⟨⟨t105, t106, t107⟩, A80, H⟩ := H
              replace H : (if x4_1 < (x3_1.length : Int) then (laws_toCombS.l0 k1 l0 (x3_1.set (x4_1 : Int).toNat (⟨t105, t106, t107⟩ : S52)) (wrap64 (x4_1 + 1))) else (none)) = some r := H
              have A8 := Aside0.mk A80
              clear A80
              by_cases c9 : x4_1 < (x3_1.length : Int)
              · rw [if_pos c9] at H
                have c9b0 : decide (x4_1 < (x3_1.length : Int)) = true := decide_eq_true c9
                clear c9
                obtain ⟨y108, hy108⟩ : ∃ y_ : List (S52), y_ = (x3_1.set (x4_1 : Int).toNat (⟨t105, t106, t107⟩ : S52)) := ⟨_, rfl⟩
                replace H : (laws_toCombS.l0 k1 l0 y108 (wrap64 (x4_1 + 1))) = some r := by first | (rw [hy108]; with_reducible exact H) | (have H2_ := (Option.bind_some _ _).symm.trans H; rw [hy108]; with_reducible exact H2_) | (have H2_ := (Option.bind_some _ _).symm.trans H; with_reducible exact H2_) | with_reducible exact H | (rw [hy108]; exact H) | exact H
                have Ny108 := Aside0.mk hy108
                clear hy108
                have H' := Aside0.mk H
                clear H
                have p104 : 0 ≤ (x4_1 : Int) := of_decide_eq_true (by first | (with_reducible assumption) | assumption)
                have q104 : x4_1 < (l0.length : Int) := of_decide_eq_true (by first | (with_reducible assumption) | assumption)
                obtain ⟨ad104, e104, hx104_0, hx104_1, hx104_2⟩ := at_T55 HR0.out x4_1 p104 q104
                cases e104
                replace hx104_0 := (HB.out.cell (World.block_lt_of_cell? w _ hx104_0)).trans hx104_0
                replace hx104_1 := (HB.out.cell (World.block_lt_of_cell? w _ hx104_1)).trans hx104_1
                replace hx104_2 := (HB.out.cell (World.block_lt_of_cell? w _ hx104_2)).trans hx104_2
                replace p104 := eq_true p104
                replace q104 := eq_true q104
                go_wp2_with (first | ((with_reducible refine gate_callee (f := 41) rfl ?_); refine goesL_ (some 20) rfl rfl Try.func41 (by kernel_rfl) rfl #[.agg #[.int .i64 ((rd_T55 l0 x4_1).f0), .int .i64 ((rd_T55 l0 x4_1).f1), .int .i64 ((rd_T55 l0 x4_1).f2)]] rfl (by (try simp only [List.map_toArray, List.map_cons, List.map_nil]); first | done | rfl | (simp only [List.length_drop, List.length_take]; rfl)) ?_; (with_reducible refine (laws_toComb.calls ((rd_T55 l0 x4_1).f0) ((rd_T55 l0 x4_1).f1) ((rd_T55 l0 x4_1).f2) t105 t106 t107 _ A8.out).mono ?_); rintro e w11 ⟨rfl, hb⟩; refine ⟨_, rfl, ?_⟩; have n0_ := Aside0.mk (Kd.R_below (by (with_reducible repeat (first | apply Kd.R_alloc | apply Kd.R_drewN | apply Kd.R_drew)); exact HO_3.out) hb); have n1_ := Aside0.mk (below_step (by repeat (first | (with_reducible first | exact HB.out | apply below_alloc | apply pw_below_drewN | apply below_drew1) | exact HB.out)) hb); clear HO_3; clear HB; have HO_3 := n0_; have HB := n1_; clear n0_ n1_; (try clear hb); (try clear hb2); (try clear hk); (try clear hi); have p10 : 0 ≤ (x4_1 : Int) := of_decide_eq_true (by first | (with_reducible assumption) | assumption); have q10 : (x4_1 : Int) < ((x3_1.length : Int) : Int) := of_decide_eq_true (by first | (with_reducible assumption) | assumption); obtain ⟨go10, co10, eo10, gb10, gl10, cl10, HG10⟩ := Kd.R_form HO_3.out (by omega); (first | cases eo10 | (injection eo10 with ea_ en_ ec_; (first | subst ea_ | (injection ea_ with ea_; subst ea_)); subst ec_; clear en_)); have GB10 := Aside0.mk gb10; have GG10 := Aside0.mk HG10; clear gb10 gl10 HG10; obtain ⟨ce10, hcl10, hM10, hcc10, hfr10⟩ := Kd.R_elem HO_3.out z52 (x4_1 : Int) p10 q10; obtain rfl := k52_openM hM10; have hx10_0 : w11.cell? ⟨go10, (x4_1 : Int).toNat * 3, none⟩ = some (.int .i64 ((rd_T52 x3_1 x4_1).f0)) := hcc10 0 _ rfl; have hx10_1 : w11.cell? ⟨go10, (x4_1 : Int).toNat * 3 + 1, none⟩ = some (.int .i64 ((rd_T52 x3_1 x4_1).f1)) := hcc10 1 _ rfl; have hx10_2 : w11.cell? ⟨go10, (x4_1 : Int).toNat * 3 + 2, none⟩ = some (.int .i64 ((rd_T52 x3_1 x4_1).f2)) := hcc10 2 _ rfl; have hf10_0 : w11.frozen? ⟨go10, (x4_1 : Int).toNat * 3, none⟩ = false := hfr10 0; have hf10_1 : w11.frozen? ⟨go10, (x4_1 : Int).toNat * 3 + 1, none⟩ = false := hfr10 1; have hf10_2 : w11.frozen? ⟨go10, (x4_1 : Int).toNat * 3 + 2, none⟩ = false := hfr10 2; clear hcl10 hcc10 hfr10 hM10; replace p10 := eq_true p10; replace q10 := eq_true q10; have HX12 := Aside0.mk (show Kd.R k52 52 w11 w.heap.size (fun _ => True) (.slice (some ⟨go10, 0, none⟩) x3_1.length co10) x3_1 from (by (with_reducible repeat (first | apply Kd.R_alloc | apply Kd.R_drewN | apply Kd.R_drew)); exact HO_3.out)); obtain ⟨ce12, hcl12, hM12, hcc12, hfr12⟩ := Kd.R_elem HX12.out z52 (x4_1 : Int) (of_decide_eq_true (by first | (with_reducible assumption) | assumption)) (by have h_ : (x4_1 : Int) < ((x3_1.length : Int) : Int) := of_decide_eq_true (by first | (with_reducible assumption) | assumption); first | exact h_ | (have e_ := (Kd.R_reads' HO_3.out).1; omega) | simpa using h_); obtain rfl := k52_openM hM12; have HP12 := Kd.R_seg HX12.out (x4_1 : Int) (of_decide_eq_true (by first | (with_reducible assumption) | assumption)) (by have h_ : (x4_1 : Int) < ((x3_1.length : Int) : Int) := of_decide_eq_true (by first | (with_reducible assumption) | assumption); first | exact h_ | (have e_ := (Kd.R_reads' HO_3.out).1; omega) | simpa using h_) (seg := [.int .i64 t105, .int .i64 t106, .int .i64 t107]) (j := 0) hcl12 hcc12 (show 3 ≤ 3 from by decide) (x' := (⟨t105, t106, t107⟩ : S52)) (k52_mkM _ _ _ (⟨t105, t106, t107⟩ : S52) ) (fun _ hk => hk); have hx12_0 := hcc12 0 _ rfl; (try simp only [show (k52).sz = 3 from rfl, Nat.mul_one, Nat.add_zero] at hx12_0); have hf12_0 := hfr12 0; (try simp only [show (k52).sz = 3 from rfl, Nat.mul_one, Nat.add_zero] at hf12_0); have hx12_1 := hcc12 1 _ rfl; (try simp only [show (k52).sz = 3 from rfl, Nat.mul_one, Nat.add_zero] at hx12_1); have hf12_1 := hfr12 1; (try simp only [show (k52).sz = 3 from rfl, Nat.mul_one, Nat.add_zero] at hf12_1); have hx12_2 := hcc12 2 _ rfl; (try simp only [show (k52).sz = 3 from rfl, Nat.mul_one, Nat.add_zero] at hx12_2); have hf12_2 := hfr12 2; (try simp only [show (k52).sz = 3 from rfl, Nat.mul_one, Nat.add_zero] at hf12_2); clear hcl12 hcc12 hfr12 hM12) | ((with_reducible refine gate_store (t := 52) (p := 21) rfl ?_); refine store_event (t := 52) (p := 21) (v := ?vo_w13) (w1 := (((w11.setCell ⟨go10, (x4_1 : Int).toNat * 3, none⟩ (.int .i64 t105)).setCell ⟨go10, (x4_1 : Int).toNat * 3 + 1, none⟩ (.int .i64 t106)).setCell ⟨go10, (x4_1 : Int).toNat * 3 + 2, none⟩ (.int .i64 t107))) ?hg ?ho ?hn ?hr ?_; (case ho => rfl); (case hg => rfl); (case hn => rfl); (case hr => first | (go_simp; done) | (go_simp; rfl)); intro w13 hw; have hg : w11.grownBy w13 (some go10) := (by rw [hw]; exact HP12.2); have hp_ : Kd.R k52 52 w13 w.heap.size (fun _ => True) (.slice (some ⟨go10, 0, none⟩) x3_1.length co10) y108 := (by rw [hw, Ny108.out]; exact HP12.1); clear HP12; have n0_ := Aside0.mk (hp_); have n1_ := Aside0.mk ((by rw [hw]; exact below_set (below_set (below_set (HB.out) GB10.out) GB10.out) GB10.out : Below w.heap.size w w13)); clear HO_3; clear HB; have HO_3 := n0_; have HB := n1_; clear n0_ n1_; clear hg hw hp_))
                go_roundg k1
                case measure => have := HK1.out; omega
                case rel => exact ⟨(y108), (wrap64 (x4_1 + 1)), (by first | rfl | (simp; done) | (simp [*]; done)), H', ⟨by have := HK1.out; omega⟩, ⟨by (with_reducible repeat (first | apply Kd.R_alloc | apply Kd.R_drewN | apply Kd.R_drew)); exact HO_3.out⟩, ⟨by repeat (first | (with_reducible first | exact HB.out | apply below_alloc | apply pw_below_drewN | apply below_drew1) | exact HB.out)⟩⟩
              · rw [if_neg c9] at H
                exact absurd H (by simp)
            · rw [if_neg c7] at H
              exact absurd H (by simp)
          · rw [if_neg c6] at H
            have c6b0 : decide (x4_1 < (l0.length : Int)) = false := decide_eq_false c6
            clear c6
            obtain rfl := Option.some.inj H
            go_wp2
            go_ret
            exact ⟨_, by first | rfl | (simp [errW_none, errW_some] <;> rfl) | (simp [*, errW_none, errW_some] <;> rfl), by (with_reducible repeat (first | apply Kd.R_alloc | apply Kd.R_drewN | apply Kd.R_drew)); exact HO_3.out, by repeat (first | (with_reducible first | exact HB.out | apply below_alloc | apply pw_below_drewN | apply below_drew1) | exact HB.out)⟩
    · rw [if_neg c3] at H
      exact absurd H (by simp)
  · rw [if_neg c2] at H
    exact absurd H (by simp)

end Go.Proofs.Ytcjhhdecckcibaa.G

namespace Go.Proofs.Ytcjhhdecckcibaa.G
open Go.RowKit Go.Proofs.YtcjhhdecckcibaaW.PrintWords Go.Proofs.YtcjhhdecckcibaaW.PrintLast Go.Proofs.YtcjhhdecckcibaaW.PrintMore
section
variable {α : Type} {d : Kd α} {e base n c g a b : Nat} {ok : Nat → Prop} {W w1 w0 : World} {A : Option Addr} {u v : Value} {xs : List α} {o : Obj}
theorem qb (h : Aside0 (W.heap[g]? = some o)) (hb : Below W.heap.size W w1) : Aside0 (w1.heap[g]? = some o) := ⟨blk_below h.out hb⟩
theorem qv (h : Aside0 (Kd.V d e W base ok v xs)) (hg : a = W.heap.size) (hb : Below W.heap.size W w1) : Aside0 (Kd.V d e w1 base (fun k => ok k ∧ k ≠ a) v xs) := ⟨Kd.V_below (Kd.V_elderB h.out a (Nat.le_of_eq hg.symm)) hb⟩
theorem qn (h : Aside0 (Kd.N d e W base ok v xs)) (hg : a = W.heap.size) (hb : Below W.heap.size W w1) : Aside0 (Kd.N d e w1 base (fun k => ok k ∧ k ≠ a) v xs) := ⟨Kd.N_below (Kd.N_elderB h.out a (Nat.le_of_eq hg.symm)) hb⟩
theorem qe (h : Aside0 (Kd.V d e W base ok v xs)) (hbase : ∀ k, u.ownBlock = some k → W.heap.size ≤ k) (hb : Below W.heap.size W w1) : Aside0 (Kd.V d e w1 base (fun k => ok k ∧ some k ≠ u.ownBlock) v xs) := ⟨Kd.V_elder' h.out hbase hb⟩
theorem qs (h : Aside0 (Below w0.heap.size w0 W)) (hb : Below W.heap.size W w1) : Aside0 (Below w0.heap.size w0 w1) := ⟨below_step h.out hb⟩
theorem qw (h : Aside0 (Below w0.heap.size w0 W)) (hg : a = W.heap.size) : Aside0 (w0.heap.size ≤ a) := ⟨by rw [hg]; exact below_size h.out⟩
theorem ql (h : Aside0 (W.heap[g]? = some o)) (hg : a = W.heap.size) : Aside0 (g ≠ a) := ⟨by rw [hg]; exact Nat.ne_of_lt (blk_lt h.out)⟩
theorem qg (h : Aside0 (W.heap[g]? = some o)) (hg : a = W.heap.size) : Aside0 (a ≠ g) := ⟨by rw [hg]; exact Nat.ne_of_gt (blk_lt h.out)⟩
theorem qr (h : Aside0 (Kd.V d e W base ok (.slice A n c) xs)) (hb : Below W.heap.size W w1) : Aside0 (d.C w1 A xs.length xs) := ⟨Kd.C_below (Kd.V_reads' h.out).2.2 hb⟩
theorem qc (h : Aside0 (d.C W A n xs)) (hb : Below W.heap.size W w1) : Aside0 (d.C w1 A n xs) := ⟨Kd.C_below h.out hb⟩
end
theorem vC {α : Type} {d : Kd α} {e n c : Nat} {W : World} {base : Nat} {ok : Nat → Prop} {A : Option Addr} {xs : List α} (h : Kd.V d e W base ok (.slice A n c) xs) : d.C W A xs.length xs := (Kd.V_reads' h).2.2
theorem aK {p : Prop} (h : p) : Aside0 p := ⟨h⟩
theorem zN {w : World} {g : Nat} {o : Obj} (h : w.heap[g]? = some o) (n : Nat) : (w.drewN n).heap[g]? = some o := blk_drewN h n
theorem zD {w : World} {g : Nat} {o : Obj} (h : w.heap[g]? = some o) : w.drew.heap[g]? = some o := blk_drew h
theorem zA {w : World} {g : Nat} {o : Obj} (h : w.heap[g]? = some o) (o' : Obj) : (w.alloc o').heap[g]? = some o := blk_alloc h o'
theorem pB {A B : Prop} (h : Aside0 A) (k : A → B := by intro h; (with_reducible repeat (first | refine blk_drewN ?_ _ | refine blk_drew ?_ | refine blk_alloc ?_ _)); exact h) : B := k h.out
theorem pH {A B : Prop} (h : Aside0 A) (k : A → B := by intro h; repeat (first | (with_reducible first | exact h | apply below_alloc | apply pw_below_drewN | apply below_drew1 | refine below_set ?_ (Aside0.out (by assumption))) | exact h)) : B := k h.out
theorem sC {A B : Prop} (h : A) (k : A → B := by intro h; repeat (first | exact h | (with_reducible refine Kd.C_alloc ?_ _) | (with_reducible refine Kd.C_drewN ?_ _) | (with_reducible refine Kd.C_drew ?_))) : B := k h
theorem eW {B : Prop} (h : B := by first | rfl | (simp [errW_none, errW_some] <;> rfl) | (simp [*, errW_none, errW_some] <;> rfl)) : B := h
theorem tA {B : Prop} (h : B := by (try simp only [List.map_toArray, List.map_cons, List.map_nil]); first | done | rfl) : B := h
theorem dA {p : Prop} [Decidable p] (h : decide p = true := by first | (with_reducible assumption) | assumption) : p := of_decide_eq_true h
theorem rS {B : Prop} (h : B := by first | rfl | (simp; done) | (simp [*]; done)) : B := h
theorem nG {w : World} {p q : Addr} {x : Value} {b : Nat} (h : w.cell? p = some x) (l : Aside0 (w.heap.size ≤ b)) (e : p.block = q.block := by first | rfl | exact add_block _ _ | exact (add_block _ _).symm | exact (add_block _ _).trans (add_block _ _).symm | (dsimp only; exact add_block _ _) | simp [add_block]) : q.block ≠ b := e ▸ Nat.ne_of_lt (Nat.lt_of_lt_of_le (World.block_lt_of_cell? w _ h) l.out)
theorem k30 {w : World} {g : Nat} {t : TypeId} {x y z : Value} (h : Aside0 (w.heap[g]? = some (.cells #[x, y, z] t (0, 0)))) : w.cell? ⟨g, 0, none⟩ = some x := (blk_cell h.out 0).trans rfl
theorem k31 {w : World} {g : Nat} {t : TypeId} {x y z : Value} (h : Aside0 (w.heap[g]? = some (.cells #[x, y, z] t (0, 0)))) : w.cell? ⟨g, 1, none⟩ = some y := (blk_cell h.out 1).trans rfl
theorem k32 {w : World} {g : Nat} {t : TypeId} {x y z : Value} (h : Aside0 (w.heap[g]? = some (.cells #[x, y, z] t (0, 0)))) : w.cell? ⟨g, 2, none⟩ = some z := (blk_cell h.out 2).trans rfl
theorem fz {w : World} {g : Nat} {t : TypeId} {cs : Array Value} (h : Aside0 (w.heap[g]? = some (.cells cs t (0, 0)))) (i : Nat) : w.frozen? ⟨g, i, none⟩ = false := blk_frozen h.out i
theorem p3 {w : World} {g : Nat} {t : TypeId} {a b c x y z : Value} {B : Prop} (h : Aside0 (w.heap[g]? = some (.cells #[a, b, c] t (0, 0)))) (k : (((w.setCell ⟨g, 0, none⟩ x).setCell ⟨g, 1, none⟩ y).setCell ⟨g, 2, none⟩ z).heap[g]? = some (.cells #[x, y, z] t (0, 0)) → B := by intro h; (with_reducible repeat first | apply zN | apply zD | apply zA); exact h) : B := k (blk_put (blk_put (blk_put h.out 0 x rfl) 1 y rfl) 2 z rfl)
theorem vF3 {α : Type} {d : Kd α} {e base : Nat} {W : World} {ok : Nat → Prop} {v x y z : Value} {xs : List α} (g : Nat) (h : Kd.V d e W base ok v xs) (hok : ∀ k, ok k → k ≠ g) : Kd.V d e (((W.setCell ⟨g, 0, none⟩ x).setCell ⟨g, 1, none⟩ y).setCell ⟨g, 2, none⟩ z) base ok v xs := Kd.V_far (Kd.V_far (Kd.V_far h (p := ⟨g, 0, none⟩) hok x) (p := ⟨g, 1, none⟩) hok y) (p := ⟨g, 2, none⟩) hok z
theorem nF3 {α : Type} {d : Kd α} {e base : Nat} {W : World} {ok : Nat → Prop} {v x y z : Value} {xs : List α} (g : Nat) (h : Kd.N d e W base ok v xs) (hok : ∀ k, ok k → k ≠ g) : Kd.N d e (((W.setCell ⟨g, 0, none⟩ x).setCell ⟨g, 1, none⟩ y).setCell ⟨g, 2, none⟩ z) base ok v xs := Kd.N_far (Kd.N_far (Kd.N_far h (p := ⟨g, 0, none⟩) hok x) (p := ⟨g, 1, none⟩) hok y) (p := ⟨g, 2, none⟩) hok z
abbrev bs (a b : Nat) : Array Bool := (List.replicate a true ++ List.replicate b false).toArray
theorem sP : (∀ (a : Act) (d : Tmp) (v : Value), a.put (some d) v = { a with tmps := a.tmps.setIfInBounds d v }) ∧ (∀ (a : Act) (v : Value), a.put none v = a) ∧ (∀ (l : List Value) (i : Nat) (x : Value), l.toArray.setIfInBounds i x = (l.set i x).toArray) ∧ (∀ (x y : Value) (l : List Value), (x :: l).set 0 y = y :: l) ∧ (∀ (x y : Value) (l : List Value) (n : Nat), (x :: l).set (n + 1) y = x :: l.set n y) := ⟨fun _ _ _ => rfl, fun _ _ => rfl, fun _ _ _ => List.setIfInBounds_toArray .., fun _ _ _ => rfl, fun _ _ _ _ => rfl⟩
theorem uC {w w1 : World} {p : Addr} {v : Value} (b : Aside0 (Below w.heap.size w w1)) (h : w.cell? p = some v) : w1.cell? p = some v := (b.out.cell (World.block_lt_of_cell? w p h)).trans h
theorem bE {P : Program} {ops : Array Oper} {rest : List Oper} {o : Oper} {a : Act} {Q : Exit → Act → World → Prop} {W : World} {N : Tmp} {cs : Array Value} {t : TypeId}
    (h : ∀ g, g = W.heap.size → ∀ w1, w1.heap[g]? = some (.cells cs t (0, 0)) → Below W.heap.size W w1 → wpList P ops Q rest (a.put o.dst (.pointer (some ⟨g, 0, none⟩))) w1)
    (hd : o.dst = some N := by rfl) (hgd : o.guard = none := by rfl) (hrun : (execOp a.eval o).run P W = .ok (.value (.pointer (some ⟨W.heap.size, 0, none⟩))) (W.alloc (.cells cs t (0, 0))) := by go_simp) : wpList P ops Q (o :: rest) a W := box_event hgd hd hrun h
end Go.Proofs.Ytcjhhdecckcibaa.G

namespace Go.Proofs.Ytcjhhdecckcibaa.G
open Go.RowKit Go.Proofs.YtcjhhdecckcibaaW.PrintWords Go.Proofs.YtcjhhdecckcibaaW.PrintLast Go.Proofs.YtcjhhdecckcibaaW.PrintMore
attribute [local go_sem] max2_int min2_int max_two min_two max_three min_three max_four min_four   -- for this text's walks alone
set_option linter.unusedVariables false
set_option linter.unusedSimpArgs false

def laws_eqComb.f (a0_0 : Int) (a0_1 : Int) (a0_2 : Int) (a1_0 : Int) (a1_1 : Int) (a1_2 : Int) : Option (Bool) := if a0_0 = a1_0 then (if a0_1 = a1_1 then (if a0_2 = a1_2 then (some true) else (some false)) else (some false)) else (some false)
set_option maxHeartbeats 8000000 in
set_option maxRecDepth 100000 in
theorem laws_eqComb.calls (a0_0 : Int) (a0_1 : Int) (a0_2 : Int) (a1_0 : Int) (a1_1 : Int) (a1_2 : Int) (r : Bool) (w : World) (h : laws_eqComb.f a0_0 a0_1 a0_2 a1_0 a1_1 a1_2 = some r) :
  Calls Try.prog 43 #[.agg #[.int .i64 a0_0, .int .i64 a0_1, .int .i64 a0_2], .agg #[.int .i64 a1_0, .int .i64 a1_1, .int .i64 a1_2]] w fun e w' => e = .returned (.bool r) ∧ Below w.heap.size w w' := by
 have hu52 := Try.underlying52
 have HB := aK (Below.refl w.heap.size w)
 have H : (if a0_0 = a1_0 then (if a0_1 = a1_1 then (if a0_2 = a1_2 then (some true) else (some false)) else (some false)) else (some false)) = some r := h
 clear h
 by_cases c3 : a0_0 = a1_0
 ·rw [if_pos c3] at H
  have c3b0 : (a0_0 == a1_0) = true := beq_iff_eq.mpr c3
  have c3b1 : (a0_0 != a1_0) = false := bne_eq_false_iff_eq.mpr c3
  clear c3
  by_cases c4 : a0_1 = a1_1
  ·rw [if_pos c4] at H
   have c4b0 : (a0_1 == a1_1) = true := beq_iff_eq.mpr c4
   have c4b1 : (a0_1 != a1_1) = false := bne_eq_false_iff_eq.mpr c4
   clear c4
   by_cases c5 : a0_2 = a1_2
   ·rw [if_pos c5] at H
    have c5b0 : (a0_2 == a1_2) = true := beq_iff_eq.mpr c5
    have c5b1 : (a0_2 != a1_2) = false := bne_eq_false_iff_eq.mpr c5
    clear c5
    obtain rfl := Option.some.inj H
    go_enter Try.func43, Try.ntmps43
    go_wp2_with (first | ((with_reducible refine gate_dst (N := 2) rfl ?_); refine bE (N := 2) (cs := #[.int .i64 a0_0, .int .i64 a0_1, .int .i64 a0_2]) (t := 52) ?_; intro gb101 hg w6 hbox hb; have GW101 := qw HB hg; have GE101 := qw HB hg; have BK101 := aK hbox; replace HB := qs HB hb; clear hb hbox hg) | ((with_reducible refine gate_dst (N := 3) rfl ?_); refine bE (N := 3) (cs := #[.int .i64 a1_0, .int .i64 a1_1, .int .i64 a1_2]) (t := 52) ?_; intro gb102 hg w7 hbox hb; have GW102 := qw HB hg; have GE102 := qw HB hg; have NB101_102 := ql BK101 hg; have NB102_101 := qg BK101 hg; replace BK101 := qb BK101 hb; have BK102 := aK hbox; replace HB := qs HB hb; clear hb hbox hg; have hnb8 := NB101_102.out; have hnc8 := NB102_101.out; have hcz9_0 := k30 BK101; have hcz9_1 := k31 BK101; have hcz9_2 := k32 BK101; have hfz9_0 := fz BK101 0; have hfz9_1 := fz BK101 1; have hfz9_2 := fz BK101 2; have hcz10_0 := k30 BK102; have hcz10_1 := k31 BK102; have hcz10_2 := k32 BK102; have hfz10_0 := fz BK102 0; have hfz10_1 := fz BK102 1; have hfz10_2 := fz BK102 2))
    go_ret
    exact ⟨eW, pH HB⟩
   ·rw [if_neg c5] at H
    have c5b0 : (a0_2 == a1_2) = false := beq_eq_false_iff_ne.mpr c5
    have c5b1 : (a0_2 != a1_2) = true := bne_iff_ne.mpr c5
    obtain rfl := Option.some.inj H
    go_enter Try.func43, Try.ntmps43
    go_wp2_with (first | ((with_reducible refine gate_dst (N := 2) rfl ?_); refine bE (N := 2) (cs := #[.int .i64 a0_0, .int .i64 a0_1, .int .i64 a0_2]) (t := 52) ?_; intro gb101 hg w11 hbox hb; have GW101 := qw HB hg; have GE101 := qw HB hg; have BK101 := aK hbox; replace HB := qs HB hb; clear hb hbox hg) | ((with_reducible refine gate_dst (N := 3) rfl ?_); refine bE (N := 3) (cs := #[.int .i64 a1_0, .int .i64 a1_1, .int .i64 a1_2]) (t := 52) ?_; intro gb102 hg w12 hbox hb; have GW102 := qw HB hg; have GE102 := qw HB hg; have NB101_102 := ql BK101 hg; have NB102_101 := qg BK101 hg; replace BK101 := qb BK101 hb; have BK102 := aK hbox; replace HB := qs HB hb; clear hb hbox hg; have hnb13 := NB101_102.out; have hnc13 := NB102_101.out; have hcz14_0 := k30 BK101; have hcz14_1 := k31 BK101; have hcz14_2 := k32 BK101; have hfz14_0 := fz BK101 0; have hfz14_1 := fz BK101 1; have hfz14_2 := fz BK101 2; have hcz15_0 := k30 BK102; have hcz15_1 := k31 BK102; have hcz15_2 := k32 BK102; have hfz15_0 := fz BK102 0; have hfz15_1 := fz BK102 1; have hfz15_2 := fz BK102 2))
    go_ret
    exact ⟨eW, pH HB⟩
  ·rw [if_neg c4] at H
   have c4b0 : (a0_1 == a1_1) = false := beq_eq_false_iff_ne.mpr c4
   have c4b1 : (a0_1 != a1_1) = true := bne_iff_ne.mpr c4
   obtain rfl := Option.some.inj H
   go_enter Try.func43, Try.ntmps43
   go_wp2_with (first | ((with_reducible refine gate_dst (N := 2) rfl ?_); refine bE (N := 2) (cs := #[.int .i64 a0_0, .int .i64 a0_1, .int .i64 a0_2]) (t := 52) ?_; intro gb101 hg w16 hbox hb; have GW101 := qw HB hg; have GE101 := qw HB hg; have BK101 := aK hbox; replace HB := qs HB hb; clear hb hbox hg) | ((with_reducible refine gate_dst (N := 3) rfl ?_); refine bE (N := 3) (cs := #[.int .i64 a1_0, .int .i64 a1_1, .int .i64 a1_2]) (t := 52) ?_; intro gb102 hg w17 hbox hb; have GW102 := qw HB hg; have GE102 := qw HB hg; have NB101_102 := ql BK101 hg; have NB102_101 := qg BK101 hg; replace BK101 := qb BK101 hb; have BK102 := aK hbox; replace HB := qs HB hb; clear hb hbox hg; have hnb18 := NB101_102.out; have hnc18 := NB102_101.out; have hcz19_0 := k30 BK101; have hcz19_1 := k31 BK101; have hcz19_2 := k32 BK101; have hfz19_0 := fz BK101 0; have hfz19_1 := fz BK101 1; have hfz19_2 := fz BK101 2; have hcz20_0 := k30 BK102; have hcz20_1 := k31 BK102; have hcz20_2 := k32 BK102; have hfz20_0 := fz BK102 0; have hfz20_1 := fz BK102 1; have hfz20_2 := fz BK102 2))
   go_ret
   exact ⟨eW, pH HB⟩
 ·rw [if_neg c3] at H
  have c3b0 : (a0_0 == a1_0) = false := beq_eq_false_iff_ne.mpr c3
  have c3b1 : (a0_0 != a1_0) = true := bne_iff_ne.mpr c3
  obtain rfl := Option.some.inj H
  go_enter Try.func43, Try.ntmps43
  go_wp2_with (first | ((with_reducible refine gate_dst (N := 2) rfl ?_); refine bE (N := 2) (cs := #[.int .i64 a0_0, .int .i64 a0_1, .int .i64 a0_2]) (t := 52) ?_; intro gb101 hg w21 hbox hb; have GW101 := qw HB hg; have GE101 := qw HB hg; have BK101 := aK hbox; replace HB := qs HB hb; clear hb hbox hg) | ((with_reducible refine gate_dst (N := 3) rfl ?_); refine bE (N := 3) (cs := #[.int .i64 a1_0, .int .i64 a1_1, .int .i64 a1_2]) (t := 52) ?_; intro gb102 hg w22 hbox hb; have GW102 := qw HB hg; have GE102 := qw HB hg; have NB101_102 := ql BK101 hg; have NB102_101 := qg BK101 hg; replace BK101 := qb BK101 hb; have BK102 := aK hbox; replace HB := qs HB hb; clear hb hbox hg; have hnb23 := NB101_102.out; have hnc23 := NB102_101.out; have hcz24_0 := k30 BK101; have hcz24_1 := k31 BK101; have hcz24_2 := k32 BK101; have hfz24_0 := fz BK101 0; have hfz24_1 := fz BK101 1; have hfz24_2 := fz BK101 2; have hcz25_0 := k30 BK102; have hcz25_1 := k31 BK102; have hcz25_2 := k32 BK102; have hfz25_0 := fz BK102 0; have hfz25_1 := fz BK102 1; have hfz25_2 := fz BK102 2))
  go_ret
  exact ⟨eW, pH HB⟩

end Go.Proofs.Ytcjhhdecckcibaa.G

namespace Go.Proofs.Ytcjhhdecckcibaa.G
open Go.RowKit Go.Proofs.YtcjhhdecckcibaaW.PrintWords Go.Proofs.YtcjhhdecckcibaaW.PrintLast Go.Proofs.YtcjhhdecckcibaaW.PrintMore
attribute [local go_sem] max2_int min2_int max_two min_two max_three min_three max_four min_four   -- for this text's walks alone
set_option linter.unusedVariables false
set_option linter.unusedSimpArgs false

def laws_eqCombS.l0 : Nat → List (S52) → List (S52) → Int → Option (Bool)
 | 0, _, _, _ => none
 | k + 1, x0, x1, x5 => if x5 < (x0.length : Int) then (if 0 ≤ x5 then (if x5 < (x1.length : Int) then ((laws_eqComb.f ((rd_T52 x0 x5).f0) ((rd_T52 x0 x5).f1) ((rd_T52 x0 x5).f2) ((rd_T52 x1 x5).f0) ((rd_T52 x1 x5).f1) ((rd_T52 x1 x5).f2)).bind fun t103 => (if t103 = true then (laws_eqCombS.l0 k x0 x1 (wrap64 (x5 + 1))) else (some false))) else (none)) else (none)) else (some true)
def laws_eqCombS.f (k : Nat) (l0 : List (S52)) (l1 : List (S52)) : Option (Bool) := if (l0.length : Int) = (l1.length : Int) then (laws_eqCombS.l0 k l0 l1 0) else (some false)
def laws_eqCombS.T6 : Bool × List (List Nat × List Nat) := (true, [([], []), ([], []), ([0, 1], [0, 1]), ([2], [2]), ([], []), ([], []), ([4, 5], [4, 5]), ([6], [6]), ([3, 7], [3, 7]), ([8], [8])])
def laws_eqCombS.B6 : List Nat := [0, 0, 3, 7, 0, 0, 48, 112, 255, 511]
theorem laws_eqCombS.tab6 : rtab .any (opsOf Try.f15 6) = laws_eqCombS.T6 := by kernel_rfl
theorem laws_eqCombS.bits6 : waitsOk laws_eqCombS.T6.2 laws_eqCombS.B6 = true := by kernel_rfl
set_option maxHeartbeats 8000000 in
set_option maxRecDepth 100000 in
theorem laws_eqCombS.calls (k : Nat) (A0 : Option Addr) (c0 : Nat) (l0 : List (S52)) (A1 : Option Addr) (c1 : Nat) (l1 : List (S52)) (r : Bool) (w : World) (hr0 : Kd.C k52 w A0 l0.length l0) (hc0 : l0.length ≤ c0) (hr1 : Kd.C k52 w A1 l1.length l1) (hc1 : l1.length ≤ c1) (h : laws_eqCombS.f k l0 l1 = some r) :
  Calls Try.prog 15 #[.slice A0 l0.length c0, .slice A1 l1.length c1] w fun e w' => e = .returned (.bool r) ∧ Below w.heap.size w w' := by
 have hu52 := Try.underlying52
 have HR0 := aK hr0
 have HC0 := aK hc0
 clear hr0 hc0
 have HR1 := aK hr1
 have HC1 := aK hc1
 clear hr1 hc1
 have HB := aK (Below.refl w.heap.size w)
 have H : (if (l0.length : Int) = (l1.length : Int) then (laws_eqCombS.l0 k l0 l1 0) else (some false)) = some r := h
 clear h
 by_cases c3 : (l0.length : Int) = (l1.length : Int)
 ·rw [if_pos c3] at H
  have c3b0 : ((l0.length : Int) == (l1.length : Int)) = true := beq_iff_eq.mpr c3
  have c3b1 : ((l0.length : Int) != (l1.length : Int)) = false := bne_eq_false_iff_eq.mpr c3
  have c3b2 : (l0.length == l1.length) = true := by first | simpa using c3 | (simp at c3 ⊢; omega)
  clear c3
  have H' := aK H
  clear H
  go_enter Try.func15, Try.ntmps15
  go_wp2
  go_loopg [5] k (fun kq v5 w' => ∃ (x5_1 : Int), v5 = .int .i64 x5_1 ∧ Aside0 (laws_eqCombS.l0 kq l0 l1 x5_1 = some r) ∧ Aside0 (kq ≤ k) ∧ Aside0 (Below w.heap.size w w'))
  case atStart => exact ⟨(0), rS, H', ⟨Nat.le_refl _⟩, ⟨pH HB⟩⟩
  case round =>
   clear H'
   try clear c1
   try clear p2
   try clear c3
   try clear c3b0
   try clear c3b1
   try clear c3b2
   obtain ⟨x5_1, rfl, HA, HK1, HB⟩ := hrel
   cases gk with
   | zero => exact absurd HA.out (by simp [laws_eqCombS.l0])
   | succ k1 =>
    have H := HA.out
    clear HA
    simp only [laws_eqCombS.l0] at H
    by_cases c4 : x5_1 < (l0.length : Int)
    ·rw [if_pos c4] at H
     have c4b0 : decide (x5_1 < (l0.length : Int)) = true := decide_eq_true c4
     clear c4
     by_cases c5 : 0 ≤ x5_1
     ·rw [if_pos c5] at H
      have c5b0 : decide (0 ≤ x5_1) = true := decide_eq_true c5
      clear c5
      by_cases c6 : x5_1 < (l1.length : Int)
      ·rw [if_pos c6] at H
       have c6b0 : decide (x5_1 < (l1.length : Int)) = true := decide_eq_true c6
       clear c6
       replace H := Option.bind_eq_some_iff.mp H
       obtain ⟨t103, A70, H⟩ := H
       try dsimp only at H
       have A7 := aK A70
       clear A70
       by_cases c8 : t103 = true
       ·subst c8
        rw [if_pos rfl] at H
        have H' := aK H
        clear H
        try go_wp2
        have n0_ := aK (below_drew1 HB.out)
        clear HB
        have HB := n0_
        clear n0_
        have p101 : 0 ≤ (x5_1 : Int) := dA
        have q101 : x5_1 < (l0.length : Int) := dA
        obtain ⟨ad101, e101, hx101_0, hx101_1, hx101_2⟩ := at_T52 HR0.out x5_1 p101 q101
        have hw101_2 := hx101_2
        have hw101_1 := hx101_1
        have hw101_0 := hx101_0
        cases e101
        replace hx101_0 := uC HB hx101_0
        replace hx101_1 := uC HB hx101_1
        replace hx101_2 := uC HB hx101_2
        replace p101 := eq_true p101
        replace q101 := eq_true q101
        have p102 : 0 ≤ (x5_1 : Int) := dA
        have q102 : x5_1 < (l1.length : Int) := dA
        obtain ⟨ad102, e102, hx102_0, hx102_1, hx102_2⟩ := at_T52 HR1.out x5_1 p102 q102
        have hw102_2 := hx102_2
        have hw102_1 := hx102_1
        have hw102_0 := hx102_0
        cases e102
        replace hx102_0 := uC HB hx102_0
        replace hx102_1 := uC HB hx102_1
        replace hx102_2 := uC HB hx102_2
        replace p102 := eq_true p102
        replace q102 := eq_true q102
        refine start_ (n := 10) (S := fun w' => w'.cell? (ad101.add ((x5_1).toNat * 3)) = some (.int .i64 ((rd_T52 l0 x5_1).f0)) ∧ w'.cell? ⟨(ad101.add ((x5_1).toNat * 3)).block, (ad101.add ((x5_1).toNat * 3)).off + 1, none⟩ = some (.int .i64 ((rd_T52 l0 x5_1).f1)) ∧ w'.cell? ⟨(ad101.add ((x5_1).toNat * 3)).block, (ad101.add ((x5_1).toNat * 3)).off + 2, none⟩ = some (.int .i64 ((rd_T52 l0 x5_1).f2)) ∧ w'.cell? (ad102.add ((x5_1).toNat * 3)) = some (.int .i64 ((rd_T52 l1 x5_1).f0)) ∧ w'.cell? ⟨(ad102.add ((x5_1).toNat * 3)).block, (ad102.add ((x5_1).toNat * 3)).off + 1, none⟩ = some (.int .i64 ((rd_T52 l1 x5_1).f1)) ∧ w'.cell? ⟨(ad102.add ((x5_1).toNat * 3)).block, (ad102.add ((x5_1).toNat * 3)).off + 2, none⟩ = some (.int .i64 ((rd_T52 l1 x5_1).f2))) (ds := []) (bs 0 10) (by kernel_rfl) rfl rfl ⟨(uC HB hw101_0), (uC HB hw101_1), (uC HB hw101_2), (uC HB hw102_0), (uC HB hw102_1), (uC HB hw102_2)⟩ (fun hHeld => ?_); refine with_tabW laws_eqCombS.tab6 laws_eqCombS.bits6 (fun HT_ HW_ => ?_)
        generalize wr.drew = w9 at HB hx101_0 hx101_1 hx101_2 hx102_0 hx102_1 hx102_2 hHeld ⊢
        refine pure_ (i := 0) (N := some 17) (v := ?_) (a' := ?_) (bs 1 9) rfl rfl (any_of HT_.out (by kernel_rfl)) (fun _ _ _ h => h) (Or.inl ⟨by rfl, ?_⟩) ?_ ?_
        rotate_left
        ·intro w'
         go_simp
         with_reducible rfl
        rotate_left
        ·simp only [sP, i64_w, i32_w]
         rfl
        refine pure_ (i := 1) (N := some 18) (v := ?_) (a' := ?_) (bs 2 8) rfl rfl (any_of HT_.out (by kernel_rfl)) (fun _ _ _ h => h) (Or.inl ⟨by rfl, ?_⟩) ?_ ?_
        rotate_left
        ·intro w'
         go_simp
         with_reducible rfl
        rotate_left
        ·simp only [sP, i64_w, i32_w]
         rfl
        refine pure_ (i := 2) (N := some 19) (v := ?_) (a' := ?_) (bs 3 7) rfl rfl (any_of HT_.out (by kernel_rfl)) (fun _ _ _ h => h) (Or.inl ⟨by rfl, ?_⟩) ?_ ?_
        rotate_left
        ·intro w'
         go_simp
         with_reducible rfl
        rotate_left
        ·simp only [sP, i64_w, i32_w]
         rfl
        refine pure_ (i := 4) (N := some 21) (v := ?_) (a' := ?_) #[true, true, true, false, true, false, false, false, false, false] rfl rfl (any_of HT_.out (by kernel_rfl)) (fun _ _ _ h => h) (Or.inl ⟨by rfl, ?_⟩) ?_ ?_
        rotate_left
        ·intro w'
         go_simp
         with_reducible rfl
        rotate_left
        ·simp only [sP, i64_w, i32_w]
         rfl
        refine pure_ (i := 5) (N := some 22) (v := ?_) (a' := ?_) #[true, true, true, false, true, true, false, false, false, false] rfl rfl (any_of HT_.out (by kernel_rfl)) (fun _ _ _ h => h) (Or.inl ⟨by rfl, ?_⟩) ?_ ?_
        rotate_left
        ·intro w'
         go_simp
         with_reducible rfl
        rotate_left
        ·simp only [sP, i64_w, i32_w]
         rfl
        refine pure_ (i := 6) (N := some 23) (v := ?_) (a' := ?_) #[true, true, true, false, true, true, true, false, false, false] rfl rfl (any_of HT_.out (by kernel_rfl)) (fun _ _ _ h => h) (Or.inl ⟨by rfl, ?_⟩) ?_ ?_
        rotate_left
        ·intro w'
         go_simp
         with_reducible rfl
        rotate_left
        ·simp only [sP, i64_w, i32_w]
         rfl
        refine take_ (i := 3) (N := some 20) (v := ?_) (a' := ?_) (bs 7 3) rfl rfl (take_ofW HT_.out HW_.out (by kernel_rfl)) (fun _ _ _ h => h) (Or.inl ⟨by rfl, ?_⟩) hHeld ?_ ?_
        rotate_left
        ·rintro w' ⟨s0, s1, s2, s3, s4, s5⟩
         go_simp
         with_reducible rfl
        rotate_left
        ·simp only [sP, i64_w, i32_w]
         rfl
        refine take_ (i := 7) (N := some 24) (v := ?_) (a' := ?_) (bs 8 2) rfl rfl (take_ofW HT_.out HW_.out (by kernel_rfl)) (fun _ _ _ h => h) (Or.inl ⟨by rfl, ?_⟩) hHeld ?_ ?_
        rotate_left
        ·rintro w' ⟨s0, s1, s2, s3, s4, s5⟩
         go_simp
         with_reducible rfl
        rotate_left
        ·simp only [sP, i64_w, i32_w]
         rfl
        refine one_ (i := 8) (N := some 25) (bs 9 1) rfl rfl (one_of HT_.out (by kernel_rfl)) (by decide) (fun K hK => ?_)
        refine goes_ Try.func43 (by kernel_rfl) rfl #[.agg #[.int .i64 ((rd_T52 l0 x5_1).f0), .int .i64 ((rd_T52 l0 x5_1).f1), .int .i64 ((rd_T52 l0 x5_1).f2)], .agg #[.int .i64 ((rd_T52 l1 x5_1).f0), .int .i64 ((rd_T52 l1 x5_1).f1), .int .i64 ((rd_T52 l1 x5_1).f2)]] (by rfl) rfl rfl tA ?_
        with_reducible refine (laws_eqComb.calls ((rd_T52 l0 x5_1).f0) ((rd_T52 l0 x5_1).f1) ((rd_T52 l0 x5_1).f2) ((rd_T52 l1 x5_1).f0) ((rd_T52 l1 x5_1).f1) ((rd_T52 l1 x5_1).f2) true _ A7.out).mono ?_
        rintro e w10 ⟨rfl, hb⟩
        refine ⟨_, rfl, ?_⟩
        have n0_ := aK (below_step HB.out hb)
        clear HB
        have HB := n0_
        clear n0_
        (try clear hb)
        (try clear hb2)
        (try clear hk)
        (try clear hi)
        refine hK.out _ _ ⟨(uC HB hw101_0), (uC HB hw101_1), (uC HB hw101_2), (uC HB hw102_0), (uC HB hw102_1), (uC HB hw102_2)⟩ (fun hHeld => ?_)
        clear hK K
        refine norm_ (a' := ?_) ?_ ?_
        rotate_left
        ·show Act.put _ (some 25) _ = _
         simp only [sP, i64_w, i32_w]
         rfl
        refine pure_ (i := 9) (N := some 26) (v := ?_) (a' := ?_) (bs 10 0) rfl rfl (any_of HT_.out (by kernel_rfl)) (fun _ _ _ h => h) (Or.inl ⟨by rfl, ?_⟩) ?_ ?_
        rotate_left
        ·intro w'
         go_simp
         with_reducible rfl
        rotate_left
        ·simp only [sP, i64_w, i32_w]
         rfl
        refine done_ (done_of HT_.out (by kernel_rfl)) ?_
        try go_wp2
        go_roundg k1
        case measure => have := HK1.out; omega
        case rel => exact ⟨(wrap64 (x5_1 + 1)), rS, H', ⟨by have := HK1.out; omega⟩, ⟨pH HB⟩⟩
       ·replace c8 := Bool.eq_false_iff.mpr c8
        subst c8
        rw [if_neg (show ¬ (false = true) by decide)] at H
        obtain rfl := Option.some.inj H
        try go_wp2
        have n0_ := aK (below_drew1 HB.out)
        clear HB
        have HB := n0_
        clear n0_
        have p101 : 0 ≤ (x5_1 : Int) := dA
        have q101 : x5_1 < (l0.length : Int) := dA
        obtain ⟨ad101, e101, hx101_0, hx101_1, hx101_2⟩ := at_T52 HR0.out x5_1 p101 q101
        have hw101_2 := hx101_2
        have hw101_1 := hx101_1
        have hw101_0 := hx101_0
        cases e101
        replace hx101_0 := uC HB hx101_0
        replace hx101_1 := uC HB hx101_1
        replace hx101_2 := uC HB hx101_2
        replace p101 := eq_true p101
        replace q101 := eq_true q101
        have p102 : 0 ≤ (x5_1 : Int) := dA
        have q102 : x5_1 < (l1.length : Int) := dA
        obtain ⟨ad102, e102, hx102_0, hx102_1, hx102_2⟩ := at_T52 HR1.out x5_1 p102 q102
        have hw102_2 := hx102_2
        have hw102_1 := hx102_1
        have hw102_0 := hx102_0
        cases e102
        replace hx102_0 := uC HB hx102_0
        replace hx102_1 := uC HB hx102_1
        replace hx102_2 := uC HB hx102_2
        replace p102 := eq_true p102
        replace q102 := eq_true q102
        refine start_ (n := 10) (S := fun w' => w'.cell? (ad101.add ((x5_1).toNat * 3)) = some (.int .i64 ((rd_T52 l0 x5_1).f0)) ∧ w'.cell? ⟨(ad101.add ((x5_1).toNat * 3)).block, (ad101.add ((x5_1).toNat * 3)).off + 1, none⟩ = some (.int .i64 ((rd_T52 l0 x5_1).f1)) ∧ w'.cell? ⟨(ad101.add ((x5_1).toNat * 3)).block, (ad101.add ((x5_1).toNat * 3)).off + 2, none⟩ = some (.int .i64 ((rd_T52 l0 x5_1).f2)) ∧ w'.cell? (ad102.add ((x5_1).toNat * 3)) = some (.int .i64 ((rd_T52 l1 x5_1).f0)) ∧ w'.cell? ⟨(ad102.add ((x5_1).toNat * 3)).block, (ad102.add ((x5_1).toNat * 3)).off + 1, none⟩ = some (.int .i64 ((rd_T52 l1 x5_1).f1)) ∧ w'.cell? ⟨(ad102.add ((x5_1).toNat * 3)).block, (ad102.add ((x5_1).toNat * 3)).off + 2, none⟩ = some (.int .i64 ((rd_T52 l1 x5_1).f2))) (ds := []) (bs 0 10) (by kernel_rfl) rfl rfl ⟨(uC HB hw101_0), (uC HB hw101_1), (uC HB hw101_2), (uC HB hw102_0), (uC HB hw102_1), (uC HB hw102_2)⟩ (fun hHeld => ?_); refine with_tabW laws_eqCombS.tab6 laws_eqCombS.bits6 (fun HT_ HW_ => ?_)
        generalize wr.drew = w11 at HB hx101_0 hx101_1 hx101_2 hx102_0 hx102_1 hx102_2 hHeld ⊢
        refine pure_ (i := 0) (N := some 17) (v := ?_) (a' := ?_) (bs 1 9) rfl rfl (any_of HT_.out (by kernel_rfl)) (fun _ _ _ h => h) (Or.inl ⟨by rfl, ?_⟩) ?_ ?_
        rotate_left
        ·intro w'
         go_simp
         with_reducible rfl
        rotate_left
        ·simp only [sP, i64_w, i32_w]
         rfl
        refine pure_ (i := 1) (N := some 18) (v := ?_) (a' := ?_) (bs 2 8) rfl rfl (any_of HT_.out (by kernel_rfl)) (fun _ _ _ h => h) (Or.inl ⟨by rfl, ?_⟩) ?_ ?_
        rotate_left
        ·intro w'
         go_simp
         with_reducible rfl
        rotate_left
        ·simp only [sP, i64_w, i32_w]
         rfl
        refine pure_ (i := 2) (N := some 19) (v := ?_) (a' := ?_) (bs 3 7) rfl rfl (any_of HT_.out (by kernel_rfl)) (fun _ _ _ h => h) (Or.inl ⟨by rfl, ?_⟩) ?_ ?_
        rotate_left
        ·intro w'
         go_simp
         with_reducible rfl
        rotate_left
        ·simp only [sP, i64_w, i32_w]
         rfl
        refine pure_ (i := 4) (N := some 21) (v := ?_) (a' := ?_) #[true, true, true, false, true, false, false, false, false, false] rfl rfl (any_of HT_.out (by kernel_rfl)) (fun _ _ _ h => h) (Or.inl ⟨by rfl, ?_⟩) ?_ ?_
        rotate_left
        ·intro w'
         go_simp
         with_reducible rfl
        rotate_left
        ·simp only [sP, i64_w, i32_w]
         rfl
        refine pure_ (i := 5) (N := some 22) (v := ?_) (a' := ?_) #[true, true, true, false, true, true, false, false, false, false] rfl rfl (any_of HT_.out (by kernel_rfl)) (fun _ _ _ h => h) (Or.inl ⟨by rfl, ?_⟩) ?_ ?_
        rotate_left
        ·intro w'
         go_simp
         with_reducible rfl
        rotate_left
        ·simp only [sP, i64_w, i32_w]
         rfl
        refine pure_ (i := 6) (N := some 23) (v := ?_) (a' := ?_) #[true, true, true, false, true, true, true, false, false, false] rfl rfl (any_of HT_.out (by kernel_rfl)) (fun _ _ _ h => h) (Or.inl ⟨by rfl, ?_⟩) ?_ ?_
        rotate_left
        ·intro w'
         go_simp
         with_reducible rfl
        rotate_left
        ·simp only [sP, i64_w, i32_w]
         rfl
        refine take_ (i := 3) (N := some 20) (v := ?_) (a' := ?_) (bs 7 3) rfl rfl (take_ofW HT_.out HW_.out (by kernel_rfl)) (fun _ _ _ h => h) (Or.inl ⟨by rfl, ?_⟩) hHeld ?_ ?_
        rotate_left
        ·rintro w' ⟨s0, s1, s2, s3, s4, s5⟩
         go_simp
         with_reducible rfl
        rotate_left
        ·simp only [sP, i64_w, i32_w]
         rfl
        refine take_ (i := 7) (N := some 24) (v := ?_) (a' := ?_) (bs 8 2) rfl rfl (take_ofW HT_.out HW_.out (by kernel_rfl)) (fun _ _ _ h => h) (Or.inl ⟨by rfl, ?_⟩) hHeld ?_ ?_
        rotate_left
        ·rintro w' ⟨s0, s1, s2, s3, s4, s5⟩
         go_simp
         with_reducible rfl
        rotate_left
        ·simp only [sP, i64_w, i32_w]
         rfl
        refine one_ (i := 8) (N := some 25) (bs 9 1) rfl rfl (one_of HT_.out (by kernel_rfl)) (by decide) (fun K hK => ?_)
        refine goes_ Try.func43 (by kernel_rfl) rfl #[.agg #[.int .i64 ((rd_T52 l0 x5_1).f0), .int .i64 ((rd_T52 l0 x5_1).f1), .int .i64 ((rd_T52 l0 x5_1).f2)], .agg #[.int .i64 ((rd_T52 l1 x5_1).f0), .int .i64 ((rd_T52 l1 x5_1).f1), .int .i64 ((rd_T52 l1 x5_1).f2)]] (by rfl) rfl rfl tA ?_
        with_reducible refine (laws_eqComb.calls ((rd_T52 l0 x5_1).f0) ((rd_T52 l0 x5_1).f1) ((rd_T52 l0 x5_1).f2) ((rd_T52 l1 x5_1).f0) ((rd_T52 l1 x5_1).f1) ((rd_T52 l1 x5_1).f2) false _ A7.out).mono ?_
        rintro e w12 ⟨rfl, hb⟩
        refine ⟨_, rfl, ?_⟩
        have n0_ := aK (below_step HB.out hb)
        clear HB
        have HB := n0_
        clear n0_
        (try clear hb)
        (try clear hb2)
        (try clear hk)
        (try clear hi)
        refine hK.out _ _ ⟨(uC HB hw101_0), (uC HB hw101_1), (uC HB hw101_2), (uC HB hw102_0), (uC HB hw102_1), (uC HB hw102_2)⟩ (fun hHeld => ?_)
        clear hK K
        refine norm_ (a' := ?_) ?_ ?_
        rotate_left
        ·show Act.put _ (some 25) _ = _
         simp only [sP, i64_w, i32_w]
         rfl
        refine pure_ (i := 9) (N := some 26) (v := ?_) (a' := ?_) (bs 10 0) rfl rfl (any_of HT_.out (by kernel_rfl)) (fun _ _ _ h => h) (Or.inl ⟨by rfl, ?_⟩) ?_ ?_
        rotate_left
        ·intro w'
         go_simp
         with_reducible rfl
        rotate_left
        ·simp only [sP, i64_w, i32_w]
         rfl
        refine done_ (done_of HT_.out (by kernel_rfl)) ?_
        try go_wp2
        go_ret
        exact ⟨eW, pH HB⟩
      ·rw [if_neg c6] at H
       exact absurd H (by simp)
     ·rw [if_neg c5] at H
      exact absurd H (by simp)
    ·rw [if_neg c4] at H
     have c4b0 : decide (x5_1 < (l0.length : Int)) = false := decide_eq_false c4
     clear c4
     obtain rfl := Option.some.inj H
     go_wp2
     go_ret
     exact ⟨eW, pH HB⟩
 ·rw [if_neg c3] at H
  have c3b0 : ((l0.length : Int) == (l1.length : Int)) = false := beq_eq_false_iff_ne.mpr c3
  have c3b1 : ((l0.length : Int) != (l1.length : Int)) = true := bne_iff_ne.mpr c3
  have c3b2 : (l0.length == l1.length) = false := by first | simpa using c3 | (simp at c3 ⊢; omega)
  obtain rfl := Option.some.inj H
  go_enter Try.func15, Try.ntmps15
  go_wp2
  go_ret
  exact ⟨eW, pH HB⟩

end Go.Proofs.Ytcjhhdecckcibaa.G

namespace Go.Proofs.Ytcjhhdecckcibaa.G
open Go.RowKit Go.Proofs.YtcjhhdecckcibaaW.PrintWords Go.Proofs.YtcjhhdecckcibaaW.PrintLast Go.Proofs.YtcjhhdecckcibaaW.PrintMore
attribute [local go_sem] max2_int min2_int max_two min_two max_three min_three max_four min_four   -- for this text's walks alone
set_option linter.unusedVariables false
set_option linter.unusedSimpArgs false

def laws_markCombS.l0 : Nat → List (S52) → Int → Int → Option (Int × (List (S52)))
 | 0, _, _, _ => none
 | k + 1, x0, x1, x5 => if x5 < (x0.length : Int) then (if 0 ≤ x5 then ((some (x0.set (x5 : Int).toNat (⟨x1, (rd_T52 x0 x5).f1, (rd_T52 x0 x5).f2⟩ : S52) : List (S52))).bind fun y101 => ((some (y101.set (x5 : Int).toNat (⟨(rd_T52 y101 x5).f0, wrap64 (x1 + 1), (rd_T52 y101 x5).f2⟩ : S52) : List (S52))).bind fun y102 => (laws_markCombS.l0 k (y102.set (x5 : Int).toNat (⟨(rd_T52 y102 x5).f0, (rd_T52 y102 x5).f1, wrap64 ((wrap64 (x1 + 1)) + 1)⟩ : S52)) (wrap64 ((wrap64 ((wrap64 (x1 + 1)) + 1)) + 1)) (wrap64 (x5 + 1))))) else (none)) else (some (x1, x0))
def laws_markCombS.f (k : Nat) (l0 : List (S52)) (a1 : Int) : Option (Int × (List (S52))) := laws_markCombS.l0 k l0 a1 0
set_option maxHeartbeats 8000000 in
set_option maxRecDepth 100000 in
theorem laws_markCombS.calls (k : Nat) (P0_ : Nat → Prop) (u9000_ : Value) (l0 : List (S52)) (a1 : Int) (r1 : Int) (r2 : List (S52)) (w0 w : World) (hB : Below w0.heap.size w0 w) (ho0 : Kd.R k52 52 w w0.heap.size P0_ u9000_ l0) (h : laws_markCombS.f k l0 a1 = some (r1, r2)) :
  Calls Try.prog 29 #[u9000_, .int .i64 a1] w fun e w' => e = .returned (.int .i64 r1) ∧ Kd.R k52 52 w' w0.heap.size (fun k_ => (P0_ k_ ∨ w.heap.size ≤ k_)) u9000_ r2 ∧ Below w0.heap.size w0 w' ∧ Kept w w' (fun k_ => P0_ k_) := by
 have HO0 := aK (show Kd.R k52 52 w w0.heap.size (fun k_ => (P0_ k_ ∨ w.heap.size ≤ k_)) u9000_ l0 from Kd.R_mono ho0 (fun k_ hk => (.inl hk)))
 have HK := aK (Kept.refl w (fun k_ => P0_ k_))
 have HW0 := aK hB.size
 have HB := aK hB
 clear hB
 have H : (laws_markCombS.l0 k l0 a1 0) = some (r1, r2) := h
 clear h
 have H' := aK H
 clear H
 go_enter Try.func29, Try.ntmps29
 go_wp2
 go_loopg [1, 5] k (fun kq v1 v5 w' => ∃ (x0_1 : List (S52)) (x1_1 : Int) (x5_1 : Int), v1 = .int .i64 x1_1 ∧ v5 = .int .i64 x5_1 ∧ Aside0 (laws_markCombS.l0 kq x0_1 x1_1 x5_1 = some (r1, r2)) ∧ Aside0 (kq ≤ k) ∧ Aside0 (Kd.R k52 52 w' w0.heap.size (fun k_ => (P0_ k_ ∨ w.heap.size ≤ k_)) u9000_ x0_1) ∧ Aside0 (Kept w w' (fun k_ => P0_ k_)) ∧ Aside0 (Below w0.heap.size w0 w'))
 case atStart => exact ⟨(l0), (a1), (0), rS, rS, H', ⟨Nat.le_refl _⟩, ⟨by (with_reducible repeat (first | apply Kd.R_alloc | apply Kd.R_drewN | apply Kd.R_drew)); exact HO0.out⟩, ⟨by repeat (first | (with_reducible first | exact HK.out | apply Kept.alloc | apply Kept.drewN | apply Kept.drew) | exact HK.out)⟩, ⟨pH HB⟩⟩
 case round =>
  clear H'
  try clear c2
  try clear p2
  obtain ⟨x0_1, x1_1, x5_1, rfl, rfl, HA, HK1, HO_0, HK, HB⟩ := hrel
  cases gk with
  | zero => exact absurd HA.out (by simp [laws_markCombS.l0])
  | succ k1 =>
   have H := HA.out
   clear HA
   simp only [laws_markCombS.l0] at H
   by_cases c3 : x5_1 < (x0_1.length : Int)
   ·rw [if_pos c3] at H
    have c3b0 : decide (x5_1 < (x0_1.length : Int)) = true := decide_eq_true c3
    clear c3
    by_cases c4 : 0 ≤ x5_1
    ·rw [if_pos c4] at H
     have c4b0 : decide (0 ≤ x5_1) = true := decide_eq_true c4
     clear c4
     obtain ⟨y101, hy101⟩ : ∃ y_ : List (S52), y_ = (x0_1.set (x5_1 : Int).toNat (⟨x1_1, (rd_T52 x0_1 x5_1).f1, (rd_T52 x0_1 x5_1).f2⟩ : S52)) := ⟨_, rfl⟩
     replace H : ((some (y101.set (x5_1 : Int).toNat (⟨(rd_T52 y101 x5_1).f0, wrap64 (x1_1 + 1), (rd_T52 y101 x5_1).f2⟩ : S52) : List (S52))).bind fun y102 => (laws_markCombS.l0 k1 (y102.set (x5_1 : Int).toNat (⟨(rd_T52 y102 x5_1).f0, (rd_T52 y102 x5_1).f1, wrap64 ((wrap64 (x1_1 + 1)) + 1)⟩ : S52)) (wrap64 ((wrap64 ((wrap64 (x1_1 + 1)) + 1)) + 1)) (wrap64 (x5_1 + 1)))) = some (r1, r2) := by first | (rw [hy101]; with_reducible exact H) | (have H2_ := (Option.bind_some _ _).symm.trans H; rw [hy101]; with_reducible exact H2_) | (have H2_ := (Option.bind_some _ _).symm.trans H; with_reducible exact H2_) | with_reducible exact H | (rw [hy101]; exact H) | exact H
     have Ny101 := aK hy101
     clear hy101
     obtain ⟨y102, hy102⟩ : ∃ y_ : List (S52), y_ = (y101.set (x5_1 : Int).toNat (⟨(rd_T52 y101 x5_1).f0, wrap64 (x1_1 + 1), (rd_T52 y101 x5_1).f2⟩ : S52)) := ⟨_, rfl⟩
     replace H : (laws_markCombS.l0 k1 (y102.set (x5_1 : Int).toNat (⟨(rd_T52 y102 x5_1).f0, (rd_T52 y102 x5_1).f1, wrap64 ((wrap64 (x1_1 + 1)) + 1)⟩ : S52)) (wrap64 ((wrap64 ((wrap64 (x1_1 + 1)) + 1)) + 1)) (wrap64 (x5_1 + 1))) = some (r1, r2) := by first | (rw [hy102]; with_reducible exact H) | (have H2_ := (Option.bind_some _ _).symm.trans H; rw [hy102]; with_reducible exact H2_) | (have H2_ := (Option.bind_some _ _).symm.trans H; with_reducible exact H2_) | with_reducible exact H | (rw [hy102]; exact H) | exact H
     have Ny102 := aK hy102
     clear hy102
     obtain ⟨y103, hy103⟩ : ∃ y_ : List (S52), y_ = (y102.set (x5_1 : Int).toNat (⟨(rd_T52 y102 x5_1).f0, (rd_T52 y102 x5_1).f1, wrap64 ((wrap64 (x1_1 + 1)) + 1)⟩ : S52)) := ⟨_, rfl⟩
     replace H : (laws_markCombS.l0 k1 y103 (wrap64 ((wrap64 ((wrap64 (x1_1 + 1)) + 1)) + 1)) (wrap64 (x5_1 + 1))) = some (r1, r2) := by first | (rw [hy103]; with_reducible exact H) | (have H2_ := (Option.bind_some _ _).symm.trans H; rw [hy103]; with_reducible exact H2_) | (have H2_ := (Option.bind_some _ _).symm.trans H; with_reducible exact H2_) | with_reducible exact H | (rw [hy103]; exact H) | exact H
     have Ny103 := aK hy103
     clear hy103
     have H' := aK H
     clear H
     obtain ⟨Ao8, co8, eo8⟩ := Kd.R_slice HO_0.out
     subst eo8
     have p5 : 0 ≤ (x5_1 : Int) := dA
     have q5 : (x5_1 : Int) < ((x0_1.length : Int) : Int) := dA
     obtain ⟨go5, co5, eo5, gb5, gl5, cl5, HG5⟩ := Kd.R_form HO_0.out (by omega)
     (first | cases eo5 | (injection eo5 with ea_ en_ ec_; (first | subst ea_ | (injection ea_ with ea_; subst ea_)); subst ec_; clear en_))
     have GB5 := aK gb5
     have GG5 := aK HG5
     clear gb5 gl5 HG5
     have HMgo5 := aK (show (P0_ go5 ∨ w.heap.size ≤ go5) from (HO_0.out.1 _ rfl))
     obtain ⟨ce5, hcl5, hM5, hcc5, hfr5⟩ := Kd.R_elem HO_0.out z52 (x5_1 : Int) p5 q5
     obtain rfl := k52_openM hM5
     have hx5_0 : wr.cell? ⟨go5, (x5_1 : Int).toNat * 3, none⟩ = some (.int .i64 ((rd_T52 x0_1 x5_1).f0)) := hcc5 0 _ rfl
     have hx5_1 : wr.cell? ⟨go5, (x5_1 : Int).toNat * 3 + 1, none⟩ = some (.int .i64 ((rd_T52 x0_1 x5_1).f1)) := hcc5 1 _ rfl
     have hx5_2 : wr.cell? ⟨go5, (x5_1 : Int).toNat * 3 + 2, none⟩ = some (.int .i64 ((rd_T52 x0_1 x5_1).f2)) := hcc5 2 _ rfl
     have hf5_0 : wr.frozen? ⟨go5, (x5_1 : Int).toNat * 3, none⟩ = false := hfr5 0
     have hf5_1 : wr.frozen? ⟨go5, (x5_1 : Int).toNat * 3 + 1, none⟩ = false := hfr5 1
     have hf5_2 : wr.frozen? ⟨go5, (x5_1 : Int).toNat * 3 + 2, none⟩ = false := hfr5 2
     clear hcl5 hcc5 hfr5 hM5
     replace p5 := eq_true p5
     replace q5 := eq_true q5
     have HX9 := aK (show Kd.R k52 52 wr w0.heap.size (fun k_ => (P0_ k_ ∨ w.heap.size ≤ k_)) (.slice (some ⟨go5, 0, none⟩) x0_1.length co8) x0_1 from HO_0.out)
     obtain ⟨ce9, hcl9, hM9, hcc9, hfr9⟩ := Kd.R_elem HX9.out z52 (x5_1 : Int) (dA) (by have h_ : (x5_1 : Int) < ((x0_1.length : Int) : Int) := dA; first | exact h_ | (have e_ := (Kd.R_reads' HO_0.out).1; omega) | simpa using h_)
     obtain rfl := k52_openM hM9
     have HP9 := Kd.R_seg HX9.out (x5_1 : Int) (dA) (by have h_ : (x5_1 : Int) < ((x0_1.length : Int) : Int) := dA; first | exact h_ | (have e_ := (Kd.R_reads' HO_0.out).1; omega) | simpa using h_) (seg := [.int .i64 x1_1]) (j := 0) hcl9 hcc9 (show 1 ≤ 3 from by decide) (x' := (⟨x1_1, (rd_T52 x0_1 x5_1).f1, (rd_T52 x0_1 x5_1).f2⟩ : S52)) (k52_mkM _ _ _ (⟨x1_1, (rd_T52 x0_1 x5_1).f1, (rd_T52 x0_1 x5_1).f2⟩ : S52) ) (fun _ hk => hk)
     have hx9_0 := hcc9 0 _ rfl
     (try simp only [show (k52).sz = 3 from rfl, Nat.mul_one, Nat.add_zero] at hx9_0)
     have hf9_0 := hfr9 0
     (try simp only [show (k52).sz = 3 from rfl, Nat.mul_one, Nat.add_zero] at hf9_0)
     clear hcl9 hcc9 hfr9 hM9
     go_wp2_with (first | ((with_reducible refine gate_store (t := 3) (p := 16) rfl ?_); refine store_event (t := 3) (p := 16) (v := ?vo_w10) (w1 := (wr.setCell ⟨go5, (x5_1 : Int).toNat * 3, none⟩ (.int .i64 x1_1))) ?hg ?ho ?hn ?hr ?_; (case ho => rfl); (case hg => rfl); (case hn => rfl); (case hr => first | (go_simp; done) | (go_simp; rfl)); intro w10 hw; have hg : wr.grownBy w10 (some go5) := (by rw [hw]; exact HP9.2); have hp_ : Kd.R k52 52 w10 w0.heap.size (fun k_ => (P0_ k_ ∨ w.heap.size ≤ k_)) (.slice (some ⟨go5, 0, none⟩) x0_1.length co8) y101 := (by rw [hw, Ny101.out]; exact HP9.1); clear HP9; have n0_ := aK (hp_); have n1_ := aK ((by rw [hw]; exact below_set (HB.out) GB5.out : Below w0.heap.size w0 w10)); have n2_ := aK (Kept.of_grown (S := (fun k_ => P0_ k_)) hg (by repeat (first | (with_reducible first | exact HK.out | apply Kept.alloc | apply Kept.drewN | apply Kept.drew) | exact HK.out)) (fun k_ e_ => (HO_0.out.1 k_ e_))); clear HO_0; have HO_0 := n0_; clear n0_; clear HB; have HB := n1_; clear n1_; clear HK; have HK := n2_; clear n2_; clear hg hw hp_; have p6 : 0 ≤ (x5_1 : Int) := dA; have q6 : (x5_1 : Int) < ((x0_1.length : Int) : Int) := dA; obtain ⟨ce6, hcl6, hM6, hcc6, hfr6⟩ := Kd.R_elem HO_0.out z52 (x5_1 : Int) p6 q6; obtain rfl := k52_openM hM6; have hx6_0 : w10.cell? ⟨go5, (x5_1 : Int).toNat * 3, none⟩ = some (.int .i64 ((rd_T52 y101 x5_1).f0)) := hcc6 0 _ rfl; have hx6_1 : w10.cell? ⟨go5, (x5_1 : Int).toNat * 3 + 1, none⟩ = some (.int .i64 ((rd_T52 y101 x5_1).f1)) := hcc6 1 _ rfl; have hx6_2 : w10.cell? ⟨go5, (x5_1 : Int).toNat * 3 + 2, none⟩ = some (.int .i64 ((rd_T52 y101 x5_1).f2)) := hcc6 2 _ rfl; have hf6_0 : w10.frozen? ⟨go5, (x5_1 : Int).toNat * 3, none⟩ = false := hfr6 0; have hf6_1 : w10.frozen? ⟨go5, (x5_1 : Int).toNat * 3 + 1, none⟩ = false := hfr6 1; have hf6_2 : w10.frozen? ⟨go5, (x5_1 : Int).toNat * 3 + 2, none⟩ = false := hfr6 2; clear hcl6 hcc6 hfr6 hM6; replace p6 := eq_true p6; replace q6 := eq_true q6; have HX11 := aK (show Kd.R k52 52 w10 w0.heap.size (fun k_ => (P0_ k_ ∨ w.heap.size ≤ k_)) (.slice (some ⟨go5, 0, none⟩) x0_1.length co8) y101 from HO_0.out); obtain ⟨ce11, hcl11, hM11, hcc11, hfr11⟩ := Kd.R_elem HX11.out z52 (x5_1 : Int) (dA) (by have h_ : (x5_1 : Int) < ((x0_1.length : Int) : Int) := dA; first | exact h_ | (have e_ := (Kd.R_reads' HO_0.out).1; omega) | simpa using h_); obtain rfl := k52_openM hM11; have HP11 := Kd.R_seg HX11.out (x5_1 : Int) (dA) (by have h_ : (x5_1 : Int) < ((x0_1.length : Int) : Int) := dA; first | exact h_ | (have e_ := (Kd.R_reads' HO_0.out).1; omega) | simpa using h_) (seg := [.int .i64 (wrap64 (x1_1 + 1))]) (j := 1) hcl11 hcc11 (show 2 ≤ 3 from by decide) (x' := (⟨(rd_T52 y101 x5_1).f0, wrap64 (x1_1 + 1), (rd_T52 y101 x5_1).f2⟩ : S52)) (k52_mkM _ _ _ (⟨(rd_T52 y101 x5_1).f0, wrap64 (x1_1 + 1), (rd_T52 y101 x5_1).f2⟩ : S52) ) (fun _ hk => hk); have hx11_1 := hcc11 1 _ rfl; (try simp only [show (k52).sz = 3 from rfl, Nat.mul_one, Nat.add_zero] at hx11_1); have hf11_1 := hfr11 1; (try simp only [show (k52).sz = 3 from rfl, Nat.mul_one, Nat.add_zero] at hf11_1); clear hcl11 hcc11 hfr11 hM11) | ((with_reducible refine gate_store (t := 3) (p := 23) rfl ?_); refine store_event (t := 3) (p := 23) (v := ?vo_w12) (w1 := (w10.setCell ⟨go5, (x5_1 : Int).toNat * 3 + 1, none⟩ (.int .i64 (wrap64 (x1_1 + 1))))) ?hg ?ho ?hn ?hr ?_; (case ho => rfl); (case hg => rfl); (case hn => rfl); (case hr => first | (go_simp; done) | (go_simp; rfl)); intro w12 hw; have hg : w10.grownBy w12 (some go5) := (by rw [hw]; exact HP11.2); have hp_ : Kd.R k52 52 w12 w0.heap.size (fun k_ => (P0_ k_ ∨ w.heap.size ≤ k_)) (.slice (some ⟨go5, 0, none⟩) x0_1.length co8) y102 := (by rw [hw, Ny102.out]; exact HP11.1); clear HP11; have n0_ := aK (hp_); have n1_ := aK ((by rw [hw]; exact below_set (HB.out) GB5.out : Below w0.heap.size w0 w12)); have n2_ := aK (Kept.of_grown (S := (fun k_ => P0_ k_)) hg (by repeat (first | (with_reducible first | exact HK.out | apply Kept.alloc | apply Kept.drewN | apply Kept.drew) | exact HK.out)) (fun k_ e_ => (HO_0.out.1 k_ e_))); clear HO_0; have HO_0 := n0_; clear n0_; clear HB; have HB := n1_; clear n1_; clear HK; have HK := n2_; clear n2_; clear hg hw hp_; have p7 : 0 ≤ (x5_1 : Int) := dA; have q7 : (x5_1 : Int) < ((x0_1.length : Int) : Int) := dA; obtain ⟨ce7, hcl7, hM7, hcc7, hfr7⟩ := Kd.R_elem HO_0.out z52 (x5_1 : Int) p7 q7; obtain rfl := k52_openM hM7; have hx7_0 : w12.cell? ⟨go5, (x5_1 : Int).toNat * 3, none⟩ = some (.int .i64 ((rd_T52 y102 x5_1).f0)) := hcc7 0 _ rfl; have hx7_1 : w12.cell? ⟨go5, (x5_1 : Int).toNat * 3 + 1, none⟩ = some (.int .i64 ((rd_T52 y102 x5_1).f1)) := hcc7 1 _ rfl; have hx7_2 : w12.cell? ⟨go5, (x5_1 : Int).toNat * 3 + 2, none⟩ = some (.int .i64 ((rd_T52 y102 x5_1).f2)) := hcc7 2 _ rfl; have hf7_0 : w12.frozen? ⟨go5, (x5_1 : Int).toNat * 3, none⟩ = false := hfr7 0; have hf7_1 : w12.frozen? ⟨go5, (x5_1 : Int).toNat * 3 + 1, none⟩ = false := hfr7 1; have hf7_2 : w12.frozen? ⟨go5, (x5_1 : Int).toNat * 3 + 2, none⟩ = false := hfr7 2; clear hcl7 hcc7 hfr7 hM7; replace p7 := eq_true p7; replace q7 := eq_true q7; have HX13 := aK (show Kd.R k52 52 w12 w0.heap.size (fun k_ => (P0_ k_ ∨ w.heap.size ≤ k_)) (.slice (some ⟨go5, 0, none⟩) x0_1.length co8) y102 from HO_0.out); obtain ⟨ce13, hcl13, hM13, hcc13, hfr13⟩ := Kd.R_elem HX13.out z52 (x5_1 : Int) (dA) (by have h_ : (x5_1 : Int) < ((x0_1.length : Int) : Int) := dA; first | exact h_ | (have e_ := (Kd.R_reads' HO_0.out).1; omega) | simpa using h_); obtain rfl := k52_openM hM13; have HP13 := Kd.R_seg HX13.out (x5_1 : Int) (dA) (by have h_ : (x5_1 : Int) < ((x0_1.length : Int) : Int) := dA; first | exact h_ | (have e_ := (Kd.R_reads' HO_0.out).1; omega) | simpa using h_) (seg := [.int .i64 (wrap64 ((wrap64 (x1_1 + 1)) + 1))]) (j := 2) hcl13 hcc13 (show 3 ≤ 3 from by decide) (x' := (⟨(rd_T52 y102 x5_1).f0, (rd_T52 y102 x5_1).f1, wrap64 ((wrap64 (x1_1 + 1)) + 1)⟩ : S52)) (k52_mkM _ _ _ (⟨(rd_T52 y102 x5_1).f0, (rd_T52 y102 x5_1).f1, wrap64 ((wrap64 (x1_1 + 1)) + 1)⟩ : S52) ) (fun _ hk => hk); have hx13_2 := hcc13 2 _ rfl; (try simp only [show (k52).sz = 3 from rfl, Nat.mul_one, Nat.add_zero] at hx13_2); have hf13_2 := hfr13 2; (try simp only [show (k52).sz = 3 from rfl, Nat.mul_one, Nat.add_zero] at hf13_2); clear hcl13 hcc13 hfr13 hM13) | ((with_reducible refine gate_store (t := 3) (p := 30) rfl ?_); refine store_event (t := 3) (p := 30) (v := ?vo_w14) (w1 := (w12.setCell ⟨go5, (x5_1 : Int).toNat * 3 + 2, none⟩ (.int .i64 (wrap64 ((wrap64 (x1_1 + 1)) + 1))))) ?hg ?ho ?hn ?hr ?_; (case ho => rfl); (case hg => rfl); (case hn => rfl); (case hr => first | (go_simp; done) | (go_simp; rfl)); intro w14 hw; have hg : w12.grownBy w14 (some go5) := (by rw [hw]; exact HP13.2); have hp_ : Kd.R k52 52 w14 w0.heap.size (fun k_ => (P0_ k_ ∨ w.heap.size ≤ k_)) (.slice (some ⟨go5, 0, none⟩) x0_1.length co8) y103 := (by rw [hw, Ny103.out]; exact HP13.1); clear HP13; have n0_ := aK (hp_); have n1_ := aK ((by rw [hw]; exact below_set (HB.out) GB5.out : Below w0.heap.size w0 w14)); have n2_ := aK (Kept.of_grown (S := (fun k_ => P0_ k_)) hg (by repeat (first | (with_reducible first | exact HK.out | apply Kept.alloc | apply Kept.drewN | apply Kept.drew) | exact HK.out)) (fun k_ e_ => (HO_0.out.1 k_ e_))); clear HO_0; have HO_0 := n0_; clear n0_; clear HB; have HB := n1_; clear n1_; clear HK; have HK := n2_; clear n2_; clear hg hw hp_))
     go_roundg k1
     case measure => have := HK1.out; omega
     case rel => exact ⟨(y103), (wrap64 ((wrap64 ((wrap64 (x1_1 + 1)) + 1)) + 1)), (wrap64 (x5_1 + 1)), rS, rS, H', ⟨by have := HK1.out; omega⟩, ⟨by (with_reducible repeat (first | apply Kd.R_alloc | apply Kd.R_drewN | apply Kd.R_drew)); exact HO_0.out⟩, ⟨by repeat (first | (with_reducible first | exact HK.out | apply Kept.alloc | apply Kept.drewN | apply Kept.drew) | exact HK.out)⟩, ⟨pH HB⟩⟩
    ·rw [if_neg c4] at H
     exact absurd H (by simp)
   ·rw [if_neg c3] at H
    have c3b0 : decide (x5_1 < (x0_1.length : Int)) = false := decide_eq_false c3
    clear c3
    simp only [Option.some.injEq, Prod.mk.injEq] at H
    obtain ⟨rfl, rfl⟩ := H
    obtain ⟨Ao15, co15, eo15⟩ := Kd.R_slice HO_0.out
    subst eo15
    go_wp2
    go_ret
    exact ⟨eW, by (with_reducible repeat (first | apply Kd.R_alloc | apply Kd.R_drewN | apply Kd.R_drew)); exact HO_0.out, pH HB, by repeat (first | (with_reducible first | exact HK.out | apply Kept.alloc | apply Kept.drewN | apply Kept.drew) | exact HK.out)⟩

end Go.Proofs.Ytcjhhdecckcibaa.G

namespace Go.Proofs.Ytcjhhdecckcibaa.G
open Go.RowKit Go.Proofs.YtcjhhdecckcibaaW.PrintWords Go.Proofs.YtcjhhdecckcibaaW.PrintLast Go.Proofs.YtcjhhdecckcibaaW.PrintMore
attribute [local go_sem] max2_int min2_int max_two min_two max_three min_three max_four min_four   -- for this text's walks alone
set_option linter.unusedVariables false
set_option linter.unusedSimpArgs false

def laws_heldCombS.l0 : Nat → List (S52) → Int → Int → Option (Int)
  | 0, _, _, _ => none
  | k + 1, x0, x1, x5 => if x5 < (x0.length : Int) then (if 0 ≤ x5 then (if ((rd_T52 x0 x5).f0) = x1 then (if ((rd_T52 x0 x5).f1) = (wrap64 (x1 + 1)) then (if ((rd_T52 x0 x5).f2) = (wrap64 ((wrap64 (x1 + 1)) + 1)) then (laws_heldCombS.l0 k x0 (wrap64 ((wrap64 ((wrap64 (x1 + 1)) + 1)) + 1)) (wrap64 (x5 + 1))) else (some (-1))) else (some (-1))) else (some (-1))) else (none)) else (some x1)
def laws_heldCombS.f (k : Nat) (l0 : List (S52)) (a1 : Int) : Option (Int) := laws_heldCombS.l0 k l0 a1 0
set_option maxHeartbeats 8000000 in
set_option maxRecDepth 100000 in
theorem laws_heldCombS.calls (k : Nat) (A0 : Option Addr) (c0 : Nat) (l0 : List (S52)) (a1 : Int) (r : Int) (w : World) (hr0 : Kd.C k52 w A0 l0.length l0) (hc0 : l0.length ≤ c0) (h : laws_heldCombS.f k l0 a1 = some r) :
    Calls Try.prog 30 #[.slice A0 l0.length c0, .int .i64 a1] w fun e w' => e = .returned (.int .i64 r) ∧ Drawn0 w w' := by
  have HR0 := Aside0.mk hr0
  have HC0 := Aside0.mk hc0
  clear hr0 hc0
  have H : (laws_heldCombS.l0 k l0 a1 0) = some r := h
  clear h
  have H' := Aside0.mk H
  clear H
  go_enter Try.func30, Try.ntmps30
  go_wp2
  go_loopg [1, 5] k (fun kq v1 v5 w' => ∃ (x1_1 : Int) (x5_1 : Int), v1 = .int .i64 x1_1 ∧ v5 = .int .i64 x5_1 ∧ Aside0 (laws_heldCombS.l0 kq l0 x1_1 x5_1 = some r) ∧ Aside0 (kq ≤ k) ∧ Drawn0 w w')
  case atStart => exact ⟨(a1), (0), (by first | rfl | (simp; done) | (simp [*]; done)), (by first | rfl | (simp; done) | (simp [*]; done)), H', ⟨Nat.le_refl _⟩, by repeat (first | exact Drawn0.refl _ | apply Drawn0.step)⟩
  case round =>
    clear H'
    try clear p2
    obtain ⟨x1_1, x5_1, rfl, rfl, HA, HK1, ⟨m1, rfl⟩⟩ := hrel
    cases gk with
    | zero => exact absurd HA.out (by simp [laws_heldCombS.l0])
    | succ k1 =>
      have H := HA.out
      clear HA
      simp only [laws_heldCombS.l0] at H
      by_cases c3 : x5_1 < (l0.length : Int)
      · rw [if_pos c3] at H
        have c3b0 : decide (x5_1 < (l0.length : Int)) = true := decide_eq_true c3
        clear c3
        by_cases c4 : 0 ≤ x5_1
        · rw [if_pos c4] at H
          have c4b0 : decide (0 ≤ x5_1) = true := decide_eq_true c4
          clear c4
          by_cases c5 : ((rd_T52 l0 x5_1).f0) = x1_1
          · rw [if_pos c5] at H
            have c5b0 : (((rd_T52 l0 x5_1).f0) == x1_1) = true := beq_iff_eq.mpr c5
            have c5b1 : (((rd_T52 l0 x5_1).f0) != x1_1) = false := bne_eq_false_iff_eq.mpr c5
            clear c5
            by_cases c6 : ((rd_T52 l0 x5_1).f1) = (wrap64 (x1_1 + 1))
            · rw [if_pos c6] at H
              have c6b0 : (((rd_T52 l0 x5_1).f1) == (wrap64 (x1_1 + 1))) = true := beq_iff_eq.mpr c6
              have c6b1 : (((rd_T52 l0 x5_1).f1) != (wrap64 (x1_1 + 1))) = false := bne_eq_false_iff_eq.mpr c6
              clear c6
              by_cases c7 : ((rd_T52 l0 x5_1).f2) = (wrap64 ((wrap64 (x1_1 + 1)) + 1))
              · rw [if_pos c7] at H
                have c7b0 : (((rd_T52 l0 x5_1).f2) == (wrap64 ((wrap64 (x1_1 + 1)) + 1))) = true := beq_iff_eq.mpr c7
                have c7b1 : (((rd_T52 l0 x5_1).f2) != (wrap64 ((wrap64 (x1_1 + 1)) + 1))) = false := bne_eq_false_iff_eq.mpr c7
                clear c7
                have H' := Aside0.mk H
                clear H
                have p101 : 0 ≤ (x5_1 : Int) := of_decide_eq_true (by first | (with_reducible assumption) | assumption)
                have q101 : x5_1 < (l0.length : Int) := of_decide_eq_true (by first | (with_reducible assumption) | assumption)
                obtain ⟨ad101, e101, hx101_0, hx101_1, hx101_2⟩ := at_T52 HR0.out x5_1 p101 q101
                cases e101
                replace p101 := eq_true p101
                replace q101 := eq_true q101
                have p102 : 0 ≤ (x5_1 : Int) := of_decide_eq_true (by first | (with_reducible assumption) | assumption)
                have q102 : x5_1 < (l0.length : Int) := of_decide_eq_true (by first | (with_reducible assumption) | assumption)
                obtain ⟨ad102, e102, hx102_0, hx102_1, hx102_2⟩ := at_T52 HR0.out x5_1 p102 q102
                obtain rfl : ad101 = ad102 := (by injection e102)
                replace p102 := eq_true p102
                replace q102 := eq_true q102
                have p103 : 0 ≤ (x5_1 : Int) := of_decide_eq_true (by first | (with_reducible assumption) | assumption)
                have q103 : x5_1 < (l0.length : Int) := of_decide_eq_true (by first | (with_reducible assumption) | assumption)
                obtain ⟨ad103, e103, hx103_0, hx103_1, hx103_2⟩ := at_T52 HR0.out x5_1 p103 q103
                obtain rfl : ad101 = ad103 := (by injection e103)
                replace p103 := eq_true p103
                replace q103 := eq_true q103
                go_wp2
                go_roundg k1
                case measure => have := HK1.out; omega
                case rel => exact ⟨(wrap64 ((wrap64 ((wrap64 (x1_1 + 1)) + 1)) + 1)), (wrap64 (x5_1 + 1)), (by first | rfl | (simp; done) | (simp [*]; done)), (by first | rfl | (simp; done) | (simp [*]; done)), H', ⟨by have := HK1.out; omega⟩, by repeat (first | exact Drawn0.refl _ | apply Drawn0.step)⟩
              · rw [if_neg c7] at H
                have c7b0 : (((rd_T52 l0 x5_1).f2) == (wrap64 ((wrap64 (x1_1 + 1)) + 1))) = false := beq_eq_false_iff_ne.mpr c7
                have c7b1 : (((rd_T52 l0 x5_1).f2) != (wrap64 ((wrap64 (x1_1 + 1)) + 1))) = true := bne_iff_ne.mpr c7
                obtain rfl := Option.some.inj H
                have p101 : 0 ≤ (x5_1 : Int) := of_decide_eq_true (by first | (with_reducible assumption) | assumption)
                have q101 : x5_1 < (l0.length : Int) := of_decide_eq_true (by first | (with_reducible assumption) | assumption)
                obtain ⟨ad101, e101, hx101_0, hx101_1, hx101_2⟩ := at_T52 HR0.out x5_1 p101 q101
                cases e101
                replace p101 := eq_true p101
                replace q101 := eq_true q101
                have p102 : 0 ≤ (x5_1 : Int) := of_decide_eq_true (by first | (with_reducible assumption) | assumption)
                have q102 : x5_1 < (l0.length : Int) := of_decide_eq_true (by first | (with_reducible assumption) | assumption)
                obtain ⟨ad102, e102, hx102_0, hx102_1, hx102_2⟩ := at_T52 HR0.out x5_1 p102 q102
                obtain rfl : ad101 = ad102 := (by injection e102)
                replace p102 := eq_true p102
                replace q102 := eq_true q102
                have p103 : 0 ≤ (x5_1 : Int) := of_decide_eq_true (by first | (with_reducible assumption) | assumption)
                have q103 : x5_1 < (l0.length : Int) := of_decide_eq_true (by first | (with_reducible assumption) | assumption)
                obtain ⟨ad103, e103, hx103_0, hx103_1, hx103_2⟩ := at_T52 HR0.out x5_1 p103 q103
                obtain rfl : ad101 = ad103 := (by injection e103)
                replace p103 := eq_true p103
                replace q103 := eq_true q103
                go_wp2
                go_ret
                exact ⟨by first | rfl | (simp; done) | (simp [*]; done), by repeat (first | exact Drawn0.refl _ | apply Drawn0.step)⟩
            · rw [if_neg c6] at H
              have c6b0 : (((rd_T52 l0 x5_1).f1) == (wrap64 (x1_1 + 1))) = false := beq_eq_false_iff_ne.mpr c6
              have c6b1 : (((rd_T52 l0 x5_1).f1) != (wrap64 (x1_1 + 1))) = true := bne_iff_ne.mpr c6
              obtain rfl := Option.some.inj H
              have p101 : 0 ≤ (x5_1 : Int) := of_decide_eq_true (by first | (with_reducible assumption) | assumption)
              have q101 : x5_1 < (l0.length : Int) := of_decide_eq_true (by first | (with_reducible assumption) | assumption)
              obtain ⟨ad101, e101, hx101_0, hx101_1, hx101_2⟩ := at_T52 HR0.out x5_1 p101 q101
              cases e101
              replace p101 := eq_true p101
              replace q101 := eq_true q101
              have p102 : 0 ≤ (x5_1 : Int) := of_decide_eq_true (by first | (with_reducible assumption) | assumption)
              have q102 : x5_1 < (l0.length : Int) := of_decide_eq_true (by first | (with_reducible assumption) | assumption)
              obtain ⟨ad102, e102, hx102_0, hx102_1, hx102_2⟩ := at_T52 HR0.out x5_1 p102 q102
              obtain rfl : ad101 = ad102 := (by injection e102)
              replace p102 := eq_true p102
              replace q102 := eq_true q102
              go_wp2
              go_ret
              exact ⟨by first | rfl | (simp; done) | (simp [*]; done), by repeat (first | exact Drawn0.refl _ | apply Drawn0.step)⟩
          · rw [if_neg c5] at H
            have c5b0 : (((rd_T52 l0 x5_1).f0) == x1_1) = false := beq_eq_false_iff_ne.mpr c5
            have c5b1 : (((rd_T52 l0 x5_1).f0) != x1_1) = true := bne_iff_ne.mpr c5
            obtain rfl := Option.some.inj H
            have p101 : 0 ≤ (x5_1 : Int) := of_decide_eq_true (by first | (with_reducible assumption) | assumption)
            have q101 : x5_1 < (l0.length : Int) := of_decide_eq_true (by first | (with_reducible assumption) | assumption)
            obtain ⟨ad101, e101, hx101_0, hx101_1, hx101_2⟩ := at_T52 HR0.out x5_1 p101 q101
            cases e101
            replace p101 := eq_true p101
            replace q101 := eq_true q101
            go_wp2
            go_ret
            exact ⟨by first | rfl | (simp; done) | (simp [*]; done), by repeat (first | exact Drawn0.refl _ | apply Drawn0.step)⟩
        · rw [if_neg c4] at H
          exact absurd H (by simp)
      · rw [if_neg c3] at H
        have c3b0 : decide (x5_1 < (l0.length : Int)) = false := decide_eq_false c3
        clear c3
        obtain rfl := Option.some.inj H
        go_wp2
        go_ret
        exact ⟨by first | rfl | (simp; done) | (simp [*]; done), by repeat (first | exact Drawn0.refl _ | apply Drawn0.step)⟩

end Go.Proofs.Ytcjhhdecckcibaa.G

namespace Go.Proofs.Ytcjhhdecckcibaa.G
open Go.RowKit Go.Proofs.YtcjhhdecckcibaaW.PrintWords Go.Proofs.YtcjhhdecckcibaaW.PrintLast Go.Proofs.YtcjhhdecckcibaaW.PrintMore
attribute [local go_sem] max2_int min2_int max_two min_two max_three min_three max_four min_four   -- for this text's walks alone
set_option linter.unusedVariables false
set_option linter.unusedSimpArgs false

def spec_l1In.f (a0 : Int) (a1 : Int) (a2 : Int) : Option (Bool) := if a0 ≥ a1 then (some (decide (a0 ≤ a2))) else (some false)
set_option maxHeartbeats 8000000 in
set_option maxRecDepth 100000 in
theorem spec_l1In.calls (a0 : Int) (a1 : Int) (a2 : Int) (r : Bool) (w : World) (h : spec_l1In.f a0 a1 a2 = some r) :
    Calls Try.prog 39 #[.int .i64 a0, .int .i64 a1, .int .i64 a2] w fun e w' => e = .returned (.bool r) ∧ Drawn0 w w' := by
  have H : (if a0 ≥ a1 then (some (decide (a0 ≤ a2))) else (some false)) = some r := h
  clear h
  by_cases c4 : a0 ≥ a1
  · rw [if_pos c4] at H
    have c4b0 : decide (a1 ≤ a0) = true := decide_eq_true c4
    clear c4
    obtain rfl := Option.some.inj H
    go_enter Try.func39, Try.ntmps39
    go_wp2
    go_ret
    exact ⟨by first | rfl | (simp; done) | (simp [*]; done), by repeat (first | exact Drawn0.refl _ | apply Drawn0.step)⟩
  · rw [if_neg c4] at H
    have c4b0 : decide (a1 ≤ a0) = false := decide_eq_false c4
    clear c4
    obtain rfl := Option.some.inj H
    go_enter Try.func39, Try.ntmps39
    go_wp2
    go_ret
    exact ⟨by first | rfl | (simp; done) | (simp [*]; done), by repeat (first | exact Drawn0.refl _ | apply Drawn0.step)⟩

end Go.Proofs.Ytcjhhdecckcibaa.G

namespace Go.Proofs.Ytcjhhdecckcibaa.G
open Go.RowKit Go.Proofs.YtcjhhdecckcibaaW.PrintWords Go.Proofs.YtcjhhdecckcibaaW.PrintLast Go.Proofs.YtcjhhdecckcibaaW.PrintMore
attribute [local go_sem] max2_int min2_int max_two min_two max_three min_three max_four min_four   -- for this text's walks alone
set_option linter.unusedVariables false
set_option linter.unusedSimpArgs false

def spec_ldParts.l0 : Nat → List (S52) → Int → List Int → Int → Option (List Int)
  | 0, _, _, _, _ => none
  | k + 1, x0, x1, x5, x6 => if x6 < (x0.length : Int) then (if 0 ≤ x6 then (if ((rd_T52 x0 x6).f2) = x1 then (if x5.length < 17592186044416 then (spec_ldParts.l0 k x0 x1 (x5 ++ [x6]) (wrap64 (x6 + 1))) else (none)) else (spec_ldParts.l0 k x0 x1 x5 (wrap64 (x6 + 1)))) else (none)) else (some x5)
def spec_ldParts.f (k : Nat) (l0 : List (S52)) (a1 : Int) : Option (List Int) := spec_ldParts.l0 k l0 a1 ([] : List Int) (wrap64 (a1 + 1))
set_option maxHeartbeats 8000000 in
set_option maxRecDepth 100000 in
theorem spec_ldParts.calls (k : Nat) (A0 : Option Addr) (c0 : Nat) (l0 : List (S52)) (a1 : Int) (r : List Int) (w : World) (hr0 : Kd.C k52 w A0 l0.length l0) (hc0 : l0.length ≤ c0) (h : spec_ldParts.f k l0 a1 = some r) :
    Calls Try.prog 40 #[.slice A0 l0.length c0, .int .i64 a1] w fun e w' => ∃ v0_ : Value, e = .returned (v0_) ∧ Kd.R (Kd.int .i64) 3 w' w.heap.size (fun _ => True) v0_ r ∧ Below w.heap.size w w' := by
  have HR0 := Aside0.mk hr0
  have HC0 := Aside0.mk hc0
  clear hr0 hc0
  have HB := Aside0.mk (Below.refl w.heap.size w)
  have H : (spec_ldParts.l0 k l0 a1 ([] : List Int) (wrap64 (a1 + 1))) = some r := h
  clear h
  have H' := Aside0.mk H
  clear H
  go_enter Try.func40, Try.ntmps40
  go_wp2
  go_loopg [5, 6] k (fun kq v5 v6 w' => ∃ (x5_1 : List Int) (x6_1 : Int), v6 = .int .i64 x6_1 ∧ Aside0 (spec_ldParts.l0 kq l0 a1 x5_1 x6_1 = some r) ∧ Aside0 (kq ≤ k) ∧ Aside0 (Kd.R (Kd.int .i64) 3 w' w.heap.size (fun _ => True) v5 x5_1) ∧ Aside0 (Below w.heap.size w w'))
  case atStart => exact ⟨(([] : List Int)), (wrap64 (a1 + 1)), (by first | rfl | (simp; done) | (simp [*]; done)), H', ⟨Nat.le_refl _⟩, ⟨by first | exact Kd.R_nil _ _ _ _ _ | exact Kd.N_nil _ _ _ _ _ | exact Kd.V_nil _ _ _ _ _ | exact Kd.Q_nil _ _ _ _ _ | exact Kd.S_nil _ _ _ _ _⟩, ⟨by repeat (first | (with_reducible first | exact HB.out | apply below_alloc | apply pw_below_drewN | apply below_drew1) | exact HB.out)⟩⟩
  case round =>
    clear H'
    try clear p2
    obtain ⟨x5_1, x6_1, rfl, HA, HK1, HO_5, HB⟩ := hrel
    cases gk with
    | zero => exact absurd HA.out (by simp [spec_ldParts.l0])
    | succ k1 =>
      have H := HA.out
      clear HA
      simp only [spec_ldParts.l0] at H
      by_cases c3 : x6_1 < (l0.length : Int)
      · rw [if_pos c3] at H
        have c3b0 : decide (x6_1 < (l0.length : Int)) = true := decide_eq_true c3
        clear c3
        by_cases c4 : 0 ≤ x6_1
        · rw [if_pos c4] at H
          have c4b0 : decide (0 ≤ x6_1) = true := decide_eq_true c4
          clear c4
          by_cases c5 : ((rd_T52 l0 x6_1).f2) = a1
          · rw [if_pos c5] at H
            have c5b0 : (((rd_T52 l0 x6_1).f2) == a1) = true := beq_iff_eq.mpr c5
            have c5b1 : (((rd_T52 l0 x6_1).f2) != a1) = false := bne_eq_false_iff_eq.mpr c5
            clear c5
            by_cases c6 : x5_1.length < 17592186044416
            · rw [if_pos c6] at H
              have LMc6 := Aside0.mk c6
              clear c6
              obtain ⟨y102, hy102⟩ : ∃ y_ : List Int, y_ = (x5_1 ++ [x6_1]) := ⟨_, rfl⟩
              replace H : (spec_ldParts.l0 k1 l0 a1 y102 (wrap64 (x6_1 + 1))) = some r := by first | (rw [hy102]; with_reducible exact H) | (have H2_ := (Option.bind_some _ _).symm.trans H; rw [hy102]; with_reducible exact H2_) | (have H2_ := (Option.bind_some _ _).symm.trans H; with_reducible exact H2_) | with_reducible exact H | (rw [hy102]; exact H) | exact H
              have Ny102 := Aside0.mk hy102
              clear hy102
              have H' := Aside0.mk H
              clear H
              have p101 : 0 ≤ (x6_1 : Int) := of_decide_eq_true (by first | (with_reducible assumption) | assumption)
              have q101 : x6_1 < (l0.length : Int) := of_decide_eq_true (by first | (with_reducible assumption) | assumption)
              obtain ⟨ad101, e101, hx101_0, hx101_1, hx101_2⟩ := at_T52 HR0.out x6_1 p101 q101
              cases e101
              replace hx101_0 := (HB.out.cell (World.block_lt_of_cell? w _ hx101_0)).trans hx101_0
              replace hx101_1 := (HB.out.cell (World.block_lt_of_cell? w _ hx101_1)).trans hx101_1
              replace hx101_2 := (HB.out.cell (World.block_lt_of_cell? w _ hx101_2)).trans hx101_2
              replace p101 := eq_true p101
              replace q101 := eq_true q101
              go_wp2_with (first | ((with_reducible refine gate_builtin (b := .append) (xs := #[.tmp 22, .tmp 24]) rfl ?_); at_builtin; refine Kd.R_append (Kd.int .i64) (w0 := w) w.heap.size rfl (.tmp 22) (.tmp 24) 36 3 (.int .i64 0) 8 rfl Try.underlying36 info3 rfl (by decide) (by omega) u5 x5_1 x6_1 [.int .i64 x6_1] (fun _ => True) (fun _ => False) rfl rfl ?aP (fun _ hk => hk.elim) ?aF ?aO ?aB ?aS ?aL ?_; (case aP => exact rfl); (case aB => exact (by repeat (first | (with_reducible first | exact HB.out | apply below_alloc | apply pw_below_drewN | apply below_drew1) | exact HB.out))); (case aF => exact (fun _ _ => trivial)); (case aO => exact (by (with_reducible repeat (first | apply Kd.R_alloc | apply Kd.R_drewN | apply Kd.R_drew)); exact HO_5.out)); (case aS => exact (below_size (by repeat (first | (with_reducible first | exact HB.out | apply below_alloc | apply pw_below_drewN | apply below_drew1) | exact HB.out)))); (case aL => have := LMc6.out; omega); intro v103 w7 ho hb hg hat; rw [← Ny102.out] at ho; have n0_ := Aside0.mk (hb); have n1_ := Aside0.mk (ho); clear HB; clear HO_5; have HB := n0_; have HO104 := n1_; clear n0_ n1_; clear ho hb hg hat))
              go_roundg k1
              case measure => have := HK1.out; omega
              case rel => exact ⟨(y102), (wrap64 (x6_1 + 1)), (by first | rfl | (simp; done) | (simp [*]; done)), H', ⟨by have := HK1.out; omega⟩, ⟨by (with_reducible repeat (first | apply Kd.R_alloc | apply Kd.R_drewN | apply Kd.R_drew)); exact HO104.out⟩, ⟨by repeat (first | (with_reducible first | exact HB.out | apply below_alloc | apply pw_below_drewN | apply below_drew1) | exact HB.out)⟩⟩
            · rw [if_neg c6] at H
              exact absurd H (by simp)
          · rw [if_neg c5] at H
            have c5b0 : (((rd_T52 l0 x6_1).f2) == a1) = false := beq_eq_false_iff_ne.mpr c5
            have c5b1 : (((rd_T52 l0 x6_1).f2) != a1) = true := bne_iff_ne.mpr c5
            have H' := Aside0.mk H
            clear H
            have p101 : 0 ≤ (x6_1 : Int) := of_decide_eq_true (by first | (with_reducible assumption) | assumption)
            have q101 : x6_1 < (l0.length : Int) := of_decide_eq_true (by first | (with_reducible assumption) | assumption)
            obtain ⟨ad101, e101, hx101_0, hx101_1, hx101_2⟩ := at_T52 HR0.out x6_1 p101 q101
            cases e101
            replace hx101_0 := (HB.out.cell (World.block_lt_of_cell? w _ hx101_0)).trans hx101_0
            replace hx101_1 := (HB.out.cell (World.block_lt_of_cell? w _ hx101_1)).trans hx101_1
            replace hx101_2 := (HB.out.cell (World.block_lt_of_cell? w _ hx101_2)).trans hx101_2
            replace p101 := eq_true p101
            replace q101 := eq_true q101
            go_wp2
            go_roundg k1
            case measure => have := HK1.out; omega
            case rel => exact ⟨(x5_1), (wrap64 (x6_1 + 1)), (by first | rfl | (simp; done) | (simp [*]; done)), H', ⟨by have := HK1.out; omega⟩, ⟨by (with_reducible repeat (first | apply Kd.R_alloc | apply Kd.R_drewN | apply Kd.R_drew)); exact HO_5.out⟩, ⟨by repeat (first | (with_reducible first | exact HB.out | apply below_alloc | apply pw_below_drewN | apply below_drew1) | exact HB.out)⟩⟩
        · rw [if_neg c4] at H
          exact absurd H (by simp)
      · rw [if_neg c3] at H
        have c3b0 : decide (x6_1 < (l0.length : Int)) = false := decide_eq_false c3
        clear c3
        obtain rfl := Option.some.inj H
        go_wp2
        go_ret
        exact ⟨_, by first | rfl | (simp [errW_none, errW_some] <;> rfl) | (simp [*, errW_none, errW_some] <;> rfl), by (with_reducible repeat (first | apply Kd.R_alloc | apply Kd.R_drewN | apply Kd.R_drew)); exact HO_5.out, by repeat (first | (with_reducible first | exact HB.out | apply below_alloc | apply pw_below_drewN | apply below_drew1) | exact HB.out)⟩

end Go.Proofs.Ytcjhhdecckcibaa.G

namespace Go.Proofs.Ytcjhhdecckcibaa.G
open Go.RowKit Go.Proofs.YtcjhhdecckcibaaW.PrintWords Go.Proofs.YtcjhhdecckcibaaW.PrintLast Go.Proofs.YtcjhhdecckcibaaW.PrintMore
attribute [local go_sem] max2_int min2_int max_two min_two max_three min_three max_four min_four   -- for this text's walks alone
set_option linter.unusedVariables false
set_option linter.unusedSimpArgs false

mutual
def spec_GoodComb.l0 : Nat → List (S52) → List (S52) → Int → Int → Option (Bool)
 | 0, _, _, _, _ => none
 | k + 1, x0, x14, x15, x16 => if x16 < x15 then (if 0 ≤ x16 then (if x16 < (x14.length : Int) then (if ((x16 == 0) != (((rd_T52 x14 x16).f2) == (-1))) = true then (spec_GoodComb.j1 k x0 x16 x14 x15 x16 true ((rd_T52 x14 x16).f0) ((rd_T52 x14 x16).f1) ((rd_T52 x14 x16).f2)) else ((spec_l1In.f ((rd_T52 x14 x16).f2) (-1) (wrap64 (x16 - 1))).bind fun t104 => (if t104 = true then ((spec_l1In.f ((rd_T52 x14 x16).f0) 1 5).bind fun t105 => (if t105 = true then ((spec_l1In.f ((rd_T52 x14 x16).f1) 0 999).bind fun t106 => (if t106 = true then (if ((rd_T52 x14 x16).f0) = 1 then (spec_GoodComb.j1 k x0 x16 x14 x15 x16 false ((rd_T52 x14 x16).f0) ((rd_T52 x14 x16).f1) ((rd_T52 x14 x16).f2)) else (spec_GoodComb.j1 k x0 x16 x14 x15 x16 (((rd_T52 x14 x16).f1) != 0) ((rd_T52 x14 x16).f0) ((rd_T52 x14 x16).f1) ((rd_T52 x14 x16).f2))) else (spec_GoodComb.j1 k x0 x16 x14 x15 x16 true ((rd_T52 x14 x16).f0) ((rd_T52 x14 x16).f1) ((rd_T52 x14 x16).f2)))) else (spec_GoodComb.j1 k x0 x16 x14 x15 x16 true ((rd_T52 x14 x16).f0) ((rd_T52 x14 x16).f1) ((rd_T52 x14 x16).f2)))) else (spec_GoodComb.j1 k x0 x16 x14 x15 x16 true ((rd_T52 x14 x16).f0) ((rd_T52 x14 x16).f1) ((rd_T52 x14 x16).f2))))) else (none)) else (none)) else (some true)
def spec_GoodComb.j1 : Nat → List (S52) → Int → List (S52) → Int → Int → Bool → Int → Int → Int → Option (Bool)
 | 0, _, _, _, _, _, _, _, _, _ => none
 | k + 1, x0, x3, x14, x15, x16, x56, x104000, x104001, x104002 => if x56 = true then (some false) else (spec_GoodComb.l1 k x0 x3 (x3 == 0) (wrap64 (x3 - 1)) x14 x15 x16 x104000 x104001 x104002)
def spec_GoodComb.j3 : Nat → List (S52) → Int → Bool → List (S52) → Int → Int → Int → Int → Int → Option (Bool)
 | 0, _, _, _, _, _, _, _, _, _ => none
 | k + 1, x0, x3, x5, x14, x15, x16, x104000, x104001, x104002 => spec_GoodComb.l2 k x0 x3 x5 0 x3 x14 x15 x16 x104000 x104001 x104002
def spec_GoodComb.l2 : Nat → List (S52) → Int → Bool → Int → Int → List (S52) → Int → Int → Int → Int → Int → Option (Bool)
 | 0, _, _, _, _, _, _, _, _, _, _, _ => none
 | k + 1, x0, x3, x5, x7, x8, x14, x15, x16, x104000, x104001, x104002 => if x8 ≥ 0 then (if 0 ≤ x8 then (if x8 < (x0.length : Int) then (spec_GoodComb.l2 k x0 x3 x5 (wrap64 (x7 + 1)) ((rd_T52 x0 x8).f2) x14 x15 x16 x104000 x104001 x104002) else (none)) else (none)) else (if x104000 = 2 then (if x5 = true then (if x7 > 60 then (some false) else ((spec_ldParts.f k x0 x3).bind fun t109 => (if (t109.length : Int) = 2 then (spec_GoodComb.l0 k x0 x14 x15 (wrap64 (x16 + 1))) else (some false)))) else (some false)) else (if x5 = true then (if x7 > 60 then (some false) else ((spec_ldParts.f k x0 x3).bind fun t112 => (if (t112.length : Int) = 0 then (spec_GoodComb.l0 k x0 x14 x15 (wrap64 (x16 + 1))) else (some false)))) else (some false)))
def spec_GoodComb.l1 : Nat → List (S52) → Int → Bool → Int → List (S52) → Int → Int → Int → Int → Int → Option (Bool)
 | 0, _, _, _, _, _, _, _, _, _, _ => none
 | k + 1, x0, x3, x5, x6, x14, x15, x16, x104000, x104001, x104002 => if x6 ≥ 0 then (if x5 = true then (spec_GoodComb.j3 k x0 x3 x5 x14 x15 x16 x104000 x104001 x104002) else (if 0 ≤ x6 then (if x6 < (x0.length : Int) then (spec_GoodComb.l1 k x0 x3 (x6 == x104002) ((rd_T52 x0 x6).f2) x14 x15 x16 x104000 x104001 x104002) else (none)) else (none))) else (spec_GoodComb.j3 k x0 x3 x5 x14 x15 x16 x104000 x104001 x104002)
end
def spec_GoodComb.f (k : Nat) (l0 : List (S52)) : Option (Bool) := (spec_l1In.f (l0.length : Int) 1 200).bind fun t101 => (if t101 = true then (spec_GoodComb.l0 k l0 l0 (l0.length : Int) 0) else (some false))
set_option maxHeartbeats 8000000 in
set_option maxRecDepth 100000 in
theorem spec_GoodComb.calls (k : Nat) (A0 : Option Addr) (c0 : Nat) (l0 : List (S52)) (r : Bool) (w : World) (hr0 : Kd.C k52 w A0 l0.length l0) (hc0 : l0.length ≤ c0) (h : spec_GoodComb.f k l0 = some r) :
  Calls Try.prog 12 #[.slice A0 l0.length c0] w fun e w' => e = .returned (.bool r) ∧ Below w.heap.size w w' := by
 have hu52 := Try.underlying52
 have HR0 := aK hr0
 have HC0 := aK hc0
 clear hr0 hc0
 have HB := aK (Below.refl w.heap.size w)
 have H : ((spec_l1In.f (l0.length : Int) 1 200).bind fun t101 => (if t101 = true then (spec_GoodComb.l0 k l0 l0 (l0.length : Int) 0) else (some false))) = some r := h
 clear h
 replace H := Option.bind_eq_some_iff.mp H
 obtain ⟨t101, A20, H⟩ := H
 try dsimp only at H
 have A2 := aK A20
 clear A20
 by_cases c3 : t101 = true
 ·subst c3
  rw [if_pos rfl] at H
  have H' := aK H
  clear H
  go_enter Try.func12, Try.ntmps12
  go_wp2_with (first | ((with_reducible refine gate_callee (f := 39) rfl ?_); refine goesL_ (some 12) rfl rfl Try.func39 (by kernel_rfl) rfl #[.int .i64 (l0.length : Int), .int .i64 1, .int .i64 200] rfl tA ?_; (with_reducible refine (spec_l1In.calls (l0.length : Int) 1 200 true _ A2.out).mono ?_); rintro e w' ⟨rfl, ⟨nd, rfl⟩⟩; refine ⟨_, rfl, ?_⟩))
  go_loopg [16] k (fun kq v16 w' => ∃ (x16_1 : Int), v16 = .int .i64 x16_1 ∧ Aside0 (spec_GoodComb.l0 kq l0 l0 (l0.length : Int) x16_1 = some r) ∧ Aside0 (kq ≤ k) ∧ Aside0 (Below w.heap.size w w'))
  case atStart => exact ⟨(0), rS, H', ⟨Nat.le_refl _⟩, ⟨pH HB⟩⟩
  case round =>
   clear H'
   try clear c1
   try clear p2
   try clear c3
   obtain ⟨x16_1, rfl, HA, HK1, HB⟩ := hrel
   cases gk with
   | zero => exact absurd HA.out (by simp [spec_GoodComb.l0])
   | succ k1 =>
    have H := HA.out
    clear HA
    simp only [spec_GoodComb.l0] at H
    by_cases c4 : x16_1 < (l0.length : Int)
    ·rw [if_pos c4] at H
     have c4b0 : decide (x16_1 < (l0.length : Int)) = true := decide_eq_true c4
     clear c4
     by_cases c5 : 0 ≤ x16_1
     ·rw [if_pos c5] at H
      have c5b0 : decide (0 ≤ x16_1) = true := decide_eq_true c5
      clear c5
      by_cases c6 : x16_1 < (l0.length : Int)
      ·rw [if_pos c6] at H
       have c6b0 : decide (x16_1 < (l0.length : Int)) = true := decide_eq_true c6
       clear c6
       have HC7 := aK H
       clear H
       have p102 : 0 ≤ (x16_1 : Int) := dA
       have q102 : x16_1 < (l0.length : Int) := dA
       obtain ⟨ad102, e102, hx102_0, hx102_1, hx102_2⟩ := at_T52 HR0.out x16_1 p102 q102
       cases e102
       replace hx102_0 := uC HB hx102_0
       replace hx102_1 := uC HB hx102_1
       replace hx102_2 := uC HB hx102_2
       replace p102 := eq_true p102
       replace q102 := eq_true q102
       go_upto_region 6 with (first | ((with_reducible refine gate_dst (N := 4) rfl ?_); (try (refine gate_guard (by rfl) ?_; dsimp only)); refine bE (N := 4) (cs := #[.int .i64 0, .int .i64 0, .int .i64 0]) (t := 52) ?_; intro gb103 hg w8 hbox hb; have GW103 := qw HB hg; have GE103 := qw HB hg; have BK103 := aK hbox; replace HB := qs HB hb; clear hb hbox hg; have hcz9_0 := k30 BK103; have hcz9_1 := k31 BK103; have hcz9_2 := k32 BK103; have hfz9_0 := fz BK103 0; have hfz9_1 := fz BK103 1; have hfz9_2 := fz BK103 2))
       (try simp only [Act.put, List.setIfInBounds_toArray, List.set_cons_zero, List.set_cons_succ])
       go_cut [56] (fun v56 wc => ∃ (kq : Nat) (x56_6 : Bool), v56 = .bool x56_6 ∧ Aside0 (spec_GoodComb.j1 kq l0 x16_1 l0 (l0.length : Int) x16_1 x56_6 ((rd_T52 l0 x16_1).f0) ((rd_T52 l0 x16_1).f1) ((rd_T52 l0 x16_1).f2) = some r) ∧ Aside0 (kq ≤ k1) ∧ Aside0 (wc.heap[gb103]? = some (.cells #[.int .i64 ((rd_T52 l0 x16_1).f0), .int .i64 ((rd_T52 l0 x16_1).f1), .int .i64 ((rd_T52 l0 x16_1).f2)] 52 (0, 0))) ∧ Aside0 (Below w.heap.size w wc))
       case first =>
        have H := HC7.out
        clear HC7
        by_cases c10 : ((x16_1 == 0) != (((rd_T52 l0 x16_1).f2) == (-1))) = true
        ·rw [if_pos c10] at H
         have c10b0 : ((x16_1 == 0) != (((rd_T52 l0 x16_1).f2) == (-1))) = true := c10
         (try (have c10b1 : decide ((x16_1 == 0) = (((rd_T52 l0 x16_1).f2) == (-1))) = false := by simpa using c10))
         (try (have c10b2 : ((x16_1 == 0) == (((rd_T52 l0 x16_1).f2) == (-1))) = false := by simpa using c10))
         (try (have c10b3 : ¬ ((x16_1 == 0) = (((rd_T52 l0 x16_1).f2) == (-1))) := by simpa using c10))
         clear c10
         (first | rw [c10b0] | (simp only [i64_w, i32_w]; rw [c10b0]) | skip)
         have H' := aK H
         clear H
         have hcz11_0 := k30 BK103
         have hcz11_1 := k31 BK103
         have hcz11_2 := k32 BK103
         have hfz11_0 := fz BK103 0
         have hfz11_1 := fz BK103 1
         have hfz11_2 := fz BK103 2
         go_wp2
         go_meet
         case rel => exact ⟨_, (true), rS, H', ⟨by have := HK1.out; first | omega | exact Nat.le_refl _⟩, ⟨p3 BK103⟩, ⟨pH HB⟩⟩
        ·rw [if_neg c10] at H
         have c10b0 : ((x16_1 == 0) != (((rd_T52 l0 x16_1).f2) == (-1))) = false := by simpa using c10
         (try (have c10b1 : decide ((x16_1 == 0) = (((rd_T52 l0 x16_1).f2) == (-1))) = true := by simpa using c10))
         (try (have c10b2 : ((x16_1 == 0) == (((rd_T52 l0 x16_1).f2) == (-1))) = true := by simpa using c10))
         clear c10
         (first | rw [c10b0] | (simp only [i64_w, i32_w]; rw [c10b0]) | skip)
         replace H := Option.bind_eq_some_iff.mp H
         obtain ⟨t104, A120, H⟩ := H
         try dsimp only at H
         have A12 := aK A120
         clear A120
         by_cases c13 : t104 = true
         ·subst c13
          rw [if_pos rfl] at H
          replace H := Option.bind_eq_some_iff.mp H
          obtain ⟨t105, A140, H⟩ := H
          try dsimp only at H
          have A14 := aK A140
          clear A140
          by_cases c15 : t105 = true
          ·subst c15
           rw [if_pos rfl] at H
           replace H := Option.bind_eq_some_iff.mp H
           obtain ⟨t106, A160, H⟩ := H
           try dsimp only at H
           have A16 := aK A160
           clear A160
           by_cases c17 : t106 = true
           ·subst c17
            rw [if_pos rfl] at H
            by_cases c18 : ((rd_T52 l0 x16_1).f0) = 1
            ·rw [if_pos c18] at H
             have c18b0 : (((rd_T52 l0 x16_1).f0) == 1) = true := beq_iff_eq.mpr c18
             have c18b1 : (((rd_T52 l0 x16_1).f0) != 1) = false := bne_eq_false_iff_eq.mpr c18
             clear c18
             have H' := aK H
             clear H
             have hcz19_0 := k30 BK103
             have hcz19_1 := k31 BK103
             have hcz19_2 := k32 BK103
             have hfz19_0 := fz BK103 0
             have hfz19_1 := fz BK103 1
             have hfz19_2 := fz BK103 2
             go_wp2_with (first | (go_at_call 39; (with_reducible refine (spec_l1In.calls ((rd_T52 l0 x16_1).f2) (-1) (wrap64 (x16_1 - 1)) true _ A12.out).mono ?_); rintro e w' ⟨rfl, ⟨nd, rfl⟩⟩) | (go_at_call 39; (with_reducible refine (spec_l1In.calls ((rd_T52 l0 x16_1).f0) 1 5 true _ A14.out).mono ?_); rintro e w' ⟨rfl, ⟨nd, rfl⟩⟩) | (go_at_call 39; (with_reducible refine (spec_l1In.calls ((rd_T52 l0 x16_1).f1) 0 999 true _ A16.out).mono ?_); rintro e w' ⟨rfl, ⟨nd, rfl⟩⟩))
             go_meet
             case rel => exact ⟨_, (false), rS, H', ⟨by have := HK1.out; first | omega | exact Nat.le_refl _⟩, ⟨p3 BK103⟩, ⟨pH HB⟩⟩
            ·rw [if_neg c18] at H
             have c18b0 : (((rd_T52 l0 x16_1).f0) == 1) = false := beq_eq_false_iff_ne.mpr c18
             have c18b1 : (((rd_T52 l0 x16_1).f0) != 1) = true := bne_iff_ne.mpr c18
             have H' := aK H
             clear H
             have hcz20_0 := k30 BK103
             have hcz20_1 := k31 BK103
             have hcz20_2 := k32 BK103
             have hfz20_0 := fz BK103 0
             have hfz20_1 := fz BK103 1
             have hfz20_2 := fz BK103 2
             go_wp2_with (first | (go_at_call 39; (with_reducible refine (spec_l1In.calls ((rd_T52 l0 x16_1).f2) (-1) (wrap64 (x16_1 - 1)) true _ A12.out).mono ?_); rintro e w' ⟨rfl, ⟨nd, rfl⟩⟩) | (go_at_call 39; (with_reducible refine (spec_l1In.calls ((rd_T52 l0 x16_1).f0) 1 5 true _ A14.out).mono ?_); rintro e w' ⟨rfl, ⟨nd, rfl⟩⟩) | (go_at_call 39; (with_reducible refine (spec_l1In.calls ((rd_T52 l0 x16_1).f1) 0 999 true _ A16.out).mono ?_); rintro e w' ⟨rfl, ⟨nd, rfl⟩⟩))
             go_meet
             case rel => exact ⟨_, ((((rd_T52 l0 x16_1).f1) != 0)), rS, H', ⟨by have := HK1.out; first | omega | exact Nat.le_refl _⟩, ⟨p3 BK103⟩, ⟨pH HB⟩⟩
           ·replace c17 := Bool.eq_false_iff.mpr c17
            subst c17
            rw [if_neg (show ¬ (false = true) by decide)] at H
            have H' := aK H
            clear H
            have hcz21_0 := k30 BK103
            have hcz21_1 := k31 BK103
            have hcz21_2 := k32 BK103
            have hfz21_0 := fz BK103 0
            have hfz21_1 := fz BK103 1
            have hfz21_2 := fz BK103 2
            go_wp2_with (first | (go_at_call 39; (with_reducible refine (spec_l1In.calls ((rd_T52 l0 x16_1).f2) (-1) (wrap64 (x16_1 - 1)) true _ A12.out).mono ?_); rintro e w' ⟨rfl, ⟨nd, rfl⟩⟩) | (go_at_call 39; (with_reducible refine (spec_l1In.calls ((rd_T52 l0 x16_1).f0) 1 5 true _ A14.out).mono ?_); rintro e w' ⟨rfl, ⟨nd, rfl⟩⟩) | (go_at_call 39; (with_reducible refine (spec_l1In.calls ((rd_T52 l0 x16_1).f1) 0 999 false _ A16.out).mono ?_); rintro e w' ⟨rfl, ⟨nd, rfl⟩⟩))
            go_meet
            case rel => exact ⟨_, (true), rS, H', ⟨by have := HK1.out; first | omega | exact Nat.le_refl _⟩, ⟨p3 BK103⟩, ⟨pH HB⟩⟩
          ·replace c15 := Bool.eq_false_iff.mpr c15
           subst c15
           rw [if_neg (show ¬ (false = true) by decide)] at H
           have H' := aK H
           clear H
           have hcz22_0 := k30 BK103
           have hcz22_1 := k31 BK103
           have hcz22_2 := k32 BK103
           have hfz22_0 := fz BK103 0
           have hfz22_1 := fz BK103 1
           have hfz22_2 := fz BK103 2
           go_wp2_with (first | (go_at_call 39; (with_reducible refine (spec_l1In.calls ((rd_T52 l0 x16_1).f2) (-1) (wrap64 (x16_1 - 1)) true _ A12.out).mono ?_); rintro e w' ⟨rfl, ⟨nd, rfl⟩⟩) | (go_at_call 39; (with_reducible refine (spec_l1In.calls ((rd_T52 l0 x16_1).f0) 1 5 false _ A14.out).mono ?_); rintro e w' ⟨rfl, ⟨nd, rfl⟩⟩))
           go_meet
           case rel => exact ⟨_, (true), rS, H', ⟨by have := HK1.out; first | omega | exact Nat.le_refl _⟩, ⟨p3 BK103⟩, ⟨pH HB⟩⟩
         ·replace c13 := Bool.eq_false_iff.mpr c13
          subst c13
          rw [if_neg (show ¬ (false = true) by decide)] at H
          have H' := aK H
          clear H
          have hcz23_0 := k30 BK103
          have hcz23_1 := k31 BK103
          have hcz23_2 := k32 BK103
          have hfz23_0 := fz BK103 0
          have hfz23_1 := fz BK103 1
          have hfz23_2 := fz BK103 2
          go_wp2_with (first | (go_at_call 39; (with_reducible refine (spec_l1In.calls ((rd_T52 l0 x16_1).f2) (-1) (wrap64 (x16_1 - 1)) false _ A12.out).mono ?_); rintro e w' ⟨rfl, ⟨nd, rfl⟩⟩))
          go_meet
          case rel => exact ⟨_, (true), rS, H', ⟨by have := HK1.out; first | omega | exact Nat.le_refl _⟩, ⟨p3 BK103⟩, ⟨pH HB⟩⟩
       case rest =>
        clear HC7
        try clear c1
        try clear p1
        try clear q1
        try clear hx1
        try clear p2
        try clear c3
        try clear c4
        try clear c4b0
        try clear c5
        try clear c5b0
        try clear c6
        try clear c6b0
        try clear p6
        try clear c10
        try clear c10b0
        try clear c10b1
        try clear c10b2
        try clear p10
        try clear q10
        try clear hx10
        try clear c12
        try clear c13
        try clear c15
        try clear c17
        try clear c18
        try clear c18b0
        try clear c18b1
        try clear hcz11_0
        try clear hcz11_1
        try clear hcz11_2
        try clear hcz19_0
        try clear hcz19_1
        try clear hcz19_2
        try clear hcz20_0
        try clear hcz20_1
        try clear hcz20_2
        try clear hcz21_0
        try clear hcz21_1
        try clear hcz21_2
        try clear hcz22_0
        try clear hcz22_1
        try clear hcz22_2
        try clear hcz23_0
        try clear hcz23_1
        try clear hcz23_2
        try clear hcz9_0
        try clear hcz9_1
        try clear hcz9_2
        try clear hfz11_0
        try clear hfz11_1
        try clear hfz11_2
        try clear hfz19_0
        try clear hfz19_1
        try clear hfz19_2
        try clear hfz20_0
        try clear hfz20_1
        try clear hfz20_2
        try clear hfz21_0
        try clear hfz21_1
        try clear hfz21_2
        try clear hfz22_0
        try clear hfz22_1
        try clear hfz22_2
        try clear hfz23_0
        try clear hfz23_1
        try clear hfz23_2
        try clear hfz9_0
        try clear hfz9_1
        try clear hfz9_2
        try clear hx102_0
        try clear hx102_1
        try clear hx102_2
        try clear p102
        try clear p2
        try clear q102
        obtain ⟨kq, x56_6, rfl, HA, HJ6, BK103, HB⟩ := hcut
        cases kq with
        | zero => exact absurd HA.out (by simp [spec_GoodComb.j1])
        | succ kj6 =>
         have H := HA.out
         clear HA
         simp only [spec_GoodComb.j1] at H
         by_cases c24 : x56_6 = true
         ·subst c24
          rw [if_pos rfl] at H
          obtain rfl := Option.some.inj H
          go_wp2
          go_ret
          exact ⟨eW, pH HB⟩
         ·replace c24 := Bool.eq_false_iff.mpr c24
          subst c24
          rw [if_neg (show ¬ (false = true) by decide)] at H
          have HC25 := aK H
          clear H
          go_upto_block 2 with (fail)
          go_cut [5] (fun v5 wc => ∃ (kq : Nat) (x5_24 : Bool), v5 = .bool x5_24 ∧ Aside0 (spec_GoodComb.j3 kq l0 x16_1 x5_24 l0 (l0.length : Int) x16_1 ((rd_T52 l0 x16_1).f0) ((rd_T52 l0 x16_1).f1) ((rd_T52 l0 x16_1).f2) = some r) ∧ Aside0 (kq ≤ kj6) ∧ Aside0 (wc.heap[gb103]? = some (.cells #[.int .i64 ((rd_T52 l0 x16_1).f0), .int .i64 ((rd_T52 l0 x16_1).f1), .int .i64 ((rd_T52 l0 x16_1).f2)] 52 (0, 0))) ∧ Aside0 (Below w.heap.size w wc))
          case first =>
           have H := HC25.out
           clear HC25
           have H' := aK H
           clear H
           go_wp2
           go_loopg [5, 6] kj6 (fun kq v5 v6 w' => ∃ (x5_3 : Bool) (x6_3 : Int), v5 = .bool x5_3 ∧ v6 = .int .i64 x6_3 ∧ Aside0 (spec_GoodComb.l1 kq l0 x16_1 x5_3 x6_3 l0 (l0.length : Int) x16_1 ((rd_T52 l0 x16_1).f0) ((rd_T52 l0 x16_1).f1) ((rd_T52 l0 x16_1).f2) = some r) ∧ Aside0 (kq ≤ kj6) ∧ Aside0 (w'.heap[gb103]? = some (.cells #[.int .i64 ((rd_T52 l0 x16_1).f0), .int .i64 ((rd_T52 l0 x16_1).f1), .int .i64 ((rd_T52 l0 x16_1).f2)] 52 (0, 0))) ∧ Aside0 (Below w.heap.size w w'))
           case atStart => exact ⟨((x16_1 == 0)), (wrap64 (x16_1 - 1)), rS, rS, H', ⟨Nat.le_refl _⟩, ⟨pB BK103⟩, ⟨pH HB⟩⟩
           case round =>
            clear H'
            try clear c1
            try clear p1
            try clear q1
            try clear hx1
            try clear c2
            try clear p2
            try clear c3
            try clear c4
            try clear c4b0
            try clear c5
            try clear c5b0
            try clear c6
            try clear c6b0
            try clear p6
            try clear c10
            try clear c10b0
            try clear c10b1
            try clear c10b2
            try clear p10
            try clear q10
            try clear hx10
            try clear c12
            try clear c13
            try clear c15
            try clear c17
            try clear c18
            try clear c18b0
            try clear c18b1
            try clear c24
            try clear hcz11_0
            try clear hcz11_1
            try clear hcz11_2
            try clear hcz19_0
            try clear hcz19_1
            try clear hcz19_2
            try clear hcz20_0
            try clear hcz20_1
            try clear hcz20_2
            try clear hcz21_0
            try clear hcz21_1
            try clear hcz21_2
            try clear hcz22_0
            try clear hcz22_1
            try clear hcz22_2
            try clear hcz23_0
            try clear hcz23_1
            try clear hcz23_2
            try clear hcz9_0
            try clear hcz9_1
            try clear hcz9_2
            try clear hfz11_0
            try clear hfz11_1
            try clear hfz11_2
            try clear hfz19_0
            try clear hfz19_1
            try clear hfz19_2
            try clear hfz20_0
            try clear hfz20_1
            try clear hfz20_2
            try clear hfz21_0
            try clear hfz21_1
            try clear hfz21_2
            try clear hfz22_0
            try clear hfz22_1
            try clear hfz22_2
            try clear hfz23_0
            try clear hfz23_1
            try clear hfz23_2
            try clear hfz9_0
            try clear hfz9_1
            try clear hfz9_2
            try clear hx102_0
            try clear hx102_1
            try clear hx102_2
            try clear p1
            try clear p10
            try clear p102
            try clear p2
            try clear p6
            try clear q1
            try clear q10
            try clear q102
            obtain ⟨x5_3, x6_3, rfl, rfl, HA, HK3, BK103, HB⟩ := hrel
            cases gk with
            | zero => exact absurd HA.out (by simp [spec_GoodComb.l1])
            | succ k3 =>
             have H := HA.out
             clear HA
             simp only [spec_GoodComb.l1] at H
             by_cases c26 : x6_3 ≥ 0
             ·rw [if_pos c26] at H
              have c26b0 : decide (0 ≤ x6_3) = true := decide_eq_true c26
              clear c26
              (first | rw [c26b0] | (simp only [i64_w, i32_w]; rw [c26b0]) | skip)
              by_cases c27 : x5_3 = true
              ·subst c27
               rw [if_pos rfl] at H
               have H' := aK H
               clear H
               go_wp2
               go_meet
               case rel => exact ⟨_, (true), rS, H', ⟨by have := HK1.out; have := HJ6.out; have := HK3.out; first | omega | exact Nat.le_refl _⟩, ⟨pB BK103⟩, ⟨pH HB⟩⟩
              ·replace c27 := Bool.eq_false_iff.mpr c27
               subst c27
               rw [if_neg (show ¬ (false = true) by decide)] at H
               by_cases c28 : 0 ≤ x6_3
               ·rw [if_pos c28] at H
                have c28b0 : decide (0 ≤ x6_3) = true := decide_eq_true c28
                clear c28
                by_cases c29 : x6_3 < (l0.length : Int)
                ·rw [if_pos c29] at H
                 have c29b0 : decide (x6_3 < (l0.length : Int)) = true := decide_eq_true c29
                 clear c29
                 have H' := aK H
                 clear H
                 have hcz30_0 := k30 BK103
                 have hcz30_1 := k31 BK103
                 have hcz30_2 := k32 BK103
                 have hfz30_0 := fz BK103 0
                 have hfz30_1 := fz BK103 1
                 have hfz30_2 := fz BK103 2
                 have p107 : 0 ≤ (x6_3 : Int) := dA
                 have q107 : x6_3 < (l0.length : Int) := dA
                 obtain ⟨ad107, e107, hx107_0, hx107_1, hx107_2⟩ := at_T52 HR0.out x6_3 p107 q107
                 obtain rfl : ad102 = ad107 := (by injection e107)
                 replace hx107_0 := uC HB hx107_0
                 replace hx107_1 := uC HB hx107_1
                 replace hx107_2 := uC HB hx107_2
                 replace p107 := eq_true p107
                 replace q107 := eq_true q107
                 go_wp2
                 go_roundg k3
                 case measure => have := HK1.out; have := HJ6.out; have := HK3.out; omega
                 case rel => exact ⟨((x6_3 == ((rd_T52 l0 x16_1).f2))), ((rd_T52 l0 x6_3).f2), rS, rS, H', ⟨by have := HK1.out; have := HJ6.out; have := HK3.out; omega⟩, ⟨pB BK103⟩, ⟨pH HB⟩⟩
                ·rw [if_neg c29] at H
                 exact absurd H (by simp)
               ·rw [if_neg c28] at H
                exact absurd H (by simp)
             ·rw [if_neg c26] at H
              have c26b0 : decide (0 ≤ x6_3) = false := decide_eq_false c26
              clear c26
              (first | rw [c26b0] | (simp only [i64_w, i32_w]; rw [c26b0]) | skip)
              have H' := aK H
              clear H
              go_wp2
              go_meet
              case rel => exact ⟨_, (x5_3), rS, H', ⟨by have := HK1.out; have := HJ6.out; have := HK3.out; first | omega | exact Nat.le_refl _⟩, ⟨pB BK103⟩, ⟨pH HB⟩⟩
          case rest =>
           clear HC25
           try clear c1
           try clear p1
           try clear q1
           try clear hx1
           try clear c2
           try clear p2
           try clear c3
           try clear c4
           try clear c4b0
           try clear c5
           try clear c5b0
           try clear c6
           try clear c6b0
           try clear p6
           try clear c10
           try clear c10b0
           try clear c10b1
           try clear c10b2
           try clear p10
           try clear q10
           try clear hx10
           try clear c12
           try clear c13
           try clear c15
           try clear c17
           try clear c18
           try clear c18b0
           try clear c18b1
           try clear c24
           try clear c26
           try clear c26b0
           try clear c27
           try clear c28
           try clear c28b0
           try clear c29
           try clear c29b0
           try clear hcz11_0
           try clear hcz11_1
           try clear hcz11_2
           try clear hcz19_0
           try clear hcz19_1
           try clear hcz19_2
           try clear hcz20_0
           try clear hcz20_1
           try clear hcz20_2
           try clear hcz21_0
           try clear hcz21_1
           try clear hcz21_2
           try clear hcz22_0
           try clear hcz22_1
           try clear hcz22_2
           try clear hcz23_0
           try clear hcz23_1
           try clear hcz23_2
           try clear hcz30_0
           try clear hcz30_1
           try clear hcz30_2
           try clear hcz9_0
           try clear hcz9_1
           try clear hcz9_2
           try clear hfz11_0
           try clear hfz11_1
           try clear hfz11_2
           try clear hfz19_0
           try clear hfz19_1
           try clear hfz19_2
           try clear hfz20_0
           try clear hfz20_1
           try clear hfz20_2
           try clear hfz21_0
           try clear hfz21_1
           try clear hfz21_2
           try clear hfz22_0
           try clear hfz22_1
           try clear hfz22_2
           try clear hfz23_0
           try clear hfz23_1
           try clear hfz23_2
           try clear hfz30_0
           try clear hfz30_1
           try clear hfz30_2
           try clear hfz9_0
           try clear hfz9_1
           try clear hfz9_2
           try clear hx102_0
           try clear hx102_1
           try clear hx102_2
           try clear hx107_0
           try clear hx107_1
           try clear hx107_2
           try clear p1
           try clear p10
           try clear p102
           try clear p107
           try clear p2
           try clear p6
           try clear q1
           try clear q10
           try clear q102
           try clear q107
           obtain ⟨kq, x5_24, rfl, HA, HJ24, BK103, HB⟩ := hcut
           cases kq with
           | zero => exact absurd HA.out (by simp [spec_GoodComb.j3])
           | succ kj24 =>
            have H := HA.out
            clear HA
            simp only [spec_GoodComb.j3] at H
            have H' := aK H
            clear H
            go_wp2
            go_loopg [7, 8] kj24 (fun kq v7 v8 w' => ∃ (x7_4 : Int) (x8_4 : Int), v7 = .int .i64 x7_4 ∧ v8 = .int .i64 x8_4 ∧ Aside0 (spec_GoodComb.l2 kq l0 x16_1 x5_24 x7_4 x8_4 l0 (l0.length : Int) x16_1 ((rd_T52 l0 x16_1).f0) ((rd_T52 l0 x16_1).f1) ((rd_T52 l0 x16_1).f2) = some r) ∧ Aside0 (kq ≤ kj24) ∧ Aside0 (w'.heap[gb103]? = some (.cells #[.int .i64 ((rd_T52 l0 x16_1).f0), .int .i64 ((rd_T52 l0 x16_1).f1), .int .i64 ((rd_T52 l0 x16_1).f2)] 52 (0, 0))) ∧ Aside0 (Below w.heap.size w w'))
            case atStart => exact ⟨(0), (x16_1), rS, rS, H', ⟨Nat.le_refl _⟩, ⟨pB BK103⟩, ⟨pH HB⟩⟩
            case round =>
             clear H'
             try clear c1
             try clear p1
             try clear q1
             try clear hx1
             try clear c2
             try clear p2
             try clear c3
             try clear c4
             try clear c4b0
             try clear c5
             try clear c5b0
             try clear c6
             try clear c6b0
             try clear p6
             try clear c10
             try clear c10b0
             try clear c10b1
             try clear c10b2
             try clear p10
             try clear q10
             try clear hx10
             try clear c12
             try clear c13
             try clear c15
             try clear c17
             try clear c18
             try clear c18b0
             try clear c18b1
             try clear c24
             try clear c26
             try clear c26b0
             try clear c27
             try clear c28
             try clear c28b0
             try clear c29
             try clear c29b0
             try clear hcz11_0
             try clear hcz11_1
             try clear hcz11_2
             try clear hcz19_0
             try clear hcz19_1
             try clear hcz19_2
             try clear hcz20_0
             try clear hcz20_1
             try clear hcz20_2
             try clear hcz21_0
             try clear hcz21_1
             try clear hcz21_2
             try clear hcz22_0
             try clear hcz22_1
             try clear hcz22_2
             try clear hcz23_0
             try clear hcz23_1
             try clear hcz23_2
             try clear hcz30_0
             try clear hcz30_1
             try clear hcz30_2
             try clear hcz9_0
             try clear hcz9_1
             try clear hcz9_2
             try clear hfz11_0
             try clear hfz11_1
             try clear hfz11_2
             try clear hfz19_0
             try clear hfz19_1
             try clear hfz19_2
             try clear hfz20_0
             try clear hfz20_1
             try clear hfz20_2
             try clear hfz21_0
             try clear hfz21_1
             try clear hfz21_2
             try clear hfz22_0
             try clear hfz22_1
             try clear hfz22_2
             try clear hfz23_0
             try clear hfz23_1
             try clear hfz23_2
             try clear hfz30_0
             try clear hfz30_1
             try clear hfz30_2
             try clear hfz9_0
             try clear hfz9_1
             try clear hfz9_2
             try clear hx102_0
             try clear hx102_1
             try clear hx102_2
             try clear hx107_0
             try clear hx107_1
             try clear hx107_2
             try clear p1
             try clear p10
             try clear p102
             try clear p107
             try clear p2
             try clear p6
             try clear q1
             try clear q10
             try clear q102
             try clear q107
             obtain ⟨x7_4, x8_4, rfl, rfl, HA, HK4, BK103, HB⟩ := hrel
             cases gk with
             | zero => exact absurd HA.out (by simp [spec_GoodComb.l2])
             | succ k4 =>
              have H := HA.out
              clear HA
              simp only [spec_GoodComb.l2] at H
              by_cases c31 : x8_4 ≥ 0
              ·rw [if_pos c31] at H
               have c31b0 : decide (0 ≤ x8_4) = true := decide_eq_true c31
               clear c31
               by_cases c32 : 0 ≤ x8_4
               ·rw [if_pos c32] at H
                have c32b0 : decide (0 ≤ x8_4) = true := decide_eq_true c32
                clear c32
                by_cases c33 : x8_4 < (l0.length : Int)
                ·rw [if_pos c33] at H
                 have c33b0 : decide (x8_4 < (l0.length : Int)) = true := decide_eq_true c33
                 clear c33
                 have H' := aK H
                 clear H
                 have p108 : 0 ≤ (x8_4 : Int) := dA
                 have q108 : x8_4 < (l0.length : Int) := dA
                 obtain ⟨ad108, e108, hx108_0, hx108_1, hx108_2⟩ := at_T52 HR0.out x8_4 p108 q108
                 obtain rfl : ad102 = ad108 := (by injection e108)
                 replace hx108_0 := uC HB hx108_0
                 replace hx108_1 := uC HB hx108_1
                 replace hx108_2 := uC HB hx108_2
                 replace p108 := eq_true p108
                 replace q108 := eq_true q108
                 go_wp2
                 go_roundg k4
                 case measure => have := HK1.out; have := HJ6.out; have := HJ24.out; have := HK4.out; omega
                 case rel => exact ⟨(wrap64 (x7_4 + 1)), ((rd_T52 l0 x8_4).f2), rS, rS, H', ⟨by have := HK1.out; have := HJ6.out; have := HJ24.out; have := HK4.out; omega⟩, ⟨pB BK103⟩, ⟨pH HB⟩⟩
                ·rw [if_neg c33] at H
                 exact absurd H (by simp)
               ·rw [if_neg c32] at H
                exact absurd H (by simp)
              ·rw [if_neg c31] at H
               have c31b0 : decide (0 ≤ x8_4) = false := decide_eq_false c31
               clear c31
               by_cases c34 : ((rd_T52 l0 x16_1).f0) = 2
               ·rw [if_pos c34] at H
                have c34b0 : (((rd_T52 l0 x16_1).f0) == 2) = true := beq_iff_eq.mpr c34
                have c34b1 : (((rd_T52 l0 x16_1).f0) != 2) = false := bne_eq_false_iff_eq.mpr c34
                clear c34
                by_cases c35 : x5_24 = true
                ·subst c35
                 rw [if_pos rfl] at H
                 by_cases c36 : x7_4 > 60
                 ·rw [if_pos c36] at H
                  have c36b0 : decide (60 < x7_4) = true := decide_eq_true c36
                  clear c36
                  obtain rfl := Option.some.inj H
                  have hcz37_0 := k30 BK103
                  have hcz37_1 := k31 BK103
                  have hcz37_2 := k32 BK103
                  have hfz37_0 := fz BK103 0
                  have hfz37_1 := fz BK103 1
                  have hfz37_2 := fz BK103 2
                  go_wp2
                  go_ret
                  exact ⟨eW, pH HB⟩
                 ·rw [if_neg c36] at H
                  have c36b0 : decide (60 < x7_4) = false := decide_eq_false c36
                  clear c36
                  replace H := Option.bind_eq_some_iff.mp H
                  obtain ⟨t109, A380, H⟩ := H
                  try dsimp only at H
                  have A38 := aK A380
                  clear A380
                  by_cases c39 : (t109.length : Int) = 2
                  ·rw [if_pos c39] at H
                   have c39b0 : ((t109.length : Int) == 2) = true := beq_iff_eq.mpr c39
                   have c39b1 : ((t109.length : Int) != 2) = false := bne_eq_false_iff_eq.mpr c39
                   clear c39
                   have H' := aK H
                   clear H
                   have hcz40_0 := k30 BK103
                   have hcz40_1 := k31 BK103
                   have hcz40_2 := k32 BK103
                   have hfz40_0 := fz BK103 0
                   have hfz40_1 := fz BK103 1
                   have hfz40_2 := fz BK103 2
                   go_wp2_with (first | (go_at_call 40; (with_reducible refine (spec_ldParts.calls k4 _ _ l0 x16_1 t109 _ ?side1 ?side2 A38.out).mono ?_); (case side1 => exact sC (Kd.C_below HR0.out HB.out)); (case side2 => exact HC0.out); rintro e w41 ⟨v110, rfl, ho0, hb⟩; have HO111 := aK (Kd.R_lower ho0 (below_size HB.out)); replace BK103 := qb BK103 hb; replace HB := qs HB hb; (try clear hb); (try clear ho0); obtain ⟨Ao42, co42, eo42⟩ := Kd.R_slice HO111.out; subst eo42))
                   go_roundg k4
                   case measure => have := HK1.out; have := HJ6.out; have := HJ24.out; have := HK4.out; omega
                   case rel => exact ⟨(wrap64 (x16_1 + 1)), rS, H', ⟨by have := HK1.out; have := HJ6.out; have := HJ24.out; have := HK4.out; omega⟩, ⟨pH HB⟩⟩
                  ·rw [if_neg c39] at H
                   have c39b0 : ((t109.length : Int) == 2) = false := beq_eq_false_iff_ne.mpr c39
                   have c39b1 : ((t109.length : Int) != 2) = true := bne_iff_ne.mpr c39
                   obtain rfl := Option.some.inj H
                   have hcz43_0 := k30 BK103
                   have hcz43_1 := k31 BK103
                   have hcz43_2 := k32 BK103
                   have hfz43_0 := fz BK103 0
                   have hfz43_1 := fz BK103 1
                   have hfz43_2 := fz BK103 2
                   go_wp2_with (first | (go_at_call 40; (with_reducible refine (spec_ldParts.calls k4 _ _ l0 x16_1 t109 _ ?side1 ?side2 A38.out).mono ?_); (case side1 => exact sC (Kd.C_below HR0.out HB.out)); (case side2 => exact HC0.out); rintro e w44 ⟨v110, rfl, ho0, hb⟩; have HO111 := aK (Kd.R_lower ho0 (below_size HB.out)); replace BK103 := qb BK103 hb; replace HB := qs HB hb; (try clear hb); (try clear ho0); obtain ⟨Ao45, co45, eo45⟩ := Kd.R_slice HO111.out; subst eo45))
                   go_ret
                   exact ⟨eW, pH HB⟩
                ·replace c35 := Bool.eq_false_iff.mpr c35
                 subst c35
                 rw [if_neg (show ¬ (false = true) by decide)] at H
                 obtain rfl := Option.some.inj H
                 have hcz46_0 := k30 BK103
                 have hcz46_1 := k31 BK103
                 have hcz46_2 := k32 BK103
                 have hfz46_0 := fz BK103 0
                 have hfz46_1 := fz BK103 1
                 have hfz46_2 := fz BK103 2
                 go_wp2
                 go_ret
                 exact ⟨eW, pH HB⟩
               ·rw [if_neg c34] at H
                have c34b0 : (((rd_T52 l0 x16_1).f0) == 2) = false := beq_eq_false_iff_ne.mpr c34
                have c34b1 : (((rd_T52 l0 x16_1).f0) != 2) = true := bne_iff_ne.mpr c34
                by_cases c47 : x5_24 = true
                ·subst c47
                 rw [if_pos rfl] at H
                 by_cases c48 : x7_4 > 60
                 ·rw [if_pos c48] at H
                  have c48b0 : decide (60 < x7_4) = true := decide_eq_true c48
                  clear c48
                  obtain rfl := Option.some.inj H
                  have hcz49_0 := k30 BK103
                  have hcz49_1 := k31 BK103
                  have hcz49_2 := k32 BK103
                  have hfz49_0 := fz BK103 0
                  have hfz49_1 := fz BK103 1
                  have hfz49_2 := fz BK103 2
                  go_wp2
                  go_ret
                  exact ⟨eW, pH HB⟩
                 ·rw [if_neg c48] at H
                  have c48b0 : decide (60 < x7_4) = false := decide_eq_false c48
                  clear c48
                  replace H := Option.bind_eq_some_iff.mp H
                  obtain ⟨t112, A500, H⟩ := H
                  try dsimp only at H
                  have A50 := aK A500
                  clear A500
                  by_cases c51 : (t112.length : Int) = 0
                  ·rw [if_pos c51] at H
                   have c51b0 : ((t112.length : Int) == 0) = true := beq_iff_eq.mpr c51
                   have c51b1 : ((t112.length : Int) != 0) = false := bne_eq_false_iff_eq.mpr c51
                   clear c51
                   have H' := aK H
                   clear H
                   have hcz52_0 := k30 BK103
                   have hcz52_1 := k31 BK103
                   have hcz52_2 := k32 BK103
                   have hfz52_0 := fz BK103 0
                   have hfz52_1 := fz BK103 1
                   have hfz52_2 := fz BK103 2
                   go_wp2_with (first | (go_at_call 40; (with_reducible refine (spec_ldParts.calls k4 _ _ l0 x16_1 t112 _ ?side1 ?side2 A50.out).mono ?_); (case side1 => exact sC (Kd.C_below HR0.out HB.out)); (case side2 => exact HC0.out); rintro e w53 ⟨v113, rfl, ho0, hb⟩; have HO114 := aK (Kd.R_lower ho0 (below_size HB.out)); replace BK103 := qb BK103 hb; replace HB := qs HB hb; (try clear hb); (try clear ho0); obtain ⟨Ao54, co54, eo54⟩ := Kd.R_slice HO114.out; subst eo54))
                   go_roundg k4
                   case measure => have := HK1.out; have := HJ6.out; have := HJ24.out; have := HK4.out; omega
                   case rel => exact ⟨(wrap64 (x16_1 + 1)), rS, H', ⟨by have := HK1.out; have := HJ6.out; have := HJ24.out; have := HK4.out; omega⟩, ⟨pH HB⟩⟩
                  ·rw [if_neg c51] at H
                   have c51b0 : ((t112.length : Int) == 0) = false := beq_eq_false_iff_ne.mpr c51
                   have c51b1 : ((t112.length : Int) != 0) = true := bne_iff_ne.mpr c51
                   have c51b2 : ¬ (t112 = []) := fun h_ => c51 (by rw [h_]; rfl)
                   obtain rfl := Option.some.inj H
                   have hcz55_0 := k30 BK103
                   have hcz55_1 := k31 BK103
                   have hcz55_2 := k32 BK103
                   have hfz55_0 := fz BK103 0
                   have hfz55_1 := fz BK103 1
                   have hfz55_2 := fz BK103 2
                   go_wp2_with (first | (go_at_call 40; (with_reducible refine (spec_ldParts.calls k4 _ _ l0 x16_1 t112 _ ?side1 ?side2 A50.out).mono ?_); (case side1 => exact sC (Kd.C_below HR0.out HB.out)); (case side2 => exact HC0.out); rintro e w56 ⟨v113, rfl, ho0, hb⟩; have HO114 := aK (Kd.R_lower ho0 (below_size HB.out)); replace BK103 := qb BK103 hb; replace HB := qs HB hb; (try clear hb); (try clear ho0); obtain ⟨Ao57, co57, eo57⟩ := Kd.R_slice HO114.out; subst eo57))
                   go_ret
                   exact ⟨eW, pH HB⟩
                ·replace c47 := Bool.eq_false_iff.mpr c47
                 subst c47
                 rw [if_neg (show ¬ (false = true) by decide)] at H
                 obtain rfl := Option.some.inj H
                 have hcz58_0 := k30 BK103
                 have hcz58_1 := k31 BK103
                 have hcz58_2 := k32 BK103
                 have hfz58_0 := fz BK103 0
                 have hfz58_1 := fz BK103 1
                 have hfz58_2 := fz BK103 2
                 go_wp2
                 go_ret
                 exact ⟨eW, pH HB⟩
      ·rw [if_neg c6] at H
       exact absurd H (by simp)
     ·rw [if_neg c5] at H
      exact absurd H (by simp)
    ·rw [if_neg c4] at H
     have c4b0 : decide (x16_1 < (l0.length : Int)) = false := decide_eq_false c4
     clear c4
     obtain rfl := Option.some.inj H
     go_wp2
     go_ret
     exact ⟨eW, pH HB⟩
 ·replace c3 := Bool.eq_false_iff.mpr c3
  subst c3
  rw [if_neg (show ¬ (false = true) by decide)] at H
  obtain rfl := Option.some.inj H
  go_enter Try.func12, Try.ntmps12
  go_wp2_with (first | ((with_reducible refine gate_callee (f := 39) rfl ?_); refine goesL_ (some 12) rfl rfl Try.func39 (by kernel_rfl) rfl #[.int .i64 (l0.length : Int), .int .i64 1, .int .i64 200] rfl tA ?_; (with_reducible refine (spec_l1In.calls (l0.length : Int) 1 200 false _ A2.out).mono ?_); rintro e w' ⟨rfl, ⟨nd, rfl⟩⟩; refine ⟨_, rfl, ?_⟩))
  go_ret
  exact ⟨eW, pH HB⟩

end Go.Proofs.Ytcjhhdecckcibaa.G

namespace Go.Proofs.Ytcjhhdecckcibaa.G
open Go.RowKit Go.Proofs.YtcjhhdecckcibaaW.PrintWords Go.Proofs.YtcjhhdecckcibaaW.PrintLast Go.Proofs.YtcjhhdecckcibaaW.PrintMore
attribute [local go_sem] max2_int min2_int max_two min_two max_three min_three max_four min_four   -- for this text's walks alone
set_option linter.unusedVariables false
set_option linter.unusedSimpArgs false

namespace Flat77
mutual
def flT : S77 → Int → List S52 → List S52
 | ⟨k, n, ks⟩, up, l => flL ks (l.length : Int) (l ++ [⟨k, n, up⟩])
def flL : List S77 → Int → List S52 → List S52
 | [], _, l => l
 | x :: xs, k, l => flL xs k (if l.length ≤ 200 then flT x k l else l)
end
theorem flT_eq (x : S77) (up : Int) (l : List S52) : flT x up l = flL x.f2 (l.length : Int) (l ++ [⟨x.f0, x.f1, up⟩]) := by cases x; rw [flT]
theorem flL_cons (x : S77) (xs : List S77) (k : Int) (l : List S52) : flL (x :: xs) k l = flL xs k (if l.length ≤ 200 then flT x k l else l) := by rw [flL]
theorem flL_nil (k : Int) (l : List S52) : flL [] k l = l := by rw [flL]
theorem rd_drop (l : List S77) (i : Nat) (h : i < l.length) : l.drop i = rd_T77 l (i : Int) :: l.drop (i + 1) := by
 rw [List.drop_eq_getElem_cons h]
 congr 1
 unfold rd_T77
 rw [Int.toNat_natCast, List.getD_eq_getElem?_getD, List.getElem?_eq_getElem h]; rfl
theorem rd_mem (l : List S77) (i : Int) (h0 : 0 ≤ i) (h1 : i < l.length) : rd_T77 l i ∈ l := by
 have hlt : i.toNat < l.length := by omega
 have e : rd_T77 l i = l[i.toNat] := by unfold rd_T77; rw [List.getD_eq_getElem?_getD, List.getElem?_eq_getElem hlt]; rfl
 rw [e]; exact List.getElem_mem hlt
theorem len_of : ∀ (N : Nat), (∀ (x : S77) (up : Int) (l : List S52), SizeOf.sizeOf x ≤ N → l.length ≤ 200 → (flT x up l).length ≤ 201) ∧ (∀ (xs : List S77) (k : Int) (l : List S52), SizeOf.sizeOf xs ≤ N → l.length ≤ 201 → (flL xs k l).length ≤ 201) := by
 intro N
 induction N with
 | zero =>
  refine ⟨fun x up l h => ?_, fun xs k l h => ?_⟩
  ·cases x; simp at h
  ·cases xs <;> simp at h
 | succ N ih =>
  refine ⟨fun x up l h hl => ?_, fun xs k l h hl => ?_⟩
  ·cases x with
   | mk k n ks =>
    rw [flT]
    refine ih.2 ks _ _ (by simp at h; omega) ?_
    rw [List.length_append]; show l.length + 1 ≤ 201; omega
  ·cases xs with
   | nil => rw [flL]; exact hl
   | cons x xs =>
    rw [flL]
    have h1 : SizeOf.sizeOf x ≤ N := by simp at h; omega
    have h2 : SizeOf.sizeOf xs ≤ N := by simp at h; omega
    refine ih.2 xs k _ h2 ?_
    split
    ·exact ih.1 x k l h1 (by assumption)
    ·exact hl
theorem flT_len (x : S77) (up : Int) (l : List S52) (h : l.length ≤ 200) : (flT x up l).length ≤ 201 := (len_of _).1 x up l (Nat.le_refl _) h

set_option maxHeartbeats 4000000 in
set_option maxRecDepth 100000 in
theorem node_some (w0 : World) (a0 a1 up : Int) (ks : List S77) (A : Option Addr) (c : Nat) (l : List S52) (A0 : Option Addr) (c0 : Nat) (w : World) (hC : Kd.C k77 w0 A ks.length ks) (hc : ks.length ≤ c) (hl : l.length ≤ 200)
  (hO : Kd.R k52 52 w w0.heap.size (fun _ => True) (.slice A0 l.length c0) l) (hB : Below w0.heap.size w0 w)
  (ih : ∀ (j : Nat) (A : Option Addr) (c : Nat) (acc : List S52) (v : Value) (w : World), j < ks.length → (rd_T77 ks (j : Int)).f2.length ≤ c → acc.length ≤ 200 → Kd.R k52 52 w w0.heap.size (fun _ => True) v acc → Below w0.heap.size w0 w → Kd.C k77 w0 A (rd_T77 ks (j : Int)).f2.length (rd_T77 ks (j : Int)).f2 →
   Calls Try.prog 69 #[v, .agg #[.int .i64 (rd_T77 ks (j : Int)).f0, .int .i64 (rd_T77 ks (j : Int)).f1, .slice A (rd_T77 ks (j : Int)).f2.length c], .int .i64 (l.length : Int)] w fun e w' => ∃ v2, e = .returned v2 ∧ Kd.R k52 52 w' w0.heap.size (fun _ => True) v2 (flT (rd_T77 ks (j : Int)) (l.length : Int) acc) ∧ Below w0.heap.size w0 w') :
  Calls Try.prog 69 #[.slice A0 l.length c0, .agg #[.int .i64 a0, .int .i64 a1, .slice A ks.length c], .int .i64 up] w fun e w' => ∃ v2, e = .returned v2 ∧ Kd.R k52 52 w' w0.heap.size (fun _ => True) v2 (flL ks (l.length : Int) (l ++ [⟨a0, a1, up⟩])) ∧ Below w0.heap.size w0 w' := by
 have hu77 := Try.underlying77
 have HM := aK hC.2.1
 have HC0 := aK hC
 have HL := aK hl
 have HO := aK hO
 have HB := aK hB
 have IH := aK ih
 clear hC hl hO hB ih
 go_enter Try.func69, Try.ntmps69
 go_wp2_with (first | ((with_reducible refine gate_dst (N := 4) rfl ?_); refine bE (N := 4) (cs := #[.int .i64 a0, .int .i64 a1, .slice A ks.length c]) (t := 77) ?_; intro gb hg w5 hbox hb; have n0_ := aK (below_step HB.out hb); have n1_ := aK (hbox); have n2_ := aK (Kd.R_below HO.out hb); clear HB HO; have HB := n0_; have BK := n1_; have HO := n2_; clear n0_ n1_ n2_; clear hb hbox hg; have hcz_0 : w5.cell? ⟨gb, 0, none⟩ = some (.int .i64 a0) := (blk_cell BK.out 0).trans rfl; have hcz_1 : w5.cell? ⟨gb, 1, none⟩ = some (.int .i64 a1) := (blk_cell BK.out 1).trans rfl; have hcz_2 : w5.cell? ⟨gb, 2, none⟩ = some (.slice A ks.length c) := (blk_cell BK.out 2).trans rfl; have hfz_0 := blk_frozen BK.out 0; have hfz_1 := blk_frozen BK.out 1; have hfz_2 := blk_frozen BK.out 2) | ((with_reducible refine gate_builtin (b := .append) (xs := #[.tmp 12, .tmp 19]) rfl ?_); at_builtin; refine Kd.R_append k52 (w0 := w0) w0.heap.size rfl (.tmp 12) (.tmp 19) 25 52 (.agg #[(.int .i64 0), (.int .i64 0), (.int .i64 0)]) 24 rfl Try.underlying25 info52 rfl (by decide) (by omega) (.slice A0 l.length c0) l (⟨a0, a1, up⟩ : S52) [.int .i64 a0, .int .i64 a1, .int .i64 up] (fun _ => True) (fun _ => False) rfl (by first | (go_simp; done) | (go_simp; rfl)) ?aP (fun _ hk => hk.elim) ?aF ?aO ?aB ?aS ?aL ?_; (case aP => exact k52_mkM _ _ _ (⟨a0, a1, up⟩ : S52)); (case aB => exact HB.out); (case aF => exact (fun _ _ => trivial)); (case aO => exact HO.out); (case aS => exact (below_size HB.out)); (case aL => have := HL.out; omega); intro v1 w7 ho hb hg hat; have n0_ := aK (hb); have n1_ := aK (ho); have n2_ := aK ((hg.block gb (blk_lt BK.out) (Kd.R_ne HO.out BK.out (by decide))).trans BK.out); clear HB HO BK; clear hcz_0 hfz_0 hcz_1 hfz_1 hcz_2 hfz_2; have HB := n0_; have HO := n1_; have BK := n2_; clear n0_ n1_ n2_; clear ho hb hg hat; have hcza_0 : w7.cell? ⟨gb, 0, none⟩ = some (.int .i64 a0) := (blk_cell BK.out 0).trans rfl; have hcza_1 : w7.cell? ⟨gb, 1, none⟩ = some (.int .i64 a1) := (blk_cell BK.out 1).trans rfl; have hcza_2 : w7.cell? ⟨gb, 2, none⟩ = some (.slice A ks.length c) := (blk_cell BK.out 2).trans rfl; have hfza_0 := blk_frozen BK.out 0; have hfza_1 := blk_frozen BK.out 1; have hfza_2 := blk_frozen BK.out 2))
 go_loopg [0, 24] (ks.length + 1) (fun kq v0 v24 w' => ∃ (i : Int) (acc : List S52), v24 = .int .i64 i ∧ Aside0 (Kd.R k52 52 w' w0.heap.size (fun _ => True) v0 acc) ∧ Aside0 (0 ≤ i ∧ i ≤ ks.length ∧ (kq : Int) = ks.length - i + 1) ∧ Aside0 (acc.length ≤ 201 ∧ flL (ks.drop i.toNat) (l.length : Int) acc = flL ks (l.length : Int) (l ++ [⟨a0, a1, up⟩])) ∧ Aside0 (Below w0.heap.size w0 w'))
 case atStart => exact ⟨0, l ++ [⟨a0, a1, up⟩], rfl, HO, ⟨by omega, by omega, by omega⟩, ⟨by have := HL.out; rw [List.length_append]; show l.length + 1 ≤ 201; omega, by rw [show (0 : Int).toNat = 0 from rfl, List.drop_zero]⟩, HB⟩
 case round =>
  clear HB HO BK
  obtain ⟨i, acc, rfl, HO0, HA, HF, HB⟩ := hrel
  obtain ⟨A1, c1, rfl⟩ := Kd.R_slice HO0.out
  have HO := HO0
  clear HO0
  by_cases c2 : i < (ks.length : Int)
  ·have cb : decide (i < (ks.length : Int)) = true := decide_eq_true c2
   have cz : decide (0 ≤ i) = true := decide_eq_true HA.out.1
   obtain ⟨j, rfl⟩ : ∃ j : Nat, i = (j : Int) := ⟨i.toNat, by have := HA.out.1; omega⟩
   obtain ⟨ad, A2, c2_, e1, hx0, hx1, hx2, hl2, hi2⟩ := at_T77 (HC0.out) (j : Int) HA.out.1 c2
   cases e1
   simp only [Int.toNat_natCast] at hx0 hx1 hx2
   have HC2 := aK hl2
   have HR2 := aK hi2
   clear hl2 hi2
   replace hx0 := uC HB hx0
   replace hx1 := uC HB hx1
   replace hx2 := uC HB hx2
   have w1 : wrap64 ((j : Int) + 1) = (j : Int) + 1 := by have := HM.out; unfold wrap64; omega
   have W1 := aK w1
   have PI := aK (show j < ks.length by omega)
   have p1 := eq_true HA.out.1
   have q1 := eq_true c2
   clear c2 w1
   have e9 : flL (ks.drop j) (l.length : Int) acc = flL (ks.drop (j + 1)) (l.length : Int) (if acc.length ≤ 200 then flT (rd_T77 ks (j : Int)) (l.length : Int) acc else acc) := by rw [rd_drop ks j PI.out, flL_cons]
   have E9 := aK e9
   clear e9
   obtain ⟨k1, rfl⟩ : ∃ m, gk = m + 1 := ⟨gk - 1, by have := HA.out; have := PI.out; omega⟩
   by_cases c3 : acc.length ≤ 200
   ·have c3b : decide ((acc.length : Int) ≤ 200) = true := decide_eq_true (by omega)
    have CL := aK c3
    clear c3
    go_wp2_with (first | ((with_reducible refine gate_dst (N := 9) rfl ?_); refine bE (N := 9) (cs := #[.int .i64 0, .int .i64 0, .slice none 0 0]) (t := 77) ?_; intro g2 hg w9 hbox hb; have n0_ := aK (below_step HB.out hb); have n1_ := aK (hbox); have n2_ := aK (Kd.R_below HO.out hb); have n3_ := aK ((by rw [hg]; exact below_size HB.out : w0.heap.size ≤ g2)); have hy0 := (hb.cell (World.block_lt_of_cell? _ _ hx0)).trans hx0; have hy1 := (hb.cell (World.block_lt_of_cell? _ _ hx1)).trans hx1; have hy2 := (hb.cell (World.block_lt_of_cell? _ _ hx2)).trans hx2; clear hx0 hx1 hx2; have hx0 := hy0; have hx1 := hy1; have hx2 := hy2; clear hy0 hy1 hy2; clear HB HO; have HB := n0_; have BK2 := n1_; have HO := n2_; have GE2 := n3_; clear n0_ n1_ n2_ n3_; clear hb hbox hg; have hczb_0 : w9.cell? ⟨g2, 0, none⟩ = some (.int .i64 0) := (blk_cell BK2.out 0).trans rfl; have hczb_1 : w9.cell? ⟨g2, 1, none⟩ = some (.int .i64 0) := (blk_cell BK2.out 1).trans rfl; have hczb_2 : w9.cell? ⟨g2, 2, none⟩ = some (.slice none 0 0) := (blk_cell BK2.out 2).trans rfl; have hfzb_0 := blk_frozen BK2.out 0; have hfzb_1 := blk_frozen BK2.out 1; have hfzb_2 := blk_frozen BK2.out 2) | ((with_reducible refine gate_callee (f := 69) rfl ?_); refine goesL_ (some 34) rfl rfl Try.func69 (by kernel_rfl) rfl #[.slice A1 acc.length c1, .agg #[.int .i64 (rd_T77 ks (j : Int)).f0, .int .i64 (rd_T77 ks (j : Int)).f1, .slice A2 (rd_T77 ks (j : Int)).f2.length c2_], .int .i64 (l.length : Int)] rfl tA ?_; refine (IH.out j A2 c2_ acc (.slice A1 acc.length c1) _ (PI.out) HC2.out (by have := CL.out; omega) (Kd.R_mono (Kd.R_far (p := ⟨g2, 2, none⟩) (Kd.R_far (p := ⟨g2, 1, none⟩) (Kd.R_far (p := ⟨g2, 0, none⟩) (Kd.R_types HO.out BK2.out (by decide)) (fun _ hk => hk.2) (.int .i64 (rd_T77 ks (j : Int)).f0)) (fun _ hk => hk.2) (.int .i64 (rd_T77 ks (j : Int)).f1)) (fun _ hk => hk.2) (.slice A2 (rd_T77 ks (j : Int)).f2.length c2_)) (fun _ hk => hk.1)) (below_set (below_set (below_set HB.out GE2.out) GE2.out) GE2.out) HR2.out).mono ?_; rintro e w7 ⟨v2, rfl, ho2, hb2⟩; refine ⟨_, rfl, ?_⟩; have n0_ := aK hb2; have n1_ := aK ho2; clear HB HO BK2; have HB := n0_; have HO := n1_; clear n0_ n1_; clear ho2 hb2))
    go_roundg k1
    case measure => omega
    case rel => exact ⟨(j : Int) + 1, _, by first | rfl | rw [W1.out], HO, ⟨by have := HA.out; omega, by have := PI.out; omega, by have := HA.out; omega⟩, ⟨flT_len _ _ _ CL.out, by rw [← HF.out.2, show ((j : Int) + 1).toNat = j + 1 by omega, show ((j : Int)).toNat = j by omega, E9.out, if_pos CL.out]⟩, HB⟩
   ·have c3b : decide ((acc.length : Int) ≤ 200) = false := decide_eq_false (by omega)
    have CL := aK c3
    clear c3
    go_wp2_with ((with_reducible refine gate_dst (N := 9) rfl ?_); refine bE (N := 9) (cs := #[.int .i64 0, .int .i64 0, .slice none 0 0]) (t := 77) ?_; intro g2 hg w9 hbox hb; have n0_ := aK (below_step HB.out hb); have n1_ := aK (hbox); have n2_ := aK (Kd.R_below HO.out hb); have n3_ := aK ((by rw [hg]; exact below_size HB.out : w0.heap.size ≤ g2)); have hy0 := (hb.cell (World.block_lt_of_cell? _ _ hx0)).trans hx0; have hy1 := (hb.cell (World.block_lt_of_cell? _ _ hx1)).trans hx1; have hy2 := (hb.cell (World.block_lt_of_cell? _ _ hx2)).trans hx2; clear hx0 hx1 hx2; have hx0 := hy0; have hx1 := hy1; have hx2 := hy2; clear hy0 hy1 hy2; clear HB HO; have HB := n0_; have BK2 := n1_; have HO := n2_; have GE2 := n3_; clear n0_ n1_ n2_ n3_; clear hb hbox hg; have hczb_0 : w9.cell? ⟨g2, 0, none⟩ = some (.int .i64 0) := (blk_cell BK2.out 0).trans rfl; have hczb_1 : w9.cell? ⟨g2, 1, none⟩ = some (.int .i64 0) := (blk_cell BK2.out 1).trans rfl; have hczb_2 : w9.cell? ⟨g2, 2, none⟩ = some (.slice none 0 0) := (blk_cell BK2.out 2).trans rfl; have hfzb_0 := blk_frozen BK2.out 0; have hfzb_1 := blk_frozen BK2.out 1; have hfzb_2 := blk_frozen BK2.out 2)
    go_roundg k1
    case measure => omega
    case rel => exact ⟨(j : Int) + 1, acc, by first | rfl | rw [W1.out], ⟨(Kd.R_mono (Kd.R_far (p := ⟨g2, 2, none⟩) (Kd.R_far (p := ⟨g2, 1, none⟩) (Kd.R_far (p := ⟨g2, 0, none⟩) (Kd.R_types HO.out BK2.out (by decide)) (fun _ hk => hk.2) (.int .i64 (rd_T77 ks (j : Int)).f0)) (fun _ hk => hk.2) (.int .i64 (rd_T77 ks (j : Int)).f1)) (fun _ hk => hk.2) (.slice A2 (rd_T77 ks (j : Int)).f2.length c2_)) (fun _ hk => hk.1))⟩, ⟨by have := HA.out; omega, by have := PI.out; omega, by have := HA.out; omega⟩, ⟨HF.out.1, by rw [← HF.out.2, show ((j : Int) + 1).toNat = j + 1 by omega, show ((j : Int)).toNat = j by omega, E9.out, if_neg CL.out]⟩, ⟨(below_set (below_set (below_set HB.out GE2.out) GE2.out) GE2.out)⟩⟩
  ·have cb : decide (i < (ks.length : Int)) = false := decide_eq_false c2
   have hi : i.toNat = ks.length := by have := HA.out; omega
   have e := HF.out.2
   rw [hi, List.drop_length, flL_nil] at e
   have E := aK e
   clear c2 hi e
   go_wp2
   go_ret
   exact ⟨_, rfl, by rw [← E.out]; exact HO.out, HB.out⟩

theorem flat_some (w0 : World) : ∀ (N : Nat) (x : S77) (up : Int) (A : Option Addr) (c : Nat) (l : List S52) (v : Value) (w : World), SizeOf.sizeOf x.f2 ≤ N → x.f2.length ≤ c → l.length ≤ 200 → Kd.R k52 52 w w0.heap.size (fun _ => True) v l → Below w0.heap.size w0 w → Kd.C k77 w0 A x.f2.length x.f2 →
  Calls Try.prog 69 #[v, .agg #[.int .i64 x.f0, .int .i64 x.f1, .slice A x.f2.length c], .int .i64 up] w fun e w' => ∃ v2, e = .returned v2 ∧ Kd.R k52 52 w' w0.heap.size (fun _ => True) v2 (flT x up l) ∧ Below w0.heap.size w0 w' := by
 intro N
 induction N with
 | zero =>
  intro x up A c l v w hN
  cases h : x.f2 with
  | nil => rw [h] at hN; simp at hN
  | cons y ys => rw [h] at hN; simp at hN
 | succ N ih =>
  intro x up A c l v w hN hc hl hO hB hC
  obtain ⟨A0, c0, rfl⟩ := Kd.R_slice hO
  rw [flT_eq]
  refine node_some w0 x.f0 x.f1 up x.f2 A c l A0 c0 w hC hc hl hO hB fun j A2 c2 acc v2 w2 hj hc2 hacc hO2 hB2 hC2 => ?_
  refine ih (rd_T77 x.f2 (j : Int)) (l.length : Int) A2 c2 acc v2 w2 ?_ hc2 hacc hO2 hB2 hC2
  have h1 := List.sizeOf_lt_of_mem (rd_mem x.f2 (j : Int) (by omega) (by omega))
  have h2 : ∀ y : S77, SizeOf.sizeOf y.f2 < SizeOf.sizeOf y := fun y => by cases y; simp; omega
  have h3 := h2 (rd_T77 x.f2 (j : Int))
  omega
end Flat77

def spec_ldTold.f (k : Nat) (a0_0 : Int) (a0_1 : Int) (l0_2 : List (S77)) : Option ((List (S52)) × Bool) := (spec_GoodComb.f k (Flat77.flT ⟨a0_0, a0_1, l0_2⟩ (-1) [])).bind fun b => (if b = true then (some (Flat77.flT ⟨a0_0, a0_1, l0_2⟩ (-1) [], true)) else (some (([] : List S52), false)))
set_option maxHeartbeats 4000000 in
set_option maxRecDepth 100000 in
theorem spec_ldTold.calls (k : Nat) (a0_0 : Int) (a0_1 : Int) (A0_2 : Option Addr) (c0_2 : Nat) (l0_2 : List (S77)) (r1 : List (S52)) (r2 : Bool) (w : World) (hr0_2 : Kd.C k77 w A0_2 l0_2.length l0_2) (hc0_2 : l0_2.length ≤ c0_2) (h : spec_ldTold.f k a0_0 a0_1 l0_2 = some (r1, r2)) :
  Calls Try.prog 50 #[.agg #[.int .i64 a0_0, .int .i64 a0_1, .slice A0_2 l0_2.length c0_2]] w fun e w' => ∃ v0_ : Value, e = .returned (.tuple #[v0_, .bool r2]) ∧ Kd.R k52 52 w' w.heap.size (fun _ => True) v0_ r1 ∧ Below w.heap.size w w' := by
 have hu77 := Try.underlying77
 have HR0 := aK hr0_2
 have HC0 := aK hc0_2
 clear hr0_2 hc0_2
 have HB := aK (Below.refl w.heap.size w)
 have H : ((spec_GoodComb.f k (Flat77.flT ⟨a0_0, a0_1, l0_2⟩ (-1) [])).bind fun b => (if b = true then (some (Flat77.flT ⟨a0_0, a0_1, l0_2⟩ (-1) [], true)) else (some (([] : List S52), false)))) = some (r1, r2) := h
 clear h
 replace H := Option.bind_eq_some_iff.mp H
 obtain ⟨b, HG0, H⟩ := H
 have HG := aK HG0
 clear HG0
 cases b with
 | true =>
  rw [if_pos rfl] at H
  simp only [Option.some.injEq, Prod.mk.injEq] at H
  obtain ⟨rfl, rfl⟩ := H
  go_enter Try.func50, Try.ntmps50
  go_wp2_with (first | ((with_reducible refine gate_dst (N := 1) rfl ?_); refine bE (N := 1) (cs := #[.int .i64 a0_0, .int .i64 a0_1, .slice A0_2 l0_2.length c0_2]) (t := 77) ?_; intro gb hg w5 hbox hb; have n0_ := aK (below_step HB.out hb); have BK := aK hbox; clear HB; have HB := n0_; clear n0_; clear hb hbox hg; have hcz_0 : w5.cell? ⟨gb, 0, none⟩ = some (.int .i64 a0_0) := (blk_cell BK.out 0).trans rfl; have hcz_1 : w5.cell? ⟨gb, 1, none⟩ = some (.int .i64 a0_1) := (blk_cell BK.out 1).trans rfl; have hcz_2 : w5.cell? ⟨gb, 2, none⟩ = some (.slice A0_2 l0_2.length c0_2) := (blk_cell BK.out 2).trans rfl; have hfz_0 := blk_frozen BK.out 0; have hfz_1 := blk_frozen BK.out 1; have hfz_2 := blk_frozen BK.out 2) | ((with_reducible refine gate_callee (f := 69) rfl ?_); refine goesL_ (some 6) rfl rfl Try.func69 (by kernel_rfl) rfl #[.slice none 0 0, .agg #[.int .i64 a0_0, .int .i64 a0_1, .slice A0_2 l0_2.length c0_2], .int .i64 (-1)] rfl tA ?_; refine (Flat77.flat_some w (SizeOf.sizeOf l0_2) (⟨a0_0, a0_1, l0_2⟩ : S77) (-1) A0_2 c0_2 [] (.slice none 0 0) _ (Nat.le_refl _) HC0.out (by simp) (Kd.R_nil _ _ _ _ _) HB.out HR0.out).mono ?_; rintro e w7 ⟨v2, rfl, ho2, hb2⟩; refine ⟨_, rfl, ?_⟩; obtain ⟨A1, c1, rfl⟩ := Kd.R_slice ho2; have n0_ := aK hb2; have n1_ := aK ho2; clear HB BK; have HB := n0_; have HO := n1_; clear n0_ n1_; clear ho2 hb2) | ((with_reducible refine gate_callee (f := 12) rfl ?_); refine goesL_ (some 8) rfl rfl Try.func12 (by kernel_rfl) rfl #[.slice A1 (Flat77.flT (⟨a0_0, a0_1, l0_2⟩ : S77) (-1) []).length c1] rfl tA ?_; refine (spec_GoodComb.calls k _ _ _ true _ (Kd.R_reads' HO.out).2.2 (Kd.R_reads' HO.out).2.1 HG.out).mono ?_; rintro e w8 ⟨rfl, hb⟩; refine ⟨_, rfl, ?_⟩; have n0_ := aK (below_step HB.out hb); have n1_ := aK (Kd.R_below HO.out hb); clear HB HO; have HB := n0_; have HO := n1_; clear n0_ n1_; clear hb))
  go_ret2
  exact ⟨_, rfl, HO.out, HB.out⟩
 | false =>
  rw [if_neg (by decide)] at H
  simp only [Option.some.injEq, Prod.mk.injEq] at H
  obtain ⟨rfl, rfl⟩ := H
  go_enter Try.func50, Try.ntmps50
  go_wp2_with (first | ((with_reducible refine gate_dst (N := 1) rfl ?_); refine bE (N := 1) (cs := #[.int .i64 a0_0, .int .i64 a0_1, .slice A0_2 l0_2.length c0_2]) (t := 77) ?_; intro gb hg w5 hbox hb; have n0_ := aK (below_step HB.out hb); have BK := aK hbox; clear HB; have HB := n0_; clear n0_; clear hb hbox hg; have hcz_0 : w5.cell? ⟨gb, 0, none⟩ = some (.int .i64 a0_0) := (blk_cell BK.out 0).trans rfl; have hcz_1 : w5.cell? ⟨gb, 1, none⟩ = some (.int .i64 a0_1) := (blk_cell BK.out 1).trans rfl; have hcz_2 : w5.cell? ⟨gb, 2, none⟩ = some (.slice A0_2 l0_2.length c0_2) := (blk_cell BK.out 2).trans rfl; have hfz_0 := blk_frozen BK.out 0; have hfz_1 := blk_frozen BK.out 1; have hfz_2 := blk_frozen BK.out 2) | ((with_reducible refine gate_callee (f := 69) rfl ?_); refine goesL_ (some 6) rfl rfl Try.func69 (by kernel_rfl) rfl #[.slice none 0 0, .agg #[.int .i64 a0_0, .int .i64 a0_1, .slice A0_2 l0_2.length c0_2], .int .i64 (-1)] rfl tA ?_; refine (Flat77.flat_some w (SizeOf.sizeOf l0_2) (⟨a0_0, a0_1, l0_2⟩ : S77) (-1) A0_2 c0_2 [] (.slice none 0 0) _ (Nat.le_refl _) HC0.out (by simp) (Kd.R_nil _ _ _ _ _) HB.out HR0.out).mono ?_; rintro e w7 ⟨v2, rfl, ho2, hb2⟩; refine ⟨_, rfl, ?_⟩; obtain ⟨A1, c1, rfl⟩ := Kd.R_slice ho2; have n0_ := aK hb2; have n1_ := aK ho2; clear HB BK; have HB := n0_; have HO := n1_; clear n0_ n1_; clear ho2 hb2) | ((with_reducible refine gate_callee (f := 12) rfl ?_); refine goesL_ (some 8) rfl rfl Try.func12 (by kernel_rfl) rfl #[.slice A1 (Flat77.flT (⟨a0_0, a0_1, l0_2⟩ : S77) (-1) []).length c1] rfl tA ?_; refine (spec_GoodComb.calls k _ _ _ false _ (Kd.R_reads' HO.out).2.2 (Kd.R_reads' HO.out).2.1 HG.out).mono ?_; rintro e w8 ⟨rfl, hb⟩; refine ⟨_, rfl, ?_⟩; have n0_ := aK (below_step HB.out hb); have n1_ := aK (Kd.R_below HO.out hb); clear HB HO; have HB := n0_; have HO := n1_; clear n0_ n1_; clear hb))
  go_ret2
  exact ⟨_, rfl, Kd.R_nil _ _ _ _ _, HB.out⟩
end Go.Proofs.Ytcjhhdecckcibaa.G

namespace Go.Proofs.Ytcjhhdecckcibaa.G
open Go.RowKit Go.Proofs.YtcjhhdecckcibaaW.PrintWords Go.Proofs.YtcjhhdecckcibaaW.PrintLast Go.Proofs.YtcjhhdecckcibaaW.PrintMore
attribute [local go_sem] max2_int min2_int max_two min_two max_three min_three max_four min_four   -- for this text's walks alone
set_option linter.unusedVariables false
set_option linter.unusedSimpArgs false

mutual
def spec_ldTree.l0 : Nat → List (S52) → List Int → Int → Int → Int → Int → List (S77) → Option (Int × Int × (List (S77)))
 | 0, _, _, _, _, _, _, _ => none
 | k + 1, x0, x21, x22, x23, x105000, x105001, x105002 => if x23 < x22 then (if 0 ≤ x23 then (if x23 < (x21.length : Int) then ((spec_ldTree.f k x0 (rd x21 x23)).bind fun bt109 => (if x105002.length < 3518437208883 then (spec_ldTree.l0 k x0 x21 x22 (wrap64 (x23 + 1)) x105000 x105001 (x105002 ++ [(⟨bt109.1, bt109.2.1, bt109.2.2⟩ : S77)])) else (none))) else (none)) else (none)) else (some (x105000, x105001, x105002))
def spec_ldTree.f : Nat → List (S52) → Int → Option (Int × Int × (List (S77)))
 | 0, _, _ => none
 | k + 1, l0, a1 => if 0 ≤ a1 then (if a1 < (l0.length : Int) then ((spec_ldParts.f k l0 a1).bind fun t105 => (spec_ldTree.l0 k l0 t105 (t105.length : Int) 0 ((rd_T52 l0 a1).f0) ((rd_T52 l0 a1).f1) ([] : List (S77)))) else (none)) else (none)
end
def spec_ldTree.T1 : Bool × List (List Nat × List Nat) := (true, [([], []), ([], []), ([0, 1], [0, 1]), ([2], [2]), ([3], [3]), ([], []), ([], []), ([5, 6], [5, 6]), ([7], [7]), ([8], [8]), ([4, 9], [4, 9]), ([], []), ([11, 10, 0, 1, 2, 3, 4, 5, 6, 7, 8, 9, 10, 11], [10, 11])])
def spec_ldTree.B1 : List Nat := [0, 0, 3, 7, 15, 0, 0, 96, 224, 480, 1023, 0, 4095]
theorem spec_ldTree.tab1 : rtab .any (opsOf Try.f52 1) = spec_ldTree.T1 := by kernel_rfl
theorem spec_ldTree.bits1 : waitsOk spec_ldTree.T1.2 spec_ldTree.B1 = true := by kernel_rfl
def spec_ldTree.T5 : Bool × List (List Nat × List Nat) := (true, [([], []), ([0], [0]), ([], []), ([], []), ([2, 3], [2, 3]), ([4], [4]), ([1, 5, 4], [1, 5]), ([0, 1, 2, 3, 4, 5, 6], []), ([7, 6, 6, 0, 1, 2, 3, 4, 5, 6], [6, 7])])
def spec_ldTree.B5 : List Nat := [0, 1, 0, 0, 12, 28, 63, 127, 255]
theorem spec_ldTree.tab5 : rtab .any (opsOf Try.f52 5) = spec_ldTree.T5 := by kernel_rfl
theorem spec_ldTree.bits5 : waitsOk spec_ldTree.T5.2 spec_ldTree.B5 = true := by kernel_rfl
set_option maxHeartbeats 8000000 in
set_option maxRecDepth 100000 in
theorem spec_ldTree.calls (k : Nat) : ∀ (A0 : Option Addr) (c0 : Nat) (l0 : List (S52)) (a1 : Int) (r1 : Int) (r2 : Int) (r3 : List (S77)) (w : World) (hr0 : Kd.C k52 w A0 l0.length l0) (hc0 : l0.length ≤ c0) (h : spec_ldTree.f k l0 a1 = some (r1, r2, r3)),
  Calls Try.prog 52 #[.slice A0 l0.length c0, .int .i64 a1] w fun e w' => ∃ v2_ : Value, e = .returned (.agg #[.int .i64 r1, .int .i64 r2, v2_]) ∧ Kd.R k77 77 w' w.heap.size (fun _ => True) v2_ r3 ∧ Below w.heap.size w w' := by
 induction k using Nat.strongRecOn with
 | _ k ih =>
 intro A0 c0 l0 a1 r1 r2 r3 w hr0 hc0 h
 cases k with
 | zero => exact absurd h (by simp [spec_ldTree.f])
 | succ k =>
 simp only [spec_ldTree.f] at h
 have hu77 := Try.underlying77
 have HR0 := aK hr0
 have HC0 := aK hc0
 clear hr0 hc0
 have HB := aK (Below.refl w.heap.size w)
 have H : (if 0 ≤ a1 then (if a1 < (l0.length : Int) then ((spec_ldParts.f k l0 a1).bind fun t105 => (spec_ldTree.l0 k l0 t105 (t105.length : Int) 0 ((rd_T52 l0 a1).f0) ((rd_T52 l0 a1).f1) ([] : List (S77)))) else (none)) else (none)) = some (r1, r2, r3) := h
 clear h
 by_cases c3 : 0 ≤ a1
 ·rw [if_pos c3] at H
  have c3b0 : decide (0 ≤ a1) = true := decide_eq_true c3
  clear c3
  by_cases c4 : a1 < (l0.length : Int)
  ·rw [if_pos c4] at H
   have c4b0 : decide (a1 < (l0.length : Int)) = true := decide_eq_true c4
   clear c4
   replace H := Option.bind_eq_some_iff.mp H
   obtain ⟨t105, A50, H⟩ := H
   try dsimp only at H
   have A5 := aK A50
   clear A50
   have H' := aK H
   clear H
   go_enter Try.func52, Try.ntmps52
   try go_wp2_with (first | ((with_reducible refine gate_dst (N := 4) rfl ?_); refine bE (N := 4) (cs := #[.int .i64 0, .int .i64 0, .slice none 0 0]) (t := 77) ?_; intro gb101 hg w6 hbox hb; have GW101 := qw HB hg; have GE101 := qw HB hg; have BK101 := aK hbox; replace HB := qs HB hb; clear hb hbox hg))
   have n0_ := aK (blk_drew BK101.out)
   have n1_ := aK (below_drew1 HB.out)
   clear BK101
   clear HB
   have BK101 := n0_
   have HB := n1_
   clear n0_ n1_
   have p102 : 0 ≤ (a1 : Int) := dA
   have q102 : a1 < (l0.length : Int) := dA
   obtain ⟨ad102, e102, hx102_0, hx102_1, hx102_2⟩ := at_T52 HR0.out a1 p102 q102
   have hw102_2 := hx102_2
   have hw102_1 := hx102_1
   have hw102_0 := hx102_0
   cases e102
   replace hx102_0 := uC HB hx102_0
   replace hx102_1 := uC HB hx102_1
   replace hx102_2 := uC HB hx102_2
   replace p102 := eq_true p102
   replace q102 := eq_true q102
   have p103 : 0 ≤ (a1 : Int) := dA
   have q103 : a1 < (l0.length : Int) := dA
   obtain ⟨ad103, e103, hx103_0, hx103_1, hx103_2⟩ := at_T52 HR0.out a1 p103 q103
   have hw103_2 := hx103_2
   have hw103_1 := hx103_1
   have hw103_0 := hx103_0
   obtain rfl : ad102 = ad103 := (by injection e103)
   replace hx103_0 := uC HB hx103_0
   replace hx103_1 := uC HB hx103_1
   replace hx103_2 := uC HB hx103_2
   replace p103 := eq_true p103
   replace q103 := eq_true q103
   refine start_ (n := 13) (S := fun w' => w'.cell? (ad102.add ((a1).toNat * 3)) = some (.int .i64 ((rd_T52 l0 a1).f0)) ∧ w'.cell? ⟨(ad102.add ((a1).toNat * 3)).block, (ad102.add ((a1).toNat * 3)).off + 1, none⟩ = some (.int .i64 ((rd_T52 l0 a1).f1)) ∧ w'.cell? ⟨(ad102.add ((a1).toNat * 3)).block, (ad102.add ((a1).toNat * 3)).off + 2, none⟩ = some (.int .i64 ((rd_T52 l0 a1).f2)) ∧ w'.cell? (ad102.add ((a1).toNat * 3)) = some (.int .i64 ((rd_T52 l0 a1).f0)) ∧ w'.cell? ⟨(ad102.add ((a1).toNat * 3)).block, (ad102.add ((a1).toNat * 3)).off + 1, none⟩ = some (.int .i64 ((rd_T52 l0 a1).f1)) ∧ w'.cell? ⟨(ad102.add ((a1).toNat * 3)).block, (ad102.add ((a1).toNat * 3)).off + 2, none⟩ = some (.int .i64 ((rd_T52 l0 a1).f2))) (ds := []) (bs 0 13) (by kernel_rfl) rfl rfl ⟨(uC HB hw102_0), (uC HB hw102_1), (uC HB hw102_2), (uC HB hw103_0), (uC HB hw103_1), (uC HB hw103_2)⟩ (fun hHeld => ?_); refine with_tabW spec_ldTree.tab1 spec_ldTree.bits1 (fun HT_ HW_ => ?_)
   generalize w6.drew = w7 at BK101 HB hx102_0 hx102_1 hx102_2 hx103_0 hx103_1 hx103_2 hHeld ⊢
   refine pure_ (i := 0) (N := some 8) (v := ?_) (a' := ?_) (bs 1 12) rfl rfl (any_of HT_.out (by kernel_rfl)) (fun _ _ _ h => h) (Or.inl ⟨by rfl, ?_⟩) ?_ ?_
   rotate_left
   ·intro w'
    go_simp
    with_reducible rfl
   rotate_left
   ·simp only [sP, i64_w, i32_w]
    rfl
   refine pure_ (i := 1) (N := some 9) (v := ?_) (a' := ?_) (bs 2 11) rfl rfl (any_of HT_.out (by kernel_rfl)) (fun _ _ _ h => h) (Or.inl ⟨by rfl, ?_⟩) ?_ ?_
   rotate_left
   ·intro w'
    go_simp
    with_reducible rfl
   rotate_left
   ·simp only [sP, i64_w, i32_w]
    rfl
   refine pure_ (i := 2) (N := some 10) (v := ?_) (a' := ?_) (bs 3 10) rfl rfl (any_of HT_.out (by kernel_rfl)) (fun _ _ _ h => h) (Or.inl ⟨by rfl, ?_⟩) ?_ ?_
   rotate_left
   ·intro w'
    go_simp
    with_reducible rfl
   rotate_left
   ·simp only [sP, i64_w, i32_w]
    rfl
   refine pure_ (i := 3) (N := some 11) (v := ?_) (a' := ?_) (bs 4 9) rfl rfl (any_of HT_.out (by kernel_rfl)) (fun _ _ _ h => h) (Or.inl ⟨by rfl, ?_⟩) ?_ ?_
   rotate_left
   ·intro w'
    go_simp
    with_reducible rfl
   rotate_left
   ·simp only [sP, i64_w, i32_w]
    rfl
   refine pure_ (i := 5) (N := some 13) (v := ?_) (a' := ?_) #[true, true, true, true, false, true, false, false, false, false, false, false, false] rfl rfl (any_of HT_.out (by kernel_rfl)) (fun _ _ _ h => h) (Or.inl ⟨by rfl, ?_⟩) ?_ ?_
   rotate_left
   ·intro w'
    go_simp
    with_reducible rfl
   rotate_left
   ·simp only [sP, i64_w, i32_w]
    rfl
   refine pure_ (i := 6) (N := some 14) (v := ?_) (a' := ?_) #[true, true, true, true, false, true, true, false, false, false, false, false, false] rfl rfl (any_of HT_.out (by kernel_rfl)) (fun _ _ _ h => h) (Or.inl ⟨by rfl, ?_⟩) ?_ ?_
   rotate_left
   ·intro w'
    go_simp
    with_reducible rfl
   rotate_left
   ·simp only [sP, i64_w, i32_w]
    rfl
   refine pure_ (i := 7) (N := some 15) (v := ?_) (a' := ?_) #[true, true, true, true, false, true, true, true, false, false, false, false, false] rfl rfl (any_of HT_.out (by kernel_rfl)) (fun _ _ _ h => h) (Or.inl ⟨by rfl, ?_⟩) ?_ ?_
   rotate_left
   ·intro w'
    go_simp
    with_reducible rfl
   rotate_left
   ·simp only [sP, i64_w, i32_w]
    rfl
   refine pure_ (i := 8) (N := some 16) (v := ?_) (a' := ?_) #[true, true, true, true, false, true, true, true, true, false, false, false, false] rfl rfl (any_of HT_.out (by kernel_rfl)) (fun _ _ _ h => h) (Or.inl ⟨by rfl, ?_⟩) ?_ ?_
   rotate_left
   ·intro w'
    go_simp
    with_reducible rfl
   rotate_left
   ·simp only [sP, i64_w, i32_w]
    rfl
   refine take_ (i := 4) (N := some 12) (v := ?_) (a' := ?_) (bs 9 4) rfl rfl (take_ofW HT_.out HW_.out (by kernel_rfl)) (fun _ _ _ h => h) (Or.inl ⟨by rfl, ?_⟩) hHeld ?_ ?_
   rotate_left
   ·rintro w' ⟨s0, s1, s2, s3, s4, s5⟩
    go_simp
    with_reducible rfl
   rotate_left
   ·simp only [sP, i64_w, i32_w]
    rfl
   refine take_ (i := 9) (N := some 17) (v := ?_) (a' := ?_) (bs 10 3) rfl rfl (take_ofW HT_.out HW_.out (by kernel_rfl)) (fun _ _ _ h => h) (Or.inl ⟨by rfl, ?_⟩) hHeld ?_ ?_
   rotate_left
   ·rintro w' ⟨s0, s1, s2, s3, s4, s5⟩
    go_simp
    with_reducible rfl
   rotate_left
   ·simp only [sP, i64_w, i32_w]
    rfl
   refine pure_ (i := 10) (N := some 18) (v := ?_) (a' := ?_) (bs 11 2) rfl rfl (any_of HT_.out (by kernel_rfl)) (fun _ _ _ h => h) (Or.inl ⟨by rfl, ?_⟩) ?_ ?_
   rotate_left
   ·intro w'
    go_simp
    with_reducible rfl
   rotate_left
   ·simp only [sP, i64_w, i32_w]
    rfl
   refine one_ (i := 11) (N := some 5) (bs 12 1) rfl rfl (one_of HT_.out (by kernel_rfl)) (by decide) (fun K hK => ?_)
   refine box_step ?hg (N := 5) ?hd (cs := #[.int .i64 0, .int .i64 0, .slice none 0 0]) (t := 77) ?hr ?_; (case hd => rfl); (case hg => rfl); (case hr => go_simp)
   intro gb104 hg w8 hbox hb
   have n0_ := aK (blk_below BK101.out hb)
   have n1_ := aK (below_step (pH HB) hb)
   have n2_ := aK (hbox)
   have n3_ := aK ((by rw [hg]; exact (below_size (pH HB)) : w.heap.size ≤ gb104))
   have n4_ := aK ((by rw [hg]; exact (below_size (pH HB)) : w.heap.size ≤ gb104))
   have n5_ := aK ((by rw [hg]; exact Nat.ne_of_lt (blk_lt BK101.out) : gb101 ≠ gb104))
   have n6_ := aK ((by rw [hg]; exact Nat.ne_of_gt (blk_lt BK101.out) : gb104 ≠ gb101))
   clear BK101
   clear HB
   have BK101 := n0_
   have HB := n1_
   have BK104 := n2_
   have GW104 := n3_
   have GE104 := n4_
   have NB101_104 := n5_
   have NB104_101 := n6_
   clear n0_ n1_ n2_ n3_ n4_ n5_ n6_
   clear hb hbox hg
   refine hK.out _ _ ⟨(uC HB hw102_0), (uC HB hw102_1), (uC HB hw102_2), (uC HB hw103_0), (uC HB hw103_1), (uC HB hw103_2)⟩ (fun hHeld => ?_)
   clear hK K
   refine norm_ (a' := ?_) ?_ ?_
   rotate_left
   ·show Act.put _ (some 5) _ = _
    simp only [sP, i64_w, i32_w]
    rfl
   refine one_ (i := 12) (N := none) (bs 13 0) rfl rfl (one_of HT_.out (by kernel_rfl)) (by decide) (fun K hK => ?_)
   have hs9 : w8.cell? ⟨gb104, 0, none⟩ = some (.int .i64 0) := (blk_cell BK104.out 0).trans rfl
   have hfs9 := blk_frozen BK104.out 0
   have hns9_0 := NB101_104.out
   have hms9_0 := NB104_101.out
   have hs10 : w8.cell? ⟨gb104, 1, none⟩ = some (.int .i64 0) := (blk_cell BK104.out 1).trans rfl
   have hfs10 := blk_frozen BK104.out 1
   have hns10_0 := NB101_104.out
   have hms10_0 := NB104_101.out
   have hs11 : w8.cell? ⟨gb104, 2, none⟩ = some (.slice none 0 0) := (blk_cell BK104.out 2).trans rfl
   have hfs11 := blk_frozen BK104.out 2
   have hns11_0 := NB101_104.out
   have hms11_0 := NB104_101.out
   refine skip_ (w1 := ?_) (by rfl) rfl ?_ ?_
   rotate_left
   ·go_simp
    rfl
   refine hK.out _ _ ⟨((cell_far (p := ⟨gb104, _, none⟩) (nG hw102_0 GW104) _).trans (((cell_far (p := ⟨gb104, _, none⟩) (nG hw102_0 GW104) _).trans (((cell_far (p := ⟨gb104, _, none⟩) (nG hw102_0 GW104) _).trans (hHeld.1)))))), ((cell_far (p := ⟨gb104, _, none⟩) (nG hw102_1 GW104) _).trans (((cell_far (p := ⟨gb104, _, none⟩) (nG hw102_1 GW104) _).trans (((cell_far (p := ⟨gb104, _, none⟩) (nG hw102_1 GW104) _).trans (hHeld.2.1)))))), ((cell_far (p := ⟨gb104, _, none⟩) (nG hw102_2 GW104) _).trans (((cell_far (p := ⟨gb104, _, none⟩) (nG hw102_2 GW104) _).trans (((cell_far (p := ⟨gb104, _, none⟩) (nG hw102_2 GW104) _).trans (hHeld.2.2.1)))))), ((cell_far (p := ⟨gb104, _, none⟩) (nG hw103_0 GW104) _).trans (((cell_far (p := ⟨gb104, _, none⟩) (nG hw103_0 GW104) _).trans (((cell_far (p := ⟨gb104, _, none⟩) (nG hw103_0 GW104) _).trans (hHeld.2.2.2.1)))))), ((cell_far (p := ⟨gb104, _, none⟩) (nG hw103_1 GW104) _).trans (((cell_far (p := ⟨gb104, _, none⟩) (nG hw103_1 GW104) _).trans (((cell_far (p := ⟨gb104, _, none⟩) (nG hw103_1 GW104) _).trans (hHeld.2.2.2.2.1)))))), ((cell_far (p := ⟨gb104, _, none⟩) (nG hw103_2 GW104) _).trans (((cell_far (p := ⟨gb104, _, none⟩) (nG hw103_2 GW104) _).trans (((cell_far (p := ⟨gb104, _, none⟩) (nG hw103_2 GW104) _).trans (hHeld.2.2.2.2.2))))))⟩ (fun hHeld => ?_)
   clear hK K
   refine done_ (done_of HT_.out (by kernel_rfl)) ?_
   try go_wp2_with (first | ((with_reducible refine gate_callee (f := 40) rfl ?_); refine goesL_ (some 21) rfl rfl Try.func40 (by kernel_rfl) rfl #[.slice (some ad102) l0.length c0, .int .i64 a1] rfl tA ?_; (with_reducible refine (spec_ldParts.calls k _ _ l0 a1 t105 _ ?side1 ?side2 A5.out).mono ?_); (case side1 => exact Kd.C_below HR0.out (pH HB)); (case side2 => exact HC0.out); rintro e w12 ⟨v106, rfl, ho0, hb⟩; refine ⟨_, rfl, ?_⟩; have n0_ := aK (Kd.R_lower ho0 (below_size (pH HB))); have n1_ := aK (blk_below (g := gb101) (o := .cells #[.int .i64 0, .int .i64 0, .slice none 0 0] 77 (0, 0)) (by (repeat first | with_reducible apply zN | with_reducible apply zD | with_reducible apply zA | refine blk_far ?_ NB101_104.out _); exact BK101.out) hb); have n2_ := aK (blk_below (g := gb104) (o := .cells #[.int .i64 ((rd_T52 l0 a1).f0), .int .i64 ((rd_T52 l0 a1).f1), .slice none 0 0] 77 (0, 0)) (p3 BK104) hb); have n3_ := aK (below_step (pH HB) hb); clear BK101; clear BK104; clear HB; have HO107 := n0_; have BK101 := n1_; have BK104 := n2_; have HB := n3_; clear n0_ n1_ n2_ n3_; (try clear hb); (try clear ho0); obtain ⟨Ao13, co13, eo13⟩ := Kd.R_slice HO107.out; subst eo13))
   go_loopg [23] k (fun kq v23 w' => ∃ (x23_1 : Int) (x105002_1 : List (S77)) (u105002 : Value), v23 = .int .i64 x23_1 ∧ Aside0 (spec_ldTree.l0 kq l0 t105 (t105.length : Int) x23_1 ((rd_T52 l0 a1).f0) ((rd_T52 l0 a1).f1) x105002_1 = some (r1, r2, r3)) ∧ Aside0 (kq ≤ k) ∧ Aside0 (Kd.R (Kd.int .i64) 3 w' w.heap.size (fun _ => True) (.slice Ao13 t105.length co13) t105) ∧ Aside0 (Kd.R k77 77 w' w.heap.size (fun k_ => k_ ≠ gb101 ∧ k_ ≠ gb104) u105002 x105002_1) ∧ Aside0 (w'.heap[gb101]? = some (.cells #[.int .i64 0, .int .i64 0, (.slice none 0 0)] 77 (0, 0))) ∧ Aside0 (w'.heap[gb104]? = some (.cells #[.int .i64 ((rd_T52 l0 a1).f0), .int .i64 ((rd_T52 l0 a1).f1), u105002] 77 (0, 0))) ∧ Aside0 (Below w.heap.size w w'))
   case atStart => exact ⟨(0), (([] : List (S77))), (.slice none 0 0), rS, H', ⟨Nat.le_refl _⟩, ⟨by (with_reducible repeat (first | apply Kd.R_alloc | apply Kd.R_drewN | apply Kd.R_drew)); exact HO107.out⟩, ⟨by first | exact Kd.R_nil _ _ _ _ _ | exact Kd.N_nil _ _ _ _ _ | exact Kd.V_nil _ _ _ _ _ | exact Kd.Q_nil _ _ _ _ _ | exact Kd.S_nil _ _ _ _ _⟩, ⟨pB BK101⟩, ⟨pB BK104⟩, ⟨pH HB⟩⟩
   case round =>
    clear H'
    try clear p1
    try clear q1
    try clear hx1
    try clear p2
    try clear c3
    try clear c3b0
    try clear c4
    try clear c4b0
    try clear c5
    try clear p10
    try clear q10
    try clear hx10
    try clear hx102_0
    try clear hx102_1
    try clear hx102_2
    try clear hx103_0
    try clear hx103_1
    try clear hx103_2
    try clear p102
    try clear p103
    try clear q102
    try clear q103
    obtain ⟨x23_1, x105002_1, u105002, rfl, HA, HK1, HO_21, HO_105002, BK101, BK104, HB⟩ := hrel
    cases gk with
    | zero => exact absurd HA.out (by simp [spec_ldTree.l0])
    | succ k1 =>
     have H := HA.out
     clear HA
     simp only [spec_ldTree.l0] at H
     by_cases c14 : x23_1 < (t105.length : Int)
     ·rw [if_pos c14] at H
      have c14b0 : decide (x23_1 < (t105.length : Int)) = true := decide_eq_true c14
      clear c14
      by_cases c15 : 0 ≤ x23_1
      ·rw [if_pos c15] at H
       have c15b0 : decide (0 ≤ x23_1) = true := decide_eq_true c15
       clear c15
       by_cases c16 : x23_1 < (t105.length : Int)
       ·rw [if_pos c16] at H
        have c16b0 : decide (x23_1 < (t105.length : Int)) = true := decide_eq_true c16
        clear c16
        replace H := Option.bind_eq_some_iff.mp H
        obtain ⟨⟨t109, t110, t111⟩, A170, H⟩ := H
        try dsimp only at H
        have A17 := aK A170
        clear A170
        by_cases c18 : x105002_1.length < 3518437208883
        ·rw [if_pos c18] at H
         have LMc18 := aK c18
         clear c18
         obtain ⟨y114, hy114⟩ : ∃ y_ : List (S77), y_ = (x105002_1 ++ [(⟨t109, t110, t111⟩ : S77)]) := ⟨_, rfl⟩
         replace H : (spec_ldTree.l0 k1 l0 t105 (t105.length : Int) (wrap64 (x23_1 + 1)) ((rd_T52 l0 a1).f0) ((rd_T52 l0 a1).f1) y114) = some (r1, r2, r3) := by first | (rw [hy114]; with_reducible exact H) | (have H2_ := (Option.bind_some _ _).symm.trans H; rw [hy114]; with_reducible exact H2_) | (have H2_ := (Option.bind_some _ _).symm.trans H; with_reducible exact H2_) | with_reducible exact H | (rw [hy114]; exact H) | exact H
         have Ny114 := aK hy114
         clear hy114
         have H' := aK H
         clear H
         have p108 : 0 ≤ (x23_1 : Int) := dA
         have q108 : x23_1 < (t105.length : Int) := dA
         obtain ⟨ad108, e108, hx108_0⟩ := Kd.at_int (Kd.R_reads' HO_21.out).2.2 x23_1 p108 q108
         cases e108
         replace p108 := eq_true p108
         replace q108 := eq_true q108
         try go_wp2
         have n0_ := aK (Kd.R_drew HO_21.out)
         have n1_ := aK (Kd.R_drew HO_105002.out)
         have n2_ := aK (blk_drew BK101.out)
         have n3_ := aK (blk_drew BK104.out)
         have n4_ := aK (below_drew1 HB.out)
         clear HO_21
         clear HO_105002
         clear BK101
         clear BK104
         clear HB
         have HO_21 := n0_
         have HO_105002 := n1_
         have BK101 := n2_
         have BK104 := n3_
         have HB := n4_
         clear n0_ n1_ n2_ n3_ n4_
         refine start_ (n := 9) (S := fun w' => w'.cell? ⟨gb104, 0, none⟩ = some (.int .i64 ((rd_T52 l0 a1).f0)) ∧ w'.cell? ⟨gb104, 1, none⟩ = some (.int .i64 ((rd_T52 l0 a1).f1)) ∧ w'.cell? ⟨gb104, 2, none⟩ = some (u105002)) (ds := [8]) (bs 0 9) (by kernel_rfl) rfl rfl ⟨(blk_cell BK104.out 0).trans rfl, (blk_cell BK104.out 1).trans rfl, (blk_cell BK104.out 2).trans rfl⟩ (fun hHeld => ?_); refine with_tabW spec_ldTree.tab5 spec_ldTree.bits5 (fun HT_ HW_ => ?_)
         generalize wr.drew = w19 at HO_21 HO_105002 BK101 BK104 HB hHeld ⊢
         refine pure_ (i := 0) (N := some 27) (v := ?_) (a' := ?_) (bs 1 8) rfl rfl (any_of HT_.out (by kernel_rfl)) (fun _ _ _ h => h) (Or.inl ⟨by rfl, ?_⟩) ?_ ?_
         rotate_left
         ·intro w'
          go_simp
          with_reducible rfl
         rotate_left
         ·simp only [sP, i64_w, i32_w]
          rfl
         refine pure_ (i := 2) (N := some 29) (v := ?_) (a' := ?_) #[true, false, true, false, false, false, false, false, false] rfl rfl (any_of HT_.out (by kernel_rfl)) (fun _ _ _ h => h) (Or.inl ⟨by rfl, ?_⟩) ?_ ?_
         rotate_left
         ·intro w'
          go_simp
          with_reducible rfl
         rotate_left
         ·simp only [sP, i64_w, i32_w]
          rfl
         refine pure_ (i := 3) (N := some 30) (v := ?_) (a' := ?_) #[true, false, true, true, false, false, false, false, false] rfl rfl (any_of HT_.out (by kernel_rfl)) (fun _ _ _ h => h) (Or.inl ⟨by rfl, ?_⟩) ?_ ?_
         rotate_left
         ·intro w'
          go_simp
          with_reducible rfl
         rotate_left
         ·simp only [sP, i64_w, i32_w]
          rfl
         refine take_ (i := 1) (N := some 28) (v := ?_) (a' := ?_) (bs 4 5) rfl rfl (take_ofW HT_.out HW_.out (by kernel_rfl)) (fun _ _ _ h => h) (Or.inl ⟨by rfl, ?_⟩) hHeld ?_ ?_
         rotate_left
         ·rintro w' ⟨s0, s1, s2⟩
          go_simp
          with_reducible rfl
         rotate_left
         ·simp only [sP, i64_w, i32_w]
          rfl
         refine one_ (i := 4) (N := some 31) (bs 5 4) rfl rfl (one_of HT_.out (by kernel_rfl)) (by decide) (fun K hK => ?_)
         refine goes_ Try.func52 (by kernel_rfl) rfl #[.slice (some ad102) l0.length c0, .int .i64 (rd t105 x23_1)] (by rfl) rfl rfl tA ?_
         with_reducible refine (ih k1 (by have := HK1.out; omega) _ _ l0 (rd t105 x23_1) t109 t110 t111 _ ?side1 ?side2 A17.out).mono ?_
         (case side1 => exact sC (Kd.C_below HR0.out HB.out))
         (case side2 => exact HC0.out)
         rintro e w20 ⟨v112, rfl, ho0, hb⟩
         refine ⟨_, rfl, ?_⟩
         have n0_ := aK (Kd.R_below HO_21.out hb)
         have n1_ := aK (Kd.R_elder' HO_105002.out (Kd.R_base ho0) hb)
         have n2_ := aK (Kd.R_lower (Kd.R_newB (Kd.R_newB (Kd.R_new' ho0 (Kd.R_lt HO_105002.out)) BK101.out) BK104.out) (below_size (pH HB)))
         have n3_ := aK (blk_below BK101.out hb)
         have n4_ := aK (blk_below BK104.out hb)
         have n5_ := aK (below_step (pH HB) hb)
         clear HO_21
         clear HO_105002
         clear BK101
         clear BK104
         clear HB
         have HO_21 := n0_
         have HO_105002 := n1_
         have HO113 := n2_
         have BK101 := n3_
         have BK104 := n4_
         have HB := n5_
         clear n0_ n1_ n2_ n3_ n4_ n5_
         (try clear hb)
         (try clear hb2)
         (try clear hk)
         (try clear hi)
         (try clear ho0)
         obtain ⟨Ao22, co22, eo22⟩ := Kd.R_slice HO113.out
         (first | subst eo22 | (injection eo22 with f1_ f2_ f3_; have f4_ := f1_.symm; have f5_ := f3_.symm; clear f1_ f2_ f3_; subst f4_; subst f5_))
         refine hK.out _ _ ⟨(blk_cell BK104.out 0).trans rfl, (blk_cell BK104.out 1).trans rfl, (blk_cell BK104.out 2).trans rfl⟩ (fun hHeld => ?_)
         clear hK K
         refine norm_ (a' := ?_) ?_ ?_
         rotate_left
         ·show Act.put _ (some 31) _ = _
          simp only [sP, i64_w, i32_w]
          rfl
         refine one_ (i := 5) (N := some 32) (bs 6 3) rfl rfl (one_of HT_.out (by kernel_rfl)) (by decide) (fun K hK => ?_)
         refine value_ (w1 := ?_) (v := ?_) (by rfl) rfl ?_ ?_
         rotate_left 2
         ·go_simp
          constructor
          ·rfl
          ·rfl
         refine hK.out _ _ ⟨(blk_cell (blk_alloc BK104.out _) 0).trans rfl, (blk_cell (blk_alloc BK104.out _) 1).trans rfl, (blk_cell (blk_alloc BK104.out _) 2).trans rfl⟩ (fun hHeld => ?_)
         clear hK K
         refine norm_ (a' := ?_) ?_ ?_
         rotate_left
         ·show Act.put _ (some 32) _ = _
          simp only [sP, i64_w, i32_w]
          rfl
         refine one_ (i := 6) (N := some 33) (bs 7 2) rfl rfl (one_of HT_.out (by kernel_rfl)) (by decide) (fun K hK => ?_)
         refine Kd.R_append_step k77 (w0 := w) w.heap.size (by rfl) (.tmp 28) (.tmp 32) 75 77 (.agg #[(.int .i64 0), (.int .i64 0), (.slice none 0 0)]) 40 rfl Try.underlying75 info77 rfl (by decide) (by omega) u105002 x105002_1 (⟨t109, t110, t111⟩ : S77) [.int .i64 t109, .int .i64 t110, .slice Ao22 t111.length co22] (fun k_ => k_ ≠ gb101 ∧ k_ ≠ gb104) (fun k_ => ((fun k_ => k_ ≠ gb101 ∧ k_ ≠ gb104)) k_ ∧ some k_ ≠ (u105002 : Value).ownBlock) rfl rfl ?aP (fun _ hk => hk) ?aF ?aO ?aB ?aS ?aL ?_
         (case aP => exact k77_mkM _ _ _ (⟨t109, t110, t111⟩ : S77) (Kd.R_mono (HO113.out) (fun k_ hk => ⟨⟨hk.1.2, hk.2⟩, hk.1.1.2⟩)))
         (case aB => exact (pH HB))
         (case aF => exact (fun k_ hk => ⟨Kd.freshB BK101.out k_ hk, Kd.freshB BK104.out k_ hk⟩))
         (case aO => exact (by (with_reducible repeat (first | apply Kd.R_alloc | apply Kd.R_drewN | apply Kd.R_drew)); exact Kd.R_mono HO_105002.out (fun _ hk => ⟨hk.1.1, hk.1.2⟩)))
         (case aS => exact (below_size (pH HB)))
         (case aL => have := LMc18.out; omega)
         intro v115 w21 ho hb hg hat
         rw [← Ny114.out] at ho
         have n0_ := aK (Kd.R_over' HO_21.out (Kd.R_typed HO_105002.out) (by decide) hg)
         have n1_ := aK (blk_grown BK101.out hg (Kd.R_away HO_105002.out (fun _ hk => hk.1.1)))
         have n2_ := aK (blk_grown BK104.out hg (Kd.R_away HO_105002.out (fun _ hk => hk.1.2)))
         have n3_ := aK (hb)
         have n4_ := aK (ho)
         clear HO_21
         clear BK101
         clear BK104
         clear HB
         clear HO_105002
         clear HO113
         have HO_21 := n0_
         have BK101 := n1_
         have BK104 := n2_
         have HB := n3_
         have HO116 := n4_
         clear n0_ n1_ n2_ n3_ n4_
         clear ho hb hg hat
         obtain ⟨Ao23, co23, eo23⟩ := Kd.R_slice HO116.out
         (first | subst eo23 | (injection eo23 with f1_ f2_ f3_; have f4_ := f1_.symm; have f5_ := f3_.symm; clear f1_ f2_ f3_; subst f4_; subst f5_))
         refine hK.out _ _ ⟨(blk_cell BK104.out 0).trans rfl, (blk_cell BK104.out 1).trans rfl, (blk_cell BK104.out 2).trans rfl⟩ (fun hHeld => ?_)
         clear hK K
         refine norm_ (a' := ?_) ?_ ?_
         rotate_left
         ·show Act.put _ (some 33) _ = _
          simp only [sP, i64_w, i32_w]
          rfl
         refine pure_ (i := 7) (N := some 34) (v := ?_) (a' := ?_) (bs 8 1) rfl rfl (any_of HT_.out (by kernel_rfl)) (fun _ _ _ h => h) (Or.inl ⟨by rfl, ?_⟩) ?_ ?_
         rotate_left
         ·intro w'
          go_simp
          with_reducible rfl
         rotate_left
         ·simp only [sP, i64_w, i32_w]
          rfl
         refine last_ (i := 8) (N := none) (bs 9 0) rfl rfl (one_of HT_.out (by kernel_rfl)) (by decide) (fun K hK => ?_)
         have hs24 : w21.cell? ⟨gb104, 2, none⟩ = some (u105002) := (blk_cell BK104.out 2).trans rfl
         have hfs24 := blk_frozen BK104.out 2
         have hns24_0 := NB101_104.out
         have hms24_0 := NB104_101.out
         refine skip_ (w1 := ?_) (by rfl) rfl ?_ ?_
         rotate_left
         ·go_simp
          rfl
         refine hK.out _ _ ?_
         clear hK K
         refine done_ (done_of HT_.out (by kernel_rfl)) ?_
         try go_wp2
         go_roundg k1
         case measure => have := HK1.out; omega
         case rel => exact ⟨(wrap64 (x23_1 + 1)), (y114), (.slice Ao23 y114.length co23), rS, H', ⟨by have := HK1.out; omega⟩, ⟨by (with_reducible repeat (first | apply Kd.R_alloc | apply Kd.R_drewN | apply Kd.R_drew)); exact Kd.R_mono (Kd.R_far (p := ⟨gb104, 2, none⟩) (Kd.R_types HO_21.out BK104.out (by decide)) (fun _ hk => hk.2) (.slice Ao23 y114.length co23)) (fun _ hk => trivial)⟩, ⟨by (with_reducible repeat (first | apply Kd.R_alloc | apply Kd.R_drewN | apply Kd.R_drew)); exact Kd.R_mono (Kd.R_far (p := ⟨gb104, 2, none⟩) (Kd.R_mono HO116.out (fun k_ hk => (⟨hk, hk.2⟩ : _ ∧ k_ ≠ gb104))) (fun _ hk => hk.2) (.slice Ao23 y114.length co23)) (fun _ hk => ⟨hk.1.1, hk.1.2⟩)⟩, ⟨by (repeat first | with_reducible apply zN | with_reducible apply zD | with_reducible apply zA | refine blk_far ?_ NB101_104.out _); exact BK101.out⟩, ⟨by (with_reducible repeat first | apply zN | apply zD | apply zA); refine blk_put (cs := #[.int .i64 ((rd_T52 l0 a1).f0), .int .i64 ((rd_T52 l0 a1).f1), u105002]) ?_ 2 _ rfl; (with_reducible repeat first | apply zN | apply zD | apply zA); exact BK104.out⟩, ⟨pH HB⟩⟩
        ·rw [if_neg c18] at H
         exact absurd H (by simp)
       ·rw [if_neg c16] at H
        exact absurd H (by simp)
      ·rw [if_neg c15] at H
       exact absurd H (by simp)
     ·rw [if_neg c14] at H
      have c14b0 : decide (x23_1 < (t105.length : Int)) = false := decide_eq_false c14
      clear c14
      simp only [Option.some.injEq, Prod.mk.injEq] at H
      obtain ⟨rfl, rfl, rfl⟩ := H
      have hnb25 := NB104_101.out
      have hnc25 := NB101_104.out
      have hcz26_0 := k30 BK104
      have hcz26_1 := k31 BK104
      have hcz26_2 := k32 BK104
      have hfz26_0 := fz BK104 0
      have hfz26_1 := fz BK104 1
      have hfz26_2 := fz BK104 2
      have hcz27_0 := k30 BK101
      have hcz27_1 := k31 BK101
      have hcz27_2 := k32 BK101
      have hfz27_0 := fz BK101 0
      have hfz27_1 := fz BK101 1
      have hfz27_2 := fz BK101 2
      obtain ⟨Ao28, co28, eo28⟩ := Kd.R_slice HO_105002.out
      subst eo28
      go_wp2
      refine bodyPost_ret (results_cell_row rfl _ _ gb101 77 #[.int .i64 ((rd_T52 l0 a1).f0), .int .i64 ((rd_T52 l0 a1).f1), .slice Ao28 x105002_1.length co28] (0, 0) _ rfl (p3 BK101) Try.underlying77 rfl (by kernel_rfl)) rfl ?_
      exact ⟨_, eW, by (with_reducible repeat (first | apply Kd.R_alloc | apply Kd.R_drewN | apply Kd.R_drew)); exact Kd.R_mono (Kd.R_far (p := ⟨gb101, 2, none⟩) (Kd.R_far (p := ⟨gb101, 1, none⟩) (Kd.R_far (p := ⟨gb101, 0, none⟩) (Kd.R_mono HO_105002.out (fun k_ hk => (⟨hk, hk.1⟩ : _ ∧ k_ ≠ gb101))) (fun _ hk => hk.2) (.int .i64 ((rd_T52 l0 a1).f0))) (fun _ hk => hk.2) (.int .i64 ((rd_T52 l0 a1).f1))) (fun _ hk => hk.2) (.slice Ao28 x105002_1.length co28)) (fun _ hk => trivial), pH HB⟩
  ·rw [if_neg c4] at H
   exact absurd H (by simp)
 ·rw [if_neg c3] at H
  exact absurd H (by simp)

end Go.Proofs.Ytcjhhdecckcibaa.G

namespace Go.Proofs.Ytcjhhdecckcibaa.G
open Go.RowKit Go.Proofs.YtcjhhdecckcibaaW.PrintWords Go.Proofs.YtcjhhdecckcibaaW.PrintLast Go.Proofs.YtcjhhdecckcibaaW.PrintMore
attribute [local go_sem] max2_int min2_int max_two min_two max_three min_three max_four min_four   -- for this text's walks alone
set_option linter.unusedVariables false
set_option linter.unusedSimpArgs false

def spec_ldApp.f (a0_0 : Int) (a0_1 : Int) (l0_2 : List (S77)) (a1_0 : Int) (a1_1 : Int) (l1_2 : List (S77)) : Option (Int × Int × (List (S77))) := some (2, 0, (([(⟨a0_0, a0_1, l0_2⟩ : S77), (⟨a1_0, a1_1, l1_2⟩ : S77)] : List (S77))))
set_option maxHeartbeats 8000000 in
set_option maxRecDepth 100000 in
theorem spec_ldApp.calls (a0_0 : Int) (a0_1 : Int) (P0_2_ : Nat → Prop) (A0_2 : Option Addr) (c0_2 : Nat) (l0_2 : List (S77)) (a1_0 : Int) (a1_1 : Int) (P1_2_ : Nat → Prop) (A1_2 : Option Addr) (c1_2 : Nat) (l1_2 : List (S77)) (r1 : Int) (r2 : Int) (r3 : List (S77)) (w : World) (hs0_2 : Kd.V k77 77 w w.heap.size (fun k_ => P0_2_ k_) (.slice A0_2 l0_2.length c0_2) l0_2) (hs1_2 : Kd.V k77 77 w w.heap.size (fun k_ => P1_2_ k_) (.slice A1_2 l1_2.length c1_2) l1_2) (h : spec_ldApp.f a0_0 a0_1 l0_2 a1_0 a1_1 l1_2 = some (r1, r2, r3)) :
  Calls Try.prog 71 #[.agg #[.int .i64 a0_0, .int .i64 a0_1, .slice A0_2 l0_2.length c0_2], .agg #[.int .i64 a1_0, .int .i64 a1_1, .slice A1_2 l1_2.length c1_2]] w fun e w' => ∃ v2_ : Value, e = .returned (.agg #[.int .i64 r1, .int .i64 r2, v2_]) ∧ Kd.N k77 77 w' w.heap.size (fun k_ => ((P0_2_ k_ ∨ P1_2_ k_) ∨ w.heap.size ≤ k_)) v2_ r3 ∧ Below w.heap.size w w' := by
 have hu77 := Try.underlying77
 have HO0_2 := aK (show Kd.V k77 77 w w.heap.size (fun k_ => ((P0_2_ k_ ∨ P1_2_ k_) ∨ w.heap.size ≤ k_)) (.slice A0_2 l0_2.length c0_2) l0_2 from Kd.V_mono hs0_2 (fun k_ hk => .inl (.inl hk)))
 have HO1_2 := aK (show Kd.V k77 77 w w.heap.size (fun k_ => ((P0_2_ k_ ∨ P1_2_ k_) ∨ w.heap.size ≤ k_)) (.slice A1_2 l1_2.length c1_2) l1_2 from Kd.V_mono hs1_2 (fun k_ hk => .inl (.inr hk)))
 have HB := aK (Below.refl w.heap.size w)
 have H : (some (2, 0, (([(⟨a0_0, a0_1, l0_2⟩ : S77), (⟨a1_0, a1_1, l1_2⟩ : S77)] : List (S77))))) = some (r1, r2, r3) := h
 clear h
 obtain ⟨y104, hy104⟩ : ∃ y_ : List (S77), y_ = (([(⟨a0_0, a0_1, l0_2⟩ : S77), (⟨a1_0, a1_1, l1_2⟩ : S77)] : List (S77))) := ⟨_, rfl⟩
 replace H : (some (2, 0, y104)) = some (r1, r2, r3) := by first | (rw [hy104]; with_reducible exact H) | (have H2_ := (Option.bind_some _ _).symm.trans H; rw [hy104]; with_reducible exact H2_) | (have H2_ := (Option.bind_some _ _).symm.trans H; with_reducible exact H2_) | with_reducible exact H | (rw [hy104]; exact H) | exact H
 have Ny104 := aK hy104
 clear hy104
 simp only [Option.some.injEq, Prod.mk.injEq] at H
 obtain ⟨rfl, rfl, rfl⟩ := H
 go_enter Try.func71, Try.ntmps71
 go_wp2_with (first | ((with_reducible refine gate_dst (N := 2) rfl ?_); refine bE (N := 2) (cs := #[.int .i64 a0_0, .int .i64 a0_1, .slice A0_2 l0_2.length c0_2]) (t := 77) ?_; intro gb101 hg w3 hbox hb; have GW101 := qw HB hg; have GE101 := qw HB hg; replace HO0_2 := qv HO0_2 hg hb; replace HO1_2 := qv HO1_2 hg hb; have BK101 := aK hbox; replace HB := qs HB hb; clear hb hbox hg) | ((with_reducible refine gate_dst (N := 3) rfl ?_); refine bE (N := 3) (cs := #[.int .i64 a1_0, .int .i64 a1_1, .slice A1_2 l1_2.length c1_2]) (t := 77) ?_; intro gb102 hg w4 hbox hb; have GW102 := qw HB hg; have GE102 := qw HB hg; have NB101_102 := ql BK101 hg; have NB102_101 := qg BK101 hg; replace HO0_2 := qv HO0_2 hg hb; replace HO1_2 := qv HO1_2 hg hb; replace BK101 := qb BK101 hb; have BK102 := aK hbox; replace HB := qs HB hb; clear hb hbox hg) | ((with_reducible refine gate_dst (N := 4) rfl ?_); refine bE (N := 4) (cs := #[.int .i64 0, .int .i64 0, .slice none 0 0]) (t := 77) ?_; intro gb103 hg w5 hbox hb; have GW103 := qw HB hg; have GE103 := qw HB hg; have NB101_103 := ql BK101 hg; have NB103_101 := qg BK101 hg; have NB102_103 := ql BK102 hg; have NB103_102 := qg BK102 hg; replace HO0_2 := qv HO0_2 hg hb; replace HO1_2 := qv HO1_2 hg hb; replace BK101 := qb BK101 hb; replace BK102 := qb BK102 hb; have BK103 := aK hbox; replace HB := qs HB hb; clear hb hbox hg; have hnb6 := NB101_102.out; have hnc6 := NB102_101.out; have hnb7 := NB101_103.out; have hnc7 := NB103_101.out; have hcz8_0 := k30 BK101; have hcz8_1 := k31 BK101; have hcz8_2 := k32 BK101; have hfz8_0 := fz BK101 0; have hfz8_1 := fz BK101 1; have hfz8_2 := fz BK101 2; have hnb9 := NB102_103.out; have hnc9 := NB103_102.out; have hcz10_0 := k30 BK102; have hcz10_1 := k31 BK102; have hcz10_2 := k32 BK102; have hfz10_0 := fz BK102 0; have hfz10_1 := fz BK102 1; have hfz10_2 := fz BK102 2) | ((with_reducible refine gate_dst (N := 7) rfl ?_); refine Kd.N_lit k77 _ 77 ?hg (N' := 7) ?hd (xs := ([(⟨a0_0, a0_1, l0_2⟩ : S77), (⟨a1_0, a1_1, l1_2⟩ : S77)] : List (S77))) (inner := [.int .i64 a0_0, .int .i64 a0_1, .slice A0_2 l0_2.length c0_2, .int .i64 a1_0, .int .i64 a1_1, .slice A1_2 l1_2.length c1_2]) (ok := (fun k_ => ((P0_2_ k_ ∨ P1_2_ k_) ∨ w.heap.size ≤ k_) ∧ k_ ≠ gb101 ∧ k_ ≠ gb102 ∧ k_ ≠ gb103)) (okp := (fun k_ => ((P0_2_ k_ ∨ P1_2_ k_) ∨ w.heap.size ≤ k_) ∧ k_ ≠ gb101 ∧ k_ ≠ gb102 ∧ k_ ≠ gb103)) ?hr ?hp (fun _ hk => hk) ((show ∀ k_, w5.heap.size ≤ k_ → (fun k_ => ((P0_2_ k_ ∨ P1_2_ k_) ∨ w.heap.size ≤ k_) ∧ k_ ≠ gb101 ∧ k_ ≠ gb102 ∧ k_ ≠ gb103) k_ from fun k_ hk => ⟨(.inr (Nat.le_trans (below_size (pH HB)) hk)), Kd.freshB BK101.out k_ hk, Kd.freshB BK102.out k_ hk, Kd.freshB BK103.out k_ hk⟩) _ (Nat.le_refl _)) (Below.refl _ _) (Nat.le_refl _) (by simp) ?_; (case hd => rfl); (case hg => rfl); (case hr => go_simp); (case hp => exact (Reps.c3 (show Kd.FK k77 _ _ (⟨a0_0, a0_1, l0_2⟩ : S77) [.int .i64 a0_0, .int .i64 a0_1, .slice A0_2 l0_2.length c0_2] from (k77_mkF _ _ (⟨a0_0, a0_1, l0_2⟩ : S77) (Kd.V_reads' (Kd.V_mono (ok' := (fun k_ => ((P0_2_ k_ ∨ P1_2_ k_) ∨ w.heap.size ≤ k_) ∧ k_ ≠ gb101 ∧ k_ ≠ gb102 ∧ k_ ≠ gb103)) (HO0_2.out) (fun k_ hk => ⟨hk.1.1.1, ⟨hk.1.1.2, ⟨hk.1.2, hk.2⟩⟩⟩))).2.1 (Kd.V_F (Kd.V_mono (ok' := (fun k_ => ((P0_2_ k_ ∨ P1_2_ k_) ∨ w.heap.size ≤ k_) ∧ k_ ≠ gb101 ∧ k_ ≠ gb102 ∧ k_ ≠ gb103)) (HO0_2.out) (fun k_ hk => ⟨hk.1.1.1, ⟨hk.1.1.2, ⟨hk.1.2, hk.2⟩⟩⟩))))) (Reps.c3 (show Kd.FK k77 _ _ (⟨a1_0, a1_1, l1_2⟩ : S77) [.int .i64 a1_0, .int .i64 a1_1, .slice A1_2 l1_2.length c1_2] from (k77_mkF _ _ (⟨a1_0, a1_1, l1_2⟩ : S77) (Kd.V_reads' (Kd.V_mono (ok' := (fun k_ => ((P0_2_ k_ ∨ P1_2_ k_) ∨ w.heap.size ≤ k_) ∧ k_ ≠ gb101 ∧ k_ ≠ gb102 ∧ k_ ≠ gb103)) (HO1_2.out) (fun k_ hk => ⟨hk.1.1.1, ⟨hk.1.1.2, ⟨hk.1.2, hk.2⟩⟩⟩))).2.1 (Kd.V_F (Kd.V_mono (ok' := (fun k_ => ((P0_2_ k_ ∨ P1_2_ k_) ∨ w.heap.size ≤ k_) ∧ k_ ≠ gb101 ∧ k_ ≠ gb102 ∧ k_ ≠ gb103)) (HO1_2.out) (fun k_ hk => ⟨hk.1.1.1, ⟨hk.1.1.2, ⟨hk.1.2, hk.2⟩⟩⟩))))) (Reps.none _ _)))); intro v105 w11 ho12 hb hg_ hnew_; clear hg_ hnew_; (first | rw [← Ny104.out] at ho12 | (simp only [Int.reduceToNat] at ho12; rw [← Ny104.out] at ho12)); have HO106 := aK (Kd.N_lower ho12 (below_size HB.out)); replace HO0_2 := qe HO0_2 (Kd.N_base ho12) hb; replace HO1_2 := qe HO1_2 (Kd.N_base ho12) hb; replace BK101 := qb BK101 hb; replace BK102 := qb BK102 hb; replace BK103 := qb BK103 hb; replace HB := qs HB hb; clear hb ho12; obtain ⟨Ao13, co13, eo13⟩ := Kd.N_slice HO106.out; subst eo13; have hcz14_0 := k30 BK103; have hcz14_1 := k31 BK103; have hcz14_2 := k32 BK103; have hfz14_0 := fz BK103 0; have hfz14_1 := fz BK103 1; have hfz14_2 := fz BK103 2))
 refine bodyPost_ret (results_cell_row rfl _ _ gb103 77 #[.int .i64 2, .int .i64 0, .slice Ao13 y104.length co13] (0, 0) _ rfl (p3 BK103) Try.underlying77 rfl (by kernel_rfl)) rfl ?_
 exact ⟨_, eW, by (with_reducible repeat (first | apply Kd.N_alloc | apply Kd.N_drewN | apply Kd.N_drew)); exact Kd.N_mono (nF3 gb103 (Kd.N_mono HO106.out (fun k_ hk => (⟨hk, hk.2.2.2⟩ : _ ∧ k_ ≠ gb103))) (fun _ hk => hk.2)) (fun _ hk => hk.1.1), pH HB⟩

end Go.Proofs.Ytcjhhdecckcibaa.G
