/- Part 1 of 5 of the proof that the law FnClosedSaid holds: for every input that can be read the call returns true and leaves its arguments as they were; no condition but those each theorem names. -/
import Derived.Test.YtmcmclcebnepgaaProg
import Derived.Below
import Derived.Deep.Draws
import Derived.Deep.AppendLies
import Derived.Maps.AppendAt
import Derived.OwnWalk
import Derived.Laws.BytesArg
import Derived.Laws.MakeOwn
import Derived.Laws.OwnMore
import Derived.Deep.OwnRows
import Derived.Tactics
import Derived.Lib.ConvBytes
import Derived.Laws.Slices
import Derived.WalkKit
import Derived.KernelRfl
import Derived.RowKit3
import Derived.Deep.LoopGhost
import Derived.Deep.QuietTactic
import Derived.BigQuiet
import Derived.WideLaws
import Derived.Deep.DeepCutAuto
import Derived.Deep.CutBlock
import Derived.Deep.RegionHeld3
import Derived.Laws.Rows
import Derived.Lib.AppendStr
import Derived.ArgAppend
import Derived.Laws.IdiomCopy
import Derived.OrdersHeld
import Derived.Laws.BitsLemmas
import Derived.RowKit
import Derived.Test.YtmcmclcebnepgaaQClosedW1
namespace Go.Proofs.Ytmcmclcebnepgaa.G
open Go.RowKit Go.Proofs.YtmcmclcebnepgaaW.PrintWords Go.Proofs.YtmcmclcebnepgaaW.PrintLast Go.Proofs.YtmcmclcebnepgaaW.PrintMore
attribute [local go_sem] max2_int min2_int max_two min_two max_three min_three max_four min_four   -- for this text's walks alone
set_option linter.unusedVariables false
set_option linter.unusedSimpArgs false



def errW : Option Int → Value
  | none => .nilIface
  | some c => .iface 0 (.int .i64 c)
theorem errW_none : errW none = .nilIface := rfl
theorem errW_some (c : Int) : errW (some c) = .iface 0 (.int .i64 c) := rfl

theorem info3 : (Try.prog.info? 3).map (fun i => (i.zero, i.size, i.bytes)) = some (some (.int .i64 0), 1, 8) := by kernel_rfl
theorem info33 : (Try.prog.info? 33).map (fun i => (i.zero, i.size, i.bytes)) = some (some (.agg #[(.int .i64 0), (.int .i64 0), (.int .i64 0)]), 3, 24) := by kernel_rfl
theorem info37 : (Try.prog.info? 37).map (fun i => (i.zero, i.size, i.bytes)) = some (some (.agg #[(.int .i64 0), (.int .i64 0), (.slice none 0 0)]), 3, 40) := by kernel_rfl
theorem info54 : (Try.prog.info? 54).map (fun i => (i.zero, i.size, i.bytes)) = some (some (.agg #[(.int .i64 0), (.int .i64 0), (.slice none 0 0)]), 3, 40) := by kernel_rfl
theorem info70 : (Try.prog.info? 70).map (fun i => (i.zero, i.size, i.bytes)) = some (some (.agg #[(.int .i64 0), (.int .i64 0), (.int .i64 0)]), 3, 24) := by kernel_rfl
-- the values' own types
structure S54 where
  f0 : Int
  f1 : Int
  f2 : (List S54)
def z54 : S54 := ⟨(0 : Int), (0 : Int), ([] : List S54)⟩
def F54 (d : Kd S54) : Kd S54 := Kd.iso (Kd.pair (Kd.int .i64) (Kd.pair (Kd.int .i64) (Kd.slice 54 d))) (fun x : S54 => (x.f0, x.f1, x.f2))
theorem mono54 : Kd.Mono F54 := Kd.mono_iso _ (Kd.mono_pair (Kd.mono_const _) (Kd.mono_pair (Kd.mono_const _) (Kd.mono_slice 54 Kd.mono_id)))
theorem sub54 : Kd.Sub F54 [54] := Kd.sub_iso _ (Kd.sub_pair (Kd.sub_const _ (by decide)) (Kd.sub_pair (Kd.sub_const _ (by decide)) (Kd.sub_slice 54 (by decide) Kd.sub_id)))
theorem sz54 : ∀ n, (Kd.upto F54 3 [54] n).sz = 3 := Kd.upto_sz (fun _ => rfl)
def k54 : Kd S54 := Kd.fix F54 3 [54] sz54 (Kd.upto_E sub54)
theorem k54_open {w : World} {x : S54} {cs : List Value} (h : k54.K w x cs) : ∃ A2 c2, cs = [.int .i64 x.f0, .int .i64 x.f1, .slice A2 x.f2.length c2] ∧ x.f2.length ≤ c2 ∧ k54.C w A2 x.f2.length x.f2 := by
  obtain ⟨n, h⟩ := h
  cases n with
  | zero => exact h.elim
  | succ n =>
    obtain ⟨_, _, rfl, rfl, ⟨_, _, rfl, rfl, ⟨A2, c2, rfl, l2, g2⟩⟩⟩ := h
    exact ⟨A2, c2, rfl, l2, Kd.fix_C g2⟩
theorem k54_mk (w : World) (x : S54) {A2 : Option Addr} {c2 : Nat} (l2 : x.f2.length ≤ c2) (g2 : k54.C w A2 x.f2.length x.f2) : k54.K w x [.int .i64 x.f0, .int .i64 x.f1, .slice A2 x.f2.length c2] := by
  obtain ⟨n2, q2⟩ := Kd.fix_C_back mono54 g2
  have r2 := Kd.upto_C_le mono54 sz54 (show n2 ≤ n2 by omega) q2
  exact ⟨n2 + 1, ⟨[.int .i64 x.f0], [.int .i64 x.f1, .slice A2 x.f2.length c2], rfl, rfl, ⟨[.int .i64 x.f1], [.slice A2 x.f2.length c2], rfl, rfl, ⟨A2, c2, rfl, l2, r2⟩⟩⟩⟩
theorem k54_mkM (w : World) (base : Nat) (ok : Nat → Prop) (x : S54) {v2 : Value} (g2 : k54.R 54 w base ok v2 x.f2) : k54.M w base ok x [.int .i64 x.f0, .int .i64 x.f1, v2] := by
  obtain ⟨n2, q2⟩ := Kd.fix_R_back mono54 g2
  have r2 := Kd.upto_R_le mono54 sz54 (show n2 ≤ n2 by omega) q2
  exact ⟨n2 + 1, ⟨[.int .i64 x.f0], [.int .i64 x.f1, v2], rfl, rfl, ⟨[.int .i64 x.f1], [v2], rfl, rfl, ⟨v2, rfl, r2⟩⟩⟩⟩
theorem k54_mkF (W : World) (ok : Nat → Prop) (x : S54) {A2 : Option Addr} {c2 : Nat} (l2 : x.f2.length ≤ c2) (g2 : Kd.F k54 W ok A2 x.f2.length x.f2) : Kd.FK k54 W ok x [.int .i64 x.f0, .int .i64 x.f1, .slice A2 x.f2.length c2] := fun W2 hW => k54_mk W2 x l2 (g2 W2 hW)
def rd_T54 (xs : List S54) (i : Int) : S54 := xs.getD i.toNat z54
theorem at_T54 {w : World} {A : Option Addr} {n : Nat} {xs : List S54} (h : Kd.C k54 w A n xs) (i : Int) (h0 : 0 ≤ i) (h1 : i < n) : ∃ ad A2 c2, A = some ad ∧ w.cell? (ad.add (i.toNat * 3)) = some (.int .i64 (rd_T54 xs i).f0) ∧ w.cell? ⟨(ad.add (i.toNat * 3)).block, (ad.add (i.toNat * 3)).off + 1, none⟩ = some (.int .i64 (rd_T54 xs i).f1) ∧ w.cell? ⟨(ad.add (i.toNat * 3)).block, (ad.add (i.toNat * 3)).off + 2, none⟩ = some (.slice A2 (rd_T54 xs i).f2.length c2) ∧ (rd_T54 xs i).f2.length ≤ c2 ∧ k54.C w A2 (rd_T54 xs i).f2.length (rd_T54 xs i).f2 := by
  obtain ⟨ad, c, e, _, hK, hc0⟩ := Kd.C_get h z54 i h0 h1
  have hc : ∀ j u, c[j]? = some u → w.cell? (ad.add (i.toNat * 3 + j)) = some u := hc0
  obtain ⟨A2, c2, rfl, l2, g2⟩ := k54_open hK
  exact ⟨ad, A2, c2, e, hc 0 _ rfl, by rw [← add_field _ _ 1 (by omega)]; exact hc 1 _ rfl, by rw [← add_field _ _ 2 (by omega)]; exact hc 2 _ rfl, l2, g2⟩

structure S70 where
  f0 : Int
  f1 : Int
  f2 : Int
def z70 : S70 := ⟨(0 : Int), (0 : Int), (0 : Int)⟩
def k70 : Kd S70 := Kd.iso (Kd.pair (Kd.int .i64) (Kd.pair (Kd.int .i64) (Kd.int .i64))) (fun x : S70 => (x.f0, x.f1, x.f2))
theorem k70_open {w : World} {x : S70} {cs : List Value} (h : k70.K w x cs) : cs = [.int .i64 x.f0, .int .i64 x.f1, .int .i64 x.f2] := by
  obtain ⟨_, _, rfl, rfl, ⟨_, _, rfl, rfl, rfl⟩⟩ := h
  exact rfl
theorem k70_openM {w : World} {base : Nat} {ok : Nat → Prop} {x : S70} {cs : List Value} (h : k70.M w base ok x cs) : cs = [.int .i64 x.f0, .int .i64 x.f1, .int .i64 x.f2] := by
  obtain ⟨_, _, rfl, rfl, ⟨_, _, rfl, rfl, rfl⟩⟩ := h
  exact rfl
theorem k70_mkM (w : World) (base : Nat) (ok : Nat → Prop) (x : S70)  : k70.M w base ok x [.int .i64 x.f0, .int .i64 x.f1, .int .i64 x.f2] := ⟨[.int .i64 x.f0], [.int .i64 x.f1, .int .i64 x.f2], rfl, rfl, ⟨[.int .i64 x.f1], [.int .i64 x.f2], rfl, rfl, rfl⟩⟩
def rd_T70 (xs : List S70) (i : Int) : S70 := xs.getD i.toNat z70
theorem at_T70 {w : World} {A : Option Addr} {n : Nat} {xs : List S70} (h : Kd.C k70 w A n xs) (i : Int) (h0 : 0 ≤ i) (h1 : i < n) : ∃ ad , A = some ad ∧ w.cell? (ad.add (i.toNat * 3)) = some (.int .i64 (rd_T70 xs i).f0) ∧ w.cell? ⟨(ad.add (i.toNat * 3)).block, (ad.add (i.toNat * 3)).off + 1, none⟩ = some (.int .i64 (rd_T70 xs i).f1) ∧ w.cell? ⟨(ad.add (i.toNat * 3)).block, (ad.add (i.toNat * 3)).off + 2, none⟩ = some (.int .i64 (rd_T70 xs i).f2) := by
  obtain ⟨ad, c, e, _, hK, hc0⟩ := Kd.C_get h z70 i h0 h1
  have hc : ∀ j u, c[j]? = some u → w.cell? (ad.add (i.toNat * 3 + j)) = some u := hc0
  obtain rfl := k70_open hK
  exact ⟨ad, e, hc 0 _ rfl, by rw [← add_field _ _ 1 (by omega)]; exact hc 1 _ rfl, by rw [← add_field _ _ 2 (by omega)]; exact hc 2 _ rfl⟩

structure S37 where
  f0 : Int
  f1 : Int
  f2 : (List S37)
def z37 : S37 := ⟨(0 : Int), (0 : Int), ([] : List S37)⟩
def F37 (d : Kd S37) : Kd S37 := Kd.iso (Kd.pair (Kd.int .i64) (Kd.pair (Kd.int .i64) (Kd.slice 37 d))) (fun x : S37 => (x.f0, x.f1, x.f2))
theorem mono37 : Kd.Mono F37 := Kd.mono_iso _ (Kd.mono_pair (Kd.mono_const _) (Kd.mono_pair (Kd.mono_const _) (Kd.mono_slice 37 Kd.mono_id)))
theorem sub37 : Kd.Sub F37 [37] := Kd.sub_iso _ (Kd.sub_pair (Kd.sub_const _ (by decide)) (Kd.sub_pair (Kd.sub_const _ (by decide)) (Kd.sub_slice 37 (by decide) Kd.sub_id)))
theorem sz37 : ∀ n, (Kd.upto F37 3 [37] n).sz = 3 := Kd.upto_sz (fun _ => rfl)
def k37 : Kd S37 := Kd.fix F37 3 [37] sz37 (Kd.upto_E sub37)
theorem k37_open {w : World} {x : S37} {cs : List Value} (h : k37.K w x cs) : ∃ A2 c2, cs = [.int .i64 x.f0, .int .i64 x.f1, .slice A2 x.f2.length c2] ∧ x.f2.length ≤ c2 ∧ k37.C w A2 x.f2.length x.f2 := by
  obtain ⟨n, h⟩ := h
  cases n with
  | zero => exact h.elim
  | succ n =>
    obtain ⟨_, _, rfl, rfl, ⟨_, _, rfl, rfl, ⟨A2, c2, rfl, l2, g2⟩⟩⟩ := h
    exact ⟨A2, c2, rfl, l2, Kd.fix_C g2⟩
theorem k37_mkM (w : World) (base : Nat) (ok : Nat → Prop) (x : S37) {v2 : Value} (g2 : k37.R 37 w base ok v2 x.f2) : k37.M w base ok x [.int .i64 x.f0, .int .i64 x.f1, v2] := by
  obtain ⟨n2, q2⟩ := Kd.fix_R_back mono37 g2
  have r2 := Kd.upto_R_le mono37 sz37 (show n2 ≤ n2 by omega) q2
  exact ⟨n2 + 1, ⟨[.int .i64 x.f0], [.int .i64 x.f1, v2], rfl, rfl, ⟨[.int .i64 x.f1], [v2], rfl, rfl, ⟨v2, rfl, r2⟩⟩⟩⟩
def rd_T37 (xs : List S37) (i : Int) : S37 := xs.getD i.toNat z37
theorem at_T37 {w : World} {A : Option Addr} {n : Nat} {xs : List S37} (h : Kd.C k37 w A n xs) (i : Int) (h0 : 0 ≤ i) (h1 : i < n) : ∃ ad A2 c2, A = some ad ∧ w.cell? (ad.add (i.toNat * 3)) = some (.int .i64 (rd_T37 xs i).f0) ∧ w.cell? ⟨(ad.add (i.toNat * 3)).block, (ad.add (i.toNat * 3)).off + 1, none⟩ = some (.int .i64 (rd_T37 xs i).f1) ∧ w.cell? ⟨(ad.add (i.toNat * 3)).block, (ad.add (i.toNat * 3)).off + 2, none⟩ = some (.slice A2 (rd_T37 xs i).f2.length c2) ∧ (rd_T37 xs i).f2.length ≤ c2 ∧ k37.C w A2 (rd_T37 xs i).f2.length (rd_T37 xs i).f2 := by
  obtain ⟨ad, c, e, _, hK, hc0⟩ := Kd.C_get h z37 i h0 h1
  have hc : ∀ j u, c[j]? = some u → w.cell? (ad.add (i.toNat * 3 + j)) = some u := hc0
  obtain ⟨A2, c2, rfl, l2, g2⟩ := k37_open hK
  exact ⟨ad, A2, c2, e, hc 0 _ rfl, by rw [← add_field _ _ 1 (by omega)]; exact hc 1 _ rfl, by rw [← add_field _ _ 2 (by omega)]; exact hc 2 _ rfl, l2, g2⟩

structure S42 where
  f0 : Int
  f1 : Int
  f2 : (List S42)
def z42 : S42 := ⟨(0 : Int), (0 : Int), ([] : List S42)⟩
def F42 (d : Kd S42) : Kd S42 := Kd.iso (Kd.pair (Kd.int .i64) (Kd.pair (Kd.int .i64) (Kd.slice 42 d))) (fun x : S42 => (x.f0, x.f1, x.f2))
theorem mono42 : Kd.Mono F42 := Kd.mono_iso _ (Kd.mono_pair (Kd.mono_const _) (Kd.mono_pair (Kd.mono_const _) (Kd.mono_slice 42 Kd.mono_id)))
theorem sub42 : Kd.Sub F42 [42] := Kd.sub_iso _ (Kd.sub_pair (Kd.sub_const _ (by decide)) (Kd.sub_pair (Kd.sub_const _ (by decide)) (Kd.sub_slice 42 (by decide) Kd.sub_id)))
theorem sz42 : ∀ n, (Kd.upto F42 3 [42] n).sz = 3 := Kd.upto_sz (fun _ => rfl)
def k42 : Kd S42 := Kd.fix F42 3 [42] sz42 (Kd.upto_E sub42)
theorem k42_open {w : World} {x : S42} {cs : List Value} (h : k42.K w x cs) : ∃ A2 c2, cs = [.int .i64 x.f0, .int .i64 x.f1, .slice A2 x.f2.length c2] ∧ x.f2.length ≤ c2 ∧ k42.C w A2 x.f2.length x.f2 := by
  obtain ⟨n, h⟩ := h
  cases n with
  | zero => exact h.elim
  | succ n =>
    obtain ⟨_, _, rfl, rfl, ⟨_, _, rfl, rfl, ⟨A2, c2, rfl, l2, g2⟩⟩⟩ := h
    exact ⟨A2, c2, rfl, l2, Kd.fix_C g2⟩
theorem k42_mk (w : World) (x : S42) {A2 : Option Addr} {c2 : Nat} (l2 : x.f2.length ≤ c2) (g2 : k42.C w A2 x.f2.length x.f2) : k42.K w x [.int .i64 x.f0, .int .i64 x.f1, .slice A2 x.f2.length c2] := by
  obtain ⟨n2, q2⟩ := Kd.fix_C_back mono42 g2
  have r2 := Kd.upto_C_le mono42 sz42 (show n2 ≤ n2 by omega) q2
  exact ⟨n2 + 1, ⟨[.int .i64 x.f0], [.int .i64 x.f1, .slice A2 x.f2.length c2], rfl, rfl, ⟨[.int .i64 x.f1], [.slice A2 x.f2.length c2], rfl, rfl, ⟨A2, c2, rfl, l2, r2⟩⟩⟩⟩
theorem k42_openF {W : World} {ok : Nat → Prop} {x : S42} {cs : List Value} (h : Kd.FK k42 W ok x cs) : ∃ A2 c2, cs = [.int .i64 x.f0, .int .i64 x.f1, .slice A2 x.f2.length c2] ∧ x.f2.length ≤ c2 ∧ Kd.F k42 W ok A2 x.f2.length x.f2 := by
  obtain ⟨A2, c2, rfl, l2, _⟩ := k42_open (Kd.FK_now h)
  exact ⟨A2, c2, rfl, l2, (fun W' hW => by obtain ⟨A2_, c2_, he, l2_, g2_⟩ := k42_open (h W' hW); injection (Option.some.inj (show some (Value.slice A2 x.f2.length c2) = some (Value.slice A2_ x.f2.length c2_) from congrArg (fun l => l[2]?) he)) with ha_ _ _; rw [ha_]; exact g2_)⟩
theorem k42_mkF (W : World) (ok : Nat → Prop) (x : S42) {A2 : Option Addr} {c2 : Nat} (l2 : x.f2.length ≤ c2) (g2 : Kd.F k42 W ok A2 x.f2.length x.f2) : Kd.FK k42 W ok x [.int .i64 x.f0, .int .i64 x.f1, .slice A2 x.f2.length c2] := fun W2 hW => k42_mk W2 x l2 (g2 W2 hW)
def rd_T42 (xs : List S42) (i : Int) : S42 := xs.getD i.toNat z42
theorem at_T42 {w : World} {A : Option Addr} {n : Nat} {xs : List S42} (h : Kd.C k42 w A n xs) (i : Int) (h0 : 0 ≤ i) (h1 : i < n) : ∃ ad A2 c2, A = some ad ∧ w.cell? (ad.add (i.toNat * 3)) = some (.int .i64 (rd_T42 xs i).f0) ∧ w.cell? ⟨(ad.add (i.toNat * 3)).block, (ad.add (i.toNat * 3)).off + 1, none⟩ = some (.int .i64 (rd_T42 xs i).f1) ∧ w.cell? ⟨(ad.add (i.toNat * 3)).block, (ad.add (i.toNat * 3)).off + 2, none⟩ = some (.slice A2 (rd_T42 xs i).f2.length c2) ∧ (rd_T42 xs i).f2.length ≤ c2 ∧ k42.C w A2 (rd_T42 xs i).f2.length (rd_T42 xs i).f2 := by
  obtain ⟨ad, c, e, _, hK, hc0⟩ := Kd.C_get h z42 i h0 h1
  have hc : ∀ j u, c[j]? = some u → w.cell? (ad.add (i.toNat * 3 + j)) = some u := hc0
  obtain ⟨A2, c2, rfl, l2, g2⟩ := k42_open hK
  exact ⟨ad, A2, c2, e, hc 0 _ rfl, by rw [← add_field _ _ 1 (by omega)]; exact hc 1 _ rfl, by rw [← add_field _ _ 2 (by omega)]; exact hc 2 _ rfl, l2, g2⟩

structure S33 where
  f0 : Int
  f1 : Int
  f2 : Int
def z33 : S33 := ⟨(0 : Int), (0 : Int), (0 : Int)⟩
def k33 : Kd S33 := Kd.iso (Kd.pair (Kd.int .i64) (Kd.pair (Kd.int .i64) (Kd.int .i64))) (fun x : S33 => (x.f0, x.f1, x.f2))
theorem k33_open {w : World} {x : S33} {cs : List Value} (h : k33.K w x cs) : cs = [.int .i64 x.f0, .int .i64 x.f1, .int .i64 x.f2] := by
  obtain ⟨_, _, rfl, rfl, ⟨_, _, rfl, rfl, rfl⟩⟩ := h
  exact rfl
theorem k33_mkM (w : World) (base : Nat) (ok : Nat → Prop) (x : S33)  : k33.M w base ok x [.int .i64 x.f0, .int .i64 x.f1, .int .i64 x.f2] := ⟨[.int .i64 x.f0], [.int .i64 x.f1, .int .i64 x.f2], rfl, rfl, ⟨[.int .i64 x.f1], [.int .i64 x.f2], rfl, rfl, rfl⟩⟩
def rd_T33 (xs : List S33) (i : Int) : S33 := xs.getD i.toNat z33
theorem at_T33 {w : World} {A : Option Addr} {n : Nat} {xs : List S33} (h : Kd.C k33 w A n xs) (i : Int) (h0 : 0 ≤ i) (h1 : i < n) : ∃ ad , A = some ad ∧ w.cell? (ad.add (i.toNat * 3)) = some (.int .i64 (rd_T33 xs i).f0) ∧ w.cell? ⟨(ad.add (i.toNat * 3)).block, (ad.add (i.toNat * 3)).off + 1, none⟩ = some (.int .i64 (rd_T33 xs i).f1) ∧ w.cell? ⟨(ad.add (i.toNat * 3)).block, (ad.add (i.toNat * 3)).off + 2, none⟩ = some (.int .i64 (rd_T33 xs i).f2) := by
  obtain ⟨ad, c, e, _, hK, hc0⟩ := Kd.C_get h z33 i h0 h1
  have hc : ∀ j u, c[j]? = some u → w.cell? (ad.add (i.toNat * 3 + j)) = some u := hc0
  obtain rfl := k33_open hK
  exact ⟨ad, e, hc 0 _ rfl, by rw [← add_field _ _ 1 (by omega)]; exact hc 1 _ rfl, by rw [← add_field _ _ 2 (by omega)]; exact hc 2 _ rfl⟩

structure S49 where
  f0 : Int
  f1 : Int
  f2 : (List S49)
def z49 : S49 := ⟨(0 : Int), (0 : Int), ([] : List S49)⟩
def F49 (d : Kd S49) : Kd S49 := Kd.iso (Kd.pair (Kd.int .i64) (Kd.pair (Kd.int .i64) (Kd.slice 49 d))) (fun x : S49 => (x.f0, x.f1, x.f2))
theorem mono49 : Kd.Mono F49 := Kd.mono_iso _ (Kd.mono_pair (Kd.mono_const _) (Kd.mono_pair (Kd.mono_const _) (Kd.mono_slice 49 Kd.mono_id)))
theorem sub49 : Kd.Sub F49 [49] := Kd.sub_iso _ (Kd.sub_pair (Kd.sub_const _ (by decide)) (Kd.sub_pair (Kd.sub_const _ (by decide)) (Kd.sub_slice 49 (by decide) Kd.sub_id)))
theorem sz49 : ∀ n, (Kd.upto F49 3 [49] n).sz = 3 := Kd.upto_sz (fun _ => rfl)
def k49 : Kd S49 := Kd.fix F49 3 [49] sz49 (Kd.upto_E sub49)
theorem k49_open {w : World} {x : S49} {cs : List Value} (h : k49.K w x cs) : ∃ A2 c2, cs = [.int .i64 x.f0, .int .i64 x.f1, .slice A2 x.f2.length c2] ∧ x.f2.length ≤ c2 ∧ k49.C w A2 x.f2.length x.f2 := by
  obtain ⟨n, h⟩ := h
  cases n with
  | zero => exact h.elim
  | succ n =>
    obtain ⟨_, _, rfl, rfl, ⟨_, _, rfl, rfl, ⟨A2, c2, rfl, l2, g2⟩⟩⟩ := h
    exact ⟨A2, c2, rfl, l2, Kd.fix_C g2⟩
theorem k49_mk (w : World) (x : S49) {A2 : Option Addr} {c2 : Nat} (l2 : x.f2.length ≤ c2) (g2 : k49.C w A2 x.f2.length x.f2) : k49.K w x [.int .i64 x.f0, .int .i64 x.f1, .slice A2 x.f2.length c2] := by
  obtain ⟨n2, q2⟩ := Kd.fix_C_back mono49 g2
  have r2 := Kd.upto_C_le mono49 sz49 (show n2 ≤ n2 by omega) q2
  exact ⟨n2 + 1, ⟨[.int .i64 x.f0], [.int .i64 x.f1, .slice A2 x.f2.length c2], rfl, rfl, ⟨[.int .i64 x.f1], [.slice A2 x.f2.length c2], rfl, rfl, ⟨A2, c2, rfl, l2, r2⟩⟩⟩⟩
theorem k49_openF {W : World} {ok : Nat → Prop} {x : S49} {cs : List Value} (h : Kd.FK k49 W ok x cs) : ∃ A2 c2, cs = [.int .i64 x.f0, .int .i64 x.f1, .slice A2 x.f2.length c2] ∧ x.f2.length ≤ c2 ∧ Kd.F k49 W ok A2 x.f2.length x.f2 := by
  obtain ⟨A2, c2, rfl, l2, _⟩ := k49_open (Kd.FK_now h)
  exact ⟨A2, c2, rfl, l2, (fun W' hW => by obtain ⟨A2_, c2_, he, l2_, g2_⟩ := k49_open (h W' hW); injection (Option.some.inj (show some (Value.slice A2 x.f2.length c2) = some (Value.slice A2_ x.f2.length c2_) from congrArg (fun l => l[2]?) he)) with ha_ _ _; rw [ha_]; exact g2_)⟩
theorem k49_mkF (W : World) (ok : Nat → Prop) (x : S49) {A2 : Option Addr} {c2 : Nat} (l2 : x.f2.length ≤ c2) (g2 : Kd.F k49 W ok A2 x.f2.length x.f2) : Kd.FK k49 W ok x [.int .i64 x.f0, .int .i64 x.f1, .slice A2 x.f2.length c2] := fun W2 hW => k49_mk W2 x l2 (g2 W2 hW)
def rd_T49 (xs : List S49) (i : Int) : S49 := xs.getD i.toNat z49
theorem at_T49 {w : World} {A : Option Addr} {n : Nat} {xs : List S49} (h : Kd.C k49 w A n xs) (i : Int) (h0 : 0 ≤ i) (h1 : i < n) : ∃ ad A2 c2, A = some ad ∧ w.cell? (ad.add (i.toNat * 3)) = some (.int .i64 (rd_T49 xs i).f0) ∧ w.cell? ⟨(ad.add (i.toNat * 3)).block, (ad.add (i.toNat * 3)).off + 1, none⟩ = some (.int .i64 (rd_T49 xs i).f1) ∧ w.cell? ⟨(ad.add (i.toNat * 3)).block, (ad.add (i.toNat * 3)).off + 2, none⟩ = some (.slice A2 (rd_T49 xs i).f2.length c2) ∧ (rd_T49 xs i).f2.length ≤ c2 ∧ k49.C w A2 (rd_T49 xs i).f2.length (rd_T49 xs i).f2 := by
  obtain ⟨ad, c, e, _, hK, hc0⟩ := Kd.C_get h z49 i h0 h1
  have hc : ∀ j u, c[j]? = some u → w.cell? (ad.add (i.toNat * 3 + j)) = some u := hc0
  obtain ⟨A2, c2, rfl, l2, g2⟩ := k49_open hK
  exact ⟨ad, A2, c2, e, hc 0 _ rfl, by rw [← add_field _ _ 1 (by omega)]; exact hc 1 _ rfl, by rw [← add_field _ _ 2 (by omega)]; exact hc 2 _ rfl, l2, g2⟩

end Go.Proofs.Ytmcmclcebnepgaa.G

namespace Go.Proofs.Ytmcmclcebnepgaa.G
open Go.RowKit Go.Proofs.YtmcmclcebnepgaaW.PrintWords Go.Proofs.YtmcmclcebnepgaaW.PrintLast Go.Proofs.YtmcmclcebnepgaaW.PrintMore
section
variable {α : Type} {d : Kd α} {e base n c g a b : Nat} {ok : Nat → Prop} {W w1 w0 : World} {A : Option Addr} {u v : Value} {xs : List α} {o : Obj}
theorem qb (h : Aside0 (W.heap[g]? = some o)) (hb : Below W.heap.size W w1) : Aside0 (w1.heap[g]? = some o) := ⟨blk_below h.out hb⟩
theorem qv (h : Aside0 (Kd.V d e W base ok v xs)) (hg : a = W.heap.size) (hb : Below W.heap.size W w1) : Aside0 (Kd.V d e w1 base (fun k => ok k ∧ k ≠ a) v xs) := ⟨Kd.V_below (Kd.V_elderB h.out a (Nat.le_of_eq hg.symm)) hb⟩
theorem qn (h : Aside0 (Kd.N d e W base ok v xs)) (hg : a = W.heap.size) (hb : Below W.heap.size W w1) : Aside0 (Kd.N d e w1 base (fun k => ok k ∧ k ≠ a) v xs) := ⟨Kd.N_below (Kd.N_elderB h.out a (Nat.le_of_eq hg.symm)) hb⟩
theorem qe (h : Aside0 (Kd.V d e W base ok v xs)) (hbase : ∀ k, u.ownBlock = some k → W.heap.size ≤ k) (hb : Below W.heap.size W w1) : Aside0 (Kd.V d e w1 base (fun k => ok k ∧ some k ≠ u.ownBlock) v xs) := ⟨Kd.V_elder' h.out hbase hb⟩
theorem qs (h : Aside0 (Below w0.heap.size w0 W)) (hb : Below W.heap.size W w1) : Aside0 (Below w0.heap.size w0 w1) := ⟨below_step h.out hb⟩
theorem qw (h : Aside0 (Below w0.heap.size w0 W)) (hg : a = W.heap.size) : Aside0 (w0.heap.size ≤ a) := ⟨by rw [hg]; exact below_size h.out⟩
theorem ql (h : Aside0 (W.heap[g]? = some o)) (hg : a = W.heap.size) : Aside0 (g ≠ a) := ⟨by rw [hg]; exact Nat.ne_of_lt (blk_lt h.out)⟩
theorem qg (h : Aside0 (W.heap[g]? = some o)) (hg : a = W.heap.size) : Aside0 (a ≠ g) := ⟨by rw [hg]; exact Nat.ne_of_gt (blk_lt h.out)⟩
theorem qr (h : Aside0 (Kd.V d e W base ok (.slice A n c) xs)) (hb : Below W.heap.size W w1) : Aside0 (d.C w1 A xs.length xs) := ⟨Kd.C_below (Kd.V_reads' h.out).2.2 hb⟩
end
theorem vC {α : Type} {d : Kd α} {e n c : Nat} {W : World} {base : Nat} {ok : Nat → Prop} {A : Option Addr} {xs : List α} (h : Kd.V d e W base ok (.slice A n c) xs) : d.C W A xs.length xs := (Kd.V_reads' h).2.2
theorem aK {p : Prop} (h : p) : Aside0 p := ⟨h⟩
theorem zN {w : World} {g : Nat} {o : Obj} (h : w.heap[g]? = some o) (n : Nat) : (w.drewN n).heap[g]? = some o := blk_drewN h n
theorem zD {w : World} {g : Nat} {o : Obj} (h : w.heap[g]? = some o) : w.drew.heap[g]? = some o := blk_drew h
theorem zA {w : World} {g : Nat} {o : Obj} (h : w.heap[g]? = some o) (o' : Obj) : (w.alloc o').heap[g]? = some o := blk_alloc h o'
theorem pB {A B : Prop} (h : Aside0 A) (k : A → B := by intro h; (with_reducible repeat (first | refine blk_drewN ?_ _ | refine blk_drew ?_ | refine blk_alloc ?_ _)); exact h) : B := k h.out
theorem pH {A B : Prop} (h : Aside0 A) (k : A → B := by intro h; repeat (first | (with_reducible first | exact h | apply below_alloc | apply pw_below_drewN | apply below_drew1 | refine below_set ?_ (Aside0.out (by assumption))) | exact h)) : B := k h.out
theorem sC {A B : Prop} (h : A) (k : A → B := by intro h; repeat (first | exact h | (with_reducible refine Kd.C_alloc ?_ _) | (with_reducible refine Kd.C_drewN ?_ _) | (with_reducible refine Kd.C_drew ?_))) : B := k h
theorem eW {B : Prop} (h : B := by first | rfl | (simp [errW_none, errW_some] <;> rfl) | (simp [*, errW_none, errW_some] <;> rfl)) : B := h
theorem tA {B : Prop} (h : B := by (try simp only [List.map_toArray, List.map_cons, List.map_nil]); first | done | rfl) : B := h
theorem dA {p : Prop} [Decidable p] (h : decide p = true := by first | (with_reducible assumption) | assumption) : p := of_decide_eq_true h
theorem rS {B : Prop} (h : B := by first | rfl | (simp; done) | (simp [*]; done)) : B := h
theorem nF {w : World} {p : Addr} {x : Value} {A b : Nat} (h : w.cell? p = some x) (l : Aside0 (w.heap.size ≤ b)) (e : p.block = A := by first | rfl | exact add_block _ _) : A ≠ b := e ▸ Nat.ne_of_lt (Nat.lt_of_lt_of_le (World.block_lt_of_cell? w _ h) l.out)
theorem nG {w : World} {p q : Addr} {x : Value} {b : Nat} (h : w.cell? p = some x) (l : Aside0 (w.heap.size ≤ b)) (e : p.block = q.block := by first | rfl | exact add_block _ _ | exact (add_block _ _).symm | exact (add_block _ _).trans (add_block _ _).symm | (dsimp only; exact add_block _ _) | simp [add_block]) : q.block ≠ b := e ▸ Nat.ne_of_lt (Nat.lt_of_lt_of_le (World.block_lt_of_cell? w _ h) l.out)
theorem cB {p : Addr} {A b : Nat} (h : A ≠ b) (e : p.block = A := by first | rfl | exact add_block _ _) : p.block ≠ b := e ▸ h
theorem k30 {w : World} {g : Nat} {t : TypeId} {x y z : Value} (h : Aside0 (w.heap[g]? = some (.cells #[x, y, z] t (0, 0)))) : w.cell? ⟨g, 0, none⟩ = some x := (blk_cell h.out 0).trans rfl
theorem k31 {w : World} {g : Nat} {t : TypeId} {x y z : Value} (h : Aside0 (w.heap[g]? = some (.cells #[x, y, z] t (0, 0)))) : w.cell? ⟨g, 1, none⟩ = some y := (blk_cell h.out 1).trans rfl
theorem k32 {w : World} {g : Nat} {t : TypeId} {x y z : Value} (h : Aside0 (w.heap[g]? = some (.cells #[x, y, z] t (0, 0)))) : w.cell? ⟨g, 2, none⟩ = some z := (blk_cell h.out 2).trans rfl
theorem fz {w : World} {g : Nat} {t : TypeId} {cs : Array Value} (h : Aside0 (w.heap[g]? = some (.cells cs t (0, 0)))) (i : Nat) : w.frozen? ⟨g, i, none⟩ = false := blk_frozen h.out i
theorem cA3 {w : World} {g : Nat} {t : TypeId} {x y z : Value} (h : Aside0 (w.heap[g]? = some (.cells #[x, y, z] t (0, 0)))) : w.cell? ⟨g, 0, none⟩ = some x ∧ w.cell? ⟨g, 1, none⟩ = some y ∧ w.cell? ⟨g, 2, none⟩ = some z ∧ w.frozen? ⟨g, 0, none⟩ = false ∧ w.frozen? ⟨g, 1, none⟩ = false ∧ w.frozen? ⟨g, 2, none⟩ = false := ⟨k30 h, k31 h, k32 h, fz h 0, fz h 1, fz h 2⟩
theorem cF3 {w : World} {q : Addr} {g i j k : Nat} {x y z v : Value} (hn : q.block ≠ g) (h : w.cell? q = some v) : (((w.setCell ⟨g, i, none⟩ x).setCell ⟨g, j, none⟩ y).setCell ⟨g, k, none⟩ z).cell? q = some v := (cell_far (p := ⟨g, _, none⟩) hn _).trans ((cell_far (p := ⟨g, _, none⟩) hn _).trans ((cell_far (p := ⟨g, _, none⟩) hn _).trans h))
theorem p3 {w : World} {g : Nat} {t : TypeId} {a b c x y z : Value} {B : Prop} (h : Aside0 (w.heap[g]? = some (.cells #[a, b, c] t (0, 0)))) (k : (((w.setCell ⟨g, 0, none⟩ x).setCell ⟨g, 1, none⟩ y).setCell ⟨g, 2, none⟩ z).heap[g]? = some (.cells #[x, y, z] t (0, 0)) → B := by intro h; (with_reducible repeat first | apply zN | apply zD | apply zA); exact h) : B := k (blk_put (blk_put (blk_put h.out 0 x rfl) 1 y rfl) 2 z rfl)
theorem vF3 {α : Type} {d : Kd α} {e base : Nat} {W : World} {ok : Nat → Prop} {v x y z : Value} {xs : List α} (g : Nat) (h : Kd.V d e W base ok v xs) (hok : ∀ k, ok k → k ≠ g) : Kd.V d e (((W.setCell ⟨g, 0, none⟩ x).setCell ⟨g, 1, none⟩ y).setCell ⟨g, 2, none⟩ z) base ok v xs := Kd.V_far (Kd.V_far (Kd.V_far h (p := ⟨g, 0, none⟩) hok x) (p := ⟨g, 1, none⟩) hok y) (p := ⟨g, 2, none⟩) hok z
theorem nF3 {α : Type} {d : Kd α} {e base : Nat} {W : World} {ok : Nat → Prop} {v x y z : Value} {xs : List α} (g : Nat) (h : Kd.N d e W base ok v xs) (hok : ∀ k, ok k → k ≠ g) : Kd.N d e (((W.setCell ⟨g, 0, none⟩ x).setCell ⟨g, 1, none⟩ y).setCell ⟨g, 2, none⟩ z) base ok v xs := Kd.N_far (Kd.N_far (Kd.N_far h (p := ⟨g, 0, none⟩) hok x) (p := ⟨g, 1, none⟩) hok y) (p := ⟨g, 2, none⟩) hok z
abbrev bs (a b : Nat) : Array Bool := (List.replicate a true ++ List.replicate b false).toArray
theorem sP : (∀ (a : Act) (d : Tmp) (v : Value), a.put (some d) v = { a with tmps := a.tmps.setIfInBounds d v }) ∧ (∀ (a : Act) (v : Value), a.put none v = a) ∧ (∀ (l : List Value) (i : Nat) (x : Value), l.toArray.setIfInBounds i x = (l.set i x).toArray) ∧ (∀ (x y : Value) (l : List Value), (x :: l).set 0 y = y :: l) ∧ (∀ (x y : Value) (l : List Value) (n : Nat), (x :: l).set (n + 1) y = x :: l.set n y) := ⟨fun _ _ _ => rfl, fun _ _ => rfl, fun _ _ _ => List.setIfInBounds_toArray .., fun _ _ _ => rfl, fun _ _ _ _ => rfl⟩
theorem uC {w w1 : World} {p : Addr} {v : Value} (b : Aside0 (Below w.heap.size w w1)) (h : w.cell? p = some v) : w1.cell? p = some v := (b.out.cell (World.block_lt_of_cell? w p h)).trans h
theorem bE {P : Program} {ops : Array Oper} {rest : List Oper} {o : Oper} {a : Act} {Q : Exit → Act → World → Prop} {W : World} {N : Tmp} {cs : Array Value} {t : TypeId}
    (h : ∀ g, g = W.heap.size → ∀ w1, w1.heap[g]? = some (.cells cs t (0, 0)) → Below W.heap.size W w1 → wpList P ops Q rest (a.put o.dst (.pointer (some ⟨g, 0, none⟩))) w1)
    (hd : o.dst = some N := by rfl) (hgd : o.guard = none := by rfl) (hrun : (execOp a.eval o).run P W = .ok (.value (.pointer (some ⟨W.heap.size, 0, none⟩))) (W.alloc (.cells cs t (0, 0))) := by go_simp) : wpList P ops Q (o :: rest) a W := box_event hgd hd hrun h
end Go.Proofs.Ytmcmclcebnepgaa.G

namespace Go.Proofs.Ytmcmclcebnepgaa.G
open Go.RowKit Go.Proofs.YtmcmclcebnepgaaW.PrintWords Go.Proofs.YtmcmclcebnepgaaW.PrintLast Go.Proofs.YtmcmclcebnepgaaW.PrintMore
attribute [local go_sem] max2_int min2_int max_two min_two max_three min_three max_four min_four   -- for this text's walks alone
set_option linter.unusedVariables false
set_option linter.unusedSimpArgs false

def IsS61 (w0 W : World) (g : Nat) (f0 : List Int) (f1 : Int) (f2 : Int) : Prop := ∃ A0 c0, W.heap[g]? = some (.cells #[.slice A0 f0.length c0, .int .i64 f1, .int .u64 f2] 61 (0, 0)) ∧ w0.heap.size ≤ g ∧ Kd.C (Kd.int .u8) w0 A0 f0.length f0
theorem IsS61.grown {w0 W : World} {g : Nat} {f0 : List Int} {f1 : Int} {f2 : Int} {W1 : World} {row : Option Nat} (h : IsS61 w0 W g f0 f1 f2) (hw : W.grownBy W1 row) (hne : some g ≠ row) : IsS61 w0 W1 g f0 f1 f2 := by
 obtain ⟨A0, c0, hb, hg, hr0⟩ := h
 exact ⟨A0, c0, blk_grown hb hw hne, hg, hr0⟩
theorem IsS61.fresh {w0 W : World} {g : Nat} {f0 : List Int} {f1 : Int} {f2 : Int} (h : IsS61 w0 W g f0 f1 f2) : ∀ k, W.heap.size ≤ k → k ≠ g := by
 obtain ⟨A0, c0, hb, hg, hr0⟩ := h
 exact Kd.freshB hb
theorem IsS61.below {w0 W : World} {g : Nat} {f0 : List Int} {f1 : Int} {f2 : Int} {W1 : World} (h : IsS61 w0 W g f0 f1 f2) (hw : Below W.heap.size W W1) : IsS61 w0 W1 g f0 f1 f2 := h.grown (grown_of_below hw none) (by simp)
theorem IsS61.alloc {w0 W : World} {g : Nat} {f0 : List Int} {f1 : Int} {f2 : Int} (h : IsS61 w0 W g f0 f1 f2) (o : Obj) : IsS61 w0 (W.alloc o) g f0 f1 f2 := h.below (below_alloc (Below.refl _ _) o)
theorem IsS61.drewN {w0 W : World} {g : Nat} {f0 : List Int} {f1 : Int} {f2 : Int} (h : IsS61 w0 W g f0 f1 f2) (m : Nat) : IsS61 w0 (W.drewN m) g f0 f1 f2 := h
theorem IsS61.drew {w0 W : World} {g : Nat} {f0 : List Int} {f1 : Int} {f2 : Int} (h : IsS61 w0 W g f0 f1 f2) : IsS61 w0 W.drew g f0 f1 f2 := h
theorem IsS61.apart {w0 W : World} {g : Nat} {f0 : List Int} {f1 : Int} {f2 : Int} {α : Type} {d : Kd α} {e : Nat} {base : Nat} {ok : Nat → Prop} {v : Value} {xs : List α} (h : IsS61 w0 W g f0 f1 f2) (ho : d.R e W base ok v xs) (ht : ∀ q, q ∈ e :: d.E → q ≠ 61) : d.R e W base (fun k => ok k ∧ k ≠ g) v xs := by
 obtain ⟨A0, c0, hb, hg, hr0⟩ := h
 exact Kd.R_types ho hb ht
theorem IsS61.own_ne {w0 W : World} {g : Nat} {f0 : List Int} {f1 : Int} {f2 : Int} {α : Type} {d : Kd α} {e : Nat} {base : Nat} {ok : Nat → Prop} {v : Value} {xs : List α} (h : IsS61 w0 W g f0 f1 f2) (ho : d.R e W base ok v xs) (ht : e ≠ 61) : some g ≠ v.ownBlock := by
 obtain ⟨A0, c0, hb, hg, hr0⟩ := h
 exact Kd.R_ne ho hb ht
theorem IsS61.lt {w0 W : World} {g : Nat} {f0 : List Int} {f1 : Int} {f2 : Int} (h : IsS61 w0 W g f0 f1 f2) : g < W.heap.size := by
 obtain ⟨A0, c0, hb, hg, hr0⟩ := h
 exact blk_lt hb
theorem IsS61.ge {w0 W : World} {g : Nat} {f0 : List Int} {f1 : Int} {f2 : Int} (h : IsS61 w0 W g f0 f1 f2) : w0.heap.size ≤ g := by
 obtain ⟨A0, c0, hb, hg, hr0⟩ := h
 exact hg
theorem IsS61.far {w0 W : World} {g : Nat} {f0 : List Int} {f1 : Int} {f2 : Int} {p : Addr} (h : IsS61 w0 W g f0 f1 f2) (hne : g ≠ p.block) (u : Value) : IsS61 w0 (W.setCell p u) g f0 f1 f2 := by
 obtain ⟨A0, c0, hb, hg, hr0⟩ := h
 exact ⟨A0, c0, blk_far hb hne u, hg, hr0⟩
theorem cellS61_0 {W : World} {g : Nat} {A0 : Option Addr} {c0 : Nat} {f0 : List Int} {f1 : Int} {f2 : Int} (h : W.heap[g]? = some (.cells #[.slice A0 f0.length c0, .int .i64 f1, .int .u64 f2] 61 (0, 0))) : W.cell? ⟨g, 0, none⟩ = some (.slice A0 f0.length c0) := (blk_cell h 0).trans rfl
theorem cellS61_1 {W : World} {g : Nat} {A0 : Option Addr} {c0 : Nat} {f0 : List Int} {f1 : Int} {f2 : Int} (h : W.heap[g]? = some (.cells #[.slice A0 f0.length c0, .int .i64 f1, .int .u64 f2] 61 (0, 0))) : W.cell? ⟨g, 1, none⟩ = some (.int .i64 f1) := (blk_cell h 1).trans rfl
theorem IsS61.set_1 {w0 W : World} {g : Nat} {f0 : List Int} {f1 : Int} {f2 : Int} (h : IsS61 w0 W g f0 f1 f2) (x : Int) : IsS61 w0 (W.setCell ⟨g, 1, none⟩ (.int .i64 x)) g f0 x f2 := by
 obtain ⟨A0, c0, hb, hg, hr0⟩ := h
 exact ⟨A0, c0, by simpa using blk_set hb 1 (.int .i64 x), hg, hr0⟩
theorem cellS61_2 {W : World} {g : Nat} {A0 : Option Addr} {c0 : Nat} {f0 : List Int} {f1 : Int} {f2 : Int} (h : W.heap[g]? = some (.cells #[.slice A0 f0.length c0, .int .i64 f1, .int .u64 f2] 61 (0, 0))) : W.cell? ⟨g, 2, none⟩ = some (.int .u64 f2) := (blk_cell h 2).trans rfl
theorem IsS61.set_2 {w0 W : World} {g : Nat} {f0 : List Int} {f1 : Int} {f2 : Int} (h : IsS61 w0 W g f0 f1 f2) (x : Int) : IsS61 w0 (W.setCell ⟨g, 2, none⟩ (.int .u64 x)) g f0 f1 x := by
 obtain ⟨A0, c0, hb, hg, hr0⟩ := h
 exact ⟨A0, c0, by simpa using blk_set hb 2 (.int .u64 x), hg, hr0⟩
theorem IsS61.new (w0 W : World) (A0 : Option Addr) (c0 : Nat) (f0 : List Int) (f1 : Int) (f2 : Int) (hB : Below w0.heap.size w0 W) (hr0 : Kd.C (Kd.int .u8) w0 A0 f0.length f0) : IsS61 w0 (W.alloc (.cells #[.slice A0 f0.length c0, .int .i64 f1, .int .u64 f2] 61)) W.heap.size f0 f1 f2 := ⟨A0, c0, by simpa using heap_alloc_new W _, hB.size, hr0⟩

def spec_l1Cur_next.f (s0_0 : List Int) (s0_1 : Int) (s0_2 : Int) : Option (Int × Int × Int) := if s0_1 < (s0_0.length : Int) then (if 0 ≤ s0_1 then (if (wrap64 (s0_1 + 1)) ≤ (s0_0.length : Int) then (some (wrap64 (rd s0_0 s0_1), wrap64 (s0_1 + 1), IntKind.u64.wrap ((IntKind.u64.wrap ((IntKind.u64.wrap (s0_2 * 6364136223846793005)) + (IntKind.u64.wrap (wrap64 (rd s0_0 s0_1))))) + 1442695040888963407))) else (some (wrap64 (Go.bits .and .u64 ((IntKind.u64.wrap ((IntKind.u64.wrap ((IntKind.u64.wrap (s0_2 * 6364136223846793005)) + (IntKind.u64.wrap (wrap64 (rd s0_0 s0_1))))) + 1442695040888963407)) / 1099511627776) 255), wrap64 (s0_1 + 1), IntKind.u64.wrap ((IntKind.u64.wrap ((IntKind.u64.wrap (s0_2 * 6364136223846793005)) + (IntKind.u64.wrap (wrap64 (rd s0_0 s0_1))))) + 1442695040888963407)))) else (none)) else (if (wrap64 (s0_1 + 1)) ≤ (s0_0.length : Int) then (some (0, wrap64 (s0_1 + 1), IntKind.u64.wrap ((IntKind.u64.wrap ((IntKind.u64.wrap (s0_2 * 6364136223846793005)) + 0)) + 1442695040888963407))) else (some (wrap64 (Go.bits .and .u64 ((IntKind.u64.wrap ((IntKind.u64.wrap ((IntKind.u64.wrap (s0_2 * 6364136223846793005)) + 0)) + 1442695040888963407)) / 1099511627776) 255), wrap64 (s0_1 + 1), IntKind.u64.wrap ((IntKind.u64.wrap ((IntKind.u64.wrap (s0_2 * 6364136223846793005)) + 0)) + 1442695040888963407))))
set_option maxHeartbeats 8000000 in
set_option maxRecDepth 100000 in
theorem spec_l1Cur_next.calls (g : Nat) (s0_0 : List Int) (s0_1 : Int) (s0_2 : Int) (r1 : Int) (r2 : Int) (r3 : Int) (w0 w : World) (hI : IsS61 w0 w g s0_0 s0_1 s0_2) (hB : Below w0.heap.size w0 w) (h : spec_l1Cur_next.f s0_0 s0_1 s0_2 = some (r1, r2, r3)) :
  Calls Try.prog 57 #[.pointer (some ⟨g, 0, none⟩)] w fun e w' => e = .returned (.int .i64 r1) ∧ IsS61 w0 w' g s0_0 r2 r3 ∧ Below w0.heap.size w0 w' ∧ KeepBut w w' g none := by
 have HI0 := aK hI
 have HK := aK (KeepBut.refl w g none)
 have HL := aK hB.size
 clear hI
 have HW0 := aK hB.size
 have HB := aK hB
 clear hB
 have H : (if s0_1 < (s0_0.length : Int) then (if 0 ≤ s0_1 then (if (wrap64 (s0_1 + 1)) ≤ (s0_0.length : Int) then (some (wrap64 (rd s0_0 s0_1), wrap64 (s0_1 + 1), IntKind.u64.wrap ((IntKind.u64.wrap ((IntKind.u64.wrap (s0_2 * 6364136223846793005)) + (IntKind.u64.wrap (wrap64 (rd s0_0 s0_1))))) + 1442695040888963407))) else (some (wrap64 (Go.bits .and .u64 ((IntKind.u64.wrap ((IntKind.u64.wrap ((IntKind.u64.wrap (s0_2 * 6364136223846793005)) + (IntKind.u64.wrap (wrap64 (rd s0_0 s0_1))))) + 1442695040888963407)) / 1099511627776) 255), wrap64 (s0_1 + 1), IntKind.u64.wrap ((IntKind.u64.wrap ((IntKind.u64.wrap (s0_2 * 6364136223846793005)) + (IntKind.u64.wrap (wrap64 (rd s0_0 s0_1))))) + 1442695040888963407)))) else (none)) else (if (wrap64 (s0_1 + 1)) ≤ (s0_0.length : Int) then (some (0, wrap64 (s0_1 + 1), IntKind.u64.wrap ((IntKind.u64.wrap ((IntKind.u64.wrap (s0_2 * 6364136223846793005)) + 0)) + 1442695040888963407))) else (some (wrap64 (Go.bits .and .u64 ((IntKind.u64.wrap ((IntKind.u64.wrap ((IntKind.u64.wrap (s0_2 * 6364136223846793005)) + 0)) + 1442695040888963407)) / 1099511627776) 255), wrap64 (s0_1 + 1), IntKind.u64.wrap ((IntKind.u64.wrap ((IntKind.u64.wrap (s0_2 * 6364136223846793005)) + 0)) + 1442695040888963407))))) = some (r1, r2, r3) := h
 clear h
 by_cases c2 : s0_1 < (s0_0.length : Int)
 ·rw [if_pos c2] at H
  have c2b0 : decide (s0_1 < (s0_0.length : Int)) = true := decide_eq_true c2
  clear c2
  by_cases c3 : 0 ≤ s0_1
  ·rw [if_pos c3] at H
   have c3b0 : decide (0 ≤ s0_1) = true := decide_eq_true c3
   clear c3
   by_cases c4 : (wrap64 (s0_1 + 1)) ≤ (s0_0.length : Int)
   ·rw [if_pos c4] at H
    have c4b0 : decide ((wrap64 (s0_1 + 1)) ≤ (s0_0.length : Int)) = true := decide_eq_true c4
    clear c4
    simp only [Option.some.injEq, Prod.mk.injEq] at H
    obtain ⟨rfl, rfl, rfl⟩ := H
    obtain ⟨ASz5_0, cSz5_0, HGz5, hgz5, HSz5_0⟩ := HI0.out
    have hcz5_0 := cellS61_0 HGz5
    have hcz5_1 := cellS61_1 HGz5
    have hcz5_2 := cellS61_2 HGz5
    have hfz5_1 := blk_frozen HGz5 1
    have hfz5_2 := blk_frozen HGz5 2
    clear HGz5 hgz5
    have p101 : 0 ≤ (s0_1 : Int) := dA
    have q101 : s0_1 < (s0_0.length : Int) := dA
    obtain ⟨ad101, e101, hx101_0⟩ := Kd.at_int HSz5_0 s0_1 p101 q101
    cases e101
    replace hx101_0 := pw_cell_below HB.out hx101_0
    replace p101 := eq_true p101
    replace q101 := eq_true q101
    go_enter Try.func57, Try.ntmps57
    go_wp2
    repeat (go_quiet (fail); try go_wp2)
    go_ret
    exact ⟨eW, by repeat (first | (with_reducible first | exact HI0.out | apply IsS61.alloc | apply IsS61.drewN | apply IsS61.drew | apply IsS61.set_1 | apply IsS61.set_2) | exact HI0.out), by repeat (first | (with_reducible first | exact HB.out | apply below_alloc | apply pw_below_drewN | apply below_drew1 | refine below_set ?_ (IsS61.ge HI0.out)) | exact HB.out), by repeat (first | (with_reducible first | exact HK.out | apply KeepBut.set_ | apply keep_drewN | apply keep_drew | apply keep_alloc) | exact HK.out)⟩
   ·rw [if_neg c4] at H
    have c4b0 : decide ((wrap64 (s0_1 + 1)) ≤ (s0_0.length : Int)) = false := decide_eq_false c4
    clear c4
    simp only [Option.some.injEq, Prod.mk.injEq] at H
    obtain ⟨rfl, rfl, rfl⟩ := H
    obtain ⟨ASz6_0, cSz6_0, HGz6, hgz6, HSz6_0⟩ := HI0.out
    have hcz6_0 := cellS61_0 HGz6
    have hcz6_1 := cellS61_1 HGz6
    have hcz6_2 := cellS61_2 HGz6
    have hfz6_1 := blk_frozen HGz6 1
    have hfz6_2 := blk_frozen HGz6 2
    clear HGz6 hgz6
    have p101 : 0 ≤ (s0_1 : Int) := dA
    have q101 : s0_1 < (s0_0.length : Int) := dA
    obtain ⟨ad101, e101, hx101_0⟩ := Kd.at_int HSz6_0 s0_1 p101 q101
    cases e101
    replace hx101_0 := pw_cell_below HB.out hx101_0
    replace p101 := eq_true p101
    replace q101 := eq_true q101
    go_enter Try.func57, Try.ntmps57
    go_wp2
    repeat (go_quiet (fail); try go_wp2)
    go_ret
    exact ⟨eW, by repeat (first | (with_reducible first | exact HI0.out | apply IsS61.alloc | apply IsS61.drewN | apply IsS61.drew | apply IsS61.set_1 | apply IsS61.set_2) | exact HI0.out), by repeat (first | (with_reducible first | exact HB.out | apply below_alloc | apply pw_below_drewN | apply below_drew1 | refine below_set ?_ (IsS61.ge HI0.out)) | exact HB.out), by repeat (first | (with_reducible first | exact HK.out | apply KeepBut.set_ | apply keep_drewN | apply keep_drew | apply keep_alloc) | exact HK.out)⟩
  ·rw [if_neg c3] at H
   exact absurd H (by simp)
 ·rw [if_neg c2] at H
  have c2b0 : decide (s0_1 < (s0_0.length : Int)) = false := decide_eq_false c2
  clear c2
  by_cases c7 : (wrap64 (s0_1 + 1)) ≤ (s0_0.length : Int)
  ·rw [if_pos c7] at H
   have c7b0 : decide ((wrap64 (s0_1 + 1)) ≤ (s0_0.length : Int)) = true := decide_eq_true c7
   clear c7
   simp only [Option.some.injEq, Prod.mk.injEq] at H
   obtain ⟨rfl, rfl, rfl⟩ := H
   obtain ⟨ASz8_0, cSz8_0, HGz8, hgz8, HSz8_0⟩ := HI0.out
   have hcz8_0 := cellS61_0 HGz8
   have hcz8_1 := cellS61_1 HGz8
   have hcz8_2 := cellS61_2 HGz8
   have hfz8_1 := blk_frozen HGz8 1
   have hfz8_2 := blk_frozen HGz8 2
   clear HGz8 hgz8
   go_enter Try.func57, Try.ntmps57
   go_wp2
   repeat (go_quiet (fail); try go_wp2)
   go_ret
   simp only [Int.add_zero]
   exact ⟨eW, by repeat (first | (with_reducible first | exact HI0.out | apply IsS61.alloc | apply IsS61.drewN | apply IsS61.drew | apply IsS61.set_1 | apply IsS61.set_2) | exact HI0.out), by repeat (first | (with_reducible first | exact HB.out | apply below_alloc | apply pw_below_drewN | apply below_drew1 | refine below_set ?_ (IsS61.ge HI0.out)) | exact HB.out), by repeat (first | (with_reducible first | exact HK.out | apply KeepBut.set_ | apply keep_drewN | apply keep_drew | apply keep_alloc) | exact HK.out)⟩
  ·rw [if_neg c7] at H
   have c7b0 : decide ((wrap64 (s0_1 + 1)) ≤ (s0_0.length : Int)) = false := decide_eq_false c7
   clear c7
   simp only [Option.some.injEq, Prod.mk.injEq] at H
   obtain ⟨rfl, rfl, rfl⟩ := H
   obtain ⟨ASz9_0, cSz9_0, HGz9, hgz9, HSz9_0⟩ := HI0.out
   have hcz9_0 := cellS61_0 HGz9
   have hcz9_1 := cellS61_1 HGz9
   have hcz9_2 := cellS61_2 HGz9
   have hfz9_1 := blk_frozen HGz9 1
   have hfz9_2 := blk_frozen HGz9 2
   clear HGz9 hgz9
   go_enter Try.func57, Try.ntmps57
   go_wp2
   repeat (go_quiet (fail); try go_wp2)
   go_ret
   simp only [Int.add_zero]
   exact ⟨eW, by repeat (first | (with_reducible first | exact HI0.out | apply IsS61.alloc | apply IsS61.drewN | apply IsS61.drew | apply IsS61.set_1 | apply IsS61.set_2) | exact HI0.out), by repeat (first | (with_reducible first | exact HB.out | apply below_alloc | apply pw_below_drewN | apply below_drew1 | refine below_set ?_ (IsS61.ge HI0.out)) | exact HB.out), by repeat (first | (with_reducible first | exact HK.out | apply KeepBut.set_ | apply keep_drewN | apply keep_drew | apply keep_alloc) | exact HK.out)⟩

end Go.Proofs.Ytmcmclcebnepgaa.G

namespace Go.Proofs.Ytmcmclcebnepgaa.G
open Go.RowKit Go.Proofs.YtmcmclcebnepgaaW.PrintWords Go.Proofs.YtmcmclcebnepgaaW.PrintLast Go.Proofs.YtmcmclcebnepgaaW.PrintMore
theorem yI {A B : Prop} (h : Aside0 A) (k : A → B := by intro h; repeat (first | (with_reducible first | exact h | apply IsS61.alloc | apply IsS61.drewN | apply IsS61.drew | apply IsS61.set_1 | apply IsS61.set_2 | refine IsS61.far ?_ (Aside0.out (by assumption)) _) | exact h)) : B := k h.out
theorem yK {u W W' : World} {g : Nat} {row : Option Nat} (h : Aside0 (KeepBut u W g row)) (k : KeepBut u W g row → KeepBut u W' g row := by intro h; repeat (first | (with_reducible first | exact h | apply KeepBut.set_ | apply keep_drewN | apply keep_drew | apply keep_alloc | refine keep_far ?_ (Aside0.out (by assumption)) _) | exact h)) : KeepBut u W' g row := k h.out
theorem yH {A B : Prop} (h : Aside0 A) (k : A → B := by intro h; repeat (first | (with_reducible first | exact h | apply below_alloc | apply pw_below_drewN | apply below_drew1 | refine below_set ?_ (IsS61.ge (Aside0.out (by assumption))) | refine below_set ?_ (Aside0.out (by assumption))) | exact h)) : B := k h.out
end Go.Proofs.Ytmcmclcebnepgaa.G

namespace Go.Proofs.Ytmcmclcebnepgaa.G
open Go.RowKit Go.Proofs.YtmcmclcebnepgaaW.PrintWords Go.Proofs.YtmcmclcebnepgaaW.PrintLast Go.Proofs.YtmcmclcebnepgaaW.PrintMore
attribute [local go_sem] max2_int min2_int max_two min_two max_three min_three max_four min_four   -- for this text's walks alone
set_option linter.unusedVariables false
set_option linter.unusedSimpArgs false

def spec_l1Cur_pick.f (s0_0 : List Int) (s0_1 : Int) (s0_2 : Int) (a1 : Int) : Option (Int × Int × Int) := if a1 ≤ 1 then (some (0, s0_1, s0_2)) else ((spec_l1Cur_next.f s0_0 s0_1 s0_2).bind fun bt101 => (if a1 > 200 then ((spec_l1Cur_next.f s0_0 bt101.2.1 bt101.2.2).bind fun bt104 => (if a1 = 0 then (none) else (some (Int.tmod (wrap64 ((wrap64 (bt101.1 * 256)) + bt104.1)) a1, bt104.2.1, bt104.2.2)))) else (if a1 = 0 then (none) else (some (Int.tmod bt101.1 a1, bt101.2.1, bt101.2.2)))))
set_option maxHeartbeats 8000000 in
set_option maxRecDepth 100000 in
theorem spec_l1Cur_pick.calls (g : Nat) (s0_0 : List Int) (s0_1 : Int) (s0_2 : Int) (a1 : Int) (r1 : Int) (r2 : Int) (r3 : Int) (w0 w : World) (hI : IsS61 w0 w g s0_0 s0_1 s0_2) (hB : Below w0.heap.size w0 w) (h : spec_l1Cur_pick.f s0_0 s0_1 s0_2 a1 = some (r1, r2, r3)) :
  Calls Try.prog 37 #[.pointer (some ⟨g, 0, none⟩), .int .i64 a1] w fun e w' => e = .returned (.int .i64 r1) ∧ IsS61 w0 w' g s0_0 r2 r3 ∧ Below w0.heap.size w0 w' ∧ KeepBut w w' g none := by
 have HI0 := aK hI
 have HK := aK (KeepBut.refl w g none)
 have HL := aK hB.size
 clear hI
 have HW0 := aK hB.size
 have HB := aK hB
 clear hB
 have H : (if a1 ≤ 1 then (some (0, s0_1, s0_2)) else ((spec_l1Cur_next.f s0_0 s0_1 s0_2).bind fun bt101 => (if a1 > 200 then ((spec_l1Cur_next.f s0_0 bt101.2.1 bt101.2.2).bind fun bt104 => (if a1 = 0 then (none) else (some (Int.tmod (wrap64 ((wrap64 (bt101.1 * 256)) + bt104.1)) a1, bt104.2.1, bt104.2.2)))) else (if a1 = 0 then (none) else (some (Int.tmod bt101.1 a1, bt101.2.1, bt101.2.2)))))) = some (r1, r2, r3) := h
 clear h
 by_cases c3 : a1 ≤ 1
 ·rw [if_pos c3] at H
  have c3b0 : decide (a1 ≤ 1) = true := decide_eq_true c3
  clear c3
  simp only [Option.some.injEq, Prod.mk.injEq] at H
  obtain ⟨rfl, rfl, rfl⟩ := H
  go_enter Try.func37, Try.ntmps37
  go_wp2
  go_ret
  exact ⟨eW, yI HI0, yH HB, yK HK⟩
 ·rw [if_neg c3] at H
  have c3b0 : decide (a1 ≤ 1) = false := decide_eq_false c3
  clear c3
  replace H := Option.bind_eq_some_iff.mp H
  obtain ⟨⟨t101, t102, t103⟩, A40, H⟩ := H
  try dsimp only at H
  have A4 := aK A40
  clear A40
  by_cases c5 : a1 > 200
  ·rw [if_pos c5] at H
   have c5b0 : decide (200 < a1) = true := decide_eq_true c5
   clear c5
   replace H := Option.bind_eq_some_iff.mp H
   obtain ⟨⟨t104, t105, t106⟩, A60, H⟩ := H
   try dsimp only at H
   have A6 := aK A60
   clear A60
   by_cases c7 : a1 = 0
   ·rw [if_pos c7] at H
    exact absurd H (by simp)
   ·rw [if_neg c7] at H
    have c7b0 : (a1 == 0) = false := beq_eq_false_iff_ne.mpr c7
    have c7b1 : (a1 != 0) = true := bne_iff_ne.mpr c7
    simp only [Option.some.injEq, Prod.mk.injEq] at H
    obtain ⟨rfl, rfl, rfl⟩ := H
    go_enter Try.func37, Try.ntmps37
    go_wp2_with (first | ((with_reducible refine gate_callee (f := 57) rfl ?_); refine goesL_ (some 9) rfl rfl Try.func57 (by kernel_rfl) rfl #[.pointer (some ⟨g, 0, none⟩)] rfl tA ?_; (with_reducible refine (spec_l1Cur_next.calls g s0_0 s0_1 s0_2 t101 t102 t103 w0 _ ?side1 ?side2 A4.out).mono ?_); (case side1 => exact yI HI0); (case side2 => exact yH HB); rintro e w8 ⟨rfl, hi, hb, hk⟩; refine ⟨_, rfl, ?_⟩; have n0_ := aK (KeepBut.trans (yK HK) hk (.inl rfl)); have n1_ := aK (hb); have n2_ := aK (hi); clear HK; have HK := n0_; clear n0_; clear HB; have HB := n1_; clear n1_; clear HI0; have HI0 := n2_; clear n2_; (try clear hb)) | ((with_reducible refine gate_callee (f := 57) rfl ?_); refine goesL_ (some 15) rfl rfl Try.func57 (by kernel_rfl) rfl #[.pointer (some ⟨g, 0, none⟩)] rfl tA ?_; (with_reducible refine (spec_l1Cur_next.calls g s0_0 t102 t103 t104 t105 t106 w0 _ ?side1 ?side2 A6.out).mono ?_); (case side1 => exact yI HI0); (case side2 => exact yH HB); rintro e w9 ⟨rfl, hi, hb, hk⟩; refine ⟨_, rfl, ?_⟩; have n0_ := aK (KeepBut.trans (yK HK) hk (.inl rfl)); have n1_ := aK (hb); have n2_ := aK (hi); clear HK; have HK := n0_; clear n0_; clear HB; have HB := n1_; clear n1_; clear HI0; have HI0 := n2_; clear n2_; (try clear hb)))
    go_ret
    exact ⟨eW, yI HI0, yH HB, yK HK⟩
  ·rw [if_neg c5] at H
   have c5b0 : decide (200 < a1) = false := decide_eq_false c5
   clear c5
   by_cases c10 : a1 = 0
   ·rw [if_pos c10] at H
    exact absurd H (by simp)
   ·rw [if_neg c10] at H
    have c10b0 : (a1 == 0) = false := beq_eq_false_iff_ne.mpr c10
    have c10b1 : (a1 != 0) = true := bne_iff_ne.mpr c10
    simp only [Option.some.injEq, Prod.mk.injEq] at H
    obtain ⟨rfl, rfl, rfl⟩ := H
    go_enter Try.func37, Try.ntmps37
    go_wp2_with (first | ((with_reducible refine gate_callee (f := 57) rfl ?_); refine goesL_ (some 9) rfl rfl Try.func57 (by kernel_rfl) rfl #[.pointer (some ⟨g, 0, none⟩)] rfl tA ?_; (with_reducible refine (spec_l1Cur_next.calls g s0_0 s0_1 s0_2 t101 t102 t103 w0 _ ?side1 ?side2 A4.out).mono ?_); (case side1 => exact yI HI0); (case side2 => exact yH HB); rintro e w11 ⟨rfl, hi, hb, hk⟩; refine ⟨_, rfl, ?_⟩; have n0_ := aK (KeepBut.trans (yK HK) hk (.inl rfl)); have n1_ := aK (hb); have n2_ := aK (hi); clear HK; have HK := n0_; clear n0_; clear HB; have HB := n1_; clear n1_; clear HI0; have HI0 := n2_; clear n2_; (try clear hb)))
    go_ret
    exact ⟨eW, yI HI0, yH HB, yK HK⟩


def spec_lcApp.f (a0_0 : Int) (a0_1 : Int) (l0_2 : List (S54)) (a1_0 : Int) (a1_1 : Int) (l1_2 : List (S54)) : Option (Int × Int × (List (S54))) := some (3, 0, (([(⟨a0_0, a0_1, l0_2⟩ : S54), (⟨a1_0, a1_1, l1_2⟩ : S54)] : List (S54))))
set_option maxHeartbeats 8000000 in
set_option maxRecDepth 100000 in
theorem spec_lcApp.calls (a0_0 : Int) (a0_1 : Int) (P0_2_ : Nat → Prop) (A0_2 : Option Addr) (c0_2 : Nat) (l0_2 : List (S54)) (a1_0 : Int) (a1_1 : Int) (P1_2_ : Nat → Prop) (A1_2 : Option Addr) (c1_2 : Nat) (l1_2 : List (S54)) (r1 : Int) (r2 : Int) (r3 : List (S54)) (w : World) (hs0_2 : Kd.V k54 54 w w.heap.size (fun k_ => P0_2_ k_) (.slice A0_2 l0_2.length c0_2) l0_2) (hs1_2 : Kd.V k54 54 w w.heap.size (fun k_ => P1_2_ k_) (.slice A1_2 l1_2.length c1_2) l1_2) (h : spec_lcApp.f a0_0 a0_1 l0_2 a1_0 a1_1 l1_2 = some (r1, r2, r3)) :
  Calls Try.prog 38 #[.agg #[.int .i64 a0_0, .int .i64 a0_1, .slice A0_2 l0_2.length c0_2], .agg #[.int .i64 a1_0, .int .i64 a1_1, .slice A1_2 l1_2.length c1_2]] w fun e w' => ∃ v2_ : Value, e = .returned (.agg #[.int .i64 r1, .int .i64 r2, v2_]) ∧ Kd.N k54 54 w' w.heap.size (fun k_ => ((P0_2_ k_ ∨ P1_2_ k_) ∨ w.heap.size ≤ k_)) v2_ r3 ∧ Below w.heap.size w w' := by
 have hu54 := Try.underlying54
 have HO0_2 := aK (show Kd.V k54 54 w w.heap.size (fun k_ => ((P0_2_ k_ ∨ P1_2_ k_) ∨ w.heap.size ≤ k_)) (.slice A0_2 l0_2.length c0_2) l0_2 from Kd.V_mono hs0_2 (fun k_ hk => .inl (.inl hk)))
 have HO1_2 := aK (show Kd.V k54 54 w w.heap.size (fun k_ => ((P0_2_ k_ ∨ P1_2_ k_) ∨ w.heap.size ≤ k_)) (.slice A1_2 l1_2.length c1_2) l1_2 from Kd.V_mono hs1_2 (fun k_ hk => .inl (.inr hk)))
 have HB := aK (Below.refl w.heap.size w)
 have H : (some (3, 0, (([(⟨a0_0, a0_1, l0_2⟩ : S54), (⟨a1_0, a1_1, l1_2⟩ : S54)] : List (S54))))) = some (r1, r2, r3) := h
 clear h
 obtain ⟨y104, hy104⟩ : ∃ y_ : List (S54), y_ = (([(⟨a0_0, a0_1, l0_2⟩ : S54), (⟨a1_0, a1_1, l1_2⟩ : S54)] : List (S54))) := ⟨_, rfl⟩
 replace H : (some (3, 0, y104)) = some (r1, r2, r3) := by first | (rw [hy104]; with_reducible exact H) | (have H2_ := (Option.bind_some _ _).symm.trans H; rw [hy104]; with_reducible exact H2_) | (have H2_ := (Option.bind_some _ _).symm.trans H; with_reducible exact H2_) | with_reducible exact H | (rw [hy104]; exact H) | exact H
 have Ny104 := aK hy104
 clear hy104
 simp only [Option.some.injEq, Prod.mk.injEq] at H
 obtain ⟨rfl, rfl, rfl⟩ := H
 go_enter Try.func38, Try.ntmps38
 go_wp2_with (first | ((with_reducible refine gate_dst (N := 2) rfl ?_); refine bE (N := 2) (cs := #[.int .i64 a0_0, .int .i64 a0_1, .slice A0_2 l0_2.length c0_2]) (t := 54) ?_; intro gb101 hg w3 hbox hb; have GW101 := qw HB hg; have GE101 := qw HB hg; replace HO0_2 := qv HO0_2 hg hb; replace HO1_2 := qv HO1_2 hg hb; have BK101 := aK hbox; replace HB := qs HB hb; clear hb hbox hg) | ((with_reducible refine gate_dst (N := 3) rfl ?_); refine bE (N := 3) (cs := #[.int .i64 a1_0, .int .i64 a1_1, .slice A1_2 l1_2.length c1_2]) (t := 54) ?_; intro gb102 hg w4 hbox hb; have GW102 := qw HB hg; have GE102 := qw HB hg; have NB101_102 := ql BK101 hg; have NB102_101 := qg BK101 hg; replace HO0_2 := qv HO0_2 hg hb; replace HO1_2 := qv HO1_2 hg hb; replace BK101 := qb BK101 hb; have BK102 := aK hbox; replace HB := qs HB hb; clear hb hbox hg) | ((with_reducible refine gate_dst (N := 4) rfl ?_); refine bE (N := 4) (cs := #[.int .i64 0, .int .i64 0, .slice none 0 0]) (t := 54) ?_; intro gb103 hg w5 hbox hb; have GW103 := qw HB hg; have GE103 := qw HB hg; have NB101_103 := ql BK101 hg; have NB103_101 := qg BK101 hg; have NB102_103 := ql BK102 hg; have NB103_102 := qg BK102 hg; replace HO0_2 := qv HO0_2 hg hb; replace HO1_2 := qv HO1_2 hg hb; replace BK101 := qb BK101 hb; replace BK102 := qb BK102 hb; have BK103 := aK hbox; replace HB := qs HB hb; clear hb hbox hg; have hnb6 := NB101_102.out; have hnc6 := NB102_101.out; have hnb7 := NB101_103.out; have hnc7 := NB103_101.out; obtain ⟨hcz8_0, hcz8_1, hcz8_2, hfz8_0, hfz8_1, hfz8_2⟩ := cA3 BK101; have hnb9 := NB102_103.out; have hnc9 := NB103_102.out; obtain ⟨hcz10_0, hcz10_1, hcz10_2, hfz10_0, hfz10_1, hfz10_2⟩ := cA3 BK102) | ((with_reducible refine gate_dst (N := 7) rfl ?_); refine Kd.N_lit k54 _ 54 ?hg (N' := 7) ?hd (xs := ([(⟨a0_0, a0_1, l0_2⟩ : S54), (⟨a1_0, a1_1, l1_2⟩ : S54)] : List (S54))) (inner := [.int .i64 a0_0, .int .i64 a0_1, .slice A0_2 l0_2.length c0_2, .int .i64 a1_0, .int .i64 a1_1, .slice A1_2 l1_2.length c1_2]) (ok := (fun k_ => ((P0_2_ k_ ∨ P1_2_ k_) ∨ w.heap.size ≤ k_) ∧ k_ ≠ gb101 ∧ k_ ≠ gb102 ∧ k_ ≠ gb103)) (okp := (fun k_ => ((P0_2_ k_ ∨ P1_2_ k_) ∨ w.heap.size ≤ k_) ∧ k_ ≠ gb101 ∧ k_ ≠ gb102 ∧ k_ ≠ gb103)) ?hr ?hp (fun _ hk => hk) ((show ∀ k_, w5.heap.size ≤ k_ → (fun k_ => ((P0_2_ k_ ∨ P1_2_ k_) ∨ w.heap.size ≤ k_) ∧ k_ ≠ gb101 ∧ k_ ≠ gb102 ∧ k_ ≠ gb103) k_ from fun k_ hk => ⟨(.inr (Nat.le_trans (below_size (pH HB)) hk)), Kd.freshB BK101.out k_ hk, Kd.freshB BK102.out k_ hk, Kd.freshB BK103.out k_ hk⟩) _ (Nat.le_refl _)) (Below.refl _ _) (Nat.le_refl _) (by simp) ?_; (case hd => rfl); (case hg => rfl); (case hr => go_simp); (case hp => exact (Reps.c3 (show Kd.FK k54 _ _ (⟨a0_0, a0_1, l0_2⟩ : S54) [.int .i64 a0_0, .int .i64 a0_1, .slice A0_2 l0_2.length c0_2] from (k54_mkF _ _ (⟨a0_0, a0_1, l0_2⟩ : S54) (Kd.V_reads' (Kd.V_mono (ok' := (fun k_ => ((P0_2_ k_ ∨ P1_2_ k_) ∨ w.heap.size ≤ k_) ∧ k_ ≠ gb101 ∧ k_ ≠ gb102 ∧ k_ ≠ gb103)) (HO0_2.out) (fun k_ hk => ⟨hk.1.1.1, ⟨hk.1.1.2, ⟨hk.1.2, hk.2⟩⟩⟩))).2.1 (Kd.V_F (Kd.V_mono (ok' := (fun k_ => ((P0_2_ k_ ∨ P1_2_ k_) ∨ w.heap.size ≤ k_) ∧ k_ ≠ gb101 ∧ k_ ≠ gb102 ∧ k_ ≠ gb103)) (HO0_2.out) (fun k_ hk => ⟨hk.1.1.1, ⟨hk.1.1.2, ⟨hk.1.2, hk.2⟩⟩⟩))))) (Reps.c3 (show Kd.FK k54 _ _ (⟨a1_0, a1_1, l1_2⟩ : S54) [.int .i64 a1_0, .int .i64 a1_1, .slice A1_2 l1_2.length c1_2] from (k54_mkF _ _ (⟨a1_0, a1_1, l1_2⟩ : S54) (Kd.V_reads' (Kd.V_mono (ok' := (fun k_ => ((P0_2_ k_ ∨ P1_2_ k_) ∨ w.heap.size ≤ k_) ∧ k_ ≠ gb101 ∧ k_ ≠ gb102 ∧ k_ ≠ gb103)) (HO1_2.out) (fun k_ hk => ⟨hk.1.1.1, ⟨hk.1.1.2, ⟨hk.1.2, hk.2⟩⟩⟩))).2.1 (Kd.V_F (Kd.V_mono (ok' := (fun k_ => ((P0_2_ k_ ∨ P1_2_ k_) ∨ w.heap.size ≤ k_) ∧ k_ ≠ gb101 ∧ k_ ≠ gb102 ∧ k_ ≠ gb103)) (HO1_2.out) (fun k_ hk => ⟨hk.1.1.1, ⟨hk.1.1.2, ⟨hk.1.2, hk.2⟩⟩⟩))))) (Reps.none _ _)))); intro v105 w11 ho12 hb hg_ hnew_; clear hg_ hnew_; (first | rw [← Ny104.out] at ho12 | (simp only [Int.reduceToNat] at ho12; rw [← Ny104.out] at ho12)); have HO106 := aK (Kd.N_lower ho12 (below_size HB.out)); replace HO0_2 := qe HO0_2 (Kd.N_base ho12) hb; replace HO1_2 := qe HO1_2 (Kd.N_base ho12) hb; replace BK101 := qb BK101 hb; replace BK102 := qb BK102 hb; replace BK103 := qb BK103 hb; replace HB := qs HB hb; clear hb ho12; obtain ⟨Ao13, co13, eo13⟩ := Kd.N_slice HO106.out; subst eo13; obtain ⟨hcz14_0, hcz14_1, hcz14_2, hfz14_0, hfz14_1, hfz14_2⟩ := cA3 BK103))
 refine bodyPost_ret (results_cell_row rfl _ _ gb103 54 #[.int .i64 3, .int .i64 0, .slice Ao13 y104.length co13] (0, 0) _ rfl (p3 BK103) Try.underlying54 rfl (by kernel_rfl)) rfl ?_
 exact ⟨_, eW, by (with_reducible repeat (first | apply Kd.N_alloc | apply Kd.N_drewN | apply Kd.N_drew)); exact Kd.N_mono (nF3 gb103 (Kd.N_mono HO106.out (fun k_ hk => (⟨hk, hk.2.2.2⟩ : _ ∧ k_ ≠ gb103))) (fun _ hk => hk.2)) (fun _ hk => hk.1.1), pH HB⟩


def spec_l1Cur_one.f (s0_0 : List Int) (s0_1 : Int) (s0_2 : Int) (a1 : Int) : Option (Bool × Int × Int) := (spec_l1Cur_pick.f s0_0 s0_1 s0_2 a1).bind fun bt101 => (some ((bt101.1 == 0), bt101.2.1, bt101.2.2))
set_option maxHeartbeats 8000000 in
set_option maxRecDepth 100000 in
theorem spec_l1Cur_one.calls (g : Nat) (s0_0 : List Int) (s0_1 : Int) (s0_2 : Int) (a1 : Int) (r1 : Bool) (r2 : Int) (r3 : Int) (w0 w : World) (hI : IsS61 w0 w g s0_0 s0_1 s0_2) (hB : Below w0.heap.size w0 w) (h : spec_l1Cur_one.f s0_0 s0_1 s0_2 a1 = some (r1, r2, r3)) :
  Calls Try.prog 54 #[.pointer (some ⟨g, 0, none⟩), .int .i64 a1] w fun e w' => e = .returned (.bool r1) ∧ IsS61 w0 w' g s0_0 r2 r3 ∧ Below w0.heap.size w0 w' ∧ KeepBut w w' g none := by
 have HI0 := aK hI
 have HK := aK (KeepBut.refl w g none)
 have HL := aK hB.size
 clear hI
 have HW0 := aK hB.size
 have HB := aK hB
 clear hB
 have H : ((spec_l1Cur_pick.f s0_0 s0_1 s0_2 a1).bind fun bt101 => (some ((bt101.1 == 0), bt101.2.1, bt101.2.2))) = some (r1, r2, r3) := h
 clear h
 replace H := Option.bind_eq_some_iff.mp H
 obtain ⟨⟨t101, t102, t103⟩, A30, H⟩ := H
 try dsimp only at H
 have A3 := aK A30
 clear A30
 simp only [Option.some.injEq, Prod.mk.injEq] at H
 obtain ⟨rfl, rfl, rfl⟩ := H
 go_enter Try.func54, Try.ntmps54
 go_wp2_with (first | ((with_reducible refine gate_callee (f := 37) rfl ?_); refine goesL_ (some 7) rfl rfl Try.func37 (by kernel_rfl) rfl #[.pointer (some ⟨g, 0, none⟩), .int .i64 a1] rfl tA ?_; (with_reducible refine (spec_l1Cur_pick.calls g s0_0 s0_1 s0_2 a1 t101 t102 t103 w0 _ ?side1 ?side2 A3.out).mono ?_); (case side1 => exact yI HI0); (case side2 => exact yH HB); rintro e w4 ⟨rfl, hi, hb, hk⟩; refine ⟨_, rfl, ?_⟩; have n0_ := aK (KeepBut.trans (yK HK) hk (.inl rfl)); have n1_ := aK (hb); have n2_ := aK (hi); clear HK; have HK := n0_; clear n0_; clear HB; have HB := n1_; clear n1_; clear HI0; have HI0 := n2_; clear n2_; (try clear hb)))
 go_ret
 exact ⟨eW, yI HI0, yH HB, yK HK⟩


def spec_lcVar.f (a0 : Int) : Option (Int × Int × (List (S54))) := some (1, a0, ([] : List (S54)))
set_option maxHeartbeats 8000000 in
set_option maxRecDepth 100000 in
theorem spec_lcVar.calls (a0 : Int) (r1 : Int) (r2 : Int) (r3 : List (S54)) (w : World) (h : spec_lcVar.f a0 = some (r1, r2, r3)) :
  Calls Try.prog 55 #[.int .i64 a0] w fun e w' => ∃ v2_ : Value, e = .returned (.agg #[.int .i64 r1, .int .i64 r2, v2_]) ∧ Kd.R k54 54 w' w.heap.size (fun _ => True) v2_ r3 ∧ Below w.heap.size w w' := by
 have hu54 := Try.underlying54
 have HB := aK (Below.refl w.heap.size w)
 have H : (some (1, a0, ([] : List (S54)))) = some (r1, r2, r3) := h
 clear h
 simp only [Option.some.injEq, Prod.mk.injEq] at H
 obtain ⟨rfl, rfl, rfl⟩ := H
 go_enter Try.func55, Try.ntmps55
 go_wp2_with (first | ((with_reducible refine gate_dst (N := 2) rfl ?_); refine bE (N := 2) (cs := #[.int .i64 0, .int .i64 0, .slice none 0 0]) (t := 54) ?_; intro gb101 hg w2 hbox hb; have GW101 := qw HB hg; have GE101 := qw HB hg; have BK101 := aK hbox; replace HB := qs HB hb; clear hb hbox hg; obtain ⟨hcz3_0, hcz3_1, hcz3_2, hfz3_0, hfz3_1, hfz3_2⟩ := cA3 BK101))
 refine bodyPost_ret (results_cell_row rfl _ _ gb101 54 #[.int .i64 1, .int .i64 a0, .slice none 0 0] (0, 0) _ rfl (p3 BK101) Try.underlying54 rfl (by kernel_rfl)) rfl ?_
 exact ⟨_, eW, by first | exact Kd.R_nil _ _ _ _ _ | exact Kd.N_nil _ _ _ _ _ | exact Kd.V_nil _ _ _ _ _ | exact Kd.Q_nil _ _ _ _ _ | exact Kd.S_nil _ _ _ _ _, pH HB⟩


def spec_lcLam.f (a0_0 : Int) (a0_1 : Int) (l0_2 : List (S54)) : Option (Int × Int × (List (S54))) := some (2, 0, (([(⟨a0_0, a0_1, l0_2⟩ : S54)] : List (S54))))
set_option maxHeartbeats 8000000 in
set_option maxRecDepth 100000 in
theorem spec_lcLam.calls (a0_0 : Int) (a0_1 : Int) (P0_2_ : Nat → Prop) (A0_2 : Option Addr) (c0_2 : Nat) (l0_2 : List (S54)) (r1 : Int) (r2 : Int) (r3 : List (S54)) (w : World) (hs0_2 : Kd.V k54 54 w w.heap.size (fun k_ => P0_2_ k_) (.slice A0_2 l0_2.length c0_2) l0_2) (h : spec_lcLam.f a0_0 a0_1 l0_2 = some (r1, r2, r3)) :
  Calls Try.prog 56 #[.agg #[.int .i64 a0_0, .int .i64 a0_1, .slice A0_2 l0_2.length c0_2]] w fun e w' => ∃ v2_ : Value, e = .returned (.agg #[.int .i64 r1, .int .i64 r2, v2_]) ∧ Kd.N k54 54 w' w.heap.size (fun k_ => (P0_2_ k_ ∨ w.heap.size ≤ k_)) v2_ r3 ∧ Below w.heap.size w w' := by
 have hu54 := Try.underlying54
 have HO0_2 := aK (show Kd.V k54 54 w w.heap.size (fun k_ => (P0_2_ k_ ∨ w.heap.size ≤ k_)) (.slice A0_2 l0_2.length c0_2) l0_2 from Kd.V_mono hs0_2 (fun k_ hk => .inl hk))
 have HB := aK (Below.refl w.heap.size w)
 have H : (some (2, 0, (([(⟨a0_0, a0_1, l0_2⟩ : S54)] : List (S54))))) = some (r1, r2, r3) := h
 clear h
 obtain ⟨y103, hy103⟩ : ∃ y_ : List (S54), y_ = (([(⟨a0_0, a0_1, l0_2⟩ : S54)] : List (S54))) := ⟨_, rfl⟩
 replace H : (some (2, 0, y103)) = some (r1, r2, r3) := by first | (rw [hy103]; with_reducible exact H) | (have H2_ := (Option.bind_some _ _).symm.trans H; rw [hy103]; with_reducible exact H2_) | (have H2_ := (Option.bind_some _ _).symm.trans H; with_reducible exact H2_) | with_reducible exact H | (rw [hy103]; exact H) | exact H
 have Ny103 := aK hy103
 clear hy103
 simp only [Option.some.injEq, Prod.mk.injEq] at H
 obtain ⟨rfl, rfl, rfl⟩ := H
 go_enter Try.func56, Try.ntmps56
 go_wp2_with (first | ((with_reducible refine gate_dst (N := 1) rfl ?_); refine bE (N := 1) (cs := #[.int .i64 a0_0, .int .i64 a0_1, .slice A0_2 l0_2.length c0_2]) (t := 54) ?_; intro gb101 hg w2 hbox hb; have GW101 := qw HB hg; have GE101 := qw HB hg; replace HO0_2 := qv HO0_2 hg hb; have BK101 := aK hbox; replace HB := qs HB hb; clear hb hbox hg) | ((with_reducible refine gate_dst (N := 2) rfl ?_); refine bE (N := 2) (cs := #[.int .i64 0, .int .i64 0, .slice none 0 0]) (t := 54) ?_; intro gb102 hg w3 hbox hb; have GW102 := qw HB hg; have GE102 := qw HB hg; have NB101_102 := ql BK101 hg; have NB102_101 := qg BK101 hg; replace HO0_2 := qv HO0_2 hg hb; replace BK101 := qb BK101 hb; have BK102 := aK hbox; replace HB := qs HB hb; clear hb hbox hg; have hnb4 := NB101_102.out; have hnc4 := NB102_101.out; obtain ⟨hcz5_0, hcz5_1, hcz5_2, hfz5_0, hfz5_1, hfz5_2⟩ := cA3 BK101) | ((with_reducible refine gate_dst (N := 4) rfl ?_); refine Kd.N_lit k54 _ 54 ?hg (N' := 4) ?hd (xs := ([(⟨a0_0, a0_1, l0_2⟩ : S54)] : List (S54))) (inner := [.int .i64 a0_0, .int .i64 a0_1, .slice A0_2 l0_2.length c0_2]) (ok := (fun k_ => (P0_2_ k_ ∨ w.heap.size ≤ k_) ∧ k_ ≠ gb101 ∧ k_ ≠ gb102)) (okp := (fun k_ => (P0_2_ k_ ∨ w.heap.size ≤ k_) ∧ k_ ≠ gb101 ∧ k_ ≠ gb102)) ?hr ?hp (fun _ hk => hk) ((show ∀ k_, w3.heap.size ≤ k_ → (fun k_ => (P0_2_ k_ ∨ w.heap.size ≤ k_) ∧ k_ ≠ gb101 ∧ k_ ≠ gb102) k_ from fun k_ hk => ⟨(.inr (Nat.le_trans (below_size (pH HB)) hk)), Kd.freshB BK101.out k_ hk, Kd.freshB BK102.out k_ hk⟩) _ (Nat.le_refl _)) (Below.refl _ _) (Nat.le_refl _) (by simp) ?_; (case hd => rfl); (case hg => rfl); (case hr => go_simp); (case hp => exact (Reps.c3 (show Kd.FK k54 _ _ (⟨a0_0, a0_1, l0_2⟩ : S54) [.int .i64 a0_0, .int .i64 a0_1, .slice A0_2 l0_2.length c0_2] from (k54_mkF _ _ (⟨a0_0, a0_1, l0_2⟩ : S54) (Kd.V_reads' (Kd.V_mono (ok' := (fun k_ => (P0_2_ k_ ∨ w.heap.size ≤ k_) ∧ k_ ≠ gb101 ∧ k_ ≠ gb102)) (HO0_2.out) (fun k_ hk => ⟨hk.1.1, ⟨hk.1.2, hk.2⟩⟩))).2.1 (Kd.V_F (Kd.V_mono (ok' := (fun k_ => (P0_2_ k_ ∨ w.heap.size ≤ k_) ∧ k_ ≠ gb101 ∧ k_ ≠ gb102)) (HO0_2.out) (fun k_ hk => ⟨hk.1.1, ⟨hk.1.2, hk.2⟩⟩))))) (Reps.none _ _))); intro v104 w6 ho7 hb hg_ hnew_; clear hg_ hnew_; (first | rw [← Ny103.out] at ho7 | (simp only [Int.reduceToNat] at ho7; rw [← Ny103.out] at ho7)); have HO105 := aK (Kd.N_lower ho7 (below_size HB.out)); replace HO0_2 := qe HO0_2 (Kd.N_base ho7) hb; replace BK101 := qb BK101 hb; replace BK102 := qb BK102 hb; replace HB := qs HB hb; clear hb ho7; obtain ⟨Ao8, co8, eo8⟩ := Kd.N_slice HO105.out; subst eo8; obtain ⟨hcz9_0, hcz9_1, hcz9_2, hfz9_0, hfz9_1, hfz9_2⟩ := cA3 BK102))
 refine bodyPost_ret (results_cell_row rfl _ _ gb102 54 #[.int .i64 2, .int .i64 0, .slice Ao8 y103.length co8] (0, 0) _ rfl (p3 BK102) Try.underlying54 rfl (by kernel_rfl)) rfl ?_
 exact ⟨_, eW, by (with_reducible repeat (first | apply Kd.N_alloc | apply Kd.N_drewN | apply Kd.N_drew)); exact Kd.N_mono (nF3 gb102 (Kd.N_mono HO105.out (fun k_ hk => (⟨hk, hk.2.2⟩ : _ ∧ k_ ≠ gb102))) (fun _ hk => hk.2)) (fun _ hk => hk.1.1), pH HB⟩


mutual
def spec_l1Cur_term.j0 : Nat → Int → Int → Int → List Int → Int → Int → Option (Int × Int × (List (S54)) × Int × Int)
 | 0, _, _, _, _, _, _ => none
 | k + 1, x1, x2, x7, x1000, x1001, x1002 => if x7 = 0 then (spec_l1Cur_term.j1 k x1 x2 x7 (x7 == 0) x1000 x1001 x1002) else (spec_l1Cur_term.j1 k x1 x2 x7 (x7 == 1) x1000 x1001 x1002)
def spec_l1Cur_term.j1 : Nat → Int → Int → Int → Bool → List Int → Int → Int → Option (Int × Int × (List (S54)) × Int × Int)
 | 0, _, _, _, _, _, _, _ => none
 | k + 1, x1, x2, x12, x13, x1000, x1001, x1002 => if x13 = true then (if x1 > 0 then ((spec_l1Cur_one.f x1000 x1001 x1002 6).bind fun bt105 => (spec_l1Cur_term.j2 k x1 (!bt105.1) x1000 bt105.2.1 bt105.2.2)) else (spec_l1Cur_term.j2 k x1 false x1000 x1001 x1002)) else (if x12 = 2 then (spec_l1Cur_term.j3 k x1 x2 x12 (x12 == 2) x1000 x1001 x1002) else (spec_l1Cur_term.j3 k x1 x2 x12 (x12 == 3) x1000 x1001 x1002))
def spec_l1Cur_term.j2 : Nat → Int → Bool → List Int → Int → Int → Option (Int × Int × (List (S54)) × Int × Int)
 | 0, _, _, _, _, _ => none
 | k + 1, x1, x22, x1000, x1001, x1002 => if x22 = true then ((spec_l1Cur_pick.f x1000 x1001 x1002 x1).bind fun bt108 => ((spec_lcVar.f bt108.1).bind fun bt111 => (some (bt111.1, bt111.2.1, bt111.2.2, bt108.2.1, bt108.2.2)))) else ((spec_l1Cur_pick.f x1000 x1001 x1002 3).bind fun bt116 => ((spec_lcVar.f (wrap64 (x1 + bt116.1))).bind fun bt119 => (some (bt119.1, bt119.2.1, bt119.2.2, bt116.2.1, bt116.2.2))))
def spec_l1Cur_term.j3 : Nat → Int → Int → Int → Bool → List Int → Int → Int → Option (Int × Int × (List (S54)) × Int × Int)
 | 0, _, _, _, _, _, _, _ => none
 | k + 1, x1, x2, x12, x32, x1000, x1001, x1002 => if x32 = true then ((spec_l1Cur_term.f k x1000 x1001 x1002 (wrap64 (x1 + 1)) (wrap64 (x2 - 1))).bind fun bt124 => ((spec_lcLam.f bt124.1 bt124.2.1 bt124.2.2.1).bind fun bt131 => (some (bt131.1, bt131.2.1, bt131.2.2, bt124.2.2.2.1, bt124.2.2.2.2)))) else (if x12 = 4 then ((spec_l1Cur_term.f k x1000 x1001 x1002 (wrap64 (x1 + 1)) (wrap64 (x2 - 1))).bind fun bt136 => ((spec_lcLam.f bt136.1 bt136.2.1 bt136.2.2.1).bind fun bt143 => ((spec_l1Cur_term.f k x1000 bt136.2.2.2.1 bt136.2.2.2.2 x1 (wrap64 (x2 - 1))).bind fun bt148 => ((spec_lcApp.f bt143.1 bt143.2.1 bt143.2.2 bt148.1 bt148.2.1 bt148.2.2.1).bind fun bt155 => (some (bt155.1, bt155.2.1, bt155.2.2, bt148.2.2.2.1, bt148.2.2.2.2)))))) else ((spec_l1Cur_term.f k x1000 x1001 x1002 x1 (wrap64 (x2 - 1))).bind fun bt160 => ((spec_l1Cur_term.f k x1000 bt160.2.2.2.1 bt160.2.2.2.2 x1 (wrap64 (x2 - 1))).bind fun bt167 => ((spec_lcApp.f bt160.1 bt160.2.1 bt160.2.2.1 bt167.1 bt167.2.1 bt167.2.2.1).bind fun bt174 => (some (bt174.1, bt174.2.1, bt174.2.2, bt167.2.2.2.1, bt167.2.2.2.2))))))
def spec_l1Cur_term.f : Nat → List Int → Int → Int → Int → Int → Option (Int × Int × (List (S54)) × Int × Int)
 | 0, _, _, _, _, _ => none
 | k + 1, s0_0, s0_1, s0_2, a1, a2 => (spec_l1Cur_pick.f s0_0 s0_1 s0_2 6).bind fun bt102 => (if a2 = 0 then (spec_l1Cur_term.j0 k a1 a2 0 s0_0 bt102.2.1 bt102.2.2) else (spec_l1Cur_term.j0 k a1 a2 bt102.1 s0_0 bt102.2.1 bt102.2.2))
end
set_option maxHeartbeats 8000000 in
set_option maxRecDepth 100000 in
theorem spec_l1Cur_term.calls (k : Nat) : ∀ (g : Nat) (s0_0 : List Int) (s0_1 : Int) (s0_2 : Int) (a1 : Int) (a2 : Int) (r1 : Int) (r2 : Int) (r3 : List (S54)) (r4 : Int) (r5 : Int) (w0 w : World) (hI : IsS61 w0 w g s0_0 s0_1 s0_2) (hB : Below w0.heap.size w0 w) (h : spec_l1Cur_term.f k s0_0 s0_1 s0_2 a1 a2 = some (r1, r2, r3, r4, r5)),
  Calls Try.prog 36 #[.pointer (some ⟨g, 0, none⟩), .int .i64 a1, .int .i64 a2] w fun e w' => ∃ v2_ : Value, e = .returned (.agg #[.int .i64 r1, .int .i64 r2, v2_]) ∧ Kd.N k54 54 w' w.heap.size (fun k_ => (w.heap.size ≤ k_)) v2_ r3 ∧ IsS61 w0 w' g s0_0 r4 r5 ∧ Below w0.heap.size w0 w' ∧ KeepBut w w' g none := by
 induction k using Nat.strongRecOn with
 | _ k ih =>
 intro g s0_0 s0_1 s0_2 a1 a2 r1 r2 r3 r4 r5 w0 w hI hB h
 cases k with
 | zero => exact absurd h (by simp [spec_l1Cur_term.f])
 | succ k =>
 simp only [spec_l1Cur_term.f] at h
 have hu54 := Try.underlying54
 have HI0 := aK hI
 have HK := aK (KeepBut.refl w g none)
 have HL := aK hB.size
 clear hI
 have HW0 := aK hB.size
 have HB := aK hB
 clear hB
 have H : ((spec_l1Cur_pick.f s0_0 s0_1 s0_2 6).bind fun bt102 => (if a2 = 0 then (spec_l1Cur_term.j0 k a1 a2 0 s0_0 bt102.2.1 bt102.2.2) else (spec_l1Cur_term.j0 k a1 a2 bt102.1 s0_0 bt102.2.1 bt102.2.2))) = some (r1, r2, r3, r4, r5) := h
 clear h
 replace H := Option.bind_eq_some_iff.mp H
 obtain ⟨⟨t102, t103, t104⟩, A40, H⟩ := H
 try dsimp only at H
 have A4 := aK A40
 clear A40
 have HC5 := aK H
 clear H
 go_enter Try.func36, Try.ntmps36
 go_upto_if 11 with (first | ((with_reducible refine gate_dst (N := 6) rfl ?_); refine bE (N := 6) (cs := #[.int .i64 0, .int .i64 0, .slice none 0 0]) (t := 54) ?_; intro gb101 hg w6 hbox hb; have n0_ := aK (IsS61.below (yI HI0) hb); have n1_ := aK (KeepBut.trans (yK HK) (KeepBut.of_below hb g none) (.inl rfl)); have n2_ := aK (below_step (yH HB) hb); have GW101 := aK ((by rw [hg]; exact (keep_size (w := w) (g := g) (row := none) (yK HK)) : w.heap.size ≤ gb101)); have GE101 := aK ((Nat.le_trans HW0.out (by rw [hg]; exact (keep_size (w := w) (g := g) (row := none) (yK HK)) : w.heap.size ≤ gb101) : w0.heap.size ≤ gb101)); have NB0_101 := aK ((by rw [hg]; exact Nat.ne_of_lt (IsS61.lt (show IsS61 w0 _ g s0_0 s0_1 s0_2 from by repeat (first | (with_reducible first | exact HI0.out | apply IsS61.alloc | apply IsS61.drewN | apply IsS61.drew | apply IsS61.set_1 | apply IsS61.set_2) | exact HI0.out))) : g ≠ gb101)); have NB101_0 := aK ((by rw [hg]; exact Nat.ne_of_gt (IsS61.lt (show IsS61 w0 _ g s0_0 s0_1 s0_2 from by repeat (first | (with_reducible first | exact HI0.out | apply IsS61.alloc | apply IsS61.drewN | apply IsS61.drew | apply IsS61.set_1 | apply IsS61.set_2) | exact HI0.out))) : gb101 ≠ g)); have BK101 := aK hbox; clear HI0; have HI0 := n0_; clear n0_; clear HK; have HK := n1_; clear n1_; clear HB; have HB := n2_; clear n2_; clear hb hbox hg) | ((with_reducible refine gate_callee (f := 37) rfl ?_); refine goesL_ (some 9) rfl rfl Try.func37 (by kernel_rfl) rfl #[.pointer (some ⟨g, 0, none⟩), .int .i64 6] rfl tA ?_; (with_reducible refine (spec_l1Cur_pick.calls g s0_0 s0_1 s0_2 6 t102 t103 t104 w0 _ ?side1 ?side2 A4.out).mono ?_); (case side1 => exact yI HI0); (case side2 => exact yH HB); rintro e w7 ⟨rfl, hi, hb, hk⟩; refine ⟨_, rfl, ?_⟩; have n0_ := aK (KeepBut.blk hk (g' := gb101) (o := .cells #[.int .i64 0, .int .i64 0, .slice none 0 0] 54 (0, 0)) BK101.out NB101_0.out (by simp)); have n1_ := aK (KeepBut.trans (yK HK) hk (.inl rfl)); have n2_ := aK (hb); have n3_ := aK (hi); clear BK101; clear HK; clear HB; clear HI0; have BK101 := n0_; have HK := n1_; have HB := n2_; have HI0 := n3_; clear n0_ n1_ n2_ n3_; (try clear hb)))
 (try simp only [Act.put, List.setIfInBounds_toArray, List.set_cons_zero, List.set_cons_succ])
 go_cut [7] (fun v7 wc => ∃ (kq : Nat) (x7_4 : Int), v7 = .int .i64 x7_4 ∧ Aside0 (spec_l1Cur_term.j0 kq a1 a2 x7_4 s0_0 t103 t104 = some (r1, r2, r3, r4, r5)) ∧ Aside0 (kq ≤ k) ∧ Aside0 (wc.heap[gb101]? = some (.cells #[.int .i64 0, .int .i64 0, (.slice none 0 0)] 54 (0, 0))) ∧ Aside0 (IsS61 w0 wc g s0_0 t103 t104) ∧ Aside0 (KeepBut w wc g none) ∧ Aside0 (Below w0.heap.size w0 wc))
 case first =>
  have H := HC5.out
  clear HC5
  by_cases c8 : a2 = 0
  ·rw [if_pos c8] at H
   have c8b0 : (a2 == 0) = true := beq_iff_eq.mpr c8
   have c8b1 : (a2 != 0) = false := bne_eq_false_iff_eq.mpr c8
   clear c8
   (first | rw [c8b0] | (simp only [i64_w, i32_w]; rw [c8b0]) | skip)
   have H' := aK H
   clear H
   go_wp2
   go_meet
   case rel => exact ⟨_, (0), rS, H', ⟨by first | omega | exact Nat.le_refl _⟩, ⟨pB BK101⟩, ⟨yI HI0⟩, ⟨yK HK⟩, ⟨yH HB⟩⟩
  ·rw [if_neg c8] at H
   have c8b0 : (a2 == 0) = false := beq_eq_false_iff_ne.mpr c8
   have c8b1 : (a2 != 0) = true := bne_iff_ne.mpr c8
   (first | rw [c8b0] | (simp only [i64_w, i32_w]; rw [c8b0]) | skip)
   have H' := aK H
   clear H
   go_wp2
   go_meet
   case rel => exact ⟨_, (t102), rS, H', ⟨by first | omega | exact Nat.le_refl _⟩, ⟨pB BK101⟩, ⟨yI HI0⟩, ⟨yK HK⟩, ⟨yH HB⟩⟩
 case rest =>
  clear HC5
  try clear p2; try clear c3; try clear c8; try clear c8b0; try clear c8b1
  obtain ⟨kq, x7_4, rfl, HA, HJ4, BK101, HI0, HK, HB⟩ := hcut
  cases kq with
  | zero => exact absurd HA.out (by simp [spec_l1Cur_term.j0])
  | succ kj4 =>
   have H := HA.out
   clear HA
   simp only [spec_l1Cur_term.j0] at H
   have HC9 := aK H
   clear H
   go_upto_if 13 with (fail)
   go_cut [13] (fun v13 wc => ∃ (kq : Nat) (x13_8 : Bool), v13 = .bool x13_8 ∧ Aside0 (spec_l1Cur_term.j1 kq a1 a2 x7_4 x13_8 s0_0 t103 t104 = some (r1, r2, r3, r4, r5)) ∧ Aside0 (kq ≤ kj4) ∧ Aside0 (wc.heap[gb101]? = some (.cells #[.int .i64 0, .int .i64 0, (.slice none 0 0)] 54 (0, 0))) ∧ Aside0 (IsS61 w0 wc g s0_0 t103 t104) ∧ Aside0 (KeepBut w wc g none) ∧ Aside0 (Below w0.heap.size w0 wc))
   case first =>
    have H := HC9.out
    clear HC9
    by_cases c10 : x7_4 = 0
    ·rw [if_pos c10] at H
     have c10b0 : (x7_4 == 0) = true := beq_iff_eq.mpr c10
     have c10b1 : (x7_4 != 0) = false := bne_eq_false_iff_eq.mpr c10
     clear c10
     (first | rw [c10b0] | (simp only [i64_w, i32_w]; rw [c10b0]) | skip)
     have H' := aK H
     clear H
     go_wp2
     go_meet
     case rel => exact ⟨_, ((x7_4 == 0)), rS, H', ⟨by have := HJ4.out; first | omega | exact Nat.le_refl _⟩, ⟨pB BK101⟩, ⟨yI HI0⟩, ⟨yK HK⟩, ⟨yH HB⟩⟩
    ·rw [if_neg c10] at H
     have c10b0 : (x7_4 == 0) = false := beq_eq_false_iff_ne.mpr c10
     have c10b1 : (x7_4 != 0) = true := bne_iff_ne.mpr c10
     (first | rw [c10b0] | (simp only [i64_w, i32_w]; rw [c10b0]) | skip)
     have H' := aK H
     clear H
     go_wp2
     go_meet
     case rel => exact ⟨_, ((x7_4 == 1)), rS, H', ⟨by have := HJ4.out; first | omega | exact Nat.le_refl _⟩, ⟨pB BK101⟩, ⟨yI HI0⟩, ⟨yK HK⟩, ⟨yH HB⟩⟩
   case rest =>
    clear HC9
    try clear c1; try clear p2; try clear c3; try clear c8; try clear c8b0; try clear c8b1; try clear c10; try clear c10b0; try clear c10b1; try clear p2
    obtain ⟨kq, x13_8, rfl, HA, HJ8, BK101, HI0, HK, HB⟩ := hcut
    cases kq with
    | zero => exact absurd HA.out (by simp [spec_l1Cur_term.j1])
    | succ kj8 =>
     have H := HA.out
     clear HA
     simp only [spec_l1Cur_term.j1] at H
     by_cases c11 : x13_8 = true
     ·subst c11
      rw [if_pos rfl] at H
      have HC12 := aK H
      clear H
      go_upto_region 7 with (fail)
      go_cut [22] (fun v22 wc => ∃ (kq : Nat) (x22_11 : Bool) (x1001_11 : Int) (x1002_11 : Int), v22 = .bool x22_11 ∧ Aside0 (spec_l1Cur_term.j2 kq a1 x22_11 s0_0 x1001_11 x1002_11 = some (r1, r2, r3, r4, r5)) ∧ Aside0 (kq ≤ kj8) ∧ Aside0 (wc.heap[gb101]? = some (.cells #[.int .i64 0, .int .i64 0, (.slice none 0 0)] 54 (0, 0))) ∧ Aside0 (IsS61 w0 wc g s0_0 x1001_11 x1002_11) ∧ Aside0 (KeepBut w wc g none) ∧ Aside0 (Below w0.heap.size w0 wc))
      case first =>
       have H := HC12.out
       clear HC12
       by_cases c13 : a1 > 0
       ·rw [if_pos c13] at H
        have c13b0 : decide (0 < a1) = true := decide_eq_true c13
        clear c13
        (first | rw [c13b0] | (simp only [i64_w, i32_w]; rw [c13b0]) | skip)
        replace H := Option.bind_eq_some_iff.mp H
        obtain ⟨⟨t105, t106, t107⟩, A140, H⟩ := H
        try dsimp only at H
        have A14 := aK A140
        clear A140
        have H' := aK H
        clear H
        go_wp2_with (first | (go_at_call 54; (with_reducible refine (spec_l1Cur_one.calls g s0_0 t103 t104 6 t105 t106 t107 w0 _ ?side1 ?side2 A14.out).mono ?_); (case side1 => exact yI HI0); (case side2 => exact yH HB); rintro e w15 ⟨rfl, hi, hb, hk⟩; have n0_ := aK (KeepBut.blk hk (g' := gb101) (o := .cells #[.int .i64 0, .int .i64 0, .slice none 0 0] 54 (0, 0)) BK101.out NB101_0.out (by simp)); have n1_ := aK (KeepBut.trans (yK HK) hk (.inl rfl)); have n2_ := aK (hb); have n3_ := aK (hi); clear BK101; clear HK; clear HB; clear HI0; have BK101 := n0_; have HK := n1_; have HB := n2_; have HI0 := n3_; clear n0_ n1_ n2_ n3_; (try clear hb)))
        go_meet
        case rel => exact ⟨_, (!t105), (t106), (t107), rS, H', ⟨by have := HJ4.out; have := HJ8.out; first | omega | exact Nat.le_refl _⟩, ⟨pB BK101⟩, ⟨yI HI0⟩, ⟨yK HK⟩, ⟨yH HB⟩⟩
       ·rw [if_neg c13] at H
        have c13b0 : decide (0 < a1) = false := decide_eq_false c13
        clear c13
        (first | rw [c13b0] | (simp only [i64_w, i32_w]; rw [c13b0]) | skip)
        have H' := aK H
        clear H
        go_wp2
        go_meet
        case rel => exact ⟨_, (false), (t103), (t104), rS, H', ⟨by have := HJ4.out; have := HJ8.out; first | omega | exact Nat.le_refl _⟩, ⟨pB BK101⟩, ⟨yI HI0⟩, ⟨yK HK⟩, ⟨yH HB⟩⟩
      case rest =>
       clear HC12
       try clear c1; try clear p2; try clear c3; try clear c8; try clear c8b0; try clear c8b1; try clear c10; try clear c10b0; try clear c10b1; try clear c11; try clear c13; try clear c13b0; try clear p2
       obtain ⟨kq, x22_11, x1001_11, x1002_11, rfl, HA, HJ11, BK101, HI0, HK, HB⟩ := hcut
       cases kq with
       | zero => exact absurd HA.out (by simp [spec_l1Cur_term.j2])
       | succ kj11 =>
        have H := HA.out
        clear HA
        simp only [spec_l1Cur_term.j2] at H
        by_cases c16 : x22_11 = true
        ·subst c16
         rw [if_pos rfl] at H
         replace H := Option.bind_eq_some_iff.mp H
         obtain ⟨⟨t108, t109, t110⟩, A170, H⟩ := H
         try dsimp only at H
         have A17 := aK A170
         clear A170
         replace H := Option.bind_eq_some_iff.mp H
         obtain ⟨⟨t111, t112, t113⟩, A180, H⟩ := H
         try dsimp only at H
         have A18 := aK A180
         clear A180
         simp only [Option.some.injEq, Prod.mk.injEq] at H
         obtain ⟨rfl, rfl, rfl, rfl, rfl⟩ := H
         go_wp2_with (first | ((with_reducible refine gate_callee (f := 37) rfl ?_); refine goesL_ (some 25) rfl rfl Try.func37 (by kernel_rfl) rfl #[.pointer (some ⟨g, 0, none⟩), .int .i64 a1] rfl tA ?_; (with_reducible refine (spec_l1Cur_pick.calls g s0_0 x1001_11 x1002_11 a1 t108 t109 t110 w0 _ ?side1 ?side2 A17.out).mono ?_); (case side1 => exact yI HI0); (case side2 => exact yH HB); rintro e w19 ⟨rfl, hi, hb, hk⟩; refine ⟨_, rfl, ?_⟩; have n0_ := aK (KeepBut.blk hk (g' := gb101) (o := .cells #[.int .i64 0, .int .i64 0, .slice none 0 0] 54 (0, 0)) BK101.out NB101_0.out (by simp)); have n1_ := aK (KeepBut.trans (yK HK) hk (.inl rfl)); have n2_ := aK (hb); have n3_ := aK (hi); clear BK101; clear HK; clear HB; clear HI0; have BK101 := n0_; have HK := n1_; have HB := n2_; have HI0 := n3_; clear n0_ n1_ n2_ n3_; (try clear hb)) | ((with_reducible refine gate_callee (f := 55) rfl ?_); refine goesL_ (some 26) rfl rfl Try.func55 (by kernel_rfl) rfl #[.int .i64 t108] rfl tA ?_; (with_reducible refine (spec_lcVar.calls t108 t111 t112 t113 _ A18.out).mono ?_); rintro e w20 ⟨v114, rfl, ho0, hb⟩; refine ⟨_, rfl, ?_⟩; have n0_ := aK (Kd.N_lower (Kd.N_mono (ok' := fun k_ => (w.heap.size ≤ k_) ∧ k_ ≠ gb101 ∧ k_ ≠ g) (Kd.R_N (Kd.R_bound ho0)) (fun k_ hk_ => ⟨(Nat.le_trans (keep_size (w := w) (g := g) (row := none) (yK HK)) hk_.2.1), (Kd.freshB BK101.out k_ hk_.2.1), (IsS61.fresh (yI HI0) k_ hk_.2.1)⟩)) (keep_size (w := w) (g := g) (row := none) (yK HK))); have n1_ := aK (blk_below BK101.out hb); have n2_ := aK (IsS61.below (yI HI0) hb); have n3_ := aK (KeepBut.trans (yK HK) (KeepBut.of_below hb g none) (.inl rfl)); have n4_ := aK (below_step (yH HB) hb); clear BK101; clear HI0; clear HK; clear HB; have HO115 := n0_; have BK101 := n1_; have HI0 := n2_; have HK := n3_; have HB := n4_; clear n0_ n1_ n2_ n3_ n4_; (try clear hb); (try clear ho0); have hnb21 := NB101_0.out; have hnc21 := NB0_101.out; obtain ⟨hcz22_0, hcz22_1, hcz22_2, hfz22_0, hfz22_1, hfz22_2⟩ := cA3 BK101; obtain ⟨Ao23, co23, eo23⟩ := Kd.N_slice HO115.out; subst eo23))
         refine bodyPost_ret (results_cell_row rfl _ _ gb101 54 #[.int .i64 t111, .int .i64 t112, .slice Ao23 t113.length co23] (0, 0) _ rfl (p3 BK101) Try.underlying54 rfl (by kernel_rfl)) rfl ?_
         exact ⟨_, eW, by (with_reducible repeat (first | apply Kd.N_alloc | apply Kd.N_drewN | apply Kd.N_drew)); exact Kd.N_mono (nF3 gb101 (Kd.N_mono HO115.out (fun k_ hk => (⟨hk, hk.2.1⟩ : _ ∧ k_ ≠ gb101))) (fun _ hk => hk.2)) (fun _ hk => hk.1.1), yI HI0, yH HB, yK HK⟩
        ·replace c16 := Bool.eq_false_iff.mpr c16
         subst c16
         rw [if_neg (show ¬ (false = true) by decide)] at H
         replace H := Option.bind_eq_some_iff.mp H
         obtain ⟨⟨t116, t117, t118⟩, A240, H⟩ := H
         try dsimp only at H
         have A24 := aK A240
         clear A240
         replace H := Option.bind_eq_some_iff.mp H
         obtain ⟨⟨t119, t120, t121⟩, A250, H⟩ := H
         try dsimp only at H
         have A25 := aK A250
         clear A250
         simp only [Option.some.injEq, Prod.mk.injEq] at H
         obtain ⟨rfl, rfl, rfl, rfl, rfl⟩ := H
         go_wp2_with (first | ((with_reducible refine gate_callee (f := 37) rfl ?_); refine goesL_ (some 29) rfl rfl Try.func37 (by kernel_rfl) rfl #[.pointer (some ⟨g, 0, none⟩), .int .i64 3] rfl tA ?_; (with_reducible refine (spec_l1Cur_pick.calls g s0_0 x1001_11 x1002_11 3 t116 t117 t118 w0 _ ?side1 ?side2 A24.out).mono ?_); (case side1 => exact yI HI0); (case side2 => exact yH HB); rintro e w26 ⟨rfl, hi, hb, hk⟩; refine ⟨_, rfl, ?_⟩; have n0_ := aK (KeepBut.blk hk (g' := gb101) (o := .cells #[.int .i64 0, .int .i64 0, .slice none 0 0] 54 (0, 0)) BK101.out NB101_0.out (by simp)); have n1_ := aK (KeepBut.trans (yK HK) hk (.inl rfl)); have n2_ := aK (hb); have n3_ := aK (hi); clear BK101; clear HK; clear HB; clear HI0; have BK101 := n0_; have HK := n1_; have HB := n2_; have HI0 := n3_; clear n0_ n1_ n2_ n3_; (try clear hb)) | ((with_reducible refine gate_callee (f := 55) rfl ?_); refine goesL_ (some 31) rfl rfl Try.func55 (by kernel_rfl) rfl #[.int .i64 (wrap64 (a1 + t116))] rfl tA ?_; (with_reducible refine (spec_lcVar.calls (wrap64 (a1 + t116)) t119 t120 t121 _ A25.out).mono ?_); rintro e w27 ⟨v122, rfl, ho0, hb⟩; refine ⟨_, rfl, ?_⟩; have n0_ := aK (Kd.N_lower (Kd.N_mono (ok' := fun k_ => (w.heap.size ≤ k_) ∧ k_ ≠ gb101 ∧ k_ ≠ g) (Kd.R_N (Kd.R_bound ho0)) (fun k_ hk_ => ⟨(Nat.le_trans (keep_size (w := w) (g := g) (row := none) (yK HK)) hk_.2.1), (Kd.freshB BK101.out k_ hk_.2.1), (IsS61.fresh (yI HI0) k_ hk_.2.1)⟩)) (keep_size (w := w) (g := g) (row := none) (yK HK))); have n1_ := aK (blk_below BK101.out hb); have n2_ := aK (IsS61.below (yI HI0) hb); have n3_ := aK (KeepBut.trans (yK HK) (KeepBut.of_below hb g none) (.inl rfl)); have n4_ := aK (below_step (yH HB) hb); clear BK101; clear HI0; clear HK; clear HB; have HO123 := n0_; have BK101 := n1_; have HI0 := n2_; have HK := n3_; have HB := n4_; clear n0_ n1_ n2_ n3_ n4_; (try clear hb); (try clear ho0); have hnb28 := NB101_0.out; have hnc28 := NB0_101.out; obtain ⟨hcz29_0, hcz29_1, hcz29_2, hfz29_0, hfz29_1, hfz29_2⟩ := cA3 BK101; obtain ⟨Ao30, co30, eo30⟩ := Kd.N_slice HO123.out; subst eo30))
         refine bodyPost_ret (results_cell_row rfl _ _ gb101 54 #[.int .i64 t119, .int .i64 t120, .slice Ao30 t121.length co30] (0, 0) _ rfl (p3 BK101) Try.underlying54 rfl (by kernel_rfl)) rfl ?_
         exact ⟨_, eW, by (with_reducible repeat (first | apply Kd.N_alloc | apply Kd.N_drewN | apply Kd.N_drew)); exact Kd.N_mono (nF3 gb101 (Kd.N_mono HO123.out (fun k_ hk => (⟨hk, hk.2.1⟩ : _ ∧ k_ ≠ gb101))) (fun _ hk => hk.2)) (fun _ hk => hk.1.1), yI HI0, yH HB, yK HK⟩
     ·replace c11 := Bool.eq_false_iff.mpr c11
      subst c11
      rw [if_neg (show ¬ (false = true) by decide)] at H
      have HC31 := aK H
      clear H
      go_upto_if 32 with (fail)
      go_cut [32] (fun v32 wc => ∃ (kq : Nat) (x32_30 : Bool), v32 = .bool x32_30 ∧ Aside0 (spec_l1Cur_term.j3 kq a1 a2 x7_4 x32_30 s0_0 t103 t104 = some (r1, r2, r3, r4, r5)) ∧ Aside0 (kq ≤ kj8) ∧ Aside0 (wc.heap[gb101]? = some (.cells #[.int .i64 0, .int .i64 0, (.slice none 0 0)] 54 (0, 0))) ∧ Aside0 (IsS61 w0 wc g s0_0 t103 t104) ∧ Aside0 (KeepBut w wc g none) ∧ Aside0 (Below w0.heap.size w0 wc))
      case first =>
       have H := HC31.out
       clear HC31
       by_cases c32 : x7_4 = 2
       ·rw [if_pos c32] at H
        have c32b0 : (x7_4 == 2) = true := beq_iff_eq.mpr c32
        have c32b1 : (x7_4 != 2) = false := bne_eq_false_iff_eq.mpr c32
        clear c32
        (first | rw [c32b0] | (simp only [i64_w, i32_w]; rw [c32b0]) | skip)
        have H' := aK H
        clear H
        go_wp2
        go_meet
        case rel => exact ⟨_, ((x7_4 == 2)), rS, H', ⟨by have := HJ4.out; have := HJ8.out; first | omega | exact Nat.le_refl _⟩, ⟨pB BK101⟩, ⟨yI HI0⟩, ⟨yK HK⟩, ⟨yH HB⟩⟩
       ·rw [if_neg c32] at H
        have c32b0 : (x7_4 == 2) = false := beq_eq_false_iff_ne.mpr c32
        have c32b1 : (x7_4 != 2) = true := bne_iff_ne.mpr c32
        (first | rw [c32b0] | (simp only [i64_w, i32_w]; rw [c32b0]) | skip)
        have H' := aK H
        clear H
        go_wp2
        go_meet
        case rel => exact ⟨_, ((x7_4 == 3)), rS, H', ⟨by have := HJ4.out; have := HJ8.out; first | omega | exact Nat.le_refl _⟩, ⟨pB BK101⟩, ⟨yI HI0⟩, ⟨yK HK⟩, ⟨yH HB⟩⟩
      case rest =>
       clear HC31
       try clear c1; try clear c2; try clear p2; try clear c3; try clear c5; try clear p6; try clear c8; try clear c8b0; try clear c8b1; try clear c10; try clear c10b0; try clear c10b1; try clear c11; try clear c13; try clear c13b0; try clear c16; try clear c21; try clear c28; try clear c32; try clear c32b0; try clear c32b1; try clear p2; try clear hcz22_0 hcz22_1 hcz22_2 hfz22_0 hfz22_1 hfz22_2; try clear hcz29_0 hcz29_1 hcz29_2 hfz29_0 hfz29_1 hfz29_2
       obtain ⟨kq, x32_30, rfl, HA, HJ30, BK101, HI0, HK, HB⟩ := hcut
       cases kq with
       | zero => exact absurd HA.out (by simp [spec_l1Cur_term.j3])
       | succ kj30 =>
        have H := HA.out
        clear HA
        simp only [spec_l1Cur_term.j3] at H
        by_cases c33 : x32_30 = true
        ·subst c33
         rw [if_pos rfl] at H
         replace H := Option.bind_eq_some_iff.mp H
         obtain ⟨⟨t124, t125, t126, t129, t130⟩, A340, H⟩ := H
         try dsimp only at H
         have A34 := aK A340
         clear A340
         replace H := Option.bind_eq_some_iff.mp H
         obtain ⟨⟨t131, t132, t133⟩, A350, H⟩ := H
         try dsimp only at H
         have A35 := aK A350
         clear A350
         simp only [Option.some.injEq, Prod.mk.injEq] at H
         obtain ⟨rfl, rfl, rfl, rfl, rfl⟩ := H
         go_wp2_with (first | ((with_reducible refine gate_callee (f := 36) rfl ?_); refine goesL_ (some 40) rfl rfl Try.func36 (by kernel_rfl) rfl #[.pointer (some ⟨g, 0, none⟩), .int .i64 (wrap64 (a1 + 1)), .int .i64 (wrap64 (a2 - 1))] rfl tA ?_; (with_reducible refine (ih kj30 (by have := HJ4.out; have := HJ8.out; have := HJ30.out; omega) g s0_0 t103 t104 (wrap64 (a1 + 1)) (wrap64 (a2 - 1)) t124 t125 t126 t129 t130 w0 _ ?side1 ?side2 A34.out).mono ?_); (case side1 => exact yI HI0); (case side2 => exact yH HB); rintro e w36 ⟨v127, rfl, ho0, hi, hb, hk⟩; refine ⟨_, rfl, ?_⟩; have n0_ := aK (KeepBut.blk hk (g' := gb101) (o := .cells #[.int .i64 0, .int .i64 0, .slice none 0 0] 54 (0, 0)) BK101.out NB101_0.out (by simp)); have n1_ := aK (Kd.N_lower (Kd.N_mono (ok' := fun k_ => (w.heap.size ≤ k_) ∧ k_ ≠ gb101 ∧ k_ ≠ g) ho0 (fun k_ hk_ => ⟨(Nat.le_trans (keep_size (w := w) (g := g) (row := none) (yK HK)) hk_), (Kd.freshB BK101.out k_ hk_), (IsS61.fresh (yI HI0) k_ hk_)⟩)) (keep_size (w := w) (g := g) (row := none) (yK HK))); have n2_ := aK (KeepBut.trans (yK HK) hk (.inl rfl)); have n3_ := aK (hb); have n4_ := aK (hi); clear BK101; clear HK; clear HB; clear HI0; have BK101 := n0_; have HO128 := n1_; have HK := n2_; have HB := n3_; have HI0 := n4_; clear n0_ n1_ n2_ n3_ n4_; (try clear hb); (try clear ho0); obtain ⟨Ao37, co37, eo37⟩ := Kd.N_slice HO128.out; subst eo37) | ((with_reducible refine gate_callee (f := 56) rfl ?_); refine goesL_ (some 41) rfl rfl Try.func56 (by kernel_rfl) rfl #[.agg #[.int .i64 t124, .int .i64 t125, .slice Ao37 t126.length co37]] rfl tA ?_; (with_reducible refine (spec_lcLam.calls t124 t125 (fun k_ => ((w.heap.size ≤ k_) ∧ (k_ ≠ gb101 ∧ k_ ≠ g))) _ _ t126 t131 t132 t133 _ ?side1 A35.out).mono ?_); (case side1 => exact Kd.N_V (HO128.out)); rintro e w38 ⟨v134, rfl, ho0, hb⟩; refine ⟨_, rfl, ?_⟩; have n0_ := aK (Kd.N_elder' HO128.out (Kd.N_base ho0) hb); have n1_ := aK (Kd.N_lower (Kd.N_mono (ok' := fun k_ => (w.heap.size ≤ k_) ∧ k_ ≠ gb101 ∧ k_ ≠ g) ho0 (fun k_ hk_ => ⟨Or.elim hk_ (fun hs_ => hs_.1) (fun hn_ => (Nat.le_trans (keep_size (w := w) (g := g) (row := none) (yK HK)) hn_)), Or.elim hk_ (fun hs_ => hs_.2.1) (fun hn_ => (Kd.freshB BK101.out k_ hn_)), Or.elim hk_ (fun hs_ => hs_.2.2) (fun hn_ => (IsS61.fresh (yI HI0) k_ hn_))⟩)) (keep_size (w := w) (g := g) (row := none) (yK HK))); have n2_ := aK (blk_below BK101.out hb); have n3_ := aK (IsS61.below (yI HI0) hb); have n4_ := aK (KeepBut.trans (yK HK) (KeepBut.of_below hb g none) (.inl rfl)); have n5_ := aK (below_step (yH HB) hb); clear HO128; clear BK101; clear HI0; clear HK; clear HB; have HO128 := n0_; have HO135 := n1_; have BK101 := n2_; have HI0 := n3_; have HK := n4_; have HB := n5_; clear n0_ n1_ n2_ n3_ n4_ n5_; (try clear hb); (try clear ho0); have hnb39 := NB101_0.out; have hnc39 := NB0_101.out; obtain ⟨hcz40_0, hcz40_1, hcz40_2, hfz40_0, hfz40_1, hfz40_2⟩ := cA3 BK101; obtain ⟨Ao41, co41, eo41⟩ := Kd.N_slice HO135.out; subst eo41))
         refine bodyPost_ret (results_cell_row rfl _ _ gb101 54 #[.int .i64 t131, .int .i64 t132, .slice Ao41 t133.length co41] (0, 0) _ rfl (p3 BK101) Try.underlying54 rfl (by kernel_rfl)) rfl ?_
         exact ⟨_, eW, by (with_reducible repeat (first | apply Kd.N_alloc | apply Kd.N_drewN | apply Kd.N_drew)); exact Kd.N_mono (nF3 gb101 (Kd.N_mono HO135.out (fun k_ hk => (⟨hk, hk.2.1⟩ : _ ∧ k_ ≠ gb101))) (fun _ hk => hk.2)) (fun _ hk => hk.1.1), yI HI0, yH HB, yK HK⟩
        ·replace c33 := Bool.eq_false_iff.mpr c33
         subst c33
         rw [if_neg (show ¬ (false = true) by decide)] at H
         by_cases c42 : x7_4 = 4
         ·rw [if_pos c42] at H
          have c42b0 : (x7_4 == 4) = true := beq_iff_eq.mpr c42
          have c42b1 : (x7_4 != 4) = false := bne_eq_false_iff_eq.mpr c42
          clear c42
          replace H := Option.bind_eq_some_iff.mp H
          obtain ⟨⟨t136, t137, t138, t141, t142⟩, A430, H⟩ := H
          try dsimp only at H
          have A43 := aK A430
          clear A430
          replace H := Option.bind_eq_some_iff.mp H
          obtain ⟨⟨t143, t144, t145⟩, A440, H⟩ := H
          try dsimp only at H
          have A44 := aK A440
          clear A440
          replace H := Option.bind_eq_some_iff.mp H
          obtain ⟨⟨t148, t149, t150, t153, t154⟩, A450, H⟩ := H
          try dsimp only at H
          have A45 := aK A450
          clear A450
          replace H := Option.bind_eq_some_iff.mp H
          obtain ⟨⟨t155, t156, t157⟩, A460, H⟩ := H
          try dsimp only at H
          have A46 := aK A460
          clear A460
          simp only [Option.some.injEq, Prod.mk.injEq] at H
          obtain ⟨rfl, rfl, rfl, rfl, rfl⟩ := H
          go_wp2_with (first | ((with_reducible refine gate_callee (f := 36) rfl ?_); refine goesL_ (some 49) rfl rfl Try.func36 (by kernel_rfl) rfl #[.pointer (some ⟨g, 0, none⟩), .int .i64 (wrap64 (a1 + 1)), .int .i64 (wrap64 (a2 - 1))] rfl tA ?_; (with_reducible refine (ih kj30 (by have := HJ4.out; have := HJ8.out; have := HJ30.out; omega) g s0_0 t103 t104 (wrap64 (a1 + 1)) (wrap64 (a2 - 1)) t136 t137 t138 t141 t142 w0 _ ?side1 ?side2 A43.out).mono ?_); (case side1 => exact yI HI0); (case side2 => exact yH HB); rintro e w47 ⟨v139, rfl, ho0, hi, hb, hk⟩; refine ⟨_, rfl, ?_⟩; have n0_ := aK (KeepBut.blk hk (g' := gb101) (o := .cells #[.int .i64 0, .int .i64 0, .slice none 0 0] 54 (0, 0)) BK101.out NB101_0.out (by simp)); have n1_ := aK (Kd.N_lower (Kd.N_mono (ok' := fun k_ => (w.heap.size ≤ k_) ∧ k_ ≠ gb101 ∧ k_ ≠ g) ho0 (fun k_ hk_ => ⟨(Nat.le_trans (keep_size (w := w) (g := g) (row := none) (yK HK)) hk_), (Kd.freshB BK101.out k_ hk_), (IsS61.fresh (yI HI0) k_ hk_)⟩)) (keep_size (w := w) (g := g) (row := none) (yK HK))); have n2_ := aK (KeepBut.trans (yK HK) hk (.inl rfl)); have n3_ := aK (hb); have n4_ := aK (hi); clear BK101; clear HK; clear HB; clear HI0; have BK101 := n0_; have HO140 := n1_; have HK := n2_; have HB := n3_; have HI0 := n4_; clear n0_ n1_ n2_ n3_ n4_; (try clear hb); (try clear ho0); obtain ⟨Ao48, co48, eo48⟩ := Kd.N_slice HO140.out; subst eo48) | ((with_reducible refine gate_callee (f := 56) rfl ?_); refine goesL_ (some 50) rfl rfl Try.func56 (by kernel_rfl) rfl #[.agg #[.int .i64 t136, .int .i64 t137, .slice Ao48 t138.length co48]] rfl tA ?_; (with_reducible refine (spec_lcLam.calls t136 t137 (fun k_ => ((w.heap.size ≤ k_) ∧ (k_ ≠ gb101 ∧ k_ ≠ g))) _ _ t138 t143 t144 t145 _ ?side1 A44.out).mono ?_); (case side1 => exact Kd.N_V (HO140.out)); rintro e w49 ⟨v146, rfl, ho0, hb⟩; refine ⟨_, rfl, ?_⟩; have n0_ := aK (Kd.N_elder' HO140.out (Kd.N_base ho0) hb); have n1_ := aK (Kd.N_lower (Kd.N_mono (ok' := fun k_ => (w.heap.size ≤ k_) ∧ k_ ≠ gb101 ∧ k_ ≠ g) ho0 (fun k_ hk_ => ⟨Or.elim hk_ (fun hs_ => hs_.1) (fun hn_ => (Nat.le_trans (keep_size (w := w) (g := g) (row := none) (yK HK)) hn_)), Or.elim hk_ (fun hs_ => hs_.2.1) (fun hn_ => (Kd.freshB BK101.out k_ hn_)), Or.elim hk_ (fun hs_ => hs_.2.2) (fun hn_ => (IsS61.fresh (yI HI0) k_ hn_))⟩)) (keep_size (w := w) (g := g) (row := none) (yK HK))); have n2_ := aK (blk_below BK101.out hb); have n3_ := aK (IsS61.below (yI HI0) hb); have n4_ := aK (KeepBut.trans (yK HK) (KeepBut.of_below hb g none) (.inl rfl)); have n5_ := aK (below_step (yH HB) hb); clear HO140; clear BK101; clear HI0; clear HK; clear HB; have HO140 := n0_; have HO147 := n1_; have BK101 := n2_; have HI0 := n3_; have HK := n4_; have HB := n5_; clear n0_ n1_ n2_ n3_ n4_ n5_; (try clear hb); (try clear ho0)) | ((with_reducible refine gate_callee (f := 36) rfl ?_); refine goesL_ (some 55) rfl rfl Try.func36 (by kernel_rfl) rfl #[.pointer (some ⟨g, 0, none⟩), .int .i64 a1, .int .i64 (wrap64 (a2 - 1))] rfl tA ?_; (with_reducible refine (ih kj30 (by have := HJ4.out; have := HJ8.out; have := HJ30.out; omega) g s0_0 t141 t142 a1 (wrap64 (a2 - 1)) t148 t149 t150 t153 t154 w0 _ ?side1 ?side2 A45.out).mono ?_); (case side1 => exact yI HI0); (case side2 => exact yH HB); rintro e w50 ⟨v151, rfl, ho0, hi, hb, hk⟩; refine ⟨_, rfl, ?_⟩; have n0_ := aK (KeepBut.blk hk (g' := gb101) (o := .cells #[.int .i64 0, .int .i64 0, .slice none 0 0] 54 (0, 0)) BK101.out NB101_0.out (by simp)); have n1_ := aK (Kd.N_mono (Kd.N_told (Kd.N_oldK (Kd.N_mono (ok := fun k_ => ((((w.heap.size ≤ k_)) ∧ (k_ ≠ gb101 ∧ k_ ≠ g)) ∧ some k_ ≠ (v146 : Value).ownBlock)) HO140.out (fun k_ hk_ => (⟨hk_, hk_.1.2.2⟩ : _ ∧ k_ ≠ g))) hk) (Kd.N_base ho0)) (fun _ h_ => h_.1)); have n2_ := aK (Kd.N_mono (Kd.N_told (Kd.N_oldK (Kd.N_mono (ok := fun k_ => (((w.heap.size ≤ k_)) ∧ (k_ ≠ gb101 ∧ k_ ≠ g))) HO147.out (fun k_ hk_ => (⟨hk_, hk_.2.2⟩ : _ ∧ k_ ≠ g))) hk) (Kd.N_base ho0)) (fun _ h_ => h_.1)); have n3_ := aK (Kd.N_lower (Kd.N_mono (ok' := fun k_ => (w.heap.size ≤ k_) ∧ some k_ ≠ (.slice Ao48 t138.length co48 : Value).ownBlock ∧ some k_ ≠ (v146 : Value).ownBlock ∧ k_ ≠ gb101 ∧ k_ ≠ g) ho0 (fun k_ hk_ => ⟨(Nat.le_trans (keep_size (w := w) (g := g) (row := none) (yK HK)) hk_), (Kd.fresh' (Kd.N_lt HO140.out) k_ hk_), (Kd.fresh' (Kd.N_lt HO147.out) k_ hk_), (Kd.freshB BK101.out k_ hk_), (IsS61.fresh (yI HI0) k_ hk_)⟩)) (keep_size (w := w) (g := g) (row := none) (yK HK))); have n4_ := aK (KeepBut.trans (yK HK) hk (.inl rfl)); have n5_ := aK (hb); have n6_ := aK (hi); clear BK101; clear HO140; clear HO147; clear HK; clear HB; clear HI0; have BK101 := n0_; have HO140 := n1_; have HO147 := n2_; have HO152 := n3_; have HK := n4_; have HB := n5_; have HI0 := n6_; clear n0_ n1_ n2_ n3_ n4_ n5_ n6_; (try clear hb); (try clear ho0); obtain ⟨Ao51, co51, eo51⟩ := Kd.N_slice HO147.out; subst eo51; obtain ⟨Ao52, co52, eo52⟩ := Kd.N_slice HO152.out; subst eo52) | ((with_reducible refine gate_callee (f := 38) rfl ?_); refine goesL_ (some 56) rfl rfl Try.func38 (by kernel_rfl) rfl #[.agg #[.int .i64 t143, .int .i64 t144, .slice Ao51 t145.length co51], .agg #[.int .i64 t148, .int .i64 t149, .slice Ao52 t150.length co52]] rfl tA ?_; (with_reducible refine (spec_lcApp.calls t143 t144 (fun k_ => (((w.heap.size ≤ k_) ∧ (k_ ≠ gb101 ∧ k_ ≠ g)) ∧ some k_ ≠ (.slice Ao52 t150.length co52 : Value).ownBlock)) _ _ t145 t148 t149 (fun k_ => ((w.heap.size ≤ k_) ∧ (some k_ ≠ (.slice Ao48 t138.length co48 : Value).ownBlock ∧ (some k_ ≠ (.slice Ao51 t145.length co51 : Value).ownBlock ∧ (k_ ≠ gb101 ∧ k_ ≠ g))))) _ _ t150 t155 t156 t157 _ ?side1 ?side2 A46.out).mono ?_); (case side1 => exact Kd.N_V (HO147.out)); (case side2 => exact Kd.N_V (HO152.out)); rintro e w53 ⟨v158, rfl, ho0, hb⟩; refine ⟨_, rfl, ?_⟩; have n0_ := aK (Kd.N_elder' HO140.out (Kd.N_base ho0) hb); have n1_ := aK (Kd.N_elder' HO147.out (Kd.N_base ho0) hb); have n2_ := aK (Kd.N_elder' HO152.out (Kd.N_base ho0) hb); have n3_ := aK (Kd.N_lower (Kd.N_mono (ok' := fun k_ => (w.heap.size ≤ k_) ∧ k_ ≠ gb101 ∧ k_ ≠ g) ho0 (fun k_ hk_ => ⟨Or.elim hk_ (fun hs_ => Or.elim hs_ (fun hs_ => hs_.1.1) (fun hs_ => hs_.1)) (fun hn_ => (Nat.le_trans (keep_size (w := w) (g := g) (row := none) (yK HK)) hn_)), Or.elim hk_ (fun hs_ => Or.elim hs_ (fun hs_ => hs_.1.2.1) (fun hs_ => hs_.2.2.2.1)) (fun hn_ => (Kd.freshB BK101.out k_ hn_)), Or.elim hk_ (fun hs_ => Or.elim hs_ (fun hs_ => hs_.1.2.2) (fun hs_ => hs_.2.2.2.2)) (fun hn_ => (IsS61.fresh (yI HI0) k_ hn_))⟩)) (keep_size (w := w) (g := g) (row := none) (yK HK))); have n4_ := aK (blk_below BK101.out hb); have n5_ := aK (IsS61.below (yI HI0) hb); have n6_ := aK (KeepBut.trans (yK HK) (KeepBut.of_below hb g none) (.inl rfl)); have n7_ := aK (below_step (yH HB) hb); clear HO140; clear HO147; clear HO152; clear BK101; clear HI0; clear HK; clear HB; have HO140 := n0_; have HO147 := n1_; have HO152 := n2_; have HO159 := n3_; have BK101 := n4_; have HI0 := n5_; have HK := n6_; have HB := n7_; clear n0_ n1_ n2_ n3_ n4_ n5_ n6_ n7_; (try clear hb); (try clear ho0); have hnb54 := NB101_0.out; have hnc54 := NB0_101.out; obtain ⟨hcz55_0, hcz55_1, hcz55_2, hfz55_0, hfz55_1, hfz55_2⟩ := cA3 BK101; obtain ⟨Ao56, co56, eo56⟩ := Kd.N_slice HO159.out; subst eo56))
          refine bodyPost_ret (results_cell_row rfl _ _ gb101 54 #[.int .i64 t155, .int .i64 t156, .slice Ao56 t157.length co56] (0, 0) _ rfl (p3 BK101) Try.underlying54 rfl (by kernel_rfl)) rfl ?_
          exact ⟨_, eW, by (with_reducible repeat (first | apply Kd.N_alloc | apply Kd.N_drewN | apply Kd.N_drew)); exact Kd.N_mono (nF3 gb101 (Kd.N_mono HO159.out (fun k_ hk => (⟨hk, hk.2.1⟩ : _ ∧ k_ ≠ gb101))) (fun _ hk => hk.2)) (fun _ hk => hk.1.1), yI HI0, yH HB, yK HK⟩
         ·rw [if_neg c42] at H
          have c42b0 : (x7_4 == 4) = false := beq_eq_false_iff_ne.mpr c42
          have c42b1 : (x7_4 != 4) = true := bne_iff_ne.mpr c42
          replace H := Option.bind_eq_some_iff.mp H
          obtain ⟨⟨t160, t161, t162, t165, t166⟩, A570, H⟩ := H
          try dsimp only at H
          have A57 := aK A570
          clear A570
          replace H := Option.bind_eq_some_iff.mp H
          obtain ⟨⟨t167, t168, t169, t172, t173⟩, A580, H⟩ := H
          try dsimp only at H
          have A58 := aK A580
          clear A580
          replace H := Option.bind_eq_some_iff.mp H
          obtain ⟨⟨t174, t175, t176⟩, A590, H⟩ := H
          try dsimp only at H
          have A59 := aK A590
          clear A590
          simp only [Option.some.injEq, Prod.mk.injEq] at H
          obtain ⟨rfl, rfl, rfl, rfl, rfl⟩ := H
          go_wp2_with (first | ((with_reducible refine gate_callee (f := 36) rfl ?_); refine goesL_ (some 61) rfl rfl Try.func36 (by kernel_rfl) rfl #[.pointer (some ⟨g, 0, none⟩), .int .i64 a1, .int .i64 (wrap64 (a2 - 1))] rfl tA ?_; (with_reducible refine (ih kj30 (by have := HJ4.out; have := HJ8.out; have := HJ30.out; omega) g s0_0 t103 t104 a1 (wrap64 (a2 - 1)) t160 t161 t162 t165 t166 w0 _ ?side1 ?side2 A57.out).mono ?_); (case side1 => exact yI HI0); (case side2 => exact yH HB); rintro e w60 ⟨v163, rfl, ho0, hi, hb, hk⟩; refine ⟨_, rfl, ?_⟩; have n0_ := aK (KeepBut.blk hk (g' := gb101) (o := .cells #[.int .i64 0, .int .i64 0, .slice none 0 0] 54 (0, 0)) BK101.out NB101_0.out (by simp)); have n1_ := aK (Kd.N_lower (Kd.N_mono (ok' := fun k_ => (w.heap.size ≤ k_) ∧ k_ ≠ gb101 ∧ k_ ≠ g) ho0 (fun k_ hk_ => ⟨(Nat.le_trans (keep_size (w := w) (g := g) (row := none) (yK HK)) hk_), (Kd.freshB BK101.out k_ hk_), (IsS61.fresh (yI HI0) k_ hk_)⟩)) (keep_size (w := w) (g := g) (row := none) (yK HK))); have n2_ := aK (KeepBut.trans (yK HK) hk (.inl rfl)); have n3_ := aK (hb); have n4_ := aK (hi); clear BK101; clear HK; clear HB; clear HI0; have BK101 := n0_; have HO164 := n1_; have HK := n2_; have HB := n3_; have HI0 := n4_; clear n0_ n1_ n2_ n3_ n4_; (try clear hb); (try clear ho0)) | ((with_reducible refine gate_callee (f := 36) rfl ?_); refine goesL_ (some 66) rfl rfl Try.func36 (by kernel_rfl) rfl #[.pointer (some ⟨g, 0, none⟩), .int .i64 a1, .int .i64 (wrap64 (a2 - 1))] rfl tA ?_; (with_reducible refine (ih kj30 (by have := HJ4.out; have := HJ8.out; have := HJ30.out; omega) g s0_0 t165 t166 a1 (wrap64 (a2 - 1)) t167 t168 t169 t172 t173 w0 _ ?side1 ?side2 A58.out).mono ?_); (case side1 => exact yI HI0); (case side2 => exact yH HB); rintro e w61 ⟨v170, rfl, ho0, hi, hb, hk⟩; refine ⟨_, rfl, ?_⟩; have n0_ := aK (KeepBut.blk hk (g' := gb101) (o := .cells #[.int .i64 0, .int .i64 0, .slice none 0 0] 54 (0, 0)) BK101.out NB101_0.out (by simp)); have n1_ := aK (Kd.N_mono (Kd.N_told (Kd.N_oldK (Kd.N_mono (ok := fun k_ => (((w.heap.size ≤ k_)) ∧ (k_ ≠ gb101 ∧ k_ ≠ g))) HO164.out (fun k_ hk_ => (⟨hk_, hk_.2.2⟩ : _ ∧ k_ ≠ g))) hk) (Kd.N_base ho0)) (fun _ h_ => h_.1)); have n2_ := aK (Kd.N_lower (Kd.N_mono (ok' := fun k_ => (w.heap.size ≤ k_) ∧ some k_ ≠ (v163 : Value).ownBlock ∧ k_ ≠ gb101 ∧ k_ ≠ g) ho0 (fun k_ hk_ => ⟨(Nat.le_trans (keep_size (w := w) (g := g) (row := none) (yK HK)) hk_), (Kd.fresh' (Kd.N_lt HO164.out) k_ hk_), (Kd.freshB BK101.out k_ hk_), (IsS61.fresh (yI HI0) k_ hk_)⟩)) (keep_size (w := w) (g := g) (row := none) (yK HK))); have n3_ := aK (KeepBut.trans (yK HK) hk (.inl rfl)); have n4_ := aK (hb); have n5_ := aK (hi); clear BK101; clear HO164; clear HK; clear HB; clear HI0; have BK101 := n0_; have HO164 := n1_; have HO171 := n2_; have HK := n3_; have HB := n4_; have HI0 := n5_; clear n0_ n1_ n2_ n3_ n4_ n5_; (try clear hb); (try clear ho0); obtain ⟨Ao62, co62, eo62⟩ := Kd.N_slice HO164.out; subst eo62; obtain ⟨Ao63, co63, eo63⟩ := Kd.N_slice HO171.out; subst eo63) | ((with_reducible refine gate_callee (f := 38) rfl ?_); refine goesL_ (some 67) rfl rfl Try.func38 (by kernel_rfl) rfl #[.agg #[.int .i64 t160, .int .i64 t161, .slice Ao62 t162.length co62], .agg #[.int .i64 t167, .int .i64 t168, .slice Ao63 t169.length co63]] rfl tA ?_; (with_reducible refine (spec_lcApp.calls t160 t161 (fun k_ => (((w.heap.size ≤ k_) ∧ (k_ ≠ gb101 ∧ k_ ≠ g)) ∧ some k_ ≠ (.slice Ao63 t169.length co63 : Value).ownBlock)) _ _ t162 t167 t168 (fun k_ => ((w.heap.size ≤ k_) ∧ (some k_ ≠ (.slice Ao62 t162.length co62 : Value).ownBlock ∧ (k_ ≠ gb101 ∧ k_ ≠ g)))) _ _ t169 t174 t175 t176 _ ?side1 ?side2 A59.out).mono ?_); (case side1 => exact Kd.N_V (HO164.out)); (case side2 => exact Kd.N_V (HO171.out)); rintro e w64 ⟨v177, rfl, ho0, hb⟩; refine ⟨_, rfl, ?_⟩; have n0_ := aK (Kd.N_elder' HO164.out (Kd.N_base ho0) hb); have n1_ := aK (Kd.N_elder' HO171.out (Kd.N_base ho0) hb); have n2_ := aK (Kd.N_lower (Kd.N_mono (ok' := fun k_ => (w.heap.size ≤ k_) ∧ k_ ≠ gb101 ∧ k_ ≠ g) ho0 (fun k_ hk_ => ⟨Or.elim hk_ (fun hs_ => Or.elim hs_ (fun hs_ => hs_.1.1) (fun hs_ => hs_.1)) (fun hn_ => (Nat.le_trans (keep_size (w := w) (g := g) (row := none) (yK HK)) hn_)), Or.elim hk_ (fun hs_ => Or.elim hs_ (fun hs_ => hs_.1.2.1) (fun hs_ => hs_.2.2.1)) (fun hn_ => (Kd.freshB BK101.out k_ hn_)), Or.elim hk_ (fun hs_ => Or.elim hs_ (fun hs_ => hs_.1.2.2) (fun hs_ => hs_.2.2.2)) (fun hn_ => (IsS61.fresh (yI HI0) k_ hn_))⟩)) (keep_size (w := w) (g := g) (row := none) (yK HK))); have n3_ := aK (blk_below BK101.out hb); have n4_ := aK (IsS61.below (yI HI0) hb); have n5_ := aK (KeepBut.trans (yK HK) (KeepBut.of_below hb g none) (.inl rfl)); have n6_ := aK (below_step (yH HB) hb); clear HO164; clear HO171; clear BK101; clear HI0; clear HK; clear HB; have HO164 := n0_; have HO171 := n1_; have HO178 := n2_; have BK101 := n3_; have HI0 := n4_; have HK := n5_; have HB := n6_; clear n0_ n1_ n2_ n3_ n4_ n5_ n6_; (try clear hb); (try clear ho0); have hnb65 := NB101_0.out; have hnc65 := NB0_101.out; obtain ⟨hcz66_0, hcz66_1, hcz66_2, hfz66_0, hfz66_1, hfz66_2⟩ := cA3 BK101; obtain ⟨Ao67, co67, eo67⟩ := Kd.N_slice HO178.out; subst eo67))
          refine bodyPost_ret (results_cell_row rfl _ _ gb101 54 #[.int .i64 t174, .int .i64 t175, .slice Ao67 t176.length co67] (0, 0) _ rfl (p3 BK101) Try.underlying54 rfl (by kernel_rfl)) rfl ?_
          exact ⟨_, eW, by (with_reducible repeat (first | apply Kd.N_alloc | apply Kd.N_drewN | apply Kd.N_drew)); exact Kd.N_mono (nF3 gb101 (Kd.N_mono HO178.out (fun k_ hk => (⟨hk, hk.2.1⟩ : _ ∧ k_ ≠ gb101))) (fun _ hk => hk.2)) (fun _ hk => hk.1.1), yI HI0, yH HB, yK HK⟩


def spec_l1Cur_of.f (s0_0 : List Int) (s0_1 : Int) (s0_2 : Int) (l1 : List ByteArray) : Option (ByteArray × Int × Int) := (spec_l1Cur_pick.f s0_0 s0_1 s0_2 (l1.length : Int)).bind fun bt101 => (if 0 ≤ bt101.1 then (if bt101.1 < (l1.length : Int) then (some (rdOf ByteArray.empty l1 bt101.1, bt101.2.1, bt101.2.2)) else (none)) else (none))
set_option maxHeartbeats 8000000 in
set_option maxRecDepth 100000 in
theorem spec_l1Cur_of.calls (g : Nat) (s0_0 : List Int) (s0_1 : Int) (s0_2 : Int) (A1 : Option Addr) (c1 : Nat) (l1 : List ByteArray) (r1 : ByteArray) (r2 : Int) (r3 : Int) (w0 w : World) (hI : IsS61 w0 w g s0_0 s0_1 s0_2) (hB : Below w0.heap.size w0 w) (hr1 : Kd.C Kd.string w A1 l1.length l1) (hc1 : l1.length ≤ c1) (hf1 : ∀ ad, A1 = some ad → 0 < l1.length → ad.block ≠ g) (h : spec_l1Cur_of.f s0_0 s0_1 s0_2 l1 = some (r1, r2, r3)) :
  Calls Try.prog 58 #[.pointer (some ⟨g, 0, none⟩), .slice A1 l1.length c1] w fun e w' => e = .returned (.string r1) ∧ IsS61 w0 w' g s0_0 r2 r3 ∧ Below w0.heap.size w0 w' ∧ KeepBut w w' g none := by
 have HR1 := aK hr1
 have HC1 := aK hc1
 clear hr1 hc1
 have HI0 := aK hI
 have HK := aK (KeepBut.refl w g none)
 have HL := aK hB.size
 clear hI
 have HW0 := aK hB.size
 have HB := aK hB
 clear hB
 have H : ((spec_l1Cur_pick.f s0_0 s0_1 s0_2 (l1.length : Int)).bind fun bt101 => (if 0 ≤ bt101.1 then (if bt101.1 < (l1.length : Int) then (some (rdOf ByteArray.empty l1 bt101.1, bt101.2.1, bt101.2.2)) else (none)) else (none))) = some (r1, r2, r3) := h
 clear h
 replace H := Option.bind_eq_some_iff.mp H
 obtain ⟨⟨t101, t102, t103⟩, A30, H⟩ := H
 try dsimp only at H
 have A3 := aK A30
 clear A30
 by_cases c4 : 0 ≤ t101
 ·rw [if_pos c4] at H
  have c4b0 : decide (0 ≤ t101) = true := decide_eq_true c4
  clear c4
  by_cases c5 : t101 < (l1.length : Int)
  ·rw [if_pos c5] at H
   have c5b0 : decide (t101 < (l1.length : Int)) = true := decide_eq_true c5
   clear c5
   simp only [Option.some.injEq, Prod.mk.injEq] at H
   obtain ⟨rfl, rfl, rfl⟩ := H
   go_enter Try.func58, Try.ntmps58
   go_wp2_with (first | ((with_reducible refine gate_callee (f := 37) rfl ?_); refine goesL_ (some 9) rfl rfl Try.func37 (by kernel_rfl) rfl #[.pointer (some ⟨g, 0, none⟩), .int .i64 (l1.length : Int)] rfl tA ?_; (with_reducible refine (spec_l1Cur_pick.calls g s0_0 s0_1 s0_2 (l1.length : Int) t101 t102 t103 w0 _ ?side1 ?side2 A3.out).mono ?_); (case side1 => exact yI HI0); (case side2 => exact yH HB); rintro e w6 ⟨rfl, hi, hb, hk⟩; refine ⟨_, rfl, ?_⟩; have n0_ := aK (KeepBut.trans (yK HK) hk (.inl rfl)); have n1_ := aK (hb); have n2_ := aK (hi); clear HK; have HK := n0_; clear n0_; clear HB; have HB := n1_; clear n1_; clear HI0; have HI0 := n2_; clear n2_; (try clear hb); have p104 : 0 ≤ (t101 : Int) := dA; have q104 : t101 < (l1.length : Int) := dA; obtain ⟨ad104, e104, hx104_0⟩ := Kd.at_string HR1.out t101 p104 q104; cases e104; replace hx104_0 := keep_cell HK.out hx104_0 (by first | (rw [add_block]; exact hf1 _ rfl (by omega)) | exact hf1 _ rfl (by omega) | exact hf1 ad104 rfl (by omega)); replace p104 := eq_true p104; replace q104 := eq_true q104))
   go_ret
   exact ⟨eW, yI HI0, yH HB, yK HK⟩
  ·rw [if_neg c5] at H
   exact absurd H (by simp)
 ·rw [if_neg c4] at H
  exact absurd H (by simp)


def spec_laSmall.l0 : Nat → ByteArray → Int → Int → Option (Int)
 | 0, _, _, _ => none
 | k + 1, x0, x3, x4 => if x4 < (x0.size : Int) then (if 0 ≤ x4 then (spec_laSmall.l0 k x0 (wrap64 ((wrap64 (10 * x3)) + (((bt x0 x4) - 48) % 256))) (wrap64 (x4 + 1))) else (none)) else (some x3)
def spec_laSmall.f (k : Nat) (a0 : ByteArray) : Option (Int) := spec_laSmall.l0 k a0 0 0
set_option maxHeartbeats 8000000 in
set_option maxRecDepth 100000 in
theorem spec_laSmall.calls (k : Nat) (a0 : ByteArray) (r : Int) (w : World) (h : spec_laSmall.f k a0 = some r) :
  Calls Try.prog 75 #[.string a0] w fun e w' => e = .returned (.int .i64 r) ∧ Drawn0 w w' := by
 have H : (spec_laSmall.l0 k a0 0 0) = some r := h
 clear h
 have H' := aK H
 clear H
 go_enter Try.func75, Try.ntmps75
 go_wp2
 go_loopg [3, 4] k (fun kq v3 v4 w' => ∃ (x3_1 : Int) (x4_1 : Int), v3 = .int .i64 x3_1 ∧ v4 = .int .i64 x4_1 ∧ Aside0 (spec_laSmall.l0 kq a0 x3_1 x4_1 = some r) ∧ Aside0 (kq ≤ k) ∧ Drawn0 w w')
 case atStart => exact ⟨(0), (0), rS, rS, H', ⟨Nat.le_refl _⟩, by repeat (first | exact Drawn0.refl _ | apply Drawn0.step)⟩
 case round =>
  clear H'
  obtain ⟨x3_1, x4_1, rfl, rfl, HA, HK1, ⟨m1, rfl⟩⟩ := hrel
  cases gk with
  | zero => exact absurd HA.out (by simp [spec_laSmall.l0])
  | succ k1 =>
   have H := HA.out
   clear HA
   simp only [spec_laSmall.l0] at H
   by_cases c2 : x4_1 < (a0.size : Int)
   ·rw [if_pos c2] at H
    have c2b0 : decide (x4_1 < (a0.size : Int)) = true := decide_eq_true c2
    clear c2
    by_cases c3 : 0 ≤ x4_1
    ·rw [if_pos c3] at H
     have c3b0 : decide (0 ≤ x4_1) = true := decide_eq_true c3
     clear c3
     have H' := aK H
     clear H
     have p4 : 0 ≤ (x4_1 : Int) := dA
     have q4 : x4_1 < (a0.size : Int) := dA
     have hx4 := bt_at a0 x4_1
     replace p4 := eq_true p4
     replace q4 := eq_true q4
     go_wp2
     go_roundg k1
     case measure => have := HK1.out; omega
     case rel => exact ⟨(wrap64 ((wrap64 (10 * x3_1)) + (((bt a0 x4_1) - 48) % 256))), (wrap64 (x4_1 + 1)), rS, rS, H', ⟨by have := HK1.out; omega⟩, by repeat (first | exact Drawn0.refl _ | apply Drawn0.step)⟩
    ·rw [if_neg c3] at H
     exact absurd H (by simp)
   ·rw [if_neg c2] at H
    have c2b0 : decide (x4_1 < (a0.size : Int)) = false := decide_eq_false c2
    clear c2
    obtain rfl := Option.some.inj H
    go_wp2
    go_ret
    exact ⟨by first | rfl | (simp; done) | (simp [*]; done), by repeat (first | exact Drawn0.refl _ | apply Drawn0.step)⟩


mutual
def spec_lcRead.j0 : Nat → ByteArray → Int → Bool → Option (Int × Int × (List (S54)) × Int)
 | 0, _, _, _ => none
 | k + 1, x0, x1, x19 => if x19 = true then (some (0, 0, ([] : List (S54)), 0)) else (if 0 < (x0.size : Int) then (if (bt x0 0) = 92 then (if 1 ≤ (x0.size : Int) then ((spec_lcRead.f k (x0.extract 1 x0.size) (wrap64 (x1 + 1))).bind fun bt102 => (if bt102.2.2.2 = 0 then (some (bt102.1, bt102.2.1, bt102.2.2.1, 0)) else ((spec_lcLam.f bt102.1 bt102.2.1 bt102.2.2.1).bind fun bt109 => (some (bt109.1, bt109.2.1, bt109.2.2, wrap64 (bt102.2.2.2 + 1)))))) else (none)) else (if (bt x0 0) = 40 then (if 1 ≤ (x0.size : Int) then ((spec_lcRead.f k (x0.extract 1 x0.size) (wrap64 (x1 + 1))).bind fun bt114 => (if bt114.2.2.2 = 0 then (spec_lcRead.j1 k x0 x1 bt114.2.2.2 true bt114.1 bt114.2.1 bt114.2.2.1) else (if (wrap64 (bt114.2.2.2 + 1)) ≥ (x0.size : Int) then (spec_lcRead.j1 k x0 x1 bt114.2.2.2 true bt114.1 bt114.2.1 bt114.2.2.1) else (if 0 ≤ (wrap64 (bt114.2.2.2 + 1)) then (if (wrap64 (bt114.2.2.2 + 1)) < (x0.size : Int) then (spec_lcRead.j1 k x0 x1 bt114.2.2.2 ((bt x0 (wrap64 (bt114.2.2.2 + 1))) != 32) bt114.1 bt114.2.1 bt114.2.2.1) else (none)) else (none))))) else (none)) else (spec_lcRead.l0 k x0 0))) else (none))
def spec_lcRead.j1 : Nat → ByteArray → Int → Int → Bool → Int → Int → List (S54) → Option (Int × Int × (List (S54)) × Int)
 | 0, _, _, _, _, _, _, _ => none
 | k + 1, x0, x1, x9, x65, x121000, x121001, x121002 => if x65 = true then (some (0, 0, ([] : List (S54)), 0)) else (if 0 ≤ (wrap64 (x9 + 2)) then (if (wrap64 (x9 + 2)) ≤ (x0.size : Int) then ((spec_lcRead.f k (x0.extract ((wrap64 (x9 + 2)) : Int).toNat x0.size) (wrap64 (x1 + 1))).bind fun bt121 => (if bt121.2.2.2 = 0 then (some (0, 0, ([] : List (S54)), 0)) else (if (wrap64 ((wrap64 (x9 + 2)) + bt121.2.2.2)) ≥ (x0.size : Int) then (some (0, 0, ([] : List (S54)), 0)) else (if 0 ≤ (wrap64 ((wrap64 (x9 + 2)) + bt121.2.2.2)) then (if (wrap64 ((wrap64 (x9 + 2)) + bt121.2.2.2)) < (x0.size : Int) then (if (bt x0 (wrap64 ((wrap64 (x9 + 2)) + bt121.2.2.2))) = 41 then ((spec_lcApp.f x121000 x121001 x121002 bt121.1 bt121.2.1 bt121.2.2.1).bind fun bt128 => (some (bt128.1, bt128.2.1, bt128.2.2, wrap64 ((wrap64 ((wrap64 (x9 + 2)) + bt121.2.2.2)) + 1)))) else (some (0, 0, ([] : List (S54)), 0))) else (none)) else (none))))) else (none)) else (none))
def spec_lcRead.j3 : Nat → ByteArray → Int → Option (Int × Int × (List (S54)) × Int)
 | 0, _, _ => none
 | k + 1, x0, x13 => if x13 = 0 then (some (0, 0, ([] : List (S54)), 0)) else (if 0 ≤ x13 then (if x13 ≤ (x0.size : Int) then ((spec_laSmall.f k (x0.extract 0 (x13 : Int).toNat)).bind fun t133 => ((spec_lcVar.f t133).bind fun bt134 => (some (bt134.1, bt134.2.1, bt134.2.2, x13)))) else (none)) else (none))
def spec_lcRead.l0 : Nat → ByteArray → Int → Option (Int × Int × (List (S54)) × Int)
 | 0, _, _ => none
 | k + 1, x0, x13 => if x13 < (x0.size : Int) then (if x13 < 2 then (if 0 ≤ x13 then (if (bt x0 x13) ≥ 48 then (if (bt x0 x13) ≤ 57 then (spec_lcRead.l0 k x0 (wrap64 (x13 + 1))) else (spec_lcRead.j3 k x0 x13)) else (spec_lcRead.j3 k x0 x13)) else (none)) else (spec_lcRead.j3 k x0 x13)) else (spec_lcRead.j3 k x0 x13)
def spec_lcRead.f : Nat → ByteArray → Int → Option (Int × Int × (List (S54)) × Int)
 | 0, _, _ => none
 | k + 1, a0, a1 => if a1 > 40 then (spec_lcRead.j0 k a0 a1 true) else (spec_lcRead.j0 k a0 a1 (a0.toList == ([] : List UInt8)))
end
set_option maxHeartbeats 8000000 in
set_option maxRecDepth 100000 in
theorem spec_lcRead.calls (k : Nat) : ∀ (a0 : ByteArray) (a1 : Int) (r1 : Int) (r2 : Int) (r3 : List (S54)) (r4 : Int) (w : World) (h : spec_lcRead.f k a0 a1 = some (r1, r2, r3, r4)),
  Calls Try.prog 59 #[.string a0, .int .i64 a1] w fun e w' => ∃ v2_ : Value, e = .returned (.tuple #[.agg #[.int .i64 r1, .int .i64 r2, v2_], .int .i64 r4]) ∧ Kd.N k54 54 w' w.heap.size (fun k_ => (w.heap.size ≤ k_)) v2_ r3 ∧ Below w.heap.size w w' := by
 induction k using Nat.strongRecOn with
 | _ k ih =>
 intro a0 a1 r1 r2 r3 r4 w h
 cases k with
 | zero => exact absurd h (by simp [spec_lcRead.f])
 | succ k =>
 simp only [spec_lcRead.f] at h
 have hu54 := Try.underlying54
 have HB := aK (Below.refl w.heap.size w)
 have H : (if a1 > 40 then (spec_lcRead.j0 k a0 a1 true) else (spec_lcRead.j0 k a0 a1 (a0.toList == ([] : List UInt8)))) = some (r1, r2, r3, r4) := h
 clear h
 have HC3 := aK H
 clear H
 go_enter Try.func59, Try.ntmps59
 go_upto_region 1 with (first | ((with_reducible refine gate_dst (N := 4) rfl ?_); (try (refine gate_guard (by rfl) ?_; dsimp only)); refine bE (N := 4) (cs := #[.int .i64 0, .int .i64 0, .slice none 0 0]) (t := 54) ?_; intro gb101 hg w4 hbox hb; have GW101 := qw HB hg; have GE101 := qw HB hg; have BK101 := aK hbox; replace HB := qs HB hb; clear hb hbox hg))
 (try simp only [Act.put, List.setIfInBounds_toArray, List.set_cons_zero, List.set_cons_succ])
 go_cut [19] (fun v19 wc => ∃ (kq : Nat) (x19_2 : Bool), v19 = .bool x19_2 ∧ Aside0 (spec_lcRead.j0 kq a0 a1 x19_2 = some (r1, r2, r3, r4)) ∧ Aside0 (kq ≤ k) ∧ Aside0 (wc.heap[gb101]? = some (.cells #[.int .i64 0, .int .i64 0, (.slice none 0 0)] 54 (0, 0))) ∧ Aside0 (Below w.heap.size w wc))
 case first =>
  have H := HC3.out
  clear HC3
  by_cases c5 : a1 > 40
  ·rw [if_pos c5] at H
   have c5b0 : decide (40 < a1) = true := decide_eq_true c5
   clear c5
   (first | rw [c5b0] | (simp only [i64_w, i32_w]; rw [c5b0]) | skip)
   have H' := aK H
   clear H
   go_wp2
   go_meet
   case rel => exact ⟨_, (true), rS, H', ⟨by first | omega | exact Nat.le_refl _⟩, ⟨pB BK101⟩, ⟨pH HB⟩⟩
  ·rw [if_neg c5] at H
   have c5b0 : decide (40 < a1) = false := decide_eq_false c5
   clear c5
   (first | rw [c5b0] | (simp only [i64_w, i32_w]; rw [c5b0]) | skip)
   have H' := aK H
   clear H
   go_wp2
   go_meet
   case rel => exact ⟨_, ((a0.toList == ([] : List UInt8))), rS, H', ⟨by first | omega | exact Nat.le_refl _⟩, ⟨pB BK101⟩, ⟨pH HB⟩⟩
 case rest =>
  clear HC3
  try clear p2; try clear c5; try clear c5b0
  obtain ⟨kq, x19_2, rfl, HA, HJ2, BK101, HB⟩ := hcut
  cases kq with
  | zero => exact absurd HA.out (by simp [spec_lcRead.j0])
  | succ kj2 =>
   have H := HA.out
   clear HA
   simp only [spec_lcRead.j0] at H
   by_cases c6 : x19_2 = true
   ·subst c6
    rw [if_pos rfl] at H
    simp only [Option.some.injEq, Prod.mk.injEq] at H
    obtain ⟨rfl, rfl, rfl, rfl⟩ := H
    obtain ⟨hcz7_0, hcz7_1, hcz7_2, hfz7_0, hfz7_1, hfz7_2⟩ := cA3 BK101
    go_wp2
    refine bodyPost_ret (results_ct rfl _ _ gb101 54 #[.int .i64 0, .int .i64 0, .slice none 0 0] (0, 0) _ rfl (p3 BK101) Try.underlying54 rfl (by kernel_rfl)) rfl ?_
    exact ⟨_, eW, by first | exact Kd.R_nil _ _ _ _ _ | exact Kd.N_nil _ _ _ _ _ | exact Kd.V_nil _ _ _ _ _ | exact Kd.Q_nil _ _ _ _ _ | exact Kd.S_nil _ _ _ _ _, pH HB⟩
   ·replace c6 := Bool.eq_false_iff.mpr c6
    subst c6
    rw [if_neg (show ¬ (false = true) by decide)] at H
    by_cases c8 : 0 < (a0.size : Int)
    ·rw [if_pos c8] at H
     have c8b0 : decide (0 < (a0.size : Int)) = true := decide_eq_true c8
     have c8b1 : decide (0 < a0.size) = true := decide_eq_true (by omega)
     clear c8
     by_cases c10 : (bt a0 0) = 92
     ·rw [if_pos c10] at H
      have c10b0 : ((bt a0 0) == 92) = true := beq_iff_eq.mpr c10
      have c10b1 : ((bt a0 0) != 92) = false := bne_eq_false_iff_eq.mpr c10
      clear c10
      by_cases c11 : 1 ≤ (a0.size : Int)
      ·rw [if_pos c11] at H
       have c11b0 := eq_true c11
       have c11b1 : decide (1 ≤ (a0.size : Int)) = true := decide_eq_true c11
       clear c11
       replace H := Option.bind_eq_some_iff.mp H
       obtain ⟨⟨t102, t103, t104, t107⟩, A120, H⟩ := H
       try dsimp only at H
       have A12 := aK A120
       clear A120
       by_cases c13 : t107 = 0
       ·rw [if_pos c13] at H
        have c13b0 : (t107 == 0) = true := beq_iff_eq.mpr c13
        have c13b1 : (t107 != 0) = false := bne_eq_false_iff_eq.mpr c13
        clear c13
        simp only [Option.some.injEq, Prod.mk.injEq] at H
        obtain ⟨rfl, rfl, rfl, rfl⟩ := H
        have p9 : 0 ≤ (0 : Int) := (by omega)
        have q9 : 0 < a0.size := (by have : (0 : Int) < (a0.size : Int) := dA; omega)
        have hx9 : ∀ h : 0 < a0.size, ((a0[0]'h).toNat : Int) = bt a0 0 := bt_at a0 0
        clear p9
        have qi9 : (0 < (a0.size : Int)) = True := eq_true (dA)
        replace q9 := eq_true q9
        go_wp2_with (first | ((with_reducible refine gate_callee (f := 59) rfl ?_); refine goesL_ (some 29) rfl rfl Try.func59 (by kernel_rfl) rfl #[.string (a0.extract 1 a0.size), .int .i64 (wrap64 (a1 + 1))] rfl tA ?_; (with_reducible refine (ih kj2 (by have := HJ2.out; omega) (a0.extract 1 a0.size) (wrap64 (a1 + 1)) t102 t103 t104 t107 _ A12.out).mono ?_); rintro e w14 ⟨v105, rfl, ho0, hb⟩; refine ⟨_, rfl, ?_⟩; have HO106 := aK (Kd.N_lower (Kd.N_mono (ok' := fun k_ => (w.heap.size ≤ k_) ∧ k_ ≠ gb101) ho0 (fun k_ hk_ => ⟨(Nat.le_trans (below_size HB.out) hk_), (Kd.freshB BK101.out k_ hk_)⟩)) (below_size HB.out)); replace BK101 := qb BK101 hb; replace HB := qs HB hb; (try clear hb); (try clear ho0)) | ((with_reducible refine gate_dst (N := 6) rfl ?_); (try (refine gate_guard (by rfl) ?_; dsimp only)); refine bE (N := 6) (cs := #[.int .i64 0, .int .i64 0, .slice none 0 0]) (t := 54) ?_; intro gb108 hg w15 hbox hb; have GW108 := qw HB hg; have GE108 := qw HB hg; have NB101_108 := ql BK101 hg; have NB108_101 := qg BK101 hg; replace HO106 := qn HO106 hg hb; replace BK101 := qb BK101 hb; have BK108 := aK hbox; replace HB := qs HB hb; clear hb hbox hg; have hnb16 := NB108_101.out; have hnc16 := NB101_108.out; obtain ⟨hcz17_0, hcz17_1, hcz17_2, hfz17_0, hfz17_1, hfz17_2⟩ := cA3 BK108; obtain ⟨Ao18, co18, eo18⟩ := Kd.N_slice HO106.out; subst eo18; obtain ⟨hcz19_0, hcz19_1, hcz19_2, hfz19_0, hfz19_1, hfz19_2⟩ := cA3 BK101))
        refine bodyPost_ret (results_ct rfl _ _ gb101 54 #[.int .i64 t102, .int .i64 t103, .slice Ao18 t104.length co18] (0, 0) _ rfl (by (with_reducible repeat first | apply zN | apply zD | apply zA); refine blk_put (cs := #[.int .i64 t102, .int .i64 t103, .slice none 0 0]) ?_ 2 _ rfl; (with_reducible repeat first | apply zN | apply zD | apply zA); refine blk_put (cs := #[.int .i64 t102, .int .i64 0, .slice none 0 0]) ?_ 1 _ rfl; (with_reducible repeat first | apply zN | apply zD | apply zA); refine blk_put (cs := #[.int .i64 0, .int .i64 0, .slice none 0 0]) ?_ 0 _ rfl; (repeat first | with_reducible apply zN | with_reducible apply zD | with_reducible apply zA | refine blk_far ?_ NB101_108.out _); exact BK101.out) Try.underlying54 rfl (by kernel_rfl)) rfl ?_
        exact ⟨_, eW, by (with_reducible repeat (first | apply Kd.N_alloc | apply Kd.N_drewN | apply Kd.N_drew)); exact Kd.N_mono (nF3 gb101 (nF3 gb108 (Kd.N_mono (Kd.N_mono HO106.out (fun k_ hk => (⟨hk, hk.2⟩ : _ ∧ k_ ≠ gb108))) (fun k_ hk => (⟨hk, hk.1.1.2⟩ : _ ∧ k_ ≠ gb101))) (fun _ hk => hk.1.2)) (fun _ hk => hk.2)) (fun _ hk => hk.1.1.1.1), pH HB⟩
       ·rw [if_neg c13] at H
        have c13b0 : (t107 == 0) = false := beq_eq_false_iff_ne.mpr c13
        have c13b1 : (t107 != 0) = true := bne_iff_ne.mpr c13
        replace H := Option.bind_eq_some_iff.mp H
        obtain ⟨⟨t109, t110, t111⟩, A200, H⟩ := H
        try dsimp only at H
        have A20 := aK A200
        clear A200
        simp only [Option.some.injEq, Prod.mk.injEq] at H
        obtain ⟨rfl, rfl, rfl, rfl⟩ := H
        have p9 : 0 ≤ (0 : Int) := (by omega)
        have q9 : 0 < a0.size := (by have : (0 : Int) < (a0.size : Int) := dA; omega)
        have hx9 : ∀ h : 0 < a0.size, ((a0[0]'h).toNat : Int) = bt a0 0 := bt_at a0 0
        clear p9
        have qi9 : (0 < (a0.size : Int)) = True := eq_true (dA)
        replace q9 := eq_true q9
        go_wp2_with (first | ((with_reducible refine gate_callee (f := 59) rfl ?_); refine goesL_ (some 29) rfl rfl Try.func59 (by kernel_rfl) rfl #[.string (a0.extract 1 a0.size), .int .i64 (wrap64 (a1 + 1))] rfl tA ?_; (with_reducible refine (ih kj2 (by have := HJ2.out; omega) (a0.extract 1 a0.size) (wrap64 (a1 + 1)) t102 t103 t104 t107 _ A12.out).mono ?_); rintro e w21 ⟨v105, rfl, ho0, hb⟩; refine ⟨_, rfl, ?_⟩; have HO106 := aK (Kd.N_lower (Kd.N_mono (ok' := fun k_ => (w.heap.size ≤ k_) ∧ k_ ≠ gb101) ho0 (fun k_ hk_ => ⟨(Nat.le_trans (below_size HB.out) hk_), (Kd.freshB BK101.out k_ hk_)⟩)) (below_size HB.out)); replace BK101 := qb BK101 hb; replace HB := qs HB hb; (try clear hb); (try clear ho0)) | ((with_reducible refine gate_dst (N := 6) rfl ?_); (try (refine gate_guard (by rfl) ?_; dsimp only)); refine bE (N := 6) (cs := #[.int .i64 0, .int .i64 0, .slice none 0 0]) (t := 54) ?_; intro gb108 hg w22 hbox hb; have GW108 := qw HB hg; have GE108 := qw HB hg; have NB101_108 := ql BK101 hg; have NB108_101 := qg BK101 hg; replace HO106 := qn HO106 hg hb; replace BK101 := qb BK101 hb; have BK108 := aK hbox; replace HB := qs HB hb; clear hb hbox hg; have hnb23 := NB108_101.out; have hnc23 := NB101_108.out; obtain ⟨hcz24_0, hcz24_1, hcz24_2, hfz24_0, hfz24_1, hfz24_2⟩ := cA3 BK108; obtain ⟨Ao25, co25, eo25⟩ := Kd.N_slice HO106.out; subst eo25) | ((with_reducible refine gate_store (t := 54) (p := 6) rfl ?_); refine store_event (t := 54) (p := 6) (v := ?vo_w26) (w1 := (((w22.setCell ⟨gb108, 0, none⟩ (.int .i64 t102)).setCell ⟨gb108, 1, none⟩ (.int .i64 t103)).setCell ⟨gb108, 2, none⟩ (.slice Ao25 t104.length co25))) ?hg ?ho ?hn ?hr ?_; (case ho => rfl); (case hg => rfl); (case hn => rfl); (case hr => first | (go_simp; done) | (go_simp; rfl)); intro w26 hw; have n0_ : Aside0 (Kd.N k54 54 w26 w.heap.size (fun k_ => (w.heap.size ≤ k_) ∧ k_ ≠ gb101 ∧ k_ ≠ gb108) (.slice Ao25 t104.length co25) t104) := ⟨(by rw [hw]; exact (by (with_reducible repeat (first | apply Kd.N_alloc | apply Kd.N_drewN | apply Kd.N_drew)); exact Kd.N_mono (nF3 gb108 (Kd.N_mono HO106.out (fun k_ hk => (⟨hk, hk.2⟩ : _ ∧ k_ ≠ gb108))) (fun _ hk => hk.2)) (fun _ hk => ⟨hk.1.1.1, ⟨hk.1.1.2, hk.1.2⟩⟩)))⟩; have n1_ : Aside0 (w26.heap[gb101]? = some (.cells #[.int .i64 0, .int .i64 0, .slice none 0 0] 54 (0, 0))) := ⟨(by rw [hw]; exact (by (repeat first | with_reducible apply zN | with_reducible apply zD | with_reducible apply zA | refine blk_far ?_ NB101_108.out _); exact BK101.out))⟩; have n2_ : Aside0 (w26.heap[gb108]? = some (.cells #[.int .i64 t102, .int .i64 t103, .slice Ao25 t104.length co25] 54 (0, 0))) := ⟨(by rw [hw]; exact (p3 BK108))⟩; have n3_ : Aside0 (Below w.heap.size w w26) := ⟨(by rw [hw]; exact (pH HB))⟩; clear hw; clear HO106; clear BK101; clear BK108; clear HB; have HO106 := n0_; have BK101 := n1_; have BK108 := n2_; have HB := n3_; clear n0_ n1_ n2_ n3_; obtain ⟨hcz27_0, hcz27_1, hcz27_2, hfz27_0, hfz27_1, hfz27_2⟩ := cA3 BK108) | ((with_reducible refine gate_callee (f := 56) rfl ?_); refine goesL_ (some 36) rfl rfl Try.func56 (by kernel_rfl) rfl #[.agg #[.int .i64 t102, .int .i64 t103, .slice Ao25 t104.length co25]] rfl tA ?_; (with_reducible refine (spec_lcLam.calls t102 t103 (fun k_ => ((w.heap.size ≤ k_) ∧ (k_ ≠ gb101 ∧ k_ ≠ gb108))) _ _ t104 t109 t110 t111 _ ?side1 A20.out).mono ?_); (case side1 => exact Kd.N_V (HO106.out)); rintro e w28 ⟨v112, rfl, ho0, hb⟩; refine ⟨_, rfl, ?_⟩; have n0_ := aK (Kd.N_elder' HO106.out (Kd.N_base ho0) hb); have HO113 := aK (Kd.N_lower (Kd.N_mono (ok' := fun k_ => (w.heap.size ≤ k_) ∧ k_ ≠ gb101 ∧ k_ ≠ gb108) ho0 (fun k_ hk_ => ⟨Or.elim hk_ (fun hs_ => hs_.1) (fun hn_ => (Nat.le_trans (below_size HB.out) hn_)), Or.elim hk_ (fun hs_ => hs_.2.1) (fun hn_ => (Kd.freshB BK101.out k_ hn_)), Or.elim hk_ (fun hs_ => hs_.2.2) (fun hn_ => (Kd.freshB BK108.out k_ hn_))⟩)) (below_size HB.out)); replace BK101 := qb BK101 hb; replace BK108 := qb BK108 hb; clear HO106; have HO106 := n0_; clear n0_; replace HB := qs HB hb; (try clear hb); (try clear ho0); obtain ⟨hcz29_0, hcz29_1, hcz29_2, hfz29_0, hfz29_1, hfz29_2⟩ := cA3 BK101; obtain ⟨Ao30, co30, eo30⟩ := Kd.N_slice HO113.out; subst eo30))
        refine bodyPost_ret (results_ct rfl _ _ gb101 54 #[.int .i64 t109, .int .i64 t110, .slice Ao30 t111.length co30] (0, 0) _ rfl (p3 BK101) Try.underlying54 rfl (by kernel_rfl)) rfl ?_
        exact ⟨_, eW, by (with_reducible repeat (first | apply Kd.N_alloc | apply Kd.N_drewN | apply Kd.N_drew)); exact Kd.N_mono (nF3 gb101 (Kd.N_mono HO113.out (fun k_ hk => (⟨hk, hk.2.1⟩ : _ ∧ k_ ≠ gb101))) (fun _ hk => hk.2)) (fun _ hk => hk.1.1), pH HB⟩
      ·rw [if_neg c11] at H
       exact absurd H (by simp)
     ·rw [if_neg c10] at H
      have c10b0 : ((bt a0 0) == 92) = false := beq_eq_false_iff_ne.mpr c10
      have c10b1 : ((bt a0 0) != 92) = true := bne_iff_ne.mpr c10
      by_cases c32 : (bt a0 0) = 40
      ·rw [if_pos c32] at H
       have c32b0 : ((bt a0 0) == 40) = true := beq_iff_eq.mpr c32
       have c32b1 : ((bt a0 0) != 40) = false := bne_eq_false_iff_eq.mpr c32
       clear c32
       by_cases c33 : 1 ≤ (a0.size : Int)
       ·rw [if_pos c33] at H
        have c33b0 := eq_true c33
        have c33b1 : decide (1 ≤ (a0.size : Int)) = true := decide_eq_true c33
        clear c33
        replace H := Option.bind_eq_some_iff.mp H
        obtain ⟨⟨t114, t115, t116, t119⟩, A340, H⟩ := H
        try dsimp only at H
        have A34 := aK A340
        clear A340
        have HC35 := aK H
        clear H
        have p9 : 0 ≤ (0 : Int) := (by omega)
        have q9 : 0 < a0.size := (by have : (0 : Int) < (a0.size : Int) := dA; omega)
        have hx9 : ∀ h : 0 < a0.size, ((a0[0]'h).toNat : Int) = bt a0 0 := bt_at a0 0
        clear p9
        have qi9 : (0 < (a0.size : Int)) = True := eq_true (dA)
        replace q9 := eq_true q9
        have p31 : 0 ≤ (0 : Int) := (by omega)
        have q31 : 0 < a0.size := (by have : (0 : Int) < (a0.size : Int) := dA; omega)
        have hx31 : ∀ h : 0 < a0.size, ((a0[0]'h).toNat : Int) = bt a0 0 := bt_at a0 0
        clear p31
        have qi31 : (0 < (a0.size : Int)) = True := eq_true (dA)
        replace q31 := eq_true q31
        go_upto_region 10 with (first | ((with_reducible refine gate_callee (f := 59) rfl ?_); refine goesL_ (some 47) rfl rfl Try.func59 (by kernel_rfl) rfl #[.string (a0.extract 1 a0.size), .int .i64 (wrap64 (a1 + 1))] rfl tA ?_; (with_reducible refine (ih kj2 (by have := HJ2.out; omega) (a0.extract 1 a0.size) (wrap64 (a1 + 1)) t114 t115 t116 t119 _ A34.out).mono ?_); rintro e w36 ⟨v117, rfl, ho0, hb⟩; refine ⟨_, rfl, ?_⟩; have HO118 := aK (Kd.N_lower (Kd.N_mono (ok' := fun k_ => (w.heap.size ≤ k_) ∧ k_ ≠ gb101) ho0 (fun k_ hk_ => ⟨(Nat.le_trans (below_size HB.out) hk_), (Kd.freshB BK101.out k_ hk_)⟩)) (below_size HB.out)); replace BK101 := qb BK101 hb; replace HB := qs HB hb; (try clear hb); (try clear ho0)) | ((with_reducible refine gate_dst (N := 8) rfl ?_); (try (refine gate_guard (by rfl) ?_; dsimp only)); refine bE (N := 8) (cs := #[.int .i64 0, .int .i64 0, .slice none 0 0]) (t := 54) ?_; intro gb120 hg w37 hbox hb; have GW120 := qw HB hg; have GE120 := qw HB hg; have NB101_120 := ql BK101 hg; have NB120_101 := qg BK101 hg; replace HO118 := qn HO118 hg hb; replace BK101 := qb BK101 hb; have BK120 := aK hbox; replace HB := qs HB hb; clear hb hbox hg; have hnb38 := NB120_101.out; have hnc38 := NB101_120.out; obtain ⟨hcz39_0, hcz39_1, hcz39_2, hfz39_0, hfz39_1, hfz39_2⟩ := cA3 BK120; obtain ⟨Ao40, co40, eo40⟩ := Kd.N_slice HO118.out; subst eo40))
        (try simp only [Act.put, List.setIfInBounds_toArray, List.set_cons_zero, List.set_cons_succ])
        go_cut [65] (fun v65 wc => ∃ (kq : Nat) (x65_34 : Bool), v65 = .bool x65_34 ∧ Aside0 (spec_lcRead.j1 kq a0 a1 t119 x65_34 t114 t115 t116 = some (r1, r2, r3, r4)) ∧ Aside0 (kq ≤ kj2) ∧ Aside0 (Kd.N k54 54 wc w.heap.size (fun k_ => (w.heap.size ≤ k_) ∧ k_ ≠ gb101 ∧ k_ ≠ gb120) (.slice Ao40 t116.length co40) t116) ∧ Aside0 (wc.heap[gb101]? = some (.cells #[.int .i64 0, .int .i64 0, (.slice none 0 0)] 54 (0, 0))) ∧ Aside0 (wc.heap[gb120]? = some (.cells #[.int .i64 t114, .int .i64 t115, (.slice Ao40 t116.length co40)] 54 (0, 0))) ∧ Aside0 (Below w.heap.size w wc))
        case first =>
         have H := HC35.out
         clear HC35
         by_cases c41 : t119 = 0
         ·rw [if_pos c41] at H
          have c41b0 : (t119 == 0) = true := beq_iff_eq.mpr c41
          have c41b1 : (t119 != 0) = false := bne_eq_false_iff_eq.mpr c41
          clear c41
          (first | rw [c41b0] | (simp only [i64_w, i32_w]; rw [c41b0]) | skip)
          have H' := aK H
          clear H
          go_wp2
          go_meet
          case rel => exact ⟨_, (true), rS, H', ⟨by have := HJ2.out; first | omega | exact Nat.le_refl _⟩, ⟨by (with_reducible repeat (first | apply Kd.N_alloc | apply Kd.N_drewN | apply Kd.N_drew)); exact Kd.N_mono (nF3 gb120 (Kd.N_mono HO118.out (fun k_ hk => (⟨hk, hk.2⟩ : _ ∧ k_ ≠ gb120))) (fun _ hk => hk.2)) (fun _ hk => ⟨hk.1.1.1, ⟨hk.1.1.2, hk.1.2⟩⟩)⟩, ⟨by (repeat first | with_reducible apply zN | with_reducible apply zD | with_reducible apply zA | refine blk_far ?_ NB101_120.out _); exact BK101.out⟩, ⟨p3 BK120⟩, ⟨pH HB⟩⟩
         ·rw [if_neg c41] at H
          have c41b0 : (t119 == 0) = false := beq_eq_false_iff_ne.mpr c41
          have c41b1 : (t119 != 0) = true := bne_iff_ne.mpr c41
          (first | rw [c41b0] | (simp only [i64_w, i32_w]; rw [c41b0]) | skip)
          by_cases c42 : (wrap64 (t119 + 1)) ≥ (a0.size : Int)
          ·rw [if_pos c42] at H
           have c42b0 : decide ((a0.size : Int) ≤ (wrap64 (t119 + 1))) = true := decide_eq_true c42
           clear c42
           have H' := aK H
           clear H
           go_wp2
           go_meet
           case rel => exact ⟨_, (true), rS, H', ⟨by have := HJ2.out; first | omega | exact Nat.le_refl _⟩, ⟨by (with_reducible repeat (first | apply Kd.N_alloc | apply Kd.N_drewN | apply Kd.N_drew)); exact Kd.N_mono (nF3 gb120 (Kd.N_mono HO118.out (fun k_ hk => (⟨hk, hk.2⟩ : _ ∧ k_ ≠ gb120))) (fun _ hk => hk.2)) (fun _ hk => ⟨hk.1.1.1, ⟨hk.1.1.2, hk.1.2⟩⟩)⟩, ⟨by (repeat first | with_reducible apply zN | with_reducible apply zD | with_reducible apply zA | refine blk_far ?_ NB101_120.out _); exact BK101.out⟩, ⟨p3 BK120⟩, ⟨pH HB⟩⟩
          ·rw [if_neg c42] at H
           have c42b0 : decide ((a0.size : Int) ≤ (wrap64 (t119 + 1))) = false := decide_eq_false c42
           clear c42
           obtain ⟨ji43, hji43⟩ : ∃ j_ : Int, (wrap64 (t119 + 1)) = j_ := ⟨_, rfl⟩
           replace H : (if 0 ≤ (ji43) then (if (ji43) < (a0.size : Int) then (spec_lcRead.j1 kj2 a0 a1 t119 ((bt a0 (ji43)) != 32) t114 t115 t116) else (none)) else (none)) = some (r1, r2, r3, r4) := by first | (rw [hji43] at H; exact H) | (simp only [hji43] at H ⊢; exact H)
           (try rw [hji43] at c42b0)
           have hji43w : (IntKind.i64.wrap (t119 + 1)) = ji43 := (i64_w _).trans hji43
           by_cases c44 : 0 ≤ (ji43)
           ·rw [if_pos c44] at H
            have c44b0 : decide (0 ≤ (ji43)) = true := decide_eq_true c44
            clear c44
            by_cases c45 : (ji43) < (a0.size : Int)
            ·rw [if_pos c45] at H
             have c45b0 : decide ((ji43) < (a0.size : Int)) = true := decide_eq_true c45
             clear c45
             have H' := aK H
             clear H
             have p46 : 0 ≤ ((ji43) : Int) := dA
             have q46 : (ji43) < (a0.size : Int) := dA
             have hx46 := bt_at a0 (ji43)
             replace p46 := eq_true p46
             replace q46 := eq_true q46
             go_wp2
             go_meet
             case rel => exact ⟨_, (((bt a0 (ji43)) != 32)), (by first | rfl | (simp; done) | (simp only [← hji43] <;> (first | rfl | simp)) | (simp [*]; done)), H', ⟨by have := HJ2.out; first | omega | exact Nat.le_refl _⟩, ⟨by (with_reducible repeat (first | apply Kd.N_alloc | apply Kd.N_drewN | apply Kd.N_drew)); exact Kd.N_mono (nF3 gb120 (Kd.N_mono HO118.out (fun k_ hk => (⟨hk, hk.2⟩ : _ ∧ k_ ≠ gb120))) (fun _ hk => hk.2)) (fun _ hk => ⟨hk.1.1.1, ⟨hk.1.1.2, hk.1.2⟩⟩)⟩, ⟨by (repeat first | with_reducible apply zN | with_reducible apply zD | with_reducible apply zA | refine blk_far ?_ NB101_120.out _); exact BK101.out⟩, ⟨p3 BK120⟩, ⟨pH HB⟩⟩
            ·rw [if_neg c45] at H
             exact absurd H (by simp)
           ·rw [if_neg c44] at H
            exact absurd H (by simp)
        case rest =>
         clear HC35
         try clear c1; try clear c2; try clear p2; try clear c3; try clear p3; try clear q3; try clear hx3; try clear qi3; try clear c4; try clear p4; try clear q4; try clear hx4; try clear c5; try clear c5b0; try clear c6; try clear p6; try clear c8; try clear c8b0; try clear c8b1; try clear p9; try clear q9; try clear hx9; try clear qi9; try clear c10; try clear c10b0; try clear c10b1; try clear c11; try clear c11b0; try clear c11b1; try clear c13; try clear c13b0; try clear c13b1; try clear c16; try clear c23; try clear p31; try clear q31; try clear hx31; try clear qi31; try clear c32; try clear c32b0; try clear c32b1; try clear c33; try clear c33b0; try clear c33b1; try clear c38; try clear c41; try clear c41b0; try clear c41b1; try clear c42; try clear c42b0; try clear c44; try clear c44b0; try clear c45; try clear c45b0; try clear p46; try clear q46; try clear hx46; try clear p2; try clear p31; try clear p46; try clear p9; try clear q31; try clear q46; try clear q9; try clear hcz17_0 hcz17_1 hcz17_2 hfz17_0 hfz17_1 hfz17_2; try clear hcz19_0 hcz19_1 hcz19_2 hfz19_0 hfz19_1 hfz19_2; try clear hcz24_0 hcz24_1 hcz24_2 hfz24_0 hfz24_1 hfz24_2; try clear hcz27_0 hcz27_1 hcz27_2 hfz27_0 hfz27_1 hfz27_2; try clear hcz29_0 hcz29_1 hcz29_2 hfz29_0 hfz29_1 hfz29_2; try clear hcz39_0 hcz39_1 hcz39_2 hfz39_0 hfz39_1 hfz39_2; try clear hcz7_0 hcz7_1 hcz7_2 hfz7_0 hfz7_1 hfz7_2
         obtain ⟨kq, x65_34, rfl, HA, HJ34, HO_121002, BK101, BK120, HB⟩ := hcut
         cases kq with
         | zero => exact absurd HA.out (by simp [spec_lcRead.j1])
         | succ kj34 =>
          have H := HA.out
          clear HA
          simp only [spec_lcRead.j1] at H
          by_cases c47 : x65_34 = true
          ·subst c47
           rw [if_pos rfl] at H
           simp only [Option.some.injEq, Prod.mk.injEq] at H
           obtain ⟨rfl, rfl, rfl, rfl⟩ := H
           have hnb48 := NB101_120.out
           have hnc48 := NB120_101.out
           obtain ⟨hcz49_0, hcz49_1, hcz49_2, hfz49_0, hfz49_1, hfz49_2⟩ := cA3 BK101
           go_wp2
           refine bodyPost_ret (results_ct rfl _ _ gb101 54 #[.int .i64 0, .int .i64 0, .slice none 0 0] (0, 0) _ rfl (p3 BK101) Try.underlying54 rfl (by kernel_rfl)) rfl ?_
           exact ⟨_, eW, by first | exact Kd.R_nil _ _ _ _ _ | exact Kd.N_nil _ _ _ _ _ | exact Kd.V_nil _ _ _ _ _ | exact Kd.Q_nil _ _ _ _ _ | exact Kd.S_nil _ _ _ _ _, pH HB⟩
          ·replace c47 := Bool.eq_false_iff.mpr c47
           subst c47
           rw [if_neg (show ¬ (false = true) by decide)] at H
           obtain ⟨ji50, hji50⟩ : ∃ j_ : Int, (wrap64 (t119 + 2)) = j_ := ⟨_, rfl⟩
           replace H : (if 0 ≤ (ji50) then (if (ji50) ≤ (a0.size : Int) then ((spec_lcRead.f kj34 (a0.extract ((ji50) : Int).toNat a0.size) (wrap64 (a1 + 1))).bind fun bt121 => (if bt121.2.2.2 = 0 then (some (0, 0, ([] : List (S54)), 0)) else (if (wrap64 ((ji50) + bt121.2.2.2)) ≥ (a0.size : Int) then (some (0, 0, ([] : List (S54)), 0)) else (if 0 ≤ (wrap64 ((ji50) + bt121.2.2.2)) then (if (wrap64 ((ji50) + bt121.2.2.2)) < (a0.size : Int) then (if (bt a0 (wrap64 ((ji50) + bt121.2.2.2))) = 41 then ((spec_lcApp.f t114 t115 t116 bt121.1 bt121.2.1 bt121.2.2.1).bind fun bt128 => (some (bt128.1, bt128.2.1, bt128.2.2, wrap64 ((wrap64 ((ji50) + bt121.2.2.2)) + 1)))) else (some (0, 0, ([] : List (S54)), 0))) else (none)) else (none))))) else (none)) else (none)) = some (r1, r2, r3, r4) := by first | (rw [hji50] at H; exact H) | (simp only [hji50] at H ⊢; exact H)
           have hji50w : (IntKind.i64.wrap (t119 + 2)) = ji50 := (i64_w _).trans hji50
           by_cases c51 : 0 ≤ (ji50)
           ·rw [if_pos c51] at H
            have c51b0 := eq_true c51
            have c51b1 : decide (0 ≤ (ji50)) = true := decide_eq_true c51
            clear c51
            by_cases c52 : (ji50) ≤ (a0.size : Int)
            ·rw [if_pos c52] at H
             have c52b0 := eq_true c52
             have c52b1 : decide ((ji50) ≤ (a0.size : Int)) = true := decide_eq_true c52
             clear c52
             replace H := Option.bind_eq_some_iff.mp H
             obtain ⟨⟨t121, t122, t123, t126⟩, A530, H⟩ := H
             try dsimp only at H
             have A53 := aK A530
             clear A530
             by_cases c54 : t126 = 0
             ·rw [if_pos c54] at H
              have c54b0 : (t126 == 0) = true := beq_iff_eq.mpr c54
              have c54b1 : (t126 != 0) = false := bne_eq_false_iff_eq.mpr c54
              clear c54
              simp only [Option.some.injEq, Prod.mk.injEq] at H
              obtain ⟨rfl, rfl, rfl, rfl⟩ := H
              go_wp2_with (first | ((with_reducible refine gate_callee (f := 59) rfl ?_); refine goesL_ (some 74) rfl rfl Try.func59 (by kernel_rfl) rfl #[.string (a0.extract ((ji50) : Int).toNat a0.size), .int .i64 (wrap64 (a1 + 1))] rfl (by (try simp only [List.map_toArray, List.map_cons, List.map_nil]); first | done | (simp only [hji50]; rfl) | rfl | (simp only [List.length_drop, List.length_take]; rfl)) ?_; (with_reducible refine (ih kj34 (by have := HJ2.out; have := HJ34.out; omega) (a0.extract ((ji50) : Int).toNat a0.size) (wrap64 (a1 + 1)) t121 t122 t123 t126 _ A53.out).mono ?_); rintro e w55 ⟨v124, rfl, ho0, hb⟩; refine ⟨_, rfl, ?_⟩; have n0_ := aK (Kd.N_elder' HO_121002.out (Kd.N_base ho0) hb); have HO125 := aK (Kd.N_lower (Kd.N_mono (ok' := fun k_ => (w.heap.size ≤ k_) ∧ some k_ ≠ (.slice Ao40 t116.length co40 : Value).ownBlock ∧ k_ ≠ gb101 ∧ k_ ≠ gb120) ho0 (fun k_ hk_ => ⟨(Nat.le_trans (below_size HB.out) hk_), (Kd.fresh' (Kd.N_lt HO_121002.out) k_ hk_), (Kd.freshB BK101.out k_ hk_), (Kd.freshB BK120.out k_ hk_)⟩)) (below_size HB.out)); replace BK101 := qb BK101 hb; replace BK120 := qb BK120 hb; clear HO_121002; have HO_121002 := n0_; clear n0_; replace HB := qs HB hb; (try clear hb); (try clear ho0)) | ((with_reducible refine gate_dst (N := 10) rfl ?_); (try (refine gate_guard (by rfl) ?_; dsimp only)); refine bE (N := 10) (cs := #[.int .i64 0, .int .i64 0, .slice none 0 0]) (t := 54) ?_; intro gb127 hg w56 hbox hb; have GW127 := qw HB hg; have GE127 := qw HB hg; have NB101_127 := ql BK101 hg; have NB127_101 := qg BK101 hg; have NB120_127 := ql BK120 hg; have NB127_120 := qg BK120 hg; replace HO_121002 := qn HO_121002 hg hb; replace HO125 := qn HO125 hg hb; replace BK101 := qb BK101 hb; replace BK120 := qb BK120 hb; have BK127 := aK hbox; replace HB := qs HB hb; clear hb hbox hg; have hnb57 := NB127_101.out; have hnc57 := NB101_127.out; have hnb58 := NB127_120.out; have hnc58 := NB120_127.out; obtain ⟨hcz59_0, hcz59_1, hcz59_2, hfz59_0, hfz59_1, hfz59_2⟩ := cA3 BK127; obtain ⟨Ao60, co60, eo60⟩ := Kd.N_slice HO125.out; subst eo60; have hnb61 := NB101_120.out; have hnc61 := NB120_101.out; obtain ⟨hcz62_0, hcz62_1, hcz62_2, hfz62_0, hfz62_1, hfz62_2⟩ := cA3 BK101))
              refine bodyPost_ret (results_ct rfl _ _ gb101 54 #[.int .i64 0, .int .i64 0, .slice none 0 0] (0, 0) _ rfl (by (with_reducible repeat first | apply zN | apply zD | apply zA); refine blk_put (cs := #[.int .i64 0, .int .i64 0, .slice none 0 0]) ?_ 2 _ rfl; (with_reducible repeat first | apply zN | apply zD | apply zA); refine blk_put (cs := #[.int .i64 0, .int .i64 0, .slice none 0 0]) ?_ 1 _ rfl; (with_reducible repeat first | apply zN | apply zD | apply zA); refine blk_put (cs := #[.int .i64 0, .int .i64 0, .slice none 0 0]) ?_ 0 _ rfl; (repeat first | with_reducible apply zN | with_reducible apply zD | with_reducible apply zA | refine blk_far ?_ NB101_127.out _); exact BK101.out) Try.underlying54 rfl (by kernel_rfl)) rfl ?_
              exact ⟨_, by first | rfl | (simp [errW_none, errW_some] <;> rfl) | (simp only [← hji50]; first | rfl | (simp [errW_none, errW_some] <;> rfl)) | (simp [*, errW_none, errW_some] <;> rfl), by first | exact Kd.R_nil _ _ _ _ _ | exact Kd.N_nil _ _ _ _ _ | exact Kd.V_nil _ _ _ _ _ | exact Kd.Q_nil _ _ _ _ _ | exact Kd.S_nil _ _ _ _ _, pH HB⟩
             ·rw [if_neg c54] at H
              have c54b0 : (t126 == 0) = false := beq_eq_false_iff_ne.mpr c54
              have c54b1 : (t126 != 0) = true := bne_iff_ne.mpr c54
              by_cases c63 : (wrap64 ((ji50) + t126)) ≥ (a0.size : Int)
              ·rw [if_pos c63] at H
               have c63b0 : decide ((a0.size : Int) ≤ (wrap64 ((ji50) + t126))) = true := decide_eq_true c63
               clear c63
               simp only [Option.some.injEq, Prod.mk.injEq] at H
               obtain ⟨rfl, rfl, rfl, rfl⟩ := H
               go_wp2_with (first | ((with_reducible refine gate_callee (f := 59) rfl ?_); refine goesL_ (some 74) rfl rfl Try.func59 (by kernel_rfl) rfl #[.string (a0.extract ((ji50) : Int).toNat a0.size), .int .i64 (wrap64 (a1 + 1))] rfl (by (try simp only [List.map_toArray, List.map_cons, List.map_nil]); first | done | (simp only [hji50]; rfl) | rfl | (simp only [List.length_drop, List.length_take]; rfl)) ?_; (with_reducible refine (ih kj34 (by have := HJ2.out; have := HJ34.out; omega) (a0.extract ((ji50) : Int).toNat a0.size) (wrap64 (a1 + 1)) t121 t122 t123 t126 _ A53.out).mono ?_); rintro e w64 ⟨v124, rfl, ho0, hb⟩; refine ⟨_, rfl, ?_⟩; have n0_ := aK (Kd.N_elder' HO_121002.out (Kd.N_base ho0) hb); have HO125 := aK (Kd.N_lower (Kd.N_mono (ok' := fun k_ => (w.heap.size ≤ k_) ∧ some k_ ≠ (.slice Ao40 t116.length co40 : Value).ownBlock ∧ k_ ≠ gb101 ∧ k_ ≠ gb120) ho0 (fun k_ hk_ => ⟨(Nat.le_trans (below_size HB.out) hk_), (Kd.fresh' (Kd.N_lt HO_121002.out) k_ hk_), (Kd.freshB BK101.out k_ hk_), (Kd.freshB BK120.out k_ hk_)⟩)) (below_size HB.out)); replace BK101 := qb BK101 hb; replace BK120 := qb BK120 hb; clear HO_121002; have HO_121002 := n0_; clear n0_; replace HB := qs HB hb; (try clear hb); (try clear ho0)) | ((with_reducible refine gate_dst (N := 10) rfl ?_); (try (refine gate_guard (by rfl) ?_; dsimp only)); refine bE (N := 10) (cs := #[.int .i64 0, .int .i64 0, .slice none 0 0]) (t := 54) ?_; intro gb127 hg w65 hbox hb; have GW127 := qw HB hg; have GE127 := qw HB hg; have NB101_127 := ql BK101 hg; have NB127_101 := qg BK101 hg; have NB120_127 := ql BK120 hg; have NB127_120 := qg BK120 hg; replace HO_121002 := qn HO_121002 hg hb; replace HO125 := qn HO125 hg hb; replace BK101 := qb BK101 hb; replace BK120 := qb BK120 hb; have BK127 := aK hbox; replace HB := qs HB hb; clear hb hbox hg; have hnb66 := NB127_101.out; have hnc66 := NB101_127.out; have hnb67 := NB127_120.out; have hnc67 := NB120_127.out; obtain ⟨hcz68_0, hcz68_1, hcz68_2, hfz68_0, hfz68_1, hfz68_2⟩ := cA3 BK127; obtain ⟨Ao69, co69, eo69⟩ := Kd.N_slice HO125.out; subst eo69; have hnb70 := NB101_120.out; have hnc70 := NB120_101.out; obtain ⟨hcz71_0, hcz71_1, hcz71_2, hfz71_0, hfz71_1, hfz71_2⟩ := cA3 BK101))
               refine bodyPost_ret (results_ct rfl _ _ gb101 54 #[.int .i64 0, .int .i64 0, .slice none 0 0] (0, 0) _ rfl (by (with_reducible repeat first | apply zN | apply zD | apply zA); refine blk_put (cs := #[.int .i64 0, .int .i64 0, .slice none 0 0]) ?_ 2 _ rfl; (with_reducible repeat first | apply zN | apply zD | apply zA); refine blk_put (cs := #[.int .i64 0, .int .i64 0, .slice none 0 0]) ?_ 1 _ rfl; (with_reducible repeat first | apply zN | apply zD | apply zA); refine blk_put (cs := #[.int .i64 0, .int .i64 0, .slice none 0 0]) ?_ 0 _ rfl; (repeat first | with_reducible apply zN | with_reducible apply zD | with_reducible apply zA | refine blk_far ?_ NB101_127.out _); exact BK101.out) Try.underlying54 rfl (by kernel_rfl)) rfl ?_
               exact ⟨_, by first | rfl | (simp [errW_none, errW_some] <;> rfl) | (simp only [← hji50]; first | rfl | (simp [errW_none, errW_some] <;> rfl)) | (simp [*, errW_none, errW_some] <;> rfl), by first | exact Kd.R_nil _ _ _ _ _ | exact Kd.N_nil _ _ _ _ _ | exact Kd.V_nil _ _ _ _ _ | exact Kd.Q_nil _ _ _ _ _ | exact Kd.S_nil _ _ _ _ _, pH HB⟩
              ·rw [if_neg c63] at H
               have c63b0 : decide ((a0.size : Int) ≤ (wrap64 ((ji50) + t126))) = false := decide_eq_false c63
               clear c63
               obtain ⟨ji72, hji72⟩ : ∃ j_ : Int, (wrap64 ((ji50) + t126)) = j_ := ⟨_, rfl⟩
               replace H : (if 0 ≤ (ji72) then (if (ji72) < (a0.size : Int) then (if (bt a0 (ji72)) = 41 then ((spec_lcApp.f t114 t115 t116 t121 t122 t123).bind fun bt128 => (some (bt128.1, bt128.2.1, bt128.2.2, wrap64 ((ji72) + 1)))) else (some (0, 0, ([] : List (S54)), 0))) else (none)) else (none)) = some (r1, r2, r3, r4) := by first | (rw [hji72] at H; exact H) | (simp only [hji72] at H ⊢; exact H)
               (try rw [hji72] at c63b0)
               (try rw [hji72] at A53)
               have hji72w : (IntKind.i64.wrap ((ji50) + t126)) = ji72 := (i64_w _).trans hji72
               by_cases c73 : 0 ≤ (ji72)
               ·rw [if_pos c73] at H
                have c73b0 : decide (0 ≤ (ji72)) = true := decide_eq_true c73
                clear c73
                by_cases c74 : (ji72) < (a0.size : Int)
                ·rw [if_pos c74] at H
                 have c74b0 : decide ((ji72) < (a0.size : Int)) = true := decide_eq_true c74
                 clear c74
                 by_cases c76 : (bt a0 (ji72)) = 41
                 ·rw [if_pos c76] at H
                  have c76b0 : ((bt a0 (ji72)) == 41) = true := beq_iff_eq.mpr c76
                  have c76b1 : ((bt a0 (ji72)) != 41) = false := bne_eq_false_iff_eq.mpr c76
                  clear c76
                  replace H := Option.bind_eq_some_iff.mp H
                  obtain ⟨⟨t128, t129, t130⟩, A770, H⟩ := H
                  try dsimp only at H
                  have A77 := aK A770
                  clear A770
                  simp only [Option.some.injEq, Prod.mk.injEq] at H
                  obtain ⟨rfl, rfl, rfl, rfl⟩ := H
                  go_wp2_with (first | ((with_reducible refine gate_callee (f := 59) rfl ?_); refine goesL_ (some 74) rfl rfl Try.func59 (by kernel_rfl) rfl #[.string (a0.extract ((ji50) : Int).toNat a0.size), .int .i64 (wrap64 (a1 + 1))] rfl (by (try simp only [List.map_toArray, List.map_cons, List.map_nil]); first | done | (simp only [hji50]; rfl) | rfl | (simp only [List.length_drop, List.length_take]; rfl)) ?_; (with_reducible refine (ih kj34 (by have := HJ2.out; have := HJ34.out; omega) (a0.extract ((ji50) : Int).toNat a0.size) (wrap64 (a1 + 1)) t121 t122 t123 t126 _ A53.out).mono ?_); rintro e w78 ⟨v124, rfl, ho0, hb⟩; refine ⟨_, rfl, ?_⟩; have n0_ := aK (Kd.N_elder' HO_121002.out (Kd.N_base ho0) hb); have HO125 := aK (Kd.N_lower (Kd.N_mono (ok' := fun k_ => (w.heap.size ≤ k_) ∧ some k_ ≠ (.slice Ao40 t116.length co40 : Value).ownBlock ∧ k_ ≠ gb101 ∧ k_ ≠ gb120) ho0 (fun k_ hk_ => ⟨(Nat.le_trans (below_size HB.out) hk_), (Kd.fresh' (Kd.N_lt HO_121002.out) k_ hk_), (Kd.freshB BK101.out k_ hk_), (Kd.freshB BK120.out k_ hk_)⟩)) (below_size HB.out)); replace BK101 := qb BK101 hb; replace BK120 := qb BK120 hb; clear HO_121002; have HO_121002 := n0_; clear n0_; replace HB := qs HB hb; (try clear hb); (try clear ho0)) | ((with_reducible refine gate_dst (N := 10) rfl ?_); (try (refine gate_guard (by rfl) ?_; dsimp only)); refine bE (N := 10) (cs := #[.int .i64 0, .int .i64 0, .slice none 0 0]) (t := 54) ?_; intro gb127 hg w79 hbox hb; have GW127 := qw HB hg; have GE127 := qw HB hg; have NB101_127 := ql BK101 hg; have NB127_101 := qg BK101 hg; have NB120_127 := ql BK120 hg; have NB127_120 := qg BK120 hg; replace HO_121002 := qn HO_121002 hg hb; replace HO125 := qn HO125 hg hb; replace BK101 := qb BK101 hb; replace BK120 := qb BK120 hb; have BK127 := aK hbox; replace HB := qs HB hb; clear hb hbox hg; have hnb80 := NB127_101.out; have hnc80 := NB101_127.out; have hnb81 := NB127_120.out; have hnc81 := NB120_127.out; obtain ⟨hcz82_0, hcz82_1, hcz82_2, hfz82_0, hfz82_1, hfz82_2⟩ := cA3 BK127; obtain ⟨Ao83, co83, eo83⟩ := Kd.N_slice HO125.out; subst eo83) | ((with_reducible refine gate_store (t := 54) (p := 10) rfl ?_); refine store_event (t := 54) (p := 10) (v := ?vo_w84) (w1 := (((w79.setCell ⟨gb127, 0, none⟩ (.int .i64 t121)).setCell ⟨gb127, 1, none⟩ (.int .i64 t122)).setCell ⟨gb127, 2, none⟩ (.slice Ao83 t123.length co83))) ?hg ?ho ?hn ?hr ?_; (case ho => rfl); (case hg => rfl); (case hn => rfl); (case hr => first | (go_simp; done) | (go_simp; rfl)); intro w84 hw; have n0_ : Aside0 (Kd.N k54 54 w84 w.heap.size (fun k_ => (w.heap.size ≤ k_) ∧ some k_ ≠ (.slice Ao83 t123.length co83 : Value).ownBlock ∧ k_ ≠ gb101 ∧ k_ ≠ gb120 ∧ k_ ≠ gb127) (.slice Ao40 t116.length co40) t116) := ⟨(by rw [hw]; exact (by (with_reducible repeat (first | apply Kd.N_alloc | apply Kd.N_drewN | apply Kd.N_drew)); exact Kd.N_mono (nF3 gb127 (Kd.N_mono HO_121002.out (fun k_ hk => (⟨hk, hk.2⟩ : _ ∧ k_ ≠ gb127))) (fun _ hk => hk.2)) (fun _ hk => ⟨hk.1.1.1.1, ⟨hk.1.1.2, ⟨hk.1.1.1.2.1, ⟨hk.1.1.1.2.2, hk.1.2⟩⟩⟩⟩)))⟩; have n1_ : Aside0 (Kd.N k54 54 w84 w.heap.size (fun k_ => (w.heap.size ≤ k_) ∧ some k_ ≠ (.slice Ao40 t116.length co40 : Value).ownBlock ∧ k_ ≠ gb101 ∧ k_ ≠ gb120 ∧ k_ ≠ gb127) (.slice Ao83 t123.length co83) t123) := ⟨(by rw [hw]; exact (by (with_reducible repeat (first | apply Kd.N_alloc | apply Kd.N_drewN | apply Kd.N_drew)); exact Kd.N_mono (nF3 gb127 (Kd.N_mono HO125.out (fun k_ hk => (⟨hk, hk.2⟩ : _ ∧ k_ ≠ gb127))) (fun _ hk => hk.2)) (fun _ hk => ⟨hk.1.1.1, ⟨hk.1.1.2.1, ⟨hk.1.1.2.2.1, ⟨hk.1.1.2.2.2, hk.1.2⟩⟩⟩⟩)))⟩; have n2_ : Aside0 (w84.heap[gb101]? = some (.cells #[.int .i64 0, .int .i64 0, .slice none 0 0] 54 (0, 0))) := ⟨(by rw [hw]; exact (by (repeat first | with_reducible apply zN | with_reducible apply zD | with_reducible apply zA | refine blk_far ?_ NB101_127.out _); exact BK101.out))⟩; have n3_ : Aside0 (w84.heap[gb120]? = some (.cells #[.int .i64 t114, .int .i64 t115, .slice Ao40 t116.length co40] 54 (0, 0))) := ⟨(by rw [hw]; exact (by (repeat first | with_reducible apply zN | with_reducible apply zD | with_reducible apply zA | refine blk_far ?_ NB120_127.out _); exact BK120.out))⟩; have n4_ : Aside0 (w84.heap[gb127]? = some (.cells #[.int .i64 t121, .int .i64 t122, .slice Ao83 t123.length co83] 54 (0, 0))) := ⟨(by rw [hw]; exact (p3 BK127))⟩; have n5_ : Aside0 (Below w.heap.size w w84) := ⟨(by rw [hw]; exact (pH HB))⟩; clear hw; clear HO_121002; clear HO125; clear BK101; clear BK120; clear BK127; clear HB; have HO_121002 := n0_; have HO125 := n1_; have BK101 := n2_; have BK120 := n3_; have BK127 := n4_; have HB := n5_; clear n0_ n1_ n2_ n3_ n4_ n5_; have p75 : 0 ≤ ((ji72) : Int) := dA; have q75 : (ji72) < (a0.size : Int) := dA; have hx75 := bt_at a0 (ji72); replace p75 := eq_true p75; replace q75 := eq_true q75; have hnb85 := NB120_101.out; have hnc85 := NB101_120.out; obtain ⟨hcz86_0, hcz86_1, hcz86_2, hfz86_0, hfz86_1, hfz86_2⟩ := cA3 BK120; obtain ⟨hcz87_0, hcz87_1, hcz87_2, hfz87_0, hfz87_1, hfz87_2⟩ := cA3 BK127) | ((with_reducible refine gate_callee (f := 38) rfl ?_); refine goesL_ (some 98) rfl rfl Try.func38 (by kernel_rfl) rfl #[.agg #[.int .i64 t114, .int .i64 t115, .slice Ao40 t116.length co40], .agg #[.int .i64 t121, .int .i64 t122, .slice Ao83 t123.length co83]] rfl tA ?_; (with_reducible refine (spec_lcApp.calls t114 t115 (fun k_ => ((w.heap.size ≤ k_) ∧ (some k_ ≠ (.slice Ao83 t123.length co83 : Value).ownBlock ∧ (k_ ≠ gb101 ∧ (k_ ≠ gb120 ∧ k_ ≠ gb127))))) _ _ t116 t121 t122 (fun k_ => ((w.heap.size ≤ k_) ∧ (some k_ ≠ (.slice Ao40 t116.length co40 : Value).ownBlock ∧ (k_ ≠ gb101 ∧ (k_ ≠ gb120 ∧ k_ ≠ gb127))))) _ _ t123 t128 t129 t130 _ ?side1 ?side2 A77.out).mono ?_); (case side1 => exact Kd.N_V (HO_121002.out)); (case side2 => exact Kd.N_V (HO125.out)); rintro e w88 ⟨v131, rfl, ho0, hb⟩; refine ⟨_, rfl, ?_⟩; have n0_ := aK (Kd.N_elder' HO_121002.out (Kd.N_base ho0) hb); have n1_ := aK (Kd.N_elder' HO125.out (Kd.N_base ho0) hb); have HO132 := aK (Kd.N_lower (Kd.N_mono (ok' := fun k_ => (w.heap.size ≤ k_) ∧ k_ ≠ gb101 ∧ k_ ≠ gb120 ∧ k_ ≠ gb127) ho0 (fun k_ hk_ => ⟨Or.elim hk_ (fun hs_ => Or.elim hs_ (fun hs_ => hs_.1) (fun hs_ => hs_.1)) (fun hn_ => (Nat.le_trans (below_size HB.out) hn_)), Or.elim hk_ (fun hs_ => Or.elim hs_ (fun hs_ => hs_.2.2.1) (fun hs_ => hs_.2.2.1)) (fun hn_ => (Kd.freshB BK101.out k_ hn_)), Or.elim hk_ (fun hs_ => Or.elim hs_ (fun hs_ => hs_.2.2.2.1) (fun hs_ => hs_.2.2.2.1)) (fun hn_ => (Kd.freshB BK120.out k_ hn_)), Or.elim hk_ (fun hs_ => Or.elim hs_ (fun hs_ => hs_.2.2.2.2) (fun hs_ => hs_.2.2.2.2)) (fun hn_ => (Kd.freshB BK127.out k_ hn_))⟩)) (below_size HB.out)); replace BK101 := qb BK101 hb; replace BK120 := qb BK120 hb; replace BK127 := qb BK127 hb; clear HO_121002; have HO_121002 := n0_; clear n0_; clear HO125; have HO125 := n1_; clear n1_; replace HB := qs HB hb; (try clear hb); (try clear ho0); obtain ⟨hcz89_0, hcz89_1, hcz89_2, hfz89_0, hfz89_1, hfz89_2⟩ := cA3 BK101; obtain ⟨Ao90, co90, eo90⟩ := Kd.N_slice HO132.out; subst eo90))
                  refine bodyPost_ret (results_ct rfl _ _ gb101 54 #[.int .i64 t128, .int .i64 t129, .slice Ao90 t130.length co90] (0, 0) _ rfl (p3 BK101) Try.underlying54 rfl (by kernel_rfl)) rfl ?_
                  exact ⟨_, by first | rfl | (simp [errW_none, errW_some] <;> rfl) | (simp only [← hji50, ← hji72]; first | rfl | (simp [errW_none, errW_some] <;> rfl)) | (simp [*, errW_none, errW_some] <;> rfl), by (with_reducible repeat (first | apply Kd.N_alloc | apply Kd.N_drewN | apply Kd.N_drew)); exact Kd.N_mono (nF3 gb101 (Kd.N_mono HO132.out (fun k_ hk => (⟨hk, hk.2.1⟩ : _ ∧ k_ ≠ gb101))) (fun _ hk => hk.2)) (fun _ hk => hk.1.1), pH HB⟩
                 ·rw [if_neg c76] at H
                  have c76b0 : ((bt a0 (ji72)) == 41) = false := beq_eq_false_iff_ne.mpr c76
                  have c76b1 : ((bt a0 (ji72)) != 41) = true := bne_iff_ne.mpr c76
                  simp only [Option.some.injEq, Prod.mk.injEq] at H
                  obtain ⟨rfl, rfl, rfl, rfl⟩ := H
                  go_wp2_with (first | ((with_reducible refine gate_callee (f := 59) rfl ?_); refine goesL_ (some 74) rfl rfl Try.func59 (by kernel_rfl) rfl #[.string (a0.extract ((ji50) : Int).toNat a0.size), .int .i64 (wrap64 (a1 + 1))] rfl (by (try simp only [List.map_toArray, List.map_cons, List.map_nil]); first | done | (simp only [hji50]; rfl) | rfl | (simp only [List.length_drop, List.length_take]; rfl)) ?_; (with_reducible refine (ih kj34 (by have := HJ2.out; have := HJ34.out; omega) (a0.extract ((ji50) : Int).toNat a0.size) (wrap64 (a1 + 1)) t121 t122 t123 t126 _ A53.out).mono ?_); rintro e w91 ⟨v124, rfl, ho0, hb⟩; refine ⟨_, rfl, ?_⟩; have n0_ := aK (Kd.N_elder' HO_121002.out (Kd.N_base ho0) hb); have HO125 := aK (Kd.N_lower (Kd.N_mono (ok' := fun k_ => (w.heap.size ≤ k_) ∧ some k_ ≠ (.slice Ao40 t116.length co40 : Value).ownBlock ∧ k_ ≠ gb101 ∧ k_ ≠ gb120) ho0 (fun k_ hk_ => ⟨(Nat.le_trans (below_size HB.out) hk_), (Kd.fresh' (Kd.N_lt HO_121002.out) k_ hk_), (Kd.freshB BK101.out k_ hk_), (Kd.freshB BK120.out k_ hk_)⟩)) (below_size HB.out)); replace BK101 := qb BK101 hb; replace BK120 := qb BK120 hb; clear HO_121002; have HO_121002 := n0_; clear n0_; replace HB := qs HB hb; (try clear hb); (try clear ho0)) | ((with_reducible refine gate_dst (N := 10) rfl ?_); (try (refine gate_guard (by rfl) ?_; dsimp only)); refine bE (N := 10) (cs := #[.int .i64 0, .int .i64 0, .slice none 0 0]) (t := 54) ?_; intro gb127 hg w92 hbox hb; have GW127 := qw HB hg; have GE127 := qw HB hg; have NB101_127 := ql BK101 hg; have NB127_101 := qg BK101 hg; have NB120_127 := ql BK120 hg; have NB127_120 := qg BK120 hg; replace HO_121002 := qn HO_121002 hg hb; replace HO125 := qn HO125 hg hb; replace BK101 := qb BK101 hb; replace BK120 := qb BK120 hb; have BK127 := aK hbox; replace HB := qs HB hb; clear hb hbox hg; have hnb93 := NB127_101.out; have hnc93 := NB101_127.out; have hnb94 := NB127_120.out; have hnc94 := NB120_127.out; obtain ⟨hcz95_0, hcz95_1, hcz95_2, hfz95_0, hfz95_1, hfz95_2⟩ := cA3 BK127; obtain ⟨Ao96, co96, eo96⟩ := Kd.N_slice HO125.out; subst eo96; have p75 : 0 ≤ ((ji72) : Int) := dA; have q75 : (ji72) < (a0.size : Int) := dA; have hx75 := bt_at a0 (ji72); replace p75 := eq_true p75; replace q75 := eq_true q75; have hnb97 := NB101_120.out; have hnc97 := NB120_101.out; obtain ⟨hcz98_0, hcz98_1, hcz98_2, hfz98_0, hfz98_1, hfz98_2⟩ := cA3 BK101))
                  refine bodyPost_ret (results_ct rfl _ _ gb101 54 #[.int .i64 0, .int .i64 0, .slice none 0 0] (0, 0) _ rfl (by (with_reducible repeat first | apply zN | apply zD | apply zA); refine blk_put (cs := #[.int .i64 0, .int .i64 0, .slice none 0 0]) ?_ 2 _ rfl; (with_reducible repeat first | apply zN | apply zD | apply zA); refine blk_put (cs := #[.int .i64 0, .int .i64 0, .slice none 0 0]) ?_ 1 _ rfl; (with_reducible repeat first | apply zN | apply zD | apply zA); refine blk_put (cs := #[.int .i64 0, .int .i64 0, .slice none 0 0]) ?_ 0 _ rfl; (repeat first | with_reducible apply zN | with_reducible apply zD | with_reducible apply zA | refine blk_far ?_ NB101_127.out _); exact BK101.out) Try.underlying54 rfl (by kernel_rfl)) rfl ?_
                  exact ⟨_, by first | rfl | (simp [errW_none, errW_some] <;> rfl) | (simp only [← hji50, ← hji72]; first | rfl | (simp [errW_none, errW_some] <;> rfl)) | (simp [*, errW_none, errW_some] <;> rfl), by first | exact Kd.R_nil _ _ _ _ _ | exact Kd.N_nil _ _ _ _ _ | exact Kd.V_nil _ _ _ _ _ | exact Kd.Q_nil _ _ _ _ _ | exact Kd.S_nil _ _ _ _ _, pH HB⟩
                ·rw [if_neg c74] at H
                 exact absurd H (by simp)
               ·rw [if_neg c73] at H
                exact absurd H (by simp)
            ·rw [if_neg c52] at H
             exact absurd H (by simp)
           ·rw [if_neg c51] at H
            exact absurd H (by simp)
       ·rw [if_neg c33] at H
        exact absurd H (by simp)
      ·rw [if_neg c32] at H
       have c32b0 : ((bt a0 0) == 40) = false := beq_eq_false_iff_ne.mpr c32
       have c32b1 : ((bt a0 0) != 40) = true := bne_iff_ne.mpr c32
       have HC99 := aK H
       clear H
       have p9 : 0 ≤ (0 : Int) := (by omega)
       have q9 : 0 < a0.size := (by have : (0 : Int) < (a0.size : Int) := dA; omega)
       have hx9 : ∀ h : 0 < a0.size, ((a0[0]'h).toNat : Int) = bt a0 0 := bt_at a0 0
       clear p9
       have qi9 : (0 < (a0.size : Int)) = True := eq_true (dA)
       replace q9 := eq_true q9
       have p31 : 0 ≤ (0 : Int) := (by omega)
       have q31 : 0 < a0.size := (by have : (0 : Int) < (a0.size : Int) := dA; omega)
       have hx31 : ∀ h : 0 < a0.size, ((a0[0]'h).toNat : Int) = bt a0 0 := bt_at a0 0
       clear p31
       have qi31 : (0 < (a0.size : Int)) = True := eq_true (dA)
       replace q31 := eq_true q31
       go_upto_block 0 with (fail)
       go_cut [13] (fun v13 wc => ∃ (kq : Nat) (x13_98 : Int), v13 = .int .i64 x13_98 ∧ Aside0 (spec_lcRead.j3 kq a0 x13_98 = some (r1, r2, r3, r4)) ∧ Aside0 (kq ≤ kj2) ∧ Aside0 (wc.heap[gb101]? = some (.cells #[.int .i64 0, .int .i64 0, (.slice none 0 0)] 54 (0, 0))) ∧ Aside0 (Below w.heap.size w wc))
       case first =>
        have H := HC99.out
        clear HC99
        have H' := aK H
        clear H
        go_wp2
        go_loopg [13] kj2 (fun kq v13 w' => ∃ (x13_2 : Int), v13 = .int .i64 x13_2 ∧ Aside0 (spec_lcRead.l0 kq a0 x13_2 = some (r1, r2, r3, r4)) ∧ Aside0 (kq ≤ kj2) ∧ Aside0 (w'.heap[gb101]? = some (.cells #[.int .i64 0, .int .i64 0, (.slice none 0 0)] 54 (0, 0))) ∧ Aside0 (Below w.heap.size w w'))
        case atStart => exact ⟨(0), rS, H', ⟨Nat.le_refl _⟩, ⟨pB BK101⟩, ⟨pH HB⟩⟩
        case round =>
         clear H'
         try clear c1; try clear c2; try clear p2; try clear c3; try clear p3; try clear q3; try clear hx3; try clear qi3; try clear c4; try clear p4; try clear q4; try clear hx4; try clear c5; try clear c5b0; try clear c6; try clear p6; try clear c7; try clear p7; try clear q7; try clear hx7; try clear c8; try clear c8b0; try clear c8b1; try clear c9; try clear p9; try clear q9; try clear hx9; try clear qi9; try clear c10; try clear c10b0; try clear c10b1; try clear c11; try clear c11b0; try clear c11b1; try clear c13; try clear c13b0; try clear c13b1; try clear c16; try clear c23; try clear p31; try clear q31; try clear hx31; try clear qi31; try clear c32; try clear c32b0; try clear c32b1; try clear c33; try clear c33b0; try clear c33b1; try clear c38; try clear c41; try clear c41b0; try clear c41b1; try clear c42; try clear c42b0; try clear c44; try clear c44b0; try clear c45; try clear c45b0; try clear p46; try clear q46; try clear hx46; try clear c47; try clear c48; try clear c51; try clear c51b0; try clear c51b1; try clear c52; try clear c52b0; try clear c52b1; try clear c54; try clear c54b0; try clear c54b1; try clear c56; try clear c57; try clear c58; try clear c59; try clear c61; try clear c63; try clear c63b0; try clear p64; try clear c66; try clear c67; try clear c70; try clear c73; try clear c73b0; try clear c74; try clear c74b0; try clear p75; try clear q75; try clear hx75; try clear c76; try clear c76b0; try clear c76b1; try clear c80; try clear c81; try clear c85; try clear c93; try clear c94; try clear c97; try clear p2; try clear p3; try clear p31; try clear p4; try clear p46; try clear p6; try clear p75; try clear p9; try clear q3; try clear q31; try clear q4; try clear q46; try clear q75; try clear q9; try clear hcz17_0 hcz17_1 hcz17_2 hfz17_0 hfz17_1 hfz17_2; try clear hcz19_0 hcz19_1 hcz19_2 hfz19_0 hfz19_1 hfz19_2; try clear hcz24_0 hcz24_1 hcz24_2 hfz24_0 hfz24_1 hfz24_2; try clear hcz27_0 hcz27_1 hcz27_2 hfz27_0 hfz27_1 hfz27_2; try clear hcz29_0 hcz29_1 hcz29_2 hfz29_0 hfz29_1 hfz29_2; try clear hcz39_0 hcz39_1 hcz39_2 hfz39_0 hfz39_1 hfz39_2; try clear hcz49_0 hcz49_1 hcz49_2 hfz49_0 hfz49_1 hfz49_2; try clear hcz59_0 hcz59_1 hcz59_2 hfz59_0 hfz59_1 hfz59_2; try clear hcz62_0 hcz62_1 hcz62_2 hfz62_0 hfz62_1 hfz62_2; try clear hcz68_0 hcz68_1 hcz68_2 hfz68_0 hfz68_1 hfz68_2; try clear hcz71_0 hcz71_1 hcz71_2 hfz71_0 hfz71_1 hfz71_2; try clear hcz7_0 hcz7_1 hcz7_2 hfz7_0 hfz7_1 hfz7_2; try clear hcz82_0 hcz82_1 hcz82_2 hfz82_0 hfz82_1 hfz82_2; try clear hcz86_0 hcz86_1 hcz86_2 hfz86_0 hfz86_1 hfz86_2; try clear hcz87_0 hcz87_1 hcz87_2 hfz87_0 hfz87_1 hfz87_2; try clear hcz89_0 hcz89_1 hcz89_2 hfz89_0 hfz89_1 hfz89_2; try clear hcz95_0 hcz95_1 hcz95_2 hfz95_0 hfz95_1 hfz95_2; try clear hcz98_0 hcz98_1 hcz98_2 hfz98_0 hfz98_1 hfz98_2
         obtain ⟨x13_2, rfl, HA, HK2, BK101, HB⟩ := hrel
         cases gk with
         | zero => exact absurd HA.out (by simp [spec_lcRead.l0])
         | succ k2 =>
          have H := HA.out
          clear HA
          simp only [spec_lcRead.l0] at H
          by_cases c100 : x13_2 < (a0.size : Int)
          ·rw [if_pos c100] at H
           have c100b0 : decide (x13_2 < (a0.size : Int)) = true := decide_eq_true c100
           clear c100
           (first | rw [c100b0] | (simp only [i64_w, i32_w]; rw [c100b0]) | skip)
           by_cases c101 : x13_2 < 2
           ·rw [if_pos c101] at H
            have c101b0 : decide (x13_2 < 2) = true := decide_eq_true c101
            clear c101
            by_cases c102 : 0 ≤ x13_2
            ·rw [if_pos c102] at H
             have c102b0 : decide (0 ≤ x13_2) = true := decide_eq_true c102
             clear c102
             by_cases c104 : (bt a0 x13_2) ≥ 48
             ·rw [if_pos c104] at H
              have c104b0 : decide (48 ≤ (bt a0 x13_2)) = true := decide_eq_true c104
              clear c104
              by_cases c106 : (bt a0 x13_2) ≤ 57
              ·rw [if_pos c106] at H
               have c106b0 : decide ((bt a0 x13_2) ≤ 57) = true := decide_eq_true c106
               clear c106
               have H' := aK H
               clear H
               have p103 : 0 ≤ (x13_2 : Int) := dA
               have q103 : x13_2 < (a0.size : Int) := dA
               have hx103 := bt_at a0 x13_2
               replace p103 := eq_true p103
               replace q103 := eq_true q103
               have p105 : 0 ≤ (x13_2 : Int) := dA
               have q105 : x13_2 < (a0.size : Int) := dA
               have hx105 := bt_at a0 x13_2
               replace p105 := eq_true p105
               replace q105 := eq_true q105
               go_wp2
               go_roundg k2
               case measure => have := HJ2.out; have := HK2.out; omega
               case rel => exact ⟨(wrap64 (x13_2 + 1)), rS, H', ⟨by have := HJ2.out; have := HK2.out; omega⟩, ⟨pB BK101⟩, ⟨pH HB⟩⟩
              ·rw [if_neg c106] at H
               have c106b0 : decide ((bt a0 x13_2) ≤ 57) = false := decide_eq_false c106
               clear c106
               have H' := aK H
               clear H
               have p103 : 0 ≤ (x13_2 : Int) := dA
               have q103 : x13_2 < (a0.size : Int) := dA
               have hx103 := bt_at a0 x13_2
               replace p103 := eq_true p103
               replace q103 := eq_true q103
               have p105 : 0 ≤ (x13_2 : Int) := dA
               have q105 : x13_2 < (a0.size : Int) := dA
               have hx105 := bt_at a0 x13_2
               replace p105 := eq_true p105
               replace q105 := eq_true q105
               go_wp2
               go_meet
               case rel => exact ⟨_, (x13_2), rS, H', ⟨by have := HJ2.out; have := HK2.out; first | omega | exact Nat.le_refl _⟩, ⟨pB BK101⟩, ⟨pH HB⟩⟩
             ·rw [if_neg c104] at H
              have c104b0 : decide (48 ≤ (bt a0 x13_2)) = false := decide_eq_false c104
              clear c104
              have H' := aK H
              clear H
              have p103 : 0 ≤ (x13_2 : Int) := dA
              have q103 : x13_2 < (a0.size : Int) := dA
              have hx103 := bt_at a0 x13_2
              replace p103 := eq_true p103
              replace q103 := eq_true q103
              go_wp2
              go_meet
              case rel => exact ⟨_, (x13_2), rS, H', ⟨by have := HJ2.out; have := HK2.out; first | omega | exact Nat.le_refl _⟩, ⟨pB BK101⟩, ⟨pH HB⟩⟩
            ·rw [if_neg c102] at H
             exact absurd H (by simp)
           ·rw [if_neg c101] at H
            have c101b0 : decide (x13_2 < 2) = false := decide_eq_false c101
            clear c101
            have H' := aK H
            clear H
            go_wp2
            go_meet
            case rel => exact ⟨_, (x13_2), rS, H', ⟨by have := HJ2.out; have := HK2.out; first | omega | exact Nat.le_refl _⟩, ⟨pB BK101⟩, ⟨pH HB⟩⟩
          ·rw [if_neg c100] at H
           have c100b0 : decide (x13_2 < (a0.size : Int)) = false := decide_eq_false c100
           clear c100
           (first | rw [c100b0] | (simp only [i64_w, i32_w]; rw [c100b0]) | skip)
           have H' := aK H
           clear H
           go_wp2
           go_meet
           case rel => exact ⟨_, (x13_2), rS, H', ⟨by have := HJ2.out; have := HK2.out; first | omega | exact Nat.le_refl _⟩, ⟨pB BK101⟩, ⟨pH HB⟩⟩
       case rest =>
        clear HC99
        try clear c1; try clear p1; try clear q1; try clear hx1; try clear c2; try clear p2; try clear c3; try clear p3; try clear q3; try clear hx3; try clear qi3; try clear c4; try clear p4; try clear q4; try clear hx4; try clear c5; try clear c5b0; try clear c6; try clear p6; try clear c7; try clear p7; try clear q7; try clear hx7; try clear c8; try clear c8b0; try clear c8b1; try clear c9; try clear p9; try clear q9; try clear hx9; try clear qi9; try clear c10; try clear c10b0; try clear c10b1; try clear p10; try clear q10; try clear hx10; try clear c11; try clear c11b0; try clear c11b1; try clear c13; try clear c13b0; try clear c13b1; try clear c16; try clear c23; try clear p31; try clear q31; try clear hx31; try clear qi31; try clear c32; try clear c32b0; try clear c32b1; try clear c33; try clear c33b0; try clear c33b1; try clear c38; try clear c41; try clear c41b0; try clear c41b1; try clear c42; try clear c42b0; try clear c44; try clear c44b0; try clear c45; try clear c45b0; try clear p46; try clear q46; try clear hx46; try clear c47; try clear c48; try clear c51; try clear c51b0; try clear c51b1; try clear c52; try clear c52b0; try clear c52b1; try clear c54; try clear c54b0; try clear c54b1; try clear c56; try clear c57; try clear c58; try clear c59; try clear c61; try clear c63; try clear c63b0; try clear p64; try clear c66; try clear c67; try clear c70; try clear c73; try clear c73b0; try clear c74; try clear c74b0; try clear p75; try clear q75; try clear hx75; try clear c76; try clear c76b0; try clear c76b1; try clear c80; try clear c81; try clear c85; try clear c93; try clear c94; try clear c97; try clear c100; try clear c100b0; try clear c101; try clear c101b0; try clear c102; try clear c102b0; try clear p103; try clear q103; try clear hx103; try clear c104; try clear c104b0; try clear p105; try clear q105; try clear hx105; try clear c106; try clear c106b0; try clear p103; try clear p105; try clear p2; try clear p3; try clear p31; try clear p4; try clear p46; try clear p6; try clear p64; try clear p7; try clear p75; try clear p9; try clear q103; try clear q105; try clear q3; try clear q31; try clear q4; try clear q46; try clear q7; try clear q75; try clear q9; try clear hcz17_0 hcz17_1 hcz17_2 hfz17_0 hfz17_1 hfz17_2; try clear hcz19_0 hcz19_1 hcz19_2 hfz19_0 hfz19_1 hfz19_2; try clear hcz24_0 hcz24_1 hcz24_2 hfz24_0 hfz24_1 hfz24_2; try clear hcz27_0 hcz27_1 hcz27_2 hfz27_0 hfz27_1 hfz27_2; try clear hcz29_0 hcz29_1 hcz29_2 hfz29_0 hfz29_1 hfz29_2; try clear hcz39_0 hcz39_1 hcz39_2 hfz39_0 hfz39_1 hfz39_2; try clear hcz49_0 hcz49_1 hcz49_2 hfz49_0 hfz49_1 hfz49_2; try clear hcz59_0 hcz59_1 hcz59_2 hfz59_0 hfz59_1 hfz59_2; try clear hcz62_0 hcz62_1 hcz62_2 hfz62_0 hfz62_1 hfz62_2; try clear hcz68_0 hcz68_1 hcz68_2 hfz68_0 hfz68_1 hfz68_2; try clear hcz71_0 hcz71_1 hcz71_2 hfz71_0 hfz71_1 hfz71_2; try clear hcz7_0 hcz7_1 hcz7_2 hfz7_0 hfz7_1 hfz7_2; try clear hcz82_0 hcz82_1 hcz82_2 hfz82_0 hfz82_1 hfz82_2; try clear hcz86_0 hcz86_1 hcz86_2 hfz86_0 hfz86_1 hfz86_2; try clear hcz87_0 hcz87_1 hcz87_2 hfz87_0 hfz87_1 hfz87_2; try clear hcz89_0 hcz89_1 hcz89_2 hfz89_0 hfz89_1 hfz89_2; try clear hcz95_0 hcz95_1 hcz95_2 hfz95_0 hfz95_1 hfz95_2; try clear hcz98_0 hcz98_1 hcz98_2 hfz98_0 hfz98_1 hfz98_2
        obtain ⟨kq, x13_98, rfl, HA, HJ98, BK101, HB⟩ := hcut
        cases kq with
        | zero => exact absurd HA.out (by simp [spec_lcRead.j3])
        | succ kj98 =>
         have H := HA.out
         clear HA
         simp only [spec_lcRead.j3] at H
         by_cases c107 : x13_98 = 0
         ·rw [if_pos c107] at H
          have c107b0 : (x13_98 == 0) = true := beq_iff_eq.mpr c107
          have c107b1 : (x13_98 != 0) = false := bne_eq_false_iff_eq.mpr c107
          clear c107
          simp only [Option.some.injEq, Prod.mk.injEq] at H
          obtain ⟨rfl, rfl, rfl, rfl⟩ := H
          obtain ⟨hcz108_0, hcz108_1, hcz108_2, hfz108_0, hfz108_1, hfz108_2⟩ := cA3 BK101
          go_wp2
          refine bodyPost_ret (results_ct rfl _ _ gb101 54 #[.int .i64 0, .int .i64 0, .slice none 0 0] (0, 0) _ rfl (p3 BK101) Try.underlying54 rfl (by kernel_rfl)) rfl ?_
          exact ⟨_, eW, by first | exact Kd.R_nil _ _ _ _ _ | exact Kd.N_nil _ _ _ _ _ | exact Kd.V_nil _ _ _ _ _ | exact Kd.Q_nil _ _ _ _ _ | exact Kd.S_nil _ _ _ _ _, pH HB⟩
         ·rw [if_neg c107] at H
          have c107b0 : (x13_98 == 0) = false := beq_eq_false_iff_ne.mpr c107
          have c107b1 : (x13_98 != 0) = true := bne_iff_ne.mpr c107
          by_cases c109 : 0 ≤ x13_98
          ·rw [if_pos c109] at H
           have c109b0 := eq_true c109
           have c109b1 : decide (0 ≤ x13_98) = true := decide_eq_true c109
           clear c109
           by_cases c110 : x13_98 ≤ (a0.size : Int)
           ·rw [if_pos c110] at H
            have c110b0 := eq_true c110
            have c110b1 : decide (x13_98 ≤ (a0.size : Int)) = true := decide_eq_true c110
            clear c110
            replace H := Option.bind_eq_some_iff.mp H
            obtain ⟨t133, A1110, H⟩ := H
            try dsimp only at H
            have A111 := aK A1110
            clear A1110
            replace H := Option.bind_eq_some_iff.mp H
            obtain ⟨⟨t134, t135, t136⟩, A1120, H⟩ := H
            try dsimp only at H
            have A112 := aK A1120
            clear A1120
            simp only [Option.some.injEq, Prod.mk.injEq] at H
            obtain ⟨rfl, rfl, rfl, rfl⟩ := H
            go_wp2_with (first | ((with_reducible refine gate_callee (f := 75) rfl ?_); refine goesL_ (some 129) rfl rfl Try.func75 (by kernel_rfl) rfl #[.string (a0.extract 0 (x13_98 : Int).toNat)] rfl tA ?_; (with_reducible refine (spec_laSmall.calls kj98 (a0.extract 0 (x13_98 : Int).toNat) t133 _ A111.out).mono ?_); rintro e w' ⟨rfl, ⟨nd, rfl⟩⟩; refine ⟨_, rfl, ?_⟩; (try (rw [drewN_self wc]; generalize hq_ : World.drewN wc _ = wc; have n0_ : Aside0 (wc.heap[gb101]? = some (.cells #[.int .i64 0, .int .i64 0, .slice none 0 0] 54 (0, 0))) := ⟨by rw [← hq_]; exact BK101.out⟩; have n1_ : Aside0 (Below w.heap.size w wc) := ⟨by rw [← hq_]; exact (pH HB)⟩; clear BK101 HB hq_; have BK101 := n0_; have HB := n1_; clear n0_ n1_))) | ((with_reducible refine gate_callee (f := 55) rfl ?_); refine goesL_ (some 130) rfl rfl Try.func55 (by kernel_rfl) rfl #[.int .i64 t133] rfl tA ?_; (with_reducible refine (spec_lcVar.calls t133 t134 t135 t136 _ A112.out).mono ?_); rintro e w113 ⟨v137, rfl, ho0, hb⟩; refine ⟨_, rfl, ?_⟩; have HO138 := aK (Kd.N_lower (Kd.N_mono (ok' := fun k_ => (w.heap.size ≤ k_) ∧ k_ ≠ gb101) (Kd.R_N (Kd.R_bound ho0)) (fun k_ hk_ => ⟨(Nat.le_trans (below_size HB.out) hk_.2.1), (Kd.freshB BK101.out k_ hk_.2.1)⟩)) (below_size HB.out)); replace BK101 := qb BK101 hb; replace HB := qs HB hb; (try clear hb); (try clear ho0); obtain ⟨hcz114_0, hcz114_1, hcz114_2, hfz114_0, hfz114_1, hfz114_2⟩ := cA3 BK101; obtain ⟨Ao115, co115, eo115⟩ := Kd.N_slice HO138.out; subst eo115))
            refine bodyPost_ret (results_ct rfl _ _ gb101 54 #[.int .i64 t134, .int .i64 t135, .slice Ao115 t136.length co115] (0, 0) _ rfl (p3 BK101) Try.underlying54 rfl (by kernel_rfl)) rfl ?_
            exact ⟨_, eW, by (with_reducible repeat (first | apply Kd.N_alloc | apply Kd.N_drewN | apply Kd.N_drew)); exact Kd.N_mono (nF3 gb101 (Kd.N_mono HO138.out (fun k_ hk => (⟨hk, hk.2⟩ : _ ∧ k_ ≠ gb101))) (fun _ hk => hk.2)) (fun _ hk => hk.1.1), pH HB⟩
           ·rw [if_neg c110] at H
            exact absurd H (by simp)
          ·rw [if_neg c109] at H
           exact absurd H (by simp)
    ·rw [if_neg c8] at H
     exact absurd H (by simp)


def spec_l1Cur_known.f (k : Nat) (s0_0 : List Int) (s0_1 : Int) (s0_2 : Int) : Option (Int × Int × (List (S54)) × Int × Int) := (spec_l1Cur_of.f s0_0 s0_1 s0_2 (([(⟨#[92, 48]⟩ : ByteArray), (⟨#[92, 92, 49]⟩ : ByteArray), (⟨#[92, 92, 92, 40, 40, 50, 32, 48, 41, 32, 40, 49, 32, 48, 41, 41]⟩ : ByteArray), (⟨#[92, 92, 40, 49, 32, 40, 49, 32, 48, 41, 41]⟩ : ByteArray), (⟨#[40, 92, 40, 48, 32, 48, 41, 32, 92, 40, 48, 32, 48, 41, 41]⟩ : ByteArray), (⟨#[92, 40, 92, 40, 49, 32, 40, 48, 32, 48, 41, 41, 32, 92, 40, 49, 32, 40, 48, 32, 48, 41, 41, 41]⟩ : ByteArray), (⟨#[92, 92, 40, 48, 32, 49, 41]⟩ : ByteArray), (⟨#[40, 40, 92, 92, 40, 49, 32, 40, 49, 32, 48, 41, 41, 32, 92, 92, 40, 49, 32, 40, 49, 32, 48, 41, 41, 41, 32, 92, 48, 41]⟩ : ByteArray)] : List ByteArray))).bind fun bt105 => ((spec_lcRead.f k bt105.1 1).bind fun bt108 => (some (bt108.1, bt108.2.1, bt108.2.2.1, bt105.2.1, bt105.2.2)))
set_option maxHeartbeats 8000000 in
set_option maxRecDepth 100000 in
theorem spec_l1Cur_known.calls (k : Nat) (g : Nat) (s0_0 : List Int) (s0_1 : Int) (s0_2 : Int) (r1 : Int) (r2 : Int) (r3 : List (S54)) (r4 : Int) (r5 : Int) (w0 w : World) (hI : IsS61 w0 w g s0_0 s0_1 s0_2) (hB : Below w0.heap.size w0 w) (h : spec_l1Cur_known.f k s0_0 s0_1 s0_2 = some (r1, r2, r3, r4, r5)) :
  Calls Try.prog 39 #[.pointer (some ⟨g, 0, none⟩)] w fun e w' => ∃ v2_ : Value, e = .returned (.agg #[.int .i64 r1, .int .i64 r2, v2_]) ∧ Kd.N k54 54 w' w.heap.size (fun k_ => (w.heap.size ≤ k_)) v2_ r3 ∧ IsS61 w0 w' g s0_0 r4 r5 ∧ Below w0.heap.size w0 w' ∧ KeepBut w w' g none := by
 have hu54 := Try.underlying54
 have HI0 := aK hI
 have HK := aK (KeepBut.refl w g none)
 have HL := aK hB.size
 clear hI
 have HW0 := aK hB.size
 have HB := aK hB
 clear hB
 have H : ((spec_l1Cur_of.f s0_0 s0_1 s0_2 (([(⟨#[92, 48]⟩ : ByteArray), (⟨#[92, 92, 49]⟩ : ByteArray), (⟨#[92, 92, 92, 40, 40, 50, 32, 48, 41, 32, 40, 49, 32, 48, 41, 41]⟩ : ByteArray), (⟨#[92, 92, 40, 49, 32, 40, 49, 32, 48, 41, 41]⟩ : ByteArray), (⟨#[40, 92, 40, 48, 32, 48, 41, 32, 92, 40, 48, 32, 48, 41, 41]⟩ : ByteArray), (⟨#[92, 40, 92, 40, 49, 32, 40, 48, 32, 48, 41, 41, 32, 92, 40, 49, 32, 40, 48, 32, 48, 41, 41, 41]⟩ : ByteArray), (⟨#[92, 92, 40, 48, 32, 49, 41]⟩ : ByteArray), (⟨#[40, 40, 92, 92, 40, 49, 32, 40, 49, 32, 48, 41, 41, 32, 92, 92, 40, 49, 32, 40, 49, 32, 48, 41, 41, 41, 32, 92, 48, 41]⟩ : ByteArray)] : List ByteArray))).bind fun bt105 => ((spec_lcRead.f k bt105.1 1).bind fun bt108 => (some (bt108.1, bt108.2.1, bt108.2.2.1, bt105.2.1, bt105.2.2)))) = some (r1, r2, r3, r4, r5) := h
 clear h
 obtain ⟨y102, hy102⟩ : ∃ y_ : List ByteArray, y_ = (([(⟨#[92, 48]⟩ : ByteArray), (⟨#[92, 92, 49]⟩ : ByteArray), (⟨#[92, 92, 92, 40, 40, 50, 32, 48, 41, 32, 40, 49, 32, 48, 41, 41]⟩ : ByteArray), (⟨#[92, 92, 40, 49, 32, 40, 49, 32, 48, 41, 41]⟩ : ByteArray), (⟨#[40, 92, 40, 48, 32, 48, 41, 32, 92, 40, 48, 32, 48, 41, 41]⟩ : ByteArray), (⟨#[92, 40, 92, 40, 49, 32, 40, 48, 32, 48, 41, 41, 32, 92, 40, 49, 32, 40, 48, 32, 48, 41, 41, 41]⟩ : ByteArray), (⟨#[92, 92, 40, 48, 32, 49, 41]⟩ : ByteArray), (⟨#[40, 40, 92, 92, 40, 49, 32, 40, 49, 32, 48, 41, 41, 32, 92, 92, 40, 49, 32, 40, 49, 32, 48, 41, 41, 41, 32, 92, 48, 41]⟩ : ByteArray)] : List ByteArray)) := ⟨_, rfl⟩
 replace H : ((spec_l1Cur_of.f s0_0 s0_1 s0_2 y102).bind fun bt105 => ((spec_lcRead.f k bt105.1 1).bind fun bt108 => (some (bt108.1, bt108.2.1, bt108.2.2.1, bt105.2.1, bt105.2.2)))) = some (r1, r2, r3, r4, r5) := by first | (rw [hy102]; with_reducible exact H) | (have H2_ := (Option.bind_some _ _).symm.trans H; rw [hy102]; with_reducible exact H2_) | (have H2_ := (Option.bind_some _ _).symm.trans H; with_reducible exact H2_) | with_reducible exact H | (rw [hy102]; exact H) | exact H
 have Ny102 := aK hy102
 clear hy102
 replace H := Option.bind_eq_some_iff.mp H
 obtain ⟨⟨t105, t106, t107⟩, A20, H⟩ := H
 try dsimp only at H
 have A2 := aK A20
 clear A20
 replace H := Option.bind_eq_some_iff.mp H
 obtain ⟨⟨t108, t109, t110, t113⟩, A30, H⟩ := H
 try dsimp only at H
 have A3 := aK A30
 clear A30
 simp only [Option.some.injEq, Prod.mk.injEq] at H
 obtain ⟨rfl, rfl, rfl, rfl, rfl⟩ := H
 go_enter Try.func39, Try.ntmps39
 go_wp2_with (first | ((with_reducible refine gate_dst (N := 2) rfl ?_); refine bE (N := 2) (cs := #[.int .i64 0, .int .i64 0, .slice none 0 0]) (t := 54) ?_; intro gb101 hg w4 hbox hb; have n0_ := aK (IsS61.below (yI HI0) hb); have n1_ := aK (KeepBut.trans (yK HK) (KeepBut.of_below hb g none) (.inl rfl)); have n2_ := aK (below_step (yH HB) hb); have GW101 := aK ((by rw [hg]; exact (keep_size (w := w) (g := g) (row := none) (yK HK)) : w.heap.size ≤ gb101)); have GE101 := aK ((Nat.le_trans HW0.out (by rw [hg]; exact (keep_size (w := w) (g := g) (row := none) (yK HK)) : w.heap.size ≤ gb101) : w0.heap.size ≤ gb101)); have NB0_101 := aK ((by rw [hg]; exact Nat.ne_of_lt (IsS61.lt (show IsS61 w0 _ g s0_0 s0_1 s0_2 from by repeat (first | (with_reducible first | exact HI0.out | apply IsS61.alloc | apply IsS61.drewN | apply IsS61.drew | apply IsS61.set_1 | apply IsS61.set_2) | exact HI0.out))) : g ≠ gb101)); have NB101_0 := aK ((by rw [hg]; exact Nat.ne_of_gt (IsS61.lt (show IsS61 w0 _ g s0_0 s0_1 s0_2 from by repeat (first | (with_reducible first | exact HI0.out | apply IsS61.alloc | apply IsS61.drewN | apply IsS61.drew | apply IsS61.set_1 | apply IsS61.set_2) | exact HI0.out))) : gb101 ≠ g)); have BK101 := aK hbox; clear HI0; have HI0 := n0_; clear n0_; clear HK; have HK := n1_; clear n1_; clear HB; have HB := n2_; clear n2_; clear hb hbox hg) | ((with_reducible refine gate_dst (N := 7) rfl ?_); refine Kd.R_lit Kd.string _ 9 ?hg (N := 7) ?hd (xs := ([(⟨#[92, 48]⟩ : ByteArray), (⟨#[92, 92, 49]⟩ : ByteArray), (⟨#[92, 92, 92, 40, 40, 50, 32, 48, 41, 32, 40, 49, 32, 48, 41, 41]⟩ : ByteArray), (⟨#[92, 92, 40, 49, 32, 40, 49, 32, 48, 41, 41]⟩ : ByteArray), (⟨#[40, 92, 40, 48, 32, 48, 41, 32, 92, 40, 48, 32, 48, 41, 41]⟩ : ByteArray), (⟨#[92, 40, 92, 40, 49, 32, 40, 48, 32, 48, 41, 41, 32, 92, 40, 49, 32, 40, 48, 32, 48, 41, 41, 41]⟩ : ByteArray), (⟨#[92, 92, 40, 48, 32, 49, 41]⟩ : ByteArray), (⟨#[40, 40, 92, 92, 40, 49, 32, 40, 49, 32, 48, 41, 41, 32, 92, 92, 40, 49, 32, 40, 49, 32, 48, 41, 41, 41, 32, 92, 48, 41]⟩ : ByteArray)] : List ByteArray)) (inner := [.string (⟨#[92, 48]⟩ : ByteArray), .string (⟨#[92, 92, 49]⟩ : ByteArray), .string (⟨#[92, 92, 92, 40, 40, 50, 32, 48, 41, 32, 40, 49, 32, 48, 41, 41]⟩ : ByteArray), .string (⟨#[92, 92, 40, 49, 32, 40, 49, 32, 48, 41, 41]⟩ : ByteArray), .string (⟨#[40, 92, 40, 48, 32, 48, 41, 32, 92, 40, 48, 32, 48, 41, 41]⟩ : ByteArray), .string (⟨#[92, 40, 92, 40, 49, 32, 40, 48, 32, 48, 41, 41, 32, 92, 40, 49, 32, 40, 48, 32, 48, 41, 41, 41]⟩ : ByteArray), .string (⟨#[92, 92, 40, 48, 32, 49, 41]⟩ : ByteArray), .string (⟨#[40, 40, 92, 92, 40, 49, 32, 40, 49, 32, 48, 41, 41, 32, 92, 92, 40, 49, 32, 40, 49, 32, 48, 41, 41, 41, 32, 92, 48, 41]⟩ : ByteArray)]) (ok := fun _ => True) (okp := fun _ => True) ?hr ?hp (fun _ hk => hk) trivial (Below.refl _ _) (Nat.le_refl _) (by simp) ?_; (case hd => rfl); (case hg => rfl); (case hr => go_simp); (case hp => exact (Reps.one (show Kd.M Kd.string _ _ _ (⟨#[92, 48]⟩ : ByteArray) [.string (⟨#[92, 48]⟩ : ByteArray)] from rfl) (Reps.one (show Kd.M Kd.string _ _ _ (⟨#[92, 92, 49]⟩ : ByteArray) [.string (⟨#[92, 92, 49]⟩ : ByteArray)] from rfl) (Reps.one (show Kd.M Kd.string _ _ _ (⟨#[92, 92, 92, 40, 40, 50, 32, 48, 41, 32, 40, 49, 32, 48, 41, 41]⟩ : ByteArray) [.string (⟨#[92, 92, 92, 40, 40, 50, 32, 48, 41, 32, 40, 49, 32, 48, 41, 41]⟩ : ByteArray)] from rfl) (Reps.one (show Kd.M Kd.string _ _ _ (⟨#[92, 92, 40, 49, 32, 40, 49, 32, 48, 41, 41]⟩ : ByteArray) [.string (⟨#[92, 92, 40, 49, 32, 40, 49, 32, 48, 41, 41]⟩ : ByteArray)] from rfl) (Reps.one (show Kd.M Kd.string _ _ _ (⟨#[40, 92, 40, 48, 32, 48, 41, 32, 92, 40, 48, 32, 48, 41, 41]⟩ : ByteArray) [.string (⟨#[40, 92, 40, 48, 32, 48, 41, 32, 92, 40, 48, 32, 48, 41, 41]⟩ : ByteArray)] from rfl) (Reps.one (show Kd.M Kd.string _ _ _ (⟨#[92, 40, 92, 40, 49, 32, 40, 48, 32, 48, 41, 41, 32, 92, 40, 49, 32, 40, 48, 32, 48, 41, 41, 41]⟩ : ByteArray) [.string (⟨#[92, 40, 92, 40, 49, 32, 40, 48, 32, 48, 41, 41, 32, 92, 40, 49, 32, 40, 48, 32, 48, 41, 41, 41]⟩ : ByteArray)] from rfl) (Reps.one (show Kd.M Kd.string _ _ _ (⟨#[92, 92, 40, 48, 32, 49, 41]⟩ : ByteArray) [.string (⟨#[92, 92, 40, 48, 32, 49, 41]⟩ : ByteArray)] from rfl) (Reps.one (show Kd.M Kd.string _ _ _ (⟨#[40, 40, 92, 92, 40, 49, 32, 40, 49, 32, 48, 41, 41, 32, 92, 92, 40, 49, 32, 40, 49, 32, 48, 41, 41, 41, 32, 92, 48, 41]⟩ : ByteArray) [.string (⟨#[40, 40, 92, 92, 40, 49, 32, 40, 49, 32, 48, 41, 41, 32, 92, 92, 40, 49, 32, 40, 49, 32, 48, 41, 41, 41, 32, 92, 48, 41]⟩ : ByteArray)] from rfl) (Reps.none _ _)))))))))); intro v103 w5 ho6 hb hg_ hnew_; clear hg_ hnew_; (first | rw [← Ny102.out] at ho6 | (simp only [Int.reduceToNat] at ho6; rw [← Ny102.out] at ho6)); have n0_ := aK (Kd.R_lower (Kd.R_newM (M := fun k_ => (w.heap.size ≤ k_)) ho6 (keep_size (w := w) (g := g) (row := none) (yK HK)) (fun k_ h_ => h_)) (keep_size (w := w) (g := g) (row := none) (yK HK))); have n1_ := aK (IsS61.below (yI HI0) hb); have n2_ := aK (blk_below BK101.out hb); have n3_ := aK (KeepBut.trans (yK HK) (KeepBut.of_below hb g none) (.inl rfl)); have n4_ := aK (below_step (yH HB) hb); clear HI0; clear BK101; clear HK; clear HB; have HO104 := n0_; have HI0 := n1_; have BK101 := n2_; have HK := n3_; have HB := n4_; clear n0_ n1_ n2_ n3_ n4_; clear hb ho6; obtain ⟨Ao7, co7, eo7⟩ := Kd.R_slice HO104.out; subst eo7) | ((with_reducible refine gate_callee (f := 58) rfl ?_); refine goesL_ (some 8) rfl rfl Try.func58 (by kernel_rfl) rfl #[.pointer (some ⟨g, 0, none⟩), .slice Ao7 y102.length co7] rfl tA ?_; (with_reducible refine (spec_l1Cur_of.calls g s0_0 s0_1 s0_2 _ _ y102 t105 t106 t107 w0 _ ?side1 ?side2 ?side3 ?side4 ?side5 A2.out).mono ?_); (case side1 => exact yI HI0); (case side2 => exact yH HB); (case side3 => exact sC ((Kd.R_reads' HO104.out).2.2)); (case side4 => exact (Kd.R_reads' HO104.out).2.1); (case side5 => exact far_slice (IsS61.own_ne HI0.out HO104.out (by decide))); rintro e w8 ⟨rfl, hi, hb, hk⟩; refine ⟨_, rfl, ?_⟩; have n0_ := aK (KeepBut.blk hk (g' := gb101) (o := .cells #[.int .i64 0, .int .i64 0, .slice none 0 0] 54 (0, 0)) BK101.out NB101_0.out (by simp)); have n1_ := aK (Kd.R_mono (Kd.R_keep (IsS61.apart (show IsS61 w0 _ g s0_0 s0_1 s0_2 from by repeat (first | (with_reducible first | exact HI0.out | apply IsS61.alloc | apply IsS61.drewN | apply IsS61.drew | apply IsS61.set_1 | apply IsS61.set_2 | refine IsS61.far ?_ NB0_101.out _) | exact HI0.out)) HO104.out (by decide)) hk (fun _ h => h.2)) (fun _ h => h.1)); have n2_ := aK (KeepBut.trans (yK HK) hk (.inl rfl)); have n3_ := aK (hb); have n4_ := aK (hi); clear BK101; clear HO104; clear HK; clear HB; clear HI0; have BK101 := n0_; have HO104 := n1_; have HK := n2_; have HB := n3_; have HI0 := n4_; clear n0_ n1_ n2_ n3_ n4_; (try clear hb)) | ((with_reducible refine gate_callee (f := 59) rfl ?_); refine goesL_ (some 11) rfl rfl Try.func59 (by kernel_rfl) rfl #[.string t105, .int .i64 1] rfl tA ?_; (with_reducible refine (spec_lcRead.calls k t105 1 t108 t109 t110 t113 _ A3.out).mono ?_); rintro e w9 ⟨v111, rfl, ho0, hb⟩; refine ⟨_, rfl, ?_⟩; have n0_ := aK (Kd.R_below HO104.out hb); have n1_ := aK (Kd.N_lower (Kd.N_mono (ok' := fun k_ => (w.heap.size ≤ k_) ∧ some k_ ≠ (.slice Ao7 y102.length co7 : Value).ownBlock ∧ k_ ≠ gb101 ∧ k_ ≠ g) ho0 (fun k_ hk_ => ⟨(Nat.le_trans (keep_size (w := w) (g := g) (row := none) (yK HK)) hk_), (Kd.fresh' (Kd.R_lt HO104.out) k_ hk_), (Kd.freshB BK101.out k_ hk_), (IsS61.fresh (yI HI0) k_ hk_)⟩)) (keep_size (w := w) (g := g) (row := none) (yK HK))); have n2_ := aK (IsS61.below (yI HI0) hb); have n3_ := aK (blk_below BK101.out hb); have n4_ := aK (KeepBut.trans (yK HK) (KeepBut.of_below hb g none) (.inl rfl)); have n5_ := aK (below_step (yH HB) hb); clear HO104; clear HI0; clear BK101; clear HK; clear HB; have HO104 := n0_; have HO112 := n1_; have HI0 := n2_; have BK101 := n3_; have HK := n4_; have HB := n5_; clear n0_ n1_ n2_ n3_ n4_ n5_; (try clear hb); (try clear ho0)) | ((with_reducible refine gate_dst (N := 4) rfl ?_); refine bE (N := 4) (cs := #[.int .i64 0, .int .i64 0, .slice none 0 0]) (t := 54) ?_; intro gb114 hg w10 hbox hb; have n0_ := aK (Kd.R_below HO104.out hb); have n1_ := aK (Kd.N_below (Kd.N_elderB HO112.out gb114 (Nat.le_of_eq hg.symm)) hb); have n2_ := aK (IsS61.below (yI HI0) hb); have n3_ := aK (blk_below BK101.out hb); have n4_ := aK (KeepBut.trans (yK HK) (KeepBut.of_below hb g none) (.inl rfl)); have n5_ := aK (below_step (yH HB) hb); have n6_ := aK (hbox); have n7_ := aK ((by rw [hg]; exact (keep_size (w := w) (g := g) (row := none) (yK HK)) : w.heap.size ≤ gb114)); have n8_ := aK ((Nat.le_trans HW0.out (by rw [hg]; exact (keep_size (w := w) (g := g) (row := none) (yK HK)) : w.heap.size ≤ gb114) : w0.heap.size ≤ gb114)); have n9_ := aK ((by rw [hg]; exact Nat.ne_of_lt (blk_lt BK101.out) : gb101 ≠ gb114)); have n10_ := aK ((by rw [hg]; exact Nat.ne_of_gt (blk_lt BK101.out) : gb114 ≠ gb101)); have n11_ := aK ((by rw [hg]; exact Nat.ne_of_lt (IsS61.lt (show IsS61 w0 _ g s0_0 t106 t107 from by repeat (first | (with_reducible first | exact HI0.out | apply IsS61.alloc | apply IsS61.drewN | apply IsS61.drew | apply IsS61.set_1 | apply IsS61.set_2 | refine IsS61.far ?_ NB0_101.out _) | exact HI0.out))) : g ≠ gb114)); have n12_ := aK ((by rw [hg]; exact Nat.ne_of_gt (IsS61.lt (show IsS61 w0 _ g s0_0 t106 t107 from by repeat (first | (with_reducible first | exact HI0.out | apply IsS61.alloc | apply IsS61.drewN | apply IsS61.drew | apply IsS61.set_1 | apply IsS61.set_2 | refine IsS61.far ?_ NB0_101.out _) | exact HI0.out))) : gb114 ≠ g)); clear HO104; clear HO112; clear HI0; clear BK101; clear HK; clear HB; have HO104 := n0_; have HO112 := n1_; have HI0 := n2_; have BK101 := n3_; have HK := n4_; have HB := n5_; have BK114 := n6_; have GW114 := n7_; have GE114 := n8_; have NB101_114 := n9_; have NB114_101 := n10_; have NB0_114 := n11_; have NB114_0 := n12_; clear n0_ n1_ n2_ n3_ n4_ n5_ n6_ n7_ n8_ n9_ n10_ n11_ n12_; clear hb hbox hg; have hnb11 := NB114_101.out; have hnc11 := NB101_114.out; have hnb12 := NB114_0.out; have hnc12 := NB0_114.out; obtain ⟨hcz13_0, hcz13_1, hcz13_2, hfz13_0, hfz13_1, hfz13_2⟩ := cA3 BK114; obtain ⟨Ao14, co14, eo14⟩ := Kd.N_slice HO112.out; subst eo14; have hnb15 := NB101_0.out; have hnc15 := NB0_101.out; obtain ⟨hcz16_0, hcz16_1, hcz16_2, hfz16_0, hfz16_1, hfz16_2⟩ := cA3 BK101))
 refine bodyPost_ret (results_cell_row rfl _ _ gb101 54 #[.int .i64 t108, .int .i64 t109, .slice Ao14 t110.length co14] (0, 0) _ rfl (by (with_reducible repeat first | apply zN | apply zD | apply zA); refine blk_put (cs := #[.int .i64 t108, .int .i64 t109, .slice none 0 0]) ?_ 2 _ rfl; (with_reducible repeat first | apply zN | apply zD | apply zA); refine blk_put (cs := #[.int .i64 t108, .int .i64 0, .slice none 0 0]) ?_ 1 _ rfl; (with_reducible repeat first | apply zN | apply zD | apply zA); refine blk_put (cs := #[.int .i64 0, .int .i64 0, .slice none 0 0]) ?_ 0 _ rfl; (repeat first | with_reducible apply zN | with_reducible apply zD | with_reducible apply zA | refine blk_far ?_ NB101_114.out _); exact BK101.out) Try.underlying54 rfl (by kernel_rfl)) rfl ?_
 exact ⟨_, eW, by (with_reducible repeat (first | apply Kd.N_alloc | apply Kd.N_drewN | apply Kd.N_drew)); exact Kd.N_mono (nF3 gb101 (nF3 gb114 (Kd.N_mono (Kd.N_mono HO112.out (fun k_ hk => (⟨hk, hk.2⟩ : _ ∧ k_ ≠ gb114))) (fun k_ hk => (⟨hk, hk.1.1.2.2.1⟩ : _ ∧ k_ ≠ gb101))) (fun _ hk => hk.1.2)) (fun _ hk => hk.2)) (fun _ hk => hk.1.1.1.1), yI HI0, yH HB, yK HK⟩


namespace Flat54
mutual
def flT : S54 → Int → List S70 → List S70
 | ⟨k, n, ks⟩, up, l => flL ks (l.length : Int) (l ++ [⟨k, n, up⟩])
def flL : List S54 → Int → List S70 → List S70
 | [], _, l => l
 | x :: xs, k, l => flL xs k (if l.length ≤ 150 then flT x k l else l)
end
theorem flT_eq (x : S54) (up : Int) (l : List S70) : flT x up l = flL x.f2 (l.length : Int) (l ++ [⟨x.f0, x.f1, up⟩]) := by cases x; rw [flT]
theorem flL_cons (x : S54) (xs : List S54) (k : Int) (l : List S70) : flL (x :: xs) k l = flL xs k (if l.length ≤ 150 then flT x k l else l) := by rw [flL]
theorem flL_nil (k : Int) (l : List S70) : flL [] k l = l := by rw [flL]
theorem rd_drop (l : List S54) (i : Nat) (h : i < l.length) : l.drop i = rd_T54 l (i : Int) :: l.drop (i + 1) := by
 rw [List.drop_eq_getElem_cons h]
 congr 1
 unfold rd_T54
 rw [Int.toNat_natCast, List.getD_eq_getElem?_getD, List.getElem?_eq_getElem h]; rfl
theorem rd_mem (l : List S54) (i : Int) (h0 : 0 ≤ i) (h1 : i < l.length) : rd_T54 l i ∈ l := by
 have hlt : i.toNat < l.length := by omega
 have e : rd_T54 l i = l[i.toNat] := by unfold rd_T54; rw [List.getD_eq_getElem?_getD, List.getElem?_eq_getElem hlt]; rfl
 rw [e]; exact List.getElem_mem hlt
theorem len_of : ∀ (N : Nat), (∀ (x : S54) (up : Int) (l : List S70), SizeOf.sizeOf x ≤ N → l.length ≤ 150 → (flT x up l).length ≤ 151) ∧ (∀ (xs : List S54) (k : Int) (l : List S70), SizeOf.sizeOf xs ≤ N → l.length ≤ 151 → (flL xs k l).length ≤ 151) := by
 intro N
 induction N with
 | zero =>
  refine ⟨fun x up l h => ?_, fun xs k l h => ?_⟩
  ·cases x; simp at h
  ·cases xs <;> simp at h
 | succ N ih =>
  refine ⟨fun x up l h hl => ?_, fun xs k l h hl => ?_⟩
  ·cases x with
   | mk k n ks =>
    rw [flT]
    refine ih.2 ks _ _ (by simp at h; omega) ?_
    rw [List.length_append]; show l.length + 1 ≤ 151; omega
  ·cases xs with
   | nil => rw [flL]; exact hl
   | cons x xs =>
    rw [flL]
    have h1 : SizeOf.sizeOf x ≤ N := by simp at h; omega
    have h2 : SizeOf.sizeOf xs ≤ N := by simp at h; omega
    refine ih.2 xs k _ h2 ?_
    split
    ·exact ih.1 x k l h1 (by assumption)
    ·exact hl
theorem flT_len (x : S54) (up : Int) (l : List S70) (h : l.length ≤ 150) : (flT x up l).length ≤ 151 := (len_of _).1 x up l (Nat.le_refl _) h

set_option maxHeartbeats 4000000 in
set_option maxRecDepth 100000 in
theorem node_some (w0 : World) (a0 a1 up : Int) (ks : List S54) (A : Option Addr) (c : Nat) (l : List S70) (A0 : Option Addr) (c0 : Nat) (w : World) (hC : Kd.C k54 w0 A ks.length ks) (hc : ks.length ≤ c) (hl : l.length ≤ 150)
  (hO : Kd.R k70 70 w w0.heap.size (fun _ => True) (.slice A0 l.length c0) l) (hB : Below w0.heap.size w0 w)
  (ih : ∀ (j : Nat) (A : Option Addr) (c : Nat) (acc : List S70) (v : Value) (w : World), j < ks.length → (rd_T54 ks (j : Int)).f2.length ≤ c → acc.length ≤ 150 → Kd.R k70 70 w w0.heap.size (fun _ => True) v acc → Below w0.heap.size w0 w → Kd.C k54 w0 A (rd_T54 ks (j : Int)).f2.length (rd_T54 ks (j : Int)).f2 →
   Calls Try.prog 40 #[v, .agg #[.int .i64 (rd_T54 ks (j : Int)).f0, .int .i64 (rd_T54 ks (j : Int)).f1, .slice A (rd_T54 ks (j : Int)).f2.length c], .int .i64 (l.length : Int)] w fun e w' => ∃ v2, e = .returned v2 ∧ Kd.R k70 70 w' w0.heap.size (fun _ => True) v2 (flT (rd_T54 ks (j : Int)) (l.length : Int) acc) ∧ Below w0.heap.size w0 w') :
  Calls Try.prog 40 #[.slice A0 l.length c0, .agg #[.int .i64 a0, .int .i64 a1, .slice A ks.length c], .int .i64 up] w fun e w' => ∃ v2, e = .returned v2 ∧ Kd.R k70 70 w' w0.heap.size (fun _ => True) v2 (flL ks (l.length : Int) (l ++ [⟨a0, a1, up⟩])) ∧ Below w0.heap.size w0 w' := by
 have hu77 := Try.underlying54
 have HM := aK hC.2.1
 have HC0 := aK hC
 have HL := aK hl
 have HO := aK hO
 have HB := aK hB
 have IH := aK ih
 clear hC hl hO hB ih
 go_enter Try.func40, Try.ntmps40
 go_wp2_with (first | ((with_reducible refine gate_dst (N := 4) rfl ?_); refine bE (N := 4) (cs := #[.int .i64 a0, .int .i64 a1, .slice A ks.length c]) (t := 54) ?_; intro gb hg w5 hbox hb; have n0_ := aK (below_step HB.out hb); have n1_ := aK (hbox); have n2_ := aK (Kd.R_below HO.out hb); clear HB HO; have HB := n0_; have BK := n1_; have HO := n2_; clear n0_ n1_ n2_; clear hb hbox hg; have hcz_0 : w5.cell? ⟨gb, 0, none⟩ = some (.int .i64 a0) := (blk_cell BK.out 0).trans rfl; have hcz_1 : w5.cell? ⟨gb, 1, none⟩ = some (.int .i64 a1) := (blk_cell BK.out 1).trans rfl; have hcz_2 : w5.cell? ⟨gb, 2, none⟩ = some (.slice A ks.length c) := (blk_cell BK.out 2).trans rfl; have hfz_0 := blk_frozen BK.out 0; have hfz_1 := blk_frozen BK.out 1; have hfz_2 := blk_frozen BK.out 2) | ((with_reducible refine gate_builtin (b := .append) (xs := #[.tmp 12, .tmp 19]) rfl ?_); at_builtin; refine Kd.R_append k70 (w0 := w0) w0.heap.size rfl (.tmp 12) (.tmp 19) 23 70 (.agg #[(.int .i64 0), (.int .i64 0), (.int .i64 0)]) 24 rfl Try.underlying23 info70 rfl (by decide) (by omega) (.slice A0 l.length c0) l (⟨a0, a1, up⟩ : S70) [.int .i64 a0, .int .i64 a1, .int .i64 up] (fun _ => True) (fun _ => False) rfl (by first | (go_simp; done) | (go_simp; rfl)) ?aP (fun _ hk => hk.elim) ?aF ?aO ?aB ?aS ?aL ?_; (case aP => exact k70_mkM _ _ _ (⟨a0, a1, up⟩ : S70)); (case aB => exact HB.out); (case aF => exact (fun _ _ => trivial)); (case aO => exact HO.out); (case aS => exact (below_size HB.out)); (case aL => have := HL.out; omega); intro v1 w7 ho hb hg hat; have n0_ := aK (hb); have n1_ := aK (ho); have n2_ := aK ((hg.block gb (blk_lt BK.out) (Kd.R_ne HO.out BK.out (by decide))).trans BK.out); clear HB HO BK; clear hcz_0 hfz_0 hcz_1 hfz_1 hcz_2 hfz_2; have HB := n0_; have HO := n1_; have BK := n2_; clear n0_ n1_ n2_; clear ho hb hg hat; have hcza_0 : w7.cell? ⟨gb, 0, none⟩ = some (.int .i64 a0) := (blk_cell BK.out 0).trans rfl; have hcza_1 : w7.cell? ⟨gb, 1, none⟩ = some (.int .i64 a1) := (blk_cell BK.out 1).trans rfl; have hcza_2 : w7.cell? ⟨gb, 2, none⟩ = some (.slice A ks.length c) := (blk_cell BK.out 2).trans rfl; have hfza_0 := blk_frozen BK.out 0; have hfza_1 := blk_frozen BK.out 1; have hfza_2 := blk_frozen BK.out 2))
 go_loopg [0, 24] (ks.length + 1) (fun kq v0 v24 w' => ∃ (i : Int) (acc : List S70), v24 = .int .i64 i ∧ Aside0 (Kd.R k70 70 w' w0.heap.size (fun _ => True) v0 acc) ∧ Aside0 (0 ≤ i ∧ i ≤ ks.length ∧ (kq : Int) = ks.length - i + 1) ∧ Aside0 (acc.length ≤ 151 ∧ flL (ks.drop i.toNat) (l.length : Int) acc = flL ks (l.length : Int) (l ++ [⟨a0, a1, up⟩])) ∧ Aside0 (Below w0.heap.size w0 w'))
 case atStart => exact ⟨0, l ++ [⟨a0, a1, up⟩], rfl, HO, ⟨by omega, by omega, by omega⟩, ⟨by have := HL.out; rw [List.length_append]; show l.length + 1 ≤ 151; omega, by rw [show (0 : Int).toNat = 0 from rfl, List.drop_zero]⟩, HB⟩
 case round =>
  clear HB HO BK
  obtain ⟨i, acc, rfl, HO0, HA, HF, HB⟩ := hrel
  obtain ⟨A1, c1, rfl⟩ := Kd.R_slice HO0.out
  have HO := HO0
  clear HO0
  by_cases c2 : i < (ks.length : Int)
  ·have cb : decide (i < (ks.length : Int)) = true := decide_eq_true c2
   have cz : decide (0 ≤ i) = true := decide_eq_true HA.out.1
   obtain ⟨j, rfl⟩ : ∃ j : Nat, i = (j : Int) := ⟨i.toNat, by have := HA.out.1; omega⟩
   obtain ⟨ad, A2, c2_, e1, hx0, hx1, hx2, hl2, hi2⟩ := at_T54 (HC0.out) (j : Int) HA.out.1 c2
   cases e1
   simp only [Int.toNat_natCast] at hx0 hx1 hx2
   have HC2 := aK hl2
   have HR2 := aK hi2
   clear hl2 hi2
   replace hx0 := uC HB hx0
   replace hx1 := uC HB hx1
   replace hx2 := uC HB hx2
   have w1 : wrap64 ((j : Int) + 1) = (j : Int) + 1 := by have := HM.out; unfold wrap64; omega
   have W1 := aK w1
   have PI := aK (show j < ks.length by omega)
   have p1 := eq_true HA.out.1
   have q1 := eq_true c2
   clear c2 w1
   have e9 : flL (ks.drop j) (l.length : Int) acc = flL (ks.drop (j + 1)) (l.length : Int) (if acc.length ≤ 150 then flT (rd_T54 ks (j : Int)) (l.length : Int) acc else acc) := by rw [rd_drop ks j PI.out, flL_cons]
   have E9 := aK e9
   clear e9
   obtain ⟨k1, rfl⟩ : ∃ m, gk = m + 1 := ⟨gk - 1, by have := HA.out; have := PI.out; omega⟩
   by_cases c3 : acc.length ≤ 150
   ·have c3b : decide ((acc.length : Int) ≤ 150) = true := decide_eq_true (by omega)
    have CL := aK c3
    clear c3
    go_wp2_with (first | ((with_reducible refine gate_dst (N := 9) rfl ?_); refine bE (N := 9) (cs := #[.int .i64 0, .int .i64 0, .slice none 0 0]) (t := 54) ?_; intro g2 hg w9 hbox hb; have n0_ := aK (below_step HB.out hb); have n1_ := aK (hbox); have n2_ := aK (Kd.R_below HO.out hb); have n3_ := aK ((by rw [hg]; exact below_size HB.out : w0.heap.size ≤ g2)); have hy0 := (hb.cell (World.block_lt_of_cell? _ _ hx0)).trans hx0; have hy1 := (hb.cell (World.block_lt_of_cell? _ _ hx1)).trans hx1; have hy2 := (hb.cell (World.block_lt_of_cell? _ _ hx2)).trans hx2; clear hx0 hx1 hx2; have hx0 := hy0; have hx1 := hy1; have hx2 := hy2; clear hy0 hy1 hy2; clear HB HO; have HB := n0_; have BK2 := n1_; have HO := n2_; have GE2 := n3_; clear n0_ n1_ n2_ n3_; clear hb hbox hg; have hczb_0 : w9.cell? ⟨g2, 0, none⟩ = some (.int .i64 0) := (blk_cell BK2.out 0).trans rfl; have hczb_1 : w9.cell? ⟨g2, 1, none⟩ = some (.int .i64 0) := (blk_cell BK2.out 1).trans rfl; have hczb_2 : w9.cell? ⟨g2, 2, none⟩ = some (.slice none 0 0) := (blk_cell BK2.out 2).trans rfl; have hfzb_0 := blk_frozen BK2.out 0; have hfzb_1 := blk_frozen BK2.out 1; have hfzb_2 := blk_frozen BK2.out 2) | ((with_reducible refine gate_callee (f := 40) rfl ?_); refine goesL_ (some 34) rfl rfl Try.func40 (by kernel_rfl) rfl #[.slice A1 acc.length c1, .agg #[.int .i64 (rd_T54 ks (j : Int)).f0, .int .i64 (rd_T54 ks (j : Int)).f1, .slice A2 (rd_T54 ks (j : Int)).f2.length c2_], .int .i64 (l.length : Int)] rfl tA ?_; refine (IH.out j A2 c2_ acc (.slice A1 acc.length c1) _ (PI.out) HC2.out (by have := CL.out; omega) (Kd.R_mono (Kd.R_far (p := ⟨g2, 2, none⟩) (Kd.R_far (p := ⟨g2, 1, none⟩) (Kd.R_far (p := ⟨g2, 0, none⟩) (Kd.R_types HO.out BK2.out (by decide)) (fun _ hk => hk.2) (.int .i64 (rd_T54 ks (j : Int)).f0)) (fun _ hk => hk.2) (.int .i64 (rd_T54 ks (j : Int)).f1)) (fun _ hk => hk.2) (.slice A2 (rd_T54 ks (j : Int)).f2.length c2_)) (fun _ hk => hk.1)) (below_set (below_set (below_set HB.out GE2.out) GE2.out) GE2.out) HR2.out).mono ?_; rintro e w7 ⟨v2, rfl, ho2, hb2⟩; refine ⟨_, rfl, ?_⟩; have n0_ := aK hb2; have n1_ := aK ho2; clear HB HO BK2; have HB := n0_; have HO := n1_; clear n0_ n1_; clear ho2 hb2))
    go_roundg k1
    case measure => omega
    case rel => exact ⟨(j : Int) + 1, _, by first | rfl | rw [W1.out], HO, ⟨by have := HA.out; omega, by have := PI.out; omega, by have := HA.out; omega⟩, ⟨flT_len _ _ _ CL.out, by rw [← HF.out.2, show ((j : Int) + 1).toNat = j + 1 by omega, show ((j : Int)).toNat = j by omega, E9.out, if_pos CL.out]⟩, HB⟩
   ·have c3b : decide ((acc.length : Int) ≤ 150) = false := decide_eq_false (by omega)
    have CL := aK c3
    clear c3
    go_wp2_with ((with_reducible refine gate_dst (N := 9) rfl ?_); refine bE (N := 9) (cs := #[.int .i64 0, .int .i64 0, .slice none 0 0]) (t := 54) ?_; intro g2 hg w9 hbox hb; have n0_ := aK (below_step HB.out hb); have n1_ := aK (hbox); have n2_ := aK (Kd.R_below HO.out hb); have n3_ := aK ((by rw [hg]; exact below_size HB.out : w0.heap.size ≤ g2)); have hy0 := (hb.cell (World.block_lt_of_cell? _ _ hx0)).trans hx0; have hy1 := (hb.cell (World.block_lt_of_cell? _ _ hx1)).trans hx1; have hy2 := (hb.cell (World.block_lt_of_cell? _ _ hx2)).trans hx2; clear hx0 hx1 hx2; have hx0 := hy0; have hx1 := hy1; have hx2 := hy2; clear hy0 hy1 hy2; clear HB HO; have HB := n0_; have BK2 := n1_; have HO := n2_; have GE2 := n3_; clear n0_ n1_ n2_ n3_; clear hb hbox hg; have hczb_0 : w9.cell? ⟨g2, 0, none⟩ = some (.int .i64 0) := (blk_cell BK2.out 0).trans rfl; have hczb_1 : w9.cell? ⟨g2, 1, none⟩ = some (.int .i64 0) := (blk_cell BK2.out 1).trans rfl; have hczb_2 : w9.cell? ⟨g2, 2, none⟩ = some (.slice none 0 0) := (blk_cell BK2.out 2).trans rfl; have hfzb_0 := blk_frozen BK2.out 0; have hfzb_1 := blk_frozen BK2.out 1; have hfzb_2 := blk_frozen BK2.out 2)
    go_roundg k1
    case measure => omega
    case rel => exact ⟨(j : Int) + 1, acc, by first | rfl | rw [W1.out], ⟨(Kd.R_mono (Kd.R_far (p := ⟨g2, 2, none⟩) (Kd.R_far (p := ⟨g2, 1, none⟩) (Kd.R_far (p := ⟨g2, 0, none⟩) (Kd.R_types HO.out BK2.out (by decide)) (fun _ hk => hk.2) (.int .i64 (rd_T54 ks (j : Int)).f0)) (fun _ hk => hk.2) (.int .i64 (rd_T54 ks (j : Int)).f1)) (fun _ hk => hk.2) (.slice A2 (rd_T54 ks (j : Int)).f2.length c2_)) (fun _ hk => hk.1))⟩, ⟨by have := HA.out; omega, by have := PI.out; omega, by have := HA.out; omega⟩, ⟨HF.out.1, by rw [← HF.out.2, show ((j : Int) + 1).toNat = j + 1 by omega, show ((j : Int)).toNat = j by omega, E9.out, if_neg CL.out]⟩, ⟨(below_set (below_set (below_set HB.out GE2.out) GE2.out) GE2.out)⟩⟩
  ·have cb : decide (i < (ks.length : Int)) = false := decide_eq_false c2
   have hi : i.toNat = ks.length := by have := HA.out; omega
   have e := HF.out.2
   rw [hi, List.drop_length, flL_nil] at e
   have E := aK e
   clear c2 hi e
   go_wp2
   go_ret
   exact ⟨_, rfl, by rw [← E.out]; exact HO.out, HB.out⟩

theorem flat_some (w0 : World) : ∀ (N : Nat) (x : S54) (up : Int) (A : Option Addr) (c : Nat) (l : List S70) (v : Value) (w : World), SizeOf.sizeOf x.f2 ≤ N → x.f2.length ≤ c → l.length ≤ 150 → Kd.R k70 70 w w0.heap.size (fun _ => True) v l → Below w0.heap.size w0 w → Kd.C k54 w0 A x.f2.length x.f2 →
  Calls Try.prog 40 #[v, .agg #[.int .i64 x.f0, .int .i64 x.f1, .slice A x.f2.length c], .int .i64 up] w fun e w' => ∃ v2, e = .returned v2 ∧ Kd.R k70 70 w' w0.heap.size (fun _ => True) v2 (flT x up l) ∧ Below w0.heap.size w0 w' := by
 intro N
 induction N with
 | zero =>
  intro x up A c l v w hN
  cases h : x.f2 with
  | nil => rw [h] at hN; simp at hN
  | cons y ys => rw [h] at hN; simp at hN
 | succ N ih =>
  intro x up A c l v w hN hc hl hO hB hC
  obtain ⟨A0, c0, rfl⟩ := Kd.R_slice hO
  rw [flT_eq]
  refine node_some w0 x.f0 x.f1 up x.f2 A c l A0 c0 w hC hc hl hO hB fun j A2 c2 acc v2 w2 hj hc2 hacc hO2 hB2 hC2 => ?_
  refine ih (rd_T54 x.f2 (j : Int)) (l.length : Int) A2 c2 acc v2 w2 ?_ hc2 hacc hO2 hB2 hC2
  have h1 := List.sizeOf_lt_of_mem (rd_mem x.f2 (j : Int) (by omega) (by omega))
  have h2 : ∀ y : S54, SizeOf.sizeOf y.f2 < SizeOf.sizeOf y := fun y => by cases y; simp; omega
  have h3 := h2 (rd_T54 x.f2 (j : Int))
  omega
end Flat54


def spec_lcFlat.f (k : Nat) (l0 : List (S70)) (a1_0 : Int) (a1_1 : Int) (l1_2 : List (S54)) (a2 : Int) : Option ((List (S70))) := if l0.length = 0 then some (Flat54.flT ⟨a1_0, a1_1, l1_2⟩ a2 []) else none
theorem spec_lcFlat.calls (k : Nat) (A0 : Option Addr) (c0 : Nat) (l0 : List (S70)) (a1_0 : Int) (a1_1 : Int) (A1_2 : Option Addr) (c1_2 : Nat) (l1_2 : List (S54)) (a2 : Int) (r : List (S70)) (w : World) (hr0 : A0 = none) (hc0 : c0 ≤ l0.length) (hr1_2 : Kd.C k54 w A1_2 l1_2.length l1_2) (hc1_2 : l1_2.length ≤ c1_2) (h : spec_lcFlat.f k l0 a1_0 a1_1 l1_2 a2 = some r) :
  Calls Try.prog 40 #[.slice A0 l0.length c0, .agg #[.int .i64 a1_0, .int .i64 a1_1, .slice A1_2 l1_2.length c1_2], .int .i64 a2] w fun e w' => ∃ v0_ : Value, e = .returned (v0_) ∧ Kd.R k70 70 w' w.heap.size (fun _ => True) v0_ r ∧ Below w.heap.size w w' := by
 unfold spec_lcFlat.f at h
 by_cases hl : l0.length = 0
 case neg => rw [if_neg hl] at h; exact absurd h (by simp)
 rw [if_pos hl] at h
 obtain rfl := Option.some.inj h
 subst hr0
 obtain rfl : c0 = 0 := by omega
 rw [hl]
 exact Flat54.flat_some w _ ⟨a1_0, a1_1, l1_2⟩ a2 A1_2 c1_2 [] (.slice none 0 0) w (Nat.le_refl _) hc1_2 (by simp) (Kd.R_nil _ _ _ _ _) (Below.refl w.heap.size w) hr1_2

def spec_l1Cur_among.f (s0_0 : List Int) (s0_1 : Int) (s0_2 : Int) (l1 : List Int) : Option (Int × Int × Int) := (spec_l1Cur_pick.f s0_0 s0_1 s0_2 (l1.length : Int)).bind fun bt101 => (if 0 ≤ bt101.1 then (if bt101.1 < (l1.length : Int) then (some (rd l1 bt101.1, bt101.2.1, bt101.2.2)) else (none)) else (none))
set_option maxHeartbeats 8000000 in
set_option maxRecDepth 100000 in
theorem spec_l1Cur_among.calls (g : Nat) (s0_0 : List Int) (s0_1 : Int) (s0_2 : Int) (A1 : Option Addr) (c1 : Nat) (l1 : List Int) (r1 : Int) (r2 : Int) (r3 : Int) (w0 w : World) (hI : IsS61 w0 w g s0_0 s0_1 s0_2) (hB : Below w0.heap.size w0 w) (hr1 : Kd.C (Kd.int .i64) w A1 l1.length l1) (hc1 : l1.length ≤ c1) (hf1 : ∀ ad, A1 = some ad → 0 < l1.length → ad.block ≠ g) (h : spec_l1Cur_among.f s0_0 s0_1 s0_2 l1 = some (r1, r2, r3)) :
  Calls Try.prog 41 #[.pointer (some ⟨g, 0, none⟩), .slice A1 l1.length c1] w fun e w' => e = .returned (.int .i64 r1) ∧ IsS61 w0 w' g s0_0 r2 r3 ∧ Below w0.heap.size w0 w' ∧ KeepBut w w' g none := by
 have HR1 := aK hr1
 have HC1 := aK hc1
 clear hr1 hc1
 have HI0 := aK hI
 have HK := aK (KeepBut.refl w g none)
 have HL := aK hB.size
 clear hI
 have HW0 := aK hB.size
 have HB := aK hB
 clear hB
 have H : ((spec_l1Cur_pick.f s0_0 s0_1 s0_2 (l1.length : Int)).bind fun bt101 => (if 0 ≤ bt101.1 then (if bt101.1 < (l1.length : Int) then (some (rd l1 bt101.1, bt101.2.1, bt101.2.2)) else (none)) else (none))) = some (r1, r2, r3) := h
 clear h
 replace H := Option.bind_eq_some_iff.mp H
 obtain ⟨⟨t101, t102, t103⟩, A30, H⟩ := H
 try dsimp only at H
 have A3 := aK A30
 clear A30
 by_cases c4 : 0 ≤ t101
 ·rw [if_pos c4] at H
  have c4b0 : decide (0 ≤ t101) = true := decide_eq_true c4
  clear c4
  by_cases c5 : t101 < (l1.length : Int)
  ·rw [if_pos c5] at H
   have c5b0 : decide (t101 < (l1.length : Int)) = true := decide_eq_true c5
   clear c5
   simp only [Option.some.injEq, Prod.mk.injEq] at H
   obtain ⟨rfl, rfl, rfl⟩ := H
   go_enter Try.func41, Try.ntmps41
   go_wp2_with (first | ((with_reducible refine gate_callee (f := 37) rfl ?_); refine goesL_ (some 9) rfl rfl Try.func37 (by kernel_rfl) rfl #[.pointer (some ⟨g, 0, none⟩), .int .i64 (l1.length : Int)] rfl tA ?_; (with_reducible refine (spec_l1Cur_pick.calls g s0_0 s0_1 s0_2 (l1.length : Int) t101 t102 t103 w0 _ ?side1 ?side2 A3.out).mono ?_); (case side1 => exact yI HI0); (case side2 => exact yH HB); rintro e w6 ⟨rfl, hi, hb, hk⟩; refine ⟨_, rfl, ?_⟩; have n0_ := aK (KeepBut.trans (yK HK) hk (.inl rfl)); have n1_ := aK (hb); have n2_ := aK (hi); clear HK; have HK := n0_; clear n0_; clear HB; have HB := n1_; clear n1_; clear HI0; have HI0 := n2_; clear n2_; (try clear hb); have p104 : 0 ≤ (t101 : Int) := dA; have q104 : t101 < (l1.length : Int) := dA; obtain ⟨ad104, e104, hx104_0⟩ := Kd.at_int HR1.out t101 p104 q104; cases e104; replace hx104_0 := keep_cell HK.out hx104_0 (by first | (rw [add_block]; exact hf1 _ rfl (by omega)) | exact hf1 _ rfl (by omega) | exact hf1 ad104 rfl (by omega)); replace p104 := eq_true p104; replace q104 := eq_true q104))
   go_ret
   exact ⟨eW, yI HI0, yH HB, yK HK⟩
  ·rw [if_neg c5] at H
   exact absurd H (by simp)
 ·rw [if_neg c4] at H
  exact absurd H (by simp)


def spec_l1Cur_terms.j0 : Nat → List Int → Int → Int → Int → Int → List (S54) → Option ((List (S70)) × Int × Int)
 | 0, _, _, _, _, _, _ => none
 | k + 1, x1000, x1001, x1002, x112000, x112001, x112002 => (spec_lcFlat.f k ([] : List (S70)) x112000 x112001 x112002 (-1)).bind fun t146 => ((spec_l1Cur_pick.f x1000 x1001 x1002 40).bind fun bt149 => (if bt149.1 = 0 then ((spec_l1Cur_among.f x1000 bt149.2.1 bt149.2.2 (([(-1), 99, 100] : List Int))).bind fun bt155 => (if 0 ≤ (wrap64 ((t146.length : Int) - 1)) then (if (wrap64 ((t146.length : Int) - 1)) < (t146.length : Int) then (some ((t146.set ((wrap64 ((t146.length : Int) - 1)) : Int).toNat (⟨(rd_T70 t146 (wrap64 ((t146.length : Int) - 1))).f0, bt155.1, (rd_T70 t146 (wrap64 ((t146.length : Int) - 1))).f2⟩ : S70)), bt155.2.1, bt155.2.2)) else (none)) else (none))) else (if bt149.1 = 1 then ((spec_l1Cur_pick.f x1000 bt149.2.1 bt149.2.2 4).bind fun bt159 => (if 0 ≤ (wrap64 ((t146.length : Int) - 1)) then (if (wrap64 ((t146.length : Int) - 1)) < (t146.length : Int) then (some ((t146.set ((wrap64 ((t146.length : Int) - 1)) : Int).toNat (⟨(rd_T70 t146 (wrap64 ((t146.length : Int) - 1))).f0, (rd_T70 t146 (wrap64 ((t146.length : Int) - 1))).f1, wrap64 (bt159.1 - 1)⟩ : S70)), bt159.2.1, bt159.2.2)) else (none)) else (none))) else (if bt149.1 = 2 then ((spec_l1Cur_pick.f x1000 bt149.2.1 bt149.2.2 3).bind fun bt163 => (if t146.length < 5864062014805 then (some ((t146 ++ [(⟨wrap64 (1 + bt163.1), 0, 0⟩ : S70)]), bt163.2.1, bt163.2.2)) else (none))) else (some (t146, bt149.2.1, bt149.2.2))))))
def spec_l1Cur_terms.f (k : Nat) (s0_0 : List Int) (s0_1 : Int) (s0_2 : Int) : Option ((List (S70)) × Int × Int) := (spec_l1Cur_pick.f s0_0 s0_1 s0_2 4).bind fun bt101 => ((spec_l1Cur_term.f k s0_0 bt101.2.1 bt101.2.2 0 (wrap64 (1 + bt101.1))).bind fun bt104 => ((spec_l1Cur_pick.f s0_0 bt104.2.2.2.1 bt104.2.2.2.2 5).bind fun bt112 => (if bt112.1 = 0 then ((spec_l1Cur_known.f k s0_0 bt112.2.1 bt112.2.2).bind fun bt115 => ((spec_l1Cur_known.f k s0_0 bt115.2.2.2.1 bt115.2.2.2.2).bind fun bt122 => ((spec_lcApp.f bt115.1 bt115.2.1 bt115.2.2.1 bt122.1 bt122.2.1 bt122.2.2.1).bind fun bt129 => (spec_l1Cur_terms.j0 k s0_0 bt122.2.2.2.1 bt122.2.2.2.2 bt129.1 bt129.2.1 bt129.2.2)))) else (if bt112.1 = 1 then ((spec_l1Cur_known.f k s0_0 bt112.2.1 bt112.2.2).bind fun bt134 => ((spec_lcApp.f bt134.1 bt134.2.1 bt134.2.2.1 bt104.1 bt104.2.1 bt104.2.2.1).bind fun bt141 => (spec_l1Cur_terms.j0 k s0_0 bt134.2.2.2.1 bt134.2.2.2.2 bt141.1 bt141.2.1 bt141.2.2))) else (spec_l1Cur_terms.j0 k s0_0 bt112.2.1 bt112.2.2 bt104.1 bt104.2.1 bt104.2.2.1)))))
set_option maxHeartbeats 8000000 in
set_option maxRecDepth 100000 in
theorem spec_l1Cur_terms.calls (k : Nat) (g : Nat) (s0_0 : List Int) (s0_1 : Int) (s0_2 : Int) (r1 : List (S70)) (r2 : Int) (r3 : Int) (w0 w : World) (hI : IsS61 w0 w g s0_0 s0_1 s0_2) (hB : Below w0.heap.size w0 w) (h : spec_l1Cur_terms.f k s0_0 s0_1 s0_2 = some (r1, r2, r3)) :
  Calls Try.prog 18 #[.pointer (some ⟨g, 0, none⟩)] w fun e w' => ∃ v0_ : Value, e = .returned (v0_) ∧ Kd.R k70 70 w' w.heap.size (fun _ => True) v0_ r1 ∧ IsS61 w0 w' g s0_0 r2 r3 ∧ Below w0.heap.size w0 w' ∧ KeepBut w w' g none := by
 have hu54 := Try.underlying54
 have hu70 := Try.underlying70
 have HI0 := aK hI
 have HK := aK (KeepBut.refl w g none)
 have HL := aK hB.size
 clear hI
 have HW0 := aK hB.size
 have HB := aK hB
 clear hB
 have H : ((spec_l1Cur_pick.f s0_0 s0_1 s0_2 4).bind fun bt101 => ((spec_l1Cur_term.f k s0_0 bt101.2.1 bt101.2.2 0 (wrap64 (1 + bt101.1))).bind fun bt104 => ((spec_l1Cur_pick.f s0_0 bt104.2.2.2.1 bt104.2.2.2.2 5).bind fun bt112 => (if bt112.1 = 0 then ((spec_l1Cur_known.f k s0_0 bt112.2.1 bt112.2.2).bind fun bt115 => ((spec_l1Cur_known.f k s0_0 bt115.2.2.2.1 bt115.2.2.2.2).bind fun bt122 => ((spec_lcApp.f bt115.1 bt115.2.1 bt115.2.2.1 bt122.1 bt122.2.1 bt122.2.2.1).bind fun bt129 => (spec_l1Cur_terms.j0 k s0_0 bt122.2.2.2.1 bt122.2.2.2.2 bt129.1 bt129.2.1 bt129.2.2)))) else (if bt112.1 = 1 then ((spec_l1Cur_known.f k s0_0 bt112.2.1 bt112.2.2).bind fun bt134 => ((spec_lcApp.f bt134.1 bt134.2.1 bt134.2.2.1 bt104.1 bt104.2.1 bt104.2.2.1).bind fun bt141 => (spec_l1Cur_terms.j0 k s0_0 bt134.2.2.2.1 bt134.2.2.2.2 bt141.1 bt141.2.1 bt141.2.2))) else (spec_l1Cur_terms.j0 k s0_0 bt112.2.1 bt112.2.2 bt104.1 bt104.2.1 bt104.2.2.1)))))) = some (r1, r2, r3) := h
 clear h
 replace H := Option.bind_eq_some_iff.mp H
 obtain ⟨⟨t101, t102, t103⟩, A20, H⟩ := H
 try dsimp only at H
 have A2 := aK A20
 clear A20
 replace H := Option.bind_eq_some_iff.mp H
 obtain ⟨⟨t104, t105, t106, t109, t110⟩, A30, H⟩ := H
 try dsimp only at H
 have A3 := aK A30
 clear A30
 replace H := Option.bind_eq_some_iff.mp H
 obtain ⟨⟨t112, t113, t114⟩, A40, H⟩ := H
 try dsimp only at H
 have A4 := aK A40
 clear A40
 have HC5 := aK H
 clear H
 go_enter Try.func18, Try.ntmps18
 go_upto_block 0 with (first | ((with_reducible refine gate_callee (f := 37) rfl ?_); refine goesL_ (some 7) rfl rfl Try.func37 (by kernel_rfl) rfl #[.pointer (some ⟨g, 0, none⟩), .int .i64 4] rfl tA ?_; (with_reducible refine (spec_l1Cur_pick.calls g s0_0 s0_1 s0_2 4 t101 t102 t103 w0 _ ?side1 ?side2 A2.out).mono ?_); (case side1 => exact yI HI0); (case side2 => exact yH HB); rintro e w6 ⟨rfl, hi, hb, hk⟩; refine ⟨_, rfl, ?_⟩; have n0_ := aK (KeepBut.trans (yK HK) hk (.inl rfl)); have n1_ := aK (hb); have n2_ := aK (hi); clear HK; have HK := n0_; clear n0_; clear HB; have HB := n1_; clear n1_; clear HI0; have HI0 := n2_; clear n2_; (try clear hb)) | ((with_reducible refine gate_callee (f := 36) rfl ?_); refine goesL_ (some 9) rfl rfl Try.func36 (by kernel_rfl) rfl #[.pointer (some ⟨g, 0, none⟩), .int .i64 0, .int .i64 (wrap64 (1 + t101))] rfl tA ?_; (with_reducible refine (spec_l1Cur_term.calls k g s0_0 t102 t103 0 (wrap64 (1 + t101)) t104 t105 t106 t109 t110 w0 _ ?side1 ?side2 A3.out).mono ?_); (case side1 => exact yI HI0); (case side2 => exact yH HB); rintro e w7 ⟨v107, rfl, ho0, hi, hb, hk⟩; refine ⟨_, rfl, ?_⟩; have HO108 := aK (Kd.N_lower (Kd.N_mono (ok' := fun k_ => k_ ≠ g) ho0 (fun k_ hk_ => (IsS61.fresh (yI HI0) k_ hk_))) (keep_size (w := w) (g := g) (row := none) (yK HK))); have n1_ := aK (KeepBut.trans (yK HK) hk (.inl rfl)); have n2_ := aK (hb); have n3_ := aK (hi); clear HK; have HK := n1_; clear n1_; clear HB; have HB := n2_; clear n2_; clear HI0; have HI0 := n3_; clear n3_; (try clear hb); (try clear ho0)) | ((with_reducible refine gate_dst (N := 3) rfl ?_); refine bE (N := 3) (cs := #[.int .i64 0, .int .i64 0, .slice none 0 0]) (t := 54) ?_; intro gb111 hg w8 hbox hb; have n1_ := aK (IsS61.below (yI HI0) hb); have n2_ := aK (KeepBut.trans (yK HK) (KeepBut.of_below hb g none) (.inl rfl)); have n3_ := aK (below_step (yH HB) hb); have GW111 := aK ((by rw [hg]; exact (keep_size (w := w) (g := g) (row := none) (yK HK)) : w.heap.size ≤ gb111)); have GE111 := aK ((Nat.le_trans HW0.out (by rw [hg]; exact (keep_size (w := w) (g := g) (row := none) (yK HK)) : w.heap.size ≤ gb111) : w0.heap.size ≤ gb111)); have NB0_111 := aK ((by rw [hg]; exact Nat.ne_of_lt (IsS61.lt (show IsS61 w0 _ g s0_0 t109 t110 from by repeat (first | (with_reducible first | exact HI0.out | apply IsS61.alloc | apply IsS61.drewN | apply IsS61.drew | apply IsS61.set_1 | apply IsS61.set_2) | exact HI0.out))) : g ≠ gb111)); have NB111_0 := aK ((by rw [hg]; exact Nat.ne_of_gt (IsS61.lt (show IsS61 w0 _ g s0_0 t109 t110 from by repeat (first | (with_reducible first | exact HI0.out | apply IsS61.alloc | apply IsS61.drewN | apply IsS61.drew | apply IsS61.set_1 | apply IsS61.set_2) | exact HI0.out))) : gb111 ≠ g)); replace HO108 := qn HO108 hg hb; have BK111 := aK hbox; clear HI0; have HI0 := n1_; clear n1_; clear HK; have HK := n2_; clear n2_; clear HB; have HB := n3_; clear n3_; clear hb hbox hg; have hnb9 := NB111_0.out; have hnc9 := NB0_111.out; obtain ⟨hcz10_0, hcz10_1, hcz10_2, hfz10_0, hfz10_1, hfz10_2⟩ := cA3 BK111; obtain ⟨Ao11, co11, eo11⟩ := Kd.N_slice HO108.out; subst eo11) | ((with_reducible refine gate_callee (f := 37) rfl ?_); refine goesL_ (some 11) rfl rfl Try.func37 (by kernel_rfl) rfl #[.pointer (some ⟨g, 0, none⟩), .int .i64 5] rfl tA ?_; (with_reducible refine (spec_l1Cur_pick.calls g s0_0 t109 t110 5 t112 t113 t114 w0 _ ?side1 ?side2 A4.out).mono ?_); (case side1 => exact yI HI0); (case side2 => exact yH HB); rintro e w12 ⟨rfl, hi, hb, hk⟩; refine ⟨_, rfl, ?_⟩; have n0_ := aK (Kd.N_mono (Kd.N_keep (Kd.N_mono (ok := fun k_ => (k_ ≠ g ∧ k_ ≠ gb111)) (by (with_reducible repeat (first | apply Kd.N_alloc | apply Kd.N_drewN | apply Kd.N_drew)); exact (Kd.N_mono (nF3 gb111 (Kd.N_mono HO108.out (fun k_ hk => (⟨hk, hk.2⟩ : _ ∧ k_ ≠ gb111))) (fun _ hk => hk.2)) (fun _ h_ => h_.1))) (fun k_ hk_ => (⟨hk_, hk_.1⟩ : _ ∧ k_ ≠ g))) hk (fun _ h => h.2)) (fun _ h => h.1)); have n1_ := aK (KeepBut.blk hk (g' := gb111) (o := .cells #[.int .i64 t104, .int .i64 t105, .slice Ao11 t106.length co11] 54 (0, 0)) (p3 BK111) NB111_0.out (by simp)); have n2_ := aK (KeepBut.trans (yK HK) hk (.inl rfl)); have n3_ := aK (hb); have n4_ := aK (hi); clear HO108; clear BK111; clear HK; clear HB; clear HI0; have HO108 := n0_; have BK111 := n1_; have HK := n2_; have HB := n3_; have HI0 := n4_; clear n0_ n1_ n2_ n3_ n4_; (try clear hb)))
 (try simp only [Act.put, List.setIfInBounds_toArray, List.set_cons_zero, List.set_cons_succ])
 go_cut [] (fun wc => ∃ (kq : Nat) (x1001_4 : Int) (x1002_4 : Int) (x112000_4 : Int) (x112001_4 : Int) (x112002_4 : List (S54)) (u112002 : Value), Aside0 (spec_l1Cur_terms.j0 kq s0_0 x1001_4 x1002_4 x112000_4 x112001_4 x112002_4 = some (r1, r2, r3)) ∧ Aside0 (kq ≤ k) ∧ Aside0 (Kd.N k54 54 wc w.heap.size (fun k_ => k_ ≠ gb111 ∧ k_ ≠ g) u112002 x112002_4) ∧ Aside0 (wc.heap[gb111]? = some (.cells #[.int .i64 x112000_4, .int .i64 x112001_4, u112002] 54 (0, 0))) ∧ Aside0 (IsS61 w0 wc g s0_0 x1001_4 x1002_4) ∧ Aside0 (KeepBut w wc g none) ∧ Aside0 (Below w0.heap.size w0 wc))
 case first =>
  have H := HC5.out
  clear HC5
  by_cases c13 : t112 = 0
  ·rw [if_pos c13] at H
   have c13b0 : (t112 == 0) = true := beq_iff_eq.mpr c13
   have c13b1 : (t112 != 0) = false := bne_eq_false_iff_eq.mpr c13
   clear c13
   (first | rw [c13b0] | (simp only [i64_w, i32_w]; rw [c13b0]) | skip)
   replace H := Option.bind_eq_some_iff.mp H
   obtain ⟨⟨t115, t116, t117, t120, t121⟩, A140, H⟩ := H
   try dsimp only at H
   have A14 := aK A140
   clear A140
   replace H := Option.bind_eq_some_iff.mp H
   obtain ⟨⟨t122, t123, t124, t127, t128⟩, A150, H⟩ := H
   try dsimp only at H
   have A15 := aK A150
   clear A150
   replace H := Option.bind_eq_some_iff.mp H
   obtain ⟨⟨t129, t130, t131⟩, A160, H⟩ := H
   try dsimp only at H
   have A16 := aK A160
   clear A160
   have H' := aK H
   clear H
   go_wp2_with (first | ((with_reducible refine gate_callee (f := 39) rfl ?_); refine goesL_ (some 15) rfl rfl Try.func39 (by kernel_rfl) rfl #[.pointer (some ⟨g, 0, none⟩)] rfl tA ?_; (with_reducible refine (spec_l1Cur_known.calls k g s0_0 t113 t114 t115 t116 t117 t120 t121 w0 _ ?side1 ?side2 A14.out).mono ?_); (case side1 => exact yI HI0); (case side2 => exact yH HB); rintro e w17 ⟨v118, rfl, ho0, hi, hb, hk⟩; refine ⟨_, rfl, ?_⟩; have n0_ := aK (Kd.N_mono (Kd.N_told (Kd.N_oldK (Kd.N_mono (ok := fun k_ => (k_ ≠ g ∧ k_ ≠ gb111)) HO108.out (fun k_ hk_ => (⟨hk_, hk_.1⟩ : _ ∧ k_ ≠ g))) hk) (Kd.N_base ho0)) (fun _ h_ => h_.1)); have n1_ := aK (KeepBut.blk hk (g' := gb111) (o := .cells #[.int .i64 t104, .int .i64 t105, .slice Ao11 t106.length co11] 54 (0, 0)) BK111.out NB111_0.out (by simp)); have n2_ := aK (Kd.N_lower (Kd.N_mono (ok' := fun k_ => some k_ ≠ (.slice Ao11 t106.length co11 : Value).ownBlock ∧ k_ ≠ gb111 ∧ k_ ≠ g) ho0 (fun k_ hk_ => ⟨(Kd.fresh' (Kd.N_lt HO108.out) k_ hk_), (Kd.freshB BK111.out k_ hk_), (IsS61.fresh (yI HI0) k_ hk_)⟩)) (keep_size (w := w) (g := g) (row := none) (yK HK))); have n3_ := aK (KeepBut.trans (yK HK) hk (.inl rfl)); have n4_ := aK (hb); have n5_ := aK (hi); clear HO108; clear BK111; clear HK; clear HB; clear HI0; have HO108 := n0_; have BK111 := n1_; have HO119 := n2_; have HK := n3_; have HB := n4_; have HI0 := n5_; clear n0_ n1_ n2_ n3_ n4_ n5_; (try clear hb); (try clear ho0)) | ((with_reducible refine gate_callee (f := 39) rfl ?_); refine goesL_ (some 17) rfl rfl Try.func39 (by kernel_rfl) rfl #[.pointer (some ⟨g, 0, none⟩)] rfl tA ?_; (with_reducible refine (spec_l1Cur_known.calls k g s0_0 t120 t121 t122 t123 t124 t127 t128 w0 _ ?side1 ?side2 A15.out).mono ?_); (case side1 => exact yI HI0); (case side2 => exact yH HB); rintro e w18 ⟨v125, rfl, ho0, hi, hb, hk⟩; refine ⟨_, rfl, ?_⟩; have n0_ := aK (Kd.N_mono (Kd.N_told (Kd.N_oldK (Kd.N_mono (ok := fun k_ => ((k_ ≠ g ∧ k_ ≠ gb111) ∧ some k_ ≠ (v118 : Value).ownBlock)) HO108.out (fun k_ hk_ => (⟨hk_, hk_.1.1⟩ : _ ∧ k_ ≠ g))) hk) (Kd.N_base ho0)) (fun _ h_ => h_.1)); have n1_ := aK (KeepBut.blk hk (g' := gb111) (o := .cells #[.int .i64 t104, .int .i64 t105, .slice Ao11 t106.length co11] 54 (0, 0)) BK111.out NB111_0.out (by simp)); have n2_ := aK (Kd.N_mono (Kd.N_told (Kd.N_oldK (Kd.N_mono (ok := fun k_ => (some k_ ≠ (.slice Ao11 t106.length co11 : Value).ownBlock ∧ (k_ ≠ gb111 ∧ k_ ≠ g))) HO119.out (fun k_ hk_ => (⟨hk_, hk_.2.2⟩ : _ ∧ k_ ≠ g))) hk) (Kd.N_base ho0)) (fun _ h_ => h_.1)); have n3_ := aK (Kd.N_lower (Kd.N_mono (ok' := fun k_ => some k_ ≠ (.slice Ao11 t106.length co11 : Value).ownBlock ∧ some k_ ≠ (v118 : Value).ownBlock ∧ k_ ≠ gb111 ∧ k_ ≠ g) ho0 (fun k_ hk_ => ⟨(Kd.fresh' (Kd.N_lt HO108.out) k_ hk_), (Kd.fresh' (Kd.N_lt HO119.out) k_ hk_), (Kd.freshB BK111.out k_ hk_), (IsS61.fresh (yI HI0) k_ hk_)⟩)) (keep_size (w := w) (g := g) (row := none) (yK HK))); have n4_ := aK (KeepBut.trans (yK HK) hk (.inl rfl)); have n5_ := aK (hb); have n6_ := aK (hi); clear HO108; clear BK111; clear HO119; clear HK; clear HB; clear HI0; have HO108 := n0_; have BK111 := n1_; have HO119 := n2_; have HO126 := n3_; have HK := n4_; have HB := n5_; have HI0 := n6_; clear n0_ n1_ n2_ n3_ n4_ n5_ n6_; (try clear hb); (try clear ho0); obtain ⟨Ao19, co19, eo19⟩ := Kd.N_slice HO119.out; subst eo19; obtain ⟨Ao20, co20, eo20⟩ := Kd.N_slice HO126.out; subst eo20) | ((with_reducible refine gate_callee (f := 38) rfl ?_); refine goesL_ (some 18) rfl rfl Try.func38 (by kernel_rfl) rfl #[.agg #[.int .i64 t115, .int .i64 t116, .slice Ao19 t117.length co19], .agg #[.int .i64 t122, .int .i64 t123, .slice Ao20 t124.length co20]] rfl tA ?_; (with_reducible refine (spec_lcApp.calls t115 t116 (fun k_ => ((some k_ ≠ (.slice Ao11 t106.length co11 : Value).ownBlock ∧ (k_ ≠ gb111 ∧ k_ ≠ g)) ∧ some k_ ≠ (.slice Ao20 t124.length co20 : Value).ownBlock)) _ _ t117 t122 t123 (fun k_ => (some k_ ≠ (.slice Ao11 t106.length co11 : Value).ownBlock ∧ (some k_ ≠ (.slice Ao19 t117.length co19 : Value).ownBlock ∧ (k_ ≠ gb111 ∧ k_ ≠ g)))) _ _ t124 t129 t130 t131 _ ?side1 ?side2 A16.out).mono ?_); (case side1 => exact Kd.N_V (HO119.out)); (case side2 => exact Kd.N_V (HO126.out)); rintro e w21 ⟨v132, rfl, ho0, hb⟩; refine ⟨_, rfl, ?_⟩; have n0_ := aK (Kd.N_elder' HO108.out (Kd.N_base ho0) hb); have n1_ := aK (Kd.N_elder' HO119.out (Kd.N_base ho0) hb); have n2_ := aK (Kd.N_elder' HO126.out (Kd.N_base ho0) hb); have n3_ := aK (Kd.N_lower (Kd.N_mono (ok' := fun k_ => some k_ ≠ (.slice Ao11 t106.length co11 : Value).ownBlock ∧ k_ ≠ gb111 ∧ k_ ≠ g) ho0 (fun k_ hk_ => ⟨Or.elim hk_ (fun hs_ => Or.elim hs_ (fun hs_ => hs_.1.1) (fun hs_ => hs_.1)) (fun hn_ => (Kd.fresh' (Kd.N_lt HO108.out) k_ hn_)), Or.elim hk_ (fun hs_ => Or.elim hs_ (fun hs_ => hs_.1.2.1) (fun hs_ => hs_.2.2.1)) (fun hn_ => (Kd.freshB BK111.out k_ hn_)), Or.elim hk_ (fun hs_ => Or.elim hs_ (fun hs_ => hs_.1.2.2) (fun hs_ => hs_.2.2.2)) (fun hn_ => (IsS61.fresh (yI HI0) k_ hn_))⟩)) (keep_size (w := w) (g := g) (row := none) (yK HK))); have n4_ := aK (IsS61.below (yI HI0) hb); have n5_ := aK (blk_below BK111.out hb); have n6_ := aK (KeepBut.trans (yK HK) (KeepBut.of_below hb g none) (.inl rfl)); have n7_ := aK (below_step (yH HB) hb); clear HO108; clear HO119; clear HO126; clear HI0; clear BK111; clear HK; clear HB; have HO108 := n0_; have HO119 := n1_; have HO126 := n2_; have HO133 := n3_; have HI0 := n4_; have BK111 := n5_; have HK := n6_; have HB := n7_; clear n0_ n1_ n2_ n3_ n4_ n5_ n6_ n7_; (try clear hb); (try clear ho0); have hnb22 := NB111_0.out; have hnc22 := NB0_111.out; obtain ⟨hcz23_0, hcz23_1, hcz23_2, hfz23_0, hfz23_1, hfz23_2⟩ := cA3 BK111; obtain ⟨Ao24, co24, eo24⟩ := Kd.N_slice HO133.out; subst eo24))
   go_meet
   case rel => exact ⟨_, (t127), (t128), (t129), (t130), (t131), (.slice Ao24 t131.length co24), H', ⟨by first | omega | exact Nat.le_refl _⟩, ⟨by (with_reducible repeat (first | apply Kd.N_alloc | apply Kd.N_drewN | apply Kd.N_drew)); exact Kd.N_mono (nF3 gb111 (Kd.N_mono HO133.out (fun k_ hk => (⟨hk, hk.2.1⟩ : _ ∧ k_ ≠ gb111))) (fun _ hk => hk.2)) (fun _ hk => ⟨hk.1.2.1, hk.1.2.2⟩)⟩, ⟨p3 BK111⟩, ⟨yI HI0⟩, ⟨yK HK⟩, ⟨yH HB⟩⟩
  ·rw [if_neg c13] at H
   have c13b0 : (t112 == 0) = false := beq_eq_false_iff_ne.mpr c13
   have c13b1 : (t112 != 0) = true := bne_iff_ne.mpr c13
   (first | rw [c13b0] | (simp only [i64_w, i32_w]; rw [c13b0]) | skip)
   by_cases c25 : t112 = 1
   ·rw [if_pos c25] at H
    have c25b0 : (t112 == 1) = true := beq_iff_eq.mpr c25
    have c25b1 : (t112 != 1) = false := bne_eq_false_iff_eq.mpr c25
    clear c25
    replace H := Option.bind_eq_some_iff.mp H
    obtain ⟨⟨t134, t135, t136, t139, t140⟩, A260, H⟩ := H
    try dsimp only at H
    have A26 := aK A260
    clear A260
    replace H := Option.bind_eq_some_iff.mp H
    obtain ⟨⟨t141, t142, t143⟩, A270, H⟩ := H
    try dsimp only at H
    have A27 := aK A270
    clear A270
    have H' := aK H
    clear H
    try go_wp2
    have n0_ := aK (Kd.N_drew HO108.out)
    have n1_ := aK (blk_drew BK111.out)
    have n2_ := aK (IsS61.drew HI0.out)
    have n3_ := aK (keep_drew HK.out)
    have n4_ := aK (below_drew1 HB.out)
    clear HO108
    clear BK111
    clear HI0
    clear HK
    clear HB
    have HO108 := n0_
    have BK111 := n1_
    have HI0 := n2_
    have HK := n3_
    have HB := n4_
    clear n0_ n1_ n2_ n3_ n4_
    refine start_ (n := 5) (S := fun w' => w'.cell? ⟨gb111, 0, none⟩ = some (.int .i64 t104) ∧ w'.cell? ⟨gb111, 1, none⟩ = some (.int .i64 t105) ∧ w'.cell? ⟨gb111, 2, none⟩ = some (.slice Ao11 t106.length co11)) (ds := [4]) (bs 0 5) (by kernel_rfl) rfl rfl ⟨(blk_cell BK111.out 0).trans rfl, (blk_cell BK111.out 1).trans rfl, (blk_cell BK111.out 2).trans rfl⟩ (fun hHeld => ?_)
    generalize w12.drew = w28 at HO108 BK111 HI0 HK HB hHeld ⊢
    refine pure_ (i := 0) (N := some 21) (v := ?_) (a' := ?_) (bs 1 4) rfl rfl (by kernel_rfl) (fun _ _ _ h => h) (Or.inl ⟨by rfl, ?_⟩) ?_ ?_
    rotate_left
    ·intro w'
     go_simp
     with_reducible rfl
    rotate_left
    ·simp only [sP, i64_w, i32_w]
     rfl
    refine take_ (i := 2) (N := some 23) (v := ?_) (a' := ?_) #[true, false, true, false, false] rfl rfl (by kernel_rfl) (fun _ _ _ h => h) (Or.inl ⟨by rfl, ?_⟩) hHeld ?_ ?_
    rotate_left
    ·rintro w' ⟨s0, s1, s2⟩
     go_simp
     with_reducible rfl
    rotate_left
    ·simp only [sP, i64_w, i32_w]
     rfl
    refine one_ (i := 1) (N := some 22) (bs 3 2) rfl rfl (by kernel_rfl) (by decide) (fun K hK => ?_)
    refine goes_ Try.func39 (by kernel_rfl) rfl #[.pointer (some ⟨g, 0, none⟩)] (by rfl) rfl rfl tA ?_
    with_reducible refine (spec_l1Cur_known.calls k g s0_0 t113 t114 t134 t135 t136 t139 t140 w0 _ ?side1 ?side2 A26.out).mono ?_
    (case side1 => exact yI HI0)
    (case side2 => exact yH HB)
    rintro e w29 ⟨v137, rfl, ho0, hi, hb, hk⟩
    refine ⟨_, rfl, ?_⟩
    have n0_ := aK (Kd.N_mono (Kd.N_told (Kd.N_oldK (Kd.N_mono (ok := fun k_ => (k_ ≠ g ∧ k_ ≠ gb111)) HO108.out (fun k_ hk_ => (⟨hk_, hk_.1⟩ : _ ∧ k_ ≠ g))) hk) (Kd.N_base ho0)) (fun _ h_ => h_.1))
    have n1_ := aK (KeepBut.blk hk (g' := gb111) (o := .cells #[.int .i64 t104, .int .i64 t105, .slice Ao11 t106.length co11] 54 (0, 0)) BK111.out NB111_0.out (by simp))
    have n2_ := aK (Kd.N_lower (Kd.N_mono (ok' := fun k_ => some k_ ≠ (.slice Ao11 t106.length co11 : Value).ownBlock ∧ k_ ≠ gb111 ∧ k_ ≠ g) ho0 (fun k_ hk_ => ⟨(Kd.fresh' (Kd.N_lt HO108.out) k_ hk_), (Kd.freshB BK111.out k_ hk_), (IsS61.fresh (yI HI0) k_ hk_)⟩)) (keep_size (w := w) (g := g) (row := none) (yK HK)))
    have n3_ := aK (KeepBut.trans (yK HK) hk (.inl rfl))
    have n4_ := aK (hb)
    have n5_ := aK (hi)
    clear HO108
    clear BK111
    clear HK
    clear HB
    clear HI0
    have HO108 := n0_
    have BK111 := n1_
    have HO138 := n2_
    have HK := n3_
    have HB := n4_
    have HI0 := n5_
    clear n0_ n1_ n2_ n3_ n4_ n5_
    (try clear hb)
    (try clear hb2)
    (try clear hk)
    (try clear hi)
    (try clear ho0)
    obtain ⟨Ao30, co30, eo30⟩ := Kd.N_slice HO138.out
    (first | subst eo30 | (injection eo30 with f1_ f2_ f3_; have f4_ := f1_.symm; have f5_ := f3_.symm; clear f1_ f2_ f3_; subst f4_; subst f5_))
    refine hK.out _ _ ⟨(blk_cell BK111.out 0).trans rfl, (blk_cell BK111.out 1).trans rfl, (blk_cell BK111.out 2).trans rfl⟩ (fun hHeld => ?_)
    clear hK K
    refine norm_ (a' := ?_) ?_ ?_
    rotate_left
    ·show Act.put _ (some 22) _ = _
     simp only [sP, i64_w, i32_w]
     rfl
    refine one_ (i := 3) (N := some 24) (bs 4 1) rfl rfl (by kernel_rfl) (by decide) (fun K hK => ?_)
    refine goes_ Try.func38 (by kernel_rfl) rfl #[.agg #[.int .i64 t134, .int .i64 t135, .slice Ao30 t136.length co30], .agg #[.int .i64 t104, .int .i64 t105, .slice Ao11 t106.length co11]] (by rfl) rfl rfl tA ?_
    with_reducible refine (spec_lcApp.calls t134 t135 (fun k_ => (some k_ ≠ (.slice Ao11 t106.length co11 : Value).ownBlock ∧ (k_ ≠ gb111 ∧ k_ ≠ g))) _ _ t136 t104 t105 (fun k_ => ((k_ ≠ g ∧ k_ ≠ gb111) ∧ some k_ ≠ (.slice Ao30 t136.length co30 : Value).ownBlock)) _ _ t106 t141 t142 t143 _ ?side1 ?side2 A27.out).mono ?_
    (case side1 => exact Kd.N_V (HO138.out))
    (case side2 => exact Kd.N_V (HO108.out))
    rintro e w31 ⟨v144, rfl, ho0, hb⟩
    refine ⟨_, rfl, ?_⟩
    have n0_ := aK (Kd.N_elder' HO108.out (Kd.N_base ho0) hb)
    have n1_ := aK (Kd.N_elder' HO138.out (Kd.N_base ho0) hb)
    have n2_ := aK (Kd.N_lower (Kd.N_mono (ok' := fun k_ => k_ ≠ gb111 ∧ k_ ≠ g) ho0 (fun k_ hk_ => ⟨Or.elim hk_ (fun hs_ => Or.elim hs_ (fun hs_ => hs_.2.1) (fun hs_ => hs_.1.2)) (fun hn_ => (Kd.freshB BK111.out k_ hn_)), Or.elim hk_ (fun hs_ => Or.elim hs_ (fun hs_ => hs_.2.2) (fun hs_ => hs_.1.1)) (fun hn_ => (IsS61.fresh (yI HI0) k_ hn_))⟩)) (keep_size (w := w) (g := g) (row := none) (yK HK)))
    have n3_ := aK (IsS61.below (yI HI0) hb)
    have n4_ := aK (blk_below BK111.out hb)
    have n5_ := aK (KeepBut.trans (yK HK) (KeepBut.of_below hb g none) (.inl rfl))
    have n6_ := aK (below_step (yH HB) hb)
    clear HO108
    clear HO138
    clear HI0
    clear BK111
    clear HK
    clear HB
    have HO108 := n0_
    have HO138 := n1_
    have HO145 := n2_
    have HI0 := n3_
    have BK111 := n4_
    have HK := n5_
    have HB := n6_
    clear n0_ n1_ n2_ n3_ n4_ n5_ n6_
    (try clear hb)
    (try clear hb2)
    (try clear hk)
    (try clear hi)
    (try clear ho0)
    obtain ⟨Ao34, co34, eo34⟩ := Kd.N_slice HO145.out
    (first | subst eo34 | (injection eo34 with f1_ f2_ f3_; have f4_ := f1_.symm; have f5_ := f3_.symm; clear f1_ f2_ f3_; subst f4_; subst f5_))
    refine hK.out _ _ ⟨(blk_cell BK111.out 0).trans rfl, (blk_cell BK111.out 1).trans rfl, (blk_cell BK111.out 2).trans rfl⟩ (fun hHeld => ?_)
    clear hK K
    refine norm_ (a' := ?_) ?_ ?_
    rotate_left
    ·show Act.put _ (some 24) _ = _
     simp only [sP, i64_w, i32_w]
     rfl
    refine last_ (i := 4) (N := none) (bs 5 0) rfl rfl (by kernel_rfl) (by decide) (fun K hK => ?_)
    have hs32 : w31.cell? ⟨gb111, 0, none⟩ = some (.int .i64 t104) := (blk_cell BK111.out 0).trans rfl
    have hfs32 := blk_frozen BK111.out 0
    have hs33 : w31.cell? ⟨gb111, 1, none⟩ = some (.int .i64 t105) := (blk_cell BK111.out 1).trans rfl
    have hfs33 := blk_frozen BK111.out 1
    have hs35 : w31.cell? ⟨gb111, 2, none⟩ = some (.slice Ao11 t106.length co11) := (blk_cell BK111.out 2).trans rfl
    have hfs35 := blk_frozen BK111.out 2
    refine skip_ (w1 := ?_) (by rfl) rfl ?_ ?_
    rotate_left
    ·go_simp
     rfl
    refine hK.out _ _ ?_
    clear hK K
    refine done_ (by kernel_rfl) ?_
    try go_wp2
    go_meet
    case rel => exact ⟨_, (t139), (t140), (t141), (t142), (t143), (.slice Ao34 t143.length co34), H', ⟨by first | omega | exact Nat.le_refl _⟩, ⟨by (with_reducible repeat (first | apply Kd.N_alloc | apply Kd.N_drewN | apply Kd.N_drew)); exact Kd.N_mono (nF3 gb111 (Kd.N_mono HO145.out (fun k_ hk => (⟨hk, hk.1⟩ : _ ∧ k_ ≠ gb111))) (fun _ hk => hk.2)) (fun _ hk => ⟨hk.1.1, hk.1.2⟩)⟩, ⟨p3 BK111⟩, ⟨yI HI0⟩, ⟨yK HK⟩, ⟨yH HB⟩⟩
   ·rw [if_neg c25] at H
    have c25b0 : (t112 == 1) = false := beq_eq_false_iff_ne.mpr c25
    have c25b1 : (t112 != 1) = true := bne_iff_ne.mpr c25
    have H' := aK H
    clear H
    go_wp2
    go_meet
    case rel => exact ⟨_, (t113), (t114), (t104), (t105), (t106), (.slice Ao11 t106.length co11), H', ⟨by first | omega | exact Nat.le_refl _⟩, ⟨by (with_reducible repeat (first | apply Kd.N_alloc | apply Kd.N_drewN | apply Kd.N_drew)); exact Kd.N_mono HO108.out (fun _ hk => ⟨hk.2, hk.1⟩)⟩, ⟨pB BK111⟩, ⟨yI HI0⟩, ⟨yK HK⟩, ⟨yH HB⟩⟩
 case rest =>
  clear HC5
  try clear c1; try clear c2; try clear p2; try clear c3; try clear p6; try clear c9; try clear c13; try clear c13b0; try clear c13b1; try clear c18; try clear c22; try clear c25; try clear c25b0; try clear c25b1; try clear hcz10_0 hcz10_1 hcz10_2 hfz10_0 hfz10_1 hfz10_2; try clear hcz23_0 hcz23_1 hcz23_2 hfz23_0 hfz23_1 hfz23_2
  obtain ⟨kq, x1001_4, x1002_4, x112000_4, x112001_4, x112002_4, u112002, HA, HJ4, HO_112002, BK111, HI0, HK, HB⟩ := hcut
  cases kq with
  | zero => exact absurd HA.out (by simp [spec_l1Cur_terms.j0])
  | succ kj4 =>
   have H := HA.out
   clear HA
   simp only [spec_l1Cur_terms.j0] at H
   replace H := Option.bind_eq_some_iff.mp H
   obtain ⟨t146, A360, H⟩ := H
   try dsimp only at H
   have A36 := aK A360
   clear A360
   replace H := Option.bind_eq_some_iff.mp H
   obtain ⟨⟨t149, t150, t151⟩, A370, H⟩ := H
   try dsimp only at H
   have A37 := aK A370
   clear A370
   by_cases c38 : t149 = 0
   ·rw [if_pos c38] at H
    have c38b0 : (t149 == 0) = true := beq_iff_eq.mpr c38
    have c38b1 : (t149 != 0) = false := bne_eq_false_iff_eq.mpr c38
    clear c38
    obtain ⟨y152, hy152⟩ : ∃ y_ : List Int, y_ = (([(-1), 99, 100] : List Int)) := ⟨_, rfl⟩
    replace H : ((spec_l1Cur_among.f s0_0 t150 t151 y152).bind fun bt155 => (if 0 ≤ (wrap64 ((t146.length : Int) - 1)) then (if (wrap64 ((t146.length : Int) - 1)) < (t146.length : Int) then (some ((t146.set ((wrap64 ((t146.length : Int) - 1)) : Int).toNat (⟨(rd_T70 t146 (wrap64 ((t146.length : Int) - 1))).f0, bt155.1, (rd_T70 t146 (wrap64 ((t146.length : Int) - 1))).f2⟩ : S70)), bt155.2.1, bt155.2.2)) else (none)) else (none))) = some (r1, r2, r3) := by first | (rw [hy152]; with_reducible exact H) | (have H2_ := (Option.bind_some _ _).symm.trans H; rw [hy152]; with_reducible exact H2_) | (have H2_ := (Option.bind_some _ _).symm.trans H; with_reducible exact H2_) | with_reducible exact H | (rw [hy152]; exact H) | exact H
    have Ny152 := aK hy152
    clear hy152
    replace H := Option.bind_eq_some_iff.mp H
    obtain ⟨⟨t155, t156, t157⟩, A390, H⟩ := H
    try dsimp only at H
    have A39 := aK A390
    clear A390
    obtain ⟨ji40, hji40⟩ : ∃ j_ : Int, (wrap64 ((t146.length : Int) - 1)) = j_ := ⟨_, rfl⟩
    replace H : (if 0 ≤ (ji40) then (if (ji40) < (t146.length : Int) then (some ((t146.set ((ji40) : Int).toNat (⟨(rd_T70 t146 (ji40)).f0, t155, (rd_T70 t146 (ji40)).f2⟩ : S70)), t156, t157)) else (none)) else (none)) = some (r1, r2, r3) := by first | (rw [hji40] at H; exact H) | (simp only [hji40] at H ⊢; exact H)
    (try rw [hji40] at A36)
    (try rw [hji40] at A37)
    (try rw [hji40] at A39)
    have hji40w : (IntKind.i64.wrap ((t146.length : Int) - 1)) = ji40 := (i64_w _).trans hji40
    by_cases c41 : 0 ≤ (ji40)
    ·rw [if_pos c41] at H
     have c41b0 : decide (0 ≤ (ji40)) = true := decide_eq_true c41
     clear c41
     by_cases c42 : (ji40) < (t146.length : Int)
     ·rw [if_pos c42] at H
      have c42b0 : decide ((ji40) < (t146.length : Int)) = true := decide_eq_true c42
      clear c42
      obtain ⟨y158, hy158⟩ : ∃ y_ : List (S70), y_ = (t146.set ((ji40) : Int).toNat (⟨(rd_T70 t146 (ji40)).f0, t155, (rd_T70 t146 (ji40)).f2⟩ : S70)) := ⟨_, rfl⟩
      replace H : (some (y158, t156, t157)) = some (r1, r2, r3) := by first | (rw [hy158]; with_reducible exact H) | (have H2_ := (Option.bind_some _ _).symm.trans H; rw [hy158]; with_reducible exact H2_) | (have H2_ := (Option.bind_some _ _).symm.trans H; with_reducible exact H2_) | with_reducible exact H | (rw [hy158]; exact H) | exact H
      have Ny158 := aK hy158
      clear hy158
      simp only [Option.some.injEq, Prod.mk.injEq] at H
      obtain ⟨rfl, rfl, rfl⟩ := H
      have hnb44 := NB111_0.out
      have hnc44 := NB0_111.out
      obtain ⟨hcz45_0, hcz45_1, hcz45_2, hfz45_0, hfz45_1, hfz45_2⟩ := cA3 BK111
      obtain ⟨Ao46, co46, eo46⟩ := Kd.N_slice HO_112002.out
      subst eo46
      go_wp2_with (first | ((with_reducible refine gate_callee (f := 40) rfl ?_); refine goesL_ (some 26) rfl rfl Try.func40 (by kernel_rfl) rfl #[.slice none 0 0, .agg #[.int .i64 x112000_4, .int .i64 x112001_4, .slice Ao46 x112002_4.length co46], .int .i64 (-1)] rfl tA ?_; (refine (spec_lcFlat.calls kj4 _ _ ([] : List (S70)) x112000_4 x112001_4 _ _ x112002_4 (-1) t146 _ ?side1 ?side2 ?side3 ?side4 A36.out).mono ?_); (case side1 => exact rfl); (case side2 => exact Nat.le_refl _); (case side3 => exact sC ((Kd.N_reads' HO_112002.out).2.2)); (case side4 => exact (Kd.N_reads' HO_112002.out).2.1); rintro e w47 ⟨v147, rfl, ho0, hb⟩; refine ⟨_, rfl, ?_⟩; have n0_ := aK (Kd.N_elder' HO_112002.out (Kd.R_base ho0) hb); have n1_ := aK (Kd.R_lower ho0 (keep_size (w := w) (g := g) (row := none) (yK HK))); have n2_ := aK (blk_below BK111.out hb); have n3_ := aK (IsS61.below (yI HI0) hb); have n4_ := aK (KeepBut.trans (yK HK) (KeepBut.of_below hb g none) (.inl rfl)); have n5_ := aK (below_step (yH HB) hb); clear HO_112002; clear BK111; clear HI0; clear HK; clear HB; have HO_112002 := n0_; have HO148 := n1_; have BK111 := n2_; have HI0 := n3_; have HK := n4_; have HB := n5_; clear n0_ n1_ n2_ n3_ n4_ n5_; (try clear hb); (try clear ho0)) | ((with_reducible refine gate_callee (f := 37) rfl ?_); refine goesL_ (some 28) rfl rfl Try.func37 (by kernel_rfl) rfl #[.pointer (some ⟨g, 0, none⟩), .int .i64 40] rfl tA ?_; (with_reducible refine (spec_l1Cur_pick.calls g s0_0 x1001_4 x1002_4 40 t149 t150 t151 w0 _ ?side1 ?side2 A37.out).mono ?_); (case side1 => exact yI HI0); (case side2 => exact yH HB); rintro e w48 ⟨rfl, hi, hb, hk⟩; refine ⟨_, rfl, ?_⟩; have n0_ := aK (Kd.N_mono (Kd.N_keep (Kd.N_mono (ok := fun k_ => ((k_ ≠ gb111 ∧ k_ ≠ g) ∧ some k_ ≠ (v147 : Value).ownBlock)) HO_112002.out (fun k_ hk_ => (⟨hk_, hk_.1.2⟩ : _ ∧ k_ ≠ g))) hk (fun _ h => h.2)) (fun _ h => h.1)); have n1_ := aK (KeepBut.blk hk (g' := gb111) (o := .cells #[.int .i64 x112000_4, .int .i64 x112001_4, .slice Ao46 x112002_4.length co46] 54 (0, 0)) BK111.out NB111_0.out (by simp)); have n2_ := aK (Kd.R_mono (Kd.R_keep (IsS61.apart (show IsS61 w0 _ g s0_0 x1001_4 x1002_4 from by repeat (first | (with_reducible first | exact HI0.out | apply IsS61.alloc | apply IsS61.drewN | apply IsS61.drew | apply IsS61.set_1 | apply IsS61.set_2 | refine IsS61.far ?_ NB0_111.out _) | exact HI0.out)) HO148.out (by decide)) hk (fun _ h => h.2)) (fun _ h => h.1)); have n3_ := aK (KeepBut.trans (yK HK) hk (.inl rfl)); have n4_ := aK (hb); have n5_ := aK (hi); clear HO_112002; clear BK111; clear HO148; clear HK; clear HB; clear HI0; have HO_112002 := n0_; have BK111 := n1_; have HO148 := n2_; have HK := n3_; have HB := n4_; have HI0 := n5_; clear n0_ n1_ n2_ n3_ n4_ n5_; (try clear hb); obtain ⟨Ao49, co49, eo49⟩ := Kd.R_slice HO148.out; subst eo49) | ((with_reducible refine gate_dst (N := 36) rfl ?_); refine Kd.R_lit (Kd.int .i64) _ 3 ?hg (N := 36) ?hd (xs := ([(-1), 99, 100] : List Int)) (inner := [.int .i64 (-1), .int .i64 99, .int .i64 100]) (ok := fun _ => True) (okp := fun _ => True) ?hr ?hp (fun _ hk => hk) trivial (Below.refl _ _) (Nat.le_refl _) (by simp) ?_; (case hd => rfl); (case hg => rfl); (case hr => go_simp); (case hp => exact (Reps.one (show Kd.M (Kd.int .i64) _ _ _ (-1) [.int .i64 (-1)] from rfl) (Reps.one (show Kd.M (Kd.int .i64) _ _ _ 99 [.int .i64 99] from rfl) (Reps.one (show Kd.M (Kd.int .i64) _ _ _ 100 [.int .i64 100] from rfl) (Reps.none _ _))))); intro v153 w50 ho51 hb hg_ hnew_; clear hg_ hnew_; (first | rw [← Ny152.out] at ho51 | (simp only [Int.reduceToNat] at ho51; rw [← Ny152.out] at ho51)); have n0_ := aK (Kd.N_elder' HO_112002.out (Kd.R_base ho51) hb); have n1_ := aK (Kd.R_below HO148.out hb); have n2_ := aK (Kd.R_lower ho51 (keep_size (w := w) (g := g) (row := none) (yK HK))); have n3_ := aK (blk_below BK111.out hb); have n4_ := aK (IsS61.below (yI HI0) hb); have n5_ := aK (KeepBut.trans (yK HK) (KeepBut.of_below hb g none) (.inl rfl)); have n6_ := aK (below_step (yH HB) hb); clear HO_112002; clear HO148; clear BK111; clear HI0; clear HK; clear HB; have HO_112002 := n0_; have HO148 := n1_; have HO154 := n2_; have BK111 := n3_; have HI0 := n4_; have HK := n5_; have HB := n6_; clear n0_ n1_ n2_ n3_ n4_ n5_ n6_; clear hb ho51; obtain ⟨Ao52, co52, eo52⟩ := Kd.R_slice HO154.out; subst eo52) | ((with_reducible refine gate_callee (f := 41) rfl ?_); refine goesL_ (some 37) rfl rfl Try.func41 (by kernel_rfl) rfl #[.pointer (some ⟨g, 0, none⟩), .slice Ao52 y152.length co52] rfl tA ?_; (with_reducible refine (spec_l1Cur_among.calls g s0_0 t150 t151 _ _ y152 t155 t156 t157 w0 _ ?side1 ?side2 ?side3 ?side4 ?side5 A39.out).mono ?_); (case side1 => exact yI HI0); (case side2 => exact yH HB); (case side3 => exact sC ((Kd.R_reads' HO154.out).2.2)); (case side4 => exact (Kd.R_reads' HO154.out).2.1); (case side5 => exact far_slice (IsS61.own_ne HI0.out HO154.out (by decide))); rintro e w53 ⟨rfl, hi, hb, hk⟩; refine ⟨_, rfl, ?_⟩; have n0_ := aK (Kd.N_mono (Kd.N_keep (Kd.N_mono (ok := fun k_ => (((k_ ≠ gb111 ∧ k_ ≠ g) ∧ some k_ ≠ (.slice Ao49 t146.length co49 : Value).ownBlock) ∧ some k_ ≠ (.slice Ao52 y152.length co52 : Value).ownBlock)) HO_112002.out (fun k_ hk_ => (⟨hk_, hk_.1.1.2⟩ : _ ∧ k_ ≠ g))) hk (fun _ h => h.2)) (fun _ h => h.1)); have n1_ := aK (KeepBut.blk hk (g' := gb111) (o := .cells #[.int .i64 x112000_4, .int .i64 x112001_4, .slice Ao46 x112002_4.length co46] 54 (0, 0)) BK111.out NB111_0.out (by simp)); have n2_ := aK (Kd.R_mono (Kd.R_keep (IsS61.apart (show IsS61 w0 _ g s0_0 t150 t151 from by repeat (first | (with_reducible first | exact HI0.out | apply IsS61.alloc | apply IsS61.drewN | apply IsS61.drew | apply IsS61.set_1 | apply IsS61.set_2 | refine IsS61.far ?_ NB0_111.out _) | exact HI0.out)) HO148.out (by decide)) hk (fun _ h => h.2)) (fun _ h => h.1)); have n3_ := aK (Kd.R_mono (Kd.R_keep (IsS61.apart (show IsS61 w0 _ g s0_0 t150 t151 from by repeat (first | (with_reducible first | exact HI0.out | apply IsS61.alloc | apply IsS61.drewN | apply IsS61.drew | apply IsS61.set_1 | apply IsS61.set_2 | refine IsS61.far ?_ NB0_111.out _) | exact HI0.out)) HO154.out (by decide)) hk (fun _ h => h.2)) (fun _ h => h.1)); have n4_ := aK (KeepBut.trans (yK HK) hk (.inl rfl)); have n5_ := aK (hb); have n6_ := aK (hi); clear HO_112002; clear BK111; clear HO148; clear HO154; clear HK; clear HB; clear HI0; have HO_112002 := n0_; have BK111 := n1_; have HO148 := n2_; have HO154 := n3_; have HK := n4_; have HB := n5_; have HI0 := n6_; clear n0_ n1_ n2_ n3_ n4_ n5_ n6_; (try clear hb); have p43 : 0 ≤ ((ji40) : Int) := dA; have q43 : ((ji40) : Int) < ((t146.length : Int) : Int) := dA; obtain ⟨go43, co43, eo43, gb43, gl43, cl43, HG43⟩ := Kd.R_form HO148.out (by omega); (first | cases eo43 | (injection eo43 with ea_ en_ ec_; (first | subst ea_ | (injection ea_ with ea_; subst ea_)); subst ec_; clear en_)); have GB43 := aK gb43; have GG43 := aK HG43; clear gb43 gl43 HG43; obtain ⟨ce43, hcl43, hM43, hcc43, hfr43⟩ := Kd.R_elem HO148.out z70 ((ji40) : Int) p43 q43; obtain rfl := k70_openM hM43; have hx43_0 : w53.cell? ⟨go43, ((ji40) : Int).toNat * 3, none⟩ = some (.int .i64 ((rd_T70 t146 (ji40)).f0)) := hcc43 0 _ rfl; have hx43_1 : w53.cell? ⟨go43, ((ji40) : Int).toNat * 3 + 1, none⟩ = some (.int .i64 ((rd_T70 t146 (ji40)).f1)) := hcc43 1 _ rfl; have hx43_2 : w53.cell? ⟨go43, ((ji40) : Int).toNat * 3 + 2, none⟩ = some (.int .i64 ((rd_T70 t146 (ji40)).f2)) := hcc43 2 _ rfl; have hf43_0 : w53.frozen? ⟨go43, ((ji40) : Int).toNat * 3, none⟩ = false := hfr43 0; have hf43_1 : w53.frozen? ⟨go43, ((ji40) : Int).toNat * 3 + 1, none⟩ = false := hfr43 1; have hf43_2 : w53.frozen? ⟨go43, ((ji40) : Int).toNat * 3 + 2, none⟩ = false := hfr43 2; clear hcl43 hcc43 hfr43 hM43; replace p43 := eq_true p43; replace q43 := eq_true q43; have HX54 := aK (show Kd.R k70 70 w53 w.heap.size (fun _ => True) (.slice (some ⟨go43, 0, none⟩) t146.length co49) t146 from HO148.out); obtain ⟨ce54, hcl54, hM54, hcc54, hfr54⟩ := Kd.R_elem HX54.out z70 ((ji40) : Int) (dA) (by have h_ : ((ji40) : Int) < ((t146.length : Int) : Int) := dA; first | exact h_ | (have e_ := (Kd.R_reads' HO148.out).1; omega) | simpa using h_); obtain rfl := k70_openM hM54; have HP54 := Kd.R_seg HX54.out ((ji40) : Int) (dA) (by have h_ : ((ji40) : Int) < ((t146.length : Int) : Int) := dA; first | exact h_ | (have e_ := (Kd.R_reads' HO148.out).1; omega) | simpa using h_) (seg := [.int .i64 t155]) (j := 1) hcl54 hcc54 (show 2 ≤ 3 from by decide) (x' := (⟨(rd_T70 t146 (ji40)).f0, t155, (rd_T70 t146 (ji40)).f2⟩ : S70)) (k70_mkM _ _ _ (⟨(rd_T70 t146 (ji40)).f0, t155, (rd_T70 t146 (ji40)).f2⟩ : S70) ) (fun _ hk => hk); have hx54_1 := hcc54 1 _ rfl; (try simp only [show (k70).sz = 3 from rfl, Nat.mul_one, Nat.add_zero] at hx54_1); have hf54_1 := hfr54 1; (try simp only [show (k70).sz = 3 from rfl, Nat.mul_one, Nat.add_zero] at hf54_1); clear hcl54 hcc54 hfr54 hM54) | ((with_reducible refine gate_store (t := 3) (p := 39) rfl ?_); refine store_event (t := 3) (p := 39) (v := ?vo_w55) (w1 := (w53.setCell ⟨go43, ((ji40) : Int).toNat * 3 + 1, none⟩ (.int .i64 t155))) ?hg ?ho ?hn ?hr ?_; (case ho => rfl); (case hg => rfl); (case hn => rfl); (case hr => first | (go_simp; done) | (go_simp; rfl)); intro w55 hw; have hg : w53.grownBy w55 (some go43) := (by rw [hw]; exact HP54.2); have hp_ : Kd.R k70 70 w55 w.heap.size (fun _ => True) (.slice (some ⟨go43, 0, none⟩) t146.length co49) y158 := (by rw [hw, Ny158.out]; exact HP54.1); clear HP54; have n0_ := aK (Kd.N_afterv (v := (.slice (some ⟨go43, 0, none⟩) t146.length co49)) (v1 := (.slice (some ⟨go43, 0, none⟩) t146.length co49)) (ok := (fun k_ => some k_ ≠ (.slice Ao52 y152.length co52 : Value).ownBlock ∧ k_ ≠ gb111 ∧ k_ ≠ g)) (by (with_reducible repeat (first | apply Kd.N_alloc | apply Kd.N_drewN | apply Kd.N_drew)); exact Kd.N_mono HO_112002.out (fun _ hk => ⟨⟨hk.2, ⟨hk.1.1.1, hk.1.1.2⟩⟩, hk.1.2⟩)) hg (.inl rfl)); have n1_ := aK (blk_grown BK111.out hg (Kd.R_ne HO148.out BK111.out (by decide))); have n2_ := aK (IsS61.grown (yI HI0) hg (IsS61.own_ne HI0.out HO148.out (by decide))); have n3_ := aK (hp_); have n4_ := aK (Kd.R_over' (v := (.slice (some ⟨go43, 0, none⟩) t146.length co49)) HO154.out (Kd.R_typed HO148.out) (by decide) hg); have n5_ := aK ((by rw [hw]; exact below_set (HB.out) (Nat.le_trans HL.out GB43.out) : Below w0.heap.size w0 w55)); have n6_ := aK (KeepBut.trans (yK HK) (KeepBut.of_grown hg g) (Kd.R_base2 HO148.out)); clear HO_112002; clear BK111; clear HI0; clear HO148; clear HO154; clear HB; clear HK; have HO_112002 := n0_; have BK111 := n1_; have HI0 := n2_; have HO148 := n3_; have HO154 := n4_; have HB := n5_; have HK := n6_; clear n0_ n1_ n2_ n3_ n4_ n5_ n6_; clear hg hw hp_))
      go_ret
      exact ⟨_, by first | rfl | (simp [errW_none, errW_some] <;> rfl) | (simp only [← hji40]; first | rfl | (simp [errW_none, errW_some] <;> rfl)) | (simp [*, errW_none, errW_some] <;> rfl), by (with_reducible repeat (first | apply Kd.R_alloc | apply Kd.R_drewN | apply Kd.R_drew)); exact HO148.out, yI HI0, yH HB, yK HK⟩
     ·rw [if_neg c42] at H
      exact absurd H (by simp)
    ·rw [if_neg c41] at H
     exact absurd H (by simp)
   ·rw [if_neg c38] at H
    have c38b0 : (t149 == 0) = false := beq_eq_false_iff_ne.mpr c38
    have c38b1 : (t149 != 0) = true := bne_iff_ne.mpr c38
    by_cases c56 : t149 = 1
    ·rw [if_pos c56] at H
     have c56b0 : (t149 == 1) = true := beq_iff_eq.mpr c56
     have c56b1 : (t149 != 1) = false := bne_eq_false_iff_eq.mpr c56
     clear c56
     replace H := Option.bind_eq_some_iff.mp H
     obtain ⟨⟨t159, t160, t161⟩, A570, H⟩ := H
     try dsimp only at H
     have A57 := aK A570
     clear A570
     obtain ⟨ji58, hji58⟩ : ∃ j_ : Int, (wrap64 ((t146.length : Int) - 1)) = j_ := ⟨_, rfl⟩
     replace H : (if 0 ≤ (ji58) then (if (ji58) < (t146.length : Int) then (some ((t146.set ((ji58) : Int).toNat (⟨(rd_T70 t146 (ji58)).f0, (rd_T70 t146 (ji58)).f1, wrap64 (t159 - 1)⟩ : S70)), t160, t161)) else (none)) else (none)) = some (r1, r2, r3) := by first | (rw [hji58] at H; exact H) | (simp only [hji58] at H ⊢; exact H)
     (try rw [hji58] at A36)
     (try rw [hji58] at A37)
     (try rw [hji58] at A57)
     have hji58w : (IntKind.i64.wrap ((t146.length : Int) - 1)) = ji58 := (i64_w _).trans hji58
     by_cases c59 : 0 ≤ (ji58)
     ·rw [if_pos c59] at H
      have c59b0 : decide (0 ≤ (ji58)) = true := decide_eq_true c59
      clear c59
      by_cases c60 : (ji58) < (t146.length : Int)
      ·rw [if_pos c60] at H
       have c60b0 : decide ((ji58) < (t146.length : Int)) = true := decide_eq_true c60
       clear c60
       obtain ⟨y162, hy162⟩ : ∃ y_ : List (S70), y_ = (t146.set ((ji58) : Int).toNat (⟨(rd_T70 t146 (ji58)).f0, (rd_T70 t146 (ji58)).f1, wrap64 (t159 - 1)⟩ : S70)) := ⟨_, rfl⟩
       replace H : (some (y162, t160, t161)) = some (r1, r2, r3) := by first | (rw [hy162]; with_reducible exact H) | (have H2_ := (Option.bind_some _ _).symm.trans H; rw [hy162]; with_reducible exact H2_) | (have H2_ := (Option.bind_some _ _).symm.trans H; with_reducible exact H2_) | with_reducible exact H | (rw [hy162]; exact H) | exact H
       have Ny162 := aK hy162
       clear hy162
       simp only [Option.some.injEq, Prod.mk.injEq] at H
       obtain ⟨rfl, rfl, rfl⟩ := H
       have hnb62 := NB111_0.out
       have hnc62 := NB0_111.out
       obtain ⟨hcz63_0, hcz63_1, hcz63_2, hfz63_0, hfz63_1, hfz63_2⟩ := cA3 BK111
       obtain ⟨Ao64, co64, eo64⟩ := Kd.N_slice HO_112002.out
       subst eo64
       go_wp2_with (first | ((with_reducible refine gate_callee (f := 40) rfl ?_); refine goesL_ (some 26) rfl rfl Try.func40 (by kernel_rfl) rfl #[.slice none 0 0, .agg #[.int .i64 x112000_4, .int .i64 x112001_4, .slice Ao64 x112002_4.length co64], .int .i64 (-1)] rfl tA ?_; (refine (spec_lcFlat.calls kj4 _ _ ([] : List (S70)) x112000_4 x112001_4 _ _ x112002_4 (-1) t146 _ ?side1 ?side2 ?side3 ?side4 A36.out).mono ?_); (case side1 => exact rfl); (case side2 => exact Nat.le_refl _); (case side3 => exact sC ((Kd.N_reads' HO_112002.out).2.2)); (case side4 => exact (Kd.N_reads' HO_112002.out).2.1); rintro e w65 ⟨v147, rfl, ho0, hb⟩; refine ⟨_, rfl, ?_⟩; have n0_ := aK (Kd.N_elder' HO_112002.out (Kd.R_base ho0) hb); have n1_ := aK (Kd.R_lower ho0 (keep_size (w := w) (g := g) (row := none) (yK HK))); have n2_ := aK (blk_below BK111.out hb); have n3_ := aK (IsS61.below (yI HI0) hb); have n4_ := aK (KeepBut.trans (yK HK) (KeepBut.of_below hb g none) (.inl rfl)); have n5_ := aK (below_step (yH HB) hb); clear HO_112002; clear BK111; clear HI0; clear HK; clear HB; have HO_112002 := n0_; have HO148 := n1_; have BK111 := n2_; have HI0 := n3_; have HK := n4_; have HB := n5_; clear n0_ n1_ n2_ n3_ n4_ n5_; (try clear hb); (try clear ho0)) | ((with_reducible refine gate_callee (f := 37) rfl ?_); refine goesL_ (some 28) rfl rfl Try.func37 (by kernel_rfl) rfl #[.pointer (some ⟨g, 0, none⟩), .int .i64 40] rfl tA ?_; (with_reducible refine (spec_l1Cur_pick.calls g s0_0 x1001_4 x1002_4 40 t149 t150 t151 w0 _ ?side1 ?side2 A37.out).mono ?_); (case side1 => exact yI HI0); (case side2 => exact yH HB); rintro e w66 ⟨rfl, hi, hb, hk⟩; refine ⟨_, rfl, ?_⟩; have n0_ := aK (Kd.N_mono (Kd.N_keep (Kd.N_mono (ok := fun k_ => ((k_ ≠ gb111 ∧ k_ ≠ g) ∧ some k_ ≠ (v147 : Value).ownBlock)) HO_112002.out (fun k_ hk_ => (⟨hk_, hk_.1.2⟩ : _ ∧ k_ ≠ g))) hk (fun _ h => h.2)) (fun _ h => h.1)); have n1_ := aK (KeepBut.blk hk (g' := gb111) (o := .cells #[.int .i64 x112000_4, .int .i64 x112001_4, .slice Ao64 x112002_4.length co64] 54 (0, 0)) BK111.out NB111_0.out (by simp)); have n2_ := aK (Kd.R_mono (Kd.R_keep (IsS61.apart (show IsS61 w0 _ g s0_0 x1001_4 x1002_4 from by repeat (first | (with_reducible first | exact HI0.out | apply IsS61.alloc | apply IsS61.drewN | apply IsS61.drew | apply IsS61.set_1 | apply IsS61.set_2 | refine IsS61.far ?_ NB0_111.out _) | exact HI0.out)) HO148.out (by decide)) hk (fun _ h => h.2)) (fun _ h => h.1)); have n3_ := aK (KeepBut.trans (yK HK) hk (.inl rfl)); have n4_ := aK (hb); have n5_ := aK (hi); clear HO_112002; clear BK111; clear HO148; clear HK; clear HB; clear HI0; have HO_112002 := n0_; have BK111 := n1_; have HO148 := n2_; have HK := n3_; have HB := n4_; have HI0 := n5_; clear n0_ n1_ n2_ n3_ n4_ n5_; (try clear hb); obtain ⟨Ao67, co67, eo67⟩ := Kd.R_slice HO148.out; subst eo67) | ((with_reducible refine gate_callee (f := 37) rfl ?_); refine goesL_ (some 47) rfl rfl Try.func37 (by kernel_rfl) rfl #[.pointer (some ⟨g, 0, none⟩), .int .i64 4] rfl tA ?_; (with_reducible refine (spec_l1Cur_pick.calls g s0_0 t150 t151 4 t159 t160 t161 w0 _ ?side1 ?side2 A57.out).mono ?_); (case side1 => exact yI HI0); (case side2 => exact yH HB); rintro e w68 ⟨rfl, hi, hb, hk⟩; refine ⟨_, rfl, ?_⟩; have n0_ := aK (Kd.N_mono (Kd.N_keep (Kd.N_mono (ok := fun k_ => ((k_ ≠ gb111 ∧ k_ ≠ g) ∧ some k_ ≠ (.slice Ao67 t146.length co67 : Value).ownBlock)) HO_112002.out (fun k_ hk_ => (⟨hk_, hk_.1.2⟩ : _ ∧ k_ ≠ g))) hk (fun _ h => h.2)) (fun _ h => h.1)); have n1_ := aK (KeepBut.blk hk (g' := gb111) (o := .cells #[.int .i64 x112000_4, .int .i64 x112001_4, .slice Ao64 x112002_4.length co64] 54 (0, 0)) BK111.out NB111_0.out (by simp)); have n2_ := aK (Kd.R_mono (Kd.R_keep (IsS61.apart (show IsS61 w0 _ g s0_0 t150 t151 from by repeat (first | (with_reducible first | exact HI0.out | apply IsS61.alloc | apply IsS61.drewN | apply IsS61.drew | apply IsS61.set_1 | apply IsS61.set_2 | refine IsS61.far ?_ NB0_111.out _) | exact HI0.out)) HO148.out (by decide)) hk (fun _ h => h.2)) (fun _ h => h.1)); have n3_ := aK (KeepBut.trans (yK HK) hk (.inl rfl)); have n4_ := aK (hb); have n5_ := aK (hi); clear HO_112002; clear BK111; clear HO148; clear HK; clear HB; clear HI0; have HO_112002 := n0_; have BK111 := n1_; have HO148 := n2_; have HK := n3_; have HB := n4_; have HI0 := n5_; clear n0_ n1_ n2_ n3_ n4_ n5_; (try clear hb); have p61 : 0 ≤ ((ji58) : Int) := dA; have q61 : ((ji58) : Int) < ((t146.length : Int) : Int) := dA; obtain ⟨go61, co61, eo61, gb61, gl61, cl61, HG61⟩ := Kd.R_form HO148.out (by omega); (first | cases eo61 | (injection eo61 with ea_ en_ ec_; (first | subst ea_ | (injection ea_ with ea_; subst ea_)); subst ec_; clear en_)); have GB61 := aK gb61; have GG61 := aK HG61; clear gb61 gl61 HG61; obtain ⟨ce61, hcl61, hM61, hcc61, hfr61⟩ := Kd.R_elem HO148.out z70 ((ji58) : Int) p61 q61; obtain rfl := k70_openM hM61; have hx61_0 : w68.cell? ⟨go61, ((ji58) : Int).toNat * 3, none⟩ = some (.int .i64 ((rd_T70 t146 (ji58)).f0)) := hcc61 0 _ rfl; have hx61_1 : w68.cell? ⟨go61, ((ji58) : Int).toNat * 3 + 1, none⟩ = some (.int .i64 ((rd_T70 t146 (ji58)).f1)) := hcc61 1 _ rfl; have hx61_2 : w68.cell? ⟨go61, ((ji58) : Int).toNat * 3 + 2, none⟩ = some (.int .i64 ((rd_T70 t146 (ji58)).f2)) := hcc61 2 _ rfl; have hf61_0 : w68.frozen? ⟨go61, ((ji58) : Int).toNat * 3, none⟩ = false := hfr61 0; have hf61_1 : w68.frozen? ⟨go61, ((ji58) : Int).toNat * 3 + 1, none⟩ = false := hfr61 1; have hf61_2 : w68.frozen? ⟨go61, ((ji58) : Int).toNat * 3 + 2, none⟩ = false := hfr61 2; clear hcl61 hcc61 hfr61 hM61; replace p61 := eq_true p61; replace q61 := eq_true q61; have HX69 := aK (show Kd.R k70 70 w68 w.heap.size (fun _ => True) (.slice (some ⟨go61, 0, none⟩) t146.length co67) t146 from HO148.out); obtain ⟨ce69, hcl69, hM69, hcc69, hfr69⟩ := Kd.R_elem HX69.out z70 ((ji58) : Int) (dA) (by have h_ : ((ji58) : Int) < ((t146.length : Int) : Int) := dA; first | exact h_ | (have e_ := (Kd.R_reads' HO148.out).1; omega) | simpa using h_); obtain rfl := k70_openM hM69; have HP69 := Kd.R_seg HX69.out ((ji58) : Int) (dA) (by have h_ : ((ji58) : Int) < ((t146.length : Int) : Int) := dA; first | exact h_ | (have e_ := (Kd.R_reads' HO148.out).1; omega) | simpa using h_) (seg := [.int .i64 (wrap64 (t159 - 1))]) (j := 2) hcl69 hcc69 (show 3 ≤ 3 from by decide) (x' := (⟨(rd_T70 t146 (ji58)).f0, (rd_T70 t146 (ji58)).f1, wrap64 (t159 - 1)⟩ : S70)) (k70_mkM _ _ _ (⟨(rd_T70 t146 (ji58)).f0, (rd_T70 t146 (ji58)).f1, wrap64 (t159 - 1)⟩ : S70) ) (fun _ hk => hk); have hx69_2 := hcc69 2 _ rfl; (try simp only [show (k70).sz = 3 from rfl, Nat.mul_one, Nat.add_zero] at hx69_2); have hf69_2 := hfr69 2; (try simp only [show (k70).sz = 3 from rfl, Nat.mul_one, Nat.add_zero] at hf69_2); clear hcl69 hcc69 hfr69 hM69) | ((with_reducible refine gate_store (t := 3) (p := 50) rfl ?_); refine store_event (t := 3) (p := 50) (v := ?vo_w70) (w1 := (w68.setCell ⟨go61, ((ji58) : Int).toNat * 3 + 2, none⟩ (.int .i64 (wrap64 (t159 - 1))))) ?hg ?ho ?hn ?hr ?_; (case ho => rfl); (case hg => rfl); (case hn => rfl); (case hr => first | (go_simp; done) | (go_simp; rfl)); intro w70 hw; have hg : w68.grownBy w70 (some go61) := (by rw [hw]; exact HP69.2); have hp_ : Kd.R k70 70 w70 w.heap.size (fun _ => True) (.slice (some ⟨go61, 0, none⟩) t146.length co67) y162 := (by rw [hw, Ny162.out]; exact HP69.1); clear HP69; have n0_ := aK (Kd.N_afterv (v := (.slice (some ⟨go61, 0, none⟩) t146.length co67)) (v1 := (.slice (some ⟨go61, 0, none⟩) t146.length co67)) (ok := (fun k_ => k_ ≠ gb111 ∧ k_ ≠ g)) HO_112002.out hg (.inl rfl)); have n1_ := aK (blk_grown BK111.out hg (Kd.R_ne HO148.out BK111.out (by decide))); have n2_ := aK (IsS61.grown (yI HI0) hg (IsS61.own_ne HI0.out HO148.out (by decide))); have n3_ := aK (hp_); have n4_ := aK ((by rw [hw]; exact below_set (HB.out) (Nat.le_trans HL.out GB61.out) : Below w0.heap.size w0 w70)); have n5_ := aK (KeepBut.trans (yK HK) (KeepBut.of_grown hg g) (Kd.R_base2 HO148.out)); clear HO_112002; clear BK111; clear HI0; clear HO148; clear HB; clear HK; have HO_112002 := n0_; have BK111 := n1_; have HI0 := n2_; have HO148 := n3_; have HB := n4_; have HK := n5_; clear n0_ n1_ n2_ n3_ n4_ n5_; clear hg hw hp_))
       go_ret
       exact ⟨_, by first | rfl | (simp [errW_none, errW_some] <;> rfl) | (simp only [← hji58]; first | rfl | (simp [errW_none, errW_some] <;> rfl)) | (simp [*, errW_none, errW_some] <;> rfl), by (with_reducible repeat (first | apply Kd.R_alloc | apply Kd.R_drewN | apply Kd.R_drew)); exact HO148.out, yI HI0, yH HB, yK HK⟩
      ·rw [if_neg c60] at H
       exact absurd H (by simp)
     ·rw [if_neg c59] at H
      exact absurd H (by simp)
    ·rw [if_neg c56] at H
     have c56b0 : (t149 == 1) = false := beq_eq_false_iff_ne.mpr c56
     have c56b1 : (t149 != 1) = true := bne_iff_ne.mpr c56
     by_cases c71 : t149 = 2
     ·rw [if_pos c71] at H
      have c71b0 : (t149 == 2) = true := beq_iff_eq.mpr c71
      have c71b1 : (t149 != 2) = false := bne_eq_false_iff_eq.mpr c71
      clear c71
      replace H := Option.bind_eq_some_iff.mp H
      obtain ⟨⟨t163, t164, t165⟩, A720, H⟩ := H
      try dsimp only at H
      have A72 := aK A720
      clear A720
      by_cases c73 : t146.length < 5864062014805
      ·rw [if_pos c73] at H
       have LMc73 := aK c73
       clear c73
       obtain ⟨y166, hy166⟩ : ∃ y_ : List (S70), y_ = (t146 ++ [(⟨wrap64 (1 + t163), 0, 0⟩ : S70)]) := ⟨_, rfl⟩
       replace H : (some (y166, t164, t165)) = some (r1, r2, r3) := by first | (rw [hy166]; with_reducible exact H) | (have H2_ := (Option.bind_some _ _).symm.trans H; rw [hy166]; with_reducible exact H2_) | (have H2_ := (Option.bind_some _ _).symm.trans H; with_reducible exact H2_) | with_reducible exact H | (rw [hy166]; exact H) | exact H
       have Ny166 := aK hy166
       clear hy166
       simp only [Option.some.injEq, Prod.mk.injEq] at H
       obtain ⟨rfl, rfl, rfl⟩ := H
       have hnb74 := NB111_0.out
       have hnc74 := NB0_111.out
       obtain ⟨hcz75_0, hcz75_1, hcz75_2, hfz75_0, hfz75_1, hfz75_2⟩ := cA3 BK111
       obtain ⟨Ao76, co76, eo76⟩ := Kd.N_slice HO_112002.out
       subst eo76
       go_wp2_with (first | ((with_reducible refine gate_callee (f := 40) rfl ?_); refine goesL_ (some 26) rfl rfl Try.func40 (by kernel_rfl) rfl #[.slice none 0 0, .agg #[.int .i64 x112000_4, .int .i64 x112001_4, .slice Ao76 x112002_4.length co76], .int .i64 (-1)] rfl tA ?_; (refine (spec_lcFlat.calls kj4 _ _ ([] : List (S70)) x112000_4 x112001_4 _ _ x112002_4 (-1) t146 _ ?side1 ?side2 ?side3 ?side4 A36.out).mono ?_); (case side1 => exact rfl); (case side2 => exact Nat.le_refl _); (case side3 => exact sC ((Kd.N_reads' HO_112002.out).2.2)); (case side4 => exact (Kd.N_reads' HO_112002.out).2.1); rintro e w77 ⟨v147, rfl, ho0, hb⟩; refine ⟨_, rfl, ?_⟩; have n0_ := aK (Kd.N_elder' HO_112002.out (Kd.R_base ho0) hb); have n1_ := aK (Kd.R_lower ho0 (keep_size (w := w) (g := g) (row := none) (yK HK))); have n2_ := aK (blk_below BK111.out hb); have n3_ := aK (IsS61.below (yI HI0) hb); have n4_ := aK (KeepBut.trans (yK HK) (KeepBut.of_below hb g none) (.inl rfl)); have n5_ := aK (below_step (yH HB) hb); clear HO_112002; clear BK111; clear HI0; clear HK; clear HB; have HO_112002 := n0_; have HO148 := n1_; have BK111 := n2_; have HI0 := n3_; have HK := n4_; have HB := n5_; clear n0_ n1_ n2_ n3_ n4_ n5_; (try clear hb); (try clear ho0)) | ((with_reducible refine gate_callee (f := 37) rfl ?_); refine goesL_ (some 28) rfl rfl Try.func37 (by kernel_rfl) rfl #[.pointer (some ⟨g, 0, none⟩), .int .i64 40] rfl tA ?_; (with_reducible refine (spec_l1Cur_pick.calls g s0_0 x1001_4 x1002_4 40 t149 t150 t151 w0 _ ?side1 ?side2 A37.out).mono ?_); (case side1 => exact yI HI0); (case side2 => exact yH HB); rintro e w78 ⟨rfl, hi, hb, hk⟩; refine ⟨_, rfl, ?_⟩; have n0_ := aK (Kd.N_mono (Kd.N_keep (Kd.N_mono (ok := fun k_ => ((k_ ≠ gb111 ∧ k_ ≠ g) ∧ some k_ ≠ (v147 : Value).ownBlock)) HO_112002.out (fun k_ hk_ => (⟨hk_, hk_.1.2⟩ : _ ∧ k_ ≠ g))) hk (fun _ h => h.2)) (fun _ h => h.1)); have n1_ := aK (KeepBut.blk hk (g' := gb111) (o := .cells #[.int .i64 x112000_4, .int .i64 x112001_4, .slice Ao76 x112002_4.length co76] 54 (0, 0)) BK111.out NB111_0.out (by simp)); have n2_ := aK (Kd.R_mono (Kd.R_keep (IsS61.apart (show IsS61 w0 _ g s0_0 x1001_4 x1002_4 from by repeat (first | (with_reducible first | exact HI0.out | apply IsS61.alloc | apply IsS61.drewN | apply IsS61.drew | apply IsS61.set_1 | apply IsS61.set_2 | refine IsS61.far ?_ NB0_111.out _) | exact HI0.out)) HO148.out (by decide)) hk (fun _ h => h.2)) (fun _ h => h.1)); have n3_ := aK (KeepBut.trans (yK HK) hk (.inl rfl)); have n4_ := aK (hb); have n5_ := aK (hi); clear HO_112002; clear BK111; clear HO148; clear HK; clear HB; clear HI0; have HO_112002 := n0_; have BK111 := n1_; have HO148 := n2_; have HK := n3_; have HB := n4_; have HI0 := n5_; clear n0_ n1_ n2_ n3_ n4_ n5_; (try clear hb)) | ((with_reducible refine gate_callee (f := 37) rfl ?_); refine goesL_ (some 55) rfl rfl Try.func37 (by kernel_rfl) rfl #[.pointer (some ⟨g, 0, none⟩), .int .i64 3] rfl tA ?_; (with_reducible refine (spec_l1Cur_pick.calls g s0_0 t150 t151 3 t163 t164 t165 w0 _ ?side1 ?side2 A72.out).mono ?_); (case side1 => exact yI HI0); (case side2 => exact yH HB); rintro e w79 ⟨rfl, hi, hb, hk⟩; refine ⟨_, rfl, ?_⟩; have n0_ := aK (Kd.N_mono (Kd.N_keep (Kd.N_mono (ok := fun k_ => ((k_ ≠ gb111 ∧ k_ ≠ g) ∧ some k_ ≠ (v147 : Value).ownBlock)) HO_112002.out (fun k_ hk_ => (⟨hk_, hk_.1.2⟩ : _ ∧ k_ ≠ g))) hk (fun _ h => h.2)) (fun _ h => h.1)); have n1_ := aK (KeepBut.blk hk (g' := gb111) (o := .cells #[.int .i64 x112000_4, .int .i64 x112001_4, .slice Ao76 x112002_4.length co76] 54 (0, 0)) BK111.out NB111_0.out (by simp)); have n2_ := aK (Kd.R_mono (Kd.R_keep (IsS61.apart (show IsS61 w0 _ g s0_0 t150 t151 from by repeat (first | (with_reducible first | exact HI0.out | apply IsS61.alloc | apply IsS61.drewN | apply IsS61.drew | apply IsS61.set_1 | apply IsS61.set_2 | refine IsS61.far ?_ NB0_111.out _) | exact HI0.out)) HO148.out (by decide)) hk (fun _ h => h.2)) (fun _ h => h.1)); have n3_ := aK (KeepBut.trans (yK HK) hk (.inl rfl)); have n4_ := aK (hb); have n5_ := aK (hi); clear HO_112002; clear BK111; clear HO148; clear HK; clear HB; clear HI0; have HO_112002 := n0_; have BK111 := n1_; have HO148 := n2_; have HK := n3_; have HB := n4_; have HI0 := n5_; clear n0_ n1_ n2_ n3_ n4_ n5_; (try clear hb)) | ((with_reducible refine gate_builtin (b := .append) (xs := #[.tmp 53, .tmp 58]) rfl ?_); at_builtin; refine Kd.R_append k70 w.heap.size rfl (.tmp 53) (.tmp 58) 23 70 (.agg #[(.int .i64 0), (.int .i64 0), (.int .i64 0)]) 24 rfl Try.underlying23 info70 rfl (by decide) (by omega) v147 t146 (⟨wrap64 (1 + t163), 0, 0⟩ : S70) [.int .i64 (wrap64 (1 + t163)), .int .i64 0, .int .i64 0] (fun _ => True) (fun _ => False) rfl rfl ?aP (fun _ hk => hk.elim) ?aF ?aO (Below.refl _ _) ?aS ?aL ?_; (case aP => exact k70_mkM _ _ _ (⟨wrap64 (1 + t163), 0, 0⟩ : S70)); (case aF => exact (fun _ _ => trivial)); (case aO => exact HO148.out); (case aS => exact (keep_size (w := w) (g := g) (row := none) (yK HK))); (case aL => have := LMc73.out; omega); intro v167 w80 ho hb hg hat; rw [← Ny166.out] at ho; have n0_ := aK (Kd.N_afterv (ok := (fun k_ => k_ ≠ gb111 ∧ k_ ≠ g)) HO_112002.out hg hat); have n1_ := aK (blk_grown BK111.out hg (Kd.R_ne HO148.out BK111.out (by decide))); have n2_ := aK (IsS61.grown (yI HI0) hg (IsS61.own_ne HI0.out HO148.out (by decide))); have n3_ := aK (below_weaken (yH HB) HL.out hb); have n4_ := aK (KeepBut.trans (yK HK) (KeepBut.of_grown hg g) (Kd.R_base2 HO148.out)); have n5_ := aK (ho); clear HO_112002; clear BK111; clear HI0; clear HB; clear HK; clear HO148; have HO_112002 := n0_; have BK111 := n1_; have HI0 := n2_; have HB := n3_; have HK := n4_; have HO168 := n5_; clear n0_ n1_ n2_ n3_ n4_ n5_; clear ho hb hg hat))
       go_ret
       exact ⟨_, eW, by (with_reducible repeat (first | apply Kd.R_alloc | apply Kd.R_drewN | apply Kd.R_drew)); exact HO168.out, yI HI0, yH HB, yK HK⟩
      ·rw [if_neg c73] at H
       exact absurd H (by simp)
     ·rw [if_neg c71] at H
      have c71b0 : (t149 == 2) = false := beq_eq_false_iff_ne.mpr c71
      have c71b1 : (t149 != 2) = true := bne_iff_ne.mpr c71
      simp only [Option.some.injEq, Prod.mk.injEq] at H
      obtain ⟨rfl, rfl, rfl⟩ := H
      have hnb81 := NB111_0.out
      have hnc81 := NB0_111.out
      obtain ⟨hcz82_0, hcz82_1, hcz82_2, hfz82_0, hfz82_1, hfz82_2⟩ := cA3 BK111
      obtain ⟨Ao83, co83, eo83⟩ := Kd.N_slice HO_112002.out
      subst eo83
      go_wp2_with (first | ((with_reducible refine gate_callee (f := 40) rfl ?_); refine goesL_ (some 26) rfl rfl Try.func40 (by kernel_rfl) rfl #[.slice none 0 0, .agg #[.int .i64 x112000_4, .int .i64 x112001_4, .slice Ao83 x112002_4.length co83], .int .i64 (-1)] rfl tA ?_; (refine (spec_lcFlat.calls kj4 _ _ ([] : List (S70)) x112000_4 x112001_4 _ _ x112002_4 (-1) t146 _ ?side1 ?side2 ?side3 ?side4 A36.out).mono ?_); (case side1 => exact rfl); (case side2 => exact Nat.le_refl _); (case side3 => exact sC ((Kd.N_reads' HO_112002.out).2.2)); (case side4 => exact (Kd.N_reads' HO_112002.out).2.1); rintro e w84 ⟨v147, rfl, ho0, hb⟩; refine ⟨_, rfl, ?_⟩; have n0_ := aK (Kd.N_elder' HO_112002.out (Kd.R_base ho0) hb); have n1_ := aK (Kd.R_lower ho0 (keep_size (w := w) (g := g) (row := none) (yK HK))); have n2_ := aK (blk_below BK111.out hb); have n3_ := aK (IsS61.below (yI HI0) hb); have n4_ := aK (KeepBut.trans (yK HK) (KeepBut.of_below hb g none) (.inl rfl)); have n5_ := aK (below_step (yH HB) hb); clear HO_112002; clear BK111; clear HI0; clear HK; clear HB; have HO_112002 := n0_; have HO148 := n1_; have BK111 := n2_; have HI0 := n3_; have HK := n4_; have HB := n5_; clear n0_ n1_ n2_ n3_ n4_ n5_; (try clear hb); (try clear ho0)) | ((with_reducible refine gate_callee (f := 37) rfl ?_); refine goesL_ (some 28) rfl rfl Try.func37 (by kernel_rfl) rfl #[.pointer (some ⟨g, 0, none⟩), .int .i64 40] rfl tA ?_; (with_reducible refine (spec_l1Cur_pick.calls g s0_0 x1001_4 x1002_4 40 t149 t150 t151 w0 _ ?side1 ?side2 A37.out).mono ?_); (case side1 => exact yI HI0); (case side2 => exact yH HB); rintro e w85 ⟨rfl, hi, hb, hk⟩; refine ⟨_, rfl, ?_⟩; have n0_ := aK (Kd.N_mono (Kd.N_keep (Kd.N_mono (ok := fun k_ => ((k_ ≠ gb111 ∧ k_ ≠ g) ∧ some k_ ≠ (v147 : Value).ownBlock)) HO_112002.out (fun k_ hk_ => (⟨hk_, hk_.1.2⟩ : _ ∧ k_ ≠ g))) hk (fun _ h => h.2)) (fun _ h => h.1)); have n1_ := aK (KeepBut.blk hk (g' := gb111) (o := .cells #[.int .i64 x112000_4, .int .i64 x112001_4, .slice Ao83 x112002_4.length co83] 54 (0, 0)) BK111.out NB111_0.out (by simp)); have n2_ := aK (Kd.R_mono (Kd.R_keep (IsS61.apart (show IsS61 w0 _ g s0_0 x1001_4 x1002_4 from by repeat (first | (with_reducible first | exact HI0.out | apply IsS61.alloc | apply IsS61.drewN | apply IsS61.drew | apply IsS61.set_1 | apply IsS61.set_2 | refine IsS61.far ?_ NB0_111.out _) | exact HI0.out)) HO148.out (by decide)) hk (fun _ h => h.2)) (fun _ h => h.1)); have n3_ := aK (KeepBut.trans (yK HK) hk (.inl rfl)); have n4_ := aK (hb); have n5_ := aK (hi); clear HO_112002; clear BK111; clear HO148; clear HK; clear HB; clear HI0; have HO_112002 := n0_; have BK111 := n1_; have HO148 := n2_; have HK := n3_; have HB := n4_; have HI0 := n5_; clear n0_ n1_ n2_ n3_ n4_ n5_; (try clear hb)))
      go_ret
      exact ⟨_, eW, by (with_reducible repeat (first | apply Kd.R_alloc | apply Kd.R_drewN | apply Kd.R_drew)); exact HO148.out, yI HI0, yH HB, yK HK⟩


def spec_DrawCombOfTerm.f (k : Nat) (l0 : List Int) : Option ((List (S70))) := (spec_l1Cur_terms.f k l0 0 0).bind fun b => some b.1
set_option maxHeartbeats 4000000 in
set_option maxRecDepth 100000 in
theorem spec_DrawGoodTerm.calls (k : Nat) (A0 : Option Addr) (c0 : Nat) (l0 : List Int) (r : List (S70)) (w : World) (hr0 : Kd.C (Kd.int .u8) w A0 l0.length l0) (hc0 : l0.length ≤ c0) (h : spec_DrawCombOfTerm.f k l0 = some r) :
  Calls Try.prog 9 #[.slice A0 l0.length c0] w fun e w' => ∃ v0_ : Value, e = .returned (v0_) ∧ Kd.R k70 70 w' w.heap.size (fun _ => True) v0_ r ∧ Below w.heap.size w w' := by
 obtain ⟨⟨r1, r2, r3⟩, H, e⟩ := Option.bind_eq_some_iff.mp h
 obtain rfl := Option.some.inj e
 have HR0 := aK hr0
 have HB := aK (Below.refl w.heap.size w)
 have HH := aK H
 have hu61 := Try.underlying61
 clear hr0 h H e
 go_enter Try.func9, Try.ntmps9
 go_wp2_with (go_at_call 18; refine (spec_l1Cur_terms.calls k _ l0 0 0 r1 r2 r3 w _ (IsS61.new w w A0 c0 l0 0 0 HB.out HR0.out) (below_alloc HB.out _) HH.out).mono ?_; rintro e w7 ⟨v0, rfl, hR, hI, hB2, hK⟩; have HO := aK (Kd.R_lower hR (below_alloc HB.out _).size); have HB3 := aK hB2; clear HB hR hI hB2 hK)
 go_ret
 exact ⟨_, rfl, HO.out, HB3.out⟩
set_option maxHeartbeats 4000000 in
set_option maxRecDepth 100000 in
theorem spec_DrawCombOfTerm.calls (k : Nat) (A0 : Option Addr) (c0 : Nat) (l0 : List Int) (r : List (S70)) (w : World) (hr0 : Kd.C (Kd.int .u8) w A0 l0.length l0) (hc0 : l0.length ≤ c0) (h : spec_DrawCombOfTerm.f k l0 = some r) :
  Calls Try.prog 4 #[.slice A0 l0.length c0] w fun e w' => ∃ v0_ : Value, e = .returned (v0_) ∧ Kd.R k70 70 w' w.heap.size (fun _ => True) v0_ r ∧ Below w.heap.size w w' := by
 have HR0 := aK hr0
 have HB := aK (Below.refl w.heap.size w)
 have HH := aK h
 have HC := aK hc0
 clear hr0 h hc0
 go_enter Try.func4, Try.ntmps4
 go_wp2_with ((with_reducible refine gate_callee (f := 9) rfl ?_); refine goesL_ (some 4) rfl rfl Try.func9 (by kernel_rfl) rfl #[.slice A0 l0.length c0] rfl tA ?_; (with_reducible refine (spec_DrawGoodTerm.calls k A0 c0 l0 r _ ?side1 HC.out HH.out).mono ?_); (case side1 => exact HR0.out); rintro e w7 ⟨v0, rfl, hR, hB2⟩; refine ⟨_, rfl, ?_⟩; have HO := aK hR; have HB3 := aK hB2; clear hR hB2)
 go_ret
 exact ⟨_, rfl, HO.out, HB3.out⟩
end Go.Proofs.Ytmcmclcebnepgaa.G
