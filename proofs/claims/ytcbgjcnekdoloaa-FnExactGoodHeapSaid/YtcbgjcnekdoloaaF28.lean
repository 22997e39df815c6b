/- impl.areRoots: are there at most 60 roots, all of them numbers of cells. Condition: the slice can be read. -/
import Derived.Test.YtcbgjcnekdoloaaK
import Derived.Test.YtcbgjcnekdoloaaF44
namespace Go.Proofs.Ytcbgjcnekdoloaa.G
open Go.RowKit Go.Proofs.YtcbgjcnekdoloaaW.PrintWords Go.Proofs.YtcbgjcnekdoloaaW.PrintLast Go.Proofs.YtcbgjcnekdoloaaW.PrintMore
attribute [local go_sem] max2_int min2_int max_two min_two max_three min_three max_four min_four   -- for this text's walks alone
set_option linter.unusedVariables false
set_option linter.unusedSimpArgs false

/-- What is asked of a function value on ints: in every later world it tells p, and makes new memory at most. -/
def Tells (g : Nat) (lb : Array Value) (p : Int → Bool) (w : World) : Prop :=
  ∀ (W : World) (x : Int), Below w.heap.size w W → Calls Try.prog g (#[.int .i64 x] ++ lb) W fun e w' => e = .returned (.bool (p x)) ∧ Below W.heap.size W w'

theorem any_take_succ (p : Int → Bool) (l : List Int) (i : Int) (h0 : 0 ≤ i) (h1 : i < l.length) (h : (l.take i.toNat).any p = false) (hx : p (rd l i) = false) : (l.take (i + 1).toNat).any p = false := by
  have hlt : i.toNat < l.length := by omega
  rw [show (i + 1).toNat = i.toNat + 1 by omega, List.take_succ_eq_append_getElem hlt, List.any_append, h]
  have e : rd l i = l[i.toNat] := by unfold rd; rw [List.getD_eq_getElem?_getD, List.getElem?_eq_getElem hlt]; rfl
  rw [← e]; simp [hx]
theorem any_at (p : Int → Bool) (l : List Int) (i : Int) (h0 : 0 ≤ i) (h1 : i < l.length) (hx : p (rd l i) = true) : l.any p = true := by
  have hlt : i.toNat < l.length := by omega
  have e : rd l i = l[i.toNat] := by unfold rd; rw [List.getD_eq_getElem?_getD, List.getElem?_eq_getElem hlt]; rfl
  rw [List.any_eq_true]
  exact ⟨l[i.toNat], List.getElem_mem hlt, by rw [← e]; exact hx⟩

set_option maxHeartbeats 1000000 in
set_option maxRecDepth 100000 in
theorem index_some (g : Nat) (lb : Array Value) (p : Int → Bool) (A0 : Option Addr) (c0 : Nat) (l0 : List Int) (w : World) (hr0 : Kd.C (Kd.int .i64) w A0 l0.length l0)
    (eg : ∀ (args : Array Value) (w : World), (callFunc g args).run Try.prog w = .ok (.enter g args) w) (hp : Tells g lb p w) :
    Calls Try.prog 49 #[.slice A0 l0.length c0, .func (.func g) #[] lb] w fun e w' => (∃ r : Int, e = .returned (.int .i64 r) ∧ decide (0 ≤ r) = l0.any p) ∧ Below w.heap.size w w' := by
  have HR0 := Aside0.mk hr0
  have HL := Aside0.mk hr0.2.1
  clear hr0
  have HP := Aside0.mk hp
  clear hp
  have HB := Aside0.mk (Below.refl w.heap.size w)
  go_enter Try.func49, Try.ntmps49
  go_wp2
  go_loopg [8] (l0.length + 1) (fun kq v8 w' => ∃ (i : Int), v8 = .int .i64 i ∧ Aside0 (0 ≤ i ∧ i ≤ l0.length ∧ (kq : Int) = l0.length - i + 1 ∧ (l0.take i.toNat).any p = false) ∧ Aside0 (Below w.heap.size w w'))
  case atStart => exact ⟨0, rfl, ⟨by omega, by omega, by omega, by simp⟩, HB⟩
  case round =>
    clear HB
    obtain ⟨i, rfl, HA, HB1⟩ := hrel
    by_cases c : i < (l0.length : Int)
    · have cb : decide (i < (l0.length : Int)) = true := decide_eq_true c
      have cz : decide (0 ≤ i) = true := decide_eq_true HA.out.1
      obtain ⟨ad, e1, hx0⟩ := Kd.at_int (Kd.C_below HR0.out HB1.out) i HA.out.1 c
      cases e1
      have p1 := eq_true HA.out.1
      have q1 := eq_true c
      have w1 : wrap64 (i + 1) = i + 1 := by have := HA.out.1; have := HA.out.2.1; have := HL.out; unfold wrap64; omega
      have W1 := Aside0.mk w1
      have Cc := Aside0.mk c
      clear c w1
      go_wp2_with fail
      refine (HP.out _ (rd l0 i) HB1.out).mono ?_
      rintro e w' ⟨rfl, hb⟩
      have HB2 := Aside0.mk (below_step HB1.out hb)
      clear hb
      by_cases hpx : p (rd l0 i) = true
      · have HX := Aside0.mk hpx
        go_wp2
        go_ret
        exact ⟨⟨i, rfl, by rw [any_at p l0 i HA.out.1 Cc.out HX.out]; exact decide_eq_true HA.out.1⟩, HB2.out⟩
      · replace hpx := Bool.eq_false_iff.mpr hpx
        have HX := Aside0.mk hpx
        obtain ⟨k1, rfl⟩ : ∃ m, gk = m + 1 := ⟨gk - 1, by have := HA.out; omega⟩
        go_wp2
        go_roundg k1
        case measure => omega
        case rel => exact ⟨i + 1, by first | rfl | rw [W1.out], ⟨by have := HA.out; omega, by have := HA.out; have := Cc.out; omega, by have := HA.out; omega, any_take_succ p l0 i HA.out.1 Cc.out HA.out.2.2.2 HX.out⟩, HB2⟩
    · have cb : decide (i < (l0.length : Int)) = false := decide_eq_false c
      have Cc := Aside0.mk c
      clear c
      go_wp2
      go_ret
      refine ⟨⟨-1, rfl, ?_⟩, HB1.out⟩
      have h := HA.out.2.2.2
      rw [List.take_of_length_le (by have := HA.out; have := Cc.out; omega)] at h
      rw [h]; rfl

set_option maxHeartbeats 1000000 in
set_option maxRecDepth 100000 in
theorem contains_some (g : Nat) (lb : Array Value) (p : Int → Bool) (A0 : Option Addr) (c0 : Nat) (l0 : List Int) (w : World) (hr0 : Kd.C (Kd.int .i64) w A0 l0.length l0)
    (eg : ∀ (args : Array Value) (w : World), (callFunc g args).run Try.prog w = .ok (.enter g args) w) (hp : Tells g lb p w) :
    Calls Try.prog 42 #[.slice A0 l0.length c0, .func (.func g) #[] lb] w fun e w' => e = .returned (.bool (l0.any p)) ∧ Below w.heap.size w w' := by
  go_enter Try.func42, Try.ntmps42
  go_wp2_with fail
  refine (index_some g lb p A0 c0 l0 _ hr0 eg hp).mono ?_
  rintro e w' ⟨⟨r, rfl, hr⟩, hb⟩
  have HR := Aside0.mk hr
  clear hr
  go_wp2
  go_ret
  exact ⟨by rw [← HR.out]; rfl, hb⟩

def impl_areRoots.f (l0 : List Int) (a1 : Int) : Option (Bool) := some (decide (l0.length ≤ 60) && l0.all fun n => decide (0 ≤ n ∧ n < a1))

theorem isBelow_some (a b : Int) : impl_isBelow.f a b = some (decide (0 ≤ a ∧ a < b)) := by
  unfold impl_isBelow.f
  by_cases h : a ≥ 0
  · rw [if_pos h]; congr 1; exact decide_eq_decide.mpr (by omega)
  · rw [if_neg h]; rw [decide_eq_false (by omega)]

set_option maxHeartbeats 1000000 in
set_option maxRecDepth 100000 in
theorem lit_some (B : Nat) (b : Int) (x : Int) (W : World) (hc : W.cell? ⟨B, 0, none⟩ = some (.int .i64 b)) :
    Calls Try.prog 43 #[.int .i64 x, .pointer (some ⟨B, 0, none⟩)] W fun e w' => e = .returned (.bool (!decide (0 ≤ x ∧ x < b))) ∧ Below W.heap.size W w' := by
  go_enter Try.func43, Try.ntmps43
  go_wp2_with (go_at_call 44; refine (impl_isBelow.calls x b _ _ (isBelow_some x b)).mono ?_; rintro e w' ⟨rfl, ⟨n, rfl⟩⟩)
  go_ret
  exact ⟨by simp [Bool.decide_and], pw_below_drewN (Below.refl _ _) _⟩

set_option maxHeartbeats 1000000 in
set_option maxRecDepth 100000 in
theorem impl_areRoots.calls (A0 : Option Addr) (c0 : Nat) (l0 : List Int) (a1 : Int) (r : Bool) (w : World) (hr0 : Kd.C (Kd.int .i64) w A0 l0.length l0) (hc0 : l0.length ≤ c0) (h : impl_areRoots.f l0 a1 = some r) :
    Calls Try.prog 28 #[.slice A0 l0.length c0, .int .i64 a1] w fun e w' => e = .returned (.bool r) ∧ Below w.heap.size w w' := by
  obtain rfl := Option.some.inj h
  have eg := enters_ Try.func43 (by kernel_rfl) rfl
  have hmf : ∀ (fn : Fn) (first cap : Array Value) (w : World), (Instr.makeFunc fn first cap).run Try.prog w = .ok (.func fn first cap) w := fun _ _ _ _ => rfl
  have HR0 := Aside0.mk hr0
  clear hr0 h
  by_cases c : l0.length ≤ 60
  · have cb : decide (l0.length ≤ 60) = true := decide_eq_true c
    go_enter Try.func28, Try.ntmps28
    go_wp2_with fail
    refine (contains_some 43 #[.pointer (some ⟨w.heap.size, 0, none⟩)] (fun n => !decide (0 ≤ n ∧ n < a1)) A0 c0 l0 _ (Kd.C_alloc HR0.out _) eg ?_).mono ?_
    · intro W x hb
      exact lit_some w.heap.size a1 x W ((hb.cell (p := ⟨w.heap.size, 0, none⟩) (by simp)).trans (by rw [World.cell?_alloc_at _ _ _ _ rfl]; rfl))
    rintro e w' ⟨rfl, hb⟩
    have HB := Aside0.mk (below_step (below_alloc (Below.refl w.heap.size w) _) hb)
    clear hb
    go_wp2
    go_ret
    refine ⟨?_, HB.out⟩
    have e : ∀ l : List Int, (l.any fun n => !decide (0 ≤ n) || !decide (n < a1)) = !(l.all fun n => decide (0 ≤ n) && decide (n < a1)) := fun l => by
      induction l with
      | nil => rfl
      | cons x l ih => simp only [List.any_cons, List.all_cons, ih, Bool.not_and]
    simp [cb, Bool.decide_and, e]
  · have cb : decide (l0.length ≤ 60) = false := decide_eq_false c
    go_enter Try.func28, Try.ntmps28
    go_wp2
    go_ret
    exact ⟨by simp [cb], below_alloc (Below.refl _ _) _⟩

end Go.Proofs.Ytcbgjcnekdoloaa.G
