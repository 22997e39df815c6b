/- impl.term.areNumbers: is each node's number as it has to be. Condition: the parts can be read. -/
import Derived.Test.YtcjhhdecckcibaaK
namespace Go.Proofs.Ytcjhhdecckcibaa.G
open Go.RowKit Go.Proofs.YtcjhhdecckcibaaW.PrintWords Go.Proofs.YtcjhhdecckcibaaW.PrintLast Go.Proofs.YtcjhhdecckcibaaW.PrintMore
attribute [local go_sem] max2_int min2_int max_two min_two max_three min_three max_four min_four   -- for this text's walks alone
set_option linter.unusedVariables false
set_option linter.unusedSimpArgs false

namespace Are68
/-- What is asked of a function value on terms of a list: in every later world it tells p, and makes new memory at most. -/
def Tells (g : Nat) (lb : Array Value) (p : S68 → Bool) (l : List S68) (w : World) : Prop :=
  ∀ (W : World) (x : S68) (A : Option Addr) (c : Nat), x ∈ l → Below w.heap.size w W → Kd.C k68 W A x.f2.length x.f2 → x.f2.length ≤ c → Calls Try.prog g (#[.agg #[.int .i64 x.f0, .int .i64 x.f1, .slice A x.f2.length c]] ++ lb) W fun e w' => e = .returned (.bool (p x)) ∧ Below W.heap.size W w'

theorem rd_mem (l : List S68) (i : Int) (h0 : 0 ≤ i) (h1 : i < l.length) : rd_T68 l i ∈ l := by
  have hlt : i.toNat < l.length := by omega
  have e : rd_T68 l i = l[i.toNat] := by unfold rd_T68; rw [List.getD_eq_getElem?_getD, List.getElem?_eq_getElem hlt]; rfl
  rw [e]; exact List.getElem_mem hlt
theorem any_take_succ (p : S68 → Bool) (l : List S68) (i : Int) (h0 : 0 ≤ i) (h1 : i < l.length) (h : (l.take i.toNat).any p = false) (hx : p (rd_T68 l i) = false) : (l.take (i + 1).toNat).any p = false := by
  have hlt : i.toNat < l.length := by omega
  rw [show (i + 1).toNat = i.toNat + 1 by omega, List.take_succ_eq_append_getElem hlt, List.any_append, h]
  have e : rd_T68 l i = l[i.toNat] := by unfold rd_T68; rw [List.getD_eq_getElem?_getD, List.getElem?_eq_getElem hlt]; rfl
  rw [← e]; simp [hx]
theorem any_at (p : S68 → Bool) (l : List S68) (i : Int) (h0 : 0 ≤ i) (h1 : i < l.length) (hx : p (rd_T68 l i) = true) : l.any p = true := by
  rw [List.any_eq_true]
  exact ⟨_, rd_mem l i h0 h1, hx⟩

set_option maxHeartbeats 1000000 in
set_option maxRecDepth 100000 in
theorem index_some (g : Nat) (lb : Array Value) (p : S68 → Bool) (A0 : Option Addr) (c0 : Nat) (l0 : List S68) (w : World) (hr0 : Kd.C k68 w A0 l0.length l0)
    (eg : ∀ (args : Array Value) (w : World), (callFunc g args).run Try.prog w = .ok (.enter g args) w) (hp : Tells g lb p l0 w) :
    Calls Try.prog 108 #[.slice A0 l0.length c0, .func (.func g) #[] lb] w fun e w' => (∃ r : Int, e = .returned (.int .i64 r) ∧ decide (0 ≤ r) = l0.any p) ∧ Below w.heap.size w w' := by
  have hu68 := Try.underlying68
  have HR0 := Aside0.mk hr0
  have HL := Aside0.mk hr0.2.1
  clear hr0
  have HP := Aside0.mk hp
  clear hp
  have HB := Aside0.mk (Below.refl w.heap.size w)
  go_enter Try.func108, Try.ntmps108
  go_wp2
  go_loopg [8] (l0.length + 1) (fun kq v8 w' => ∃ (i : Int), v8 = .int .i64 i ∧ Aside0 (0 ≤ i ∧ i ≤ l0.length ∧ (kq : Int) = l0.length - i + 1 ∧ (l0.take i.toNat).any p = false) ∧ Aside0 (Below w.heap.size w w'))
  case atStart => exact ⟨0, rfl, ⟨by omega, by omega, by omega, by simp⟩, HB⟩
  case round =>
    clear HB
    obtain ⟨i, rfl, HA, HB1⟩ := hrel
    by_cases c : i < (l0.length : Int)
    · have cb : decide (i < (l0.length : Int)) = true := decide_eq_true c
      have cz : decide (0 ≤ i) = true := decide_eq_true HA.out.1
      obtain ⟨ad, A2, c2, e1, hx0, hx1, hx2, hl2, hi2⟩ := at_T68 (Kd.C_below HR0.out HB1.out) i HA.out.1 c
      cases e1
      have HC2 := Aside0.mk hl2
      have HR2 := Aside0.mk hi2
      clear hl2 hi2
      have p1 := eq_true HA.out.1
      have q1 := eq_true c
      have w1 : wrap64 (i + 1) = i + 1 := by have := HA.out.1; have := HA.out.2.1; have := HL.out; unfold wrap64; omega
      have W1 := Aside0.mk w1
      have Cc := Aside0.mk c
      clear c w1
      go_wp2_with fail
      refine (HP.out _ (rd_T68 l0 i) A2 c2 (rd_mem l0 i HA.out.1 Cc.out) HB1.out HR2.out HC2.out).mono ?_
      rintro e w' ⟨rfl, hb⟩
      have HB2 := Aside0.mk (below_step HB1.out hb)
      clear hb
      by_cases hpx : p (rd_T68 l0 i) = true
      · have HX := Aside0.mk hpx
        go_wp2
        go_ret
        exact ⟨⟨i, rfl, by rw [any_at p l0 i HA.out.1 Cc.out HX.out]; exact decide_eq_true HA.out.1⟩, HB2.out⟩
      · replace hpx := Bool.eq_false_iff.mpr hpx
        have HX := Aside0.mk hpx
        obtain ⟨k1, rfl⟩ : ∃ m, gk = m + 1 := ⟨gk - 1, by have := HA.out; omega⟩
        go_wp2
        go_roundg k1
        case measure => omega
        case rel => exact ⟨i + 1, by first | rfl | rw [W1.out], ⟨by have := HA.out; omega, by have := HA.out; have := Cc.out; omega, by have := HA.out; omega, any_take_succ p l0 i HA.out.1 Cc.out HA.out.2.2.2 HX.out⟩, HB2⟩
    · have cb : decide (i < (l0.length : Int)) = false := decide_eq_false c
      have Cc := Aside0.mk c
      clear c
      go_wp2
      go_ret
      refine ⟨⟨-1, rfl, ?_⟩, HB1.out⟩
      have h := HA.out.2.2.2
      rw [List.take_of_length_le (by have := HA.out; have := Cc.out; omega)] at h
      rw [h]; rfl

set_option maxHeartbeats 1000000 in
set_option maxRecDepth 100000 in
theorem contains_some (g : Nat) (lb : Array Value) (p : S68 → Bool) (A0 : Option Addr) (c0 : Nat) (l0 : List S68) (w : World) (hr0 : Kd.C k68 w A0 l0.length l0)
    (eg : ∀ (args : Array Value) (w : World), (callFunc g args).run Try.prog w = .ok (.enter g args) w) (hp : Tells g lb p l0 w) :
    Calls Try.prog 94 #[.slice A0 l0.length c0, .func (.func g) #[] lb] w fun e w' => e = .returned (.bool (l0.any p)) ∧ Below w.heap.size w w' := by
  go_enter Try.func94, Try.ntmps94
  go_wp2_with fail
  refine (index_some g lb p A0 c0 l0 _ hr0 eg hp).mono ?_
  rintro e w' ⟨⟨r, rfl, hr⟩, hb⟩
  have HR := Aside0.mk hr
  clear hr
  go_wp2
  go_ret
  exact ⟨by rw [← HR.out]; rfl, hb⟩

def nodeOk (k n : Int) : Bool := decide (0 ≤ n) && decide (n ≤ 99) && (decide (k = 1) || decide (n = 0))
mutual
def okT : S68 → Bool
  | ⟨k, n, l⟩ => nodeOk k n && okL l
def okL : List S68 → Bool
  | [] => true
  | x :: l => okT x && okL l
end
theorem okL_all (l : List S68) : okL l = l.all okT := by
  induction l with
  | nil => rw [okL]; rfl
  | cons x l ih => rw [okL, ih]; rfl
theorem any_not (l : List S68) : (l.any fun x => !okT x) = !okL l := by
  rw [okL_all]
  induction l with
  | nil => rfl
  | cons x l ih => simp only [List.any_cons, List.all_cons, ih, Bool.not_and]
theorem okT_eq (x : S68) : okT x = (nodeOk x.f0 x.f1 && okL x.f2) := by cases x; rw [okT]

set_option maxHeartbeats 1000000 in
set_option maxRecDepth 100000 in
theorem lit_some (x : S68) (A : Option Addr) (c : Nat) (W : World) (hr : Kd.C k68 W A x.f2.length x.f2) (hc : x.f2.length ≤ c)
    (ih : ∀ (w : World), Kd.C k68 w A x.f2.length x.f2 → Calls Try.prog 88 #[.agg #[.int .i64 x.f0, .int .i64 x.f1, .slice A x.f2.length c]] w fun e w' => e = .returned (.bool (okT x)) ∧ Below w.heap.size w w') :
    Calls Try.prog 95 #[.agg #[.int .i64 x.f0, .int .i64 x.f1, .slice A x.f2.length c]] W fun e w' => e = .returned (.bool (!okT x)) ∧ Below W.heap.size W w' := by
  have hu68 := Try.underlying68
  have HR0 := Aside0.mk hr
  clear hr
  have HI := Aside0.mk ih
  clear ih
  have HB := Aside0.mk (Below.refl W.heap.size W)
  go_enter Try.func95, Try.ntmps95
  go_wp2_with (first | ((with_reducible refine gate_dst (N := 1) rfl ?_); refine box_event ?hg (N := 1) ?hd (cs := #[.int .i64 x.f0, .int .i64 x.f1, .slice A x.f2.length c]) (t := 68) ?hr ?_; (case hd => rfl); (case hg => rfl); (case hr => first | (go_simp; done) | (go_simp; rfl)); intro gb hg w5 hbox hb; have n0_ := Aside0.mk (below_step HB.out hb); have n1_ := Aside0.mk (hbox); clear HB; have HB := n0_; have BK := n1_; clear n0_ n1_; clear hb hbox hg; have hcz_0 : w5.cell? ⟨gb, 0, none⟩ = some (.int .i64 x.f0) := (blk_cell BK.out 0).trans rfl; have hcz_1 : w5.cell? ⟨gb, 1, none⟩ = some (.int .i64 x.f1) := (blk_cell BK.out 1).trans rfl; have hcz_2 : w5.cell? ⟨gb, 2, none⟩ = some (.slice A x.f2.length c) := (blk_cell BK.out 2).trans rfl; have hfz_0 := blk_frozen BK.out 0; have hfz_1 := blk_frozen BK.out 1; have hfz_2 := blk_frozen BK.out 2) | ((with_reducible refine gate_callee (f := 88) rfl ?_); refine goesL_ (some 4) rfl rfl Try.func88 (by kernel_rfl) rfl #[.agg #[.int .i64 x.f0, .int .i64 x.f1, .slice A x.f2.length c]] rfl (by (try simp only [List.map_toArray, List.map_cons, List.map_nil]); first | done | rfl) ?_; refine (HI.out _ (Kd.C_below HR0.out HB.out)).mono ?_; rintro e w7 ⟨rfl, hb⟩; refine ⟨_, rfl, ?_⟩; have n1_ := Aside0.mk (below_step HB.out hb); clear BK HB; have HB := n1_; clear n1_; clear hb))
  go_ret
  exact ⟨rfl, by repeat (first | (with_reducible first | exact HB.out | apply below_alloc | apply pw_below_drewN | apply below_drew1) | exact HB.out)⟩

set_option maxHeartbeats 2000000 in
set_option maxRecDepth 100000 in
theorem node_bad (a0 a1 : Int) (A : Option Addr) (c : Nat) (l : List S68) (w : World) (h : nodeOk a0 a1 = false) :
    Calls Try.prog 88 #[.agg #[.int .i64 a0, .int .i64 a1, .slice A l.length c]] w fun e w' => e = .returned (.bool false) ∧ Below w.heap.size w w' := by
  have hu68 := Try.underlying68
  have HB := Aside0.mk (Below.refl w.heap.size w)
  unfold nodeOk at h
  by_cases c1 : a1 < 0
  · have cb1 : decide (a1 < 0) = true := decide_eq_true c1
    clear h c1
    go_enter Try.func88, Try.ntmps88
    go_wp2_with ((with_reducible refine gate_dst (N := 1) rfl ?_); refine box_event ?hg (N := 1) ?hd (cs := #[.int .i64 a0, .int .i64 a1, .slice A l.length c]) (t := 68) ?hr ?_; (case hd => rfl); (case hg => rfl); (case hr => first | (go_simp; done) | (go_simp; rfl)); intro gb hg w5 hbox hb; have n0_ := Aside0.mk (below_step HB.out hb); have n1_ := Aside0.mk (hbox); clear HB; have HB := n0_; have BK := n1_; clear n0_ n1_; clear hb hbox hg; have hcz_0 : w5.cell? ⟨gb, 0, none⟩ = some (.int .i64 a0) := (blk_cell BK.out 0).trans rfl; have hcz_1 : w5.cell? ⟨gb, 1, none⟩ = some (.int .i64 a1) := (blk_cell BK.out 1).trans rfl; have hcz_2 : w5.cell? ⟨gb, 2, none⟩ = some (.slice A l.length c) := (blk_cell BK.out 2).trans rfl; have hfz_0 := blk_frozen BK.out 0; have hfz_1 := blk_frozen BK.out 1; have hfz_2 := blk_frozen BK.out 2)
    go_ret
    exact ⟨rfl, HB.out⟩
  · have cb1 : decide (a1 < 0) = false := decide_eq_false c1
    by_cases c2 : a1 > 99
    · have cb2 : decide (a1 > 99) = true := decide_eq_true c2
      clear h c1 c2
      go_enter Try.func88, Try.ntmps88
      go_wp2_with ((with_reducible refine gate_dst (N := 1) rfl ?_); refine box_event ?hg (N := 1) ?hd (cs := #[.int .i64 a0, .int .i64 a1, .slice A l.length c]) (t := 68) ?hr ?_; (case hd => rfl); (case hg => rfl); (case hr => first | (go_simp; done) | (go_simp; rfl)); intro gb hg w5 hbox hb; have n0_ := Aside0.mk (below_step HB.out hb); have n1_ := Aside0.mk (hbox); clear HB; have HB := n0_; have BK := n1_; clear n0_ n1_; clear hb hbox hg; have hcz_0 : w5.cell? ⟨gb, 0, none⟩ = some (.int .i64 a0) := (blk_cell BK.out 0).trans rfl; have hcz_1 : w5.cell? ⟨gb, 1, none⟩ = some (.int .i64 a1) := (blk_cell BK.out 1).trans rfl; have hcz_2 : w5.cell? ⟨gb, 2, none⟩ = some (.slice A l.length c) := (blk_cell BK.out 2).trans rfl; have hfz_0 := blk_frozen BK.out 0; have hfz_1 := blk_frozen BK.out 1; have hfz_2 := blk_frozen BK.out 2)
      go_ret
      exact ⟨rfl, HB.out⟩
    · have cb2 : decide (a1 > 99) = false := decide_eq_false c2
      have h3 : a0 ≠ 1 ∧ a1 ≠ 0 := by
        rw [decide_eq_true (show 0 ≤ a1 by omega), decide_eq_true (show a1 ≤ 99 by omega)] at h
        simp at h
        exact h
      obtain ⟨h3, h4⟩ := h3
      replace h3 : (a0 != 1) = true := bne_iff_ne.mpr h3
      replace h4 : (a1 != 0) = true := bne_iff_ne.mpr h4
      clear h c1 c2
      go_enter Try.func88, Try.ntmps88
      go_wp2_with ((with_reducible refine gate_dst (N := 1) rfl ?_); refine box_event ?hg (N := 1) ?hd (cs := #[.int .i64 a0, .int .i64 a1, .slice A l.length c]) (t := 68) ?hr ?_; (case hd => rfl); (case hg => rfl); (case hr => first | (go_simp; done) | (go_simp; rfl)); intro gb hg w5 hbox hb; have n0_ := Aside0.mk (below_step HB.out hb); have n1_ := Aside0.mk (hbox); clear HB; have HB := n0_; have BK := n1_; clear n0_ n1_; clear hb hbox hg; have hcz_0 : w5.cell? ⟨gb, 0, none⟩ = some (.int .i64 a0) := (blk_cell BK.out 0).trans rfl; have hcz_1 : w5.cell? ⟨gb, 1, none⟩ = some (.int .i64 a1) := (blk_cell BK.out 1).trans rfl; have hcz_2 : w5.cell? ⟨gb, 2, none⟩ = some (.slice A l.length c) := (blk_cell BK.out 2).trans rfl; have hfz_0 := blk_frozen BK.out 0; have hfz_1 := blk_frozen BK.out 1; have hfz_2 := blk_frozen BK.out 2)
      go_ret
      exact ⟨rfl, HB.out⟩
set_option maxHeartbeats 2000000 in
set_option maxRecDepth 100000 in
theorem node_good (a0 a1 : Int) (A : Option Addr) (c : Nat) (l : List S68) (w : World) (hr : Kd.C k68 w A l.length l) (hc : l.length ≤ c) (h : nodeOk a0 a1 = true)
    (ih : ∀ x ∈ l, ∀ (A : Option Addr) (c : Nat) (w : World), x.f2.length ≤ c → Kd.C k68 w A x.f2.length x.f2 → Calls Try.prog 88 #[.agg #[.int .i64 x.f0, .int .i64 x.f1, .slice A x.f2.length c]] w fun e w' => e = .returned (.bool (okT x)) ∧ Below w.heap.size w w') :
    Calls Try.prog 88 #[.agg #[.int .i64 a0, .int .i64 a1, .slice A l.length c]] w fun e w' => e = .returned (.bool (okL l)) ∧ Below w.heap.size w w' := by
  have hu68 := Try.underlying68
  have HR0 := Aside0.mk hr
  clear hr
  have eg := enters_ Try.func95 (by kernel_rfl) rfl
  have EG := Aside0.mk eg
  clear eg
  have HT : ∀ W, Below w.heap.size w W → Tells 95 #[] (fun x => !okT x) l W := by
    intro W hW W2 x A2 c2 hx hb hC hl
    have := lit_some x A2 c2 W2 hC hl (fun w3 h3 => ih x hx A2 c2 w3 hl h3)
    simpa using this
  have HI := Aside0.mk HT
  clear HT ih
  have HB := Aside0.mk (Below.refl w.heap.size w)
  have h1 : 0 ≤ a1 ∧ a1 ≤ 99 ∧ (a0 = 1 ∨ a1 = 0) := by
    unfold nodeOk at h
    simp at h
    omega
  clear h
  have cb1 : decide (a1 < 0) = false := decide_eq_false (by omega)
  have cb2 : decide (a1 > 99) = false := decide_eq_false (by omega)
  have key : (a0 = 1) ∨ (a0 ≠ 1 ∧ a1 = 0) := by omega
  clear h1
  rcases key with rfl | ⟨h3, rfl⟩
  · go_enter Try.func88, Try.ntmps88
    go_wp2_with (first | ((with_reducible refine gate_dst (N := 1) rfl ?_); refine box_event ?hg (N := 1) ?hd (cs := #[.int .i64 1, .int .i64 a1, .slice A l.length c]) (t := 68) ?hr ?_; (case hd => rfl); (case hg => rfl); (case hr => first | (go_simp; done) | (go_simp; rfl)); intro gb hg w5 hbox hb; have n0_ := Aside0.mk (below_step HB.out hb); have n1_ := Aside0.mk (hbox); clear HB; have HB := n0_; have BK := n1_; clear n0_ n1_; clear hb hbox hg; have hcz_0 : w5.cell? ⟨gb, 0, none⟩ = some (.int .i64 1) := (blk_cell BK.out 0).trans rfl; have hcz_1 : w5.cell? ⟨gb, 1, none⟩ = some (.int .i64 a1) := (blk_cell BK.out 1).trans rfl; have hcz_2 : w5.cell? ⟨gb, 2, none⟩ = some (.slice A l.length c) := (blk_cell BK.out 2).trans rfl; have hfz_0 := blk_frozen BK.out 0; have hfz_1 := blk_frozen BK.out 1; have hfz_2 := blk_frozen BK.out 2) | ((with_reducible refine gate_callee (f := 94) rfl ?_); refine goesL_ (some 23) rfl rfl Try.func94 (by kernel_rfl) rfl #[.slice A l.length c, .func (.func 95) #[] #[]] rfl (by (try simp only [List.map_toArray, List.map_cons, List.map_nil]); first | done | rfl) ?_; refine (contains_some 95 #[] (fun x => !okT x) A c l _ (Kd.C_below HR0.out HB.out) EG.out (HI.out _ HB.out)).mono ?_; rintro e w7 ⟨rfl, hb⟩; refine ⟨_, rfl, ?_⟩; have n1_ := Aside0.mk (below_step HB.out hb); clear BK HB; have HB := n1_; clear n1_; clear hb))
    go_ret
    exact ⟨by rw [any_not, Bool.not_not]; rfl, HB.out⟩
  · clear cb1 cb2
    replace h3 : (a0 != 1) = true := bne_iff_ne.mpr h3
    go_enter Try.func88, Try.ntmps88
    go_wp2_with (first | ((with_reducible refine gate_dst (N := 1) rfl ?_); refine box_event ?hg (N := 1) ?hd (cs := #[.int .i64 a0, .int .i64 0, .slice A l.length c]) (t := 68) ?hr ?_; (case hd => rfl); (case hg => rfl); (case hr => first | (go_simp; done) | (go_simp; rfl)); intro gb hg w5 hbox hb; have n0_ := Aside0.mk (below_step HB.out hb); have n1_ := Aside0.mk (hbox); clear HB; have HB := n0_; have BK := n1_; clear n0_ n1_; clear hb hbox hg; have hcz_0 : w5.cell? ⟨gb, 0, none⟩ = some (.int .i64 a0) := (blk_cell BK.out 0).trans rfl; have hcz_1 : w5.cell? ⟨gb, 1, none⟩ = some (.int .i64 0) := (blk_cell BK.out 1).trans rfl; have hcz_2 : w5.cell? ⟨gb, 2, none⟩ = some (.slice A l.length c) := (blk_cell BK.out 2).trans rfl; have hfz_0 := blk_frozen BK.out 0; have hfz_1 := blk_frozen BK.out 1; have hfz_2 := blk_frozen BK.out 2) | ((with_reducible refine gate_callee (f := 94) rfl ?_); refine goesL_ (some 23) rfl rfl Try.func94 (by kernel_rfl) rfl #[.slice A l.length c, .func (.func 95) #[] #[]] rfl (by (try simp only [List.map_toArray, List.map_cons, List.map_nil]); first | done | rfl) ?_; refine (contains_some 95 #[] (fun x => !okT x) A c l _ (Kd.C_below HR0.out HB.out) EG.out (HI.out _ HB.out)).mono ?_; rintro e w7 ⟨rfl, hb⟩; refine ⟨_, rfl, ?_⟩; have n1_ := Aside0.mk (below_step HB.out hb); clear BK HB; have HB := n1_; clear n1_; clear hb))
    go_ret
    exact ⟨by rw [any_not, Bool.not_not]; rfl, HB.out⟩

/-- The numbers of a term are right. -/
theorem all_some : ∀ (N : Nat) (a0 a1 : Int) (l : List S68) (A : Option Addr) (c : Nat) (w : World), SizeOf.sizeOf l ≤ N → l.length ≤ c → Kd.C k68 w A l.length l →
    Calls Try.prog 88 #[.agg #[.int .i64 a0, .int .i64 a1, .slice A l.length c]] w fun e w' => e = .returned (.bool (nodeOk a0 a1 && okL l)) ∧ Below w.heap.size w w' := by
  intro N
  induction N with
  | zero =>
    intro a0 a1 l A c w hN
    cases l with
    | nil => simp at hN
    | cons x l => simp at hN
  | succ N ih =>
    intro a0 a1 l A c w hN hl hC
    by_cases h : nodeOk a0 a1 = true
    · rw [h, Bool.true_and]
      refine node_good a0 a1 A c l w hC hl h fun x hx A2 c2 w2 hl2 hC2 => ?_
      rw [okT_eq]
      refine ih x.f0 x.f1 x.f2 A2 c2 w2 ?_ hl2 hC2
      have h1 := List.sizeOf_lt_of_mem hx
      have h2 : SizeOf.sizeOf x.f2 < SizeOf.sizeOf x := by cases x; simp; omega
      omega
    · replace h := Bool.eq_false_iff.mpr h
      rw [h, Bool.false_and]
      exact node_bad a0 a1 A c l w h
end Are68

def impl_term_areNumbers.f (k : Nat) (a0_0 : Int) (a0_1 : Int) (l0_2 : List (S68)) : Option (Bool) := some (Are68.nodeOk a0_0 a0_1 && Are68.okL l0_2)
theorem impl_term_areNumbers.mono : ∀ a0 a1 a2 k, LeO (impl_term_areNumbers.f k a0 a1 a2) (impl_term_areNumbers.f (k + 1) a0 a1 a2) := fun _ _ _ _ => LeO.refl _
theorem impl_term_areNumbers.calls (k : Nat) (a0_0 : Int) (a0_1 : Int) (A0_2 : Option Addr) (c0_2 : Nat) (l0_2 : List (S68)) (r : Bool) (w : World) (hr0_2 : Kd.C k68 w A0_2 l0_2.length l0_2) (hc0_2 : l0_2.length ≤ c0_2) (h : impl_term_areNumbers.f k a0_0 a0_1 l0_2 = some r) :
    Calls Try.prog 88 #[.agg #[.int .i64 a0_0, .int .i64 a0_1, .slice A0_2 l0_2.length c0_2]] w fun e w' => e = .returned (.bool r) ∧ Below w.heap.size w w' := by
  obtain rfl := Option.some.inj h
  exact Are68.all_some (SizeOf.sizeOf l0_2) a0_0 a0_1 l0_2 A0_2 c0_2 w (Nat.le_refl _) hc0_2 hr0_2
end Go.Proofs.Ytcjhhdecckcibaa.G
