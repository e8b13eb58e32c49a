/- The functions' forms and the proofs that the machine computes them: printed by a changed copy of the kit's printer, shortened by a program. -/
import Derived.Test.YtkenmmfplnheaaaGreatDoorWalk3
namespace Go.Proofs.YtkenmmfplnheaaaGreatDoor.P
open Go.Proofs.YtkenmmfplnheaaaGreatDoor.Giv
open Go.RowKit Go.Proofs.YtkenmmfplnheaaaGreatDoorW.PrintWords Go.Proofs.YtkenmmfplnheaaaGreatDoorW.PrintLast Go.Proofs.YtkenmmfplnheaaaGreatDoorW.PrintMore
attribute [local go_sem] max2_int min2_int max_two min_two max_three min_three max_four min_four   -- for this text's walks alone
set_option linter.unusedVariables false
set_option linter.unusedSimpArgs false
set_option maxHeartbeats 8000000
set_option maxRecDepth 100000
def r2_Good.l0 : Nat → Int → Int → Bool → List Int → Option (Bool)
 | 0, _, _, _, _ => none
 | k + 1, x3, x4, x696000, x696001 => if x4 < x3 then (if 0 ≤ x4 then (if x4 < (x696001.length : Int) then (if (rd x696001 x4) ≥ 1000000000000000000 then (some false) else (r2_Good.l0 k x3 (wrap64 (x4 + 1)) x696000 x696001)) else (none)) else (none)) else (if 0 ≤ (wrap64 (x3 - 1)) then (if (wrap64 (x3 - 1)) < (x696001.length : Int) then (some ((rd x696001 (wrap64 (x3 - 1))) != 0)) else (none)) else (none))
def r2_Good.f (k : Nat) (a0_0 : Bool) (l0_1 : List Int) : Option (Bool) := if (l0_1.length : Int) = 0 then (some (!a0_0)) else (if (l0_1.length : Int) > 30 then (some false) else (r2_Good.l0 k (l0_1.length : Int) 0 a0_0 l0_1))
theorem r2_Good.calls (k : Nat) (a0_0 : Bool) (A0_1 : Option Addr) (c0_1 : Nat) (l0_1 : List Int) (r : Bool) (w : World) (hr0_1 : Kd.C (Kd.int .u64) w A0_1 l0_1.length l0_1) (hc0_1 : l0_1.length ≤ c0_1) (h : r2_Good.f k a0_0 l0_1 = some r) :
  Calls Tryz.prog 38 #[.agg #[.bool a0_0, .slice A0_1 l0_1.length c0_1]] w fun e w' => e = .returned (.bool r) ∧ Below w.heap.size w w' := by
 have hu24 := Tryz.underlying24
 have HR0_1 := Az hr0_1
 have HC0_1 := Az hc0_1
 have HB := Az (Below.refl w.heap.size w)
 have H := h
 unfold r2_Good.f at H
 by_cases c2 : (l0_1.length : Int) = 0
 ·rw [if_pos c2] at H
  obtain rfl := Option.some.inj H
  go_enter Tryz.func38, Tryz.ntmps38
  go_wp2_with (first | (refine be 1 #[.bool a0_0, .slice A0_1 l0_1.length c0_1] 24 ?_; intro gb695 hg w3 hbox hb; have BK695 := Az (hbox); have GW695 := gw (bl HB) hg; have GE695 := gw (bl HB) hg; replace HB := bs HB hb; clear hb hbox hg; have hz4_1 := bz BK695))
  go_ret
  exact ⟨fe, bls HB⟩
 rw [if_neg c2] at H
 by_cases c5 : (l0_1.length : Int) > 30
 ·rw [if_pos c5] at H
  obtain rfl := Option.some.inj H
  go_enter Tryz.func38, Tryz.ntmps38
  go_wp2_with (first | (refine be 1 #[.bool a0_0, .slice A0_1 l0_1.length c0_1] 24 ?_; intro gb695 hg w6 hbox hb; have BK695 := Az (hbox); have GW695 := gw (bl HB) hg; have GE695 := gw (bl HB) hg; replace HB := bs HB hb; clear hb hbox hg; have hz7_1 := bz BK695))
  go_ret
  exact ⟨fe, bls HB⟩
 rw [if_neg c5] at H
 have H' := Az H
 go_enter Tryz.func38, Tryz.ntmps38
 go_wp2_with (first | (refine be 1 #[.bool a0_0, .slice A0_1 l0_1.length c0_1] 24 ?_; intro gb695 hg w8 hbox hb; have BK695 := Az (hbox); have GW695 := gw (bl HB) hg; have GE695 := gw (bl HB) hg; replace HB := bs HB hb; clear hb hbox hg; have hz9_1 := bz BK695))
 go_loopg [4] k (fun kq v4 w' => ∃ (x4_1 : Int), v4 = .int .i64 x4_1 ∧ Aside0 (r2_Good.l0 kq (l0_1.length : Int) x4_1 a0_0 l0_1 = some r) ∧ Aside0 (kq ≤ k) ∧ Aside0 (w'.heap[gb695]? = some (.cells #[.bool a0_0, (.slice A0_1 l0_1.length c0_1)] 24 (0, 0))) ∧ Aside0 (Below w.heap.size w w'))
 case atStart => exact ⟨(0), rs, H', ⟨Nat.le_refl _⟩, ⟨bk BK695⟩, ⟨bls HB⟩⟩
 case round =>
  obtain ⟨x4_1, rfl, HA, HK1, BK695, HB⟩ := hrel
  cases gk with
  | zero => exact absurd HA.out (by simp [r2_Good.l0])
  | succ k1 =>
   have H := HA.out
   simp only [r2_Good.l0] at H
   by_cases c10 : x4_1 < (l0_1.length : Int)
   case neg =>
    rw [if_neg c10] at H
    obtain ⟨ji16, hji16⟩ : ∃ j_ : Int, (wrap64 ((l0_1.length : Int) - 1)) = j_ := ⟨_, rfl⟩
    replace H : (if 0 ≤ (ji16) then (if (ji16) < (l0_1.length : Int) then (some ((rd l0_1 (ji16)) != 0)) else (none)) else (none)) = some r := by first | (rw [hji16] at H; exact H) | (simp only [hji16] at H ⊢; exact H)
    have hji16w : (IntKind.i64.wrap ((l0_1.length : Int) - 1)) = ji16 := (i64_w _).trans hji16
    by_cases c17 : 0 ≤ (ji16)
    case neg =>
     rw [if_neg c17] at H
     exact absurd H (by simp)
    rw [if_pos c17] at H
    have c17b0 := decide_eq_true c17
    by_cases c18 : (ji16) < (l0_1.length : Int)
    case neg =>
     rw [if_neg c18] at H
     exact absurd H (by simp)
    rw [if_pos c18] at H
    have c18b0 := decide_eq_true c18
    obtain rfl := Option.some.inj H
    have hz19_1 := bz BK695
    have p697 : 0 ≤ ((ji16) : Int) := ode
    have q697 : (ji16) < (l0_1.length : Int) := ode
    obtain ⟨ad697, e697, hx697_0⟩ := Kd.at_int HR0_1.out (ji16) p697 q697
    cases e697
    replace hx697_0 := (HB.out.cell (World.block_lt_of_cell? w _ hx697_0)).trans hx697_0
    replace p697 := eq_true p697
    replace q697 := eq_true q697
    go_wp2
    go_ret
    exact ⟨by first | rfl | (simp [errW_none, errW_some] <;> rfl) | (simp only [← hji16]; first | rfl | (simp [errW_none, errW_some] <;> rfl)) | (simp [*, errW_none, errW_some] <;> rfl), bls HB⟩
   rw [if_pos c10] at H
   have c10b0 := decide_eq_true c10
   by_cases c11 : 0 ≤ x4_1
   case neg =>
    rw [if_neg c11] at H
    exact absurd H (by simp)
   rw [if_pos c11] at H
   have c11b0 := decide_eq_true c11
   clear c11
   by_cases c12 : x4_1 < (l0_1.length : Int)
   case neg =>
    rw [if_neg c12] at H
    exact absurd H (by simp)
   rw [if_pos c12] at H
   have c12b0 := decide_eq_true c12
   clear c12
   by_cases c13 : (rd l0_1 x4_1) ≥ 1000000000000000000
   ·rw [if_pos c13] at H
    have c13b0 : decide (1000000000000000000 ≤ (rd l0_1 x4_1)) = true := decide_eq_true c13
    obtain rfl := Option.some.inj H
    have hz14_1 := bz BK695
    have p696 : 0 ≤ (x4_1 : Int) := ode
    have q696 : x4_1 < (l0_1.length : Int) := ode
    obtain ⟨ad696, e696, hx696_0⟩ := Kd.at_int HR0_1.out x4_1 p696 q696
    cases e696
    replace hx696_0 := (HB.out.cell (World.block_lt_of_cell? w _ hx696_0)).trans hx696_0
    replace p696 := eq_true p696
    replace q696 := eq_true q696
    go_wp2
    go_ret
    exact ⟨fe, bls HB⟩
   rw [if_neg c13] at H
   have c13b0 : decide (1000000000000000000 ≤ (rd l0_1 x4_1)) = false := decide_eq_false c13
   clear c13
   have H' := Az H
   clear H
   have hz15_1 := bz BK695
   have p696 : 0 ≤ (x4_1 : Int) := ode
   have q696 : x4_1 < (l0_1.length : Int) := ode
   obtain ⟨ad696, e696, hx696_0⟩ := Kd.at_int HR0_1.out x4_1 p696 q696
   cases e696
   replace hx696_0 := (HB.out.cell (World.block_lt_of_cell? w _ hx696_0)).trans hx696_0
   replace p696 := eq_true p696
   replace q696 := eq_true q696
   go_wp2
   go_roundg k1
   case measure => have := HK1.out; omega
   case rel => exact ⟨(wrap64 (x4_1 + 1)), rs, H', ⟨by have := HK1.out; omega⟩, ⟨bk BK695⟩, ⟨bls HB⟩⟩
mutual
def r5_Good.j0 : Nat → Bool → Int → Bool → Bool → List Int → Int → ByteArray → List (S28) → Option (Bool)
 | 0, _, _, _, _, _, _, _, _ => none
 | k + 1, x16, x699000, x699001, x699002, x699003, x699004, x699005, x699006 => if x16 = true then (some false) else (if x699000 = 1 then (if x699000 = 3 then (if x699000 = 4 then (r5_Good.j1 k false x699000 x699001 x699002 x699003 x699004 x699005 x699006) else (r5_Good.j1 k (x699005.toList != ([] : List UInt8)) x699000 x699001 x699002 x699003 x699004 x699005 x699006)) else (if x699004 = 0 then (if x699000 = 4 then (r5_Good.j1 k false x699000 x699001 x699002 x699003 x699004 x699005 x699006) else (r5_Good.j1 k (x699005.toList != ([] : List UInt8)) x699000 x699001 x699002 x699003 x699004 x699005 x699006)) else (r5_Good.j1 k true x699000 x699001 x699002 x699003 x699004 x699005 x699006))) else (if x699001 = true then (r5_Good.j1 k true x699000 x699001 x699002 x699003 x699004 x699005 x699006) else (if x699000 = 3 then (if x699000 = 4 then (r5_Good.j1 k false x699000 x699001 x699002 x699003 x699004 x699005 x699006) else (r5_Good.j1 k (x699005.toList != ([] : List UInt8)) x699000 x699001 x699002 x699003 x699004 x699005 x699006)) else (if x699004 = 0 then (if x699000 = 4 then (r5_Good.j1 k false x699000 x699001 x699002 x699003 x699004 x699005 x699006) else (r5_Good.j1 k (x699005.toList != ([] : List UInt8)) x699000 x699001 x699002 x699003 x699004 x699005 x699006)) else (r5_Good.j1 k true x699000 x699001 x699002 x699003 x699004 x699005 x699006)))))
def r5_Good.j1 : Nat → Bool → Int → Bool → Bool → List Int → Int → ByteArray → List (S28) → Option (Bool)
 | 0, _, _, _, _, _, _, _, _ => none
 | k + 1, x43, x699000, x699001, x699002, x699003, x699004, x699005, x699006 => if x43 = true then (some false) else (if x699000 = 2 then ((r2_Good.f k x699002 x699003).bind fun t699 => (some t699)) else (if x699002 = true then (some false) else (if (x699003.length : Int) = 0 then (some (decide ((x699005.size : Int) ≤ 20000))) else (some false))))
end
def r5_Good.f (k : Nat) (a0_0 : Int) (a0_1 a0_2 : Bool) (l0_3 : List Int) (a0_4 : Int) (a0_5 : ByteArray) (l0_6 : List (S28)) : Option (Bool) := if a0_0 < 0 then (r5_Good.j0 k true a0_0 a0_1 a0_2 l0_3 a0_4 a0_5 l0_6) else (if a0_0 > 4 then (r5_Good.j0 k true a0_0 a0_1 a0_2 l0_3 a0_4 a0_5 l0_6) else (r5_Good.j0 k ((l0_6.length : Int) != 0) a0_0 a0_1 a0_2 l0_3 a0_4 a0_5 l0_6))
theorem r5_Good.calls (k : Nat) (a0_0 : Int) (a0_1 a0_2 : Bool) (A0_3 : Option Addr) (c0_3 : Nat) (l0_3 : List Int) (a0_4 : Int) (a0_5 : ByteArray) (A0_6 : Option Addr) (c0_6 : Nat) (l0_6 : List (S28)) (r : Bool) (w : World) (hr0_3 : Kd.C (Kd.int .u64) w A0_3 l0_3.length l0_3) (hc0_3 : l0_3.length ≤ c0_3) (hr0_6 : Kd.C k28 w A0_6 l0_6.length l0_6) (hc0_6 : l0_6.length ≤ c0_6) (h : r5_Good.f k a0_0 a0_1 a0_2 l0_3 a0_4 a0_5 l0_6 = some r) :
  Calls Tryz.prog 15 #[.agg #[.int .i64 a0_0, .bool a0_1, .bool a0_2, .slice A0_3 l0_3.length c0_3, .int .u64 a0_4, .string a0_5, .slice A0_6 l0_6.length c0_6]] w fun e w' => e = .returned (.bool r) ∧ Below w.heap.size w w' := by
 have hu28 := Tryz.underlying28
 have hu24 := Tryz.underlying24
 have HR0_3 := Az hr0_3
 have HC0_3 := Az hc0_3
 have HR0_6 := Az hr0_6
 have HC0_6 := Az hc0_6
 have HB := Az (Below.refl w.heap.size w)
 have H := h
 unfold r5_Good.f at H
 have HC2 := Az H
 go_enter Tryz.func15, Tryz.ntmps15
 go_upto_region 1 with (first | ((try (refine gate_guard (by rfl) ?_; dsimp only)); refine be 1 #[.int .i64 a0_0, .bool a0_1, .bool a0_2, .slice A0_3 l0_3.length c0_3, .int .u64 a0_4, .string a0_5, .slice A0_6 l0_6.length c0_6] 28 ?_; intro gb698 hg w3 hbox hb; have BK698 := Az (hbox); have GW698 := gw (bl HB) hg; have GE698 := gw (bl HB) hg; replace HB := bs HB hb; clear hb hbox hg))
 (try simp only [Act.put, List.setIfInBounds_toArray, List.set_cons_zero, List.set_cons_succ])
 go_cut [16] (fun v16 wc => ∃ (kq : Nat) (x16_1 : Bool), v16 = .bool x16_1 ∧ Aside0 (r5_Good.j0 kq x16_1 a0_0 a0_1 a0_2 l0_3 a0_4 a0_5 l0_6 = some r) ∧ Aside0 (kq ≤ k) ∧ Aside0 (wc.heap[gb698]? = some (.cells #[.int .i64 a0_0, .bool a0_1, .bool a0_2, (.slice A0_3 l0_3.length c0_3), .int .u64 a0_4, .string a0_5, (.slice A0_6 l0_6.length c0_6)] 28 (0, 0))) ∧ Aside0 (Below w.heap.size w wc))
 case first =>
  have H := HC2.out
  by_cases c4 : a0_0 < 0
  ·rw [if_pos c4] at H
   have c4b0 := decide_eq_true c4
   (first | rw [c4b0] | (simp only [i64_w, i32_w]; rw [c4b0]) | skip)
   have H' := Az H
   have hz5_1 := bz BK698
   go_wp2
   go_meet
   case rel => exact ⟨_, (true), rs, H', ⟨le0⟩, ⟨bk BK698⟩, ⟨bls HB⟩⟩
  rw [if_neg c4] at H
  have c4b0 := decide_eq_false c4
  (first | rw [c4b0] | (simp only [i64_w, i32_w]; rw [c4b0]) | skip)
  by_cases c6 : a0_0 > 4
  ·rw [if_pos c6] at H
   have c6b0 : decide (4 < a0_0) = true := decide_eq_true c6
   have H' := Az H
   have hz7_1 := bz BK698
   go_wp2
   go_meet
   case rel => exact ⟨_, (true), rs, H', ⟨le0⟩, ⟨bk BK698⟩, ⟨bls HB⟩⟩
  rw [if_neg c6] at H
  have c6b0 : decide (4 < a0_0) = false := decide_eq_false c6
  have H' := Az H
  have hz8_1 := bz BK698
  go_wp2
  go_meet
  case rel => exact ⟨_, (((l0_6.length : Int) != 0)), rs, H', ⟨le0⟩, ⟨bk BK698⟩, ⟨bls HB⟩⟩
 case rest =>
  obtain ⟨kq, x16_1, rfl, HA, HJ1, BK698, HB⟩ := hcut
  cases kq with
  | zero => exact absurd HA.out (by simp [r5_Good.j0])
  | succ kj1 =>
   have H := HA.out
   simp only [r5_Good.j0] at H
   by_cases c9 : x16_1 = true
   ·subst c9
    rw [if_pos rfl] at H
    obtain rfl := Option.some.inj H
    go_wp2
    go_ret
    exact ⟨fe, bls HB⟩
   replace c9 := Bool.eq_false_iff.mpr c9
   subst c9
   rw [if_neg Bool.false_ne_true] at H
   have HC10 := Az H
   go_upto_region 3 with (fail)
   go_cut [43] (fun v43 wc => ∃ (kq : Nat) (x43_9 : Bool), v43 = .bool x43_9 ∧ Aside0 (r5_Good.j1 kq x43_9 a0_0 a0_1 a0_2 l0_3 a0_4 a0_5 l0_6 = some r) ∧ Aside0 (kq ≤ kj1) ∧ Aside0 (wc.heap[gb698]? = some (.cells #[.int .i64 a0_0, .bool a0_1, .bool a0_2, (.slice A0_3 l0_3.length c0_3), .int .u64 a0_4, .string a0_5, (.slice A0_6 l0_6.length c0_6)] 28 (0, 0))) ∧ Aside0 (Below w.heap.size w wc))
   case first =>
    have H := HC10.out
    clear HC10
    by_cases c11 : a0_0 = 1
    ·rw [if_pos c11] at H
     have c11b0 := beq_iff_eq.mpr c11
     have c11b1 := bne_eq_false_iff_eq.mpr c11
     clear c11
     (first | rw [c11b0] | (simp only [i64_w, i32_w]; rw [c11b0]) | skip)
     by_cases c12 : a0_0 = 3
     ·rw [if_pos c12] at H
      have c12b0 := beq_iff_eq.mpr c12
      have c12b1 := bne_eq_false_iff_eq.mpr c12
      clear c12
      by_cases c13 : a0_0 = 4
      case neg =>
       rw [if_neg c13] at H
       have c13b0 := beq_eq_false_iff_ne.mpr c13
       have c13b1 := bne_iff_ne.mpr c13
       have H' := Az H
       clear H
       have hz15_1 := bz BK698
       go_wp2
       go_meet
       case rel => exact ⟨_, ((a0_5.toList != ([] : List UInt8))), rs, H', ⟨le1 HJ1⟩, ⟨bk BK698⟩, ⟨bls HB⟩⟩
      rw [if_pos c13] at H
      have c13b0 := beq_iff_eq.mpr c13
      have c13b1 := bne_eq_false_iff_eq.mpr c13
      clear c13
      have H' := Az H
      clear H
      have hz14_1 := bz BK698
      go_wp2
      go_meet
      case rel => exact ⟨_, (false), rs, H', ⟨le1 HJ1⟩, ⟨bk BK698⟩, ⟨bls HB⟩⟩
     rw [if_neg c12] at H
     have c12b0 := beq_eq_false_iff_ne.mpr c12
     have c12b1 := bne_iff_ne.mpr c12
     by_cases c16 : a0_4 = 0
     case neg =>
      rw [if_neg c16] at H
      have c16b0 := beq_eq_false_iff_ne.mpr c16
      have c16b1 := bne_iff_ne.mpr c16
      have H' := Az H
      have hz20_1 := bz BK698
      go_wp2
      go_meet
      case rel => exact ⟨_, (true), rs, H', ⟨le1 HJ1⟩, ⟨bk BK698⟩, ⟨bls HB⟩⟩
     rw [if_pos c16] at H
     have c16b0 := beq_iff_eq.mpr c16
     have c16b1 := bne_eq_false_iff_eq.mpr c16
     clear c16
     by_cases c17 : a0_0 = 4
     case neg =>
      rw [if_neg c17] at H
      have c17b0 := beq_eq_false_iff_ne.mpr c17
      have c17b1 := bne_iff_ne.mpr c17
      have H' := Az H
      have hz19_1 := bz BK698
      go_wp2
      go_meet
      case rel => exact ⟨_, ((a0_5.toList != ([] : List UInt8))), rs, H', ⟨le1 HJ1⟩, ⟨bk BK698⟩, ⟨bls HB⟩⟩
     rw [if_pos c17] at H
     have c17b0 := beq_iff_eq.mpr c17
     have c17b1 := bne_eq_false_iff_eq.mpr c17
     clear c17
     have H' := Az H
     clear H
     have hz18_1 := bz BK698
     go_wp2
     go_meet
     case rel => exact ⟨_, (false), rs, H', ⟨le1 HJ1⟩, ⟨bk BK698⟩, ⟨bls HB⟩⟩
    rw [if_neg c11] at H
    have c11b0 := beq_eq_false_iff_ne.mpr c11
    have c11b1 := bne_iff_ne.mpr c11
    (first | rw [c11b0] | (simp only [i64_w, i32_w]; rw [c11b0]) | skip)
    by_cases c21 : a0_1 = true
    ·subst c21
     rw [if_pos rfl] at H
     have H' := Az H
     have hz22_1 := bz BK698
     go_wp2
     go_meet
     case rel => exact ⟨_, (true), rs, H', ⟨le1 HJ1⟩, ⟨bk BK698⟩, ⟨bls HB⟩⟩
    replace c21 := Bool.eq_false_iff.mpr c21
    subst c21
    rw [if_neg Bool.false_ne_true] at H
    by_cases c23 : a0_0 = 3
    ·rw [if_pos c23] at H
     have c23b0 := beq_iff_eq.mpr c23
     have c23b1 := bne_eq_false_iff_eq.mpr c23
     clear c23
     by_cases c24 : a0_0 = 4
     case neg =>
      rw [if_neg c24] at H
      have c24b0 := beq_eq_false_iff_ne.mpr c24
      have c24b1 := bne_iff_ne.mpr c24
      have H' := Az H
      have hz26_1 := bz BK698
      go_wp2
      go_meet
      case rel => exact ⟨_, ((a0_5.toList != ([] : List UInt8))), rs, H', ⟨le1 HJ1⟩, ⟨bk BK698⟩, ⟨bls HB⟩⟩
     rw [if_pos c24] at H
     have c24b0 := beq_iff_eq.mpr c24
     have c24b1 := bne_eq_false_iff_eq.mpr c24
     clear c24
     have H' := Az H
     clear H
     have hz25_1 := bz BK698
     go_wp2
     go_meet
     case rel => exact ⟨_, (false), rs, H', ⟨le1 HJ1⟩, ⟨bk BK698⟩, ⟨bls HB⟩⟩
    rw [if_neg c23] at H
    have c23b0 := beq_eq_false_iff_ne.mpr c23
    have c23b1 := bne_iff_ne.mpr c23
    by_cases c27 : a0_4 = 0
    case neg =>
     rw [if_neg c27] at H
     have c27b0 := beq_eq_false_iff_ne.mpr c27
     have c27b1 := bne_iff_ne.mpr c27
     have H' := Az H
     have hz31_1 := bz BK698
     go_wp2
     go_meet
     case rel => exact ⟨_, (true), rs, H', ⟨le1 HJ1⟩, ⟨bk BK698⟩, ⟨bls HB⟩⟩
    rw [if_pos c27] at H
    have c27b0 := beq_iff_eq.mpr c27
    have c27b1 := bne_eq_false_iff_eq.mpr c27
    by_cases c28 : a0_0 = 4
    case neg =>
     rw [if_neg c28] at H
     have c28b0 := beq_eq_false_iff_ne.mpr c28
     have c28b1 := bne_iff_ne.mpr c28
     have H' := Az H
     have hz30_1 := bz BK698
     go_wp2
     go_meet
     case rel => exact ⟨_, ((a0_5.toList != ([] : List UInt8))), rs, H', ⟨le1 HJ1⟩, ⟨bk BK698⟩, ⟨bls HB⟩⟩
    rw [if_pos c28] at H
    have c28b0 := beq_iff_eq.mpr c28
    have c28b1 := bne_eq_false_iff_eq.mpr c28
    have H' := Az H
    have hz29_1 := bz BK698
    go_wp2
    go_meet
    case rel => exact ⟨_, (false), rs, H', ⟨le1 HJ1⟩, ⟨bk BK698⟩, ⟨bls HB⟩⟩
   case rest =>
    obtain ⟨kq, x43_9, rfl, HA, HJ9, BK698, HB⟩ := hcut
    cases kq with
    | zero => exact absurd HA.out (by simp [r5_Good.j1])
    | succ kj9 =>
     have H := HA.out
     simp only [r5_Good.j1] at H
     by_cases c32 : x43_9 = true
     ·subst c32
      rw [if_pos rfl] at H
      obtain rfl := Option.some.inj H
      go_wp2
      go_ret
      exact ⟨fe, bls HB⟩
     replace c32 := Bool.eq_false_iff.mpr c32
     subst c32
     rw [if_neg Bool.false_ne_true] at H
     by_cases c33 : a0_0 = 2
     ·rw [if_pos c33] at H
      have c33b0 := beq_iff_eq.mpr c33
      have c33b1 := bne_eq_false_iff_eq.mpr c33
      obtain ⟨t699, A34, H⟩ := bd H
      obtain rfl := Option.some.inj H
      have hz35_1 := bz BK698
      go_wp2_with (first | (refine gl (some 66) Tryz.func38 #[.agg #[.bool a0_2, .slice A0_3 l0_3.length c0_3]] ?_; (with_reducible refine (r2_Good.calls kj9 a0_2 _ _ l0_3 t699 _ (ck HR0_3 HB) HC0_3.out A34.out).mono ?_); rintro e w36 ⟨rfl, hb⟩; refine ⟨_, rfl, ?_⟩; replace BK698 := kb BK698 hb; replace HB := bs HB hb))
      go_ret
      exact ⟨fe, bls HB⟩
     rw [if_neg c33] at H
     have c33b0 := beq_eq_false_iff_ne.mpr c33
     have c33b1 := bne_iff_ne.mpr c33
     by_cases c37 : a0_2 = true
     ·subst c37
      rw [if_pos rfl] at H
      obtain rfl := Option.some.inj H
      have hz38_1 := bz BK698
      go_wp2
      go_ret
      exact ⟨fe, bls HB⟩
     replace c37 := Bool.eq_false_iff.mpr c37
     subst c37
     rw [if_neg Bool.false_ne_true] at H
     by_cases c39 : (l0_3.length : Int) = 0
     ·rw [if_pos c39] at H
      have c39b0 := beq_iff_eq.mpr c39
      have c39b1 := bne_eq_false_iff_eq.mpr c39
      obtain rfl := Option.some.inj H
      have hz40_1 := bz BK698
      go_wp2
      go_ret
      exact ⟨fe, bls HB⟩
     rw [if_neg c39] at H
     have c39b0 := beq_eq_false_iff_ne.mpr c39
     have c39b1 := bne_iff_ne.mpr c39
     have c39b2 : ¬ (l0_3 = []) := fun h_ => c39 (by rw [h_]; rfl)
     obtain rfl := Option.some.inj H
     have hz41_1 := bz BK698
     go_wp2
     go_ret
     exact ⟨fe, bls HB⟩
def w5_PlainAgree.j0 : Nat → Bool → Int → Bool → Bool → List Int → Int → ByteArray → List (S28) → Int → Bool → Bool → List Int → Int → ByteArray → List (S28) → Option (Bool)
 | 0, _, _, _, _, _, _, _, _, _, _, _, _, _, _, _ => none
 | k + 1, x80, x919000, x919001, x919002, x919003, x919004, x919005, x919006, x920000, x920001, x920002, x920003, x920004, x920005, x920006 => if x80 = true then (none) else (if x919000 = 3 then ((r5_Good.f k x919000 x919001 x919002 x919003 x919004 x919005 x919006).bind fun t936 => (if t936 = true then ((r3_IsNaN.f x919004).bind fun t937 => ((p_Same.f k x919000 x919001 x919002 x919003 x919004 x919005 x919006 x920000 x920001 x920002 x920003 x920004 x920005 x920006).bind fun t938 => (if t938 = true then ((p_Equal.f k x919000 x919001 x919002 x919003 x919004 x919005 x919006 x920000 x920001 x920002 x920003 x920004 x920005 x920006).bind fun t939 => (if t939 = true then (some true) else (some t937))) else (some true)))) else ((p_Same.f k x919000 x919001 x919002 x919003 x919004 x919005 x919006 x920000 x920001 x920002 x920003 x920004 x920005 x920006).bind fun t940 => (if t940 = true then ((p_Equal.f k x919000 x919001 x919002 x919003 x919004 x919005 x919006 x920000 x920001 x920002 x920003 x920004 x920005 x920006).bind fun t941 => (if t941 = true then (some true) else (none))) else (some true))))) else ((p_Same.f k x919000 x919001 x919002 x919003 x919004 x919005 x919006 x920000 x920001 x920002 x920003 x920004 x920005 x920006).bind fun t942 => (if t942 = true then ((p_Equal.f k x919000 x919001 x919002 x919003 x919004 x919005 x919006 x920000 x920001 x920002 x920003 x920004 x920005 x920006).bind fun t943 => (if t943 = true then (some true) else (none))) else (some true))))
def w5_PlainAgree.f (k : Nat) (a0_0 : Int) (a0_1 a0_2 : Bool) (l0_3 : List Int) (a0_4 : Int) (a0_5 : ByteArray) (l0_6 : List (S28)) (a1_0 : Int) (a1_1 a1_2 : Bool) (l1_3 : List Int) (a1_4 : Int) (a1_5 : ByteArray) (l1_6 : List (S28)) : Option (Bool) := (w5_known.f k).bind fun t920 => (if t920 = true then ((p_Order.f k a0_0 a0_1 a0_2 l0_3 a0_4 a0_5 l0_6 a1_0 a1_1 a1_2 l1_3 a1_4 a1_5 l1_6).bind fun bt921 => ((p_Order.f k a1_0 a1_1 a1_2 l1_3 a1_4 a1_5 l1_6 a0_0 a0_1 a0_2 l0_3 a0_4 a0_5 l0_6).bind fun bt924 => (if bt921.1 = (wrap64 (-bt924.1)) then (if (bt921.2.1 != bt924.2.1) = true then (none) else (if bt921.2.2 = bt924.2.2 then ((p_Equal.f k a0_0 a0_1 a0_2 l0_3 a0_4 a0_5 l0_6 a1_0 a1_1 a1_2 l1_3 a1_4 a1_5 l1_6).bind fun t927 => ((p_Equal.f k a1_0 a1_1 a1_2 l1_3 a1_4 a1_5 l1_6 a0_0 a0_1 a0_2 l0_3 a0_4 a0_5 l0_6).bind fun t928 => (if (t927 != t928) = true then (none) else ((p_Same.f k a0_0 a0_1 a0_2 l0_3 a0_4 a0_5 l0_6 a1_0 a1_1 a1_2 l1_3 a1_4 a1_5 l1_6).bind fun t929 => ((p_Same.f k a1_0 a1_1 a1_2 l1_3 a1_4 a1_5 l1_6 a0_0 a0_1 a0_2 l0_3 a0_4 a0_5 l0_6).bind fun t930 => (if (t929 != t930) = true then (none) else ((p_Equal.f k a0_0 a0_1 a0_2 l0_3 a0_4 a0_5 l0_6 a1_0 a1_1 a1_2 l1_3 a1_4 a1_5 l1_6).bind fun t931 => (if t931 = true then ((p_Hash.f k a0_0 a0_1 a0_2 l0_3 a0_4 a0_5 l0_6).bind fun t932 => ((p_Hash.f k a1_0 a1_1 a1_2 l1_3 a1_4 a1_5 l1_6).bind fun t933 => (if t932 = t933 then ((p_Truth.f k a0_0 a0_1 a0_2 l0_3 a0_4 a0_5 l0_6).bind fun t934 => ((p_Truth.f k a1_0 a1_1 a1_2 l1_3 a1_4 a1_5 l1_6).bind fun t935 => (if (t934 != t935) = true then (none) else (w5_PlainAgree.j0 k (bt921.1 != 0) a0_0 a0_1 a0_2 l0_3 a0_4 a0_5 l0_6 a1_0 a1_1 a1_2 l1_3 a1_4 a1_5 l1_6)))) else (none)))) else (w5_PlainAgree.j0 k false a0_0 a0_1 a0_2 l0_3 a0_4 a0_5 l0_6 a1_0 a1_1 a1_2 l1_3 a1_4 a1_5 l1_6))))))))) else (none))) else (none)))) else (none))
def w5_PlainAgree.T5 : Bool × List (List Nat × List Nat) := (true, [([], []), ([], []), ([1], [1]), ([0, 2], [0, 2]), ([3], [3]), ([4], [4]), ([4], [4]), ([5, 6, 4], [4, 5, 6]), ([4, 7], [4, 7]), ([8, 4], [8]), ([9], [9]), ([9], [9]), ([10, 11, 9], [9, 10, 11]), ([9, 12], [9, 12]), ([13, 9], [13]), ([14], [14]), ([14], [14]), ([15, 16, 14, 14], [14, 15, 16]), ([14], [14]), ([14], [14]), ([18, 19, 17, 14], [14, 18, 19]), ([17, 20, 14], [14, 17, 20]), ([14, 21], [14, 21]), ([22, 20], [22]), ([23], [23]), ([23], [23]), ([24, 25, 23, 23], [23, 24, 25]), ([23], [23]), ([23], [23]), ([27, 28, 26, 23], [23, 27, 28]), ([26, 29, 23], [23, 26, 29]), ([23, 30], [23, 30])])
def w5_PlainAgree.B5 : List Nat := [0, 0, 2, 7, 15, 31, 31, 127, 255, 511, 1023, 1023, 4095, 8191, 16383, 32767, 32767, 131071, 32767, 32767, 1048575, 2097151, 4194303, 8388607, 16777215, 16777215, 67108863, 16777215, 16777215, 536870911, 1073741823, 2147483647]
theorem w5_PlainAgree.tab5 : rtab .any (opsOf Tryz.f4 5) = w5_PlainAgree.T5 := by kernel_rfl
theorem w5_PlainAgree.bits5 : waitsOk w5_PlainAgree.T5.2 w5_PlainAgree.B5 = true := by kernel_rfl
def w5_PlainAgree.T7 : Bool × List (List Nat × List Nat) := (true, [([], []), ([], []), ([0, 1], [0, 1]), ([2, 2], [2]), ([3], [3]), ([4, 3, 3], [3, 4]), ([3], [3]), ([6, 5, 3], [3, 6]), ([5, 7, 3], [3, 5, 7]), ([8, 7, 3], [3, 8]), ([9], [9]), ([10, 9, 9], [9, 10]), ([9], [9]), ([12, 11, 9], [9, 12]), ([11, 13, 9], [9, 11, 13]), ([9, 14, 3], [3, 9, 14]), ([15, 13, 3], [3, 15]), ([16], [16]), ([17, 16], [16, 17]), ([16, 18, 3], [3, 16, 18]), ([3, 19], [3, 19])])
def w5_PlainAgree.B7 : List Nat := [0, 0, 3, 7, 15, 31, 15, 127, 255, 511, 1023, 2047, 1023, 8191, 16383, 32767, 65535, 131071, 262143, 524287, 1048575]
theorem w5_PlainAgree.tab7 : rtab .any (opsOf Tryz.f4 7) = w5_PlainAgree.T7 := by kernel_rfl
theorem w5_PlainAgree.bits7 : waitsOk w5_PlainAgree.T7.2 w5_PlainAgree.B7 = true := by kernel_rfl
theorem w5_PlainAgree.calls (k : Nat) (a0_0 : Int) (a0_1 a0_2 : Bool) (A0_3 : Option Addr) (c0_3 : Nat) (l0_3 : List Int) (a0_4 : Int) (a0_5 : ByteArray) (A0_6 : Option Addr) (c0_6 : Nat) (l0_6 : List (S28)) (a1_0 : Int) (a1_1 a1_2 : Bool) (A1_3 : Option Addr) (c1_3 : Nat) (l1_3 : List Int) (a1_4 : Int) (a1_5 : ByteArray) (A1_6 : Option Addr) (c1_6 : Nat) (l1_6 : List (S28)) (r : Bool) (w : World) (hr0_3 : Kd.C (Kd.int .u64) w A0_3 l0_3.length l0_3) (hc0_3 : l0_3.length ≤ c0_3) (hr0_6 : Kd.C k28 w A0_6 l0_6.length l0_6) (hc0_6 : l0_6.length ≤ c0_6) (hr1_3 : Kd.C (Kd.int .u64) w A1_3 l1_3.length l1_3) (hc1_3 : l1_3.length ≤ c1_3) (hr1_6 : Kd.C k28 w A1_6 l1_6.length l1_6) (hc1_6 : l1_6.length ≤ c1_6) (h : w5_PlainAgree.f k a0_0 a0_1 a0_2 l0_3 a0_4 a0_5 l0_6 a1_0 a1_1 a1_2 l1_3 a1_4 a1_5 l1_6 = some r) :
  Calls Tryz.prog 4 #[.agg #[.int .i64 a0_0, .bool a0_1, .bool a0_2, .slice A0_3 l0_3.length c0_3, .int .u64 a0_4, .string a0_5, .slice A0_6 l0_6.length c0_6], .agg #[.int .i64 a1_0, .bool a1_1, .bool a1_2, .slice A1_3 l1_3.length c1_3, .int .u64 a1_4, .string a1_5, .slice A1_6 l1_6.length c1_6]] w fun e w' => e = .returned (.bool r) ∧ Below w.heap.size w w' := by
 have hu28 := Tryz.underlying28
 have HR0_3 := Az hr0_3
 have HC0_3 := Az hc0_3
 clear hr0_3 hc0_3
 have HR0_6 := Az hr0_6
 have HC0_6 := Az hc0_6
 clear hr0_6 hc0_6
 have HR1_3 := Az hr1_3
 have HC1_3 := Az hc1_3
 clear hr1_3 hc1_3
 have HR1_6 := Az hr1_6
 have HC1_6 := Az hc1_6
 clear hr1_6 hc1_6
 have HB := Az (Below.refl w.heap.size w)
 have H := h
 unfold w5_PlainAgree.f at H
 clear h
 obtain ⟨t920, A3, H⟩ := bd H
 by_cases c4 : t920 = true
 case neg =>
  replace c4 := Bool.eq_false_iff.mpr c4
  subst c4
  rw [if_neg Bool.false_ne_true] at H
  exact absurd H (by simp)
 subst c4
 rw [if_pos rfl] at H
 obtain ⟨⟨t921, t922, t923⟩, A5, H⟩ := bd H
 (try dsimp only at H)
 obtain ⟨⟨t924, t925, t926⟩, A6, H⟩ := bd H
 (try dsimp only at H)
 by_cases c7 : t921 = (wrap64 (-t924))
 case neg =>
  rw [if_neg c7] at H
  exact absurd H (by simp)
 rw [if_pos c7] at H
 have c7b0 := beq_iff_eq.mpr c7
 have c7b1 := bne_eq_false_iff_eq.mpr c7
 clear c7
 by_cases c8 : (t922 != t925) = true
 ·rw [if_pos c8] at H
  exact absurd H (by simp)
 rw [if_neg c8] at H
 have c8b0 : (t922 != t925) = false := by simpa using c8
 (try (have c8b1 : decide (t922 = t925) = true := by simpa using c8))
 (try (have c8b2 : (t922 == t925) = true := by simpa using c8))
 clear c8
 by_cases c9 : t923 = t926
 case neg =>
  rw [if_neg c9] at H
  exact absurd H (by simp)
 rw [if_pos c9] at H
 have c9b0 := beq_iff_eq.mpr c9
 have c9b1 := bne_eq_false_iff_eq.mpr c9
 clear c9
 obtain ⟨t927, A10, H⟩ := bd H
 obtain ⟨t928, A11, H⟩ := bd H
 by_cases c12 : (t927 != t928) = true
 ·rw [if_pos c12] at H
  exact absurd H (by simp)
 rw [if_neg c12] at H
 have c12b0 : (t927 != t928) = false := by simpa using c12
 (try (have c12b1 : decide (t927 = t928) = true := by simpa using c12))
 (try (have c12b2 : (t927 == t928) = true := by simpa using c12))
 clear c12
 obtain ⟨t929, A13, H⟩ := bd H
 obtain ⟨t930, A14, H⟩ := bd H
 by_cases c15 : (t929 != t930) = true
 ·rw [if_pos c15] at H
  exact absurd H (by simp)
 rw [if_neg c15] at H
 have c15b0 : (t929 != t930) = false := by simpa using c15
 (try (have c15b1 : decide (t929 = t930) = true := by simpa using c15))
 (try (have c15b2 : (t929 == t930) = true := by simpa using c15))
 clear c15
 have HC16 := Az H
 clear H
 go_enter Tryz.func4, Tryz.ntmps4
 try go_wp2_with (first | (refine be 2 #[.int .i64 a0_0, .bool a0_1, .bool a0_2, .slice A0_3 l0_3.length c0_3, .int .u64 a0_4, .string a0_5, .slice A0_6 l0_6.length c0_6] 28 ?_; intro gb918 hg w17 hbox hb; have BK918 := Az (hbox); have GW918 := gw (bl HB) hg; have GE918 := gw (bl HB) hg; replace HB := bs HB hb; clear hb hbox hg) | (refine be 3 #[.int .i64 a1_0, .bool a1_1, .bool a1_2, .slice A1_3 l1_3.length c1_3, .int .u64 a1_4, .string a1_5, .slice A1_6 l1_6.length c1_6] 28 ?_; intro gb919 hg w18 hbox hb; have BK919 := Az (hbox); have GW919 := gw (bls HB) hg; have GE919 := gw (bls HB) hg; replace HB := bs HB hb; have NB918_919 := nl BK918 hg; have NB919_918 := ng BK918 hg; replace BK918 := kb BK918 hb; clear hb hbox hg) | (refine gl (some 12) Tryz.func5 #[] ?_; (with_reducible refine (w5_known.calls k  true _ A3.out).mono ?_); rintro e w19 ⟨rfl, hb⟩; refine ⟨_, rfl, ?_⟩; replace BK918 := kb BK918 hb; replace BK919 := kb BK919 hb; replace HB := bs HB hb; have hnb20 := NB918_919.out; have hnc20 := NB919_918.out; have hz21_1 := bz BK918; have hz22_2 := bz BK919) | (refine gl (some 17) Tryz.func6 #[.agg #[.int .i64 a0_0, .bool a0_1, .bool a0_2, .slice A0_3 l0_3.length c0_3, .int .u64 a0_4, .string a0_5, .slice A0_6 l0_6.length c0_6], .agg #[.int .i64 a1_0, .bool a1_1, .bool a1_2, .slice A1_3 l1_3.length c1_3, .int .u64 a1_4, .string a1_5, .slice A1_6 l1_6.length c1_6]] ?_; (with_reducible refine (p_Order.calls k a0_0 a0_1 a0_2 _ _ l0_3 a0_4 a0_5 _ _ l0_6 a1_0 a1_1 a1_2 _ _ l1_3 a1_4 a1_5 _ _ l1_6 t921 t922 t923 _ (ck HR0_3 HB) HC0_3.out (ck HR0_6 HB) HC0_6.out (ck HR1_3 HB) HC1_3.out (ck HR1_6 HB) HC1_6.out A5.out).mono ?_); rintro e w23 ⟨rfl, hb⟩; refine ⟨_, rfl, ?_⟩; replace BK918 := kb BK918 hb; replace BK919 := kb BK919 hb; replace HB := bs HB hb; have hz24_1 := bz BK919; have hz25_2 := bz BK918) | (refine gl (some 24) Tryz.func6 #[.agg #[.int .i64 a1_0, .bool a1_1, .bool a1_2, .slice A1_3 l1_3.length c1_3, .int .u64 a1_4, .string a1_5, .slice A1_6 l1_6.length c1_6], .agg #[.int .i64 a0_0, .bool a0_1, .bool a0_2, .slice A0_3 l0_3.length c0_3, .int .u64 a0_4, .string a0_5, .slice A0_6 l0_6.length c0_6]] ?_; (with_reducible refine (p_Order.calls k a1_0 a1_1 a1_2 _ _ l1_3 a1_4 a1_5 _ _ l1_6 a0_0 a0_1 a0_2 _ _ l0_3 a0_4 a0_5 _ _ l0_6 t924 t925 t926 _ (ck HR1_3 HB) HC1_3.out (ck HR1_6 HB) HC1_6.out (ck HR0_3 HB) HC0_3.out (ck HR0_6 HB) HC0_6.out A6.out).mono ?_); rintro e w26 ⟨rfl, hb⟩; refine ⟨_, rfl, ?_⟩; replace BK918 := kb BK918 hb; replace BK919 := kb BK919 hb; replace HB := bs HB hb))
 replace BK918 := Az (blk_drew BK918.out)
 replace BK919 := Az (blk_drew BK919.out)
 replace HB := Az (below_drew1 HB.out)
 refine start_ (n := 32) (S := fun w' => w'.cell? ⟨gb918, 0, none⟩ = some (.int .i64 a0_0) ∧ w'.cell? ⟨gb918, 1, none⟩ = some (.bool a0_1) ∧ w'.cell? ⟨gb918, 2, none⟩ = some (.bool a0_2) ∧ w'.cell? ⟨gb918, 3, none⟩ = some (.slice A0_3 l0_3.length c0_3) ∧ w'.cell? ⟨gb918, 4, none⟩ = some (.int .u64 a0_4) ∧ w'.cell? ⟨gb918, 5, none⟩ = some (.string a0_5) ∧ w'.cell? ⟨gb918, 6, none⟩ = some (.slice A0_6 l0_6.length c0_6) ∧ w'.cell? ⟨gb919, 0, none⟩ = some (.int .i64 a1_0) ∧ w'.cell? ⟨gb919, 1, none⟩ = some (.bool a1_1) ∧ w'.cell? ⟨gb919, 2, none⟩ = some (.bool a1_2) ∧ w'.cell? ⟨gb919, 3, none⟩ = some (.slice A1_3 l1_3.length c1_3) ∧ w'.cell? ⟨gb919, 4, none⟩ = some (.int .u64 a1_4) ∧ w'.cell? ⟨gb919, 5, none⟩ = some (.string a1_5) ∧ w'.cell? ⟨gb919, 6, none⟩ = some (.slice A1_6 l1_6.length c1_6)) (ds := []) (bm 32 0) (by kernel_rfl) rfl rfl ⟨(blk_cell BK918.out 0).trans rfl, (blk_cell BK918.out 1).trans rfl, (blk_cell BK918.out 2).trans rfl, (blk_cell BK918.out 3).trans rfl, (blk_cell BK918.out 4).trans rfl, (blk_cell BK918.out 5).trans rfl, (blk_cell BK918.out 6).trans rfl, (blk_cell BK919.out 0).trans rfl, (blk_cell BK919.out 1).trans rfl, (blk_cell BK919.out 2).trans rfl, (blk_cell BK919.out 3).trans rfl, (blk_cell BK919.out 4).trans rfl, (blk_cell BK919.out 5).trans rfl, (blk_cell BK919.out 6).trans rfl⟩ (fun hHeld => ?_); refine with_tabW w5_PlainAgree.tab5 w5_PlainAgree.bits5 (fun HT_ HW_ => ?_)
 generalize w26.drew = w27 at BK918 BK919 HB hHeld ⊢
 refine pu 0 (some 28) (bm 32 1) HT_.out ?_
 refine pu 1 (some 29) (bm 32 3) HT_.out ?_
 refine pu 2 (some 30) (bm 32 7) HT_.out ?_
 refine pu 3 (some 31) (bm 32 15) HT_.out ?_
 refine pu 4 (some 32) (bm 32 31) HT_.out ?_
 refine pu 5 (some 33) (bm 32 63) HT_.out ?_
 refine pu 6 (some 34) (bm 32 127) HT_.out ?_
 refine pu 7 (some 35) (bm 32 255) HT_.out ?_
 refine pu 8 (some 36) (bm 32 511) HT_.out ?_
 refine pu 9 (some 37) (bm 32 1023) HT_.out ?_
 refine pu 10 (some 38) (bm 32 2047) HT_.out ?_
 refine pu 11 (some 39) (bm 32 4095) HT_.out ?_
 refine pu 12 (some 40) (bm 32 8191) HT_.out ?_
 refine pu 13 (some 41) (bm 32 16383) HT_.out ?_
 refine pu 14 (some 42) (bm 32 32767) HT_.out ?_
 refine tk 15 (some 43) (bm 32 65535) HT_.out HW_.out hHeld ?_
 refine tk 16 (some 44) (bm 32 131071) HT_.out HW_.out hHeld ?_
 refine tk 18 (some 46) (bm 32 393215) HT_.out HW_.out hHeld ?_
 refine tk 19 (some 47) (bm 32 917503) HT_.out HW_.out hHeld ?_
 refine on 17 (some 45) (bm 32 1048575) HT_.out (fun K hK => ?_)
 refine gs Tryz.func8 #[.agg #[.int .i64 a0_0, .bool a0_1, .bool a0_2, .slice A0_3 l0_3.length c0_3, .int .u64 a0_4, .string a0_5, .slice A0_6 l0_6.length c0_6], .agg #[.int .i64 a1_0, .bool a1_1, .bool a1_2, .slice A1_3 l1_3.length c1_3, .int .u64 a1_4, .string a1_5, .slice A1_6 l1_6.length c1_6]] ?_
 with_reducible refine (p_Equal.calls k a0_0 a0_1 a0_2 _ _ l0_3 a0_4 a0_5 _ _ l0_6 a1_0 a1_1 a1_2 _ _ l1_3 a1_4 a1_5 _ _ l1_6 t927 _ (ck HR0_3 HB) HC0_3.out (ck HR0_6 HB) HC0_6.out (ck HR1_3 HB) HC1_3.out (ck HR1_6 HB) HC1_6.out A10.out).mono ?_
 rintro e w28 ⟨rfl, hb⟩
 refine ⟨_, rfl, ?_⟩
 replace BK918 := kb BK918 hb
 replace BK919 := kb BK919 hb
 replace HB := bs HB hb
 (try clear hb)
 refine hK.out _ _ hd (fun hHeld => ?_)
 clear hK K
 refine nm ?_
 refine on 20 (some 48) (bm 32 2097151) HT_.out (fun K hK => ?_)
 refine gs Tryz.func8 #[.agg #[.int .i64 a1_0, .bool a1_1, .bool a1_2, .slice A1_3 l1_3.length c1_3, .int .u64 a1_4, .string a1_5, .slice A1_6 l1_6.length c1_6], .agg #[.int .i64 a0_0, .bool a0_1, .bool a0_2, .slice A0_3 l0_3.length c0_3, .int .u64 a0_4, .string a0_5, .slice A0_6 l0_6.length c0_6]] ?_
 with_reducible refine (p_Equal.calls k a1_0 a1_1 a1_2 _ _ l1_3 a1_4 a1_5 _ _ l1_6 a0_0 a0_1 a0_2 _ _ l0_3 a0_4 a0_5 _ _ l0_6 t928 _ (ck HR1_3 HB) HC1_3.out (ck HR1_6 HB) HC1_6.out (ck HR0_3 HB) HC0_3.out (ck HR0_6 HB) HC0_6.out A11.out).mono ?_
 rintro e w29 ⟨rfl, hb⟩
 refine ⟨_, rfl, ?_⟩
 replace BK918 := kb BK918 hb
 replace BK919 := kb BK919 hb
 replace HB := bs HB hb
 (try clear hb)
 (try clear hb2)
 (try clear hk)
 (try clear hi)
 refine hK.out _ _ hd (fun hHeld => ?_)
 clear hK K
 refine nm ?_
 refine pu 21 (some 49) (bm 32 4194303) HT_.out ?_
 refine pu 22 (some 50) (bm 32 8388607) HT_.out ?_
 refine pu 23 (some 51) (bm 32 16777215) HT_.out ?_
 refine tk 24 (some 52) (bm 32 33554431) HT_.out HW_.out hHeld ?_
 refine tk 25 (some 53) (bm 32 67108863) HT_.out HW_.out hHeld ?_
 refine tk 27 (some 55) (bm 32 201326591) HT_.out HW_.out hHeld ?_
 refine tk 28 (some 56) (bm 32 469762047) HT_.out HW_.out hHeld ?_
 refine on 26 (some 54) (bm 32 536870911) HT_.out (fun K hK => ?_)
 refine gs Tryz.func9 #[.agg #[.int .i64 a0_0, .bool a0_1, .bool a0_2, .slice A0_3 l0_3.length c0_3, .int .u64 a0_4, .string a0_5, .slice A0_6 l0_6.length c0_6], .agg #[.int .i64 a1_0, .bool a1_1, .bool a1_2, .slice A1_3 l1_3.length c1_3, .int .u64 a1_4, .string a1_5, .slice A1_6 l1_6.length c1_6]] ?_
 with_reducible refine (p_Same.calls k a0_0 a0_1 a0_2 _ _ l0_3 a0_4 a0_5 _ _ l0_6 a1_0 a1_1 a1_2 _ _ l1_3 a1_4 a1_5 _ _ l1_6 t929 _ (ck HR0_3 HB) HC0_3.out (ck HR0_6 HB) HC0_6.out (ck HR1_3 HB) HC1_3.out (ck HR1_6 HB) HC1_6.out A13.out).mono ?_
 rintro e w30 ⟨rfl, hb⟩
 refine ⟨_, rfl, ?_⟩
 replace BK918 := kb BK918 hb
 replace BK919 := kb BK919 hb
 replace HB := bs HB hb
 (try clear hb)
 (try clear hb2)
 (try clear hk)
 (try clear hi)
 refine hK.out _ _ hd (fun hHeld => ?_)
 clear hK K
 refine nm ?_
 refine on 29 (some 57) (bm 32 1073741823) HT_.out (fun K hK => ?_)
 refine gs Tryz.func9 #[.agg #[.int .i64 a1_0, .bool a1_1, .bool a1_2, .slice A1_3 l1_3.length c1_3, .int .u64 a1_4, .string a1_5, .slice A1_6 l1_6.length c1_6], .agg #[.int .i64 a0_0, .bool a0_1, .bool a0_2, .slice A0_3 l0_3.length c0_3, .int .u64 a0_4, .string a0_5, .slice A0_6 l0_6.length c0_6]] ?_
 with_reducible refine (p_Same.calls k a1_0 a1_1 a1_2 _ _ l1_3 a1_4 a1_5 _ _ l1_6 a0_0 a0_1 a0_2 _ _ l0_3 a0_4 a0_5 _ _ l0_6 t930 _ (ck HR1_3 HB) HC1_3.out (ck HR1_6 HB) HC1_6.out (ck HR0_3 HB) HC0_3.out (ck HR0_6 HB) HC0_6.out A14.out).mono ?_
 rintro e w31 ⟨rfl, hb⟩
 refine ⟨_, rfl, ?_⟩
 replace BK918 := kb BK918 hb
 replace BK919 := kb BK919 hb
 replace HB := bs HB hb
 (try clear hb)
 (try clear hb2)
 (try clear hk)
 (try clear hi)
 refine hK.out _ _ hd (fun hHeld => ?_)
 clear hK K
 refine nm ?_
 refine pu 30 (some 58) (bm 32 2147483647) HT_.out ?_
 refine pu 31 (some 59) (bm 32 4294967295) HT_.out ?_
 refine done_ (done_of HT_.out (by kernel_rfl)) ?_
 go_upto_region 7 with (fail)
 go_cut [80] (fun v80 wc => ∃ (kq : Nat) (x80_15 : Bool), v80 = .bool x80_15 ∧ Aside0 (w5_PlainAgree.j0 kq x80_15 a0_0 a0_1 a0_2 l0_3 a0_4 a0_5 l0_6 a1_0 a1_1 a1_2 l1_3 a1_4 a1_5 l1_6 = some r) ∧ Aside0 (kq ≤ k) ∧ Aside0 (wc.heap[gb918]? = some (.cells #[.int .i64 a0_0, .bool a0_1, .bool a0_2, (.slice A0_3 l0_3.length c0_3), .int .u64 a0_4, .string a0_5, (.slice A0_6 l0_6.length c0_6)] 28 (0, 0))) ∧ Aside0 (wc.heap[gb919]? = some (.cells #[.int .i64 a1_0, .bool a1_1, .bool a1_2, (.slice A1_3 l1_3.length c1_3), .int .u64 a1_4, .string a1_5, (.slice A1_6 l1_6.length c1_6)] 28 (0, 0))) ∧ Aside0 (Below w.heap.size w wc))
 case first =>
  have H := HC16.out
  clear HC16
  obtain ⟨t931, A32, H⟩ := bd H
  by_cases c33 : t931 = true
  case neg =>
   replace c33 := Bool.eq_false_iff.mpr c33
   subst c33
   rw [if_neg Bool.false_ne_true] at H
   have H' := Az H
   clear H
   try go_wp2
   replace BK918 := Az (blk_drew BK918.out)
   replace BK919 := Az (blk_drew BK919.out)
   replace HB := Az (below_drew1 HB.out)
   refine start_ (n := 21) (S := fun w' => w'.cell? ⟨gb918, 0, none⟩ = some (.int .i64 a0_0) ∧ w'.cell? ⟨gb918, 1, none⟩ = some (.bool a0_1) ∧ w'.cell? ⟨gb918, 2, none⟩ = some (.bool a0_2) ∧ w'.cell? ⟨gb918, 3, none⟩ = some (.slice A0_3 l0_3.length c0_3) ∧ w'.cell? ⟨gb918, 4, none⟩ = some (.int .u64 a0_4) ∧ w'.cell? ⟨gb918, 5, none⟩ = some (.string a0_5) ∧ w'.cell? ⟨gb918, 6, none⟩ = some (.slice A0_6 l0_6.length c0_6) ∧ w'.cell? ⟨gb919, 0, none⟩ = some (.int .i64 a1_0) ∧ w'.cell? ⟨gb919, 1, none⟩ = some (.bool a1_1) ∧ w'.cell? ⟨gb919, 2, none⟩ = some (.bool a1_2) ∧ w'.cell? ⟨gb919, 3, none⟩ = some (.slice A1_3 l1_3.length c1_3) ∧ w'.cell? ⟨gb919, 4, none⟩ = some (.int .u64 a1_4) ∧ w'.cell? ⟨gb919, 5, none⟩ = some (.string a1_5) ∧ w'.cell? ⟨gb919, 6, none⟩ = some (.slice A1_6 l1_6.length c1_6)) (ds := []) (bm 21 0) (by kernel_rfl) rfl rfl ⟨(blk_cell BK918.out 0).trans rfl, (blk_cell BK918.out 1).trans rfl, (blk_cell BK918.out 2).trans rfl, (blk_cell BK918.out 3).trans rfl, (blk_cell BK918.out 4).trans rfl, (blk_cell BK918.out 5).trans rfl, (blk_cell BK918.out 6).trans rfl, (blk_cell BK919.out 0).trans rfl, (blk_cell BK919.out 1).trans rfl, (blk_cell BK919.out 2).trans rfl, (blk_cell BK919.out 3).trans rfl, (blk_cell BK919.out 4).trans rfl, (blk_cell BK919.out 5).trans rfl, (blk_cell BK919.out 6).trans rfl⟩ (fun hHeld => ?_); refine with_tabW w5_PlainAgree.tab7 w5_PlainAgree.bits7 (fun HT_ HW_ => ?_)
   generalize w31.drew = w46 at BK918 BK919 HB hHeld ⊢
   refine tk 0 (some 60) (bm 21 1) HT_.out HW_.out hHeld ?_
   refine tk 1 (some 61) (bm 21 3) HT_.out HW_.out hHeld ?_
   refine on 2 (some 62) (bm 21 7) HT_.out (fun K hK => ?_)
   refine gs Tryz.func8 #[.agg #[.int .i64 a0_0, .bool a0_1, .bool a0_2, .slice A0_3 l0_3.length c0_3, .int .u64 a0_4, .string a0_5, .slice A0_6 l0_6.length c0_6], .agg #[.int .i64 a1_0, .bool a1_1, .bool a1_2, .slice A1_3 l1_3.length c1_3, .int .u64 a1_4, .string a1_5, .slice A1_6 l1_6.length c1_6]] ?_
   with_reducible refine (p_Equal.calls k a0_0 a0_1 a0_2 _ _ l0_3 a0_4 a0_5 _ _ l0_6 a1_0 a1_1 a1_2 _ _ l1_3 a1_4 a1_5 _ _ l1_6 false _ (ck HR0_3 HB) HC0_3.out (ck HR0_6 HB) HC0_6.out (ck HR1_3 HB) HC1_3.out (ck HR1_6 HB) HC1_6.out A32.out).mono ?_
   rintro e w47 ⟨rfl, hb⟩
   refine ⟨_, rfl, ?_⟩
   replace BK918 := kb BK918 hb
   replace BK919 := kb BK919 hb
   replace HB := bs HB hb
   refine hK.out _ _ hd (fun hHeld => ?_)
   clear hK K
   refine nm ?_
   refine pu 3 (some 63) (bm 21 15) HT_.out ?_
   refine pn 4 (some 64) (bm 21 31) HT_.out ?_
   refine pn 5 (some 65) (bm 21 63) HT_.out ?_
   refine pn 6 (some 66) (bm 21 127) HT_.out ?_
   refine pn 7 (some 67) (bm 21 255) HT_.out ?_
   refine pn 8 (some 68) (bm 21 511) HT_.out ?_
   refine pn 9 (some 69) (bm 21 1023) HT_.out ?_
   refine pn 10 (some 70) (bm 21 2047) HT_.out ?_
   refine pn 11 (some 71) (bm 21 4095) HT_.out ?_
   refine pn 12 (some 72) (bm 21 8191) HT_.out ?_
   refine pn 13 (some 73) (bm 21 16383) HT_.out ?_
   refine pn 14 (some 74) (bm 21 32767) HT_.out ?_
   refine pn 15 (some 75) (bm 21 65535) HT_.out ?_
   refine pn 16 (some 76) (bm 21 131071) HT_.out ?_
   refine pn 17 (some 77) (bm 21 262143) HT_.out ?_
   refine pn 18 (some 78) (bm 21 524287) HT_.out ?_
   refine pn 19 (some 79) (bm 21 1048575) HT_.out ?_
   refine pu 20 (some 80) (bm 21 2097151) HT_.out ?_
   refine done_ (done_of HT_.out (by kernel_rfl)) ?_
   try go_wp2
   go_meet
   case rel => exact ⟨_, (false), rs, H', ⟨le0⟩, ⟨bk BK918⟩, ⟨bk BK919⟩, ⟨bls HB⟩⟩
  subst c33
  rw [if_pos rfl] at H
  obtain ⟨t932, A34, H⟩ := bd H
  obtain ⟨t933, A35, H⟩ := bd H
  by_cases c36 : t932 = t933
  case neg =>
   rw [if_neg c36] at H
   exact absurd H (by simp)
  rw [if_pos c36] at H
  have c36b0 := beq_iff_eq.mpr c36
  have c36b1 := bne_eq_false_iff_eq.mpr c36
  clear c36
  (first | rw [c36b0] | (simp only [i64_w, i32_w]; rw [c36b0]) | skip)
  obtain ⟨t934, A37, H⟩ := bd H
  obtain ⟨t935, A38, H⟩ := bd H
  by_cases c39 : (t934 != t935) = true
  ·rw [if_pos c39] at H
   exact absurd H (by simp)
  rw [if_neg c39] at H
  have c39b0 : (t934 != t935) = false := by simpa using c39
  (try (have c39b1 : decide (t934 = t935) = true := by simpa using c39))
  (try (have c39b2 : (t934 == t935) = true := by simpa using c39))
  clear c39
  have H' := Az H
  clear H
  try go_wp2
  replace BK918 := Az (blk_drew BK918.out)
  replace BK919 := Az (blk_drew BK919.out)
  replace HB := Az (below_drew1 HB.out)
  refine start_ (n := 21) (S := fun w' => w'.cell? ⟨gb918, 0, none⟩ = some (.int .i64 a0_0) ∧ w'.cell? ⟨gb918, 1, none⟩ = some (.bool a0_1) ∧ w'.cell? ⟨gb918, 2, none⟩ = some (.bool a0_2) ∧ w'.cell? ⟨gb918, 3, none⟩ = some (.slice A0_3 l0_3.length c0_3) ∧ w'.cell? ⟨gb918, 4, none⟩ = some (.int .u64 a0_4) ∧ w'.cell? ⟨gb918, 5, none⟩ = some (.string a0_5) ∧ w'.cell? ⟨gb918, 6, none⟩ = some (.slice A0_6 l0_6.length c0_6) ∧ w'.cell? ⟨gb919, 0, none⟩ = some (.int .i64 a1_0) ∧ w'.cell? ⟨gb919, 1, none⟩ = some (.bool a1_1) ∧ w'.cell? ⟨gb919, 2, none⟩ = some (.bool a1_2) ∧ w'.cell? ⟨gb919, 3, none⟩ = some (.slice A1_3 l1_3.length c1_3) ∧ w'.cell? ⟨gb919, 4, none⟩ = some (.int .u64 a1_4) ∧ w'.cell? ⟨gb919, 5, none⟩ = some (.string a1_5) ∧ w'.cell? ⟨gb919, 6, none⟩ = some (.slice A1_6 l1_6.length c1_6)) (ds := []) (bm 21 0) (by kernel_rfl) rfl rfl ⟨(blk_cell BK918.out 0).trans rfl, (blk_cell BK918.out 1).trans rfl, (blk_cell BK918.out 2).trans rfl, (blk_cell BK918.out 3).trans rfl, (blk_cell BK918.out 4).trans rfl, (blk_cell BK918.out 5).trans rfl, (blk_cell BK918.out 6).trans rfl, (blk_cell BK919.out 0).trans rfl, (blk_cell BK919.out 1).trans rfl, (blk_cell BK919.out 2).trans rfl, (blk_cell BK919.out 3).trans rfl, (blk_cell BK919.out 4).trans rfl, (blk_cell BK919.out 5).trans rfl, (blk_cell BK919.out 6).trans rfl⟩ (fun hHeld => ?_); refine with_tabW w5_PlainAgree.tab7 w5_PlainAgree.bits7 (fun HT_ HW_ => ?_)
  generalize w31.drew = w40 at BK918 BK919 HB hHeld ⊢
  refine tk 0 (some 60) (bm 21 1) HT_.out HW_.out hHeld ?_
  refine tk 1 (some 61) (bm 21 3) HT_.out HW_.out hHeld ?_
  refine on 2 (some 62) (bm 21 7) HT_.out (fun K hK => ?_)
  refine gs Tryz.func8 #[.agg #[.int .i64 a0_0, .bool a0_1, .bool a0_2, .slice A0_3 l0_3.length c0_3, .int .u64 a0_4, .string a0_5, .slice A0_6 l0_6.length c0_6], .agg #[.int .i64 a1_0, .bool a1_1, .bool a1_2, .slice A1_3 l1_3.length c1_3, .int .u64 a1_4, .string a1_5, .slice A1_6 l1_6.length c1_6]] ?_
  with_reducible refine (p_Equal.calls k a0_0 a0_1 a0_2 _ _ l0_3 a0_4 a0_5 _ _ l0_6 a1_0 a1_1 a1_2 _ _ l1_3 a1_4 a1_5 _ _ l1_6 true _ (ck HR0_3 HB) HC0_3.out (ck HR0_6 HB) HC0_6.out (ck HR1_3 HB) HC1_3.out (ck HR1_6 HB) HC1_6.out A32.out).mono ?_
  rintro e w41 ⟨rfl, hb⟩
  refine ⟨_, rfl, ?_⟩
  replace BK918 := kb BK918 hb
  replace BK919 := kb BK919 hb
  replace HB := bs HB hb
  (try clear hb)
  refine hK.out _ _ hd (fun hHeld => ?_)
  clear hK K
  refine nm ?_
  refine pu 3 (some 63) (bm 21 15) HT_.out ?_
  refine tk 4 (some 64) (bm 21 31) HT_.out HW_.out hHeld ?_
  refine tk 6 (some 66) (bm 21 95) HT_.out HW_.out hHeld ?_
  refine on 5 (some 65) (bm 21 127) HT_.out (fun K hK => ?_)
  refine gs Tryz.func13 #[.agg #[.int .i64 a0_0, .bool a0_1, .bool a0_2, .slice A0_3 l0_3.length c0_3, .int .u64 a0_4, .string a0_5, .slice A0_6 l0_6.length c0_6]] ?_
  with_reducible refine (p_Hash.calls k a0_0 a0_1 a0_2 _ _ l0_3 a0_4 a0_5 _ _ l0_6 t932 _ (ck HR0_3 HB) HC0_3.out (ck HR0_6 HB) HC0_6.out A34.out).mono ?_
  rintro e w42 ⟨rfl, hb⟩
  refine ⟨_, rfl, ?_⟩
  replace BK918 := kb BK918 hb
  replace BK919 := kb BK919 hb
  replace HB := bs HB hb
  (try clear hb)
  (try clear hb2)
  (try clear hk)
  (try clear hi)
  refine hK.out _ _ hd (fun hHeld => ?_)
  clear hK K
  refine nm ?_
  refine on 7 (some 67) (bm 21 255) HT_.out (fun K hK => ?_)
  refine gs Tryz.func13 #[.agg #[.int .i64 a1_0, .bool a1_1, .bool a1_2, .slice A1_3 l1_3.length c1_3, .int .u64 a1_4, .string a1_5, .slice A1_6 l1_6.length c1_6]] ?_
  with_reducible refine (p_Hash.calls k a1_0 a1_1 a1_2 _ _ l1_3 a1_4 a1_5 _ _ l1_6 t933 _ (ck HR1_3 HB) HC1_3.out (ck HR1_6 HB) HC1_6.out A35.out).mono ?_
  rintro e w43 ⟨rfl, hb⟩
  refine ⟨_, rfl, ?_⟩
  replace BK918 := kb BK918 hb
  replace BK919 := kb BK919 hb
  replace HB := bs HB hb
  (try clear hb)
  (try clear hb2)
  (try clear hk)
  (try clear hi)
  refine hK.out _ _ hd (fun hHeld => ?_)
  clear hK K
  refine nm ?_
  refine pu 8 (some 68) (bm 21 511) HT_.out ?_
  refine pu 9 (some 69) (bm 21 1023) HT_.out ?_
  refine tk 10 (some 70) (bm 21 2047) HT_.out HW_.out hHeld ?_
  refine tk 12 (some 72) (bm 21 6143) HT_.out HW_.out hHeld ?_
  refine on 11 (some 71) (bm 21 8191) HT_.out (fun K hK => ?_)
  refine gs Tryz.func14 #[.agg #[.int .i64 a0_0, .bool a0_1, .bool a0_2, .slice A0_3 l0_3.length c0_3, .int .u64 a0_4, .string a0_5, .slice A0_6 l0_6.length c0_6]] ?_
  with_reducible refine (p_Truth.calls k a0_0 a0_1 a0_2 _ _ l0_3 a0_4 a0_5 _ _ l0_6 t934 _ (ck HR0_3 HB) HC0_3.out (ck HR0_6 HB) HC0_6.out A37.out).mono ?_
  rintro e w44 ⟨rfl, hb⟩
  refine ⟨_, rfl, ?_⟩
  replace BK918 := kb BK918 hb
  replace BK919 := kb BK919 hb
  replace HB := bs HB hb
  (try clear hb)
  (try clear hb2)
  (try clear hk)
  (try clear hi)
  refine hK.out _ _ hd (fun hHeld => ?_)
  clear hK K
  refine nm ?_
  refine on 13 (some 73) (bm 21 16383) HT_.out (fun K hK => ?_)
  refine gs Tryz.func14 #[.agg #[.int .i64 a1_0, .bool a1_1, .bool a1_2, .slice A1_3 l1_3.length c1_3, .int .u64 a1_4, .string a1_5, .slice A1_6 l1_6.length c1_6]] ?_
  with_reducible refine (p_Truth.calls k a1_0 a1_1 a1_2 _ _ l1_3 a1_4 a1_5 _ _ l1_6 t935 _ (ck HR1_3 HB) HC1_3.out (ck HR1_6 HB) HC1_6.out A38.out).mono ?_
  rintro e w45 ⟨rfl, hb⟩
  refine ⟨_, rfl, ?_⟩
  replace BK918 := kb BK918 hb
  replace BK919 := kb BK919 hb
  replace HB := bs HB hb
  (try clear hb)
  (try clear hb2)
  (try clear hk)
  (try clear hi)
  refine hK.out _ _ hd (fun hHeld => ?_)
  clear hK K
  refine nm ?_
  refine pu 14 (some 74) (bm 21 32767) HT_.out ?_
  refine pu 15 (some 75) (bm 21 65535) HT_.out ?_
  refine pu 16 (some 76) (bm 21 131071) HT_.out ?_
  refine pu 17 (some 77) (bm 21 262143) HT_.out ?_
  refine pu 18 (some 78) (bm 21 524287) HT_.out ?_
  refine pu 19 (some 79) (bm 21 1048575) HT_.out ?_
  refine pu 20 (some 80) (bm 21 2097151) HT_.out ?_
  refine done_ (done_of HT_.out (by kernel_rfl)) ?_
  try go_wp2
  go_meet
  case rel => exact ⟨_, ((t921 != 0)), rs, H', ⟨le0⟩, ⟨bk BK918⟩, ⟨bk BK919⟩, ⟨bls HB⟩⟩
 case rest =>
  clear HC16
  obtain ⟨kq, x80_15, rfl, HA, HJ15, BK918, BK919, HB⟩ := hcut
  cases kq with
  | zero => exact absurd HA.out (by simp [w5_PlainAgree.j0])
  | succ kj15 =>
   have H := HA.out
   clear HA
   simp only [w5_PlainAgree.j0] at H
   by_cases c48 : x80_15 = true
   ·subst c48
    rw [if_pos rfl] at H
    exact absurd H (by simp)
   replace c48 := Bool.eq_false_iff.mpr c48
   subst c48
   rw [if_neg Bool.false_ne_true] at H
   by_cases c49 : a0_0 = 3
   case neg =>
    rw [if_neg c49] at H
    have c49b0 := beq_eq_false_iff_ne.mpr c49
    have c49b1 := bne_iff_ne.mpr c49
    obtain ⟨t942, A100, H⟩ := bd H
    by_cases c101 : t942 = true
    case neg =>
     replace c101 := Bool.eq_false_iff.mpr c101
     subst c101
     rw [if_neg Bool.false_ne_true] at H
     obtain rfl := Option.some.inj H
     have hnb111 := NB918_919.out
     have hnc111 := NB919_918.out
     have hz112_1 := bz BK918
     have hz113_2 := bz BK919
     go_wp2_with (first | (refine gl (some 95) Tryz.func9 #[.agg #[.int .i64 a0_0, .bool a0_1, .bool a0_2, .slice A0_3 l0_3.length c0_3, .int .u64 a0_4, .string a0_5, .slice A0_6 l0_6.length c0_6], .agg #[.int .i64 a1_0, .bool a1_1, .bool a1_2, .slice A1_3 l1_3.length c1_3, .int .u64 a1_4, .string a1_5, .slice A1_6 l1_6.length c1_6]] ?_; (with_reducible refine (p_Same.calls kj15 a0_0 a0_1 a0_2 _ _ l0_3 a0_4 a0_5 _ _ l0_6 a1_0 a1_1 a1_2 _ _ l1_3 a1_4 a1_5 _ _ l1_6 false _ (ck HR0_3 HB) HC0_3.out (ck HR0_6 HB) HC0_6.out (ck HR1_3 HB) HC1_3.out (ck HR1_6 HB) HC1_6.out A100.out).mono ?_); rintro e w114 ⟨rfl, hb⟩; refine ⟨_, rfl, ?_⟩; replace BK918 := kb BK918 hb; replace BK919 := kb BK919 hb; replace HB := bs HB hb))
     go_ret
     exact ⟨fe, bls HB⟩
    subst c101
    rw [if_pos rfl] at H
    obtain ⟨t943, A102, H⟩ := bd H
    by_cases c103 : t943 = true
    case neg =>
     replace c103 := Bool.eq_false_iff.mpr c103
     subst c103
     rw [if_neg Bool.false_ne_true] at H
     exact absurd H (by simp)
    subst c103
    rw [if_pos rfl] at H
    obtain rfl := Option.some.inj H
    have hnb104 := NB918_919.out
    have hnc104 := NB919_918.out
    have hz105_1 := bz BK918
    have hz106_2 := bz BK919
    go_wp2_with (first | (refine gl (some 95) Tryz.func9 #[.agg #[.int .i64 a0_0, .bool a0_1, .bool a0_2, .slice A0_3 l0_3.length c0_3, .int .u64 a0_4, .string a0_5, .slice A0_6 l0_6.length c0_6], .agg #[.int .i64 a1_0, .bool a1_1, .bool a1_2, .slice A1_3 l1_3.length c1_3, .int .u64 a1_4, .string a1_5, .slice A1_6 l1_6.length c1_6]] ?_; (with_reducible refine (p_Same.calls kj15 a0_0 a0_1 a0_2 _ _ l0_3 a0_4 a0_5 _ _ l0_6 a1_0 a1_1 a1_2 _ _ l1_3 a1_4 a1_5 _ _ l1_6 true _ (ck HR0_3 HB) HC0_3.out (ck HR0_6 HB) HC0_6.out (ck HR1_3 HB) HC1_3.out (ck HR1_6 HB) HC1_6.out A100.out).mono ?_); rintro e w107 ⟨rfl, hb⟩; refine ⟨_, rfl, ?_⟩; replace BK918 := kb BK918 hb; replace BK919 := kb BK919 hb; replace HB := bs HB hb; have hz108_1 := bz BK918; have hz109_2 := bz BK919) | (go_at_call 8; (with_reducible refine (p_Equal.calls kj15 a0_0 a0_1 a0_2 _ _ l0_3 a0_4 a0_5 _ _ l0_6 a1_0 a1_1 a1_2 _ _ l1_3 a1_4 a1_5 _ _ l1_6 true _ (ck HR0_3 HB) HC0_3.out (ck HR0_6 HB) HC0_6.out (ck HR1_3 HB) HC1_3.out (ck HR1_6 HB) HC1_6.out A102.out).mono ?_); rintro e w110 ⟨rfl, hb⟩; replace BK918 := kb BK918 hb; replace BK919 := kb BK919 hb; replace HB := bs HB hb))
    go_ret
    exact ⟨fe, bls HB⟩
   rw [if_pos c49] at H
   have c49b0 := beq_iff_eq.mpr c49
   have c49b1 := bne_eq_false_iff_eq.mpr c49
   clear c49
   obtain ⟨t936, A50, H⟩ := bd H
   by_cases c51 : t936 = true
   case neg =>
    replace c51 := Bool.eq_false_iff.mpr c51
    subst c51
    rw [if_neg Bool.false_ne_true] at H
    obtain ⟨t940, A81, H⟩ := bd H
    by_cases c82 : t940 = true
    case neg =>
     replace c82 := Bool.eq_false_iff.mpr c82
     subst c82
     rw [if_neg Bool.false_ne_true] at H
     obtain rfl := Option.some.inj H
     have hnb94 := NB918_919.out
     have hnc94 := NB919_918.out
     have hz95_1 := bz BK918
     go_wp2_with (first | (go_at_call 15; (with_reducible refine (r5_Good.calls kj15 a0_0 a0_1 a0_2 _ _ l0_3 a0_4 a0_5 _ _ l0_6 false _ (ck HR0_3 HB) HC0_3.out (ck HR0_6 HB) HC0_6.out A50.out).mono ?_); rintro e w96 ⟨rfl, hb⟩; replace BK918 := kb BK918 hb; replace BK919 := kb BK919 hb; replace HB := bs HB hb; have hz97_1 := bz BK918; have hz98_2 := bz BK919) | (refine gl (some 95) Tryz.func9 #[.agg #[.int .i64 a0_0, .bool a0_1, .bool a0_2, .slice A0_3 l0_3.length c0_3, .int .u64 a0_4, .string a0_5, .slice A0_6 l0_6.length c0_6], .agg #[.int .i64 a1_0, .bool a1_1, .bool a1_2, .slice A1_3 l1_3.length c1_3, .int .u64 a1_4, .string a1_5, .slice A1_6 l1_6.length c1_6]] ?_; (with_reducible refine (p_Same.calls kj15 a0_0 a0_1 a0_2 _ _ l0_3 a0_4 a0_5 _ _ l0_6 a1_0 a1_1 a1_2 _ _ l1_3 a1_4 a1_5 _ _ l1_6 false _ (ck HR0_3 HB) HC0_3.out (ck HR0_6 HB) HC0_6.out (ck HR1_3 HB) HC1_3.out (ck HR1_6 HB) HC1_6.out A81.out).mono ?_); rintro e w99 ⟨rfl, hb⟩; refine ⟨_, rfl, ?_⟩; replace BK918 := kb BK918 hb; replace BK919 := kb BK919 hb; replace HB := bs HB hb))
     go_ret
     exact ⟨fe, bls HB⟩
    subst c82
    rw [if_pos rfl] at H
    obtain ⟨t941, A83, H⟩ := bd H
    by_cases c84 : t941 = true
    case neg =>
     replace c84 := Bool.eq_false_iff.mpr c84
     subst c84
     rw [if_neg Bool.false_ne_true] at H
     exact absurd H (by simp)
    subst c84
    rw [if_pos rfl] at H
    obtain rfl := Option.some.inj H
    have hnb85 := NB918_919.out
    have hnc85 := NB919_918.out
    have hz86_1 := bz BK918
    go_wp2_with (first | (go_at_call 15; (with_reducible refine (r5_Good.calls kj15 a0_0 a0_1 a0_2 _ _ l0_3 a0_4 a0_5 _ _ l0_6 false _ (ck HR0_3 HB) HC0_3.out (ck HR0_6 HB) HC0_6.out A50.out).mono ?_); rintro e w87 ⟨rfl, hb⟩; replace BK918 := kb BK918 hb; replace BK919 := kb BK919 hb; replace HB := bs HB hb; have hz88_1 := bz BK918; have hz89_2 := bz BK919) | (refine gl (some 95) Tryz.func9 #[.agg #[.int .i64 a0_0, .bool a0_1, .bool a0_2, .slice A0_3 l0_3.length c0_3, .int .u64 a0_4, .string a0_5, .slice A0_6 l0_6.length c0_6], .agg #[.int .i64 a1_0, .bool a1_1, .bool a1_2, .slice A1_3 l1_3.length c1_3, .int .u64 a1_4, .string a1_5, .slice A1_6 l1_6.length c1_6]] ?_; (with_reducible refine (p_Same.calls kj15 a0_0 a0_1 a0_2 _ _ l0_3 a0_4 a0_5 _ _ l0_6 a1_0 a1_1 a1_2 _ _ l1_3 a1_4 a1_5 _ _ l1_6 true _ (ck HR0_3 HB) HC0_3.out (ck HR0_6 HB) HC0_6.out (ck HR1_3 HB) HC1_3.out (ck HR1_6 HB) HC1_6.out A81.out).mono ?_); rintro e w90 ⟨rfl, hb⟩; refine ⟨_, rfl, ?_⟩; replace BK918 := kb BK918 hb; replace BK919 := kb BK919 hb; replace HB := bs HB hb; have hz91_1 := bz BK918; have hz92_2 := bz BK919) | (go_at_call 8; (with_reducible refine (p_Equal.calls kj15 a0_0 a0_1 a0_2 _ _ l0_3 a0_4 a0_5 _ _ l0_6 a1_0 a1_1 a1_2 _ _ l1_3 a1_4 a1_5 _ _ l1_6 true _ (ck HR0_3 HB) HC0_3.out (ck HR0_6 HB) HC0_6.out (ck HR1_3 HB) HC1_3.out (ck HR1_6 HB) HC1_6.out A83.out).mono ?_); rintro e w93 ⟨rfl, hb⟩; replace BK918 := kb BK918 hb; replace BK919 := kb BK919 hb; replace HB := bs HB hb))
    go_ret
    exact ⟨fe, bls HB⟩
   subst c51
   rw [if_pos rfl] at H
   obtain ⟨t937, A52, H⟩ := bd H
   obtain ⟨t938, A53, H⟩ := bd H
   by_cases c54 : t938 = true
   case neg =>
    replace c54 := Bool.eq_false_iff.mpr c54
    subst c54
    rw [if_neg Bool.false_ne_true] at H
    obtain rfl := Option.some.inj H
    have hnb75 := NB918_919.out
    have hnc75 := NB919_918.out
    have hz76_1 := bz BK918
    go_wp2_with (first | (go_at_call 15; (with_reducible refine (r5_Good.calls kj15 a0_0 a0_1 a0_2 _ _ l0_3 a0_4 a0_5 _ _ l0_6 true _ (ck HR0_3 HB) HC0_3.out (ck HR0_6 HB) HC0_6.out A50.out).mono ?_); rintro e w77 ⟨rfl, hb⟩; replace BK918 := kb BK918 hb; replace BK919 := kb BK919 hb; replace HB := bs HB hb; have hz78_1 := bz BK918) | (go_at_call 16; (with_reducible refine (r3_IsNaN.calls a0_4 t937 _ A52.out).mono ?_); rintro e w' ⟨rfl, ⟨nd, rfl⟩⟩; have hz79_1 := bz BK919) | (refine gl (some 95) Tryz.func9 #[.agg #[.int .i64 a0_0, .bool a0_1, .bool a0_2, .slice A0_3 l0_3.length c0_3, .int .u64 a0_4, .string a0_5, .slice A0_6 l0_6.length c0_6], .agg #[.int .i64 a1_0, .bool a1_1, .bool a1_2, .slice A1_3 l1_3.length c1_3, .int .u64 a1_4, .string a1_5, .slice A1_6 l1_6.length c1_6]] ?_; (with_reducible refine (p_Same.calls kj15 a0_0 a0_1 a0_2 _ _ l0_3 a0_4 a0_5 _ _ l0_6 a1_0 a1_1 a1_2 _ _ l1_3 a1_4 a1_5 _ _ l1_6 false _ ?side1 HC0_3.out ?side3 HC0_6.out ?side5 HC1_3.out ?side7 HC1_6.out A53.out).mono ?_); (case side1 => exact (Kd.C_below HR0_3.out (bls HB))); (case side3 => exact (Kd.C_below HR0_6.out (bls HB))); (case side5 => exact (Kd.C_below HR1_3.out (bls HB))); (case side7 => exact (Kd.C_below HR1_6.out (bls HB))); rintro e w80 ⟨rfl, hb⟩; refine ⟨_, rfl, ?_⟩; replace BK918 := kb BK918 hb; replace BK919 := kb BK919 hb; replace HB := bs HB hb))
    go_ret
    exact ⟨fe, bls HB⟩
   subst c54
   rw [if_pos rfl] at H
   obtain ⟨t939, A55, H⟩ := bd H
   by_cases c56 : t939 = true
   ·subst c56
    rw [if_pos rfl] at H
    obtain rfl := Option.some.inj H
    have hnb57 := NB918_919.out
    have hnc57 := NB919_918.out
    have hz58_1 := bz BK918
    go_wp2_with (first | (go_at_call 15; (with_reducible refine (r5_Good.calls kj15 a0_0 a0_1 a0_2 _ _ l0_3 a0_4 a0_5 _ _ l0_6 true _ (ck HR0_3 HB) HC0_3.out (ck HR0_6 HB) HC0_6.out A50.out).mono ?_); rintro e w59 ⟨rfl, hb⟩; replace BK918 := kb BK918 hb; replace BK919 := kb BK919 hb; replace HB := bs HB hb; have hz60_1 := bz BK918) | (go_at_call 16; (with_reducible refine (r3_IsNaN.calls a0_4 t937 _ A52.out).mono ?_); rintro e w' ⟨rfl, ⟨nd, rfl⟩⟩; have hz61_1 := bz BK919) | (refine gl (some 95) Tryz.func9 #[.agg #[.int .i64 a0_0, .bool a0_1, .bool a0_2, .slice A0_3 l0_3.length c0_3, .int .u64 a0_4, .string a0_5, .slice A0_6 l0_6.length c0_6], .agg #[.int .i64 a1_0, .bool a1_1, .bool a1_2, .slice A1_3 l1_3.length c1_3, .int .u64 a1_4, .string a1_5, .slice A1_6 l1_6.length c1_6]] ?_; (with_reducible refine (p_Same.calls kj15 a0_0 a0_1 a0_2 _ _ l0_3 a0_4 a0_5 _ _ l0_6 a1_0 a1_1 a1_2 _ _ l1_3 a1_4 a1_5 _ _ l1_6 true _ ?side1 HC0_3.out ?side3 HC0_6.out ?side5 HC1_3.out ?side7 HC1_6.out A53.out).mono ?_); (case side1 => exact (Kd.C_below HR0_3.out (bls HB))); (case side3 => exact (Kd.C_below HR0_6.out (bls HB))); (case side5 => exact (Kd.C_below HR1_3.out (bls HB))); (case side7 => exact (Kd.C_below HR1_6.out (bls HB))); rintro e w62 ⟨rfl, hb⟩; refine ⟨_, rfl, ?_⟩; replace BK918 := kb BK918 hb; replace BK919 := kb BK919 hb; replace HB := bs HB hb; have hz63_1 := bz BK918; have hz64_2 := bz BK919) | (go_at_call 8; (with_reducible refine (p_Equal.calls kj15 a0_0 a0_1 a0_2 _ _ l0_3 a0_4 a0_5 _ _ l0_6 a1_0 a1_1 a1_2 _ _ l1_3 a1_4 a1_5 _ _ l1_6 true _ (ck HR0_3 HB) HC0_3.out (ck HR0_6 HB) HC0_6.out (ck HR1_3 HB) HC1_3.out (ck HR1_6 HB) HC1_6.out A55.out).mono ?_); rintro e w65 ⟨rfl, hb⟩; replace BK918 := kb BK918 hb; replace BK919 := kb BK919 hb; replace HB := bs HB hb))
    go_ret
    exact ⟨fe, bls HB⟩
   replace c56 := Bool.eq_false_iff.mpr c56
   subst c56
   rw [if_neg Bool.false_ne_true] at H
   obtain rfl := Option.some.inj H
   have hnb66 := NB918_919.out
   have hnc66 := NB919_918.out
   have hz67_1 := bz BK918
   go_wp2_with (first | (go_at_call 15; (with_reducible refine (r5_Good.calls kj15 a0_0 a0_1 a0_2 _ _ l0_3 a0_4 a0_5 _ _ l0_6 true _ (ck HR0_3 HB) HC0_3.out (ck HR0_6 HB) HC0_6.out A50.out).mono ?_); rintro e w68 ⟨rfl, hb⟩; replace BK918 := kb BK918 hb; replace BK919 := kb BK919 hb; replace HB := bs HB hb; have hz69_1 := bz BK918) | (go_at_call 16; (with_reducible refine (r3_IsNaN.calls a0_4 t937 _ A52.out).mono ?_); rintro e w' ⟨rfl, ⟨nd, rfl⟩⟩; have hz70_1 := bz BK919) | (refine gl (some 95) Tryz.func9 #[.agg #[.int .i64 a0_0, .bool a0_1, .bool a0_2, .slice A0_3 l0_3.length c0_3, .int .u64 a0_4, .string a0_5, .slice A0_6 l0_6.length c0_6], .agg #[.int .i64 a1_0, .bool a1_1, .bool a1_2, .slice A1_3 l1_3.length c1_3, .int .u64 a1_4, .string a1_5, .slice A1_6 l1_6.length c1_6]] ?_; (with_reducible refine (p_Same.calls kj15 a0_0 a0_1 a0_2 _ _ l0_3 a0_4 a0_5 _ _ l0_6 a1_0 a1_1 a1_2 _ _ l1_3 a1_4 a1_5 _ _ l1_6 true _ ?side1 HC0_3.out ?side3 HC0_6.out ?side5 HC1_3.out ?side7 HC1_6.out A53.out).mono ?_); (case side1 => exact (Kd.C_below HR0_3.out (bls HB))); (case side3 => exact (Kd.C_below HR0_6.out (bls HB))); (case side5 => exact (Kd.C_below HR1_3.out (bls HB))); (case side7 => exact (Kd.C_below HR1_6.out (bls HB))); rintro e w71 ⟨rfl, hb⟩; refine ⟨_, rfl, ?_⟩; replace BK918 := kb BK918 hb; replace BK919 := kb BK919 hb; replace HB := bs HB hb; have hz72_1 := bz BK918; have hz73_2 := bz BK919) | (go_at_call 8; (with_reducible refine (p_Equal.calls kj15 a0_0 a0_1 a0_2 _ _ l0_3 a0_4 a0_5 _ _ l0_6 a1_0 a1_1 a1_2 _ _ l1_3 a1_4 a1_5 _ _ l1_6 false _ (ck HR0_3 HB) HC0_3.out (ck HR0_6 HB) HC0_6.out (ck HR1_3 HB) HC1_3.out (ck HR1_6 HB) HC1_6.out A55.out).mono ?_); rintro e w74 ⟨rfl, hb⟩; replace BK918 := kb BK918 hb; replace BK919 := kb BK919 hb; replace HB := bs HB hb))
   go_ret
   exact ⟨fe, bls HB⟩
end Go.Proofs.YtkenmmfplnheaaaGreatDoor.P
