/- The functions' forms and the proofs that the machine computes them: printed by a changed copy of the kit's printer, shortened by a program. -/
import Derived.Test.YtkenmmfplnheaaaGreatDoorWalk2
namespace Go.Proofs.YtkenmmfplnheaaaGreatDoor.P
open Go.Proofs.YtkenmmfplnheaaaGreatDoor.Giv
open Go.RowKit Go.Proofs.YtkenmmfplnheaaaGreatDoorW.PrintWords Go.Proofs.YtkenmmfplnheaaaGreatDoorW.PrintLast Go.Proofs.YtkenmmfplnheaaaGreatDoorW.PrintMore
attribute [local go_sem] max2_int min2_int max_two min_two max_three min_three max_four min_four   -- for this text's walks alone
set_option linter.unusedVariables false
set_option linter.unusedSimpArgs false
set_option maxHeartbeats 8000000
set_option maxRecDepth 100000
mutual
def r2_plus.l0 : Nat → List Int → List Int → List Int → Int → Int → Option (List Int)
 | 0, _, _, _, _, _ => none
 | k + 1, x0, x1, x5, x6, x7 => if x7 < (x0.length : Int) then (r2_plus.j1 k x0 x1 x5 x6 x7 true) else (r2_plus.j1 k x0 x1 x5 x6 x7 (decide (x7 < (x1.length : Int))))
def r2_plus.j1 : Nat → List Int → List Int → List Int → Int → Int → Bool → Option (List Int)
 | 0, _, _, _, _, _, _ => none
 | k + 1, x0, x1, x5, x6, x7, x18 => if x18 = true then (if x7 < (x0.length : Int) then (if 0 ≤ x7 then (if x7 < (x1.length : Int) then (if x5.length < 140737488355328 then (r2_plus.l0 k x0 x1 (x5 ++ [((x6 + (rd x0 x7) + (rd x1 x7)) % 256) % 10]) (((x6 + (rd x0 x7) + (rd x1 x7)) % 256) / 10) (wrap64 (x7 + 1))) else (none)) else (if x5.length < 140737488355328 then (r2_plus.l0 k x0 x1 (x5 ++ [((x6 + (rd x0 x7)) % 256) % 10]) (((x6 + (rd x0 x7)) % 256) / 10) (wrap64 (x7 + 1))) else (none))) else (none)) else (if x7 < (x1.length : Int) then (if 0 ≤ x7 then (if x5.length < 140737488355328 then (r2_plus.l0 k x0 x1 (x5 ++ [((x6 + (rd x1 x7)) % 256) % 10]) (((x6 + (rd x1 x7)) % 256) / 10) (wrap64 (x7 + 1))) else (none)) else (none)) else (if x5.length < 140737488355328 then (r2_plus.l0 k x0 x1 (x5 ++ [Int.tmod x6 10]) ((Int.tdiv x6 10) % 256) (wrap64 (x7 + 1))) else (none)))) else (if x5.length < 140737488355328 then ((r2_cut.f k (x5 ++ [x6])).bind fun t740 => (some t740)) else (none))
end
def r2_plus.f (k : Nat) (l0 l1 : List Int) : Option (List Int) := r2_plus.l0 k l0 l1 ([] : List Int) 0 0
theorem r2_plus.calls (k : Nat) (A0 : Option Addr) (c0 : Nat) (l0 : List Int) (A1 : Option Addr) (c1 : Nat) (l1 r : List Int) (w : World) (hr0 : Kd.C (Kd.int .u8) w A0 l0.length l0) (hc0 : l0.length ≤ c0) (hr1 : Kd.C (Kd.int .u8) w A1 l1.length l1) (hc1 : l1.length ≤ c1) (h : r2_plus.f k l0 l1 = some r) :
  Calls Tryz.prog 142 #[.slice A0 l0.length c0, .slice A1 l1.length c1] w fun e w' => ∃ v0_ : Value, e = .returned (v0_) ∧ Kd.V (Kd.int .u8) 5 w' w.heap.size (fun k_ => (w.heap.size ≤ k_)) v0_ r ∧ Below w.heap.size w w' := by
 have HR0 := Az hr0
 have HC0 := Az hc0
 have HR1 := Az hr1
 have HC1 := Az hc1
 have HB := Az (Below.refl w.heap.size w)
 have H := h
 unfold r2_plus.f at H
 have H' := Az H
 go_enter Tryz.func142, Tryz.ntmps142
 go_wp2
 go_loopg [5, 6, 7] k (fun kq v5 v6 v7 w' => ∃ (x5_1 : List Int) (x6_1 : Int) (x7_1 : Int), v6 = .int .u8 x6_1 ∧ v7 = .int .i64 x7_1 ∧ Aside0 (r2_plus.l0 kq l0 l1 x5_1 x6_1 x7_1 = some r) ∧ Aside0 (kq ≤ k) ∧ Aside0 (Kd.R (Kd.int .u8) 5 w' w.heap.size (fun k_ => (w.heap.size ≤ k_)) v5 x5_1) ∧ Aside0 (Below w.heap.size w w'))
 case atStart => exact ⟨(([] : List Int)), (0), (0), rs, rs, H', ⟨Nat.le_refl _⟩, ⟨Kd.R_nil _ _ _ _ _⟩, ⟨bl HB⟩⟩
 case round =>
  obtain ⟨x5_1, x6_1, x7_1, rfl, rfl, HA, HK1, HO_5, HB⟩ := hrel
  cases gk with
  | zero => exact absurd HA.out (by simp [r2_plus.l0])
  | succ k1 =>
   have H := HA.out
   simp only [r2_plus.l0] at H
   have HC3 := Az H
   go_upto_region 4 with (fail)
   go_cut [18] (fun v18 wc => ∃ (kq : Nat) (x18_2 : Bool), v18 = .bool x18_2 ∧ Aside0 (r2_plus.j1 kq l0 l1 x5_1 x6_1 x7_1 x18_2 = some r) ∧ Aside0 (kq ≤ k1) ∧ Aside0 (Kd.R (Kd.int .u8) 5 wc w.heap.size (fun k_ => (w.heap.size ≤ k_)) u5 x5_1) ∧ Aside0 (Below w.heap.size w wc))
   case first =>
    have H := HC3.out
    by_cases c4 : x7_1 < (l0.length : Int)
    ·rw [if_pos c4] at H
     (first | rw [c4b0] | (simp only [i64_w, i32_w]; rw [c4b0]) | skip)
     have H' := Az H
     go_wp2
     go_meet
     case rel => exact ⟨_, (true), rs, H', ⟨le1 HK1⟩, ⟨rk HO_5⟩, ⟨bl HB⟩⟩
    rw [if_neg c4] at H
    (first | rw [c4b0] | (simp only [i64_w, i32_w]; rw [c4b0]) | skip)
    have H' := Az H
    go_wp2
    go_meet
    case rel => exact ⟨_, (decide (x7_1 < (l1.length : Int))), rs, H', ⟨le1 HK1⟩, ⟨rk HO_5⟩, ⟨bl HB⟩⟩
   case rest =>
    obtain ⟨kq, x18_2, rfl, HA, HJ2, HO_5, HB⟩ := hcut
    cases kq with
    | zero => exact absurd HA.out (by simp [r2_plus.j1])
    | succ kj2 =>
     have H := HA.out
     simp only [r2_plus.j1] at H
     by_cases c5 : x18_2 = true
     case neg =>
      replace c5 := Bool.eq_false_iff.mpr c5
      subst c5
      rw [if_neg Bool.false_ne_true] at H
      by_cases c19 : x5_1.length < 140737488355328
      case neg =>
       rw [if_neg c19] at H
       exact absurd H (by simp)
      rw [if_pos c19] at H
      have LMc19 := Az c19
      obtain ⟨y737, hy737⟩ : ∃ y_ : List Int, y_ = (x5_1 ++ [x6_1]) := ⟨_, rfl⟩
      replace H : ((r2_cut.f kj2 y737).bind fun t740 => (some t740)) = some r := by rw [hy737]; exact H
      have Ny737 := Az hy737
      obtain ⟨t740, A20, H⟩ := bd H
      obtain rfl := Option.some.inj H
      go_wp2_with (first | ((with_reducible refine gate_builtin (b := .append) (xs := #[.tmp 49, .tmp 51]) rfl ?_); (try (refine gate_guard (by rfl) ?_; dsimp only)); at_builtin; refine Kd.R_append (Kd.int .u8) (w0 := w) w.heap.size rfl (.tmp 49) (.tmp 51) 43 5 (.int .u8 0) 1 rfl Tryz.underlying43 info5 rfl (by decide) (by omega) u5 x5_1 x6_1 [.int .u8 x6_1] (fun k_ => (w.heap.size ≤ k_)) (fun _ => False) rfl rfl ?aP (fun _ hk => hk.elim) ?aF ?aO ?aB ?aS ?aL ?_; (case aP => exact rfl); (case aB => exact (bl HB)); (case aF => exact (fun k_ hk => (Nat.le_trans (below_size (bl HB)) hk))); (case aO => exact (rk HO_5)); (case aS => exact (below_size (bl HB))); (case aL => have := LMc19.out; omega); intro v738 w21 ho hb hg hat; rw [← Ny737.out] at ho; replace HB := Az (hb); have HO739 := Az (ho); clear HO_5; clear ho hb hg hat; obtain ⟨Ao22, co22, eo22⟩ := Kd.R_slice HO739.out; subst eo22) | (refine gl (some 53) Tryz.func121 #[.slice Ao22 y737.length co22] ?_; (with_reducible refine (r2_cut.calls kj2 (fun k_ => some k_ = (.slice Ao22 y737.length co22 : Value).ownBlock) _ _ y737 t740 _ ?side1 A20.out).mono ?_); (case side1 => exact Kd.R_V (Kd.R_tight rfl (HO739.out))); rintro e w23 ⟨v741, rfl, ho0, hb⟩; refine ⟨_, rfl, ?_⟩; have HO742 := Az (Kd.V_lower (Kd.V_mono (ok' := fun k_ => (w.heap.size ≤ k_)) ho0 (fun k_ hk_ => Or.elim hk_ (fun hs_ => ((HO739.out).1 k_ hs_.symm)) (fun hn_ => (Nat.le_trans (below_size (bl HB)) hn_)))) (below_size (bl HB))); replace HO739 := Az (Kd.R_below (rk HO739) hb); replace HB := bs HB hb))
      go_ret
      exact ⟨_, fe, vk HO742, bl HB⟩
     subst c5
     rw [if_pos rfl] at H
     by_cases c6 : x7_1 < (l0.length : Int)
     case neg =>
      rw [if_neg c6] at H
      by_cases c13 : x7_1 < (l1.length : Int)
      case neg =>
       rw [if_neg c13] at H
       by_cases c17 : x5_1.length < 140737488355328
       case neg =>
        rw [if_neg c17] at H
        exact absurd H (by simp)
       rw [if_pos c17] at H
       have LMc17 := Az c17
       obtain ⟨y755, hy755⟩ : ∃ y_ : List Int, y_ = (x5_1 ++ [Int.tmod x6_1 10]) := ⟨_, rfl⟩
       replace H : (r2_plus.l0 kj2 l0 l1 y755 ((Int.tdiv x6_1 10) % 256) (wrap64 (x7_1 + 1))) = some r := by rw [hy755]; exact H
       have Ny755 := Az hy755
       have H' := Az H
       go_wp2_with (first | ((with_reducible refine gate_builtin (b := .append) (xs := #[.tmp 42, .tmp 45]) rfl ?_); (try (refine gate_guard (by rfl) ?_; dsimp only)); at_builtin; refine Kd.R_append (Kd.int .u8) (w0 := w) w.heap.size rfl (.tmp 42) (.tmp 45) 43 5 (.int .u8 0) 1 rfl Tryz.underlying43 info5 rfl (by decide) (by omega) u5 x5_1 (Int.tmod x6_1 10) [.int .u8 (Int.tmod x6_1 10)] (fun k_ => (w.heap.size ≤ k_)) (fun _ => False) rfl rfl ?aP (fun _ hk => hk.elim) ?aF ?aO ?aB ?aS ?aL ?_; (case aP => exact rfl); (case aB => exact (bl HB)); (case aF => exact (fun k_ hk => (Nat.le_trans (below_size (bl HB)) hk))); (case aO => exact (rk HO_5)); (case aS => exact (below_size (bl HB))); (case aL => have := LMc17.out; omega); intro v756 w18 ho hb hg hat; rw [← Ny755.out] at ho; replace HB := Az (hb); have HO757 := Az (ho); clear HO_5; clear ho hb hg hat))
       go_roundg kj2
       case measure => have := HK1.out; have := HJ2.out; omega
       case rel => exact ⟨(y755), ((Int.tdiv x6_1 10) % 256), (wrap64 (x7_1 + 1)), rs, rs, H', ⟨by have := HK1.out; have := HJ2.out; omega⟩, ⟨rk HO757⟩, ⟨bl HB⟩⟩
      rw [if_pos c13] at H
      have c13b0 := decide_eq_true c13
      by_cases c14 : 0 ≤ x7_1
      case neg =>
       rw [if_neg c14] at H
       exact absurd H (by simp)
      rw [if_pos c14] at H
      have c14b0 := decide_eq_true c14
      by_cases c15 : x5_1.length < 140737488355328
      case neg =>
       rw [if_neg c15] at H
       exact absurd H (by simp)
      rw [if_pos c15] at H
      have LMc15 := Az c15
      obtain ⟨y752, hy752⟩ : ∃ y_ : List Int, y_ = (x5_1 ++ [((x6_1 + (rd l1 x7_1)) % 256) % 10]) := ⟨_, rfl⟩
      replace H : (r2_plus.l0 kj2 l0 l1 y752 (((x6_1 + (rd l1 x7_1)) % 256) / 10) (wrap64 (x7_1 + 1))) = some r := by rw [hy752]; exact H
      have Ny752 := Az hy752
      have H' := Az H
      have p751 : 0 ≤ (x7_1 : Int) := ode
      have q751 : x7_1 < (l1.length : Int) := ode
      obtain ⟨ad751, e751, hx751_0⟩ := Kd.at_int HR1.out x7_1 p751 q751
      cases e751
      replace hx751_0 := (HB.out.cell (World.block_lt_of_cell? w _ hx751_0)).trans hx751_0
      replace p751 := eq_true p751
      replace q751 := eq_true q751
      go_wp2_with (first | ((with_reducible refine gate_builtin (b := .append) (xs := #[.tmp 42, .tmp 45]) rfl ?_); (try (refine gate_guard (by rfl) ?_; dsimp only)); at_builtin; refine Kd.R_append (Kd.int .u8) (w0 := w) w.heap.size rfl (.tmp 42) (.tmp 45) 43 5 (.int .u8 0) 1 rfl Tryz.underlying43 info5 rfl (by decide) (by omega) u5 x5_1 (((x6_1 + (rd l1 x7_1)) % 256) % 10) [.int .u8 (((x6_1 + (rd l1 x7_1)) % 256) % 10)] (fun k_ => (w.heap.size ≤ k_)) (fun _ => False) rfl rfl ?aP (fun _ hk => hk.elim) ?aF ?aO ?aB ?aS ?aL ?_; (case aP => exact rfl); (case aB => exact (bl HB)); (case aF => exact (fun k_ hk => (Nat.le_trans (below_size (bl HB)) hk))); (case aO => exact (rk HO_5)); (case aS => exact (below_size (bl HB))); (case aL => have := LMc15.out; omega); intro v753 w16 ho hb hg hat; rw [← Ny752.out] at ho; replace HB := Az (hb); have HO754 := Az (ho); clear HO_5; clear ho hb hg hat))
      go_roundg kj2
      case measure => have := HK1.out; have := HJ2.out; omega
      case rel => exact ⟨(y752), (((x6_1 + (rd l1 x7_1)) % 256) / 10), (wrap64 (x7_1 + 1)), rs, rs, H', ⟨by have := HK1.out; have := HJ2.out; omega⟩, ⟨rk HO754⟩, ⟨bl HB⟩⟩
     rw [if_pos c6] at H
     have c6b0 := decide_eq_true c6
     by_cases c7 : 0 ≤ x7_1
     case neg =>
      rw [if_neg c7] at H
      exact absurd H (by simp)
     rw [if_pos c7] at H
     have c7b0 := decide_eq_true c7
     by_cases c8 : x7_1 < (l1.length : Int)
     case neg =>
      rw [if_neg c8] at H
      have c8b0 := decide_eq_false c8
      by_cases c11 : x5_1.length < 140737488355328
      case neg =>
       rw [if_neg c11] at H
       exact absurd H (by simp)
      rw [if_pos c11] at H
      have LMc11 := Az c11
      obtain ⟨y748, hy748⟩ : ∃ y_ : List Int, y_ = (x5_1 ++ [((x6_1 + (rd l0 x7_1)) % 256) % 10]) := ⟨_, rfl⟩
      replace H : (r2_plus.l0 kj2 l0 l1 y748 (((x6_1 + (rd l0 x7_1)) % 256) / 10) (wrap64 (x7_1 + 1))) = some r := by rw [hy748]; exact H
      have Ny748 := Az hy748
      have H' := Az H
      have p743 : 0 ≤ (x7_1 : Int) := ode
      have q743 : x7_1 < (l0.length : Int) := ode
      obtain ⟨ad743, e743, hx743_0⟩ := Kd.at_int HR0.out x7_1 p743 q743
      cases e743
      replace hx743_0 := (HB.out.cell (World.block_lt_of_cell? w _ hx743_0)).trans hx743_0
      replace p743 := eq_true p743
      replace q743 := eq_true q743
      go_wp2_with (first | ((with_reducible refine gate_builtin (b := .append) (xs := #[.tmp 42, .tmp 45]) rfl ?_); (try (refine gate_guard (by rfl) ?_; dsimp only)); at_builtin; refine Kd.R_append (Kd.int .u8) (w0 := w) w.heap.size rfl (.tmp 42) (.tmp 45) 43 5 (.int .u8 0) 1 rfl Tryz.underlying43 info5 rfl (by decide) (by omega) u5 x5_1 (((x6_1 + (rd l0 x7_1)) % 256) % 10) [.int .u8 (((x6_1 + (rd l0 x7_1)) % 256) % 10)] (fun k_ => (w.heap.size ≤ k_)) (fun _ => False) rfl rfl ?aP (fun _ hk => hk.elim) ?aF ?aO ?aB ?aS ?aL ?_; (case aP => exact rfl); (case aB => exact (bl HB)); (case aF => exact (fun k_ hk => (Nat.le_trans (below_size (bl HB)) hk))); (case aO => exact (rk HO_5)); (case aS => exact (below_size (bl HB))); (case aL => have := LMc11.out; omega); intro v749 w12 ho hb hg hat; rw [← Ny748.out] at ho; replace HB := Az (hb); have HO750 := Az (ho); clear HO_5; clear ho hb hg hat))
      go_roundg kj2
      case measure => have := HK1.out; have := HJ2.out; omega
      case rel => exact ⟨(y748), (((x6_1 + (rd l0 x7_1)) % 256) / 10), (wrap64 (x7_1 + 1)), rs, rs, H', ⟨by have := HK1.out; have := HJ2.out; omega⟩, ⟨rk HO750⟩, ⟨bl HB⟩⟩
     rw [if_pos c8] at H
     have c8b0 := decide_eq_true c8
     by_cases c9 : x5_1.length < 140737488355328
     case neg =>
      rw [if_neg c9] at H
      exact absurd H (by simp)
     rw [if_pos c9] at H
     have LMc9 := Az c9
     obtain ⟨y745, hy745⟩ : ∃ y_ : List Int, y_ = (x5_1 ++ [((x6_1 + (rd l0 x7_1) + (rd l1 x7_1)) % 256) % 10]) := ⟨_, rfl⟩
     replace H : (r2_plus.l0 kj2 l0 l1 y745 (((x6_1 + (rd l0 x7_1) + (rd l1 x7_1)) % 256) / 10) (wrap64 (x7_1 + 1))) = some r := by rw [hy745]; exact H
     have Ny745 := Az hy745
     have H' := Az H
     have p743 : 0 ≤ (x7_1 : Int) := ode
     have q743 : x7_1 < (l0.length : Int) := ode
     obtain ⟨ad743, e743, hx743_0⟩ := Kd.at_int HR0.out x7_1 p743 q743
     cases e743
     replace hx743_0 := (HB.out.cell (World.block_lt_of_cell? w _ hx743_0)).trans hx743_0
     replace p743 := eq_true p743
     replace q743 := eq_true q743
     have p744 : 0 ≤ (x7_1 : Int) := ode
     have q744 : x7_1 < (l1.length : Int) := ode
     obtain ⟨ad744, e744, hx744_0⟩ := Kd.at_int HR1.out x7_1 p744 q744
     cases e744
     replace hx744_0 := (HB.out.cell (World.block_lt_of_cell? w _ hx744_0)).trans hx744_0
     replace p744 := eq_true p744
     replace q744 := eq_true q744
     go_wp2_with (first | ((with_reducible refine gate_builtin (b := .append) (xs := #[.tmp 42, .tmp 45]) rfl ?_); (try (refine gate_guard (by rfl) ?_; dsimp only)); at_builtin; refine Kd.R_append (Kd.int .u8) (w0 := w) w.heap.size rfl (.tmp 42) (.tmp 45) 43 5 (.int .u8 0) 1 rfl Tryz.underlying43 info5 rfl (by decide) (by omega) u5 x5_1 (((x6_1 + (rd l0 x7_1) + (rd l1 x7_1)) % 256) % 10) [.int .u8 (((x6_1 + (rd l0 x7_1) + (rd l1 x7_1)) % 256) % 10)] (fun k_ => (w.heap.size ≤ k_)) (fun _ => False) rfl rfl ?aP (fun _ hk => hk.elim) ?aF ?aO ?aB ?aS ?aL ?_; (case aP => exact rfl); (case aB => exact (bl HB)); (case aF => exact (fun k_ hk => (Nat.le_trans (below_size (bl HB)) hk))); (case aO => exact (rk HO_5)); (case aS => exact (below_size (bl HB))); (case aL => have := LMc9.out; omega); intro v746 w10 ho hb hg hat; rw [← Ny745.out] at ho; replace HB := Az (hb); have HO747 := Az (ho); clear HO_5; clear ho hb hg hat))
     go_roundg kj2
     case measure => have := HK1.out; have := HJ2.out; omega
     case rel => exact ⟨(y745), (((x6_1 + (rd l0 x7_1) + (rd l1 x7_1)) % 256) / 10), (wrap64 (x7_1 + 1)), rs, rs, H', ⟨by have := HK1.out; have := HJ2.out; omega⟩, ⟨rk HO747⟩, ⟨bl HB⟩⟩
def r2_Plus.f (k : Nat) (a0_0 : Bool) (l0_1 : List Int) (a1_0 : Bool) (l1_1 : List Int) : Option (Bool × List Int) := if (a0_0 == a1_0) = true then ((r2_plus.f k l0_1 l1_1).bind fun t772 => (some (a0_0, t772))) else (none)
def r2_Plus.T2 : Bool × List (List Nat × List Nat) := (true, [([], []), ([0], [0]), ([], []), ([2], [2]), ([], []), ([4], [4]), ([3, 5], [3, 5]), ([1, 6], [1, 6]), ([7, 6, 0, 1, 2, 3, 4, 5, 6, 7], [7])])
def r2_Plus.B2 : List Nat := [0, 1, 0, 4, 0, 16, 60, 127, 255]
theorem r2_Plus.tab2 : rtab .any (opsOf Tryz.f120 2) = r2_Plus.T2 := by kernel_rfl
theorem r2_Plus.bits2 : waitsOk r2_Plus.T2.2 r2_Plus.B2 = true := by kernel_rfl
theorem r2_Plus.calls (k : Nat) (a0_0 : Bool) (A0_1 : Option Addr) (c0_1 : Nat) (l0_1 : List Int) (a1_0 : Bool) (A1_1 : Option Addr) (c1_1 : Nat) (l1_1 : List Int) (r1 : Bool) (r2 : List Int) (w : World) (hr0_1 : Kd.C (Kd.int .u8) w A0_1 l0_1.length l0_1) (hc0_1 : l0_1.length ≤ c0_1) (hr1_1 : Kd.C (Kd.int .u8) w A1_1 l1_1.length l1_1) (hc1_1 : l1_1.length ≤ c1_1) (h : r2_Plus.f k a0_0 l0_1 a1_0 l1_1 = some (r1, r2)) :
  Calls Tryz.prog 120 #[.agg #[.bool a0_0, .slice A0_1 l0_1.length c0_1], .agg #[.bool a1_0, .slice A1_1 l1_1.length c1_1]] w fun e w' => ∃ v1_ : Value, e = .returned (.agg #[.bool r1, v1_]) ∧ Kd.V (Kd.int .u8) 5 w' w.heap.size (fun k_ => (w.heap.size ≤ k_)) v1_ r2 ∧ Below w.heap.size w w' := by
 have hu45 := Tryz.underlying45
 have HR0_1 := Az hr0_1
 have HC0_1 := Az hc0_1
 clear hr0_1 hc0_1
 have HR1_1 := Az hr1_1
 have HC1_1 := Az hc1_1
 clear hr1_1 hc1_1
 have HB := Az (Below.refl w.heap.size w)
 have H := h
 unfold r2_Plus.f at H
 clear h
 by_cases c3 : (a0_0 == a1_0) = true
 case neg =>
  rw [if_neg c3] at H
  exact absurd H (by simp)
 rw [if_pos c3] at H
 have c3b0 : (a0_0 == a1_0) = true := c3
 (try (have c3b1 : decide (a0_0 = a1_0) = true := by simpa using c3))
 (try (have c3b2 : (a0_0 == a1_0) = true := by simpa using c3))
 clear c3
 obtain ⟨t772, A4, H⟩ := bd H
 simp only [Option.some.injEq, Prod.mk.injEq] at H
 obtain ⟨rfl, rfl⟩ := H
 go_enter Tryz.func120, Tryz.ntmps120
 try go_wp2_with (first | ((try (refine gate_guard (by rfl) ?_; dsimp only)); refine be 2 #[.bool a0_0, .slice A0_1 l0_1.length c0_1] 45 ?_; intro gb769 hg w5 hbox hb; have BK769 := Az (hbox); have GW769 := gw (bl HB) hg; have GE769 := gw (bl HB) hg; replace HB := bs HB hb; clear hb hbox hg) | ((try (refine gate_guard (by rfl) ?_; dsimp only)); refine be 3 #[.bool a1_0, .slice A1_1 l1_1.length c1_1] 45 ?_; intro gb770 hg w6 hbox hb; have BK770 := Az (hbox); have GW770 := gw (bls HB) hg; have GE770 := gw (bls HB) hg; replace HB := bs HB hb; have NB769_770 := nl BK769 hg; have NB770_769 := ng BK769 hg; replace BK769 := kb BK769 hb; clear hb hbox hg) | ((try (refine gate_guard (by rfl) ?_; dsimp only)); refine be 4 #[.bool false, .slice none 0 0] 45 ?_; intro gb771 hg w7 hbox hb; have BK771 := Az (hbox); have GW771 := gw (bls HB) hg; have GE771 := gw (bls HB) hg; replace HB := bs HB hb; have NB769_771 := nl BK769 hg; have NB771_769 := ng BK769 hg; replace BK769 := kb BK769 hb; have NB770_771 := nl BK770 hg; have NB771_770 := ng BK770 hg; replace BK770 := kb BK770 hb; clear hb hbox hg; have hnb8 := NB769_770.out; have hnc8 := NB770_769.out; have hnb9 := NB769_771.out; have hnc9 := NB771_769.out; have hz10_1 := bz BK769; have hnb11 := NB770_771.out; have hnc11 := NB771_770.out; have hz12_1 := bz BK770))
 replace BK769 := Az (blk_drew BK769.out)
 replace BK770 := Az (blk_drew BK770.out)
 replace BK771 := Az (blk_drew BK771.out)
 replace HB := Az (below_drew1 HB.out)
 refine start_ (n := 9) (S := fun w' => w'.cell? ⟨gb769, 0, none⟩ = some (.bool a0_0) ∧ w'.cell? ⟨gb769, 1, none⟩ = some (.slice A0_1 l0_1.length c0_1) ∧ w'.cell? ⟨gb770, 0, none⟩ = some (.bool a1_0) ∧ w'.cell? ⟨gb770, 1, none⟩ = some (.slice A1_1 l1_1.length c1_1)) (ds := []) (bm 9 0) (by kernel_rfl) rfl rfl ⟨(blk_cell BK769.out 0).trans rfl, (blk_cell BK769.out 1).trans rfl, (blk_cell BK770.out 0).trans rfl, (blk_cell BK770.out 1).trans rfl⟩ (fun hHeld => ?_); refine with_tabW r2_Plus.tab2 r2_Plus.bits2 (fun HT_ HW_ => ?_)
 generalize w7.drew = w13 at BK769 BK770 BK771 HB hHeld ⊢
 refine pu 0 (some 11) (bm 9 1) HT_.out ?_
 refine pu 2 (some 13) (bm 9 5) HT_.out ?_
 refine pu 4 (some 15) (bm 9 21) HT_.out ?_
 refine tk 1 (some 12) (bm 9 23) HT_.out HW_.out hHeld ?_
 refine tk 3 (some 14) (bm 9 31) HT_.out HW_.out hHeld ?_
 refine tk 5 (some 16) (bm 9 63) HT_.out HW_.out hHeld ?_
 refine on 6 (some 17) (bm 9 127) HT_.out (fun K hK => ?_)
 refine gs Tryz.func142 #[.slice A0_1 l0_1.length c0_1, .slice A1_1 l1_1.length c1_1] ?_
 with_reducible refine (r2_plus.calls k _ _ l0_1 _ _ l1_1 t772 _ (ck HR0_1 HB) HC0_1.out (ck HR1_1 HB) HC1_1.out A4.out).mono ?_
 rintro e w14 ⟨v773, rfl, ho0, hb⟩
 refine ⟨_, rfl, ?_⟩
 have HO774 := Az (Kd.V_lower (Kd.V_mono (ok' := fun k_ => (w.heap.size ≤ k_) ∧ k_ ≠ gb769 ∧ k_ ≠ gb770 ∧ k_ ≠ gb771) ho0 (fun k_ hk_ => ⟨(Nat.le_trans (below_size (bls HB)) hk_), (Kd.freshB (g := gb769) (o := .cells #[.bool a0_0, .slice A0_1 l0_1.length c0_1] 45 (0, 0)) (bk BK769) k_ hk_), (Kd.freshB (g := gb770) (o := .cells #[.bool a1_0, .slice A1_1 l1_1.length c1_1] 45 (0, 0)) (bk BK770) k_ hk_), (Kd.freshB (g := gb771) (o := .cells #[.bool false, .slice none 0 0] 45 (0, 0)) (bk BK771) k_ hk_)⟩)) (below_size (bls HB)))
 replace BK769 := kb BK769 hb
 replace BK770 := kb BK770 hb
 replace BK771 := kb BK771 hb
 replace HB := bs HB hb
 (try clear hb)
 (try clear ho0)
 obtain ⟨Ao15, co15, eo15⟩ := Kd.V_slice HO774.out
 (first | subst eo15 | (injection eo15 with f1_ f2_ f3_; have f4_ := f1_.symm; have f5_ := f3_.symm; clear f1_ f2_ f3_; subst f4_; subst f5_))
 refine hK.out _ _ hd (fun hHeld => ?_)
 clear hK K
 refine nm ?_
 refine pu 7 (some 18) (bm 9 255) HT_.out ?_
 refine on 8 (none) (bm 9 511) HT_.out (fun K hK => ?_)
 have hs16 : w14.cell? ⟨gb771, 0, none⟩ = some (.bool false) := (blk_cell BK771.out 0).trans rfl
 have hfs16 := blk_frozen BK771.out 0
 have hns16_0 := NB769_771.out
 have hns16_1 := NB770_771.out
 have hms16_0 := NB771_769.out
 have hms16_1 := NB771_770.out
 have hs17 : w14.cell? ⟨gb771, 1, none⟩ = some (.slice none 0 0) := (blk_cell BK771.out 1).trans rfl
 have hfs17 := blk_frozen BK771.out 1
 have hns17_0 := NB769_771.out
 have hns17_1 := NB770_771.out
 have hms17_0 := NB771_769.out
 have hms17_1 := NB771_770.out
 refine skip_ (w1 := ?_) (by rfl) rfl ?_ ?_
 rotate_left
 ·go_simp
  rfl
 refine hK.out _ _ ⟨((cell_far (p := ⟨gb771, _, none⟩) NB769_771.out _).trans (((cell_far (p := ⟨gb771, _, none⟩) NB769_771.out _).trans (hHeld.1)))), ((cell_far (p := ⟨gb771, _, none⟩) NB769_771.out _).trans (((cell_far (p := ⟨gb771, _, none⟩) NB769_771.out _).trans (hHeld.2.1)))), ((cell_far (p := ⟨gb771, _, none⟩) NB770_771.out _).trans (((cell_far (p := ⟨gb771, _, none⟩) NB770_771.out _).trans (hHeld.2.2.1)))), ((cell_far (p := ⟨gb771, _, none⟩) NB770_771.out _).trans (((cell_far (p := ⟨gb771, _, none⟩) NB770_771.out _).trans (hHeld.2.2.2))))⟩ (fun hHeld => ?_)
 clear hK K
 refine done_ (done_of HT_.out (by kernel_rfl)) ?_
 try go_wp2
 refine bodyPost_ret (results_cell_row rfl _ _ gb771 45 #[.bool a0_0, .slice Ao15 t772.length co15] (0, 0) _ rfl (by (with_reducible repeat (first | refine blk_drewN ?_ _ | refine blk_drew ?_ | refine blk_alloc ?_ _)); refine blk_put (cs := #[.bool a0_0, .slice none 0 0]) ?_ 1 _ rfl; (with_reducible repeat (first | refine blk_drewN ?_ _ | refine blk_drew ?_ | refine blk_alloc ?_ _)); refine blk_put (cs := #[.bool false, .slice none 0 0]) ?_ 0 _ rfl; (with_reducible repeat (first | refine blk_drewN ?_ _ | refine blk_drew ?_ | refine blk_alloc ?_ _)); exact BK771.out) Tryz.underlying45 rfl (by kernel_rfl)) rfl ?_
 exact ⟨_, fe, vt (Kd.V_mono (Kd.V_far (p := ⟨gb771, 1, none⟩) (Kd.V_far (p := ⟨gb771, 0, none⟩) (Kd.V_mono HO774.out (fun k_ hk => (⟨hk, hk.2.2.2⟩ : _ ∧ k_ ≠ gb771))) (fun _ hk => hk.2) (.bool a0_0)) (fun _ hk => hk.2) (.slice Ao15 t772.length co15)) (fun _ hk => hk.1.1)), bls HB⟩
mutual
def r2_Of.l0 : Nat → List Int → Int → Bool → List Int → Option (Bool × List Int)
 | 0, _, _, _, _ => none
 | k + 1, x3, x4, x790000, x790001 => if x4 < (x790001.length : Int) then (if 0 ≤ x4 then (r2_Of.l1 k x3 x4 (rd x790001 x4) 0 x790000 x790001) else (none)) else ((r2_cut.f k x3).bind fun t791 => (some (x790000, t791)))
def r2_Of.l1 : Nat → List Int → Int → Int → Int → Bool → List Int → Option (Bool × List Int)
 | 0, _, _, _, _, _, _ => none
 | k + 1, x3, x4, x5, x6, x790000, x790001 => if x6 < 18 then (if x3.length < 140737488355328 then (r2_Of.l1 k (x3 ++ [(Int.tmod x5 10) % 256]) x4 (IntKind.u64.wrap (Int.tdiv x5 10)) (wrap64 (x6 + 1)) x790000 x790001) else (none)) else (r2_Of.l0 k x3 (wrap64 (x4 + 1)) x790000 x790001)
end
def r2_Of.f (k : Nat) (a0_0 : Bool) (l0_1 : List Int) : Option (Bool × List Int) := r2_Of.l0 k ([] : List Int) 0 a0_0 l0_1
theorem r2_Of.calls (k : Nat) (a0_0 : Bool) (A0_1 : Option Addr) (c0_1 : Nat) (l0_1 : List Int) (r1 : Bool) (r2 : List Int) (w : World) (hr0_1 : Kd.C (Kd.int .u64) w A0_1 l0_1.length l0_1) (hc0_1 : l0_1.length ≤ c0_1) (h : r2_Of.f k a0_0 l0_1 = some (r1, r2)) :
  Calls Tryz.prog 87 #[.agg #[.bool a0_0, .slice A0_1 l0_1.length c0_1]] w fun e w' => ∃ v1_ : Value, e = .returned (.agg #[.bool r1, v1_]) ∧ Kd.V (Kd.int .u8) 5 w' w.heap.size (fun k_ => (w.heap.size ≤ k_)) v1_ r2 ∧ Below w.heap.size w w' := by
 have hu24 := Tryz.underlying24
 have hu45 := Tryz.underlying45
 have HR0_1 := Az hr0_1
 have HC0_1 := Az hc0_1
 clear hr0_1 hc0_1
 have HB := Az (Below.refl w.heap.size w)
 have H := h
 unfold r2_Of.f at H
 clear h
 have H' := Az H
 clear H
 go_enter Tryz.func87, Tryz.ntmps87
 go_wp2_with (first | (refine be 1 #[.bool a0_0, .slice A0_1 l0_1.length c0_1] 24 ?_; intro gb789 hg w2 hbox hb; have BK789 := Az (hbox); have GW789 := gw (bl HB) hg; have GE789 := gw (bl HB) hg; replace HB := bs HB hb; clear hb hbox hg) | (refine be 2 #[.bool false, .slice none 0 0] 45 ?_; intro gb790 hg w3 hbox hb; have BK790 := Az (hbox); have GW790 := gw (bls HB) hg; have GE790 := gw (bls HB) hg; replace HB := bs HB hb; have NB789_790 := nl BK789 hg; have NB790_789 := ng BK789 hg; replace BK789 := kb BK789 hb; clear hb hbox hg))
 go_loopg [3, 4] k (fun kq v3 v4 w' => ∃ (x3_1 : List Int) (x4_1 : Int), v4 = .int .i64 x4_1 ∧ Aside0 (r2_Of.l0 kq x3_1 x4_1 a0_0 l0_1 = some (r1, r2)) ∧ Aside0 (kq ≤ k) ∧ Aside0 (Kd.R (Kd.int .u8) 5 w' w.heap.size (fun k_ => (w.heap.size ≤ k_)) v3 x3_1) ∧ Aside0 (w'.heap[gb789]? = some (.cells #[.bool a0_0, (.slice A0_1 l0_1.length c0_1)] 24 (0, 0))) ∧ Aside0 (w'.heap[gb790]? = some (.cells #[.bool false, (.slice none 0 0)] 45 (0, 0))) ∧ Aside0 (Below w.heap.size w w'))
 case atStart => exact ⟨(([] : List Int)), (0), rs, H', ⟨Nat.le_refl _⟩, ⟨Kd.R_nil _ _ _ _ _⟩, ⟨bk BK789⟩, ⟨bk BK790⟩, ⟨bls HB⟩⟩
 case round =>
  clear H'
  obtain ⟨x3_1, x4_1, rfl, HA, HK1, HO_3, BK789, BK790, HB⟩ := hrel
  cases gk with
  | zero => exact absurd HA.out (by simp [r2_Of.l0])
  | succ k1 =>
   have H := HA.out
   clear HA
   simp only [r2_Of.l0] at H
   by_cases c4 : x4_1 < (l0_1.length : Int)
   ·rw [if_pos c4] at H
    have c4b0 := decide_eq_true c4
    clear c4
    by_cases c5 : 0 ≤ x4_1
    case neg =>
     rw [if_neg c5] at H
     exact absurd H (by simp)
    rw [if_pos c5] at H
    have c5b0 := decide_eq_true c5
    clear c5
    have H' := Az H
    clear H
    have hnb6 := NB789_790.out
    have hnc6 := NB790_789.out
    have hz7_1 := bz BK789
    have p794 : 0 ≤ (x4_1 : Int) := ode
    have q794 : x4_1 < (l0_1.length : Int) := ode
    obtain ⟨ad794, e794, hx794_0⟩ := Kd.at_int HR0_1.out x4_1 p794 q794
    cases e794
    replace hx794_0 := (HB.out.cell (World.block_lt_of_cell? w _ hx794_0)).trans hx794_0
    replace p794 := eq_true p794
    replace q794 := eq_true q794
    go_wp2
    go_loopg [3, 5, 6] k1 (fun kq v3 v5 v6 w' => ∃ (x3_2 : List Int) (x5_2 : Int) (x6_2 : Int), v5 = .int .u64 x5_2 ∧ v6 = .int .i64 x6_2 ∧ Aside0 (r2_Of.l1 kq x3_2 x4_1 x5_2 x6_2 a0_0 l0_1 = some (r1, r2)) ∧ Aside0 (kq ≤ k1) ∧ Aside0 (Kd.R (Kd.int .u8) 5 w' w.heap.size (fun k_ => (w.heap.size ≤ k_)) v3 x3_2) ∧ Aside0 (w'.heap[gb789]? = some (.cells #[.bool a0_0, (.slice (some ad794) l0_1.length c0_1)] 24 (0, 0))) ∧ Aside0 (w'.heap[gb790]? = some (.cells #[.bool false, (.slice none 0 0)] 45 (0, 0))) ∧ Aside0 (Below w.heap.size w w'))
    case atStart => exact ⟨(x3_1), (rd l0_1 x4_1), (0), rs, rs, H', ⟨Nat.le_refl _⟩, ⟨rk HO_3⟩, ⟨bk BK789⟩, ⟨bk BK790⟩, ⟨bls HB⟩⟩
    case round =>
     clear H'
     try clear hx7
     try clear hx794_0
     obtain ⟨x3_2, x5_2, x6_2, rfl, rfl, HA, HK2, HO_3, BK789, BK790, HB⟩ := hrel
     cases gk with
     | zero => exact absurd HA.out (by simp [r2_Of.l1])
     | succ k2 =>
      have H := HA.out
      clear HA
      simp only [r2_Of.l1] at H
      by_cases c8 : x6_2 < 18
      case neg =>
       rw [if_neg c8] at H
       have c8b0 := decide_eq_false c8
       clear c8
       have H' := Az H
       clear H
       go_wp2
       go_roundg k2
       case measure => have := HK1.out; have := HK2.out; omega
       case rel => exact ⟨(x3_2), (wrap64 (x4_1 + 1)), rs, H', ⟨by have := HK1.out; have := HK2.out; omega⟩, ⟨rk HO_3⟩, ⟨bk BK789⟩, ⟨bk BK790⟩, ⟨bls HB⟩⟩
      rw [if_pos c8] at H
      have c8b0 := decide_eq_true c8
      clear c8
      by_cases c9 : x3_2.length < 140737488355328
      case neg =>
       rw [if_neg c9] at H
       exact absurd H (by simp)
      rw [if_pos c9] at H
      have LMc9 := Az c9
      clear c9
      obtain ⟨y795, hy795⟩ : ∃ y_ : List Int, y_ = (x3_2 ++ [(Int.tmod x5_2 10) % 256]) := ⟨_, rfl⟩
      replace H : (r2_Of.l1 k2 y795 x4_1 (IntKind.u64.wrap (Int.tdiv x5_2 10)) (wrap64 (x6_2 + 1)) a0_0 l0_1) = some (r1, r2) := by rw [hy795]; exact H
      have Ny795 := Az hy795
      clear hy795
      have H' := Az H
      clear H
      go_wp2_with (first | ((with_reducible refine gate_builtin (b := .append) (xs := #[.tmp 23, .tmp 27]) rfl ?_); at_builtin; refine Kd.R_append (Kd.int .u8) (w0 := w) w.heap.size rfl (.tmp 23) (.tmp 27) 43 5 (.int .u8 0) 1 rfl Tryz.underlying43 info5 rfl (by decide) (by omega) u3 x3_2 ((Int.tmod x5_2 10) % 256) [.int .u8 ((Int.tmod x5_2 10) % 256)] (fun k_ => (w.heap.size ≤ k_)) (fun _ => False) rfl rfl ?aP (fun _ hk => hk.elim) ?aF ?aO ?aB ?aS ?aL ?_; (case aP => exact rfl); (case aB => exact (bls HB)); (case aF => exact (fun k_ hk => (Nat.le_trans (below_size (bls HB)) hk))); (case aO => exact (rk HO_3)); (case aS => exact (below_size (bls HB))); (case aL => have := LMc9.out; omega); intro v796 w10 ho hb hg hat; rw [← Ny795.out] at ho; replace BK789 := Az (blk_grown (g := gb789) (o := .cells #[.bool a0_0, .slice (some ad794) l0_1.length c0_1] 24 (0, 0)) (bk BK789) hg (Kd.R_ne HO_3.out BK789.out (by decide))); replace BK790 := Az (blk_grown (g := gb790) (o := .cells #[.bool false, .slice none 0 0] 45 (0, 0)) (bk BK790) hg (Kd.R_ne HO_3.out BK790.out (by decide))); replace HB := Az (hb); have HO797 := Az (ho); clear HO_3; clear ho hb hg hat))
      go_roundg k2
      case measure => have := HK1.out; have := HK2.out; omega
      case rel => exact ⟨(y795), (IntKind.u64.wrap (Int.tdiv x5_2 10)), (wrap64 (x6_2 + 1)), rs, rs, H', ⟨by have := HK1.out; have := HK2.out; omega⟩, ⟨rk HO797⟩, ⟨bk BK789⟩, ⟨bk BK790⟩, ⟨bls HB⟩⟩
   rw [if_neg c4] at H
   have c4b0 := decide_eq_false c4
   clear c4
   obtain ⟨t791, A11, H⟩ := bd H
   simp only [Option.some.injEq, Prod.mk.injEq] at H
   obtain ⟨rfl, rfl⟩ := H
   have hnb12 := NB789_790.out
   have hnc12 := NB790_789.out
   have hz13_1 := bz BK789
   try go_wp2
   replace HO_3 := Az (Kd.R_drew HO_3.out)
   replace BK789 := Az (blk_drew BK789.out)
   replace BK790 := Az (blk_drew BK790.out)
   replace HB := Az (below_drew1 HB.out)
   obtain ⟨Ao15, co15, eo15⟩ := Kd.R_slice HO_3.out
   (first | subst eo15 | (injection eo15 with f1_ f2_ f3_; have f4_ := f1_.symm; have f5_ := f3_.symm; clear f1_ f2_ f3_; subst f4_; subst f5_))
   refine start_ (n := 6) (S := fun w' => w'.cell? ⟨gb789, 0, none⟩ = some (.bool a0_0) ∧ w'.cell? ⟨gb789, 1, none⟩ = some (.slice A0_1 l0_1.length c0_1)) (ds := []) (bm 6 0) (by kernel_rfl) rfl rfl ⟨(blk_cell BK789.out 0).trans rfl, (blk_cell BK789.out 1).trans rfl⟩ (fun hHeld => ?_)
   generalize wr.drew = w14 at HO_3 BK789 BK790 HB hHeld ⊢
   refine pure_ (i := 0) (N := some 31) (v := ?_) (a' := ?_) (bm 6 1) rfl rfl (by kernel_rfl) (fun _ _ _ h => h) (Or.inl ⟨by rfl, ?_⟩) ?_ ?_
   rotate_left
   ·intro w'
    go_simp
    with_reducible rfl
   rotate_left
   ·simp only [Act.put, List.setIfInBounds_toArray, List.set_cons_zero, List.set_cons_succ, i64_w, i32_w]
    rfl
   refine pure_ (i := 2) (N := some 33) (v := ?_) (a' := ?_) (bm 6 5) rfl rfl (by kernel_rfl) (fun _ _ _ h => h) (Or.inl ⟨by rfl, ?_⟩) ?_ ?_
   rotate_left
   ·intro w'
    go_simp
    with_reducible rfl
   rotate_left
   ·simp only [Act.put, List.setIfInBounds_toArray, List.set_cons_zero, List.set_cons_succ, i64_w, i32_w]
    rfl
   refine take_ (i := 1) (N := some 32) (v := ?_) (a' := ?_) (bm 6 7) rfl rfl (by kernel_rfl) (fun _ _ _ h => h) (Or.inl ⟨by rfl, ?_⟩) hHeld ?_ ?_
   rotate_left
   ·rintro w' ⟨s0, s1⟩
    go_simp
    with_reducible rfl
   rotate_left
   ·simp only [Act.put, List.setIfInBounds_toArray, List.set_cons_zero, List.set_cons_succ, i64_w, i32_w]
    rfl
   refine one_ (i := 3) (N := some 34) (bm 6 15) rfl rfl (by kernel_rfl) (by decide) (fun K hK => ?_)
   refine gs Tryz.func121 #[.slice Ao15 x3_1.length co15] ?_
   with_reducible refine (r2_cut.calls k1 (fun k_ => some k_ = (.slice Ao15 x3_1.length co15 : Value).ownBlock) _ _ x3_1 t791 _ ?side1 A11.out).mono ?_
   (case side1 => exact Kd.R_V (Kd.R_tight rfl (Kd.R_types (Kd.R_types (HO_3.out) BK789.out (by decide)) BK790.out (by decide))))
   rintro e w16 ⟨v792, rfl, ho0, hb⟩
   refine ⟨_, rfl, ?_⟩
   have HO793 := Az (Kd.V_lower (Kd.V_mono (ok' := fun k_ => (w.heap.size ≤ k_) ∧ k_ ≠ gb789 ∧ k_ ≠ gb790) ho0 (fun k_ hk_ => ⟨Or.elim hk_ (fun hs_ => ((Kd.R_types (Kd.R_types (HO_3.out) BK789.out (by decide)) BK790.out (by decide)).1 k_ hs_.symm).1.1) (fun hn_ => (Nat.le_trans (below_size (bls HB)) hn_)), Or.elim hk_ (fun hs_ => ((Kd.R_types (Kd.R_types (HO_3.out) BK789.out (by decide)) BK790.out (by decide)).1 k_ hs_.symm).1.2) (fun hn_ => (Kd.freshB (g := gb789) (o := .cells #[.bool a0_0, .slice A0_1 l0_1.length c0_1] 24 (0, 0)) (bk BK789) k_ hn_)), Or.elim hk_ (fun hs_ => ((Kd.R_types (Kd.R_types (HO_3.out) BK789.out (by decide)) BK790.out (by decide)).1 k_ hs_.symm).2) (fun hn_ => (Kd.freshB (g := gb790) (o := .cells #[.bool false, .slice none 0 0] 45 (0, 0)) (bk BK790) k_ hn_))⟩)) (below_size (bls HB)))
   replace HO_3 := Az (Kd.R_below (rk HO_3) hb)
   replace BK789 := kb BK789 hb
   replace BK790 := kb BK790 hb
   replace HB := bs HB hb
   (try clear hb)
   (try clear ho0)
   obtain ⟨Ao17, co17, eo17⟩ := Kd.V_slice HO793.out
   (first | subst eo17 | (injection eo17 with f1_ f2_ f3_; have f4_ := f1_.symm; have f5_ := f3_.symm; clear f1_ f2_ f3_; subst f4_; subst f5_))
   refine hK.out _ _ hd (fun hHeld => ?_)
   clear hK K
   refine nm ?_
   refine pure_ (i := 4) (N := some 35) (v := ?_) (a' := ?_) (bm 6 31) rfl rfl (by kernel_rfl) (fun _ _ _ h => h) (Or.inl ⟨by rfl, ?_⟩) ?_ ?_
   rotate_left
   ·intro w'
    go_simp
    with_reducible rfl
   rotate_left
   ·simp only [Act.put, List.setIfInBounds_toArray, List.set_cons_zero, List.set_cons_succ, i64_w, i32_w]
    rfl
   refine one_ (i := 5) (N := none) (bm 6 63) rfl rfl (by kernel_rfl) (by decide) (fun K hK => ?_)
   have hs18 : w16.cell? ⟨gb790, 0, none⟩ = some (.bool false) := (blk_cell BK790.out 0).trans rfl
   have hfs18 := blk_frozen BK790.out 0
   have hns18_0 := NB789_790.out
   have hms18_0 := NB790_789.out
   have hs19 : w16.cell? ⟨gb790, 1, none⟩ = some (.slice none 0 0) := (blk_cell BK790.out 1).trans rfl
   have hfs19 := blk_frozen BK790.out 1
   have hns19_0 := NB789_790.out
   have hms19_0 := NB790_789.out
   refine skip_ (w1 := ?_) (by rfl) rfl ?_ ?_
   rotate_left
   ·go_simp
    rfl
   refine hK.out _ _ ⟨((cell_far (p := ⟨gb790, _, none⟩) NB789_790.out _).trans (((cell_far (p := ⟨gb790, _, none⟩) NB789_790.out _).trans (hHeld.1)))), ((cell_far (p := ⟨gb790, _, none⟩) NB789_790.out _).trans (((cell_far (p := ⟨gb790, _, none⟩) NB789_790.out _).trans (hHeld.2))))⟩ (fun hHeld => ?_)
   clear hK K
   refine done_ (by kernel_rfl) ?_
   try go_wp2
   refine bodyPost_ret (results_cell_row rfl _ _ gb790 45 #[.bool a0_0, .slice Ao17 t791.length co17] (0, 0) _ rfl (by refine blk_put (cs := #[.bool a0_0, .slice none 0 0]) ?_ 1 _ rfl; refine blk_put (cs := #[.bool false, .slice none 0 0]) ?_ 0 _ rfl; exact BK790.out) Tryz.underlying45 rfl (by kernel_rfl)) rfl ?_
   exact ⟨_, fe, vt (Kd.V_mono (Kd.V_far (p := ⟨gb790, 1, none⟩) (Kd.V_far (p := ⟨gb790, 0, none⟩) (Kd.V_mono HO793.out (fun k_ hk => (⟨hk, hk.2.2⟩ : _ ∧ k_ ≠ gb790))) (fun _ hk => hk.2) (.bool a0_0)) (fun _ hk => hk.2) (.slice Ao17 t791.length co17)) (fun _ hk => hk.1.1)), bls HB⟩
def r3_IsNaN.f (a0 : Int) : Option (Bool) := some (decide ((Go.bits .and .u64 a0 9223372036854775807) > 9218868437227405312))
theorem r3_IsNaN.calls (a0 : Int) (r : Bool) (w : World) (h : r3_IsNaN.f a0 = some r) :
  Calls Tryz.prog 16 #[.int .u64 a0] w fun e w' => e = .returned (.bool r) ∧ Drawn0 w w' := by
 have H := h
 unfold r3_IsNaN.f at H
 clear h
 obtain rfl := Option.some.inj H
 go_enter Tryz.func16, Tryz.ntmps16
 go_wp2
 go_ret
 exact ⟨by first | rfl | (simp; done) | (simp [*]; done), by repeat (first | exact Drawn0.refl _ | apply Drawn0.step)⟩
def r3_order.f (a0 a1 : Int) : Option (Int) := if a0 < a1 then (some (-1)) else (if a0 > a1 then (some 1) else (some 0))
theorem r3_order.calls (a0 a1 r : Int) (w : World) (h : r3_order.f a0 a1 = some r) :
  Calls Tryz.prog 82 #[.int .i64 a0, .int .i64 a1] w fun e w' => e = .returned (.int .i64 r) ∧ Drawn0 w w' := by
 have H := h
 unfold r3_order.f at H
 clear h
 by_cases c3 : a0 < a1
 ·rw [if_pos c3] at H
  have c3b0 := decide_eq_true c3
  clear c3
  obtain rfl := Option.some.inj H
  go_enter Tryz.func82, Tryz.ntmps82
  go_wp2
  go_ret
  exact ⟨by first | rfl | (simp; done) | (simp [*]; done), by repeat (first | exact Drawn0.refl _ | apply Drawn0.step)⟩
 ·rw [if_neg c3] at H
  have c3b0 := decide_eq_false c3
  clear c3
  by_cases c4 : a0 > a1
  ·rw [if_pos c4] at H
   have c4b0 : decide (a1 < a0) = true := decide_eq_true c4
   clear c4
   obtain rfl := Option.some.inj H
   go_enter Tryz.func82, Tryz.ntmps82
   go_wp2
   go_ret
   exact ⟨by first | rfl | (simp; done) | (simp [*]; done), by repeat (first | exact Drawn0.refl _ | apply Drawn0.step)⟩
  ·rw [if_neg c4] at H
   have c4b0 : decide (a1 < a0) = false := decide_eq_false c4
   clear c4
   obtain rfl := Option.some.inj H
   go_enter Tryz.func82, Tryz.ntmps82
   go_wp2
   go_ret
   exact ⟨by first | rfl | (simp; done) | (simp [*]; done), by repeat (first | exact Drawn0.refl _ | apply Drawn0.step)⟩
def r3_Below.f (a0 : Int) : Option (Bool) := some (decide (a0 ≥ 9223372036854775808))
theorem r3_Below.calls (a0 : Int) (r : Bool) (w : World) (h : r3_Below.f a0 = some r) :
  Calls Tryz.prog 85 #[.int .u64 a0] w fun e w' => e = .returned (.bool r) ∧ Drawn0 w w' := by
 have H := h
 unfold r3_Below.f at H
 clear h
 obtain rfl := Option.some.inj H
 go_enter Tryz.func85, Tryz.ntmps85
 go_wp2
 go_ret
 exact ⟨by first | rfl | (simp; done) | (simp [*]; done), by repeat (first | exact Drawn0.refl _ | apply Drawn0.step)⟩
def r3_place.f (a0 : Int) : Option (Int) := (r3_Below.f a0).bind fun t712 => (if t712 = true then (some (wrap64 (-(wrap64 (Go.bits .and .u64 a0 9223372036854775807))))) else (some (wrap64 (a0))))
theorem r3_place.calls (a0 r : Int) (w : World) (h : r3_place.f a0 = some r) :
  Calls Tryz.prog 83 #[.int .u64 a0] w fun e w' => e = .returned (.int .i64 r) ∧ Drawn0 w w' := by
 have H := h
 unfold r3_place.f at H
 clear h
 obtain ⟨t712, A2, H⟩ := bd H
 by_cases c3 : t712 = true
 ·subst c3
  rw [if_pos rfl] at H
  obtain rfl := Option.some.inj H
  go_enter Tryz.func83, Tryz.ntmps83
  go_wp2_with (first | (refine gl (some 4) Tryz.func85 #[.int .u64 a0] ?_; (with_reducible refine (r3_Below.calls a0 true _ A2.out).mono ?_); rintro e w' ⟨rfl, ⟨nd, rfl⟩⟩; refine ⟨_, rfl, ?_⟩))
  go_ret
  exact ⟨by first | rfl | (simp; done) | (simp [*]; done), by repeat (first | exact Drawn0.refl _ | apply Drawn0.step)⟩
 ·replace c3 := Bool.eq_false_iff.mpr c3
  subst c3
  rw [if_neg Bool.false_ne_true] at H
  obtain rfl := Option.some.inj H
  go_enter Tryz.func83, Tryz.ntmps83
  go_wp2_with (first | (refine gl (some 4) Tryz.func85 #[.int .u64 a0] ?_; (with_reducible refine (r3_Below.calls a0 false _ A2.out).mono ?_); rintro e w' ⟨rfl, ⟨nd, rfl⟩⟩; refine ⟨_, rfl, ?_⟩))
  go_ret
  exact ⟨by first | rfl | (simp; done) | (simp [*]; done), by repeat (first | exact Drawn0.refl _ | apply Drawn0.step)⟩
def r3_Cmp.j0 : Nat → Int → Int → Bool → Option (Int × Bool)
 | 0, _, _, _ => none
 | k + 1, x0, x1, x11 => if x11 = true then (some (0, false)) else ((r3_place.f x0).bind fun t715 => ((r3_place.f x1).bind fun t716 => ((r3_order.f t715 t716).bind fun t717 => (some (t717, true)))))
def r3_Cmp.f (k : Nat) (a0 a1 : Int) : Option (Int × Bool) := (r3_IsNaN.f a0).bind fun t713 => (if t713 = true then (r3_Cmp.j0 k a0 a1 true) else ((r3_IsNaN.f a1).bind fun t714 => (r3_Cmp.j0 k a0 a1 t714)))
theorem r3_Cmp.calls (k : Nat) (a0 a1 r1 : Int) (r2 : Bool) (w : World) (h : r3_Cmp.f k a0 a1 = some (r1, r2)) :
  Calls Tryz.prog 54 #[.int .u64 a0, .int .u64 a1] w fun e w' => e = .returned (.tuple #[.int .i64 r1, .bool r2]) ∧ Drawn0 w w' := by
 have H := h
 unfold r3_Cmp.f at H
 clear h
 have HC3 := Az H
 clear H
 go_enter Tryz.func54, Tryz.ntmps54
 go_upto_region 1 with (fail)
 go_cut [11] (fun v11 wc => ∃ (kq : Nat) (x11_2 : Bool), v11 = .bool x11_2 ∧ Aside0 (r3_Cmp.j0 kq a0 a1 x11_2 = some (r1, r2)) ∧ Aside0 (kq ≤ k) ∧ Drawn0 w wc)
 case first =>
  have H := HC3.out
  clear HC3
  obtain ⟨t713, A4, H⟩ := bd H
  by_cases c5 : t713 = true
  ·subst c5
   rw [if_pos rfl] at H
   have H' := Az H
   clear H
   go_wp2_with (first | (refine gl (some 7) Tryz.func16 #[.int .u64 a0] ?_; (with_reducible refine (r3_IsNaN.calls a0 true _ A4.out).mono ?_); rintro e w' ⟨rfl, ⟨nd, rfl⟩⟩; refine ⟨_, rfl, ?_⟩))
   go_meet
   case rel => exact ⟨_, (true), rs, H', ⟨le0⟩, by repeat (first | exact Drawn0.refl _ | apply Drawn0.step)⟩
  replace c5 := Bool.eq_false_iff.mpr c5
  subst c5
  rw [if_neg Bool.false_ne_true] at H
  obtain ⟨t714, A6, H⟩ := bd H
  have H' := Az H
  clear H
  go_wp2_with (first | (refine gl (some 7) Tryz.func16 #[.int .u64 a0] ?_; (with_reducible refine (r3_IsNaN.calls a0 false _ A4.out).mono ?_); rintro e w' ⟨rfl, ⟨nd, rfl⟩⟩; refine ⟨_, rfl, ?_⟩) | (go_at_call 16; (with_reducible refine (r3_IsNaN.calls a1 t714 _ A6.out).mono ?_); rintro e w' ⟨rfl, ⟨nd, rfl⟩⟩))
  go_meet
  case rel => exact ⟨_, (t714), rs, H', ⟨le0⟩, by repeat (first | exact Drawn0.refl _ | apply Drawn0.step)⟩
 case rest =>
  clear HC3
  obtain ⟨kq, x11_2, rfl, HA, HJ2, ⟨mc2, rfl⟩⟩ := hcut
  cases kq with
  | zero => exact absurd HA.out (by simp [r3_Cmp.j0])
  | succ kj2 =>
   have H := HA.out
   clear HA
   simp only [r3_Cmp.j0] at H
   by_cases c7 : x11_2 = true
   ·subst c7
    rw [if_pos rfl] at H
    simp only [Option.some.injEq, Prod.mk.injEq] at H
    obtain ⟨rfl, rfl⟩ := H
    go_wp2
    go_ret2
    exact ⟨by first | rfl | (simp; done) | (simp [*]; done), by repeat (first | exact Drawn0.refl _ | apply Drawn0.step)⟩
   replace c7 := Bool.eq_false_iff.mpr c7
   subst c7
   rw [if_neg Bool.false_ne_true] at H
   obtain ⟨t715, A8, H⟩ := bd H
   obtain ⟨t716, A9, H⟩ := bd H
   obtain ⟨t717, A10, H⟩ := bd H
   simp only [Option.some.injEq, Prod.mk.injEq] at H
   obtain ⟨rfl, rfl⟩ := H
   go_wp2_with (first | (refine gl (some 13) Tryz.func83 #[.int .u64 a0] ?_; (with_reducible refine (r3_place.calls a0 t715 _ A8.out).mono ?_); rintro e w' ⟨rfl, ⟨nd, rfl⟩⟩; refine ⟨_, rfl, ?_⟩) | (refine gl (some 15) Tryz.func83 #[.int .u64 a1] ?_; (with_reducible refine (r3_place.calls a1 t716 _ A9.out).mono ?_); rintro e w' ⟨rfl, ⟨nd, rfl⟩⟩; refine ⟨_, rfl, ?_⟩) | (refine gl (some 16) Tryz.func82 #[.int .i64 t715, .int .i64 t716] ?_; (with_reducible refine (r3_order.calls t715 t716 t717 _ A10.out).mono ?_); rintro e w' ⟨rfl, ⟨nd, rfl⟩⟩; refine ⟨_, rfl, ?_⟩))
   go_ret2
   exact ⟨by first | rfl | (simp; done) | (simp [*]; done), by repeat (first | exact Drawn0.refl _ | apply Drawn0.step)⟩
def r3_IsInf.f (a0 : Int) : Option (Bool) := some ((Go.bits .and .u64 a0 9223372036854775807) == 9218868437227405312)
theorem r3_IsInf.calls (a0 : Int) (r : Bool) (w : World) (h : r3_IsInf.f a0 = some r) :
  Calls Tryz.prog 84 #[.int .u64 a0] w fun e w' => e = .returned (.bool r) ∧ Drawn0 w w' := by
 have H := h
 unfold r3_IsInf.f at H
 clear h
 obtain rfl := Option.some.inj H
 go_enter Tryz.func84, Tryz.ntmps84
 go_wp2
 go_ret
 exact ⟨by first | rfl | (simp; done) | (simp [*]; done), by repeat (first | exact Drawn0.refl _ | apply Drawn0.step)⟩
def r3_parts.f (a0 : Int) : Option (Int × Int) := if (wrap64 (Go.bits .and .u64 (a0 / 4503599627370496) 2047)) = 0 then (some (Go.bits .and .u64 a0 4503599627370495, (-1074))) else (some (IntKind.u64.wrap ((Go.bits .and .u64 a0 4503599627370495) + 4503599627370496), wrap64 ((wrap64 (Go.bits .and .u64 (a0 / 4503599627370496) 2047)) - 1075)))
theorem r3_parts.calls (a0 r1 r2 : Int) (w : World) (h : r3_parts.f a0 = some (r1, r2)) :
  Calls Tryz.prog 119 #[.int .u64 a0] w fun e w' => e = .returned (.tuple #[.int .u64 r1, .int .i64 r2]) ∧ Drawn0 w w' := by
 have H := h
 unfold r3_parts.f at H
 clear h
 by_cases c2 : (wrap64 (Go.bits .and .u64 (a0 / 4503599627370496) 2047)) = 0
 ·rw [if_pos c2] at H
  have c2b0 := beq_iff_eq.mpr c2
  have c2b1 := bne_eq_false_iff_eq.mpr c2
  clear c2
  simp only [Option.some.injEq, Prod.mk.injEq] at H
  obtain ⟨rfl, rfl⟩ := H
  go_enter Tryz.func119, Tryz.ntmps119
  go_wp2
  go_ret2
  exact ⟨by first | rfl | (simp; done) | (simp [*]; done), by repeat (first | exact Drawn0.refl _ | apply Drawn0.step)⟩
 ·rw [if_neg c2] at H
  have c2b0 := beq_eq_false_iff_ne.mpr c2
  have c2b1 := bne_iff_ne.mpr c2
  simp only [Option.some.injEq, Prod.mk.injEq] at H
  obtain ⟨rfl, rfl⟩ := H
  go_enter Tryz.func119, Tryz.ntmps119
  go_wp2
  go_ret2
  exact ⟨by first | rfl | (simp; done) | (simp [*]; done), by repeat (first | exact Drawn0.refl _ | apply Drawn0.step)⟩
mutual
def r3_Cut.j1 : Nat → Int → Int → Int → Bool → Option (Bool × List Int × Bool)
 | 0, _, _, _, _ => none
 | k + 1, x0, x4, x5, x6 => (r2_Int.f k (wrap64 (x4))).bind fun bt778 => (r3_Cut.l1 k x0 x4 x5 x6 bt778.1 bt778.2)
def r3_Cut.l1 : Nat → Int → Int → Int → Bool → Bool → List Int → Option (Bool × List Int × Bool)
 | 0, _, _, _, _, _, _ => none
 | k + 1, x0, x4, x5, x6, x783000, x783001 => if x5 > 0 then (if x4 > 0 then ((r2_Plus.f k x783000 x783001 x783000 x783001).bind fun bt783 => (r3_Cut.l1 k x0 x4 (wrap64 (x5 - 1)) x6 bt783.1 bt783.2)) else ((r3_Below.f x0).bind fun t787 => (if t787 = true then (some (decide (0 < x783001.length), x783001, x6)) else (some (false, x783001, x6))))) else ((r3_Below.f x0).bind fun t788 => (if t788 = true then (some (decide (0 < x783001.length), x783001, x6)) else (some (false, x783001, x6))))
def r3_Cut.l0 : Nat → Int → Int → Int → Bool → Option (Bool × List Int × Bool)
 | 0, _, _, _, _ => none
 | k + 1, x0, x4, x5, x6 => if x5 < 0 then (if x4 > 0 then (if x6 = true then (r3_Cut.l0 k x0 (IntKind.u64.wrap (Int.tdiv x4 2)) (wrap64 (x5 + 1)) true) else (r3_Cut.l0 k x0 (IntKind.u64.wrap (Int.tdiv x4 2)) (wrap64 (x5 + 1)) ((Int.tmod x4 2) == 1))) else (r3_Cut.j1 k x0 x4 x5 x6)) else (r3_Cut.j1 k x0 x4 x5 x6)
end
def r3_Cut.f (k : Nat) (a0 : Int) : Option (Bool × List Int × Bool) := (r3_parts.f a0).bind fun bt776 => (r3_Cut.l0 k a0 bt776.1 bt776.2 false)
theorem r3_Cut.calls (k : Nat) (a0 : Int) (r1 : Bool) (r2 : List Int) (r3 : Bool) (w : World) (h : r3_Cut.f k a0 = some (r1, r2, r3)) :
  Calls Tryz.prog 86 #[.int .u64 a0] w fun e w' => ∃ v1_ : Value, e = .returned (.tuple #[.agg #[.bool r1, v1_], .bool r3]) ∧ Kd.V (Kd.int .u8) 5 w' w.heap.size (fun k_ => (w.heap.size ≤ k_)) v1_ r2 ∧ Below w.heap.size w w' := by
 have hu45 := Tryz.underlying45
 have HB := Az (Below.refl w.heap.size w)
 have H := h
 unfold r3_Cut.f at H
 clear h
 obtain ⟨⟨t776, t777⟩, A2, H⟩ := bd H
 (try dsimp only at H)
 have HC3 := Az H
 clear H
 go_enter Tryz.func86, Tryz.ntmps86
 go_upto_block 0 with (first | ((try (refine gate_guard (by rfl) ?_; dsimp only)); refine be 2 #[.bool false, .slice none 0 0] 45 ?_; intro gb775 hg w4 hbox hb; have BK775 := Az (hbox); have GW775 := gw (bl HB) hg; have GE775 := gw (bl HB) hg; replace HB := bs HB hb; clear hb hbox hg) | (refine gl (some 10) Tryz.func119 #[.int .u64 a0] ?_; (with_reducible refine (r3_parts.calls a0 t776 t777 _ A2.out).mono ?_); rintro e w' ⟨rfl, ⟨nd, rfl⟩⟩; refine ⟨_, rfl, ?_⟩))
 (try simp only [Act.put, List.setIfInBounds_toArray, List.set_cons_zero, List.set_cons_succ])
 go_cut [4, 5, 6] (fun v4 v5 v6 wc => ∃ (kq : Nat) (x4_2 : Int) (x5_2 : Int) (x6_2 : Bool), v4 = .int .u64 x4_2 ∧ v5 = .int .i64 x5_2 ∧ v6 = .bool x6_2 ∧ Aside0 (r3_Cut.j1 kq a0 x4_2 x5_2 x6_2 = some (r1, r2, r3)) ∧ Aside0 (kq ≤ k) ∧ Aside0 (wc.heap[gb775]? = some (.cells #[.bool false, (.slice none 0 0)] 45 (0, 0))) ∧ Aside0 (Below w.heap.size w wc))
 case first =>
  have H := HC3.out
  clear HC3
  have H' := Az H
  clear H
  go_wp2
  go_loopg [4, 5, 6] k (fun kq v4 v5 v6 w' => ∃ (x4_1 : Int) (x5_1 : Int) (x6_1 : Bool), v4 = .int .u64 x4_1 ∧ v5 = .int .i64 x5_1 ∧ v6 = .bool x6_1 ∧ Aside0 (r3_Cut.l0 kq a0 x4_1 x5_1 x6_1 = some (r1, r2, r3)) ∧ Aside0 (kq ≤ k) ∧ Aside0 (w'.heap[gb775]? = some (.cells #[.bool false, (.slice none 0 0)] 45 (0, 0))) ∧ Aside0 (Below w.heap.size w w'))
  case atStart => exact ⟨(t776), (t777), (false), rs, rs, rs, H', ⟨Nat.le_refl _⟩, ⟨bk BK775⟩, ⟨bls HB⟩⟩
  case round =>
   clear H'
   obtain ⟨x4_1, x5_1, x6_1, rfl, rfl, rfl, HA, HK1, BK775, HB⟩ := hrel
   cases gk with
   | zero => exact absurd HA.out (by simp [r3_Cut.l0])
   | succ k1 =>
    have H := HA.out
    clear HA
    simp only [r3_Cut.l0] at H
    by_cases c5 : x5_1 < 0
    case neg =>
     rw [if_neg c5] at H
     have c5b0 := decide_eq_false c5
     clear c5
     (first | rw [c5b0] | (simp only [i64_w, i32_w]; rw [c5b0]) | skip)
     have H' := Az H
     clear H
     go_wp2
     go_meet
     case rel => exact ⟨_, (x4_1), (x5_1), (x6_1), rs, rs, rs, H', ⟨le1 HK1⟩, ⟨bk BK775⟩, ⟨bls HB⟩⟩
    rw [if_pos c5] at H
    have c5b0 := decide_eq_true c5
    clear c5
    (first | rw [c5b0] | (simp only [i64_w, i32_w]; rw [c5b0]) | skip)
    by_cases c6 : x4_1 > 0
    case neg =>
     rw [if_neg c6] at H
     have c6b0 : decide (0 < x4_1) = false := decide_eq_false c6
     clear c6
     have H' := Az H
     clear H
     go_wp2
     go_meet
     case rel => exact ⟨_, (x4_1), (x5_1), (x6_1), rs, rs, rs, H', ⟨le1 HK1⟩, ⟨bk BK775⟩, ⟨bls HB⟩⟩
    rw [if_pos c6] at H
    have c6b0 : decide (0 < x4_1) = true := decide_eq_true c6
    clear c6
    by_cases c7 : x6_1 = true
    ·subst c7
     rw [if_pos rfl] at H
     have H' := Az H
     clear H
     go_wp2
     go_roundg k1
     case measure => have := HK1.out; omega
     case rel => exact ⟨(IntKind.u64.wrap (Int.tdiv x4_1 2)), (wrap64 (x5_1 + 1)), (true), rs, rs, rs, H', ⟨by have := HK1.out; omega⟩, ⟨bk BK775⟩, ⟨bls HB⟩⟩
    replace c7 := Bool.eq_false_iff.mpr c7
    subst c7
    rw [if_neg Bool.false_ne_true] at H
    have H' := Az H
    clear H
    go_wp2
    go_roundg k1
    case measure => have := HK1.out; omega
    case rel => exact ⟨(IntKind.u64.wrap (Int.tdiv x4_1 2)), (wrap64 (x5_1 + 1)), (((Int.tmod x4_1 2) == 1)), rs, rs, rs, H', ⟨by have := HK1.out; omega⟩, ⟨bk BK775⟩, ⟨bls HB⟩⟩
 case rest =>
  clear HC3
  obtain ⟨kq, x4_2, x5_2, x6_2, rfl, rfl, rfl, HA, HJ2, BK775, HB⟩ := hcut
  cases kq with
  | zero => exact absurd HA.out (by simp [r3_Cut.j1])
  | succ kj2 =>
   have H := HA.out
   clear HA
   simp only [r3_Cut.j1] at H
   obtain ⟨⟨t778, t779⟩, A8, H⟩ := bd H
   (try dsimp only at H)
   have H' := Az H
   clear H
   go_wp2_with (first | (refine gl (some 31) Tryz.func20 #[.int .i64 (wrap64 (x4_2))] ?_; (with_reducible refine (r2_Int.calls kj2 (wrap64 (x4_2)) t778 t779 _ A8.out).mono ?_); rintro e w9 ⟨v780, rfl, ho0, hb⟩; refine ⟨_, rfl, ?_⟩; have HO781 := Az (Kd.R_lower (Kd.R_newM (M := fun k_ => (w.heap.size ≤ k_)) ho0 (below_size (bls HB)) (fun k_ h_ => h_)) (below_size (bls HB))); replace BK775 := kb BK775 hb; replace HB := bs HB hb) | ((try (refine gate_guard (by rfl) ?_; dsimp only)); refine be 7 #[.bool false, .slice none 0 0] 45 ?_; intro gb782 hg w10 hbox hb; replace HO781 := Az (Kd.R_below (rk HO781) hb); have BK782 := Az (hbox); have GW782 := gw (bls HB) hg; have GE782 := gw (bls HB) hg; replace HB := bs HB hb; have NB775_782 := nl BK775 hg; have NB782_775 := ng BK775 hg; replace BK775 := kb BK775 hb; clear hb hbox hg; have hnb11 := NB782_775.out; have hnc11 := NB775_782.out; have hz12_1 := bz BK782; obtain ⟨Ao13, co13, eo13⟩ := Kd.R_slice HO781.out; subst eo13))
   go_loopg [5] kj2 (fun kq v5 w' => ∃ (x5_2 : Int) (x783000_2 : Bool) (x783001_2 : List Int) (u783001 : Value), v5 = .int .i64 x5_2 ∧ Aside0 (r3_Cut.l1 kq a0 x4_2 x5_2 x6_2 x783000_2 x783001_2 = some (r1, r2, r3)) ∧ Aside0 (kq ≤ kj2) ∧ Aside0 (Kd.V (Kd.int .u8) 5 w' w.heap.size (fun k_ => (w.heap.size ≤ k_) ∧ k_ ≠ gb775 ∧ k_ ≠ gb782) u783001 x783001_2) ∧ Aside0 (w'.heap[gb775]? = some (.cells #[.bool false, (.slice none 0 0)] 45 (0, 0))) ∧ Aside0 (w'.heap[gb782]? = some (.cells #[.bool x783000_2, u783001] 45 (0, 0))) ∧ Aside0 (Below w.heap.size w w'))
   case atStart => exact ⟨(x5_2), (t778), (t779), (.slice Ao13 t779.length co13), rs, H', ⟨Nat.le_refl _⟩, ⟨Kd.R_V (rt (Kd.R_mono (Kd.R_far (p := ⟨gb782, 1, none⟩) (Kd.R_far (p := ⟨gb782, 0, none⟩) (Kd.R_types (Kd.R_types (Kd.R_types HO781.out BK775.out (by decide)) BK782.out (by decide)) BK782.out (by decide)) (fun _ hk => hk.2) (.bool t778)) (fun _ hk => hk.2) (.slice Ao13 t779.length co13)) (fun _ hk => ⟨hk.1.1.1.1, ⟨hk.1.1.2, hk.1.2⟩⟩)))⟩, ⟨by refine blk_far ?_ NB775_782.out _; refine blk_far ?_ NB775_782.out _; exact BK775.out⟩, ⟨by refine blk_put (cs := #[.bool t778, .slice none 0 0]) ?_ 1 _ rfl; refine blk_put (cs := #[.bool false, .slice none 0 0]) ?_ 0 _ rfl; exact BK782.out⟩, ⟨bls HB⟩⟩
   case round =>
    clear H'
    obtain ⟨x5_2, x783000_2, x783001_2, u783001, rfl, HA, HK2, HO_783001, BK775, BK782, HB⟩ := hrel
    cases gk with
    | zero => exact absurd HA.out (by simp [r3_Cut.l1])
    | succ k2 =>
     have H := HA.out
     clear HA
     simp only [r3_Cut.l1] at H
     by_cases c14 : x5_2 > 0
     case neg =>
      rw [if_neg c14] at H
      have c14b0 : decide (0 < x5_2) = false := decide_eq_false c14
      clear c14
      obtain ⟨t788, A33, H⟩ := bd H
      by_cases c34 : t788 = true
      ·subst c34
       rw [if_pos rfl] at H
       simp only [Option.some.injEq, Prod.mk.injEq] at H
       obtain ⟨rfl, rfl, rfl⟩ := H
       go_wp2_with (first | (refine gl (some 44) Tryz.func85 #[.int .u64 a0] ?_; (with_reducible refine (r3_Below.calls a0 true _ A33.out).mono ?_); rintro e wr ⟨rfl, hb⟩; replace hb := dr hb; refine ⟨_, rfl, ?_⟩; replace HO_783001 := Az (Kd.V_below (vk HO_783001) hb); replace BK775 := kb BK775 hb; replace BK782 := kb BK782 hb; replace HB := bs HB hb; clear hb; have hz775_ := bz BK775; have hz782_ := bz BK782; have hnb35 := NB782_775.out; have hnc35 := NB775_782.out; have hz36_1 := bz BK782; obtain ⟨Ao37, co37, eo37⟩ := Kd.V_slice HO_783001.out; subst eo37; have hz38_1 := bz BK775))
       refine bodyPost_ret (results_ct rfl _ _ gb775 45 #[.bool (decide (0 < x783001_2.length)), .slice Ao37 x783001_2.length co37] (0, 0) _ rfl (by refine blk_put (cs := #[.bool (decide (0 < x783001_2.length)), .slice none 0 0]) ?_ 1 _ rfl; refine blk_put (cs := #[.bool false, .slice none 0 0]) ?_ 0 _ rfl; refine blk_far ?_ NB775_782.out _; exact BK775.out) Tryz.underlying45 rfl (by kernel_rfl)) rfl ?_
       exact ⟨_, fe, vt (Kd.V_mono (Kd.V_far (p := ⟨gb775, 1, none⟩) (Kd.V_far (p := ⟨gb775, 0, none⟩) (Kd.V_far (p := ⟨gb782, 0, none⟩) (Kd.V_mono (Kd.V_mono HO_783001.out (fun k_ hk => (⟨hk, hk.2.2⟩ : _ ∧ k_ ≠ gb782))) (fun k_ hk => (⟨hk, hk.1.2.1⟩ : _ ∧ k_ ≠ gb775))) (fun _ hk => hk.1.2) (.bool (decide (0 < x783001_2.length)))) (fun _ hk => hk.2) (.bool (decide (0 < x783001_2.length)))) (fun _ hk => hk.2) (.slice Ao37 x783001_2.length co37)) (fun _ hk => hk.1.1.1)), bls HB⟩
      replace c34 := Bool.eq_false_iff.mpr c34
      subst c34
      rw [if_neg Bool.false_ne_true] at H
      simp only [Option.some.injEq, Prod.mk.injEq] at H
      obtain ⟨rfl, rfl, rfl⟩ := H
      go_wp2_with (first | (refine gl (some 44) Tryz.func85 #[.int .u64 a0] ?_; (with_reducible refine (r3_Below.calls a0 false _ A33.out).mono ?_); rintro e wr ⟨rfl, hb⟩; replace hb := dr hb; refine ⟨_, rfl, ?_⟩; replace HO_783001 := Az (Kd.V_below (vk HO_783001) hb); replace BK775 := kb BK775 hb; replace BK782 := kb BK782 hb; replace HB := bs HB hb; clear hb; have hz775_ := bz BK775; have hz782_ := bz BK782; have hnb39 := NB782_775.out; have hnc39 := NB775_782.out; have hz40_1 := bz BK782; have hz41_2 := bz BK775; obtain ⟨Ao42, co42, eo42⟩ := Kd.V_slice HO_783001.out; subst eo42))
      refine bodyPost_ret (results_ct rfl _ _ gb775 45 #[.bool false, .slice Ao42 x783001_2.length co42] (0, 0) _ rfl (by refine blk_put (cs := #[.bool false, .slice none 0 0]) ?_ 1 _ rfl; refine blk_put (cs := #[.bool false, .slice none 0 0]) ?_ 0 _ rfl; refine blk_far ?_ NB775_782.out _; exact BK775.out) Tryz.underlying45 rfl (by kernel_rfl)) rfl ?_
      exact ⟨_, fe, vt (Kd.V_mono (Kd.V_far (p := ⟨gb775, 1, none⟩) (Kd.V_far (p := ⟨gb775, 0, none⟩) (Kd.V_far (p := ⟨gb782, 0, none⟩) (Kd.V_mono (Kd.V_mono HO_783001.out (fun k_ hk => (⟨hk, hk.2.2⟩ : _ ∧ k_ ≠ gb782))) (fun k_ hk => (⟨hk, hk.1.2.1⟩ : _ ∧ k_ ≠ gb775))) (fun _ hk => hk.1.2) (.bool false)) (fun _ hk => hk.2) (.bool false)) (fun _ hk => hk.2) (.slice Ao42 x783001_2.length co42)) (fun _ hk => hk.1.1.1)), bls HB⟩
     rw [if_pos c14] at H
     have c14b0 : decide (0 < x5_2) = true := decide_eq_true c14
     clear c14
     by_cases c15 : x4_2 > 0
     ·rw [if_pos c15] at H
      have c15b0 : decide (0 < x4_2) = true := decide_eq_true c15
      clear c15
      obtain ⟨⟨t783, t784⟩, A16, H⟩ := bd H
      (try dsimp only at H)
      have H' := Az H
      clear H
      have hnb17 := NB782_775.out
      have hnc17 := NB775_782.out
      have hz18_1 := bz BK782
      obtain ⟨Ao19, co19, eo19⟩ := Kd.V_slice HO_783001.out
      subst eo19
      go_wp2_with (first | (refine gl (some 42) Tryz.func120 #[.agg #[.bool x783000_2, .slice Ao19 x783001_2.length co19], .agg #[.bool x783000_2, .slice Ao19 x783001_2.length co19]] ?_; (with_reducible refine (r2_Plus.calls k2 x783000_2 _ _ x783001_2 x783000_2 _ _ x783001_2 t783 t784 _ ?side1 (Kd.V_reads' HO_783001.out).2.1 ?side3 (Kd.V_reads' HO_783001.out).2.1 A16.out).mono ?_); (case side1 => exact (Kd.V_reads' HO_783001.out).2.2); (case side3 => exact (Kd.V_reads' HO_783001.out).2.2); rintro e w20 ⟨v785, rfl, ho0, hb⟩; refine ⟨_, rfl, ?_⟩; replace HO_783001 := Az (Kd.V_below (vk HO_783001) hb); have HO786 := Az (Kd.V_lower (Kd.V_mono (ok' := fun k_ => (w.heap.size ≤ k_) ∧ k_ ≠ gb775 ∧ k_ ≠ gb782) ho0 (fun k_ hk_ => ⟨(Nat.le_trans (below_size (bls HB)) hk_), (Kd.freshB (g := gb775) (o := .cells #[.bool false, .slice none 0 0] 45 (0, 0)) (bk BK775) k_ hk_), (Kd.freshB (g := gb782) (o := .cells #[.bool x783000_2, .slice Ao19 x783001_2.length co19] 45 (0, 0)) (bk BK782) k_ hk_)⟩)) (below_size (bls HB))); replace BK775 := kb BK775 hb; replace BK782 := kb BK782 hb; replace HB := bs HB hb; have hz21_1 := bz BK782; obtain ⟨Ao22, co22, eo22⟩ := Kd.V_slice HO786.out; subst eo22))
      go_roundg k2
      case measure => have := HJ2.out; have := HK2.out; omega
      case rel => exact ⟨(wrap64 (x5_2 - 1)), (t783), (t784), (.slice Ao22 t784.length co22), rs, H', ⟨by have := HJ2.out; have := HK2.out; omega⟩, ⟨vt (Kd.V_mono (Kd.V_far (p := ⟨gb782, 1, none⟩) (Kd.V_far (p := ⟨gb782, 0, none⟩) (Kd.V_mono HO786.out (fun k_ hk => (⟨hk, hk.2.2⟩ : _ ∧ k_ ≠ gb782))) (fun _ hk => hk.2) (.bool t783)) (fun _ hk => hk.2) (.slice Ao22 t784.length co22)) (fun _ hk => ⟨hk.1.1, ⟨hk.1.2.1, hk.1.2.2⟩⟩))⟩, ⟨by refine blk_far ?_ NB775_782.out _; refine blk_far ?_ NB775_782.out _; exact BK775.out⟩, ⟨by refine blk_put (cs := #[.bool t783, .slice Ao19 x783001_2.length co19]) ?_ 1 _ rfl; refine blk_put (cs := #[.bool x783000_2, .slice Ao19 x783001_2.length co19]) ?_ 0 _ rfl; exact BK782.out⟩, ⟨bls HB⟩⟩
     rw [if_neg c15] at H
     have c15b0 : decide (0 < x4_2) = false := decide_eq_false c15
     clear c15
     obtain ⟨t787, A23, H⟩ := bd H
     by_cases c24 : t787 = true
     ·subst c24
      rw [if_pos rfl] at H
      simp only [Option.some.injEq, Prod.mk.injEq] at H
      obtain ⟨rfl, rfl, rfl⟩ := H
      go_wp2_with (first | (refine gl (some 44) Tryz.func85 #[.int .u64 a0] ?_; (with_reducible refine (r3_Below.calls a0 true _ A23.out).mono ?_); rintro e wr ⟨rfl, hb⟩; replace hb := dr hb; refine ⟨_, rfl, ?_⟩; replace HO_783001 := Az (Kd.V_below (vk HO_783001) hb); replace BK775 := kb BK775 hb; replace BK782 := kb BK782 hb; replace HB := bs HB hb; clear hb; have hz775_ := bz BK775; have hz782_ := bz BK782; have hnb25 := NB782_775.out; have hnc25 := NB775_782.out; have hz26_1 := bz BK782; obtain ⟨Ao27, co27, eo27⟩ := Kd.V_slice HO_783001.out; subst eo27; have hz28_1 := bz BK775))
      refine bodyPost_ret (results_ct rfl _ _ gb775 45 #[.bool (decide (0 < x783001_2.length)), .slice Ao27 x783001_2.length co27] (0, 0) _ rfl (by refine blk_put (cs := #[.bool (decide (0 < x783001_2.length)), .slice none 0 0]) ?_ 1 _ rfl; refine blk_put (cs := #[.bool false, .slice none 0 0]) ?_ 0 _ rfl; refine blk_far ?_ NB775_782.out _; exact BK775.out) Tryz.underlying45 rfl (by kernel_rfl)) rfl ?_
      exact ⟨_, fe, vt (Kd.V_mono (Kd.V_far (p := ⟨gb775, 1, none⟩) (Kd.V_far (p := ⟨gb775, 0, none⟩) (Kd.V_far (p := ⟨gb782, 0, none⟩) (Kd.V_mono (Kd.V_mono HO_783001.out (fun k_ hk => (⟨hk, hk.2.2⟩ : _ ∧ k_ ≠ gb782))) (fun k_ hk => (⟨hk, hk.1.2.1⟩ : _ ∧ k_ ≠ gb775))) (fun _ hk => hk.1.2) (.bool (decide (0 < x783001_2.length)))) (fun _ hk => hk.2) (.bool (decide (0 < x783001_2.length)))) (fun _ hk => hk.2) (.slice Ao27 x783001_2.length co27)) (fun _ hk => hk.1.1.1)), bls HB⟩
     replace c24 := Bool.eq_false_iff.mpr c24
     subst c24
     rw [if_neg Bool.false_ne_true] at H
     simp only [Option.some.injEq, Prod.mk.injEq] at H
     obtain ⟨rfl, rfl, rfl⟩ := H
     go_wp2_with (first | (refine gl (some 44) Tryz.func85 #[.int .u64 a0] ?_; (with_reducible refine (r3_Below.calls a0 false _ A23.out).mono ?_); rintro e wr ⟨rfl, hb⟩; replace hb := dr hb; refine ⟨_, rfl, ?_⟩; replace HO_783001 := Az (Kd.V_below (vk HO_783001) hb); replace BK775 := kb BK775 hb; replace BK782 := kb BK782 hb; replace HB := bs HB hb; clear hb; have hz775_ := bz BK775; have hz782_ := bz BK782; have hnb29 := NB782_775.out; have hnc29 := NB775_782.out; have hz30_1 := bz BK782; have hz31_2 := bz BK775; obtain ⟨Ao32, co32, eo32⟩ := Kd.V_slice HO_783001.out; subst eo32))
     refine bodyPost_ret (results_ct rfl _ _ gb775 45 #[.bool false, .slice Ao32 x783001_2.length co32] (0, 0) _ rfl (by refine blk_put (cs := #[.bool false, .slice none 0 0]) ?_ 1 _ rfl; refine blk_put (cs := #[.bool false, .slice none 0 0]) ?_ 0 _ rfl; refine blk_far ?_ NB775_782.out _; exact BK775.out) Tryz.underlying45 rfl (by kernel_rfl)) rfl ?_
     exact ⟨_, fe, vt (Kd.V_mono (Kd.V_far (p := ⟨gb775, 1, none⟩) (Kd.V_far (p := ⟨gb775, 0, none⟩) (Kd.V_far (p := ⟨gb782, 0, none⟩) (Kd.V_mono (Kd.V_mono HO_783001.out (fun k_ hk => (⟨hk, hk.2.2⟩ : _ ∧ k_ ≠ gb782))) (fun k_ hk => (⟨hk, hk.1.2.1⟩ : _ ∧ k_ ≠ gb775))) (fun _ hk => hk.1.2) (.bool false)) (fun _ hk => hk.2) (.bool false)) (fun _ hk => hk.2) (.slice Ao32 x783001_2.length co32)) (fun _ hk => hk.1.1.1)), bls HB⟩
mutual
def r3_CmpBig.j0 : Nat → Int → Bool → Bool → List Int → Option (Int × Bool)
 | 0, _, _, _, _ => none
 | k + 1, x0, x15, x799000, x799001 => if x15 = true then (some (0, false)) else ((r3_IsInf.f x0).bind fun t801 => (if t801 = true then ((r3_Below.f x0).bind fun t802 => (if t802 = true then (some ((-1), true)) else (some (1, true)))) else ((r3_Cut.f k x0).bind fun bt803 => ((r2_Of.f k x799000 x799001).bind fun bt809 => ((r2_Cmp.f k bt803.1 bt803.2.1 bt809.1 bt809.2).bind fun t813 => (if t813 = 0 then (r3_CmpBig.j1 k x0 t813 bt803.2.2) else (r3_CmpBig.j1 k x0 t813 false)))))))
def r3_CmpBig.j1 : Nat → Int → Int → Bool → Option (Int × Bool)
 | 0, _, _, _ => none
 | k + 1, x0, x8, x33 => if x33 = true then ((r3_Below.f x0).bind fun t814 => (if t814 = true then (some ((-1), true)) else (some (1, true)))) else (some (x8, true))
end
def r3_CmpBig.f (k : Nat) (a0 : Int) (a1_0 : Bool) (l1_1 : List Int) : Option (Int × Bool) := (r3_IsNaN.f a0).bind fun t799 => (if t799 = true then (r3_CmpBig.j0 k a0 true a1_0 l1_1) else ((r2_Good.f k a1_0 l1_1).bind fun t800 => (r3_CmpBig.j0 k a0 (!t800) a1_0 l1_1)))
theorem r3_CmpBig.calls (k : Nat) (a0 : Int) (a1_0 : Bool) (A1_1 : Option Addr) (c1_1 : Nat) (l1_1 : List Int) (r1 : Int) (r2 : Bool) (w : World) (hr1_1 : Kd.C (Kd.int .u64) w A1_1 l1_1.length l1_1) (hc1_1 : l1_1.length ≤ c1_1) (h : r3_CmpBig.f k a0 a1_0 l1_1 = some (r1, r2)) :
  Calls Tryz.prog 55 #[.int .u64 a0, .agg #[.bool a1_0, .slice A1_1 l1_1.length c1_1]] w fun e w' => e = .returned (.tuple #[.int .i64 r1, .bool r2]) ∧ Below w.heap.size w w' := by
 have hu24 := Tryz.underlying24
 have hu45 := Tryz.underlying45
 have HR1_1 := Az hr1_1
 have HC1_1 := Az hc1_1
 clear hr1_1 hc1_1
 have HB := Az (Below.refl w.heap.size w)
 have H := h
 unfold r3_CmpBig.f at H
 clear h
 have HC3 := Az H
 clear H
 go_enter Tryz.func55, Tryz.ntmps55
 go_upto_region 1 with (first | (refine be 3 #[.bool a1_0, .slice A1_1 l1_1.length c1_1] 24 ?_; intro gb798 hg w4 hbox hb; have BK798 := Az (hbox); have GW798 := gw (bl HB) hg; have GE798 := gw (bl HB) hg; replace HB := bs HB hb; clear hb hbox hg))
 (try simp only [Act.put, List.setIfInBounds_toArray, List.set_cons_zero, List.set_cons_succ])
 go_cut [15] (fun v15 wc => ∃ (kq : Nat) (x15_2 : Bool), v15 = .bool x15_2 ∧ Aside0 (r3_CmpBig.j0 kq a0 x15_2 a1_0 l1_1 = some (r1, r2)) ∧ Aside0 (kq ≤ k) ∧ Aside0 (wc.heap[gb798]? = some (.cells #[.bool a1_0, (.slice A1_1 l1_1.length c1_1)] 24 (0, 0))) ∧ Aside0 (Below w.heap.size w wc))
 case first =>
  have H := HC3.out
  clear HC3
  obtain ⟨t799, A5, H⟩ := bd H
  by_cases c6 : t799 = true
  ·subst c6
   rw [if_pos rfl] at H
   have H' := Az H
   clear H
   go_wp2_with (first | (refine gl (some 10) Tryz.func16 #[.int .u64 a0] ?_; (with_reducible refine (r3_IsNaN.calls a0 true _ A5.out).mono ?_); rintro e w' ⟨rfl, ⟨nd, rfl⟩⟩; refine ⟨_, rfl, ?_⟩))
   go_meet
   case rel => exact ⟨_, (true), rs, H', ⟨le0⟩, ⟨bk BK798⟩, ⟨bls HB⟩⟩
  replace c6 := Bool.eq_false_iff.mpr c6
  subst c6
  rw [if_neg Bool.false_ne_true] at H
  obtain ⟨t800, A7, H⟩ := bd H
  have H' := Az H
  clear H
  go_wp2_with (first | (refine gl (some 10) Tryz.func16 #[.int .u64 a0] ?_; (with_reducible refine (r3_IsNaN.calls a0 false _ A5.out).mono ?_); rintro e w' ⟨rfl, ⟨nd, rfl⟩⟩; refine ⟨_, rfl, ?_⟩; have hz8_1 := bz BK798) | (go_at_call 38; (with_reducible refine (r2_Good.calls k a1_0 _ _ l1_1 t800 _ ?side1 HC1_1.out A7.out).mono ?_); (case side1 => exact (Kd.C_below HR1_1.out (bls HB))); rintro e w9 ⟨rfl, hb⟩; replace BK798 := kb BK798 hb; replace HB := bs HB hb))
  go_meet
  case rel => exact ⟨_, (!t800), rs, H', ⟨le0⟩, ⟨bk BK798⟩, ⟨bls HB⟩⟩
 case rest =>
  clear HC3
  obtain ⟨kq, x15_2, rfl, HA, HJ2, BK798, HB⟩ := hcut
  cases kq with
  | zero => exact absurd HA.out (by simp [r3_CmpBig.j0])
  | succ kj2 =>
   have H := HA.out
   clear HA
   simp only [r3_CmpBig.j0] at H
   by_cases c10 : x15_2 = true
   ·subst c10
    rw [if_pos rfl] at H
    simp only [Option.some.injEq, Prod.mk.injEq] at H
    obtain ⟨rfl, rfl⟩ := H
    go_wp2
    go_ret2
    exact ⟨fe, bls HB⟩
   replace c10 := Bool.eq_false_iff.mpr c10
   subst c10
   rw [if_neg Bool.false_ne_true] at H
   obtain ⟨t801, A11, H⟩ := bd H
   by_cases c12 : t801 = true
   ·subst c12
    rw [if_pos rfl] at H
    obtain ⟨t802, A13, H⟩ := bd H
    by_cases c14 : t802 = true
    ·subst c14
     rw [if_pos rfl] at H
     simp only [Option.some.injEq, Prod.mk.injEq] at H
     obtain ⟨rfl, rfl⟩ := H
     go_wp2_with (first | (refine gl (some 17) Tryz.func84 #[.int .u64 a0] ?_; (with_reducible refine (r3_IsInf.calls a0 true _ A11.out).mono ?_); rintro e w' ⟨rfl, ⟨nd, rfl⟩⟩; refine ⟨_, rfl, ?_⟩) | (refine gl (some 19) Tryz.func85 #[.int .u64 a0] ?_; (with_reducible refine (r3_Below.calls a0 true _ A13.out).mono ?_); rintro e w' ⟨rfl, ⟨nd, rfl⟩⟩; refine ⟨_, rfl, ?_⟩))
     go_ret2
     exact ⟨fe, bls HB⟩
    replace c14 := Bool.eq_false_iff.mpr c14
    subst c14
    rw [if_neg Bool.false_ne_true] at H
    simp only [Option.some.injEq, Prod.mk.injEq] at H
    obtain ⟨rfl, rfl⟩ := H
    go_wp2_with (first | (refine gl (some 17) Tryz.func84 #[.int .u64 a0] ?_; (with_reducible refine (r3_IsInf.calls a0 true _ A11.out).mono ?_); rintro e w' ⟨rfl, ⟨nd, rfl⟩⟩; refine ⟨_, rfl, ?_⟩) | (refine gl (some 19) Tryz.func85 #[.int .u64 a0] ?_; (with_reducible refine (r3_Below.calls a0 false _ A13.out).mono ?_); rintro e w' ⟨rfl, ⟨nd, rfl⟩⟩; refine ⟨_, rfl, ?_⟩))
    go_ret2
    exact ⟨fe, bls HB⟩
   replace c12 := Bool.eq_false_iff.mpr c12
   subst c12
   rw [if_neg Bool.false_ne_true] at H
   obtain ⟨⟨t803, t804, t807⟩, A15, H⟩ := bd H
   (try dsimp only at H)
   obtain ⟨⟨t809, t810⟩, A16, H⟩ := bd H
   (try dsimp only at H)
   obtain ⟨t813, A17, H⟩ := bd H
   have HC18 := Az H
   clear H
   try go_wp2_with (first | (refine gl (some 17) Tryz.func84 #[.int .u64 a0] ?_; (with_reducible refine (r3_IsInf.calls a0 false _ A11.out).mono ?_); rintro e wc ⟨rfl, hb⟩; replace hb := dr hb; refine ⟨_, rfl, ?_⟩; replace BK798 := kb BK798 hb; replace HB := bs HB hb; clear hb; have hz798_ := bz BK798) | (refine gl (some 22) Tryz.func86 #[.int .u64 a0] ?_; (with_reducible refine (r3_Cut.calls kj2 a0 t803 t804 t807 _ A15.out).mono ?_); rintro e w19 ⟨v805, rfl, ho0, hb⟩; refine ⟨_, rfl, ?_⟩; have HO806 := Az (Kd.V_lower (Kd.V_mono (ok' := fun k_ => k_ ≠ gb798) ho0 (fun k_ hk_ => (Kd.freshB (g := gb798) (o := .cells #[.bool a1_0, .slice A1_1 l1_1.length c1_1] 24 (0, 0)) (bk BK798) k_ hk_))) (below_size (bls HB))); replace BK798 := kb BK798 hb; replace HB := bs HB hb) | (refine be 6 #[.bool false, .slice none 0 0] 45 ?_; intro gb808 hg w20 hbox hb; replace HO806 := Az (Kd.V_below (Kd.V_elderB (vk HO806) gb808 (Nat.le_of_eq hg.symm)) hb); have BK808 := Az (hbox); have GW808 := gw (bls HB) hg; have GE808 := gw (bls HB) hg; replace HB := bs HB hb; have NB798_808 := nl BK798 hg; have NB808_798 := ng BK798 hg; replace BK798 := kb BK798 hb; clear hb hbox hg; have hnb21 := NB808_798.out; have hnc21 := NB798_808.out; have hz22_1 := bz BK808; obtain ⟨Ao23, co23, eo23⟩ := Kd.V_slice HO806.out; subst eo23))
   have n_ : (fun W_ : World => Aside0 (Kd.V (Kd.int .u8) 5 W_ w.heap.size (fun k_ => k_ ≠ gb798 ∧ k_ ≠ gb808) (.slice Ao23 t804.length co23) t804) ∧ Aside0 (W_.heap[gb798]? = some (.cells #[.bool a1_0, .slice A1_1 l1_1.length c1_1] 24 (0, 0))) ∧ Aside0 (W_.heap[gb808]? = some (.cells #[.bool t803, .slice Ao23 t804.length co23] 45 (0, 0))) ∧ Aside0 (Below w.heap.size w W_)) ((w20.setCell ⟨gb808, 0, none⟩ (.bool t803)).setCell ⟨gb808, 1, none⟩ (.slice Ao23 t804.length co23)) := ⟨⟨vt (Kd.V_mono (Kd.V_far (p := ⟨gb808, 1, none⟩) (Kd.V_far (p := ⟨gb808, 0, none⟩) (Kd.V_mono HO806.out (fun k_ hk => (⟨hk, hk.2⟩ : _ ∧ k_ ≠ gb808))) (fun _ hk => hk.2) (.bool t803)) (fun _ hk => hk.2) (.slice Ao23 t804.length co23)) (fun _ hk => ⟨hk.1.1, hk.1.2⟩))⟩, ⟨by refine blk_far ?_ NB798_808.out _; refine blk_far ?_ NB798_808.out _; exact BK798.out⟩, ⟨by refine blk_put (cs := #[.bool t803, .slice none 0 0]) ?_ 1 _ rfl; refine blk_put (cs := #[.bool false, .slice none 0 0]) ?_ 0 _ rfl; exact BK808.out⟩, ⟨bls HB⟩⟩
   obtain ⟨n0_, n1_, n2_, n3_⟩ := n_
   (try clear HO806)
   (try clear BK798)
   (try clear BK808)
   (try clear HB)
   generalize ((w20.setCell ⟨gb808, 0, none⟩ (.bool t803)).setCell ⟨gb808, 1, none⟩ (.slice Ao23 t804.length co23)) = w24 at n0_ n1_ n2_ n3_ ⊢
   have HO806 := n0_
   have BK798 := n1_
   have BK808 := n2_
   have HB := n3_
   clear n0_ n1_ n2_ n3_
   replace HO806 := Az (Kd.V_drew HO806.out)
   replace BK798 := Az (blk_drew BK798.out)
   replace BK808 := Az (blk_drew BK808.out)
   replace HB := Az (below_drew1 HB.out)
   refine start_ (n := 5) (S := fun w' => w'.cell? ⟨gb808, 0, none⟩ = some (.bool t803) ∧ w'.cell? ⟨gb808, 1, none⟩ = some (.slice Ao23 t804.length co23) ∧ w'.cell? ⟨gb798, 0, none⟩ = some (.bool a1_0) ∧ w'.cell? ⟨gb798, 1, none⟩ = some (.slice A1_1 l1_1.length c1_1)) (ds := []) (bm 5 0) (by kernel_rfl) rfl rfl ⟨(blk_cell BK808.out 0).trans rfl, (blk_cell BK808.out 1).trans rfl, (blk_cell BK798.out 0).trans rfl, (blk_cell BK798.out 1).trans rfl⟩ (fun hHeld => ?_)
   generalize w24.drew = w25 at HO806 BK798 BK808 HB hHeld ⊢
   refine take_ (i := 0) (N := some 25) (v := ?_) (a' := ?_) (bm 5 1) rfl rfl (by kernel_rfl) (fun _ _ _ h => h) (Or.inl ⟨by rfl, ?_⟩) hHeld ?_ ?_
   rotate_left
   ·rintro w' ⟨s0, s1, s2, s3⟩
    go_simp
    with_reducible rfl
   rotate_left
   ·simp only [Act.put, List.setIfInBounds_toArray, List.set_cons_zero, List.set_cons_succ, i64_w, i32_w]
    rfl
   refine take_ (i := 1) (N := some 26) (v := ?_) (a' := ?_) (bm 5 3) rfl rfl (by kernel_rfl) (fun _ _ _ h => h) (Or.inl ⟨by rfl, ?_⟩) hHeld ?_ ?_
   rotate_left
   ·rintro w' ⟨s0, s1, s2, s3⟩
    go_simp
    with_reducible rfl
   rotate_left
   ·simp only [Act.put, List.setIfInBounds_toArray, List.set_cons_zero, List.set_cons_succ, i64_w, i32_w]
    rfl
   refine one_ (i := 2) (N := some 27) (bm 5 7) rfl rfl (by kernel_rfl) (by decide) (fun K hK => ?_)
   refine gs Tryz.func87 #[.agg #[.bool a1_0, .slice A1_1 l1_1.length c1_1]] ?_
   with_reducible refine (r2_Of.calls kj2 a1_0 _ _ l1_1 t809 t810 _ (ck HR1_1 HB) HC1_1.out A16.out).mono ?_
   rintro e w26 ⟨v811, rfl, ho0, hb⟩
   refine ⟨_, rfl, ?_⟩
   replace HO806 := Az (Kd.V_below (vk HO806) hb)
   have HO812 := Az (Kd.V_lower (Kd.V_mono (ok' := fun k_ => k_ ≠ gb798 ∧ k_ ≠ gb808) ho0 (fun k_ hk_ => ⟨(Kd.freshB (g := gb798) (o := .cells #[.bool a1_0, .slice A1_1 l1_1.length c1_1] 24 (0, 0)) (bk BK798) k_ hk_), (Kd.freshB (g := gb808) (o := .cells #[.bool t803, .slice Ao23 t804.length co23] 45 (0, 0)) (bk BK808) k_ hk_)⟩)) (below_size (bls HB)))
   replace BK798 := kb BK798 hb
   replace BK808 := kb BK808 hb
   replace HB := bs HB hb
   (try clear hb)
   (try clear ho0)
   obtain ⟨Ao27, co27, eo27⟩ := Kd.V_slice HO812.out
   (first | subst eo27 | (injection eo27 with f1_ f2_ f3_; have f4_ := f1_.symm; have f5_ := f3_.symm; clear f1_ f2_ f3_; subst f4_; subst f5_))
   refine hK.out _ _ hd (fun hHeld => ?_)
   clear hK K
   refine nm ?_
   refine one_ (i := 3) (N := some 28) (bm 5 15) rfl rfl (by kernel_rfl) (by decide) (fun K hK => ?_)
   refine gs Tryz.func57 #[.agg #[.bool t803, .slice Ao23 t804.length co23], .agg #[.bool t809, .slice Ao27 t810.length co27]] ?_
   with_reducible refine (r2_Cmp.calls kj2 t803 _ _ t804 t809 _ _ t810 t813 _ ?side1 (Kd.V_reads' HO806.out).2.1 ?side3 (Kd.V_reads' HO812.out).2.1 A17.out).mono ?_
   (case side1 => exact (Kd.V_reads' HO806.out).2.2)
   (case side3 => exact (Kd.V_reads' HO812.out).2.2)
   rintro e w28 ⟨rfl, hb⟩
   refine ⟨_, rfl, ?_⟩
   replace HO806 := Az (Kd.V_below (vk HO806) hb)
   replace HO812 := Az (Kd.V_below (vk HO812) hb)
   replace BK798 := kb BK798 hb
   replace BK808 := kb BK808 hb
   replace HB := bs HB hb
   (try clear hb)
   (try clear hb2)
   (try clear hk)
   (try clear hi)
   refine hK.out _ _ hd (fun hHeld => ?_)
   clear hK K
   refine nm ?_
   refine pure_ (i := 4) (N := some 8) (v := ?_) (a' := ?_) (bm 5 31) rfl rfl (by kernel_rfl) (fun _ _ _ h => h) (Or.inl ⟨by rfl, ?_⟩) ?_ ?_
   rotate_left
   ·intro w'
    go_simp
    with_reducible rfl
   rotate_left
   ·simp only [Act.put, List.setIfInBounds_toArray, List.set_cons_zero, List.set_cons_succ, i64_w, i32_w]
    rfl
   refine done_ (by kernel_rfl) ?_
   go_upto_region 9 with (fail)
   go_cut [33] (fun v33 wc => ∃ (kq : Nat) (x33_17 : Bool), v33 = .bool x33_17 ∧ Aside0 (r3_CmpBig.j1 kq a0 t813 x33_17 = some (r1, r2)) ∧ Aside0 (kq ≤ kj2) ∧ Aside0 (Kd.V (Kd.int .u8) 5 wc w.heap.size (fun k_ => k_ ≠ gb798 ∧ k_ ≠ gb808) (.slice Ao23 t804.length co23) t804) ∧ Aside0 (wc.heap[gb798]? = some (.cells #[.bool a1_0, (.slice A1_1 l1_1.length c1_1)] 24 (0, 0))) ∧ Aside0 (wc.heap[gb808]? = some (.cells #[.bool t803, (.slice Ao23 t804.length co23)] 45 (0, 0))) ∧ Aside0 (Below w.heap.size w wc))
   case first =>
    have H := HC18.out
    clear HC18
    by_cases c29 : t813 = 0
    case neg =>
     rw [if_neg c29] at H
     have c29b0 := beq_eq_false_iff_ne.mpr c29
     have c29b1 := bne_iff_ne.mpr c29
     (first | rw [c29b0] | (simp only [i64_w, i32_w]; rw [c29b0]) | skip)
     have H' := Az H
     clear H
     go_wp2
     go_meet
     case rel => exact ⟨_, (false), rs, H', ⟨le1 HJ2⟩, ⟨vk HO806⟩, ⟨bk BK798⟩, ⟨bk BK808⟩, ⟨bls HB⟩⟩
    rw [if_pos c29] at H
    have c29b0 := beq_iff_eq.mpr c29
    have c29b1 := bne_eq_false_iff_eq.mpr c29
    clear c29
    (first | rw [c29b0] | (simp only [i64_w, i32_w]; rw [c29b0]) | skip)
    have H' := Az H
    clear H
    go_wp2
    go_meet
    case rel => exact ⟨_, (t807), rs, H', ⟨le1 HJ2⟩, ⟨vk HO806⟩, ⟨bk BK798⟩, ⟨bk BK808⟩, ⟨bls HB⟩⟩
   case rest =>
    clear HC18
    obtain ⟨kq, x33_17, rfl, HA, HJ17, HO_809001, BK798, BK808, HB⟩ := hcut
    cases kq with
    | zero => exact absurd HA.out (by simp [r3_CmpBig.j1])
    | succ kj17 =>
     have H := HA.out
     clear HA
     simp only [r3_CmpBig.j1] at H
     by_cases c30 : x33_17 = true
     case neg =>
      replace c30 := Bool.eq_false_iff.mpr c30
      subst c30
      rw [if_neg Bool.false_ne_true] at H
      simp only [Option.some.injEq, Prod.mk.injEq] at H
      obtain ⟨rfl, rfl⟩ := H
      go_wp2
      go_ret2
      exact ⟨fe, bls HB⟩
     subst c30
     rw [if_pos rfl] at H
     obtain ⟨t814, A31, H⟩ := bd H
     by_cases c32 : t814 = true
     ·subst c32
      rw [if_pos rfl] at H
      simp only [Option.some.injEq, Prod.mk.injEq] at H
      obtain ⟨rfl, rfl⟩ := H
      go_wp2_with (first | (refine gl (some 35) Tryz.func85 #[.int .u64 a0] ?_; (with_reducible refine (r3_Below.calls a0 true _ A31.out).mono ?_); rintro e w' ⟨rfl, ⟨nd, rfl⟩⟩; refine ⟨_, rfl, ?_⟩))
      go_ret2
      exact ⟨fe, bls HB⟩
     replace c32 := Bool.eq_false_iff.mpr c32
     subst c32
     rw [if_neg Bool.false_ne_true] at H
     simp only [Option.some.injEq, Prod.mk.injEq] at H
     obtain ⟨rfl, rfl⟩ := H
     go_wp2_with (first | (refine gl (some 35) Tryz.func85 #[.int .u64 a0] ?_; (with_reducible refine (r3_Below.calls a0 false _ A31.out).mono ?_); rintro e w' ⟨rfl, ⟨nd, rfl⟩⟩; refine ⟨_, rfl, ?_⟩))
     go_ret2
     exact ⟨fe, bls HB⟩
def p_Good.j0 : Nat → Bool → Int → Bool → Bool → List Int → Int → ByteArray → List (S28) → Option (Bool)
 | 0, _, _, _, _, _, _, _, _ => none
 | k + 1, x3, x105000, x105001, x105002, x105003, x105004, x105005, x105006 => if x105000 = 0 then (if x105001 = true then (some false) else (if x3 = true then (if x105004 = 0 then (some (x105005.toList == ([] : List UInt8))) else (some false)) else (some false))) else (if x105000 = 1 then (if x3 = true then (if x105004 = 0 then (some (x105005.toList == ([] : List UInt8))) else (some false)) else (some false)) else (if x105000 = 2 then ((o_Good.f k x105002 x105003).bind fun t105 => (if t105 = true then (if x105001 = true then (some false) else (if x105004 = 0 then (some (x105005.toList == ([] : List UInt8))) else (some false))) else (some false))) else (if x105000 = 3 then (if x3 = true then (if x105001 = true then (some false) else (some (x105005.toList == ([] : List UInt8)))) else (some false)) else (if x105000 = 4 then (if x3 = true then (if x105001 = true then (some false) else (if x105004 = 0 then (some (decide ((x105005.size : Int) ≤ 20000))) else (some false))) else (some false)) else (some false)))))
def p_Good.f (k : Nat) (a0_0 : Int) (a0_1 a0_2 : Bool) (l0_3 : List Int) (a0_4 : Int) (a0_5 : ByteArray) (l0_6 : List (S28)) : Option (Bool) := if (l0_6.length : Int) > 0 then (some false) else (if a0_2 = true then (p_Good.j0 k false a0_0 a0_1 a0_2 l0_3 a0_4 a0_5 l0_6) else (p_Good.j0 k ((l0_3.length : Int) == 0) a0_0 a0_1 a0_2 l0_3 a0_4 a0_5 l0_6))
theorem p_Good.mono_l : ∀ k, (∀ y0 y1 y2 y3 y4 y5 y6 y7, LeO (p_Good.j0 k y0 y1 y2 y3 y4 y5 y6 y7) (p_Good.j0 (k + 1) y0 y1 y2 y3 y4 y5 y6 y7))
 | 0 => fun _ _ _ _ _ _ _ _ r h => by simp [p_Good.j0] at h
 | k + 1 => by
  have ih0 := p_Good.mono_l k
  ·intro y0 y1 y2 y3 y4 y5 y6 y7
   unfold p_Good.j0
   repeat' first
   | exact ih0 _ _ _ _ _ _ _ _
   | exact o_Good.mono _ _ _
   | exact LeO.refl _
   | exact LeO.none _
   | refine LeO.ite ?_ ?_
   | refine LeO.bind ?_ (fun _ => ?_)
theorem p_Good.mono : ∀ a0 a1 a2 a3 a4 a5 a6 k, LeO (p_Good.f k a0 a1 a2 a3 a4 a5 a6) (p_Good.f (k + 1) a0 a1 a2 a3 a4 a5 a6) := by
 intro a0 a1 a2 a3 a4 a5 a6 k
 have ih0 := p_Good.mono_l k
 unfold p_Good.f
 repeat' first
   | exact ih0 _ _ _ _ _ _ _ _
   | exact o_Good.mono _ _ _
   | exact LeO.refl _
   | exact LeO.none _
   | refine LeO.ite ?_ ?_
   | refine LeO.bind ?_ (fun _ => ?_)
theorem p_Good.calls (k : Nat) (a0_0 : Int) (a0_1 a0_2 : Bool) (A0_3 : Option Addr) (c0_3 : Nat) (l0_3 : List Int) (a0_4 : Int) (a0_5 : ByteArray) (A0_6 : Option Addr) (c0_6 : Nat) (l0_6 : List (S28)) (r : Bool) (w : World) (hr0_3 : Kd.C (Kd.int .u64) w A0_3 l0_3.length l0_3) (hc0_3 : l0_3.length ≤ c0_3) (hr0_6 : Kd.C k28 w A0_6 l0_6.length l0_6) (hc0_6 : l0_6.length ≤ c0_6) (h : p_Good.f k a0_0 a0_1 a0_2 l0_3 a0_4 a0_5 l0_6 = some r) :
  Calls Tryz.prog 25 #[.agg #[.int .i64 a0_0, .bool a0_1, .bool a0_2, .slice A0_3 l0_3.length c0_3, .int .u64 a0_4, .string a0_5, .slice A0_6 l0_6.length c0_6]] w fun e w' => e = .returned (.bool r) ∧ Below w.heap.size w w' := by
 have hu28 := Tryz.underlying28
 have hu24 := Tryz.underlying24
 have HR0_3 := Az hr0_3
 have HC0_3 := Az hc0_3
 have HR0_6 := Az hr0_6
 have HC0_6 := Az hc0_6
 have HB := Az (Below.refl w.heap.size w)
 have H := h
 unfold p_Good.f at H
 by_cases c2 : (l0_6.length : Int) > 0
 ·rw [if_pos c2] at H
  obtain rfl := Option.some.inj H
  go_enter Tryz.func25, Tryz.ntmps25
  go_wp2_with (first | ((try (refine gate_guard (by rfl) ?_; dsimp only)); refine be 1 #[.int .i64 a0_0, .bool a0_1, .bool a0_2, .slice A0_3 l0_3.length c0_3, .int .u64 a0_4, .string a0_5, .slice A0_6 l0_6.length c0_6] 28 ?_; intro gb104 hg w3 hbox hb; have BK104 := Az (hbox); have GW104 := gw (bl HB) hg; have GE104 := gw (bl HB) hg; replace HB := bs HB hb; clear hb hbox hg; have hz4_1 := bz BK104))
  go_ret
  exact ⟨fe, bls HB⟩
 rw [if_neg c2] at H
 have HC5 := Az H
 go_enter Tryz.func25, Tryz.ntmps25
 go_upto_region 3 with (first | ((try (refine gate_guard (by rfl) ?_; dsimp only)); refine be 1 #[.int .i64 a0_0, .bool a0_1, .bool a0_2, .slice A0_3 l0_3.length c0_3, .int .u64 a0_4, .string a0_5, .slice A0_6 l0_6.length c0_6] 28 ?_; intro gb104 hg w6 hbox hb; have BK104 := Az (hbox); have GW104 := gw (bl HB) hg; have GE104 := gw (bl HB) hg; replace HB := bs HB hb; clear hb hbox hg; have hz7_1 := bz BK104))
 (try simp only [Act.put, List.setIfInBounds_toArray, List.set_cons_zero, List.set_cons_succ])
 go_cut [3] (fun v3 wc => ∃ (kq : Nat) (x3_4 : Bool), v3 = .bool x3_4 ∧ Aside0 (p_Good.j0 kq x3_4 a0_0 a0_1 a0_2 l0_3 a0_4 a0_5 l0_6 = some r) ∧ Aside0 (kq ≤ k) ∧ Aside0 (wc.heap[gb104]? = some (.cells #[.int .i64 a0_0, .bool a0_1, .bool a0_2, (.slice A0_3 l0_3.length c0_3), .int .u64 a0_4, .string a0_5, (.slice A0_6 l0_6.length c0_6)] 28 (0, 0))) ∧ Aside0 (Below w.heap.size w wc))
 case first =>
  have H := HC5.out
  by_cases c8 : a0_2 = true
  ·subst c8
   rw [if_pos rfl] at H
   have H' := Az H
   have hz9_1 := bz BK104
   go_wp2
   go_meet
   case rel => exact ⟨_, (false), rs, H', ⟨le0⟩, ⟨bk BK104⟩, ⟨bls HB⟩⟩
  replace c8 := Bool.eq_false_iff.mpr c8
  subst c8
  rw [if_neg Bool.false_ne_true] at H
  have H' := Az H
  have hz10_1 := bz BK104
  go_wp2
  go_meet
  case rel => exact ⟨_, (((l0_3.length : Int) == 0)), rs, H', ⟨le0⟩, ⟨bk BK104⟩, ⟨bls HB⟩⟩
 case rest =>
  obtain ⟨kq, x3_4, rfl, HA, HJ4, BK104, HB⟩ := hcut
  cases kq with
  | zero => exact absurd HA.out (by simp [p_Good.j0])
  | succ kj4 =>
   have H := HA.out
   simp only [p_Good.j0] at H
   by_cases c11 : a0_0 = 0
   ·rw [if_pos c11] at H
    by_cases c12 : a0_1 = true
    ·subst c12
     rw [if_pos rfl] at H
     obtain rfl := Option.some.inj H
     have hz13_1 := bz BK104
     go_wp2
     go_ret
     exact ⟨fe, bls HB⟩
    replace c12 := Bool.eq_false_iff.mpr c12
    subst c12
    rw [if_neg Bool.false_ne_true] at H
    by_cases c14 : x3_4 = true
    case neg =>
     replace c14 := Bool.eq_false_iff.mpr c14
     subst c14
     rw [if_neg Bool.false_ne_true] at H
     obtain rfl := Option.some.inj H
     have hz18_1 := bz BK104
     go_wp2
     go_ret
     exact ⟨fe, bls HB⟩
    subst c14
    rw [if_pos rfl] at H
    by_cases c15 : a0_4 = 0
    case neg =>
     rw [if_neg c15] at H
     obtain rfl := Option.some.inj H
     have hz17_1 := bz BK104
     go_wp2
     go_ret
     exact ⟨fe, bls HB⟩
    rw [if_pos c15] at H
    obtain rfl := Option.some.inj H
    have hz16_1 := bz BK104
    go_wp2
    go_ret
    exact ⟨fe, bls HB⟩
   rw [if_neg c11] at H
   by_cases c19 : a0_0 = 1
   ·rw [if_pos c19] at H
    by_cases c20 : x3_4 = true
    case neg =>
     replace c20 := Bool.eq_false_iff.mpr c20
     subst c20
     rw [if_neg Bool.false_ne_true] at H
     obtain rfl := Option.some.inj H
     have hz24_1 := bz BK104
     go_wp2
     go_ret
     exact ⟨fe, bls HB⟩
    subst c20
    rw [if_pos rfl] at H
    by_cases c21 : a0_4 = 0
    case neg =>
     rw [if_neg c21] at H
     obtain rfl := Option.some.inj H
     have hz23_1 := bz BK104
     go_wp2
     go_ret
     exact ⟨fe, bls HB⟩
    rw [if_pos c21] at H
    obtain rfl := Option.some.inj H
    have hz22_1 := bz BK104
    go_wp2
    go_ret
    exact ⟨fe, bls HB⟩
   rw [if_neg c19] at H
   by_cases c25 : a0_0 = 2
   ·rw [if_pos c25] at H
    obtain ⟨t105, A26, H⟩ := bd H
    by_cases c27 : t105 = true
    case neg =>
     replace c27 := Bool.eq_false_iff.mpr c27
     subst c27
     rw [if_neg Bool.false_ne_true] at H
     obtain rfl := Option.some.inj H
     have hz39_1 := bz BK104
     go_wp2_with (first | (refine gl (some 56) Tryz.func47 #[.agg #[.bool a0_2, .slice A0_3 l0_3.length c0_3]] ?_; (with_reducible refine (o_Good.calls kj4 a0_2 _ _ l0_3 false _ (ck HR0_3 HB) HC0_3.out A26.out).mono ?_); rintro e w40 ⟨rfl, hb⟩; refine ⟨_, rfl, ?_⟩; replace BK104 := kb BK104 hb; replace HB := bs HB hb))
     go_ret
     exact ⟨fe, bls HB⟩
    subst c27
    rw [if_pos rfl] at H
    by_cases c28 : a0_1 = true
    ·subst c28
     rw [if_pos rfl] at H
     obtain rfl := Option.some.inj H
     have hz29_1 := bz BK104
     go_wp2_with (first | (refine gl (some 56) Tryz.func47 #[.agg #[.bool a0_2, .slice A0_3 l0_3.length c0_3]] ?_; (with_reducible refine (o_Good.calls kj4 a0_2 _ _ l0_3 true _ (ck HR0_3 HB) HC0_3.out A26.out).mono ?_); rintro e w30 ⟨rfl, hb⟩; refine ⟨_, rfl, ?_⟩; replace BK104 := kb BK104 hb; replace HB := bs HB hb; have hz31_1 := bz BK104))
     go_ret
     exact ⟨fe, bls HB⟩
    replace c28 := Bool.eq_false_iff.mpr c28
    subst c28
    rw [if_neg Bool.false_ne_true] at H
    by_cases c32 : a0_4 = 0
    case neg =>
     rw [if_neg c32] at H
     obtain rfl := Option.some.inj H
     have hz36_1 := bz BK104
     go_wp2_with (first | (refine gl (some 56) Tryz.func47 #[.agg #[.bool a0_2, .slice A0_3 l0_3.length c0_3]] ?_; (with_reducible refine (o_Good.calls kj4 a0_2 _ _ l0_3 true _ (ck HR0_3 HB) HC0_3.out A26.out).mono ?_); rintro e w37 ⟨rfl, hb⟩; refine ⟨_, rfl, ?_⟩; replace BK104 := kb BK104 hb; replace HB := bs HB hb; have hz38_1 := bz BK104))
     go_ret
     exact ⟨fe, bls HB⟩
    rw [if_pos c32] at H
    obtain rfl := Option.some.inj H
    have hz33_1 := bz BK104
    go_wp2_with (first | (refine gl (some 56) Tryz.func47 #[.agg #[.bool a0_2, .slice A0_3 l0_3.length c0_3]] ?_; (with_reducible refine (o_Good.calls kj4 a0_2 _ _ l0_3 true _ (ck HR0_3 HB) HC0_3.out A26.out).mono ?_); rintro e w34 ⟨rfl, hb⟩; refine ⟨_, rfl, ?_⟩; replace BK104 := kb BK104 hb; replace HB := bs HB hb; have hz35_1 := bz BK104))
    go_ret
    exact ⟨fe, bls HB⟩
   rw [if_neg c25] at H
   by_cases c41 : a0_0 = 3
   ·rw [if_pos c41] at H
    by_cases c42 : x3_4 = true
    case neg =>
     replace c42 := Bool.eq_false_iff.mpr c42
     subst c42
     rw [if_neg Bool.false_ne_true] at H
     obtain rfl := Option.some.inj H
     have hz46_1 := bz BK104
     go_wp2
     go_ret
     exact ⟨fe, bls HB⟩
    subst c42
    rw [if_pos rfl] at H
    by_cases c43 : a0_1 = true
    ·subst c43
     rw [if_pos rfl] at H
     obtain rfl := Option.some.inj H
     have hz44_1 := bz BK104
     go_wp2
     go_ret
     exact ⟨fe, bls HB⟩
    replace c43 := Bool.eq_false_iff.mpr c43
    subst c43
    rw [if_neg Bool.false_ne_true] at H
    obtain rfl := Option.some.inj H
    have hz45_1 := bz BK104
    go_wp2
    go_ret
    exact ⟨fe, bls HB⟩
   rw [if_neg c41] at H
   by_cases c47 : a0_0 = 4
   case neg =>
    rw [if_neg c47] at H
    obtain rfl := Option.some.inj H
    have hz55_1 := bz BK104
    go_wp2
    go_ret
    exact ⟨fe, bls HB⟩
   rw [if_pos c47] at H
   by_cases c48 : x3_4 = true
   case neg =>
    replace c48 := Bool.eq_false_iff.mpr c48
    subst c48
    rw [if_neg Bool.false_ne_true] at H
    obtain rfl := Option.some.inj H
    have hz54_1 := bz BK104
    go_wp2
    go_ret
    exact ⟨fe, bls HB⟩
   subst c48
   rw [if_pos rfl] at H
   by_cases c49 : a0_1 = true
   ·subst c49
    rw [if_pos rfl] at H
    obtain rfl := Option.some.inj H
    have hz50_1 := bz BK104
    go_wp2
    go_ret
    exact ⟨fe, bls HB⟩
   replace c49 := Bool.eq_false_iff.mpr c49
   subst c49
   rw [if_neg Bool.false_ne_true] at H
   by_cases c51 : a0_4 = 0
   case neg =>
    rw [if_neg c51] at H
    obtain rfl := Option.some.inj H
    have hz53_1 := bz BK104
    go_wp2
    go_ret
    exact ⟨fe, bls HB⟩
   rw [if_pos c51] at H
   obtain rfl := Option.some.inj H
   have hz52_1 := bz BK104
   go_wp2
   go_ret
   exact ⟨fe, bls HB⟩
def p_Hash.f (k : Nat) (a0_0 : Int) (a0_1 a0_2 : Bool) (l0_3 : List Int) (a0_4 : Int) (a0_5 : ByteArray) (l0_6 : List (S28)) : Option (Int) := (p_Good.f k a0_0 a0_1 a0_2 l0_3 a0_4 a0_5 l0_6).bind fun t450 => (if t450 = true then (if a0_0 = 0 then (none) else (if a0_0 = 3 then (none) else (if a0_0 = 4 then (some (strH a0_5.data.toList a0_5.size)) else (none)))) else (none))
theorem p_Hash.mono : ∀ a0 a1 a2 a3 a4 a5 a6 k, LeO (p_Hash.f k a0 a1 a2 a3 a4 a5 a6) (p_Hash.f (k + 1) a0 a1 a2 a3 a4 a5 a6) := by
 intro a0 a1 a2 a3 a4 a5 a6 k
 unfold p_Hash.f
 repeat' first
   | exact p_Good.mono _ _ _ _ _ _ _ _
   | exact LeO.refl _
   | exact LeO.none _
   | refine LeO.ite ?_ ?_
   | refine LeO.bind ?_ (fun _ => ?_)
theorem p_Hash.str (k : Nat) (a0_0 : Int) (a0_1 a0_2 : Bool) (A0_3 : Option Addr) (c0_3 : Nat) (l0_3 : List Int) (a0_4 : Int) (a0_5 : ByteArray) (A0_6 : Option Addr) (c0_6 : Nat) (l0_6 : List (S28)) (r : Int) (w : World) (HR0_3 : Aside0 (Kd.C (Kd.int .u64) w A0_3 l0_3.length l0_3)) (HC0_3 : Aside0 (l0_3.length ≤ c0_3)) (HR0_6 : Aside0 (Kd.C k28 w A0_6 l0_6.length l0_6)) (HC0_6 : Aside0 (l0_6.length ≤ c0_6))
  (A2 : Aside0 (p_Good.f k a0_0 a0_1 a0_2 l0_3 a0_4 a0_5 l0_6 = some true)) (h4 : a0_0 = 4) (H : some (strH a0_5.data.toList a0_5.size) = some r) :
  Calls Tryz.prog 13 #[.agg #[.int .i64 a0_0, .bool a0_1, .bool a0_2, .slice A0_3 l0_3.length c0_3, .int .u64 a0_4, .string a0_5, .slice A0_6 l0_6.length c0_6]] w fun e w' => e = .returned (.int .i64 r) ∧ Below w.heap.size w w' := by
 have hsz : a0_5.size ≤ 20000 := by
  have hg := A2.out
  rw [h4] at hg
  unfold p_Good.f at hg
  cases k with
  | zero => split at hg <;> (try split at hg) <;> simp_all [p_Good.j0]
  | succ k =>
   have key : ∀ x3, p_Good.j0 (k + 1) x3 4 a0_1 a0_2 l0_3 a0_4 a0_5 l0_6 = some true → a0_5.size ≤ 20000 := by
    intro x3 hj
    simp only [p_Good.j0] at hj
    rw [if_neg (by decide), if_neg (by decide), if_neg (by decide), if_neg (by decide), if_pos trivial] at hj
    split at hj
    ·split at hj
     ·simp at hj
     ·split at hj
      ·have := Option.some.inj hj
       have := of_decide_eq_true this
       omega
      ·simp at hj
    ·simp at hj
   split at hg
   ·simp at hg
   ·split at hg
    ·exact key _ hg
    ·exact key _ hg
 subst h4
 have HB := Az (Below.refl w.heap.size w)
 obtain rfl := Option.some.inj H
 clear H
 have HS : Aside0 (a0_5.size ≤ 20000) := ⟨hsz⟩
 clear hsz
 have kb_ := fun W => print_bytes (P := Tryz.prog) 9 43 5 Tryz.underlying9 Tryz.underlying43 Tryz.underlying5 a0_5 W
 go_enter Tryz.func13, Tryz.ntmps13
 go_wp2_with (first | (refine be 1 #[.int .i64 4, .bool a0_1, .bool a0_2, .slice A0_3 l0_3.length c0_3, .int .u64 a0_4, .string a0_5, .slice A0_6 l0_6.length c0_6] 28 ?_; intro gb449 hg w5 hbox hb; have BK449 := Az (hbox); have GW449 := gw (bl HB) hg; replace HB := bs HB hb; clear hb hbox hg; have hz6_1 := bz BK449) | (refine gl (some 7) Tryz.func25 #[.agg #[.int .i64 4, .bool a0_1, .bool a0_2, .slice A0_3 l0_3.length c0_3, .int .u64 a0_4, .string a0_5, .slice A0_6 l0_6.length c0_6]] ?_; (with_reducible refine (p_Good.calls k 4 a0_1 a0_2 _ _ l0_3 a0_4 a0_5 _ _ l0_6 true _ (ck HR0_3 HB) HC0_3.out (ck HR0_6 HB) HC0_6.out A2.out).mono ?_); rintro e w7 ⟨rfl, hb⟩; refine ⟨_, rfl, ?_⟩; replace BK449 := kb BK449 hb; replace HB := bs HB hb; have hz8_1 := bz BK449))
 obtain ⟨W1, hW1⟩ : ∃ W1, W1 = Lib.bytesWorld w7 5 a0_5 := ⟨_, rfl⟩
 have HBW : Aside0 (Below w.heap.size w W1) := ⟨by rw [hW1]; exact bytes_below HB.out (below_size HB.out) 5 a0_5⟩
 have HC : Aside0 (∀ j, j < a0_5.size → W1.cell? ⟨w7.heap.size, j, none⟩ = some (.int .u8 (a0_5.data.toList.getD j 0).toNat)) := ⟨fun j hj => by rw [hW1]; exact Lib.bytesWorld_cell w7 5 a0_5 j hj⟩
 rw [← hW1]
 clear hW1 kb_ HB BK449 hz6_1 hz8_1
 generalize hn : a0_5.data.toList = L at *
 have HL : Aside0 (L.length = a0_5.size) := ⟨by rw [← hn]; simp⟩
 have HN : Aside0 (a0_5.data.toList = L) := ⟨hn⟩
 clear hn
 generalize hz : a0_5.size = n at *
 have HZ : Aside0 (a0_5.size = n) := ⟨hz⟩
 clear hz
 generalize w7.heap.size = g at *
 go_loop [3, 27] (fun h i => ∃ j : Nat, j ≤ n ∧ i = .int .i64 j ∧ h = .int .i64 (strH (L.take j) n)) (fun _ i => n - (intOf i).toNat)
 case atStart => exact ⟨0, Nat.zero_le _, rfl, rfl⟩
 case round =>
  obtain ⟨j, hj, rfl, rfl⟩ := hrel
  have hn2 := HS.out
  have bd := strH_bd (L.take j) n (by omega) (by omega)
  by_cases hlt : j < n
  case neg =>
   have hjn : j = n := by omega
   have HJ : Aside0 (strH (L.take j) n = strH L n) := ⟨by rw [List.take_of_length_le (by rw [HL.out]; omega)]⟩
   clear hjn
   go_wp2
   go_ret
   exact ⟨by rw [HN.out, HZ.out, HJ.out]; rfl, HBW.out⟩
  have hx := HC.out j hlt
  have hs : Aside0 (strH (L.take (j + 1)) n = (31 * strH (L.take j) n + ((L.getD j 0).toNat : Int) + 1) % 2147483647) := ⟨strH_take L n j (by rw [HL.out]; exact hlt)⟩
  have c1 : (L.getD j 0).toNat ≤ 255 := by have := (L.getD j 0).toNat_lt; omega
  obtain ⟨b0, b1⟩ := bd
  generalize (L.getD j 0).toNat = cv at *
  generalize strH (L.take j) n = hv at *
  go_wp2
  go_round
  case rel => exact ⟨j + 1, by omega, by go_num, by rw [hs.out]⟩
  case measure => simp [intOf]; omega
theorem p_Hash.calls (k : Nat) (a0_0 : Int) (a0_1 a0_2 : Bool) (A0_3 : Option Addr) (c0_3 : Nat) (l0_3 : List Int) (a0_4 : Int) (a0_5 : ByteArray) (A0_6 : Option Addr) (c0_6 : Nat) (l0_6 : List (S28)) (r : Int) (w : World) (hr0_3 : Kd.C (Kd.int .u64) w A0_3 l0_3.length l0_3) (hc0_3 : l0_3.length ≤ c0_3) (hr0_6 : Kd.C k28 w A0_6 l0_6.length l0_6) (hc0_6 : l0_6.length ≤ c0_6) (h : p_Hash.f k a0_0 a0_1 a0_2 l0_3 a0_4 a0_5 l0_6 = some r) :
  Calls Tryz.prog 13 #[.agg #[.int .i64 a0_0, .bool a0_1, .bool a0_2, .slice A0_3 l0_3.length c0_3, .int .u64 a0_4, .string a0_5, .slice A0_6 l0_6.length c0_6]] w fun e w' => e = .returned (.int .i64 r) ∧ Below w.heap.size w w' := by
 have hu28 := Tryz.underlying28
 have HR0_3 := Az hr0_3
 have HC0_3 := Az hc0_3
 clear hr0_3 hc0_3
 have HR0_6 := Az hr0_6
 have HC0_6 := Az hc0_6
 clear hr0_6 hc0_6
 have HB := Az (Below.refl w.heap.size w)
 have H := h
 unfold p_Hash.f at H
 clear h
 obtain ⟨t450, A2, H⟩ := bd H
 by_cases c3 : t450 = true
 case neg =>
  replace c3 := Bool.eq_false_iff.mpr c3
  subst c3
  rw [if_neg Bool.false_ne_true] at H
  exact absurd H (by simp)
 subst c3
 rw [if_pos rfl] at H
 by_cases c4 : a0_0 = 0
 ·rw [if_pos c4] at H
  exact absurd H (by simp)
 rw [if_neg c4] at H
 have c4b0 := beq_eq_false_iff_ne.mpr c4
 have c4b1 := bne_iff_ne.mpr c4
 by_cases c5 : a0_0 = 3
 ·rw [if_pos c5] at H
  exact absurd H (by simp)
 rw [if_neg c5] at H
 have c5b0 := beq_eq_false_iff_ne.mpr c5
 have c5b1 := bne_iff_ne.mpr c5
 by_cases c6 : a0_0 = 4
 case neg =>
  rw [if_neg c6] at H
  exact absurd H (by simp)
 rw [if_pos c6] at H
 have c6b0 := beq_iff_eq.mpr c6
 have c6b1 := bne_eq_false_iff_eq.mpr c6
 clear c6
 exact p_Hash.str k a0_0 a0_1 a0_2 A0_3 c0_3 l0_3 a0_4 a0_5 A0_6 c0_6 l0_6 r w HR0_3 HC0_3 HR0_6 HC0_6 (by assumption) (eq_of_beq (by assumption)) H
def p_number.f (a0_0 : Int) (a0_1 a0_2 : Bool) (l0_3 : List Int) (a0_4 : Int) (a0_5 : ByteArray) (l0_6 : List (S28)) : Option (Bool) := if a0_0 ≥ 1 then (some (decide (a0_0 ≤ 3))) else (some false)
theorem p_number.calls (a0_0 : Int) (a0_1 a0_2 : Bool) (A0_3 : Option Addr) (c0_3 : Nat) (l0_3 : List Int) (a0_4 : Int) (a0_5 : ByteArray) (A0_6 : Option Addr) (c0_6 : Nat) (l0_6 : List (S28)) (r : Bool) (w : World) (hr0_3 : Kd.C (Kd.int .u64) w A0_3 l0_3.length l0_3) (hc0_3 : l0_3.length ≤ c0_3) (hr0_6 : Kd.C k28 w A0_6 l0_6.length l0_6) (hc0_6 : l0_6.length ≤ c0_6) (h : p_number.f a0_0 a0_1 a0_2 l0_3 a0_4 a0_5 l0_6 = some r) :
  Calls Tryz.prog 26 #[.agg #[.int .i64 a0_0, .bool a0_1, .bool a0_2, .slice A0_3 l0_3.length c0_3, .int .u64 a0_4, .string a0_5, .slice A0_6 l0_6.length c0_6]] w fun e w' => e = .returned (.bool r) ∧ Below w.heap.size w w' := by
 have hu28 := Tryz.underlying28
 have HR0_3 := Az hr0_3
 have HC0_3 := Az hc0_3
 clear hr0_3 hc0_3
 have HR0_6 := Az hr0_6
 have HC0_6 := Az hc0_6
 clear hr0_6 hc0_6
 have HB := Az (Below.refl w.heap.size w)
 have H := h
 unfold p_number.f at H
 clear h
 by_cases c2 : a0_0 ≥ 1
 ·rw [if_pos c2] at H
  have c2b0 : decide (1 ≤ a0_0) = true := decide_eq_true c2
  clear c2
  obtain rfl := Option.some.inj H
  go_enter Tryz.func26, Tryz.ntmps26
  go_wp2_with (first | (refine be 1 #[.int .i64 a0_0, .bool a0_1, .bool a0_2, .slice A0_3 l0_3.length c0_3, .int .u64 a0_4, .string a0_5, .slice A0_6 l0_6.length c0_6] 28 ?_; intro gb106 hg w3 hbox hb; have BK106 := Az (hbox); have GW106 := gw (bl HB) hg; have GE106 := gw (bl HB) hg; replace HB := bs HB hb; clear hb hbox hg; have hz4_1 := bz BK106))
  go_ret
  exact ⟨fe, bls HB⟩
 rw [if_neg c2] at H
 have c2b0 : decide (1 ≤ a0_0) = false := decide_eq_false c2
 clear c2
 obtain rfl := Option.some.inj H
 go_enter Tryz.func26, Tryz.ntmps26
 go_wp2_with (first | (refine be 1 #[.int .i64 a0_0, .bool a0_1, .bool a0_2, .slice A0_3 l0_3.length c0_3, .int .u64 a0_4, .string a0_5, .slice A0_6 l0_6.length c0_6] 28 ?_; intro gb106 hg w5 hbox hb; have BK106 := Az (hbox); have GW106 := gw (bl HB) hg; have GE106 := gw (bl HB) hg; replace HB := bs HB hb; clear hb hbox hg; have hz6_1 := bz BK106))
 go_ret
 exact ⟨fe, bls HB⟩
def p_count.f (a0_0 : Int) (a0_1 a0_2 : Bool) (l0_3 : List Int) (a0_4 : Int) (a0_5 : ByteArray) (l0_6 : List (S28)) : Option (Bool × List Int) := if a0_0 = 1 then (if a0_1 = true then ((o_Of.f 1).bind fun bt134 => (some (bt134.1, bt134.2))) else (some (false, ([] : List Int)))) else (some (a0_2, l0_3))
theorem p_count.calls (a0_0 : Int) (a0_1 a0_2 : Bool) (P0_3_ : Nat → Prop) (A0_3 : Option Addr) (c0_3 : Nat) (l0_3 : List Int) (a0_4 : Int) (a0_5 : ByteArray) (A0_6 : Option Addr) (c0_6 : Nat) (l0_6 : List (S28)) (r1 : Bool) (r2 : List Int) (w : World) (hs0_3 : Kd.V (Kd.int .u64) 25 w w.heap.size (fun k_ => P0_3_ k_) (.slice A0_3 l0_3.length c0_3) l0_3) (hr0_6 : Kd.C k28 w A0_6 l0_6.length l0_6) (hc0_6 : l0_6.length ≤ c0_6) (h : p_count.f a0_0 a0_1 a0_2 l0_3 a0_4 a0_5 l0_6 = some (r1, r2)) :
  Calls Tryz.prog 37 #[.agg #[.int .i64 a0_0, .bool a0_1, .bool a0_2, .slice A0_3 l0_3.length c0_3, .int .u64 a0_4, .string a0_5, .slice A0_6 l0_6.length c0_6]] w fun e w' => ∃ v1_ : Value, e = .returned (.agg #[.bool r1, v1_]) ∧ Kd.V (Kd.int .u64) 25 w' w.heap.size (fun k_ => (P0_3_ k_ ∨ w.heap.size ≤ k_)) v1_ r2 ∧ Below w.heap.size w w' := by
 have hu28 := Tryz.underlying28
 have hu24 := Tryz.underlying24
 have HO0_3 := Az (show Kd.V (Kd.int .u64) 25 w w.heap.size (fun k_ => (P0_3_ k_ ∨ w.heap.size ≤ k_)) (.slice A0_3 l0_3.length c0_3) l0_3 from Kd.V_mono hs0_3 (fun k_ hk => .inl hk))
 have HR0_6 := Az hr0_6
 have HC0_6 := Az hc0_6
 clear hr0_6 hc0_6
 have HB := Az (Below.refl w.heap.size w)
 have H := h
 unfold p_count.f at H
 clear h
 by_cases c2 : a0_0 = 1
 case neg =>
  rw [if_neg c2] at H
  have c2b0 := beq_eq_false_iff_ne.mpr c2
  have c2b1 := bne_iff_ne.mpr c2
  simp only [Option.some.injEq, Prod.mk.injEq] at H
  obtain ⟨rfl, rfl⟩ := H
  go_enter Tryz.func37, Tryz.ntmps37
  go_wp2_with (first | (refine be 1 #[.int .i64 a0_0, .bool a0_1, .bool a0_2, .slice A0_3 l0_3.length c0_3, .int .u64 a0_4, .string a0_5, .slice A0_6 l0_6.length c0_6] 28 ?_; intro gb132 hg w17 hbox hb; replace HO0_3 := Az (Kd.V_below (Kd.V_elderB (vk HO0_3) gb132 (Nat.le_of_eq hg.symm)) hb); have BK132 := Az (hbox); have GW132 := gw (bl HB) hg; have GE132 := gw (bl HB) hg; replace HB := bs HB hb; clear hb hbox hg) | (refine be 2 #[.bool false, .slice none 0 0] 24 ?_; intro gb133 hg w18 hbox hb; replace HO0_3 := Az (Kd.V_below (Kd.V_elderB (vk HO0_3) gb133 (Nat.le_of_eq hg.symm)) hb); have BK133 := Az (hbox); have GW133 := gw (bls HB) hg; have GE133 := gw (bls HB) hg; replace HB := bs HB hb; have NB132_133 := nl BK132 hg; have NB133_132 := ng BK132 hg; replace BK132 := kb BK132 hb; clear hb hbox hg; have hnb19 := NB132_133.out; have hnc19 := NB133_132.out; have hz20_1 := bz BK132; have hz21_2 := bz BK133))
  refine bodyPost_ret (results_cell_row rfl _ _ gb133 24 #[.bool a0_2, .slice A0_3 l0_3.length c0_3] (0, 0) _ rfl (by refine blk_put (cs := #[.bool a0_2, .slice none 0 0]) ?_ 1 _ rfl; refine blk_put (cs := #[.bool false, .slice none 0 0]) ?_ 0 _ rfl; exact BK133.out) Tryz.underlying24 rfl (by kernel_rfl)) rfl ?_
  exact ⟨_, fe, vt (Kd.V_mono (Kd.V_far (p := ⟨gb133, 1, none⟩) (Kd.V_far (p := ⟨gb133, 0, none⟩) (Kd.V_mono HO0_3.out (fun k_ hk => (⟨hk, hk.2⟩ : _ ∧ k_ ≠ gb133))) (fun _ hk => hk.2) (.bool a0_2)) (fun _ hk => hk.2) (.slice A0_3 l0_3.length c0_3)) (fun _ hk => hk.1.1.1)), bls HB⟩
 rw [if_pos c2] at H
 have c2b0 := beq_iff_eq.mpr c2
 have c2b1 := bne_eq_false_iff_eq.mpr c2
 clear c2
 by_cases c3 : a0_1 = true
 case neg =>
  replace c3 := Bool.eq_false_iff.mpr c3
  subst c3
  rw [if_neg Bool.false_ne_true] at H
  simp only [Option.some.injEq, Prod.mk.injEq] at H
  obtain ⟨rfl, rfl⟩ := H
  go_enter Tryz.func37, Tryz.ntmps37
  go_wp2_with (first | (refine be 1 #[.int .i64 a0_0, .bool false, .bool a0_2, .slice A0_3 l0_3.length c0_3, .int .u64 a0_4, .string a0_5, .slice A0_6 l0_6.length c0_6] 28 ?_; intro gb132 hg w12 hbox hb; replace HO0_3 := Az (Kd.V_below (Kd.V_elderB (vk HO0_3) gb132 (Nat.le_of_eq hg.symm)) hb); have BK132 := Az (hbox); have GW132 := gw (bl HB) hg; have GE132 := gw (bl HB) hg; replace HB := bs HB hb; clear hb hbox hg) | (refine be 2 #[.bool false, .slice none 0 0] 24 ?_; intro gb133 hg w13 hbox hb; replace HO0_3 := Az (Kd.V_below (Kd.V_elderB (vk HO0_3) gb133 (Nat.le_of_eq hg.symm)) hb); have BK133 := Az (hbox); have GW133 := gw (bls HB) hg; have GE133 := gw (bls HB) hg; replace HB := bs HB hb; have NB132_133 := nl BK132 hg; have NB133_132 := ng BK132 hg; replace BK132 := kb BK132 hb; clear hb hbox hg; have hnb14 := NB132_133.out; have hnc14 := NB133_132.out; have hz15_1 := bz BK132; have hz16_2 := bz BK133))
  refine bodyPost_ret (results_cell_row rfl _ _ gb133 24 #[.bool false, .slice none 0 0] (0, 0) _ rfl (by refine blk_put (cs := #[.bool false, .slice none 0 0]) ?_ 1 _ rfl; refine blk_put (cs := #[.bool false, .slice none 0 0]) ?_ 0 _ rfl; exact BK133.out) Tryz.underlying24 rfl (by kernel_rfl)) rfl ?_
  exact ⟨_, fe, Kd.V_nil _ _ _ _ _, bls HB⟩
 subst c3
 rw [if_pos rfl] at H
 obtain ⟨⟨t134, t135⟩, A4, H⟩ := bd H
 (try dsimp only at H)
 simp only [Option.some.injEq, Prod.mk.injEq] at H
 obtain ⟨rfl, rfl⟩ := H
 go_enter Tryz.func37, Tryz.ntmps37
 go_wp2_with (first | (refine be 1 #[.int .i64 a0_0, .bool true, .bool a0_2, .slice A0_3 l0_3.length c0_3, .int .u64 a0_4, .string a0_5, .slice A0_6 l0_6.length c0_6] 28 ?_; intro gb132 hg w5 hbox hb; replace HO0_3 := Az (Kd.V_below (Kd.V_elderB (vk HO0_3) gb132 (Nat.le_of_eq hg.symm)) hb); have BK132 := Az (hbox); have GW132 := gw (bl HB) hg; have GE132 := gw (bl HB) hg; replace HB := bs HB hb; clear hb hbox hg) | (refine be 2 #[.bool false, .slice none 0 0] 24 ?_; intro gb133 hg w6 hbox hb; replace HO0_3 := Az (Kd.V_below (Kd.V_elderB (vk HO0_3) gb133 (Nat.le_of_eq hg.symm)) hb); have BK133 := Az (hbox); have GW133 := gw (bls HB) hg; have GE133 := gw (bls HB) hg; replace HB := bs HB hb; have NB132_133 := nl BK132 hg; have NB133_132 := ng BK132 hg; replace BK132 := kb BK132 hb; clear hb hbox hg; have hnb7 := NB132_133.out; have hnc7 := NB133_132.out; have hz8_1 := bz BK132) | (refine gl (some 8) Tryz.func65 #[.int .i64 1] ?_; (with_reducible refine (o_Of.calls 1 t134 t135 _ A4.out).mono ?_); rintro e w9 ⟨v136, rfl, ho0, hb⟩; refine ⟨_, rfl, ?_⟩; replace HO0_3 := Az (Kd.V_elder' (vk HO0_3) (Kd.R_base ho0) hb); have HO137 := Az (Kd.R_lower (Kd.R_newM (M := fun k_ => (w.heap.size ≤ k_)) ho0 (below_size (bls HB)) (fun k_ h_ => h_)) (below_size (bls HB))); replace BK132 := kb BK132 hb; replace BK133 := kb BK133 hb; replace HB := bs HB hb; have hz10_1 := bz BK133; obtain ⟨Ao11, co11, eo11⟩ := Kd.R_slice HO137.out; subst eo11))
 refine bodyPost_ret (results_cell_row rfl _ _ gb133 24 #[.bool t134, .slice Ao11 t135.length co11] (0, 0) _ rfl (by refine blk_put (cs := #[.bool t134, .slice none 0 0]) ?_ 1 _ rfl; refine blk_put (cs := #[.bool false, .slice none 0 0]) ?_ 0 _ rfl; exact BK133.out) Tryz.underlying24 rfl (by kernel_rfl)) rfl ?_
 exact ⟨_, fe, Kd.V_mono (Kd.R_V (rt (Kd.R_mono (Kd.R_far (p := ⟨gb133, 1, none⟩) (Kd.R_far (p := ⟨gb133, 0, none⟩) (Kd.R_types HO137.out BK133.out (by decide)) (fun _ hk => hk.2) (.bool t134)) (fun _ hk => hk.2) (.slice Ao11 t135.length co11)) (fun _ hk => hk.1.1)))) (fun k_ hk => by first | exact ⟨(.inr (hk.1)), hk.2⟩ | exact (.inr (hk))), bls HB⟩
def p_order.j0 : Nat → Bool → Int → Bool → Bool → List Int → Int → ByteArray → List (S28) → Int → Bool → Bool → List Int → Int → ByteArray → List (S28) → Option (Int × Bool)
 | 0, _, _, _, _, _, _, _, _, _, _, _, _, _, _, _ => none
 | k + 1, x8, x401000, x401001, x401002, x401003, x401004, x401005, x401006, x402000, x402001, x402002, x402003, x402004, x402005, x402006 => if x8 = true then ((e_Cmp.f x401004 x402004).bind fun bt402 => (some (bt402.1, bt402.2))) else (if x401000 = 3 then ((p_count.f x402000 x402001 x402002 x402003 x402004 x402005 x402006).bind fun bt404 => ((e_CmpBig.f k x401004 bt404.1 bt404.2).bind fun bt408 => (some (bt408.1, bt408.2)))) else (if x402000 = 3 then ((p_count.f x401000 x401001 x401002 x401003 x401004 x401005 x401006).bind fun bt410 => ((e_CmpBig.f k x402004 bt410.1 bt410.2).bind fun bt414 => (some (wrap64 (-bt414.1), bt414.2)))) else ((p_count.f x401000 x401001 x401002 x401003 x401004 x401005 x401006).bind fun bt416 => ((p_count.f x402000 x402001 x402002 x402003 x402004 x402005 x402006).bind fun bt420 => ((o_Cmp.f k bt416.1 bt416.2 bt420.1 bt420.2).bind fun t424 => (some (t424, true)))))))
def p_order.f (k : Nat) (a0_0 : Int) (a0_1 a0_2 : Bool) (l0_3 : List Int) (a0_4 : Int) (a0_5 : ByteArray) (l0_6 : List (S28)) (a1_0 : Int) (a1_1 a1_2 : Bool) (l1_3 : List Int) (a1_4 : Int) (a1_5 : ByteArray) (l1_6 : List (S28)) : Option (Int × Bool) := if a0_0 = 3 then (p_order.j0 k (a1_0 == 3) a0_0 a0_1 a0_2 l0_3 a0_4 a0_5 l0_6 a1_0 a1_1 a1_2 l1_3 a1_4 a1_5 l1_6) else (p_order.j0 k false a0_0 a0_1 a0_2 l0_3 a0_4 a0_5 l0_6 a1_0 a1_1 a1_2 l1_3 a1_4 a1_5 l1_6)
theorem p_order.mono_l : ∀ k, (∀ y0 y1 y2 y3 y4 y5 y6 y7 y8 y9 y10 y11 y12 y13 y14, LeO (p_order.j0 k y0 y1 y2 y3 y4 y5 y6 y7 y8 y9 y10 y11 y12 y13 y14) (p_order.j0 (k + 1) y0 y1 y2 y3 y4 y5 y6 y7 y8 y9 y10 y11 y12 y13 y14))
 | 0 => fun _ _ _ _ _ _ _ _ _ _ _ _ _ _ _ r h => by simp [p_order.j0] at h
 | k + 1 => by
  have ih0 := p_order.mono_l k
  ·intro y0 y1 y2 y3 y4 y5 y6 y7 y8 y9 y10 y11 y12 y13 y14
   unfold p_order.j0
   repeat' first
   | exact ih0 _ _ _ _ _ _ _ _ _ _ _ _ _ _ _
   | exact e_CmpBig.mono _ _ _ _
   | exact o_Cmp.mono _ _ _ _ _
   | exact LeO.refl _
   | exact LeO.none _
   | refine LeO.ite ?_ ?_
   | refine LeO.bind ?_ (fun _ => ?_)
theorem p_order.mono : ∀ a0 a1 a2 a3 a4 a5 a6 a7 a8 a9 a10 a11 a12 a13 k, LeO (p_order.f k a0 a1 a2 a3 a4 a5 a6 a7 a8 a9 a10 a11 a12 a13) (p_order.f (k + 1) a0 a1 a2 a3 a4 a5 a6 a7 a8 a9 a10 a11 a12 a13) := by
 intro a0 a1 a2 a3 a4 a5 a6 a7 a8 a9 a10 a11 a12 a13 k
 have ih0 := p_order.mono_l k
 unfold p_order.f
 repeat' first
   | exact ih0 _ _ _ _ _ _ _ _ _ _ _ _ _ _ _
   | exact e_CmpBig.mono _ _ _ _
   | exact o_Cmp.mono _ _ _ _ _
   | exact LeO.refl _
   | exact LeO.none _
   | refine LeO.ite ?_ ?_
   | refine LeO.bind ?_ (fun _ => ?_)
def p_order.T4 : Bool × List (List Nat × List Nat) := (true, [([], []), ([0], [0]), ([], []), ([2], [2]), ([1, 3, 3], [1, 3]), ([4], [4]), ([4], [4]), ([5, 4, 0, 1, 2, 3, 4, 5, 6], [5]), ([6, 7, 0, 1, 2, 3, 4, 5, 6, 7], [6])])
def p_order.B4 : List Nat := [0, 1, 0, 4, 15, 31, 31, 127, 255]
theorem p_order.tab4 : rtab .any (opsOf Tryz.f27 4) = p_order.T4 := by kernel_rfl
theorem p_order.bits4 : waitsOk p_order.T4.2 p_order.B4 = true := by kernel_rfl
def p_order.T6 : Bool × List (List Nat × List Nat) := (true, [([], []), ([0], [0]), ([], []), ([2], [2]), ([1, 3, 3], [1, 3]), ([4], [4]), ([5], [5]), ([5], [5]), ([6, 4, 0, 1, 2, 3, 4, 5, 6], [6]), ([7, 8, 0, 1, 2, 3, 4, 5, 6, 7, 8], [7])])
def p_order.B6 : List Nat := [0, 1, 0, 4, 15, 31, 63, 63, 127, 511]
theorem p_order.tab6 : rtab .any (opsOf Tryz.f27 6) = p_order.T6 := by kernel_rfl
theorem p_order.bits6 : waitsOk p_order.T6.2 p_order.B6 = true := by kernel_rfl
theorem p_order.calls (k : Nat) (a0_0 : Int) (a0_1 a0_2 : Bool) (A0_3 : Option Addr) (c0_3 : Nat) (l0_3 : List Int) (a0_4 : Int) (a0_5 : ByteArray) (A0_6 : Option Addr) (c0_6 : Nat) (l0_6 : List (S28)) (a1_0 : Int) (a1_1 a1_2 : Bool) (A1_3 : Option Addr) (c1_3 : Nat) (l1_3 : List Int) (a1_4 : Int) (a1_5 : ByteArray) (A1_6 : Option Addr) (c1_6 : Nat) (l1_6 : List (S28)) (r1 : Int) (r2 : Bool) (w : World) (hr0_3 : Kd.C (Kd.int .u64) w A0_3 l0_3.length l0_3) (hc0_3 : l0_3.length ≤ c0_3) (hr0_6 : Kd.C k28 w A0_6 l0_6.length l0_6) (hc0_6 : l0_6.length ≤ c0_6) (hr1_3 : Kd.C (Kd.int .u64) w A1_3 l1_3.length l1_3) (hc1_3 : l1_3.length ≤ c1_3) (hr1_6 : Kd.C k28 w A1_6 l1_6.length l1_6) (hc1_6 : l1_6.length ≤ c1_6) (h : p_order.f k a0_0 a0_1 a0_2 l0_3 a0_4 a0_5 l0_6 a1_0 a1_1 a1_2 l1_3 a1_4 a1_5 l1_6 = some (r1, r2)) :
  Calls Tryz.prog 27 #[.agg #[.int .i64 a0_0, .bool a0_1, .bool a0_2, .slice A0_3 l0_3.length c0_3, .int .u64 a0_4, .string a0_5, .slice A0_6 l0_6.length c0_6], .agg #[.int .i64 a1_0, .bool a1_1, .bool a1_2, .slice A1_3 l1_3.length c1_3, .int .u64 a1_4, .string a1_5, .slice A1_6 l1_6.length c1_6]] w fun e w' => e = .returned (.tuple #[.int .i64 r1, .bool r2]) ∧ Below w.heap.size w w' := by
 have hu28 := Tryz.underlying28
 have HR0_3 := Az hr0_3
 have HC0_3 := Az hc0_3
 clear hr0_3 hc0_3
 have HR0_6 := Az hr0_6
 have HC0_6 := Az hc0_6
 clear hr0_6 hc0_6
 have HR1_3 := Az hr1_3
 have HC1_3 := Az hc1_3
 clear hr1_3 hc1_3
 have HR1_6 := Az hr1_6
 have HC1_6 := Az hc1_6
 clear hr1_6 hc1_6
 have HB := Az (Below.refl w.heap.size w)
 have H := h
 unfold p_order.f at H
 clear h
 have HC3 := Az H
 clear H
 go_enter Tryz.func27, Tryz.ntmps27
 go_upto_region 1 with (first | (refine be 2 #[.int .i64 a0_0, .bool a0_1, .bool a0_2, .slice A0_3 l0_3.length c0_3, .int .u64 a0_4, .string a0_5, .slice A0_6 l0_6.length c0_6] 28 ?_; intro gb400 hg w4 hbox hb; have BK400 := Az (hbox); have GW400 := gw (bl HB) hg; have GE400 := gw (bl HB) hg; replace HB := bs HB hb; clear hb hbox hg) | (refine be 3 #[.int .i64 a1_0, .bool a1_1, .bool a1_2, .slice A1_3 l1_3.length c1_3, .int .u64 a1_4, .string a1_5, .slice A1_6 l1_6.length c1_6] 28 ?_; intro gb401 hg w5 hbox hb; have BK401 := Az (hbox); have GW401 := gw (bls HB) hg; have GE401 := gw (bls HB) hg; replace HB := bs HB hb; have NB400_401 := nl BK400 hg; have NB401_400 := ng BK400 hg; replace BK400 := kb BK400 hb; clear hb hbox hg))
 go_cut [8] (fun v8 wc => ∃ (kq : Nat) (x8_2 : Bool), v8 = .bool x8_2 ∧ Aside0 (p_order.j0 kq x8_2 a0_0 a0_1 a0_2 l0_3 a0_4 a0_5 l0_6 a1_0 a1_1 a1_2 l1_3 a1_4 a1_5 l1_6 = some (r1, r2)) ∧ Aside0 (kq ≤ k) ∧ Aside0 (wc.heap[gb400]? = some (.cells #[.int .i64 a0_0, .bool a0_1, .bool a0_2, (.slice A0_3 l0_3.length c0_3), .int .u64 a0_4, .string a0_5, (.slice A0_6 l0_6.length c0_6)] 28 (0, 0))) ∧ Aside0 (wc.heap[gb401]? = some (.cells #[.int .i64 a1_0, .bool a1_1, .bool a1_2, (.slice A1_3 l1_3.length c1_3), .int .u64 a1_4, .string a1_5, (.slice A1_6 l1_6.length c1_6)] 28 (0, 0))) ∧ Aside0 (Below w.heap.size w wc))
 case first =>
  have H := HC3.out
  clear HC3
  by_cases c6 : a0_0 = 3
  case neg =>
   rw [if_neg c6] at H
   have c6b0 := beq_eq_false_iff_ne.mpr c6
   have c6b1 := bne_iff_ne.mpr c6
   (first | rw [c6b0] | (simp only [i64_w, i32_w]; rw [c6b0]) | skip)
   have H' := Az H
   clear H
   have hnb10 := NB400_401.out
   have hnc10 := NB401_400.out
   have hz11_1 := bz BK400
   go_wp2
   go_meet
   case rel => exact ⟨_, (false), rs, H', ⟨le0⟩, ⟨bk BK400⟩, ⟨bk BK401⟩, ⟨bls HB⟩⟩
  rw [if_pos c6] at H
  have c6b0 := beq_iff_eq.mpr c6
  have c6b1 := bne_eq_false_iff_eq.mpr c6
  clear c6
  (first | rw [c6b0] | (simp only [i64_w, i32_w]; rw [c6b0]) | skip)
  have H' := Az H
  clear H
  have hnb7 := NB400_401.out
  have hnc7 := NB401_400.out
  have hz8_1 := bz BK400
  have hz9_2 := bz BK401
  go_wp2
  go_meet
  case rel => exact ⟨_, ((a1_0 == 3)), rs, H', ⟨le0⟩, ⟨bk BK400⟩, ⟨bk BK401⟩, ⟨bls HB⟩⟩
 case rest =>
  clear HC3
  obtain ⟨kq, x8_2, rfl, HA, HJ2, BK400, BK401, HB⟩ := hcut
  cases kq with
  | zero => exact absurd HA.out (by simp [p_order.j0])
  | succ kj2 =>
   have H := HA.out
   clear HA
   simp only [p_order.j0] at H
   by_cases c12 : x8_2 = true
   ·subst c12
    rw [if_pos rfl] at H
    obtain ⟨⟨t402, t403⟩, A13, H⟩ := bd H
    simp only [Option.some.injEq, Prod.mk.injEq] at H
    obtain ⟨rfl, rfl⟩ := H
    have hnb14 := NB400_401.out
    have hnc14 := NB401_400.out
    have hz15_1 := bz BK400
    have hz16_2 := bz BK401
    go_wp2_with (first | (refine gl (some 21) Tryz.func48 #[.int .u64 a0_4, .int .u64 a1_4] ?_; (with_reducible refine (e_Cmp.calls a0_4 a1_4 t402 t403 _ A13.out).mono ?_); rintro e w' ⟨rfl, ⟨nd, rfl⟩⟩; refine ⟨_, rfl, ?_⟩))
    go_ret2
    exact ⟨fe, bls HB⟩
   replace c12 := Bool.eq_false_iff.mpr c12
   subst c12
   rw [if_neg Bool.false_ne_true] at H
   by_cases c17 : a0_0 = 3
   ·rw [if_pos c17] at H
    have c17b0 := beq_iff_eq.mpr c17
    have c17b1 := bne_eq_false_iff_eq.mpr c17
    clear c17
    obtain ⟨⟨t404, t405⟩, A18, H⟩ := bd H
    obtain ⟨⟨t408, t409⟩, A19, H⟩ := bd H
    simp only [Option.some.injEq, Prod.mk.injEq] at H
    obtain ⟨rfl, rfl⟩ := H
    have hnb20 := NB400_401.out
    have hnc20 := NB401_400.out
    have hz21_1 := bz BK400
    try go_wp2
    replace BK400 := Az (blk_drew BK400.out)
    replace BK401 := Az (blk_drew BK401.out)
    replace HB := Az (below_drew1 HB.out)
    refine start_ (n := 9) (S := fun w' => w'.cell? ⟨gb400, 0, none⟩ = some (.int .i64 a0_0) ∧ w'.cell? ⟨gb400, 1, none⟩ = some (.bool a0_1) ∧ w'.cell? ⟨gb400, 2, none⟩ = some (.bool a0_2) ∧ w'.cell? ⟨gb400, 3, none⟩ = some (.slice A0_3 l0_3.length c0_3) ∧ w'.cell? ⟨gb400, 4, none⟩ = some (.int .u64 a0_4) ∧ w'.cell? ⟨gb400, 5, none⟩ = some (.string a0_5) ∧ w'.cell? ⟨gb400, 6, none⟩ = some (.slice A0_6 l0_6.length c0_6) ∧ w'.cell? ⟨gb401, 0, none⟩ = some (.int .i64 a1_0) ∧ w'.cell? ⟨gb401, 1, none⟩ = some (.bool a1_1) ∧ w'.cell? ⟨gb401, 2, none⟩ = some (.bool a1_2) ∧ w'.cell? ⟨gb401, 3, none⟩ = some (.slice A1_3 l1_3.length c1_3) ∧ w'.cell? ⟨gb401, 4, none⟩ = some (.int .u64 a1_4) ∧ w'.cell? ⟨gb401, 5, none⟩ = some (.string a1_5) ∧ w'.cell? ⟨gb401, 6, none⟩ = some (.slice A1_6 l1_6.length c1_6)) (ds := []) (bm 9 0) (by kernel_rfl) rfl rfl ⟨(blk_cell BK400.out 0).trans rfl, (blk_cell BK400.out 1).trans rfl, (blk_cell BK400.out 2).trans rfl, (blk_cell BK400.out 3).trans rfl, (blk_cell BK400.out 4).trans rfl, (blk_cell BK400.out 5).trans rfl, (blk_cell BK400.out 6).trans rfl, (blk_cell BK401.out 0).trans rfl, (blk_cell BK401.out 1).trans rfl, (blk_cell BK401.out 2).trans rfl, (blk_cell BK401.out 3).trans rfl, (blk_cell BK401.out 4).trans rfl, (blk_cell BK401.out 5).trans rfl, (blk_cell BK401.out 6).trans rfl⟩ (fun hHeld => ?_); refine with_tabW p_order.tab4 p_order.bits4 (fun HT_ HW_ => ?_)
    generalize wc.drew = w22 at BK400 BK401 HB hHeld ⊢
    refine pu 0 (some 28) (bm 9 1) HT_.out ?_
    refine tk 1 (some 29) (bm 9 3) HT_.out HW_.out hHeld ?_
    refine tk 2 (some 30) (bm 9 7) HT_.out HW_.out hHeld ?_
    refine on 3 (some 31) (bm 9 15) HT_.out (fun K hK => ?_)
    refine gs Tryz.func37 #[.agg #[.int .i64 a1_0, .bool a1_1, .bool a1_2, .slice A1_3 l1_3.length c1_3, .int .u64 a1_4, .string a1_5, .slice A1_6 l1_6.length c1_6]] ?_
    with_reducible refine (p_count.calls a1_0 a1_1 a1_2 (fun k_ => k_ < w.heap.size) _ _ l1_3 a1_4 a1_5 _ _ l1_6 t404 t405 _ ?side1 (ck HR1_6 HB) HC1_6.out A18.out).mono ?_
    (case side1 => exact Kd.V_mk HC1_3.out (Kd.F_below (Kd.C_F (Kd.heap_int .u64) HR1_3.out) (bls HB)))
    rintro e w23 ⟨v406, rfl, ho0, hb⟩
    refine ⟨_, rfl, ?_⟩
    have HO407 := Az (Kd.V_lower (Kd.V_mono (ok' := fun k_ => k_ ≠ gb400 ∧ k_ ≠ gb401) ho0 (fun k_ hk_ => ⟨Or.elim hk_ (fun hs_ => fun e_ => Nat.not_le.2 hs_ (by rw [e_]; exact GW400.out)) (fun hn_ => (Kd.freshB (g := gb400) (o := .cells #[.int .i64 a0_0, .bool a0_1, .bool a0_2, .slice A0_3 l0_3.length c0_3, .int .u64 a0_4, .string a0_5, .slice A0_6 l0_6.length c0_6] 28 (0, 0)) (bk BK400) k_ hn_)), Or.elim hk_ (fun hs_ => fun e_ => Nat.not_le.2 hs_ (by rw [e_]; exact GW401.out)) (fun hn_ => (Kd.freshB (g := gb401) (o := .cells #[.int .i64 a1_0, .bool a1_1, .bool a1_2, .slice A1_3 l1_3.length c1_3, .int .u64 a1_4, .string a1_5, .slice A1_6 l1_6.length c1_6] 28 (0, 0)) (bk BK401) k_ hn_))⟩)) (below_size (bls HB)))
    replace BK400 := kb BK400 hb
    replace BK401 := kb BK401 hb
    replace HB := bs HB hb
    obtain ⟨Ao24, co24, eo24⟩ := Kd.V_slice HO407.out
    (first | subst eo24 | (injection eo24 with f1_ f2_ f3_; have f4_ := f1_.symm; have f5_ := f3_.symm; clear f1_ f2_ f3_; subst f4_; subst f5_))
    refine hK.out _ _ hd (fun hHeld => ?_)
    clear hK K
    refine nm ?_
    refine on 4 (some 32) (bm 9 31) HT_.out (fun K hK => ?_)
    refine gs Tryz.func49 #[.int .u64 a0_4, .agg #[.bool t404, .slice Ao24 t405.length co24]] ?_
    with_reducible refine (e_CmpBig.calls kj2 a0_4 t404 _ _ t405 t408 t409 _ ?side1 (Kd.V_reads' HO407.out).2.1 A19.out).mono ?_
    (case side1 => exact (Kd.V_reads' HO407.out).2.2)
    rintro e w25 ⟨rfl, hb⟩
    refine ⟨_, rfl, ?_⟩
    replace HO407 := Az (Kd.V_below (vk HO407) hb)
    replace BK400 := kb BK400 hb
    replace BK401 := kb BK401 hb
    replace HB := bs HB hb
    refine hK.out _ _ hd (fun hHeld => ?_)
    clear hK K
    refine nm ?_
    refine pu 5 (some 33) (bm 9 63) HT_.out ?_
    refine pu 6 (some 34) (bm 9 127) HT_.out ?_
    refine pu 7 (some 4) (bm 9 255) HT_.out ?_
    refine pu 8 (some 5) (bm 9 511) HT_.out ?_
    refine done_ (done_of HT_.out (by kernel_rfl)) ?_
    try go_wp2
    go_ret2
    exact ⟨fe, bls HB⟩
   rw [if_neg c17] at H
   have c17b0 := beq_eq_false_iff_ne.mpr c17
   have c17b1 := bne_iff_ne.mpr c17
   by_cases c26 : a1_0 = 3
   ·rw [if_pos c26] at H
    have c26b0 := beq_iff_eq.mpr c26
    have c26b1 := bne_eq_false_iff_eq.mpr c26
    clear c26
    obtain ⟨⟨t410, t411⟩, A27, H⟩ := bd H
    obtain ⟨⟨t414, t415⟩, A28, H⟩ := bd H
    simp only [Option.some.injEq, Prod.mk.injEq] at H
    obtain ⟨rfl, rfl⟩ := H
    have hnb29 := NB400_401.out
    have hnc29 := NB401_400.out
    have hz30_1 := bz BK400
    have hz31_2 := bz BK401
    try go_wp2
    replace BK400 := Az (blk_drew BK400.out)
    replace BK401 := Az (blk_drew BK401.out)
    replace HB := Az (below_drew1 HB.out)
    refine start_ (n := 10) (S := fun w' => w'.cell? ⟨gb401, 0, none⟩ = some (.int .i64 a1_0) ∧ w'.cell? ⟨gb401, 1, none⟩ = some (.bool a1_1) ∧ w'.cell? ⟨gb401, 2, none⟩ = some (.bool a1_2) ∧ w'.cell? ⟨gb401, 3, none⟩ = some (.slice A1_3 l1_3.length c1_3) ∧ w'.cell? ⟨gb401, 4, none⟩ = some (.int .u64 a1_4) ∧ w'.cell? ⟨gb401, 5, none⟩ = some (.string a1_5) ∧ w'.cell? ⟨gb401, 6, none⟩ = some (.slice A1_6 l1_6.length c1_6) ∧ w'.cell? ⟨gb400, 0, none⟩ = some (.int .i64 a0_0) ∧ w'.cell? ⟨gb400, 1, none⟩ = some (.bool a0_1) ∧ w'.cell? ⟨gb400, 2, none⟩ = some (.bool a0_2) ∧ w'.cell? ⟨gb400, 3, none⟩ = some (.slice A0_3 l0_3.length c0_3) ∧ w'.cell? ⟨gb400, 4, none⟩ = some (.int .u64 a0_4) ∧ w'.cell? ⟨gb400, 5, none⟩ = some (.string a0_5) ∧ w'.cell? ⟨gb400, 6, none⟩ = some (.slice A0_6 l0_6.length c0_6)) (ds := []) (bm 10 0) (by kernel_rfl) rfl rfl ⟨(blk_cell BK401.out 0).trans rfl, (blk_cell BK401.out 1).trans rfl, (blk_cell BK401.out 2).trans rfl, (blk_cell BK401.out 3).trans rfl, (blk_cell BK401.out 4).trans rfl, (blk_cell BK401.out 5).trans rfl, (blk_cell BK401.out 6).trans rfl, (blk_cell BK400.out 0).trans rfl, (blk_cell BK400.out 1).trans rfl, (blk_cell BK400.out 2).trans rfl, (blk_cell BK400.out 3).trans rfl, (blk_cell BK400.out 4).trans rfl, (blk_cell BK400.out 5).trans rfl, (blk_cell BK400.out 6).trans rfl⟩ (fun hHeld => ?_); refine with_tabW p_order.tab6 p_order.bits6 (fun HT_ HW_ => ?_)
    generalize wc.drew = w32 at BK400 BK401 HB hHeld ⊢
    refine pu 0 (some 40) (bm 10 1) HT_.out ?_
    refine tk 1 (some 41) (bm 10 3) HT_.out HW_.out hHeld ?_
    refine tk 2 (some 42) (bm 10 7) HT_.out HW_.out hHeld ?_
    refine on 3 (some 43) (bm 10 15) HT_.out (fun K hK => ?_)
    refine gs Tryz.func37 #[.agg #[.int .i64 a0_0, .bool a0_1, .bool a0_2, .slice A0_3 l0_3.length c0_3, .int .u64 a0_4, .string a0_5, .slice A0_6 l0_6.length c0_6]] ?_
    with_reducible refine (p_count.calls a0_0 a0_1 a0_2 (fun k_ => k_ < w.heap.size) _ _ l0_3 a0_4 a0_5 _ _ l0_6 t410 t411 _ ?side1 (ck HR0_6 HB) HC0_6.out A27.out).mono ?_
    (case side1 => exact Kd.V_mk HC0_3.out (Kd.F_below (Kd.C_F (Kd.heap_int .u64) HR0_3.out) (bls HB)))
    rintro e w33 ⟨v412, rfl, ho0, hb⟩
    refine ⟨_, rfl, ?_⟩
    have HO413 := Az (Kd.V_lower (Kd.V_mono (ok' := fun k_ => k_ ≠ gb400 ∧ k_ ≠ gb401) ho0 (fun k_ hk_ => ⟨Or.elim hk_ (fun hs_ => fun e_ => Nat.not_le.2 hs_ (by rw [e_]; exact GW400.out)) (fun hn_ => (Kd.freshB (g := gb400) (o := .cells #[.int .i64 a0_0, .bool a0_1, .bool a0_2, .slice A0_3 l0_3.length c0_3, .int .u64 a0_4, .string a0_5, .slice A0_6 l0_6.length c0_6] 28 (0, 0)) (bk BK400) k_ hn_)), Or.elim hk_ (fun hs_ => fun e_ => Nat.not_le.2 hs_ (by rw [e_]; exact GW401.out)) (fun hn_ => (Kd.freshB (g := gb401) (o := .cells #[.int .i64 a1_0, .bool a1_1, .bool a1_2, .slice A1_3 l1_3.length c1_3, .int .u64 a1_4, .string a1_5, .slice A1_6 l1_6.length c1_6] 28 (0, 0)) (bk BK401) k_ hn_))⟩)) (below_size (bls HB)))
    replace BK400 := kb BK400 hb
    replace BK401 := kb BK401 hb
    replace HB := bs HB hb
    obtain ⟨Ao34, co34, eo34⟩ := Kd.V_slice HO413.out
    (first | subst eo34 | (injection eo34 with f1_ f2_ f3_; have f4_ := f1_.symm; have f5_ := f3_.symm; clear f1_ f2_ f3_; subst f4_; subst f5_))
    refine hK.out _ _ hd (fun hHeld => ?_)
    clear hK K
    refine nm ?_
    refine on 4 (some 44) (bm 10 31) HT_.out (fun K hK => ?_)
    refine gs Tryz.func49 #[.int .u64 a1_4, .agg #[.bool t410, .slice Ao34 t411.length co34]] ?_
    with_reducible refine (e_CmpBig.calls kj2 a1_4 t410 _ _ t411 t414 t415 _ ?side1 (Kd.V_reads' HO413.out).2.1 A28.out).mono ?_
    (case side1 => exact (Kd.V_reads' HO413.out).2.2)
    rintro e w35 ⟨rfl, hb⟩
    refine ⟨_, rfl, ?_⟩
    replace HO413 := Az (Kd.V_below (vk HO413) hb)
    replace BK400 := kb BK400 hb
    replace BK401 := kb BK401 hb
    replace HB := bs HB hb
    refine hK.out _ _ hd (fun hHeld => ?_)
    clear hK K
    refine nm ?_
    refine pu 5 (some 39) (bm 10 63) HT_.out ?_
    refine pu 6 (some 45) (bm 10 127) HT_.out ?_
    refine pu 7 (some 46) (bm 10 255) HT_.out ?_
    refine pu 8 (some 6) (bm 10 511) HT_.out ?_
    refine pu 9 (some 7) (bm 10 1023) HT_.out ?_
    refine done_ (done_of HT_.out (by kernel_rfl)) ?_
    try go_wp2
    go_ret2
    exact ⟨fe, bls HB⟩
   rw [if_neg c26] at H
   have c26b0 := beq_eq_false_iff_ne.mpr c26
   have c26b1 := bne_iff_ne.mpr c26
   obtain ⟨⟨t416, t417⟩, A36, H⟩ := bd H
   obtain ⟨⟨t420, t421⟩, A37, H⟩ := bd H
   obtain ⟨t424, A38, H⟩ := bd H
   simp only [Option.some.injEq, Prod.mk.injEq] at H
   obtain ⟨rfl, rfl⟩ := H
   have hnb39 := NB400_401.out
   have hnc39 := NB401_400.out
   have hz40_1 := bz BK400
   have hz41_2 := bz BK401
   try go_wp2
   replace BK400 := Az (blk_drew BK400.out)
   replace BK401 := Az (blk_drew BK401.out)
   replace HB := Az (below_drew1 HB.out)
   refine start_ (n := 7) (S := fun w' => w'.cell? ⟨gb400, 0, none⟩ = some (.int .i64 a0_0) ∧ w'.cell? ⟨gb400, 1, none⟩ = some (.bool a0_1) ∧ w'.cell? ⟨gb400, 2, none⟩ = some (.bool a0_2) ∧ w'.cell? ⟨gb400, 3, none⟩ = some (.slice A0_3 l0_3.length c0_3) ∧ w'.cell? ⟨gb400, 4, none⟩ = some (.int .u64 a0_4) ∧ w'.cell? ⟨gb400, 5, none⟩ = some (.string a0_5) ∧ w'.cell? ⟨gb400, 6, none⟩ = some (.slice A0_6 l0_6.length c0_6) ∧ w'.cell? ⟨gb401, 0, none⟩ = some (.int .i64 a1_0) ∧ w'.cell? ⟨gb401, 1, none⟩ = some (.bool a1_1) ∧ w'.cell? ⟨gb401, 2, none⟩ = some (.bool a1_2) ∧ w'.cell? ⟨gb401, 3, none⟩ = some (.slice A1_3 l1_3.length c1_3) ∧ w'.cell? ⟨gb401, 4, none⟩ = some (.int .u64 a1_4) ∧ w'.cell? ⟨gb401, 5, none⟩ = some (.string a1_5) ∧ w'.cell? ⟨gb401, 6, none⟩ = some (.slice A1_6 l1_6.length c1_6)) (ds := []) (bm 7 0) (by kernel_rfl) rfl rfl ⟨(blk_cell BK400.out 0).trans rfl, (blk_cell BK400.out 1).trans rfl, (blk_cell BK400.out 2).trans rfl, (blk_cell BK400.out 3).trans rfl, (blk_cell BK400.out 4).trans rfl, (blk_cell BK400.out 5).trans rfl, (blk_cell BK400.out 6).trans rfl, (blk_cell BK401.out 0).trans rfl, (blk_cell BK401.out 1).trans rfl, (blk_cell BK401.out 2).trans rfl, (blk_cell BK401.out 3).trans rfl, (blk_cell BK401.out 4).trans rfl, (blk_cell BK401.out 5).trans rfl, (blk_cell BK401.out 6).trans rfl⟩ (fun hHeld => ?_)
   generalize wc.drew = w42 at BK400 BK401 HB hHeld ⊢
   refine take_ (i := 0) (N := some 50) (v := ?_) (a' := ?_) (bm 7 1) rfl rfl (by kernel_rfl) (fun _ _ _ h => h) (Or.inl ⟨by rfl, ?_⟩) hHeld ?_ ?_
   rotate_left
   ·rintro w' ⟨s0, s1, s2, s3, s4, s5, s6, s7, s8, s9, s10, s11, s12, s13⟩
    go_simp
    with_reducible rfl
   rotate_left
   ·simp only [Act.put, List.setIfInBounds_toArray, List.set_cons_zero, List.set_cons_succ, i64_w, i32_w]
    rfl
   refine take_ (i := 2) (N := some 52) (v := ?_) (a' := ?_) (bm 7 5) rfl rfl (by kernel_rfl) (fun _ _ _ h => h) (Or.inl ⟨by rfl, ?_⟩) hHeld ?_ ?_
   rotate_left
   ·rintro w' ⟨s0, s1, s2, s3, s4, s5, s6, s7, s8, s9, s10, s11, s12, s13⟩
    go_simp
    with_reducible rfl
   rotate_left
   ·simp only [Act.put, List.setIfInBounds_toArray, List.set_cons_zero, List.set_cons_succ, i64_w, i32_w]
    rfl
   refine one_ (i := 1) (N := some 51) (bm 7 7) rfl rfl (by kernel_rfl) (by decide) (fun K hK => ?_)
   refine gs Tryz.func37 #[.agg #[.int .i64 a0_0, .bool a0_1, .bool a0_2, .slice A0_3 l0_3.length c0_3, .int .u64 a0_4, .string a0_5, .slice A0_6 l0_6.length c0_6]] ?_
   with_reducible refine (p_count.calls a0_0 a0_1 a0_2 (fun k_ => k_ < w.heap.size) _ _ l0_3 a0_4 a0_5 _ _ l0_6 t416 t417 _ ?side1 (ck HR0_6 HB) HC0_6.out A36.out).mono ?_
   (case side1 => exact Kd.V_mk HC0_3.out (Kd.F_below (Kd.C_F (Kd.heap_int .u64) HR0_3.out) (bls HB)))
   rintro e w43 ⟨v418, rfl, ho0, hb⟩
   refine ⟨_, rfl, ?_⟩
   have HO419 := Az (Kd.V_lower (Kd.V_mono (ok' := fun k_ => k_ ≠ gb400 ∧ k_ ≠ gb401) ho0 (fun k_ hk_ => ⟨Or.elim hk_ (fun hs_ => fun e_ => Nat.not_le.2 hs_ (by rw [e_]; exact GW400.out)) (fun hn_ => (Kd.freshB (g := gb400) (o := .cells #[.int .i64 a0_0, .bool a0_1, .bool a0_2, .slice A0_3 l0_3.length c0_3, .int .u64 a0_4, .string a0_5, .slice A0_6 l0_6.length c0_6] 28 (0, 0)) (bk BK400) k_ hn_)), Or.elim hk_ (fun hs_ => fun e_ => Nat.not_le.2 hs_ (by rw [e_]; exact GW401.out)) (fun hn_ => (Kd.freshB (g := gb401) (o := .cells #[.int .i64 a1_0, .bool a1_1, .bool a1_2, .slice A1_3 l1_3.length c1_3, .int .u64 a1_4, .string a1_5, .slice A1_6 l1_6.length c1_6] 28 (0, 0)) (bk BK401) k_ hn_))⟩)) (below_size (bls HB)))
   replace BK400 := kb BK400 hb
   replace BK401 := kb BK401 hb
   replace HB := bs HB hb
   refine hK.out _ _ hd (fun hHeld => ?_)
   clear hK K
   refine nm ?_
   refine one_ (i := 3) (N := some 53) (bm 7 15) rfl rfl (by kernel_rfl) (by decide) (fun K hK => ?_)
   refine gs Tryz.func37 #[.agg #[.int .i64 a1_0, .bool a1_1, .bool a1_2, .slice A1_3 l1_3.length c1_3, .int .u64 a1_4, .string a1_5, .slice A1_6 l1_6.length c1_6]] ?_
   with_reducible refine (p_count.calls a1_0 a1_1 a1_2 (fun k_ => k_ < w.heap.size) _ _ l1_3 a1_4 a1_5 _ _ l1_6 t420 t421 _ ?side1 (ck HR1_6 HB) HC1_6.out A37.out).mono ?_
   (case side1 => exact Kd.V_mk HC1_3.out (Kd.F_below (Kd.C_F (Kd.heap_int .u64) HR1_3.out) (bls HB)))
   rintro e w44 ⟨v422, rfl, ho0, hb⟩
   refine ⟨_, rfl, ?_⟩
   replace HO419 := Az (Kd.V_below (vk HO419) hb)
   have HO423 := Az (Kd.V_lower (Kd.V_mono (ok' := fun k_ => k_ ≠ gb400 ∧ k_ ≠ gb401) ho0 (fun k_ hk_ => ⟨Or.elim hk_ (fun hs_ => fun e_ => Nat.not_le.2 hs_ (by rw [e_]; exact GW400.out)) (fun hn_ => (Kd.freshB (g := gb400) (o := .cells #[.int .i64 a0_0, .bool a0_1, .bool a0_2, .slice A0_3 l0_3.length c0_3, .int .u64 a0_4, .string a0_5, .slice A0_6 l0_6.length c0_6] 28 (0, 0)) (bk BK400) k_ hn_)), Or.elim hk_ (fun hs_ => fun e_ => Nat.not_le.2 hs_ (by rw [e_]; exact GW401.out)) (fun hn_ => (Kd.freshB (g := gb401) (o := .cells #[.int .i64 a1_0, .bool a1_1, .bool a1_2, .slice A1_3 l1_3.length c1_3, .int .u64 a1_4, .string a1_5, .slice A1_6 l1_6.length c1_6] 28 (0, 0)) (bk BK401) k_ hn_))⟩)) (below_size (bls HB)))
   replace BK400 := kb BK400 hb
   replace BK401 := kb BK401 hb
   replace HB := bs HB hb
   obtain ⟨Ao45, co45, eo45⟩ := Kd.V_slice HO419.out
   (first | subst eo45 | (injection eo45 with f1_ f2_ f3_; have f4_ := f1_.symm; have f5_ := f3_.symm; clear f1_ f2_ f3_; subst f4_; subst f5_))
   obtain ⟨Ao46, co46, eo46⟩ := Kd.V_slice HO423.out
   (first | subst eo46 | (injection eo46 with f1_ f2_ f3_; have f4_ := f1_.symm; have f5_ := f3_.symm; clear f1_ f2_ f3_; subst f4_; subst f5_))
   refine hK.out _ _ hd (fun hHeld => ?_)
   clear hK K
   refine nm ?_
   refine one_ (i := 4) (N := some 54) (bm 7 31) rfl rfl (by kernel_rfl) (by decide) (fun K hK => ?_)
   refine gs Tryz.func29 #[.agg #[.bool t416, .slice Ao45 t417.length co45], .agg #[.bool t420, .slice Ao46 t421.length co46]] ?_
   with_reducible refine (o_Cmp.calls kj2 t416 _ _ t417 t420 _ _ t421 t424 _ ?side1 (Kd.V_reads' HO419.out).2.1 ?side3 (Kd.V_reads' HO423.out).2.1 A38.out).mono ?_
   (case side1 => exact (Kd.V_reads' HO419.out).2.2)
   (case side3 => exact (Kd.V_reads' HO423.out).2.2)
   rintro e w47 ⟨rfl, hb⟩
   refine ⟨_, rfl, ?_⟩
   replace HO419 := Az (Kd.V_below (vk HO419) hb)
   replace HO423 := Az (Kd.V_below (vk HO423) hb)
   replace BK400 := kb BK400 hb
   replace BK401 := kb BK401 hb
   replace HB := bs HB hb
   refine hK.out _ _ hd (fun hHeld => ?_)
   clear hK K
   refine nm ?_
   refine pure_ (i := 5) (N := some 4) (v := ?_) (a' := ?_) (bm 7 63) rfl rfl (by kernel_rfl) (fun _ _ _ h => h) (Or.inl ⟨by rfl, ?_⟩) ?_ ?_
   rotate_left
   ·intro w'
    go_simp
    with_reducible rfl
   rotate_left
   ·simp only [Act.put, List.setIfInBounds_toArray, List.set_cons_zero, List.set_cons_succ, i64_w, i32_w]
    rfl
   refine pure_ (i := 6) (N := some 5) (v := ?_) (a' := ?_) (bm 7 127) rfl rfl (by kernel_rfl) (fun _ _ _ h => h) (Or.inl ⟨by rfl, ?_⟩) ?_ ?_
   rotate_left
   ·intro w'
    go_simp
    with_reducible rfl
   rotate_left
   ·simp only [Act.put, List.setIfInBounds_toArray, List.set_cons_zero, List.set_cons_succ, i64_w, i32_w]
    rfl
   refine done_ (by kernel_rfl) ?_
   try go_wp2
   go_ret2
   exact ⟨fe, bls HB⟩
def p_Equal.j0 : Nat → Bool → Int → Bool → Bool → List Int → Int → ByteArray → List (S28) → Int → Bool → Bool → List Int → Int → ByteArray → List (S28) → Option (Bool)
 | 0, _, _, _, _, _, _, _, _, _, _, _, _, _, _, _ => none
 | k + 1, x14, x426000, x426001, x426002, x426003, x426004, x426005, x426006, x427000, x427001, x427002, x427003, x427004, x427005, x427006 => if x14 = true then (some false) else ((p_number.f x426000 x426001 x426002 x426003 x426004 x426005 x426006).bind fun t429 => (if t429 = true then ((p_number.f x427000 x427001 x427002 x427003 x427004 x427005 x427006).bind fun t430 => (if t430 = true then ((p_order.f k x426000 x426001 x426002 x426003 x426004 x426005 x426006 x427000 x427001 x427002 x427003 x427004 x427005 x427006).bind fun bt431 => (if bt431.2 = true then (some (bt431.1 == 0)) else (some false))) else (if x426000 = x427000 then (some (x426005.toList == x427005.toList)) else (some false)))) else (if x426000 = x427000 then (some (x426005.toList == x427005.toList)) else (some false))))
def p_Equal.f (k : Nat) (a0_0 : Int) (a0_1 a0_2 : Bool) (l0_3 : List Int) (a0_4 : Int) (a0_5 : ByteArray) (l0_6 : List (S28)) (a1_0 : Int) (a1_1 a1_2 : Bool) (l1_3 : List Int) (a1_4 : Int) (a1_5 : ByteArray) (l1_6 : List (S28)) : Option (Bool) := (p_Good.f k a0_0 a0_1 a0_2 l0_3 a0_4 a0_5 l0_6).bind fun t427 => (if t427 = true then ((p_Good.f k a1_0 a1_1 a1_2 l1_3 a1_4 a1_5 l1_6).bind fun t428 => (p_Equal.j0 k (!t428) a0_0 a0_1 a0_2 l0_3 a0_4 a0_5 l0_6 a1_0 a1_1 a1_2 l1_3 a1_4 a1_5 l1_6)) else (p_Equal.j0 k true a0_0 a0_1 a0_2 l0_3 a0_4 a0_5 l0_6 a1_0 a1_1 a1_2 l1_3 a1_4 a1_5 l1_6))
theorem p_Equal.mono_l : ∀ k, (∀ y0 y1 y2 y3 y4 y5 y6 y7 y8 y9 y10 y11 y12 y13 y14, LeO (p_Equal.j0 k y0 y1 y2 y3 y4 y5 y6 y7 y8 y9 y10 y11 y12 y13 y14) (p_Equal.j0 (k + 1) y0 y1 y2 y3 y4 y5 y6 y7 y8 y9 y10 y11 y12 y13 y14))
 | 0 => fun _ _ _ _ _ _ _ _ _ _ _ _ _ _ _ r h => by simp [p_Equal.j0] at h
 | k + 1 => by
  have ih0 := p_Equal.mono_l k
  ·intro y0 y1 y2 y3 y4 y5 y6 y7 y8 y9 y10 y11 y12 y13 y14
   unfold p_Equal.j0
   repeat' first
   | exact ih0 _ _ _ _ _ _ _ _ _ _ _ _ _ _ _
   | exact p_Good.mono _ _ _ _ _ _ _ _
   | exact p_order.mono _ _ _ _ _ _ _ _ _ _ _ _ _ _ _
   | exact LeO.refl _
   | exact LeO.none _
   | refine LeO.ite ?_ ?_
   | refine LeO.bind ?_ (fun _ => ?_)
theorem p_Equal.mono : ∀ a0 a1 a2 a3 a4 a5 a6 a7 a8 a9 a10 a11 a12 a13 k, LeO (p_Equal.f k a0 a1 a2 a3 a4 a5 a6 a7 a8 a9 a10 a11 a12 a13) (p_Equal.f (k + 1) a0 a1 a2 a3 a4 a5 a6 a7 a8 a9 a10 a11 a12 a13) := by
 intro a0 a1 a2 a3 a4 a5 a6 a7 a8 a9 a10 a11 a12 a13 k
 have ih0 := p_Equal.mono_l k
 unfold p_Equal.f
 repeat' first
   | exact ih0 _ _ _ _ _ _ _ _ _ _ _ _ _ _ _
   | exact p_Good.mono _ _ _ _ _ _ _ _
   | exact p_order.mono _ _ _ _ _ _ _ _ _ _ _ _ _ _ _
   | exact LeO.refl _
   | exact LeO.none _
   | refine LeO.ite ?_ ?_
   | refine LeO.bind ?_ (fun _ => ?_)
theorem p_Equal.calls (k : Nat) (a0_0 : Int) (a0_1 a0_2 : Bool) (A0_3 : Option Addr) (c0_3 : Nat) (l0_3 : List Int) (a0_4 : Int) (a0_5 : ByteArray) (A0_6 : Option Addr) (c0_6 : Nat) (l0_6 : List (S28)) (a1_0 : Int) (a1_1 a1_2 : Bool) (A1_3 : Option Addr) (c1_3 : Nat) (l1_3 : List Int) (a1_4 : Int) (a1_5 : ByteArray) (A1_6 : Option Addr) (c1_6 : Nat) (l1_6 : List (S28)) (r : Bool) (w : World) (hr0_3 : Kd.C (Kd.int .u64) w A0_3 l0_3.length l0_3) (hc0_3 : l0_3.length ≤ c0_3) (hr0_6 : Kd.C k28 w A0_6 l0_6.length l0_6) (hc0_6 : l0_6.length ≤ c0_6) (hr1_3 : Kd.C (Kd.int .u64) w A1_3 l1_3.length l1_3) (hc1_3 : l1_3.length ≤ c1_3) (hr1_6 : Kd.C k28 w A1_6 l1_6.length l1_6) (hc1_6 : l1_6.length ≤ c1_6) (h : p_Equal.f k a0_0 a0_1 a0_2 l0_3 a0_4 a0_5 l0_6 a1_0 a1_1 a1_2 l1_3 a1_4 a1_5 l1_6 = some r) :
  Calls Tryz.prog 8 #[.agg #[.int .i64 a0_0, .bool a0_1, .bool a0_2, .slice A0_3 l0_3.length c0_3, .int .u64 a0_4, .string a0_5, .slice A0_6 l0_6.length c0_6], .agg #[.int .i64 a1_0, .bool a1_1, .bool a1_2, .slice A1_3 l1_3.length c1_3, .int .u64 a1_4, .string a1_5, .slice A1_6 l1_6.length c1_6]] w fun e w' => e = .returned (.bool r) ∧ Below w.heap.size w w' := by
 have hu28 := Tryz.underlying28
 have HR0_3 := Az hr0_3
 have HC0_3 := Az hc0_3
 clear hr0_3 hc0_3
 have HR0_6 := Az hr0_6
 have HC0_6 := Az hc0_6
 clear hr0_6 hc0_6
 have HR1_3 := Az hr1_3
 have HC1_3 := Az hc1_3
 clear hr1_3 hc1_3
 have HR1_6 := Az hr1_6
 have HC1_6 := Az hc1_6
 clear hr1_6 hc1_6
 have HB := Az (Below.refl w.heap.size w)
 have H := h
 unfold p_Equal.f at H
 clear h
 have HC3 := Az H
 clear H
 go_enter Tryz.func8, Tryz.ntmps8
 go_upto_region 1 with (first | (refine be 2 #[.int .i64 a0_0, .bool a0_1, .bool a0_2, .slice A0_3 l0_3.length c0_3, .int .u64 a0_4, .string a0_5, .slice A0_6 l0_6.length c0_6] 28 ?_; intro gb425 hg w4 hbox hb; have BK425 := Az (hbox); have GW425 := gw (bl HB) hg; have GE425 := gw (bl HB) hg; replace HB := bs HB hb; clear hb hbox hg) | (refine be 3 #[.int .i64 a1_0, .bool a1_1, .bool a1_2, .slice A1_3 l1_3.length c1_3, .int .u64 a1_4, .string a1_5, .slice A1_6 l1_6.length c1_6] 28 ?_; intro gb426 hg w5 hbox hb; have BK426 := Az (hbox); have GW426 := gw (bls HB) hg; have GE426 := gw (bls HB) hg; replace HB := bs HB hb; have NB425_426 := nl BK425 hg; have NB426_425 := ng BK425 hg; replace BK425 := kb BK425 hb; clear hb hbox hg))
 go_cut [14] (fun v14 wc => ∃ (kq : Nat) (x14_2 : Bool), v14 = .bool x14_2 ∧ Aside0 (p_Equal.j0 kq x14_2 a0_0 a0_1 a0_2 l0_3 a0_4 a0_5 l0_6 a1_0 a1_1 a1_2 l1_3 a1_4 a1_5 l1_6 = some r) ∧ Aside0 (kq ≤ k) ∧ Aside0 (wc.heap[gb425]? = some (.cells #[.int .i64 a0_0, .bool a0_1, .bool a0_2, (.slice A0_3 l0_3.length c0_3), .int .u64 a0_4, .string a0_5, (.slice A0_6 l0_6.length c0_6)] 28 (0, 0))) ∧ Aside0 (wc.heap[gb426]? = some (.cells #[.int .i64 a1_0, .bool a1_1, .bool a1_2, (.slice A1_3 l1_3.length c1_3), .int .u64 a1_4, .string a1_5, (.slice A1_6 l1_6.length c1_6)] 28 (0, 0))) ∧ Aside0 (Below w.heap.size w wc))
 case first =>
  have H := HC3.out
  clear HC3
  obtain ⟨t427, A6, H⟩ := bd H
  by_cases c7 : t427 = true
  ·subst c7
   rw [if_pos rfl] at H
   obtain ⟨t428, A8, H⟩ := bd H
   have H' := Az H
   clear H
   have hnb9 := NB425_426.out
   have hnc9 := NB426_425.out
   have hz10_1 := bz BK425
   go_wp2_with (first | (refine gl (some 8) Tryz.func25 #[.agg #[.int .i64 a0_0, .bool a0_1, .bool a0_2, .slice A0_3 l0_3.length c0_3, .int .u64 a0_4, .string a0_5, .slice A0_6 l0_6.length c0_6]] ?_; (with_reducible refine (p_Good.calls k a0_0 a0_1 a0_2 _ _ l0_3 a0_4 a0_5 _ _ l0_6 true _ (ck HR0_3 HB) HC0_3.out (ck HR0_6 HB) HC0_6.out A6.out).mono ?_); rintro e w11 ⟨rfl, hb⟩; refine ⟨_, rfl, ?_⟩; replace BK425 := kb BK425 hb; replace BK426 := kb BK426 hb; replace HB := bs HB hb; have hz12_1 := bz BK426) | (go_at_call 25; (with_reducible refine (p_Good.calls k a1_0 a1_1 a1_2 _ _ l1_3 a1_4 a1_5 _ _ l1_6 t428 _ (ck HR1_3 HB) HC1_3.out (ck HR1_6 HB) HC1_6.out A8.out).mono ?_); rintro e w13 ⟨rfl, hb⟩; replace BK425 := kb BK425 hb; replace BK426 := kb BK426 hb; replace HB := bs HB hb))
   go_meet
   case rel => exact ⟨_, (!t428), rs, H', ⟨le0⟩, ⟨bk BK425⟩, ⟨bk BK426⟩, ⟨bls HB⟩⟩
  replace c7 := Bool.eq_false_iff.mpr c7
  subst c7
  rw [if_neg Bool.false_ne_true] at H
  have H' := Az H
  clear H
  have hnb14 := NB425_426.out
  have hnc14 := NB426_425.out
  have hz15_1 := bz BK425
  go_wp2_with (first | (refine gl (some 8) Tryz.func25 #[.agg #[.int .i64 a0_0, .bool a0_1, .bool a0_2, .slice A0_3 l0_3.length c0_3, .int .u64 a0_4, .string a0_5, .slice A0_6 l0_6.length c0_6]] ?_; (with_reducible refine (p_Good.calls k a0_0 a0_1 a0_2 _ _ l0_3 a0_4 a0_5 _ _ l0_6 false _ (ck HR0_3 HB) HC0_3.out (ck HR0_6 HB) HC0_6.out A6.out).mono ?_); rintro e w16 ⟨rfl, hb⟩; refine ⟨_, rfl, ?_⟩; replace BK425 := kb BK425 hb; replace BK426 := kb BK426 hb; replace HB := bs HB hb))
  go_meet
  case rel => exact ⟨_, (true), rs, H', ⟨le0⟩, ⟨bk BK425⟩, ⟨bk BK426⟩, ⟨bls HB⟩⟩
 case rest =>
  clear HC3
  obtain ⟨kq, x14_2, rfl, HA, HJ2, BK425, BK426, HB⟩ := hcut
  cases kq with
  | zero => exact absurd HA.out (by simp [p_Equal.j0])
  | succ kj2 =>
   have H := HA.out
   clear HA
   simp only [p_Equal.j0] at H
   by_cases c17 : x14_2 = true
   ·subst c17
    rw [if_pos rfl] at H
    obtain rfl := Option.some.inj H
    go_wp2
    go_ret
    exact ⟨fe, bls HB⟩
   replace c17 := Bool.eq_false_iff.mpr c17
   subst c17
   rw [if_neg Bool.false_ne_true] at H
   obtain ⟨t429, A18, H⟩ := bd H
   by_cases c19 : t429 = true
   case neg =>
    replace c19 := Bool.eq_false_iff.mpr c19
    subst c19
    rw [if_neg Bool.false_ne_true] at H
    by_cases c55 : a0_0 = a1_0
    case neg =>
     rw [if_neg c55] at H
     have c55b0 := beq_eq_false_iff_ne.mpr c55
     have c55b1 := bne_iff_ne.mpr c55
     obtain rfl := Option.some.inj H
     have hnb61 := NB425_426.out
     have hnc61 := NB426_425.out
     have hz62_1 := bz BK425
     go_wp2_with (first | (refine gl (some 16) Tryz.func26 #[.agg #[.int .i64 a0_0, .bool a0_1, .bool a0_2, .slice A0_3 l0_3.length c0_3, .int .u64 a0_4, .string a0_5, .slice A0_6 l0_6.length c0_6]] ?_; (with_reducible refine (p_number.calls a0_0 a0_1 a0_2 _ _ l0_3 a0_4 a0_5 _ _ l0_6 false _ (ck HR0_3 HB) HC0_3.out (ck HR0_6 HB) HC0_6.out A18.out).mono ?_); rintro e w63 ⟨rfl, hb⟩; refine ⟨_, rfl, ?_⟩; replace BK425 := kb BK425 hb; replace BK426 := kb BK426 hb; replace HB := bs HB hb; have hz64_1 := bz BK425; have hz65_2 := bz BK426))
     go_ret
     exact ⟨fe, bls HB⟩
    rw [if_pos c55] at H
    have c55b0 := beq_iff_eq.mpr c55
    have c55b1 := bne_eq_false_iff_eq.mpr c55
    clear c55
    obtain rfl := Option.some.inj H
    have hnb56 := NB425_426.out
    have hnc56 := NB426_425.out
    have hz57_1 := bz BK425
    go_wp2_with (first | (refine gl (some 16) Tryz.func26 #[.agg #[.int .i64 a0_0, .bool a0_1, .bool a0_2, .slice A0_3 l0_3.length c0_3, .int .u64 a0_4, .string a0_5, .slice A0_6 l0_6.length c0_6]] ?_; (with_reducible refine (p_number.calls a0_0 a0_1 a0_2 _ _ l0_3 a0_4 a0_5 _ _ l0_6 false _ (ck HR0_3 HB) HC0_3.out (ck HR0_6 HB) HC0_6.out A18.out).mono ?_); rintro e w58 ⟨rfl, hb⟩; refine ⟨_, rfl, ?_⟩; replace BK425 := kb BK425 hb; replace BK426 := kb BK426 hb; replace HB := bs HB hb; have hz59_1 := bz BK425; have hz60_2 := bz BK426))
    go_ret
    exact ⟨fe, bls HB⟩
   subst c19
   rw [if_pos rfl] at H
   obtain ⟨t430, A20, H⟩ := bd H
   by_cases c21 : t430 = true
   ·subst c21
    rw [if_pos rfl] at H
    obtain ⟨⟨t431, t432⟩, A22, H⟩ := bd H
    by_cases c23 : t432 = true
    ·subst c23
     rw [if_pos rfl] at H
     obtain rfl := Option.some.inj H
     have hnb24 := NB425_426.out
     have hnc24 := NB426_425.out
     have hz25_1 := bz BK425
     go_wp2_with (first | (refine gl (some 16) Tryz.func26 #[.agg #[.int .i64 a0_0, .bool a0_1, .bool a0_2, .slice A0_3 l0_3.length c0_3, .int .u64 a0_4, .string a0_5, .slice A0_6 l0_6.length c0_6]] ?_; (with_reducible refine (p_number.calls a0_0 a0_1 a0_2 _ _ l0_3 a0_4 a0_5 _ _ l0_6 true _ (ck HR0_3 HB) HC0_3.out (ck HR0_6 HB) HC0_6.out A18.out).mono ?_); rintro e w26 ⟨rfl, hb⟩; refine ⟨_, rfl, ?_⟩; replace BK425 := kb BK425 hb; replace BK426 := kb BK426 hb; replace HB := bs HB hb; have hz27_1 := bz BK426) | (go_at_call 26; (with_reducible refine (p_number.calls a1_0 a1_1 a1_2 _ _ l1_3 a1_4 a1_5 _ _ l1_6 true _ (ck HR1_3 HB) HC1_3.out (ck HR1_6 HB) HC1_6.out A20.out).mono ?_); rintro e w28 ⟨rfl, hb⟩; replace BK425 := kb BK425 hb; replace BK426 := kb BK426 hb; replace HB := bs HB hb; have hz29_1 := bz BK425; have hz30_2 := bz BK426) | (refine gl (some 24) Tryz.func27 #[.agg #[.int .i64 a0_0, .bool a0_1, .bool a0_2, .slice A0_3 l0_3.length c0_3, .int .u64 a0_4, .string a0_5, .slice A0_6 l0_6.length c0_6], .agg #[.int .i64 a1_0, .bool a1_1, .bool a1_2, .slice A1_3 l1_3.length c1_3, .int .u64 a1_4, .string a1_5, .slice A1_6 l1_6.length c1_6]] ?_; (with_reducible refine (p_order.calls kj2 a0_0 a0_1 a0_2 _ _ l0_3 a0_4 a0_5 _ _ l0_6 a1_0 a1_1 a1_2 _ _ l1_3 a1_4 a1_5 _ _ l1_6 t431 true _ (ck HR0_3 HB) HC0_3.out (ck HR0_6 HB) HC0_6.out (ck HR1_3 HB) HC1_3.out (ck HR1_6 HB) HC1_6.out A22.out).mono ?_); rintro e w31 ⟨rfl, hb⟩; refine ⟨_, rfl, ?_⟩; replace BK425 := kb BK425 hb; replace BK426 := kb BK426 hb; replace HB := bs HB hb))
     go_ret
     exact ⟨fe, bls HB⟩
    replace c23 := Bool.eq_false_iff.mpr c23
    subst c23
    rw [if_neg Bool.false_ne_true] at H
    obtain rfl := Option.some.inj H
    have hnb32 := NB425_426.out
    have hnc32 := NB426_425.out
    have hz33_1 := bz BK425
    go_wp2_with (first | (refine gl (some 16) Tryz.func26 #[.agg #[.int .i64 a0_0, .bool a0_1, .bool a0_2, .slice A0_3 l0_3.length c0_3, .int .u64 a0_4, .string a0_5, .slice A0_6 l0_6.length c0_6]] ?_; (with_reducible refine (p_number.calls a0_0 a0_1 a0_2 _ _ l0_3 a0_4 a0_5 _ _ l0_6 true _ (ck HR0_3 HB) HC0_3.out (ck HR0_6 HB) HC0_6.out A18.out).mono ?_); rintro e w34 ⟨rfl, hb⟩; refine ⟨_, rfl, ?_⟩; replace BK425 := kb BK425 hb; replace BK426 := kb BK426 hb; replace HB := bs HB hb; have hz35_1 := bz BK426) | (go_at_call 26; (with_reducible refine (p_number.calls a1_0 a1_1 a1_2 _ _ l1_3 a1_4 a1_5 _ _ l1_6 true _ (ck HR1_3 HB) HC1_3.out (ck HR1_6 HB) HC1_6.out A20.out).mono ?_); rintro e w36 ⟨rfl, hb⟩; replace BK425 := kb BK425 hb; replace BK426 := kb BK426 hb; replace HB := bs HB hb; have hz37_1 := bz BK425; have hz38_2 := bz BK426) | (refine gl (some 24) Tryz.func27 #[.agg #[.int .i64 a0_0, .bool a0_1, .bool a0_2, .slice A0_3 l0_3.length c0_3, .int .u64 a0_4, .string a0_5, .slice A0_6 l0_6.length c0_6], .agg #[.int .i64 a1_0, .bool a1_1, .bool a1_2, .slice A1_3 l1_3.length c1_3, .int .u64 a1_4, .string a1_5, .slice A1_6 l1_6.length c1_6]] ?_; (with_reducible refine (p_order.calls kj2 a0_0 a0_1 a0_2 _ _ l0_3 a0_4 a0_5 _ _ l0_6 a1_0 a1_1 a1_2 _ _ l1_3 a1_4 a1_5 _ _ l1_6 t431 false _ (ck HR0_3 HB) HC0_3.out (ck HR0_6 HB) HC0_6.out (ck HR1_3 HB) HC1_3.out (ck HR1_6 HB) HC1_6.out A22.out).mono ?_); rintro e w39 ⟨rfl, hb⟩; refine ⟨_, rfl, ?_⟩; replace BK425 := kb BK425 hb; replace BK426 := kb BK426 hb; replace HB := bs HB hb))
    go_ret
    exact ⟨fe, bls HB⟩
   replace c21 := Bool.eq_false_iff.mpr c21
   subst c21
   rw [if_neg Bool.false_ne_true] at H
   by_cases c40 : a0_0 = a1_0
   case neg =>
    rw [if_neg c40] at H
    have c40b0 := beq_eq_false_iff_ne.mpr c40
    have c40b1 := bne_iff_ne.mpr c40
    obtain rfl := Option.some.inj H
    have hnb48 := NB425_426.out
    have hnc48 := NB426_425.out
    have hz49_1 := bz BK425
    go_wp2_with (first | (refine gl (some 16) Tryz.func26 #[.agg #[.int .i64 a0_0, .bool a0_1, .bool a0_2, .slice A0_3 l0_3.length c0_3, .int .u64 a0_4, .string a0_5, .slice A0_6 l0_6.length c0_6]] ?_; (with_reducible refine (p_number.calls a0_0 a0_1 a0_2 _ _ l0_3 a0_4 a0_5 _ _ l0_6 true _ (ck HR0_3 HB) HC0_3.out (ck HR0_6 HB) HC0_6.out A18.out).mono ?_); rintro e w50 ⟨rfl, hb⟩; refine ⟨_, rfl, ?_⟩; replace BK425 := kb BK425 hb; replace BK426 := kb BK426 hb; replace HB := bs HB hb; have hz51_1 := bz BK426) | (go_at_call 26; (with_reducible refine (p_number.calls a1_0 a1_1 a1_2 _ _ l1_3 a1_4 a1_5 _ _ l1_6 false _ (ck HR1_3 HB) HC1_3.out (ck HR1_6 HB) HC1_6.out A20.out).mono ?_); rintro e w52 ⟨rfl, hb⟩; replace BK425 := kb BK425 hb; replace BK426 := kb BK426 hb; replace HB := bs HB hb; have hz53_1 := bz BK425; have hz54_2 := bz BK426))
    go_ret
    exact ⟨fe, bls HB⟩
   rw [if_pos c40] at H
   have c40b0 := beq_iff_eq.mpr c40
   have c40b1 := bne_eq_false_iff_eq.mpr c40
   clear c40
   obtain rfl := Option.some.inj H
   have hnb41 := NB425_426.out
   have hnc41 := NB426_425.out
   have hz42_1 := bz BK425
   go_wp2_with (first | (refine gl (some 16) Tryz.func26 #[.agg #[.int .i64 a0_0, .bool a0_1, .bool a0_2, .slice A0_3 l0_3.length c0_3, .int .u64 a0_4, .string a0_5, .slice A0_6 l0_6.length c0_6]] ?_; (with_reducible refine (p_number.calls a0_0 a0_1 a0_2 _ _ l0_3 a0_4 a0_5 _ _ l0_6 true _ (ck HR0_3 HB) HC0_3.out (ck HR0_6 HB) HC0_6.out A18.out).mono ?_); rintro e w43 ⟨rfl, hb⟩; refine ⟨_, rfl, ?_⟩; replace BK425 := kb BK425 hb; replace BK426 := kb BK426 hb; replace HB := bs HB hb; have hz44_1 := bz BK426) | (go_at_call 26; (with_reducible refine (p_number.calls a1_0 a1_1 a1_2 _ _ l1_3 a1_4 a1_5 _ _ l1_6 false _ (ck HR1_3 HB) HC1_3.out (ck HR1_6 HB) HC1_6.out A20.out).mono ?_); rintro e w45 ⟨rfl, hb⟩; replace BK425 := kb BK425 hb; replace BK426 := kb BK426 hb; replace HB := bs HB hb; have hz46_1 := bz BK425; have hz47_2 := bz BK426))
   go_ret
   exact ⟨fe, bls HB⟩
def strings_Compare.f (a0 a1 : ByteArray) : Option Int := some (Lib.compareBytes a0.data.toList a1.data.toList)
theorem strings_Compare.calls (a0 a1 : ByteArray) (r : Int) (w : World) (h : strings_Compare.f a0 a1 = some r) :
  Calls Tryz.prog 28 #[.string a0, .string a1] w fun e w' => e = .returned (.int .i64 r) ∧ Drawn0 w w' := by
 obtain rfl := Option.some.inj h
 refine (Tryz.strings_Compare a0 a1 w).mono ?_
 rintro e w' ⟨rfl, rfl⟩
 exact ⟨rfl, Drawn0.refl _⟩
mutual
def p_Order.j0 : Nat → Bool → Int → Bool → Bool → List Int → Int → ByteArray → List (S28) → Int → Bool → Bool → List Int → Int → ByteArray → List (S28) → Option (Int × Bool × Int)
 | 0, _, _, _, _, _, _, _, _, _, _, _, _, _, _, _ => none
 | k + 1, x16, x687000, x687001, x687002, x687003, x687004, x687005, x687006, x688000, x688001, x688002, x688003, x688004, x688005, x688006 => if x16 = true then (some (0, false, 3)) else ((p_number.f x687000 x687001 x687002 x687003 x687004 x687005 x687006).bind fun t690 => (if t690 = true then ((p_number.f x688000 x688001 x688002 x688003 x688004 x688005 x688006).bind fun t691 => (p_Order.j1 k t691 x687000 x687001 x687002 x687003 x687004 x687005 x687006 x688000 x688001 x688002 x688003 x688004 x688005 x688006)) else (p_Order.j1 k false x687000 x687001 x687002 x687003 x687004 x687005 x687006 x688000 x688001 x688002 x688003 x688004 x688005 x688006)))
def p_Order.j1 : Nat → Bool → Int → Bool → Bool → List Int → Int → ByteArray → List (S28) → Int → Bool → Bool → List Int → Int → ByteArray → List (S28) → Option (Int × Bool × Int)
 | 0, _, _, _, _, _, _, _, _, _, _, _, _, _, _, _ => none
 | k + 1, x22, x687000, x687001, x687002, x687003, x687004, x687005, x687006, x688000, x688001, x688002, x688003, x688004, x688005, x688006 => if x22 = true then ((p_order.f k x687000 x687001 x687002 x687003 x687004 x687005 x687006 x688000 x688001 x688002 x688003 x688004 x688005 x688006).bind fun bt692 => (some (bt692.1, bt692.2, 0))) else (if x687000 = 4 then (if x688000 = 4 then ((strings_Compare.f x687005 x688005).bind fun t694 => (some (t694, true, 0))) else (some (0, false, 9))) else (some (0, false, 9)))
end
def p_Order.f (k : Nat) (a0_0 : Int) (a0_1 a0_2 : Bool) (l0_3 : List Int) (a0_4 : Int) (a0_5 : ByteArray) (l0_6 : List (S28)) (a1_0 : Int) (a1_1 a1_2 : Bool) (l1_3 : List Int) (a1_4 : Int) (a1_5 : ByteArray) (l1_6 : List (S28)) : Option (Int × Bool × Int) := (p_Good.f k a0_0 a0_1 a0_2 l0_3 a0_4 a0_5 l0_6).bind fun t688 => (if t688 = true then ((p_Good.f k a1_0 a1_1 a1_2 l1_3 a1_4 a1_5 l1_6).bind fun t689 => (p_Order.j0 k (!t689) a0_0 a0_1 a0_2 l0_3 a0_4 a0_5 l0_6 a1_0 a1_1 a1_2 l1_3 a1_4 a1_5 l1_6)) else (p_Order.j0 k true a0_0 a0_1 a0_2 l0_3 a0_4 a0_5 l0_6 a1_0 a1_1 a1_2 l1_3 a1_4 a1_5 l1_6))
theorem p_Order.calls (k : Nat) (a0_0 : Int) (a0_1 a0_2 : Bool) (A0_3 : Option Addr) (c0_3 : Nat) (l0_3 : List Int) (a0_4 : Int) (a0_5 : ByteArray) (A0_6 : Option Addr) (c0_6 : Nat) (l0_6 : List (S28)) (a1_0 : Int) (a1_1 a1_2 : Bool) (A1_3 : Option Addr) (c1_3 : Nat) (l1_3 : List Int) (a1_4 : Int) (a1_5 : ByteArray) (A1_6 : Option Addr) (c1_6 : Nat) (l1_6 : List (S28)) (r1 : Int) (r2 : Bool) (r3 : Int) (w : World) (hr0_3 : Kd.C (Kd.int .u64) w A0_3 l0_3.length l0_3) (hc0_3 : l0_3.length ≤ c0_3) (hr0_6 : Kd.C k28 w A0_6 l0_6.length l0_6) (hc0_6 : l0_6.length ≤ c0_6) (hr1_3 : Kd.C (Kd.int .u64) w A1_3 l1_3.length l1_3) (hc1_3 : l1_3.length ≤ c1_3) (hr1_6 : Kd.C k28 w A1_6 l1_6.length l1_6) (hc1_6 : l1_6.length ≤ c1_6) (h : p_Order.f k a0_0 a0_1 a0_2 l0_3 a0_4 a0_5 l0_6 a1_0 a1_1 a1_2 l1_3 a1_4 a1_5 l1_6 = some (r1, r2, r3)) :
  Calls Tryz.prog 6 #[.agg #[.int .i64 a0_0, .bool a0_1, .bool a0_2, .slice A0_3 l0_3.length c0_3, .int .u64 a0_4, .string a0_5, .slice A0_6 l0_6.length c0_6], .agg #[.int .i64 a1_0, .bool a1_1, .bool a1_2, .slice A1_3 l1_3.length c1_3, .int .u64 a1_4, .string a1_5, .slice A1_6 l1_6.length c1_6]] w fun e w' => e = .returned (.tuple #[.int .i64 r1, .bool r2, .int .i64 r3]) ∧ Below w.heap.size w w' := by
 have hu28 := Tryz.underlying28
 have HR0_3 := Az hr0_3
 have HC0_3 := Az hc0_3
 clear hr0_3 hc0_3
 have HR0_6 := Az hr0_6
 have HC0_6 := Az hc0_6
 clear hr0_6 hc0_6
 have HR1_3 := Az hr1_3
 have HC1_3 := Az hc1_3
 clear hr1_3 hc1_3
 have HR1_6 := Az hr1_6
 have HC1_6 := Az hc1_6
 clear hr1_6 hc1_6
 have HB := Az (Below.refl w.heap.size w)
 have H := h
 unfold p_Order.f at H
 clear h
 have HC3 := Az H
 clear H
 go_enter Tryz.func6, Tryz.ntmps6
 go_upto_region 1 with (first | (refine be 2 #[.int .i64 a0_0, .bool a0_1, .bool a0_2, .slice A0_3 l0_3.length c0_3, .int .u64 a0_4, .string a0_5, .slice A0_6 l0_6.length c0_6] 28 ?_; intro gb686 hg w4 hbox hb; have BK686 := Az (hbox); have GW686 := gw (bl HB) hg; have GE686 := gw (bl HB) hg; replace HB := bs HB hb; clear hb hbox hg) | (refine be 3 #[.int .i64 a1_0, .bool a1_1, .bool a1_2, .slice A1_3 l1_3.length c1_3, .int .u64 a1_4, .string a1_5, .slice A1_6 l1_6.length c1_6] 28 ?_; intro gb687 hg w5 hbox hb; have BK687 := Az (hbox); have GW687 := gw (bls HB) hg; have GE687 := gw (bls HB) hg; replace HB := bs HB hb; have NB686_687 := nl BK686 hg; have NB687_686 := ng BK686 hg; replace BK686 := kb BK686 hb; clear hb hbox hg))
 go_cut [16] (fun v16 wc => ∃ (kq : Nat) (x16_2 : Bool), v16 = .bool x16_2 ∧ Aside0 (p_Order.j0 kq x16_2 a0_0 a0_1 a0_2 l0_3 a0_4 a0_5 l0_6 a1_0 a1_1 a1_2 l1_3 a1_4 a1_5 l1_6 = some (r1, r2, r3)) ∧ Aside0 (kq ≤ k) ∧ Aside0 (wc.heap[gb686]? = some (.cells #[.int .i64 a0_0, .bool a0_1, .bool a0_2, (.slice A0_3 l0_3.length c0_3), .int .u64 a0_4, .string a0_5, (.slice A0_6 l0_6.length c0_6)] 28 (0, 0))) ∧ Aside0 (wc.heap[gb687]? = some (.cells #[.int .i64 a1_0, .bool a1_1, .bool a1_2, (.slice A1_3 l1_3.length c1_3), .int .u64 a1_4, .string a1_5, (.slice A1_6 l1_6.length c1_6)] 28 (0, 0))) ∧ Aside0 (Below w.heap.size w wc))
 case first =>
  have H := HC3.out
  clear HC3
  obtain ⟨t688, A6, H⟩ := bd H
  by_cases c7 : t688 = true
  ·subst c7
   rw [if_pos rfl] at H
   obtain ⟨t689, A8, H⟩ := bd H
   have H' := Az H
   clear H
   have hnb9 := NB686_687.out
   have hnc9 := NB687_686.out
   have hz10_1 := bz BK686
   go_wp2_with (first | (refine gl (some 10) Tryz.func25 #[.agg #[.int .i64 a0_0, .bool a0_1, .bool a0_2, .slice A0_3 l0_3.length c0_3, .int .u64 a0_4, .string a0_5, .slice A0_6 l0_6.length c0_6]] ?_; (with_reducible refine (p_Good.calls k a0_0 a0_1 a0_2 _ _ l0_3 a0_4 a0_5 _ _ l0_6 true _ (ck HR0_3 HB) HC0_3.out (ck HR0_6 HB) HC0_6.out A6.out).mono ?_); rintro e w11 ⟨rfl, hb⟩; refine ⟨_, rfl, ?_⟩; replace BK686 := kb BK686 hb; replace BK687 := kb BK687 hb; replace HB := bs HB hb; have hz12_1 := bz BK687) | (go_at_call 25; (with_reducible refine (p_Good.calls k a1_0 a1_1 a1_2 _ _ l1_3 a1_4 a1_5 _ _ l1_6 t689 _ (ck HR1_3 HB) HC1_3.out (ck HR1_6 HB) HC1_6.out A8.out).mono ?_); rintro e w13 ⟨rfl, hb⟩; replace BK686 := kb BK686 hb; replace BK687 := kb BK687 hb; replace HB := bs HB hb))
   go_meet
   case rel => exact ⟨_, (!t689), rs, H', ⟨le0⟩, ⟨bk BK686⟩, ⟨bk BK687⟩, ⟨bls HB⟩⟩
  replace c7 := Bool.eq_false_iff.mpr c7
  subst c7
  rw [if_neg Bool.false_ne_true] at H
  have H' := Az H
  clear H
  have hnb14 := NB686_687.out
  have hnc14 := NB687_686.out
  have hz15_1 := bz BK686
  go_wp2_with (first | (refine gl (some 10) Tryz.func25 #[.agg #[.int .i64 a0_0, .bool a0_1, .bool a0_2, .slice A0_3 l0_3.length c0_3, .int .u64 a0_4, .string a0_5, .slice A0_6 l0_6.length c0_6]] ?_; (with_reducible refine (p_Good.calls k a0_0 a0_1 a0_2 _ _ l0_3 a0_4 a0_5 _ _ l0_6 false _ (ck HR0_3 HB) HC0_3.out (ck HR0_6 HB) HC0_6.out A6.out).mono ?_); rintro e w16 ⟨rfl, hb⟩; refine ⟨_, rfl, ?_⟩; replace BK686 := kb BK686 hb; replace BK687 := kb BK687 hb; replace HB := bs HB hb))
  go_meet
  case rel => exact ⟨_, (true), rs, H', ⟨le0⟩, ⟨bk BK686⟩, ⟨bk BK687⟩, ⟨bls HB⟩⟩
 case rest =>
  clear HC3
  obtain ⟨kq, x16_2, rfl, HA, HJ2, BK686, BK687, HB⟩ := hcut
  cases kq with
  | zero => exact absurd HA.out (by simp [p_Order.j0])
  | succ kj2 =>
   have H := HA.out
   clear HA
   simp only [p_Order.j0] at H
   by_cases c17 : x16_2 = true
   ·subst c17
    rw [if_pos rfl] at H
    simp only [Option.some.injEq, Prod.mk.injEq] at H
    obtain ⟨rfl, rfl, rfl⟩ := H
    go_wp2
    go_ret3
    exact ⟨fe, bls HB⟩
   replace c17 := Bool.eq_false_iff.mpr c17
   subst c17
   rw [if_neg Bool.false_ne_true] at H
   have HC18 := Az H
   clear H
   go_upto_region 3 with (fail)
   go_cut [22] (fun v22 wc => ∃ (kq : Nat) (x22_17 : Bool), v22 = .bool x22_17 ∧ Aside0 (p_Order.j1 kq x22_17 a0_0 a0_1 a0_2 l0_3 a0_4 a0_5 l0_6 a1_0 a1_1 a1_2 l1_3 a1_4 a1_5 l1_6 = some (r1, r2, r3)) ∧ Aside0 (kq ≤ kj2) ∧ Aside0 (wc.heap[gb686]? = some (.cells #[.int .i64 a0_0, .bool a0_1, .bool a0_2, (.slice A0_3 l0_3.length c0_3), .int .u64 a0_4, .string a0_5, (.slice A0_6 l0_6.length c0_6)] 28 (0, 0))) ∧ Aside0 (wc.heap[gb687]? = some (.cells #[.int .i64 a1_0, .bool a1_1, .bool a1_2, (.slice A1_3 l1_3.length c1_3), .int .u64 a1_4, .string a1_5, (.slice A1_6 l1_6.length c1_6)] 28 (0, 0))) ∧ Aside0 (Below w.heap.size w wc))
   case first =>
    have H := HC18.out
    clear HC18
    obtain ⟨t690, A19, H⟩ := bd H
    by_cases c20 : t690 = true
    ·subst c20
     rw [if_pos rfl] at H
     obtain ⟨t691, A21, H⟩ := bd H
     have H' := Az H
     clear H
     have hnb22 := NB686_687.out
     have hnc22 := NB687_686.out
     have hz23_1 := bz BK686
     go_wp2_with (first | (refine gl (some 18) Tryz.func26 #[.agg #[.int .i64 a0_0, .bool a0_1, .bool a0_2, .slice A0_3 l0_3.length c0_3, .int .u64 a0_4, .string a0_5, .slice A0_6 l0_6.length c0_6]] ?_; (with_reducible refine (p_number.calls a0_0 a0_1 a0_2 _ _ l0_3 a0_4 a0_5 _ _ l0_6 true _ (ck HR0_3 HB) HC0_3.out (ck HR0_6 HB) HC0_6.out A19.out).mono ?_); rintro e w24 ⟨rfl, hb⟩; refine ⟨_, rfl, ?_⟩; replace BK686 := kb BK686 hb; replace BK687 := kb BK687 hb; replace HB := bs HB hb; have hz25_1 := bz BK687) | (go_at_call 26; (with_reducible refine (p_number.calls a1_0 a1_1 a1_2 _ _ l1_3 a1_4 a1_5 _ _ l1_6 t691 _ (ck HR1_3 HB) HC1_3.out (ck HR1_6 HB) HC1_6.out A21.out).mono ?_); rintro e w26 ⟨rfl, hb⟩; replace BK686 := kb BK686 hb; replace BK687 := kb BK687 hb; replace HB := bs HB hb))
     go_meet
     case rel => exact ⟨_, (t691), rs, H', ⟨le1 HJ2⟩, ⟨bk BK686⟩, ⟨bk BK687⟩, ⟨bls HB⟩⟩
    replace c20 := Bool.eq_false_iff.mpr c20
    subst c20
    rw [if_neg Bool.false_ne_true] at H
    have H' := Az H
    clear H
    have hnb27 := NB686_687.out
    have hnc27 := NB687_686.out
    have hz28_1 := bz BK686
    go_wp2_with (first | (refine gl (some 18) Tryz.func26 #[.agg #[.int .i64 a0_0, .bool a0_1, .bool a0_2, .slice A0_3 l0_3.length c0_3, .int .u64 a0_4, .string a0_5, .slice A0_6 l0_6.length c0_6]] ?_; (with_reducible refine (p_number.calls a0_0 a0_1 a0_2 _ _ l0_3 a0_4 a0_5 _ _ l0_6 false _ (ck HR0_3 HB) HC0_3.out (ck HR0_6 HB) HC0_6.out A19.out).mono ?_); rintro e w29 ⟨rfl, hb⟩; refine ⟨_, rfl, ?_⟩; replace BK686 := kb BK686 hb; replace BK687 := kb BK687 hb; replace HB := bs HB hb))
    go_meet
    case rel => exact ⟨_, (false), rs, H', ⟨le1 HJ2⟩, ⟨bk BK686⟩, ⟨bk BK687⟩, ⟨bls HB⟩⟩
   case rest =>
    clear HC18
    obtain ⟨kq, x22_17, rfl, HA, HJ17, BK686, BK687, HB⟩ := hcut
    cases kq with
    | zero => exact absurd HA.out (by simp [p_Order.j1])
    | succ kj17 =>
     have H := HA.out
     clear HA
     simp only [p_Order.j1] at H
     by_cases c30 : x22_17 = true
     ·subst c30
      rw [if_pos rfl] at H
      obtain ⟨⟨t692, t693⟩, A31, H⟩ := bd H
      simp only [Option.some.injEq, Prod.mk.injEq] at H
      obtain ⟨rfl, rfl, rfl⟩ := H
      have hnb32 := NB686_687.out
      have hnc32 := NB687_686.out
      have hz33_1 := bz BK686
      have hz34_2 := bz BK687
      go_wp2_with (first | (refine gl (some 26) Tryz.func27 #[.agg #[.int .i64 a0_0, .bool a0_1, .bool a0_2, .slice A0_3 l0_3.length c0_3, .int .u64 a0_4, .string a0_5, .slice A0_6 l0_6.length c0_6], .agg #[.int .i64 a1_0, .bool a1_1, .bool a1_2, .slice A1_3 l1_3.length c1_3, .int .u64 a1_4, .string a1_5, .slice A1_6 l1_6.length c1_6]] ?_; (with_reducible refine (p_order.calls kj17 a0_0 a0_1 a0_2 _ _ l0_3 a0_4 a0_5 _ _ l0_6 a1_0 a1_1 a1_2 _ _ l1_3 a1_4 a1_5 _ _ l1_6 t692 t693 _ (ck HR0_3 HB) HC0_3.out (ck HR0_6 HB) HC0_6.out (ck HR1_3 HB) HC1_3.out (ck HR1_6 HB) HC1_6.out A31.out).mono ?_); rintro e w35 ⟨rfl, hb⟩; refine ⟨_, rfl, ?_⟩; replace BK686 := kb BK686 hb; replace BK687 := kb BK687 hb; replace HB := bs HB hb))
      go_ret3
      exact ⟨fe, bls HB⟩
     replace c30 := Bool.eq_false_iff.mpr c30
     subst c30
     rw [if_neg Bool.false_ne_true] at H
     by_cases c36 : a0_0 = 4
     case neg =>
      rw [if_neg c36] at H
      have c36b0 := beq_eq_false_iff_ne.mpr c36
      have c36b1 := bne_iff_ne.mpr c36
      simp only [Option.some.injEq, Prod.mk.injEq] at H
      obtain ⟨rfl, rfl, rfl⟩ := H
      have hnb45 := NB686_687.out
      have hnc45 := NB687_686.out
      have hz46_1 := bz BK686
      go_wp2
      go_ret3
      exact ⟨fe, bls HB⟩
     rw [if_pos c36] at H
     have c36b0 := beq_iff_eq.mpr c36
     have c36b1 := bne_eq_false_iff_eq.mpr c36
     clear c36
     by_cases c37 : a1_0 = 4
     case neg =>
      rw [if_neg c37] at H
      have c37b0 := beq_eq_false_iff_ne.mpr c37
      have c37b1 := bne_iff_ne.mpr c37
      simp only [Option.some.injEq, Prod.mk.injEq] at H
      obtain ⟨rfl, rfl, rfl⟩ := H
      have hnb42 := NB686_687.out
      have hnc42 := NB687_686.out
      have hz43_1 := bz BK686
      have hz44_2 := bz BK687
      go_wp2
      go_ret3
      exact ⟨fe, bls HB⟩
     rw [if_pos c37] at H
     have c37b0 := beq_iff_eq.mpr c37
     have c37b1 := bne_eq_false_iff_eq.mpr c37
     clear c37
     obtain ⟨t694, A38, H⟩ := bd H
     simp only [Option.some.injEq, Prod.mk.injEq] at H
     obtain ⟨rfl, rfl, rfl⟩ := H
     have hnb39 := NB686_687.out
     have hnc39 := NB687_686.out
     have hz40_1 := bz BK686
     have hz41_2 := bz BK687
     go_wp2_with (first | (refine gl (some 43) Tryz.func28 #[.string a0_5, .string a1_5] ?_; (with_reducible refine (strings_Compare.calls a0_5 a1_5 t694 _ A38.out).mono ?_); rintro e w' ⟨rfl, ⟨nd, rfl⟩⟩; refine ⟨_, rfl, ?_⟩))
     go_ret3
     exact ⟨fe, bls HB⟩
def e_Neg.f (a0 : Int) : Option (Int) := (e_bare.f (Op.negFloat .f64 (Int.toNat a0))).bind fun t500 => (some t500)
theorem e_Neg.calls (a0 r : Int) (w : World) (h : e_Neg.f a0 = some r) :
  Calls Tryz.prog 30 #[.int .u64 a0] w fun e w' => e = .returned (.int .u64 r) ∧ Drawn0 w w' := by
 have H := h
 unfold e_Neg.f at H
 clear h
 obtain ⟨t500, A2, H⟩ := bd H
 obtain rfl := Option.some.inj H
 go_enter Tryz.func30, Tryz.ntmps30
 go_wp2_with (first | (refine gl (some 6) Tryz.func52 #[.float .f64 (Op.negFloat .f64 (Int.toNat a0))] ?_; (with_reducible refine (e_bare.calls (Op.negFloat .f64 (Int.toNat a0)) t500 _ A2.out).mono ?_); rintro e w' ⟨rfl, ⟨nd, rfl⟩⟩; refine ⟨_, rfl, ?_⟩))
 go_ret
 exact ⟨by first | rfl | (simp; done) | (simp [*]; done), by repeat (first | exact Drawn0.refl _ | apply Drawn0.step)⟩
def p_Same.j0 : Nat → Bool → Int → Bool → Bool → List Int → Int → ByteArray → List (S28) → Int → Bool → Bool → List Int → Int → ByteArray → List (S28) → Option (Bool)
 | 0, _, _, _, _, _, _, _, _, _, _, _, _, _, _, _ => none
 | k + 1, x19, x705000, x705001, x705002, x705003, x705004, x705005, x705006, x706000, x706001, x706002, x706003, x706004, x706005, x706006 => if x19 = true then (some false) else (if x705000 = 2 then ((o_Cmp.f k x705002 x705003 x706002 x706003).bind fun t708 => (some (t708 == 0))) else (if x705000 = 3 then ((e_Neg.f x705004).bind fun t709 => ((e_Neg.f x706004).bind fun t710 => (some (t709 == t710)))) else (if (x705001 == x706001) = true then (some (x705005.toList == x706005.toList)) else (some false))))
def p_Same.f (k : Nat) (a0_0 : Int) (a0_1 a0_2 : Bool) (l0_3 : List Int) (a0_4 : Int) (a0_5 : ByteArray) (l0_6 : List (S28)) (a1_0 : Int) (a1_1 a1_2 : Bool) (l1_3 : List Int) (a1_4 : Int) (a1_5 : ByteArray) (l1_6 : List (S28)) : Option (Bool) := (p_Good.f k a0_0 a0_1 a0_2 l0_3 a0_4 a0_5 l0_6).bind fun t706 => (if t706 = true then ((p_Good.f k a1_0 a1_1 a1_2 l1_3 a1_4 a1_5 l1_6).bind fun t707 => (if t707 = true then (p_Same.j0 k (a0_0 != a1_0) a0_0 a0_1 a0_2 l0_3 a0_4 a0_5 l0_6 a1_0 a1_1 a1_2 l1_3 a1_4 a1_5 l1_6) else (p_Same.j0 k true a0_0 a0_1 a0_2 l0_3 a0_4 a0_5 l0_6 a1_0 a1_1 a1_2 l1_3 a1_4 a1_5 l1_6))) else (p_Same.j0 k true a0_0 a0_1 a0_2 l0_3 a0_4 a0_5 l0_6 a1_0 a1_1 a1_2 l1_3 a1_4 a1_5 l1_6))
theorem p_Same.calls (k : Nat) (a0_0 : Int) (a0_1 a0_2 : Bool) (A0_3 : Option Addr) (c0_3 : Nat) (l0_3 : List Int) (a0_4 : Int) (a0_5 : ByteArray) (A0_6 : Option Addr) (c0_6 : Nat) (l0_6 : List (S28)) (a1_0 : Int) (a1_1 a1_2 : Bool) (A1_3 : Option Addr) (c1_3 : Nat) (l1_3 : List Int) (a1_4 : Int) (a1_5 : ByteArray) (A1_6 : Option Addr) (c1_6 : Nat) (l1_6 : List (S28)) (r : Bool) (w : World) (hr0_3 : Kd.C (Kd.int .u64) w A0_3 l0_3.length l0_3) (hc0_3 : l0_3.length ≤ c0_3) (hr0_6 : Kd.C k28 w A0_6 l0_6.length l0_6) (hc0_6 : l0_6.length ≤ c0_6) (hr1_3 : Kd.C (Kd.int .u64) w A1_3 l1_3.length l1_3) (hc1_3 : l1_3.length ≤ c1_3) (hr1_6 : Kd.C k28 w A1_6 l1_6.length l1_6) (hc1_6 : l1_6.length ≤ c1_6) (h : p_Same.f k a0_0 a0_1 a0_2 l0_3 a0_4 a0_5 l0_6 a1_0 a1_1 a1_2 l1_3 a1_4 a1_5 l1_6 = some r) :
  Calls Tryz.prog 9 #[.agg #[.int .i64 a0_0, .bool a0_1, .bool a0_2, .slice A0_3 l0_3.length c0_3, .int .u64 a0_4, .string a0_5, .slice A0_6 l0_6.length c0_6], .agg #[.int .i64 a1_0, .bool a1_1, .bool a1_2, .slice A1_3 l1_3.length c1_3, .int .u64 a1_4, .string a1_5, .slice A1_6 l1_6.length c1_6]] w fun e w' => e = .returned (.bool r) ∧ Below w.heap.size w w' := by
 have hu28 := Tryz.underlying28
 have hu24 := Tryz.underlying24
 have HR0_3 := Az hr0_3
 have HC0_3 := Az hc0_3
 clear hr0_3 hc0_3
 have HR0_6 := Az hr0_6
 have HC0_6 := Az hc0_6
 clear hr0_6 hc0_6
 have HR1_3 := Az hr1_3
 have HC1_3 := Az hc1_3
 clear hr1_3 hc1_3
 have HR1_6 := Az hr1_6
 have HC1_6 := Az hc1_6
 clear hr1_6 hc1_6
 have HB := Az (Below.refl w.heap.size w)
 have H := h
 unfold p_Same.f at H
 clear h
 have HC3 := Az H
 clear H
 go_enter Tryz.func9, Tryz.ntmps9
 go_upto_region 1 with (first | (refine be 2 #[.int .i64 a0_0, .bool a0_1, .bool a0_2, .slice A0_3 l0_3.length c0_3, .int .u64 a0_4, .string a0_5, .slice A0_6 l0_6.length c0_6] 28 ?_; intro gb704 hg w4 hbox hb; have BK704 := Az (hbox); have GW704 := gw (bl HB) hg; have GE704 := gw (bl HB) hg; replace HB := bs HB hb; clear hb hbox hg) | (refine be 3 #[.int .i64 a1_0, .bool a1_1, .bool a1_2, .slice A1_3 l1_3.length c1_3, .int .u64 a1_4, .string a1_5, .slice A1_6 l1_6.length c1_6] 28 ?_; intro gb705 hg w5 hbox hb; have BK705 := Az (hbox); have GW705 := gw (bls HB) hg; have GE705 := gw (bls HB) hg; replace HB := bs HB hb; have NB704_705 := nl BK704 hg; have NB705_704 := ng BK704 hg; replace BK704 := kb BK704 hb; clear hb hbox hg))
 repeat (go_quiet (first | (refine be 2 #[.int .i64 a0_0, .bool a0_1, .bool a0_2, .slice A0_3 l0_3.length c0_3, .int .u64 a0_4, .string a0_5, .slice A0_6 l0_6.length c0_6] 28 ?_; intro gb704 hg w4 hbox hb; have BK704 := Az (hbox); have GW704 := gw (bl HB) hg; have GE704 := gw (bl HB) hg; replace HB := bs HB hb; clear hb hbox hg) | (refine be 3 #[.int .i64 a1_0, .bool a1_1, .bool a1_2, .slice A1_3 l1_3.length c1_3, .int .u64 a1_4, .string a1_5, .slice A1_6 l1_6.length c1_6] 28 ?_; intro gb705 hg w5 hbox hb; have BK705 := Az (hbox); have GW705 := gw (bls HB) hg; have GE705 := gw (bls HB) hg; replace HB := bs HB hb; have NB704_705 := nl BK704 hg; have NB705_704 := ng BK704 hg; replace BK704 := kb BK704 hb; clear hb hbox hg)); go_upto_region 1 with (first | (refine be 2 #[.int .i64 a0_0, .bool a0_1, .bool a0_2, .slice A0_3 l0_3.length c0_3, .int .u64 a0_4, .string a0_5, .slice A0_6 l0_6.length c0_6] 28 ?_; intro gb704 hg w4 hbox hb; have BK704 := Az (hbox); have GW704 := gw (bl HB) hg; have GE704 := gw (bl HB) hg; replace HB := bs HB hb; clear hb hbox hg) | (refine be 3 #[.int .i64 a1_0, .bool a1_1, .bool a1_2, .slice A1_3 l1_3.length c1_3, .int .u64 a1_4, .string a1_5, .slice A1_6 l1_6.length c1_6] 28 ?_; intro gb705 hg w5 hbox hb; have BK705 := Az (hbox); have GW705 := gw (bls HB) hg; have GE705 := gw (bls HB) hg; replace HB := bs HB hb; have NB704_705 := nl BK704 hg; have NB705_704 := ng BK704 hg; replace BK704 := kb BK704 hb; clear hb hbox hg)))
 go_cut [19] (fun v19 wc => ∃ (kq : Nat) (x19_2 : Bool), v19 = .bool x19_2 ∧ Aside0 (p_Same.j0 kq x19_2 a0_0 a0_1 a0_2 l0_3 a0_4 a0_5 l0_6 a1_0 a1_1 a1_2 l1_3 a1_4 a1_5 l1_6 = some r) ∧ Aside0 (kq ≤ k) ∧ Aside0 (wc.heap[gb704]? = some (.cells #[.int .i64 a0_0, .bool a0_1, .bool a0_2, (.slice A0_3 l0_3.length c0_3), .int .u64 a0_4, .string a0_5, (.slice A0_6 l0_6.length c0_6)] 28 (0, 0))) ∧ Aside0 (wc.heap[gb705]? = some (.cells #[.int .i64 a1_0, .bool a1_1, .bool a1_2, (.slice A1_3 l1_3.length c1_3), .int .u64 a1_4, .string a1_5, (.slice A1_6 l1_6.length c1_6)] 28 (0, 0))) ∧ Aside0 (Below w.heap.size w wc))
 case first =>
  have H := HC3.out
  clear HC3
  obtain ⟨t706, A6, H⟩ := bd H
  by_cases c7 : t706 = true
  case neg =>
   replace c7 := Bool.eq_false_iff.mpr c7
   subst c7
   rw [if_neg Bool.false_ne_true] at H
   have H' := Az H
   clear H
   have hnb22 := NB704_705.out
   have hnc22 := NB705_704.out
   have hz23_1 := bz BK704
   go_wp2_with (first | (go_at_call 25; (with_reducible refine (p_Good.calls k a0_0 a0_1 a0_2 _ _ l0_3 a0_4 a0_5 _ _ l0_6 false _ (ck HR0_3 HB) HC0_3.out (ck HR0_6 HB) HC0_6.out A6.out).mono ?_); rintro e w24 ⟨rfl, hb⟩; replace BK704 := kb BK704 hb; replace BK705 := kb BK705 hb; replace HB := bs HB hb))
   go_meet
   case rel => exact ⟨_, (true), rs, H', ⟨le0⟩, ⟨bk BK704⟩, ⟨bk BK705⟩, ⟨bls HB⟩⟩
  subst c7
  rw [if_pos rfl] at H
  obtain ⟨t707, A8, H⟩ := bd H
  by_cases c9 : t707 = true
  ·subst c9
   rw [if_pos rfl] at H
   have H' := Az H
   clear H
   have hnb10 := NB704_705.out
   have hnc10 := NB705_704.out
   have hz11_1 := bz BK704
   go_wp2_with (first | (go_at_call 25; (with_reducible refine (p_Good.calls k a0_0 a0_1 a0_2 _ _ l0_3 a0_4 a0_5 _ _ l0_6 true _ (ck HR0_3 HB) HC0_3.out (ck HR0_6 HB) HC0_6.out A6.out).mono ?_); rintro e w12 ⟨rfl, hb⟩; replace BK704 := kb BK704 hb; replace BK705 := kb BK705 hb; replace HB := bs HB hb; have hz13_1 := bz BK705) | (go_at_call 25; (with_reducible refine (p_Good.calls k a1_0 a1_1 a1_2 _ _ l1_3 a1_4 a1_5 _ _ l1_6 true _ (ck HR1_3 HB) HC1_3.out (ck HR1_6 HB) HC1_6.out A8.out).mono ?_); rintro e w14 ⟨rfl, hb⟩; replace BK704 := kb BK704 hb; replace BK705 := kb BK705 hb; replace HB := bs HB hb; have hz15_1 := bz BK704; have hz16_2 := bz BK705))
   go_meet
   case rel => exact ⟨_, ((a0_0 != a1_0)), rs, H', ⟨le0⟩, ⟨bk BK704⟩, ⟨bk BK705⟩, ⟨bls HB⟩⟩
  replace c9 := Bool.eq_false_iff.mpr c9
  subst c9
  rw [if_neg Bool.false_ne_true] at H
  have H' := Az H
  clear H
  have hnb17 := NB704_705.out
  have hnc17 := NB705_704.out
  have hz18_1 := bz BK704
  go_wp2_with (first | (go_at_call 25; (with_reducible refine (p_Good.calls k a0_0 a0_1 a0_2 _ _ l0_3 a0_4 a0_5 _ _ l0_6 true _ (ck HR0_3 HB) HC0_3.out (ck HR0_6 HB) HC0_6.out A6.out).mono ?_); rintro e w19 ⟨rfl, hb⟩; replace BK704 := kb BK704 hb; replace BK705 := kb BK705 hb; replace HB := bs HB hb; have hz20_1 := bz BK705) | (go_at_call 25; (with_reducible refine (p_Good.calls k a1_0 a1_1 a1_2 _ _ l1_3 a1_4 a1_5 _ _ l1_6 false _ (ck HR1_3 HB) HC1_3.out (ck HR1_6 HB) HC1_6.out A8.out).mono ?_); rintro e w21 ⟨rfl, hb⟩; replace BK704 := kb BK704 hb; replace BK705 := kb BK705 hb; replace HB := bs HB hb))
  go_meet
  case rel => exact ⟨_, (true), rs, H', ⟨le0⟩, ⟨bk BK704⟩, ⟨bk BK705⟩, ⟨bls HB⟩⟩
 case rest =>
  clear HC3
  obtain ⟨kq, x19_2, rfl, HA, HJ2, BK704, BK705, HB⟩ := hcut
  cases kq with
  | zero => exact absurd HA.out (by simp [p_Same.j0])
  | succ kj2 =>
   have H := HA.out
   clear HA
   simp only [p_Same.j0] at H
   by_cases c25 : x19_2 = true
   ·subst c25
    rw [if_pos rfl] at H
    obtain rfl := Option.some.inj H
    go_wp2
    repeat (go_quiet (fail); try go_wp2)
    go_ret
    exact ⟨fe, bls HB⟩
   replace c25 := Bool.eq_false_iff.mpr c25
   subst c25
   rw [if_neg Bool.false_ne_true] at H
   by_cases c26 : a0_0 = 2
   ·rw [if_pos c26] at H
    have c26b0 := beq_iff_eq.mpr c26
    have c26b1 := bne_eq_false_iff_eq.mpr c26
    clear c26
    obtain ⟨t708, A27, H⟩ := bd H
    obtain rfl := Option.some.inj H
    have hnb28 := NB704_705.out
    have hnc28 := NB705_704.out
    have hz29_1 := bz BK704
    have hz30_2 := bz BK705
    go_wp2_with (first | (go_at_call 29; (with_reducible refine (o_Cmp.calls kj2 a0_2 _ _ l0_3 a1_2 _ _ l1_3 t708 _ (ck HR0_3 HB) HC0_3.out (ck HR1_3 HB) HC1_3.out A27.out).mono ?_); rintro e w31 ⟨rfl, hb⟩; replace BK704 := kb BK704 hb; replace BK705 := kb BK705 hb; replace HB := bs HB hb))
    go_ret
    exact ⟨fe, bls HB⟩
   rw [if_neg c26] at H
   have c26b0 := beq_eq_false_iff_ne.mpr c26
   have c26b1 := bne_iff_ne.mpr c26
   by_cases c32 : a0_0 = 3
   ·rw [if_pos c32] at H
    have c32b0 := beq_iff_eq.mpr c32
    have c32b1 := bne_eq_false_iff_eq.mpr c32
    clear c32
    obtain ⟨t709, A33, H⟩ := bd H
    obtain ⟨t710, A34, H⟩ := bd H
    obtain rfl := Option.some.inj H
    have hnb35 := NB704_705.out
    have hnc35 := NB705_704.out
    have hz36_1 := bz BK704
    go_wp2_with (first | (go_at_call 30; (with_reducible refine (e_Neg.calls a0_4 t709 _ A33.out).mono ?_); rintro e w' ⟨rfl, ⟨nd, rfl⟩⟩; have hz37_1 := bz BK705) | (go_at_call 30; (with_reducible refine (e_Neg.calls a1_4 t710 _ A34.out).mono ?_); rintro e w' ⟨rfl, ⟨nd, rfl⟩⟩; (try first | exact ⟨rfl, _, World.drewN_drewN _ _ _⟩ | exact ⟨rfl, _, Eq.trans (World.drewN_drewN _ _ _) (congrArg (World.drewN _) (Nat.add_assoc _ _ _))⟩)))
    repeat (go_quiet (first | (go_at_call 30; (with_reducible refine (e_Neg.calls a0_4 t709 _ A33.out).mono ?_); rintro e w' ⟨rfl, ⟨nd, rfl⟩⟩; (try first | exact ⟨rfl, _, World.drewN_drewN _ _ _⟩ | exact ⟨rfl, _, Eq.trans (World.drewN_drewN _ _ _) (congrArg (World.drewN _) (Nat.add_assoc _ _ _))⟩); have hz37_1 := bz BK705) | (go_at_call 30; (with_reducible refine (e_Neg.calls a1_4 t710 _ A34.out).mono ?_); rintro e w' ⟨rfl, ⟨nd, rfl⟩⟩; (try first | exact ⟨rfl, _, World.drewN_drewN _ _ _⟩ | exact ⟨rfl, _, Eq.trans (World.drewN_drewN _ _ _) (congrArg (World.drewN _) (Nat.add_assoc _ _ _))⟩))); try go_wp2_with (first | (go_at_call 30; (with_reducible refine (e_Neg.calls a0_4 t709 _ A33.out).mono ?_); rintro e w' ⟨rfl, ⟨nd, rfl⟩⟩; (try first | exact ⟨rfl, _, World.drewN_drewN _ _ _⟩ | exact ⟨rfl, _, Eq.trans (World.drewN_drewN _ _ _) (congrArg (World.drewN _) (Nat.add_assoc _ _ _))⟩); have hz37_1 := bz BK705) | (go_at_call 30; (with_reducible refine (e_Neg.calls a1_4 t710 _ A34.out).mono ?_); rintro e w' ⟨rfl, ⟨nd, rfl⟩⟩; (try first | exact ⟨rfl, _, World.drewN_drewN _ _ _⟩ | exact ⟨rfl, _, Eq.trans (World.drewN_drewN _ _ _) (congrArg (World.drewN _) (Nat.add_assoc _ _ _))⟩))))
    go_ret
    exact ⟨fe, bls HB⟩
   rw [if_neg c32] at H
   have c32b0 := beq_eq_false_iff_ne.mpr c32
   have c32b1 := bne_iff_ne.mpr c32
   by_cases c38 : (a0_1 == a1_1) = true
   ·rw [if_pos c38] at H
    have c38b0 : (a0_1 == a1_1) = true := c38
    clear c38
    obtain rfl := Option.some.inj H
    have hnb39 := NB704_705.out
    have hnc39 := NB705_704.out
    have hz40_1 := bz BK704
    have hz41_2 := bz BK705
    go_wp2
    repeat (go_quiet (fail); try go_wp2)
    go_ret
    exact ⟨fe, bls HB⟩
   rw [if_neg c38] at H
   have c38b0 : (a0_1 == a1_1) = false := by simpa using c38
   clear c38
   obtain rfl := Option.some.inj H
   have hnb42 := NB704_705.out
   have hnc42 := NB705_704.out
   have hz43_1 := bz BK704
   have hz44_2 := bz BK705
   go_wp2
   repeat (go_quiet (fail); try go_wp2)
   go_ret
   exact ⟨fe, bls HB⟩
def p_Truth.f (k : Nat) (a0_0 : Int) (a0_1 a0_2 : Bool) (l0_3 : List Int) (a0_4 : Int) (a0_5 : ByteArray) (l0_6 : List (S28)) : Option (Bool) := (p_Good.f k a0_0 a0_1 a0_2 l0_3 a0_4 a0_5 l0_6).bind fun t917 => (if t917 = true then (if a0_0 = 1 then (some a0_1) else (if a0_0 = 2 then (some (decide (0 < l0_3.length))) else (if a0_0 = 3 then (some ((IntKind.u64.wrap (a0_4 * 2)) != 0)) else (some (a0_5.toList != ([] : List UInt8)))))) else (some false))
mutual
def r5_bytes.l0 : Nat → ByteArray → ByteArray → Int → Option (Int)
 | 0, _, _, _ => none
 | k + 1, x0, x1, x5 => if x5 < (x0.size : Int) then (r5_bytes.j1 k x0 x1 x5 (decide (x5 < (x1.size : Int)))) else (r5_bytes.j1 k x0 x1 x5 false)
def r5_bytes.j1 : Nat → ByteArray → ByteArray → Int → Bool → Option (Int)
 | 0, _, _, _, _ => none
 | k + 1, x0, x1, x5, x15 => if x15 = true then (if 0 ≤ x5 then (if x5 < (x0.size : Int) then (if x5 < (x1.size : Int) then (if (bt x0 x5) < (bt x1 x5) then (some (-1)) else (if (bt x0 x5) > (bt x1 x5) then (some 1) else (r5_bytes.l0 k x0 x1 (wrap64 (x5 + 1))))) else (none)) else (none)) else (none)) else (if (x0.size : Int) < (x1.size : Int) then (some (-1)) else (if (x0.size : Int) > (x1.size : Int) then (some 1) else (some 0)))
end
def r5_bytes.f (k : Nat) (a0 a1 : ByteArray) : Option (Int) := r5_bytes.l0 k a0 a1 0
theorem r5_bytes.calls (k : Nat) (a0 a1 : ByteArray) (r : Int) (w : World) (h : r5_bytes.f k a0 a1 = some r) :
  Calls Tryz.prog 33 #[.string a0, .string a1] w fun e w' => e = .returned (.int .i64 r) ∧ Drawn0 w w' := by
 have H := h
 unfold r5_bytes.f at H
 have H' := Az H
 go_enter Tryz.func33, Tryz.ntmps33
 go_wp2
 repeat (go_quiet (fail); try go_wp2)
 go_loopg [5] k (fun kq v5 w' => ∃ (x5_1 : Int), v5 = .int .i64 x5_1 ∧ Aside0 (r5_bytes.l0 kq a0 a1 x5_1 = some r) ∧ Aside0 (kq ≤ k) ∧ Drawn0 w w')
 case atStart => exact ⟨(0), rs, H', ⟨Nat.le_refl _⟩, by repeat (first | exact Drawn0.refl _ | apply Drawn0.step)⟩
 case round =>
  obtain ⟨x5_1, rfl, HA, HK1, ⟨m1, rfl⟩⟩ := hrel
  cases gk with
  | zero => exact absurd HA.out (by simp [r5_bytes.l0])
  | succ k1 =>
   have H := HA.out
   simp only [r5_bytes.l0] at H
   have HC3 := Az H
   go_upto_region 2 with (fail)
   repeat (go_quiet (fail); go_upto_region 2 with (fail))
   go_cut [15] (fun v15 wc => ∃ (kq : Nat) (x15_2 : Bool), v15 = .bool x15_2 ∧ Aside0 (r5_bytes.j1 kq a0 a1 x5_1 x15_2 = some r) ∧ Aside0 (kq ≤ k1) ∧ Drawn0 w wc)
   case first =>
    have H := HC3.out
    by_cases c4 : x5_1 < (a0.size : Int)
    ·rw [if_pos c4] at H
     (first | rw [c4b0] | (simp only [i64_w, i32_w]; rw [c4b0]) | skip)
     have H' := Az H
     go_wp2
     repeat (go_quiet (fail); try go_wp2)
     go_meet
     case rel => exact ⟨_, (decide (x5_1 < (a1.size : Int))), rs, H', ⟨le1 HK1⟩, by repeat (first | exact Drawn0.refl _ | apply Drawn0.step)⟩
    rw [if_neg c4] at H
    (first | rw [c4b0] | (simp only [i64_w, i32_w]; rw [c4b0]) | skip)
    have H' := Az H
    go_wp2
    repeat (go_quiet (fail); try go_wp2)
    go_meet
    case rel => exact ⟨_, (false), rs, H', ⟨le1 HK1⟩, by repeat (first | exact Drawn0.refl _ | apply Drawn0.step)⟩
   case rest =>
    obtain ⟨kq, x15_2, rfl, HA, HJ2, ⟨mc2, rfl⟩⟩ := hcut
    cases kq with
    | zero => exact absurd HA.out (by simp [r5_bytes.j1])
    | succ kj2 =>
     have H := HA.out
     simp only [r5_bytes.j1] at H
     by_cases c5 : x15_2 = true
     case neg =>
      replace c5 := Bool.eq_false_iff.mpr c5
      subst c5
      rw [if_neg Bool.false_ne_true] at H
      by_cases c15 : (a0.size : Int) < (a1.size : Int)
      ·rw [if_pos c15] at H
       obtain rfl := Option.some.inj H
       go_wp2
       repeat (go_quiet (fail); try go_wp2)
       go_ret
       exact ⟨by first | rfl | (simp; done) | (simp [*]; done), by repeat (first | exact Drawn0.refl _ | apply Drawn0.step)⟩
      rw [if_neg c15] at H
      by_cases c16 : (a0.size : Int) > (a1.size : Int)
      ·rw [if_pos c16] at H
       obtain rfl := Option.some.inj H
       go_wp2
       repeat (go_quiet (fail); try go_wp2)
       go_ret
       exact ⟨by first | rfl | (simp; done) | (simp [*]; done), by repeat (first | exact Drawn0.refl _ | apply Drawn0.step)⟩
      rw [if_neg c16] at H
      obtain rfl := Option.some.inj H
      go_wp2
      repeat (go_quiet (fail); try go_wp2)
      go_ret
      exact ⟨by first | rfl | (simp; done) | (simp [*]; done), by repeat (first | exact Drawn0.refl _ | apply Drawn0.step)⟩
     subst c5
     rw [if_pos rfl] at H
     by_cases c6 : 0 ≤ x5_1
     case neg =>
      rw [if_neg c6] at H
      exact absurd H (by simp)
     rw [if_pos c6] at H
     have c6b0 := decide_eq_true c6
     by_cases c7 : x5_1 < (a0.size : Int)
     case neg =>
      rw [if_neg c7] at H
      exact absurd H (by simp)
     rw [if_pos c7] at H
     have c7b0 := decide_eq_true c7
     by_cases c9 : x5_1 < (a1.size : Int)
     case neg =>
      rw [if_neg c9] at H
      exact absurd H (by simp)
     rw [if_pos c9] at H
     have c9b0 := decide_eq_true c9
     by_cases c11 : (bt a0 x5_1) < (bt a1 x5_1)
     ·rw [if_pos c11] at H
      have c11b0 := decide_eq_true c11
      obtain rfl := Option.some.inj H
      have p8 : 0 ≤ (x5_1 : Int) := ode
      have q8 : x5_1 < (a0.size : Int) := ode
      have hx8 := bt_at a0 x5_1
      replace p8 := eq_true p8
      replace q8 := eq_true q8
      have p10 : 0 ≤ (x5_1 : Int) := ode
      have q10 : x5_1 < (a1.size : Int) := ode
      have hx10 := bt_at a1 x5_1
      replace p10 := eq_true p10
      replace q10 := eq_true q10
      go_wp2
      repeat (go_quiet (fail); try go_wp2)
      go_ret
      exact ⟨by first | rfl | (simp; done) | (simp [*]; done), by repeat (first | exact Drawn0.refl _ | apply Drawn0.step)⟩
     rw [if_neg c11] at H
     have c11b0 := decide_eq_false c11
     by_cases c14 : (bt a0 x5_1) > (bt a1 x5_1)
     ·rw [if_pos c14] at H
      have c14b0 : decide ((bt a1 x5_1) < (bt a0 x5_1)) = true := decide_eq_true c14
      obtain rfl := Option.some.inj H
      have p8 : 0 ≤ (x5_1 : Int) := ode
      have q8 : x5_1 < (a0.size : Int) := ode
      have hx8 := bt_at a0 x5_1
      replace p8 := eq_true p8
      replace q8 := eq_true q8
      have p10 : 0 ≤ (x5_1 : Int) := ode
      have q10 : x5_1 < (a1.size : Int) := ode
      have hx10 := bt_at a1 x5_1
      replace p10 := eq_true p10
      replace q10 := eq_true q10
      have p12 : 0 ≤ (x5_1 : Int) := ode
      have q12 : x5_1 < (a0.size : Int) := ode
      have hx12 := bt_at a0 x5_1
      replace p12 := eq_true p12
      replace q12 := eq_true q12
      have p13 : 0 ≤ (x5_1 : Int) := ode
      have q13 : x5_1 < (a1.size : Int) := ode
      have hx13 := bt_at a1 x5_1
      replace p13 := eq_true p13
      replace q13 := eq_true q13
      go_wp2
      repeat (go_quiet (fail); try go_wp2)
      go_ret
      exact ⟨by first | rfl | (simp; done) | (simp [*]; done), by repeat (first | exact Drawn0.refl _ | apply Drawn0.step)⟩
     rw [if_neg c14] at H
     have c14b0 : decide ((bt a1 x5_1) < (bt a0 x5_1)) = false := decide_eq_false c14
     have H' := Az H
     have p8 : 0 ≤ (x5_1 : Int) := ode
     have q8 : x5_1 < (a0.size : Int) := ode
     have hx8 := bt_at a0 x5_1
     replace p8 := eq_true p8
     replace q8 := eq_true q8
     have p10 : 0 ≤ (x5_1 : Int) := ode
     have q10 : x5_1 < (a1.size : Int) := ode
     have hx10 := bt_at a1 x5_1
     replace p10 := eq_true p10
     replace q10 := eq_true q10
     have p12 : 0 ≤ (x5_1 : Int) := ode
     have q12 : x5_1 < (a0.size : Int) := ode
     have hx12 := bt_at a0 x5_1
     replace p12 := eq_true p12
     replace q12 := eq_true q12
     have p13 : 0 ≤ (x5_1 : Int) := ode
     have q13 : x5_1 < (a1.size : Int) := ode
     have hx13 := bt_at a1 x5_1
     replace p13 := eq_true p13
     replace q13 := eq_true q13
     go_wp2
     repeat (go_quiet (fail); try go_wp2)
     go_roundg kj2
     case measure => have := HK1.out; have := HJ2.out; omega
     case rel => exact ⟨(wrap64 (x5_1 + 1)), rs, H', ⟨by have := HK1.out; have := HJ2.out; omega⟩, by repeat (first | exact Drawn0.refl _ | apply Drawn0.step)⟩
def r5_Number.f (a0_0 : Int) (a0_1 a0_2 : Bool) (l0_3 : List Int) (a0_4 : Int) (a0_5 : ByteArray) (l0_6 : List (S28)) : Option (Bool) := if a0_0 = 1 then (some true) else (if a0_0 = 2 then (some true) else (some (a0_0 == 3)))
theorem r5_Number.calls (a0_0 : Int) (a0_1 a0_2 : Bool) (A0_3 : Option Addr) (c0_3 : Nat) (l0_3 : List Int) (a0_4 : Int) (a0_5 : ByteArray) (A0_6 : Option Addr) (c0_6 : Nat) (l0_6 : List (S28)) (r : Bool) (w : World) (hr0_3 : Kd.C (Kd.int .u64) w A0_3 l0_3.length l0_3) (hc0_3 : l0_3.length ≤ c0_3) (hr0_6 : Kd.C k28 w A0_6 l0_6.length l0_6) (hc0_6 : l0_6.length ≤ c0_6) (h : r5_Number.f a0_0 a0_1 a0_2 l0_3 a0_4 a0_5 l0_6 = some r) :
  Calls Tryz.prog 31 #[.agg #[.int .i64 a0_0, .bool a0_1, .bool a0_2, .slice A0_3 l0_3.length c0_3, .int .u64 a0_4, .string a0_5, .slice A0_6 l0_6.length c0_6]] w fun e w' => e = .returned (.bool r) ∧ Below w.heap.size w w' := by
 have hu28 := Tryz.underlying28
 have HR0_3 := Az hr0_3
 have HC0_3 := Az hc0_3
 clear hr0_3 hc0_3
 have HR0_6 := Az hr0_6
 have HC0_6 := Az hc0_6
 clear hr0_6 hc0_6
 have HB := Az (Below.refl w.heap.size w)
 have H := h
 unfold r5_Number.f at H
 clear h
 by_cases c2 : a0_0 = 1
 ·rw [if_pos c2] at H
  have c2b0 := beq_iff_eq.mpr c2
  have c2b1 := bne_eq_false_iff_eq.mpr c2
  clear c2
  obtain rfl := Option.some.inj H
  go_enter Tryz.func31, Tryz.ntmps31
  go_wp2_with (first | (refine be 1 #[.int .i64 a0_0, .bool a0_1, .bool a0_2, .slice A0_3 l0_3.length c0_3, .int .u64 a0_4, .string a0_5, .slice A0_6 l0_6.length c0_6] 28 ?_; intro gb711 hg w3 hbox hb; have BK711 := Az (hbox); have GW711 := gw (bl HB) hg; have GE711 := gw (bl HB) hg; replace HB := bs HB hb; clear hb hbox hg; have hz4_1 := bz BK711))
  go_ret
  exact ⟨fe, bls HB⟩
 rw [if_neg c2] at H
 have c2b0 := beq_eq_false_iff_ne.mpr c2
 have c2b1 := bne_iff_ne.mpr c2
 by_cases c5 : a0_0 = 2
 ·rw [if_pos c5] at H
  have c5b0 := beq_iff_eq.mpr c5
  have c5b1 := bne_eq_false_iff_eq.mpr c5
  clear c5
  obtain rfl := Option.some.inj H
  go_enter Tryz.func31, Tryz.ntmps31
  go_wp2_with (first | (refine be 1 #[.int .i64 a0_0, .bool a0_1, .bool a0_2, .slice A0_3 l0_3.length c0_3, .int .u64 a0_4, .string a0_5, .slice A0_6 l0_6.length c0_6] 28 ?_; intro gb711 hg w6 hbox hb; have BK711 := Az (hbox); have GW711 := gw (bl HB) hg; have GE711 := gw (bl HB) hg; replace HB := bs HB hb; clear hb hbox hg; have hz7_1 := bz BK711))
  go_ret
  exact ⟨fe, bls HB⟩
 rw [if_neg c5] at H
 have c5b0 := beq_eq_false_iff_ne.mpr c5
 have c5b1 := bne_iff_ne.mpr c5
 obtain rfl := Option.some.inj H
 go_enter Tryz.func31, Tryz.ntmps31
 go_wp2_with (first | (refine be 1 #[.int .i64 a0_0, .bool a0_1, .bool a0_2, .slice A0_3 l0_3.length c0_3, .int .u64 a0_4, .string a0_5, .slice A0_6 l0_6.length c0_6] 28 ?_; intro gb711 hg w8 hbox hb; have BK711 := Az (hbox); have GW711 := gw (bl HB) hg; have GE711 := gw (bl HB) hg; replace HB := bs HB hb; clear hb hbox hg; have hz9_1 := bz BK711))
 go_ret
 exact ⟨fe, bls HB⟩
def r5_Whole.f (k : Nat) (a0_0 : Int) (a0_1 a0_2 : Bool) (l0_3 : List Int) (a0_4 : Int) (a0_5 : ByteArray) (l0_6 : List (S28)) : Option (Bool × List Int) := if a0_0 = 1 then (if a0_1 = true then ((r2_Int.f k 1).bind fun bt817 => (some (bt817.1, bt817.2))) else ((r2_Int.f k 0).bind fun bt821 => (some (bt821.1, bt821.2)))) else ((r2_Of.f k a0_2 l0_3).bind fun bt825 => (some (bt825.1, bt825.2)))
theorem r5_Whole.calls (k : Nat) (a0_0 : Int) (a0_1 a0_2 : Bool) (A0_3 : Option Addr) (c0_3 : Nat) (l0_3 : List Int) (a0_4 : Int) (a0_5 : ByteArray) (A0_6 : Option Addr) (c0_6 : Nat) (l0_6 : List (S28)) (r1 : Bool) (r2 : List Int) (w : World) (hr0_3 : Kd.C (Kd.int .u64) w A0_3 l0_3.length l0_3) (hc0_3 : l0_3.length ≤ c0_3) (hr0_6 : Kd.C k28 w A0_6 l0_6.length l0_6) (hc0_6 : l0_6.length ≤ c0_6) (h : r5_Whole.f k a0_0 a0_1 a0_2 l0_3 a0_4 a0_5 l0_6 = some (r1, r2)) :
  Calls Tryz.prog 56 #[.agg #[.int .i64 a0_0, .bool a0_1, .bool a0_2, .slice A0_3 l0_3.length c0_3, .int .u64 a0_4, .string a0_5, .slice A0_6 l0_6.length c0_6]] w fun e w' => ∃ v1_ : Value, e = .returned (.agg #[.bool r1, v1_]) ∧ Kd.V (Kd.int .u8) 5 w' w.heap.size (fun k_ => (w.heap.size ≤ k_)) v1_ r2 ∧ Below w.heap.size w w' := by
 have hu28 := Tryz.underlying28
 have hu45 := Tryz.underlying45
 have hu24 := Tryz.underlying24
 have HR0_3 := Az hr0_3
 have HC0_3 := Az hc0_3
 clear hr0_3 hc0_3
 have HR0_6 := Az hr0_6
 have HC0_6 := Az hc0_6
 clear hr0_6 hc0_6
 have HB := Az (Below.refl w.heap.size w)
 have H := h
 unfold r5_Whole.f at H
 clear h
 by_cases c2 : a0_0 = 1
 case neg =>
  rw [if_neg c2] at H
  have c2b0 := beq_eq_false_iff_ne.mpr c2
  have c2b1 := bne_iff_ne.mpr c2
  obtain ⟨⟨t825, t826⟩, A20, H⟩ := bd H
  (try dsimp only at H)
  simp only [Option.some.injEq, Prod.mk.injEq] at H
  obtain ⟨rfl, rfl⟩ := H
  go_enter Tryz.func56, Tryz.ntmps56
  go_wp2_with (first | (refine be 1 #[.int .i64 a0_0, .bool a0_1, .bool a0_2, .slice A0_3 l0_3.length c0_3, .int .u64 a0_4, .string a0_5, .slice A0_6 l0_6.length c0_6] 28 ?_; intro gb815 hg w21 hbox hb; have BK815 := Az (hbox); have GW815 := gw (bl HB) hg; have GE815 := gw (bl HB) hg; replace HB := bs HB hb; clear hb hbox hg) | (refine be 2 #[.bool false, .slice none 0 0] 45 ?_; intro gb816 hg w22 hbox hb; have BK816 := Az (hbox); have GW816 := gw (bls HB) hg; have GE816 := gw (bls HB) hg; replace HB := bs HB hb; have NB815_816 := nl BK815 hg; have NB816_815 := ng BK815 hg; replace BK815 := kb BK815 hb; clear hb hbox hg; have hnb23 := NB815_816.out; have hnc23 := NB816_815.out; have hz24_1 := bz BK815) | (refine gl (some 12) Tryz.func87 #[.agg #[.bool a0_2, .slice A0_3 l0_3.length c0_3]] ?_; (with_reducible refine (r2_Of.calls k a0_2 _ _ l0_3 t825 t826 _ (ck HR0_3 HB) HC0_3.out A20.out).mono ?_); rintro e w25 ⟨v827, rfl, ho0, hb⟩; refine ⟨_, rfl, ?_⟩; have HO828 := Az (Kd.V_lower (Kd.V_mono (ok' := fun k_ => (w.heap.size ≤ k_) ∧ k_ ≠ gb815 ∧ k_ ≠ gb816) ho0 (fun k_ hk_ => ⟨(Nat.le_trans (below_size (bls HB)) hk_), (Kd.freshB (g := gb815) (o := .cells #[.int .i64 a0_0, .bool a0_1, .bool a0_2, .slice A0_3 l0_3.length c0_3, .int .u64 a0_4, .string a0_5, .slice A0_6 l0_6.length c0_6] 28 (0, 0)) (bk BK815) k_ hk_), (Kd.freshB (g := gb816) (o := .cells #[.bool false, .slice none 0 0] 45 (0, 0)) (bk BK816) k_ hk_)⟩)) (below_size (bls HB))); replace BK815 := kb BK815 hb; replace BK816 := kb BK816 hb; replace HB := bs HB hb; have hz26_1 := bz BK816; obtain ⟨Ao27, co27, eo27⟩ := Kd.V_slice HO828.out; subst eo27))
  refine bodyPost_ret (results_cell_row rfl _ _ gb816 45 #[.bool t825, .slice Ao27 t826.length co27] (0, 0) _ rfl (by refine blk_put (cs := #[.bool t825, .slice none 0 0]) ?_ 1 _ rfl; refine blk_put (cs := #[.bool false, .slice none 0 0]) ?_ 0 _ rfl; exact BK816.out) Tryz.underlying45 rfl (by kernel_rfl)) rfl ?_
  exact ⟨_, fe, vt (Kd.V_mono (Kd.V_far (p := ⟨gb816, 1, none⟩) (Kd.V_far (p := ⟨gb816, 0, none⟩) (Kd.V_mono HO828.out (fun k_ hk => (⟨hk, hk.2.2⟩ : _ ∧ k_ ≠ gb816))) (fun _ hk => hk.2) (.bool t825)) (fun _ hk => hk.2) (.slice Ao27 t826.length co27)) (fun _ hk => hk.1.1)), bls HB⟩
 rw [if_pos c2] at H
 have c2b0 := beq_iff_eq.mpr c2
 have c2b1 := bne_eq_false_iff_eq.mpr c2
 clear c2
 by_cases c3 : a0_1 = true
 ·subst c3
  rw [if_pos rfl] at H
  obtain ⟨⟨t817, t818⟩, A4, H⟩ := bd H
  (try dsimp only at H)
  simp only [Option.some.injEq, Prod.mk.injEq] at H
  obtain ⟨rfl, rfl⟩ := H
  go_enter Tryz.func56, Tryz.ntmps56
  go_wp2_with (first | (refine be 1 #[.int .i64 a0_0, .bool true, .bool a0_2, .slice A0_3 l0_3.length c0_3, .int .u64 a0_4, .string a0_5, .slice A0_6 l0_6.length c0_6] 28 ?_; intro gb815 hg w5 hbox hb; have BK815 := Az (hbox); have GW815 := gw (bl HB) hg; have GE815 := gw (bl HB) hg; replace HB := bs HB hb; clear hb hbox hg) | (refine be 2 #[.bool false, .slice none 0 0] 45 ?_; intro gb816 hg w6 hbox hb; have BK816 := Az (hbox); have GW816 := gw (bls HB) hg; have GE816 := gw (bls HB) hg; replace HB := bs HB hb; have NB815_816 := nl BK815 hg; have NB816_815 := ng BK815 hg; replace BK815 := kb BK815 hb; clear hb hbox hg; have hnb7 := NB815_816.out; have hnc7 := NB816_815.out; have hz8_1 := bz BK815) | (refine gl (some 8) Tryz.func20 #[.int .i64 1] ?_; (with_reducible refine (r2_Int.calls k 1 t817 t818 _ A4.out).mono ?_); rintro e w9 ⟨v819, rfl, ho0, hb⟩; refine ⟨_, rfl, ?_⟩; have HO820 := Az (Kd.R_lower (Kd.R_newM (M := fun k_ => (w.heap.size ≤ k_)) ho0 (below_size (bls HB)) (fun k_ h_ => h_)) (below_size (bls HB))); replace BK815 := kb BK815 hb; replace BK816 := kb BK816 hb; replace HB := bs HB hb; have hz10_1 := bz BK816; obtain ⟨Ao11, co11, eo11⟩ := Kd.R_slice HO820.out; subst eo11))
  refine bodyPost_ret (results_cell_row rfl _ _ gb816 45 #[.bool t817, .slice Ao11 t818.length co11] (0, 0) _ rfl (by refine blk_put (cs := #[.bool t817, .slice none 0 0]) ?_ 1 _ rfl; refine blk_put (cs := #[.bool false, .slice none 0 0]) ?_ 0 _ rfl; exact BK816.out) Tryz.underlying45 rfl (by kernel_rfl)) rfl ?_
  exact ⟨_, fe, Kd.R_V (rt (Kd.R_mono (Kd.R_far (p := ⟨gb816, 1, none⟩) (Kd.R_far (p := ⟨gb816, 0, none⟩) (Kd.R_types HO820.out BK816.out (by decide)) (fun _ hk => hk.2) (.bool t817)) (fun _ hk => hk.2) (.slice Ao11 t818.length co11)) (fun _ hk => hk.1.1))), bls HB⟩
 replace c3 := Bool.eq_false_iff.mpr c3
 subst c3
 rw [if_neg Bool.false_ne_true] at H
 obtain ⟨⟨t821, t822⟩, A12, H⟩ := bd H
 (try dsimp only at H)
 simp only [Option.some.injEq, Prod.mk.injEq] at H
 obtain ⟨rfl, rfl⟩ := H
 go_enter Tryz.func56, Tryz.ntmps56
 go_wp2_with (first | (refine be 1 #[.int .i64 a0_0, .bool false, .bool a0_2, .slice A0_3 l0_3.length c0_3, .int .u64 a0_4, .string a0_5, .slice A0_6 l0_6.length c0_6] 28 ?_; intro gb815 hg w13 hbox hb; have BK815 := Az (hbox); have GW815 := gw (bl HB) hg; have GE815 := gw (bl HB) hg; replace HB := bs HB hb; clear hb hbox hg) | (refine be 2 #[.bool false, .slice none 0 0] 45 ?_; intro gb816 hg w14 hbox hb; have BK816 := Az (hbox); have GW816 := gw (bls HB) hg; have GE816 := gw (bls HB) hg; replace HB := bs HB hb; have NB815_816 := nl BK815 hg; have NB816_815 := ng BK815 hg; replace BK815 := kb BK815 hb; clear hb hbox hg; have hnb15 := NB815_816.out; have hnc15 := NB816_815.out; have hz16_1 := bz BK815) | (refine gl (some 9) Tryz.func20 #[.int .i64 0] ?_; (with_reducible refine (r2_Int.calls k 0 t821 t822 _ A12.out).mono ?_); rintro e w17 ⟨v823, rfl, ho0, hb⟩; refine ⟨_, rfl, ?_⟩; have HO824 := Az (Kd.R_lower (Kd.R_newM (M := fun k_ => (w.heap.size ≤ k_)) ho0 (below_size (bls HB)) (fun k_ h_ => h_)) (below_size (bls HB))); replace BK815 := kb BK815 hb; replace BK816 := kb BK816 hb; replace HB := bs HB hb; have hz18_1 := bz BK816; obtain ⟨Ao19, co19, eo19⟩ := Kd.R_slice HO824.out; subst eo19))
 refine bodyPost_ret (results_cell_row rfl _ _ gb816 45 #[.bool t821, .slice Ao19 t822.length co19] (0, 0) _ rfl (by refine blk_put (cs := #[.bool t821, .slice none 0 0]) ?_ 1 _ rfl; refine blk_put (cs := #[.bool false, .slice none 0 0]) ?_ 0 _ rfl; exact BK816.out) Tryz.underlying45 rfl (by kernel_rfl)) rfl ?_
 exact ⟨_, fe, Kd.R_V (rt (Kd.R_mono (Kd.R_far (p := ⟨gb816, 1, none⟩) (Kd.R_far (p := ⟨gb816, 0, none⟩) (Kd.R_types HO824.out BK816.out (by decide)) (fun _ hk => hk.2) (.bool t821)) (fun _ hk => hk.2) (.slice Ao19 t822.length co19)) (fun _ hk => hk.1.1))), bls HB⟩
def r5_numbers.j0 : Nat → Bool → Int → Bool → Bool → List Int → Int → ByteArray → List (S28) → Int → Bool → Bool → List Int → Int → ByteArray → List (S28) → Option (Int × Bool)
 | 0, _, _, _, _, _, _, _, _, _, _, _, _, _, _, _ => none
 | k + 1, x15, x830000, x830001, x830002, x830003, x830004, x830005, x830006, x831000, x831001, x831002, x831003, x831004, x831005, x831006 => if x15 = true then ((r3_Cmp.f k x830004 x831004).bind fun bt831 => (some (bt831.1, bt831.2))) else (if x830000 = 3 then ((r5_Whole.f k x831000 x831001 x831002 x831003 x831004 x831005 x831006).bind fun bt833 => ((r2_To.f k bt833.1 bt833.2).bind fun bt837 => ((r3_CmpBig.f k x830004 bt837.1 bt837.2).bind fun bt841 => (some (bt841.1, bt841.2))))) else (if x831000 = 3 then ((r5_Whole.f k x830000 x830001 x830002 x830003 x830004 x830005 x830006).bind fun bt843 => ((r2_To.f k bt843.1 bt843.2).bind fun bt847 => ((r3_CmpBig.f k x831004 bt847.1 bt847.2).bind fun bt851 => (some (wrap64 (-bt851.1), bt851.2))))) else ((r5_Whole.f k x830000 x830001 x830002 x830003 x830004 x830005 x830006).bind fun bt853 => ((r5_Whole.f k x831000 x831001 x831002 x831003 x831004 x831005 x831006).bind fun bt857 => ((r2_Cmp.f k bt853.1 bt853.2 bt857.1 bt857.2).bind fun t861 => (some (t861, true)))))))
def r5_numbers.f (k : Nat) (a0_0 : Int) (a0_1 a0_2 : Bool) (l0_3 : List Int) (a0_4 : Int) (a0_5 : ByteArray) (l0_6 : List (S28)) (a1_0 : Int) (a1_1 a1_2 : Bool) (l1_3 : List Int) (a1_4 : Int) (a1_5 : ByteArray) (l1_6 : List (S28)) : Option (Int × Bool) := if a0_0 = 3 then (r5_numbers.j0 k (a1_0 == 3) a0_0 a0_1 a0_2 l0_3 a0_4 a0_5 l0_6 a1_0 a1_1 a1_2 l1_3 a1_4 a1_5 l1_6) else (r5_numbers.j0 k false a0_0 a0_1 a0_2 l0_3 a0_4 a0_5 l0_6 a1_0 a1_1 a1_2 l1_3 a1_4 a1_5 l1_6)
def r5_numbers.T4 : Bool × List (List Nat × List Nat) := (true, [([], []), ([0], [0]), ([], []), ([2], [2]), ([3, 3], [3]), ([1, 4, 4], [1, 4]), ([5], [5]), ([5], [5]), ([6, 5, 0, 1, 2, 3, 4, 5, 6, 7], [6]), ([7, 8, 0, 1, 2, 3, 4, 5, 6, 7, 8], [7])])
def r5_numbers.B4 : List Nat := [0, 1, 0, 4, 12, 31, 63, 63, 255, 511]
theorem r5_numbers.tab4 : rtab .any (opsOf Tryz.f32 4) = r5_numbers.T4 := by kernel_rfl
theorem r5_numbers.bits4 : waitsOk r5_numbers.T4.2 r5_numbers.B4 = true := by kernel_rfl
def r5_numbers.T6 : Bool × List (List Nat × List Nat) := (true, [([], []), ([0], [0]), ([], []), ([2], [2]), ([3, 3], [3]), ([1, 4, 4], [1, 4]), ([5], [5]), ([6], [6]), ([6], [6]), ([7, 5, 0, 1, 2, 3, 4, 5, 6, 7], [7]), ([8, 9, 0, 1, 2, 3, 4, 5, 6, 7, 8, 9], [8])])
def r5_numbers.B6 : List Nat := [0, 1, 0, 4, 12, 31, 63, 127, 127, 255, 1023]
theorem r5_numbers.tab6 : rtab .any (opsOf Tryz.f32 6) = r5_numbers.T6 := by kernel_rfl
theorem r5_numbers.bits6 : waitsOk r5_numbers.T6.2 r5_numbers.B6 = true := by kernel_rfl
theorem r5_numbers.calls (k : Nat) (a0_0 : Int) (a0_1 a0_2 : Bool) (A0_3 : Option Addr) (c0_3 : Nat) (l0_3 : List Int) (a0_4 : Int) (a0_5 : ByteArray) (A0_6 : Option Addr) (c0_6 : Nat) (l0_6 : List (S28)) (a1_0 : Int) (a1_1 a1_2 : Bool) (A1_3 : Option Addr) (c1_3 : Nat) (l1_3 : List Int) (a1_4 : Int) (a1_5 : ByteArray) (A1_6 : Option Addr) (c1_6 : Nat) (l1_6 : List (S28)) (r1 : Int) (r2 : Bool) (w : World) (hr0_3 : Kd.C (Kd.int .u64) w A0_3 l0_3.length l0_3) (hc0_3 : l0_3.length ≤ c0_3) (hr0_6 : Kd.C k28 w A0_6 l0_6.length l0_6) (hc0_6 : l0_6.length ≤ c0_6) (hr1_3 : Kd.C (Kd.int .u64) w A1_3 l1_3.length l1_3) (hc1_3 : l1_3.length ≤ c1_3) (hr1_6 : Kd.C k28 w A1_6 l1_6.length l1_6) (hc1_6 : l1_6.length ≤ c1_6) (h : r5_numbers.f k a0_0 a0_1 a0_2 l0_3 a0_4 a0_5 l0_6 a1_0 a1_1 a1_2 l1_3 a1_4 a1_5 l1_6 = some (r1, r2)) :
  Calls Tryz.prog 32 #[.agg #[.int .i64 a0_0, .bool a0_1, .bool a0_2, .slice A0_3 l0_3.length c0_3, .int .u64 a0_4, .string a0_5, .slice A0_6 l0_6.length c0_6], .agg #[.int .i64 a1_0, .bool a1_1, .bool a1_2, .slice A1_3 l1_3.length c1_3, .int .u64 a1_4, .string a1_5, .slice A1_6 l1_6.length c1_6]] w fun e w' => e = .returned (.tuple #[.int .i64 r1, .bool r2]) ∧ Below w.heap.size w w' := by
 have hu28 := Tryz.underlying28
 have HR0_3 := Az hr0_3
 have HC0_3 := Az hc0_3
 have HR0_6 := Az hr0_6
 have HC0_6 := Az hc0_6
 have HR1_3 := Az hr1_3
 have HC1_3 := Az hc1_3
 have HR1_6 := Az hr1_6
 have HC1_6 := Az hc1_6
 have HB := Az (Below.refl w.heap.size w)
 have H := h
 unfold r5_numbers.f at H
 have HC3 := Az H
 go_enter Tryz.func32, Tryz.ntmps32
 go_upto_region 1 with (first | (refine be 2 #[.int .i64 a0_0, .bool a0_1, .bool a0_2, .slice A0_3 l0_3.length c0_3, .int .u64 a0_4, .string a0_5, .slice A0_6 l0_6.length c0_6] 28 ?_; intro gb829 hg w4 hbox hb; have BK829 := Az (hbox); have GW829 := gw (bl HB) hg; have GE829 := gw (bl HB) hg; replace HB := bs HB hb; clear hb hbox hg) | (refine be 3 #[.int .i64 a1_0, .bool a1_1, .bool a1_2, .slice A1_3 l1_3.length c1_3, .int .u64 a1_4, .string a1_5, .slice A1_6 l1_6.length c1_6] 28 ?_; intro gb830 hg w5 hbox hb; have BK830 := Az (hbox); have GW830 := gw (bls HB) hg; have GE830 := gw (bls HB) hg; replace HB := bs HB hb; have NB829_830 := nl BK829 hg; have NB830_829 := ng BK829 hg; replace BK829 := kb BK829 hb; clear hb hbox hg))
 (try simp only [Act.put, List.setIfInBounds_toArray, List.set_cons_zero, List.set_cons_succ])
 go_cut [15] (fun v15 wc => ∃ (kq : Nat) (x15_2 : Bool), v15 = .bool x15_2 ∧ Aside0 (r5_numbers.j0 kq x15_2 a0_0 a0_1 a0_2 l0_3 a0_4 a0_5 l0_6 a1_0 a1_1 a1_2 l1_3 a1_4 a1_5 l1_6 = some (r1, r2)) ∧ Aside0 (kq ≤ k) ∧ Aside0 (wc.heap[gb829]? = some (.cells #[.int .i64 a0_0, .bool a0_1, .bool a0_2, (.slice A0_3 l0_3.length c0_3), .int .u64 a0_4, .string a0_5, (.slice A0_6 l0_6.length c0_6)] 28 (0, 0))) ∧ Aside0 (wc.heap[gb830]? = some (.cells #[.int .i64 a1_0, .bool a1_1, .bool a1_2, (.slice A1_3 l1_3.length c1_3), .int .u64 a1_4, .string a1_5, (.slice A1_6 l1_6.length c1_6)] 28 (0, 0))) ∧ Aside0 (Below w.heap.size w wc))
 case first =>
  have H := HC3.out
  by_cases c6 : a0_0 = 3
  case neg =>
   rw [if_neg c6] at H
   (first | rw [c6b0] | (simp only [i64_w, i32_w]; rw [c6b0]) | skip)
   have H' := Az H
   have hnb10 := NB829_830.out
   have hnc10 := NB830_829.out
   have hz11_1 := bz BK829
   go_wp2
   go_meet
   case rel => exact ⟨_, (false), rs, H', ⟨le0⟩, ⟨bk BK829⟩, ⟨bk BK830⟩, ⟨bls HB⟩⟩
  rw [if_pos c6] at H
  (first | rw [c6b0] | (simp only [i64_w, i32_w]; rw [c6b0]) | skip)
  have H' := Az H
  have hnb7 := NB829_830.out
  have hnc7 := NB830_829.out
  have hz8_1 := bz BK829
  have hz9_2 := bz BK830
  go_wp2
  go_meet
  case rel => exact ⟨_, ((a1_0 == 3)), rs, H', ⟨le0⟩, ⟨bk BK829⟩, ⟨bk BK830⟩, ⟨bls HB⟩⟩
 case rest =>
  obtain ⟨kq, x15_2, rfl, HA, HJ2, BK829, BK830, HB⟩ := hcut
  cases kq with
  | zero => exact absurd HA.out (by simp [r5_numbers.j0])
  | succ kj2 =>
   have H := HA.out
   simp only [r5_numbers.j0] at H
   by_cases c12 : x15_2 = true
   ·subst c12
    rw [if_pos rfl] at H
    obtain ⟨⟨t831, t832⟩, A13, H⟩ := bd H
    (try dsimp only at H)
    simp only [Option.some.injEq, Prod.mk.injEq] at H
    obtain ⟨rfl, rfl⟩ := H
    have hnb14 := NB829_830.out
    have hnc14 := NB830_829.out
    have hz15_1 := bz BK829
    have hz16_2 := bz BK830
    go_wp2_with (first | (refine gl (some 20) Tryz.func54 #[.int .u64 a0_4, .int .u64 a1_4] ?_; (with_reducible refine (r3_Cmp.calls kj2 a0_4 a1_4 t831 t832 _ A13.out).mono ?_); rintro e w' ⟨rfl, ⟨nd, rfl⟩⟩; refine ⟨_, rfl, ?_⟩))
    go_ret2
    exact ⟨fe, bls HB⟩
   replace c12 := Bool.eq_false_iff.mpr c12
   subst c12
   rw [if_neg Bool.false_ne_true] at H
   by_cases c17 : a0_0 = 3
   ·rw [if_pos c17] at H
    obtain ⟨⟨t833, t834⟩, A18, H⟩ := bd H
    (try dsimp only at H)
    obtain ⟨⟨t837, t838⟩, A19, H⟩ := bd H
    (try dsimp only at H)
    obtain ⟨⟨t841, t842⟩, A20, H⟩ := bd H
    (try dsimp only at H)
    simp only [Option.some.injEq, Prod.mk.injEq] at H
    obtain ⟨rfl, rfl⟩ := H
    have hnb21 := NB829_830.out
    have hnc21 := NB830_829.out
    have hz22_1 := bz BK829
    try go_wp2
    replace BK829 := Az (blk_drew BK829.out)
    replace BK830 := Az (blk_drew BK830.out)
    replace HB := Az (below_drew1 HB.out)
    refine start_ (n := 10) (S := fun w' => w'.cell? ⟨gb829, 0, none⟩ = some (.int .i64 a0_0) ∧ w'.cell? ⟨gb829, 1, none⟩ = some (.bool a0_1) ∧ w'.cell? ⟨gb829, 2, none⟩ = some (.bool a0_2) ∧ w'.cell? ⟨gb829, 3, none⟩ = some (.slice A0_3 l0_3.length c0_3) ∧ w'.cell? ⟨gb829, 4, none⟩ = some (.int .u64 a0_4) ∧ w'.cell? ⟨gb829, 5, none⟩ = some (.string a0_5) ∧ w'.cell? ⟨gb829, 6, none⟩ = some (.slice A0_6 l0_6.length c0_6) ∧ w'.cell? ⟨gb830, 0, none⟩ = some (.int .i64 a1_0) ∧ w'.cell? ⟨gb830, 1, none⟩ = some (.bool a1_1) ∧ w'.cell? ⟨gb830, 2, none⟩ = some (.bool a1_2) ∧ w'.cell? ⟨gb830, 3, none⟩ = some (.slice A1_3 l1_3.length c1_3) ∧ w'.cell? ⟨gb830, 4, none⟩ = some (.int .u64 a1_4) ∧ w'.cell? ⟨gb830, 5, none⟩ = some (.string a1_5) ∧ w'.cell? ⟨gb830, 6, none⟩ = some (.slice A1_6 l1_6.length c1_6)) (ds := []) (bm 10 0) (by kernel_rfl) rfl rfl ⟨(blk_cell BK829.out 0).trans rfl, (blk_cell BK829.out 1).trans rfl, (blk_cell BK829.out 2).trans rfl, (blk_cell BK829.out 3).trans rfl, (blk_cell BK829.out 4).trans rfl, (blk_cell BK829.out 5).trans rfl, (blk_cell BK829.out 6).trans rfl, (blk_cell BK830.out 0).trans rfl, (blk_cell BK830.out 1).trans rfl, (blk_cell BK830.out 2).trans rfl, (blk_cell BK830.out 3).trans rfl, (blk_cell BK830.out 4).trans rfl, (blk_cell BK830.out 5).trans rfl, (blk_cell BK830.out 6).trans rfl⟩ (fun hHeld => ?_); refine with_tabW r5_numbers.tab4 r5_numbers.bits4 (fun HT_ HW_ => ?_)
    generalize wc.drew = w23 at BK829 BK830 HB hHeld ⊢
    refine pu 0 (some 26) (bm 10 1) HT_.out ?_
    refine tk 1 (some 27) (bm 10 3) HT_.out HW_.out hHeld ?_
    refine tk 2 (some 28) (bm 10 7) HT_.out HW_.out hHeld ?_
    refine on 3 (some 29) (bm 10 15) HT_.out (fun K hK => ?_)
    refine gs Tryz.func56 #[.agg #[.int .i64 a1_0, .bool a1_1, .bool a1_2, .slice A1_3 l1_3.length c1_3, .int .u64 a1_4, .string a1_5, .slice A1_6 l1_6.length c1_6]] ?_
    with_reducible refine (r5_Whole.calls kj2 a1_0 a1_1 a1_2 _ _ l1_3 a1_4 a1_5 _ _ l1_6 t833 t834 _ (ck HR1_3 HB) HC1_3.out (ck HR1_6 HB) HC1_6.out A18.out).mono ?_
    rintro e w24 ⟨v835, rfl, ho0, hb⟩
    refine ⟨_, rfl, ?_⟩
    have HO836 := Az (Kd.V_lower (Kd.V_mono (ok' := fun k_ => k_ ≠ gb829 ∧ k_ ≠ gb830) ho0 (fun k_ hk_ => ⟨(Kd.freshB (g := gb829) (o := .cells #[.int .i64 a0_0, .bool a0_1, .bool a0_2, .slice A0_3 l0_3.length c0_3, .int .u64 a0_4, .string a0_5, .slice A0_6 l0_6.length c0_6] 28 (0, 0)) (bk BK829) k_ hk_), (Kd.freshB (g := gb830) (o := .cells #[.int .i64 a1_0, .bool a1_1, .bool a1_2, .slice A1_3 l1_3.length c1_3, .int .u64 a1_4, .string a1_5, .slice A1_6 l1_6.length c1_6] 28 (0, 0)) (bk BK830) k_ hk_)⟩)) (below_size (bls HB)))
    replace BK829 := kb BK829 hb
    replace BK830 := kb BK830 hb
    replace HB := bs HB hb
    (try clear hb)
    (try clear ho0)
    obtain ⟨Ao25, co25, eo25⟩ := Kd.V_slice HO836.out
    (first | subst eo25 | (injection eo25 with f1_ f2_ f3_; have f4_ := f1_.symm; have f5_ := f3_.symm; clear f1_ f2_ f3_; subst f4_; subst f5_))
    refine hK.out _ _ hd (fun hHeld => ?_)
    refine nm ?_
    refine on 4 (some 30) (bm 10 31) HT_.out (fun K hK => ?_)
    refine gs Tryz.func42 #[.agg #[.bool t833, .slice Ao25 t834.length co25]] ?_
    with_reducible refine (r2_To.calls kj2 t833 _ _ t834 t837 t838 _ ?side1 (Kd.V_reads' HO836.out).2.1 A19.out).mono ?_
    (case side1 => exact (Kd.V_reads' HO836.out).2.2)
    rintro e w26 ⟨v839, rfl, ho0, hb⟩
    refine ⟨_, rfl, ?_⟩
    replace HO836 := Az (Kd.V_elder' (vk HO836) (Kd.R_base ho0) hb)
    have HO840 := Az (Kd.R_lower ho0 (below_size (bls HB)))
    replace BK829 := kb BK829 hb
    replace BK830 := kb BK830 hb
    replace HB := bs HB hb
    (try clear hb)
    (try clear hb2)
    (try clear hk)
    (try clear hi)
    (try clear ho0)
    obtain ⟨Ao27, co27, eo27⟩ := Kd.R_slice HO840.out
    (first | subst eo27 | (injection eo27 with f1_ f2_ f3_; have f4_ := f1_.symm; have f5_ := f3_.symm; clear f1_ f2_ f3_; subst f4_; subst f5_))
    refine hK.out _ _ hd (fun hHeld => ?_)
    refine nm ?_
    refine on 5 (some 31) (bm 10 63) HT_.out (fun K hK => ?_)
    refine gs Tryz.func55 #[.int .u64 a0_4, .agg #[.bool t837, .slice Ao27 t838.length co27]] ?_
    with_reducible refine (r3_CmpBig.calls kj2 a0_4 t837 _ _ t838 t841 t842 _ ?side1 (Kd.R_reads' HO840.out).2.1 A20.out).mono ?_
    (case side1 => exact (Kd.R_reads' HO840.out).2.2)
    rintro e w28 ⟨rfl, hb⟩
    refine ⟨_, rfl, ?_⟩
    replace HO836 := Az (Kd.V_below (vk HO836) hb)
    replace HO840 := Az (Kd.R_below (rk HO840) hb)
    replace BK829 := kb BK829 hb
    replace BK830 := kb BK830 hb
    replace HB := bs HB hb
    (try clear hb)
    (try clear hb2)
    (try clear hk)
    (try clear hi)
    refine hK.out _ _ hd (fun hHeld => ?_)
    refine nm ?_
    refine pu 6 (some 32) (bm 10 127) HT_.out ?_
    refine pu 7 (some 33) (bm 10 255) HT_.out ?_
    refine pu 8 (some 4) (bm 10 511) HT_.out ?_
    refine pu 9 (some 5) (bm 10 1023) HT_.out ?_
    refine done_ (done_of HT_.out (by kernel_rfl)) ?_
    try go_wp2
    go_ret2
    exact ⟨fe, bls HB⟩
   rw [if_neg c17] at H
   by_cases c29 : a1_0 = 3
   ·rw [if_pos c29] at H
    obtain ⟨⟨t843, t844⟩, A30, H⟩ := bd H
    (try dsimp only at H)
    obtain ⟨⟨t847, t848⟩, A31, H⟩ := bd H
    (try dsimp only at H)
    obtain ⟨⟨t851, t852⟩, A32, H⟩ := bd H
    (try dsimp only at H)
    simp only [Option.some.injEq, Prod.mk.injEq] at H
    obtain ⟨rfl, rfl⟩ := H
    have hnb33 := NB829_830.out
    have hnc33 := NB830_829.out
    have hz34_1 := bz BK829
    have hz35_2 := bz BK830
    try go_wp2
    replace BK829 := Az (blk_drew BK829.out)
    replace BK830 := Az (blk_drew BK830.out)
    replace HB := Az (below_drew1 HB.out)
    refine start_ (n := 11) (S := fun w' => w'.cell? ⟨gb830, 0, none⟩ = some (.int .i64 a1_0) ∧ w'.cell? ⟨gb830, 1, none⟩ = some (.bool a1_1) ∧ w'.cell? ⟨gb830, 2, none⟩ = some (.bool a1_2) ∧ w'.cell? ⟨gb830, 3, none⟩ = some (.slice A1_3 l1_3.length c1_3) ∧ w'.cell? ⟨gb830, 4, none⟩ = some (.int .u64 a1_4) ∧ w'.cell? ⟨gb830, 5, none⟩ = some (.string a1_5) ∧ w'.cell? ⟨gb830, 6, none⟩ = some (.slice A1_6 l1_6.length c1_6) ∧ w'.cell? ⟨gb829, 0, none⟩ = some (.int .i64 a0_0) ∧ w'.cell? ⟨gb829, 1, none⟩ = some (.bool a0_1) ∧ w'.cell? ⟨gb829, 2, none⟩ = some (.bool a0_2) ∧ w'.cell? ⟨gb829, 3, none⟩ = some (.slice A0_3 l0_3.length c0_3) ∧ w'.cell? ⟨gb829, 4, none⟩ = some (.int .u64 a0_4) ∧ w'.cell? ⟨gb829, 5, none⟩ = some (.string a0_5) ∧ w'.cell? ⟨gb829, 6, none⟩ = some (.slice A0_6 l0_6.length c0_6)) (ds := []) (bm 11 0) (by kernel_rfl) rfl rfl ⟨(blk_cell BK830.out 0).trans rfl, (blk_cell BK830.out 1).trans rfl, (blk_cell BK830.out 2).trans rfl, (blk_cell BK830.out 3).trans rfl, (blk_cell BK830.out 4).trans rfl, (blk_cell BK830.out 5).trans rfl, (blk_cell BK830.out 6).trans rfl, (blk_cell BK829.out 0).trans rfl, (blk_cell BK829.out 1).trans rfl, (blk_cell BK829.out 2).trans rfl, (blk_cell BK829.out 3).trans rfl, (blk_cell BK829.out 4).trans rfl, (blk_cell BK829.out 5).trans rfl, (blk_cell BK829.out 6).trans rfl⟩ (fun hHeld => ?_); refine with_tabW r5_numbers.tab6 r5_numbers.bits6 (fun HT_ HW_ => ?_)
    generalize wc.drew = w36 at BK829 BK830 HB hHeld ⊢
    refine pu 0 (some 38) (bm 11 1) HT_.out ?_
    refine tk 1 (some 39) (bm 11 3) HT_.out HW_.out hHeld ?_
    refine tk 2 (some 40) (bm 11 7) HT_.out HW_.out hHeld ?_
    refine on 3 (some 41) (bm 11 15) HT_.out (fun K hK => ?_)
    refine gs Tryz.func56 #[.agg #[.int .i64 a0_0, .bool a0_1, .bool a0_2, .slice A0_3 l0_3.length c0_3, .int .u64 a0_4, .string a0_5, .slice A0_6 l0_6.length c0_6]] ?_
    with_reducible refine (r5_Whole.calls kj2 a0_0 a0_1 a0_2 _ _ l0_3 a0_4 a0_5 _ _ l0_6 t843 t844 _ (ck HR0_3 HB) HC0_3.out (ck HR0_6 HB) HC0_6.out A30.out).mono ?_
    rintro e w37 ⟨v845, rfl, ho0, hb⟩
    refine ⟨_, rfl, ?_⟩
    have HO846 := Az (Kd.V_lower (Kd.V_mono (ok' := fun k_ => k_ ≠ gb829 ∧ k_ ≠ gb830) ho0 (fun k_ hk_ => ⟨(Kd.freshB (g := gb829) (o := .cells #[.int .i64 a0_0, .bool a0_1, .bool a0_2, .slice A0_3 l0_3.length c0_3, .int .u64 a0_4, .string a0_5, .slice A0_6 l0_6.length c0_6] 28 (0, 0)) (bk BK829) k_ hk_), (Kd.freshB (g := gb830) (o := .cells #[.int .i64 a1_0, .bool a1_1, .bool a1_2, .slice A1_3 l1_3.length c1_3, .int .u64 a1_4, .string a1_5, .slice A1_6 l1_6.length c1_6] 28 (0, 0)) (bk BK830) k_ hk_)⟩)) (below_size (bls HB)))
    replace BK829 := kb BK829 hb
    replace BK830 := kb BK830 hb
    replace HB := bs HB hb
    (try clear hb)
    (try clear ho0)
    obtain ⟨Ao38, co38, eo38⟩ := Kd.V_slice HO846.out
    (first | subst eo38 | (injection eo38 with f1_ f2_ f3_; have f4_ := f1_.symm; have f5_ := f3_.symm; clear f1_ f2_ f3_; subst f4_; subst f5_))
    refine hK.out _ _ hd (fun hHeld => ?_)
    refine nm ?_
    refine on 4 (some 42) (bm 11 31) HT_.out (fun K hK => ?_)
    refine gs Tryz.func42 #[.agg #[.bool t843, .slice Ao38 t844.length co38]] ?_
    with_reducible refine (r2_To.calls kj2 t843 _ _ t844 t847 t848 _ ?side1 (Kd.V_reads' HO846.out).2.1 A31.out).mono ?_
    (case side1 => exact (Kd.V_reads' HO846.out).2.2)
    rintro e w39 ⟨v849, rfl, ho0, hb⟩
    refine ⟨_, rfl, ?_⟩
    replace HO846 := Az (Kd.V_elder' (vk HO846) (Kd.R_base ho0) hb)
    have HO850 := Az (Kd.R_lower ho0 (below_size (bls HB)))
    replace BK829 := kb BK829 hb
    replace BK830 := kb BK830 hb
    replace HB := bs HB hb
    (try clear hb)
    (try clear hb2)
    (try clear hk)
    (try clear hi)
    (try clear ho0)
    obtain ⟨Ao40, co40, eo40⟩ := Kd.R_slice HO850.out
    (first | subst eo40 | (injection eo40 with f1_ f2_ f3_; have f4_ := f1_.symm; have f5_ := f3_.symm; clear f1_ f2_ f3_; subst f4_; subst f5_))
    refine hK.out _ _ hd (fun hHeld => ?_)
    refine nm ?_
    refine on 5 (some 43) (bm 11 63) HT_.out (fun K hK => ?_)
    refine gs Tryz.func55 #[.int .u64 a1_4, .agg #[.bool t847, .slice Ao40 t848.length co40]] ?_
    with_reducible refine (r3_CmpBig.calls kj2 a1_4 t847 _ _ t848 t851 t852 _ ?side1 (Kd.R_reads' HO850.out).2.1 A32.out).mono ?_
    (case side1 => exact (Kd.R_reads' HO850.out).2.2)
    rintro e w41 ⟨rfl, hb⟩
    refine ⟨_, rfl, ?_⟩
    replace HO846 := Az (Kd.V_below (vk HO846) hb)
    replace HO850 := Az (Kd.R_below (rk HO850) hb)
    replace BK829 := kb BK829 hb
    replace BK830 := kb BK830 hb
    replace HB := bs HB hb
    (try clear hb)
    (try clear hb2)
    (try clear hk)
    (try clear hi)
    refine hK.out _ _ hd (fun hHeld => ?_)
    refine nm ?_
    refine pu 6 (some 37) (bm 11 127) HT_.out ?_
    refine pu 7 (some 44) (bm 11 255) HT_.out ?_
    refine pu 8 (some 45) (bm 11 511) HT_.out ?_
    refine pu 9 (some 6) (bm 11 1023) HT_.out ?_
    refine pu 10 (some 7) (bm 11 2047) HT_.out ?_
    refine done_ (done_of HT_.out (by kernel_rfl)) ?_
    try go_wp2
    go_ret2
    exact ⟨fe, bls HB⟩
   rw [if_neg c29] at H
   obtain ⟨⟨t853, t854⟩, A42, H⟩ := bd H
   (try dsimp only at H)
   obtain ⟨⟨t857, t858⟩, A43, H⟩ := bd H
   (try dsimp only at H)
   obtain ⟨t861, A44, H⟩ := bd H
   simp only [Option.some.injEq, Prod.mk.injEq] at H
   obtain ⟨rfl, rfl⟩ := H
   have hnb45 := NB829_830.out
   have hnc45 := NB830_829.out
   have hz46_1 := bz BK829
   have hz47_2 := bz BK830
   try go_wp2
   replace BK829 := Az (blk_drew BK829.out)
   replace BK830 := Az (blk_drew BK830.out)
   replace HB := Az (below_drew1 HB.out)
   refine start_ (n := 7) (S := fun w' => w'.cell? ⟨gb829, 0, none⟩ = some (.int .i64 a0_0) ∧ w'.cell? ⟨gb829, 1, none⟩ = some (.bool a0_1) ∧ w'.cell? ⟨gb829, 2, none⟩ = some (.bool a0_2) ∧ w'.cell? ⟨gb829, 3, none⟩ = some (.slice A0_3 l0_3.length c0_3) ∧ w'.cell? ⟨gb829, 4, none⟩ = some (.int .u64 a0_4) ∧ w'.cell? ⟨gb829, 5, none⟩ = some (.string a0_5) ∧ w'.cell? ⟨gb829, 6, none⟩ = some (.slice A0_6 l0_6.length c0_6) ∧ w'.cell? ⟨gb830, 0, none⟩ = some (.int .i64 a1_0) ∧ w'.cell? ⟨gb830, 1, none⟩ = some (.bool a1_1) ∧ w'.cell? ⟨gb830, 2, none⟩ = some (.bool a1_2) ∧ w'.cell? ⟨gb830, 3, none⟩ = some (.slice A1_3 l1_3.length c1_3) ∧ w'.cell? ⟨gb830, 4, none⟩ = some (.int .u64 a1_4) ∧ w'.cell? ⟨gb830, 5, none⟩ = some (.string a1_5) ∧ w'.cell? ⟨gb830, 6, none⟩ = some (.slice A1_6 l1_6.length c1_6)) (ds := []) (bm 7 0) (by kernel_rfl) rfl rfl ⟨(blk_cell BK829.out 0).trans rfl, (blk_cell BK829.out 1).trans rfl, (blk_cell BK829.out 2).trans rfl, (blk_cell BK829.out 3).trans rfl, (blk_cell BK829.out 4).trans rfl, (blk_cell BK829.out 5).trans rfl, (blk_cell BK829.out 6).trans rfl, (blk_cell BK830.out 0).trans rfl, (blk_cell BK830.out 1).trans rfl, (blk_cell BK830.out 2).trans rfl, (blk_cell BK830.out 3).trans rfl, (blk_cell BK830.out 4).trans rfl, (blk_cell BK830.out 5).trans rfl, (blk_cell BK830.out 6).trans rfl⟩ (fun hHeld => ?_)
   generalize wc.drew = w48 at BK829 BK830 HB hHeld ⊢
   refine take_ (i := 0) (N := some 49) (v := ?_) (a' := ?_) (bm 7 1) rfl rfl (by kernel_rfl) (fun _ _ _ h => h) (Or.inl ⟨by rfl, ?_⟩) hHeld ?_ ?_
   rotate_left
   ·rintro w' ⟨s0, s1, s2, s3, s4, s5, s6, s7, s8, s9, s10, s11, s12, s13⟩
    go_simp
    with_reducible rfl
   rotate_left
   ·simp only [Act.put, List.setIfInBounds_toArray, List.set_cons_zero, List.set_cons_succ, i64_w, i32_w]
    rfl
   refine take_ (i := 2) (N := some 51) (v := ?_) (a' := ?_) (bm 7 5) rfl rfl (by kernel_rfl) (fun _ _ _ h => h) (Or.inl ⟨by rfl, ?_⟩) hHeld ?_ ?_
   rotate_left
   ·rintro w' ⟨s0, s1, s2, s3, s4, s5, s6, s7, s8, s9, s10, s11, s12, s13⟩
    go_simp
    with_reducible rfl
   rotate_left
   ·simp only [Act.put, List.setIfInBounds_toArray, List.set_cons_zero, List.set_cons_succ, i64_w, i32_w]
    rfl
   refine one_ (i := 1) (N := some 50) (bm 7 7) rfl rfl (by kernel_rfl) (by decide) (fun K hK => ?_)
   refine gs Tryz.func56 #[.agg #[.int .i64 a0_0, .bool a0_1, .bool a0_2, .slice A0_3 l0_3.length c0_3, .int .u64 a0_4, .string a0_5, .slice A0_6 l0_6.length c0_6]] ?_
   with_reducible refine (r5_Whole.calls kj2 a0_0 a0_1 a0_2 _ _ l0_3 a0_4 a0_5 _ _ l0_6 t853 t854 _ (ck HR0_3 HB) HC0_3.out (ck HR0_6 HB) HC0_6.out A42.out).mono ?_
   rintro e w49 ⟨v855, rfl, ho0, hb⟩
   refine ⟨_, rfl, ?_⟩
   have HO856 := Az (Kd.V_lower (Kd.V_mono (ok' := fun k_ => k_ ≠ gb829 ∧ k_ ≠ gb830) ho0 (fun k_ hk_ => ⟨(Kd.freshB (g := gb829) (o := .cells #[.int .i64 a0_0, .bool a0_1, .bool a0_2, .slice A0_3 l0_3.length c0_3, .int .u64 a0_4, .string a0_5, .slice A0_6 l0_6.length c0_6] 28 (0, 0)) (bk BK829) k_ hk_), (Kd.freshB (g := gb830) (o := .cells #[.int .i64 a1_0, .bool a1_1, .bool a1_2, .slice A1_3 l1_3.length c1_3, .int .u64 a1_4, .string a1_5, .slice A1_6 l1_6.length c1_6] 28 (0, 0)) (bk BK830) k_ hk_)⟩)) (below_size (bls HB)))
   replace BK829 := kb BK829 hb
   replace BK830 := kb BK830 hb
   replace HB := bs HB hb
   (try clear hb)
   (try clear ho0)
   refine hK.out _ _ hd (fun hHeld => ?_)
   refine nm ?_
   refine one_ (i := 3) (N := some 52) (bm 7 15) rfl rfl (by kernel_rfl) (by decide) (fun K hK => ?_)
   refine gs Tryz.func56 #[.agg #[.int .i64 a1_0, .bool a1_1, .bool a1_2, .slice A1_3 l1_3.length c1_3, .int .u64 a1_4, .string a1_5, .slice A1_6 l1_6.length c1_6]] ?_
   with_reducible refine (r5_Whole.calls kj2 a1_0 a1_1 a1_2 _ _ l1_3 a1_4 a1_5 _ _ l1_6 t857 t858 _ (ck HR1_3 HB) HC1_3.out (ck HR1_6 HB) HC1_6.out A43.out).mono ?_
   rintro e w50 ⟨v859, rfl, ho0, hb⟩
   refine ⟨_, rfl, ?_⟩
   replace HO856 := Az (Kd.V_below (vk HO856) hb)
   have HO860 := Az (Kd.V_lower (Kd.V_mono (ok' := fun k_ => k_ ≠ gb829 ∧ k_ ≠ gb830) ho0 (fun k_ hk_ => ⟨(Kd.freshB (g := gb829) (o := .cells #[.int .i64 a0_0, .bool a0_1, .bool a0_2, .slice A0_3 l0_3.length c0_3, .int .u64 a0_4, .string a0_5, .slice A0_6 l0_6.length c0_6] 28 (0, 0)) (bk BK829) k_ hk_), (Kd.freshB (g := gb830) (o := .cells #[.int .i64 a1_0, .bool a1_1, .bool a1_2, .slice A1_3 l1_3.length c1_3, .int .u64 a1_4, .string a1_5, .slice A1_6 l1_6.length c1_6] 28 (0, 0)) (bk BK830) k_ hk_)⟩)) (below_size (bls HB)))
   replace BK829 := kb BK829 hb
   replace BK830 := kb BK830 hb
   replace HB := bs HB hb
   (try clear hb)
   (try clear hb2)
   (try clear hk)
   (try clear hi)
   (try clear ho0)
   obtain ⟨Ao51, co51, eo51⟩ := Kd.V_slice HO856.out
   (first | subst eo51 | (injection eo51 with f1_ f2_ f3_; have f4_ := f1_.symm; have f5_ := f3_.symm; clear f1_ f2_ f3_; subst f4_; subst f5_))
   obtain ⟨Ao52, co52, eo52⟩ := Kd.V_slice HO860.out
   (first | subst eo52 | (injection eo52 with f1_ f2_ f3_; have f4_ := f1_.symm; have f5_ := f3_.symm; clear f1_ f2_ f3_; subst f4_; subst f5_))
   refine hK.out _ _ hd (fun hHeld => ?_)
   refine nm ?_
   refine one_ (i := 4) (N := some 53) (bm 7 31) rfl rfl (by kernel_rfl) (by decide) (fun K hK => ?_)
   refine gs Tryz.func57 #[.agg #[.bool t853, .slice Ao51 t854.length co51], .agg #[.bool t857, .slice Ao52 t858.length co52]] ?_
   with_reducible refine (r2_Cmp.calls kj2 t853 _ _ t854 t857 _ _ t858 t861 _ ?side1 (Kd.V_reads' HO856.out).2.1 ?side3 (Kd.V_reads' HO860.out).2.1 A44.out).mono ?_
   (case side1 => exact (Kd.V_reads' HO856.out).2.2)
   (case side3 => exact (Kd.V_reads' HO860.out).2.2)
   rintro e w53 ⟨rfl, hb⟩
   refine ⟨_, rfl, ?_⟩
   replace HO856 := Az (Kd.V_below (vk HO856) hb)
   replace HO860 := Az (Kd.V_below (vk HO860) hb)
   replace BK829 := kb BK829 hb
   replace BK830 := kb BK830 hb
   replace HB := bs HB hb
   (try clear hb)
   (try clear hb2)
   (try clear hk)
   (try clear hi)
   refine hK.out _ _ hd (fun hHeld => ?_)
   refine nm ?_
   refine pure_ (i := 5) (N := some 4) (v := ?_) (a' := ?_) (bm 7 63) rfl rfl (by kernel_rfl) (fun _ _ _ h => h) (Or.inl ⟨by rfl, ?_⟩) ?_ ?_
   rotate_left
   ·intro w'
    go_simp
    with_reducible rfl
   rotate_left
   ·simp only [Act.put, List.setIfInBounds_toArray, List.set_cons_zero, List.set_cons_succ, i64_w, i32_w]
    rfl
   refine pure_ (i := 6) (N := some 5) (v := ?_) (a' := ?_) (bm 7 127) rfl rfl (by kernel_rfl) (fun _ _ _ h => h) (Or.inl ⟨by rfl, ?_⟩) ?_ ?_
   rotate_left
   ·intro w'
    go_simp
    with_reducible rfl
   rotate_left
   ·simp only [Act.put, List.setIfInBounds_toArray, List.set_cons_zero, List.set_cons_succ, i64_w, i32_w]
    rfl
   refine done_ (by kernel_rfl) ?_
   try go_wp2
   go_ret2
   exact ⟨fe, bls HB⟩
def r5_Equal.j0 : Nat → Bool → Int → Bool → Bool → List Int → Int → ByteArray → List (S28) → Int → Bool → Bool → List Int → Int → ByteArray → List (S28) → Option (Bool)
 | 0, _, _, _, _, _, _, _, _, _, _, _, _, _, _, _ => none
 | k + 1, x12, x870000, x870001, x870002, x870003, x870004, x870005, x870006, x871000, x871001, x871002, x871003, x871004, x871005, x871006 => if x12 = true then ((r5_numbers.f k x870000 x870001 x870002 x870003 x870004 x870005 x870006 x871000 x871001 x871002 x871003 x871004 x871005 x871006).bind fun bt873 => (if bt873.2 = true then (some (bt873.1 == 0)) else (some false))) else (if x870000 = x871000 then (if x870000 = 0 then (some true) else (if x870000 = 4 then (some (x870005.toList == x871005.toList)) else (some false))) else (some false))
def r5_Equal.f (k : Nat) (a0_0 : Int) (a0_1 a0_2 : Bool) (l0_3 : List Int) (a0_4 : Int) (a0_5 : ByteArray) (l0_6 : List (S28)) (a1_0 : Int) (a1_1 a1_2 : Bool) (l1_3 : List Int) (a1_4 : Int) (a1_5 : ByteArray) (l1_6 : List (S28)) : Option (Bool) := (r5_Number.f a0_0 a0_1 a0_2 l0_3 a0_4 a0_5 l0_6).bind fun t871 => (if t871 = true then ((r5_Number.f a1_0 a1_1 a1_2 l1_3 a1_4 a1_5 l1_6).bind fun t872 => (r5_Equal.j0 k t872 a0_0 a0_1 a0_2 l0_3 a0_4 a0_5 l0_6 a1_0 a1_1 a1_2 l1_3 a1_4 a1_5 l1_6)) else (r5_Equal.j0 k false a0_0 a0_1 a0_2 l0_3 a0_4 a0_5 l0_6 a1_0 a1_1 a1_2 l1_3 a1_4 a1_5 l1_6))
theorem r5_Equal.calls (k : Nat) (a0_0 : Int) (a0_1 a0_2 : Bool) (A0_3 : Option Addr) (c0_3 : Nat) (l0_3 : List Int) (a0_4 : Int) (a0_5 : ByteArray) (A0_6 : Option Addr) (c0_6 : Nat) (l0_6 : List (S28)) (a1_0 : Int) (a1_1 a1_2 : Bool) (A1_3 : Option Addr) (c1_3 : Nat) (l1_3 : List Int) (a1_4 : Int) (a1_5 : ByteArray) (A1_6 : Option Addr) (c1_6 : Nat) (l1_6 : List (S28)) (r : Bool) (w : World) (hr0_3 : Kd.C (Kd.int .u64) w A0_3 l0_3.length l0_3) (hc0_3 : l0_3.length ≤ c0_3) (hr0_6 : Kd.C k28 w A0_6 l0_6.length l0_6) (hc0_6 : l0_6.length ≤ c0_6) (hr1_3 : Kd.C (Kd.int .u64) w A1_3 l1_3.length l1_3) (hc1_3 : l1_3.length ≤ c1_3) (hr1_6 : Kd.C k28 w A1_6 l1_6.length l1_6) (hc1_6 : l1_6.length ≤ c1_6) (h : r5_Equal.f k a0_0 a0_1 a0_2 l0_3 a0_4 a0_5 l0_6 a1_0 a1_1 a1_2 l1_3 a1_4 a1_5 l1_6 = some r) :
  Calls Tryz.prog 11 #[.agg #[.int .i64 a0_0, .bool a0_1, .bool a0_2, .slice A0_3 l0_3.length c0_3, .int .u64 a0_4, .string a0_5, .slice A0_6 l0_6.length c0_6], .agg #[.int .i64 a1_0, .bool a1_1, .bool a1_2, .slice A1_3 l1_3.length c1_3, .int .u64 a1_4, .string a1_5, .slice A1_6 l1_6.length c1_6]] w fun e w' => e = .returned (.bool r) ∧ Below w.heap.size w w' := by
 have hu28 := Tryz.underlying28
 have HR0_3 := Az hr0_3
 have HC0_3 := Az hc0_3
 clear hr0_3 hc0_3
 have HR0_6 := Az hr0_6
 have HC0_6 := Az hc0_6
 clear hr0_6 hc0_6
 have HR1_3 := Az hr1_3
 have HC1_3 := Az hc1_3
 clear hr1_3 hc1_3
 have HR1_6 := Az hr1_6
 have HC1_6 := Az hc1_6
 clear hr1_6 hc1_6
 have HB := Az (Below.refl w.heap.size w)
 have H := h
 unfold r5_Equal.f at H
 clear h
 have HC3 := Az H
 clear H
 go_enter Tryz.func11, Tryz.ntmps11
 go_upto_region 1 with (first | (refine be 2 #[.int .i64 a0_0, .bool a0_1, .bool a0_2, .slice A0_3 l0_3.length c0_3, .int .u64 a0_4, .string a0_5, .slice A0_6 l0_6.length c0_6] 28 ?_; intro gb869 hg w4 hbox hb; have BK869 := Az (hbox); have GW869 := gw (bl HB) hg; have GE869 := gw (bl HB) hg; replace HB := bs HB hb; clear hb hbox hg) | (refine be 3 #[.int .i64 a1_0, .bool a1_1, .bool a1_2, .slice A1_3 l1_3.length c1_3, .int .u64 a1_4, .string a1_5, .slice A1_6 l1_6.length c1_6] 28 ?_; intro gb870 hg w5 hbox hb; have BK870 := Az (hbox); have GW870 := gw (bls HB) hg; have GE870 := gw (bls HB) hg; replace HB := bs HB hb; have NB869_870 := nl BK869 hg; have NB870_869 := ng BK869 hg; replace BK869 := kb BK869 hb; clear hb hbox hg))
 (try simp only [Act.put, List.setIfInBounds_toArray, List.set_cons_zero, List.set_cons_succ])
 go_cut [12] (fun v12 wc => ∃ (kq : Nat) (x12_2 : Bool), v12 = .bool x12_2 ∧ Aside0 (r5_Equal.j0 kq x12_2 a0_0 a0_1 a0_2 l0_3 a0_4 a0_5 l0_6 a1_0 a1_1 a1_2 l1_3 a1_4 a1_5 l1_6 = some r) ∧ Aside0 (kq ≤ k) ∧ Aside0 (wc.heap[gb869]? = some (.cells #[.int .i64 a0_0, .bool a0_1, .bool a0_2, (.slice A0_3 l0_3.length c0_3), .int .u64 a0_4, .string a0_5, (.slice A0_6 l0_6.length c0_6)] 28 (0, 0))) ∧ Aside0 (wc.heap[gb870]? = some (.cells #[.int .i64 a1_0, .bool a1_1, .bool a1_2, (.slice A1_3 l1_3.length c1_3), .int .u64 a1_4, .string a1_5, (.slice A1_6 l1_6.length c1_6)] 28 (0, 0))) ∧ Aside0 (Below w.heap.size w wc))
 case first =>
  have H := HC3.out
  clear HC3
  obtain ⟨t871, A6, H⟩ := bd H
  by_cases c7 : t871 = true
  ·subst c7
   rw [if_pos rfl] at H
   obtain ⟨t872, A8, H⟩ := bd H
   have H' := Az H
   clear H
   have hnb9 := NB869_870.out
   have hnc9 := NB870_869.out
   have hz10_1 := bz BK869
   go_wp2_with (first | (refine gl (some 8) Tryz.func31 #[.agg #[.int .i64 a0_0, .bool a0_1, .bool a0_2, .slice A0_3 l0_3.length c0_3, .int .u64 a0_4, .string a0_5, .slice A0_6 l0_6.length c0_6]] ?_; (with_reducible refine (r5_Number.calls a0_0 a0_1 a0_2 _ _ l0_3 a0_4 a0_5 _ _ l0_6 true _ (ck HR0_3 HB) HC0_3.out (ck HR0_6 HB) HC0_6.out A6.out).mono ?_); rintro e w11 ⟨rfl, hb⟩; refine ⟨_, rfl, ?_⟩; replace BK869 := kb BK869 hb; replace BK870 := kb BK870 hb; replace HB := bs HB hb; have hz12_1 := bz BK870) | (go_at_call 31; (with_reducible refine (r5_Number.calls a1_0 a1_1 a1_2 _ _ l1_3 a1_4 a1_5 _ _ l1_6 t872 _ (ck HR1_3 HB) HC1_3.out (ck HR1_6 HB) HC1_6.out A8.out).mono ?_); rintro e w13 ⟨rfl, hb⟩; replace BK869 := kb BK869 hb; replace BK870 := kb BK870 hb; replace HB := bs HB hb))
   go_meet
   case rel => exact ⟨_, (t872), rs, H', ⟨le0⟩, ⟨bk BK869⟩, ⟨bk BK870⟩, ⟨bls HB⟩⟩
  replace c7 := Bool.eq_false_iff.mpr c7
  subst c7
  rw [if_neg Bool.false_ne_true] at H
  have H' := Az H
  clear H
  have hnb14 := NB869_870.out
  have hnc14 := NB870_869.out
  have hz15_1 := bz BK869
  go_wp2_with (first | (refine gl (some 8) Tryz.func31 #[.agg #[.int .i64 a0_0, .bool a0_1, .bool a0_2, .slice A0_3 l0_3.length c0_3, .int .u64 a0_4, .string a0_5, .slice A0_6 l0_6.length c0_6]] ?_; (with_reducible refine (r5_Number.calls a0_0 a0_1 a0_2 _ _ l0_3 a0_4 a0_5 _ _ l0_6 false _ (ck HR0_3 HB) HC0_3.out (ck HR0_6 HB) HC0_6.out A6.out).mono ?_); rintro e w16 ⟨rfl, hb⟩; refine ⟨_, rfl, ?_⟩; replace BK869 := kb BK869 hb; replace BK870 := kb BK870 hb; replace HB := bs HB hb))
  go_meet
  case rel => exact ⟨_, (false), rs, H', ⟨le0⟩, ⟨bk BK869⟩, ⟨bk BK870⟩, ⟨bls HB⟩⟩
 case rest =>
  clear HC3
  obtain ⟨kq, x12_2, rfl, HA, HJ2, BK869, BK870, HB⟩ := hcut
  cases kq with
  | zero => exact absurd HA.out (by simp [r5_Equal.j0])
  | succ kj2 =>
   have H := HA.out
   clear HA
   simp only [r5_Equal.j0] at H
   by_cases c17 : x12_2 = true
   ·subst c17
    rw [if_pos rfl] at H
    obtain ⟨⟨t873, t874⟩, A18, H⟩ := bd H
    (try dsimp only at H)
    by_cases c19 : t874 = true
    ·subst c19
     rw [if_pos rfl] at H
     obtain rfl := Option.some.inj H
     have hnb20 := NB869_870.out
     have hnc20 := NB870_869.out
     have hz21_1 := bz BK869
     have hz22_2 := bz BK870
     go_wp2_with (first | (refine gl (some 16) Tryz.func32 #[.agg #[.int .i64 a0_0, .bool a0_1, .bool a0_2, .slice A0_3 l0_3.length c0_3, .int .u64 a0_4, .string a0_5, .slice A0_6 l0_6.length c0_6], .agg #[.int .i64 a1_0, .bool a1_1, .bool a1_2, .slice A1_3 l1_3.length c1_3, .int .u64 a1_4, .string a1_5, .slice A1_6 l1_6.length c1_6]] ?_; (with_reducible refine (r5_numbers.calls kj2 a0_0 a0_1 a0_2 _ _ l0_3 a0_4 a0_5 _ _ l0_6 a1_0 a1_1 a1_2 _ _ l1_3 a1_4 a1_5 _ _ l1_6 t873 true _ (ck HR0_3 HB) HC0_3.out (ck HR0_6 HB) HC0_6.out (ck HR1_3 HB) HC1_3.out (ck HR1_6 HB) HC1_6.out A18.out).mono ?_); rintro e w23 ⟨rfl, hb⟩; refine ⟨_, rfl, ?_⟩; replace BK869 := kb BK869 hb; replace BK870 := kb BK870 hb; replace HB := bs HB hb))
     go_ret
     exact ⟨fe, bls HB⟩
    replace c19 := Bool.eq_false_iff.mpr c19
    subst c19
    rw [if_neg Bool.false_ne_true] at H
    obtain rfl := Option.some.inj H
    have hnb24 := NB869_870.out
    have hnc24 := NB870_869.out
    have hz25_1 := bz BK869
    have hz26_2 := bz BK870
    go_wp2_with (first | (refine gl (some 16) Tryz.func32 #[.agg #[.int .i64 a0_0, .bool a0_1, .bool a0_2, .slice A0_3 l0_3.length c0_3, .int .u64 a0_4, .string a0_5, .slice A0_6 l0_6.length c0_6], .agg #[.int .i64 a1_0, .bool a1_1, .bool a1_2, .slice A1_3 l1_3.length c1_3, .int .u64 a1_4, .string a1_5, .slice A1_6 l1_6.length c1_6]] ?_; (with_reducible refine (r5_numbers.calls kj2 a0_0 a0_1 a0_2 _ _ l0_3 a0_4 a0_5 _ _ l0_6 a1_0 a1_1 a1_2 _ _ l1_3 a1_4 a1_5 _ _ l1_6 t873 false _ (ck HR0_3 HB) HC0_3.out (ck HR0_6 HB) HC0_6.out (ck HR1_3 HB) HC1_3.out (ck HR1_6 HB) HC1_6.out A18.out).mono ?_); rintro e w27 ⟨rfl, hb⟩; refine ⟨_, rfl, ?_⟩; replace BK869 := kb BK869 hb; replace BK870 := kb BK870 hb; replace HB := bs HB hb))
    go_ret
    exact ⟨fe, bls HB⟩
   replace c17 := Bool.eq_false_iff.mpr c17
   subst c17
   rw [if_neg Bool.false_ne_true] at H
   by_cases c28 : a0_0 = a1_0
   case neg =>
    rw [if_neg c28] at H
    have c28b0 := beq_eq_false_iff_ne.mpr c28
    have c28b1 := bne_iff_ne.mpr c28
    obtain rfl := Option.some.inj H
    have hnb40 := NB869_870.out
    have hnc40 := NB870_869.out
    have hz41_1 := bz BK869
    have hz42_2 := bz BK870
    go_wp2
    go_ret
    exact ⟨fe, bls HB⟩
   rw [if_pos c28] at H
   have c28b0 := beq_iff_eq.mpr c28
   have c28b1 := bne_eq_false_iff_eq.mpr c28
   clear c28
   by_cases c29 : a0_0 = 0
   ·rw [if_pos c29] at H
    have c29b0 := beq_iff_eq.mpr c29
    have c29b1 := bne_eq_false_iff_eq.mpr c29
    clear c29
    obtain rfl := Option.some.inj H
    have hnb30 := NB869_870.out
    have hnc30 := NB870_869.out
    have hz31_1 := bz BK869
    have hz32_2 := bz BK870
    go_wp2
    go_ret
    exact ⟨fe, bls HB⟩
   rw [if_neg c29] at H
   have c29b0 := beq_eq_false_iff_ne.mpr c29
   have c29b1 := bne_iff_ne.mpr c29
   by_cases c33 : a0_0 = 4
   case neg =>
    rw [if_neg c33] at H
    have c33b0 := beq_eq_false_iff_ne.mpr c33
    have c33b1 := bne_iff_ne.mpr c33
    obtain rfl := Option.some.inj H
    have hnb37 := NB869_870.out
    have hnc37 := NB870_869.out
    have hz38_1 := bz BK869
    have hz39_2 := bz BK870
    go_wp2
    go_ret
    exact ⟨fe, bls HB⟩
   rw [if_pos c33] at H
   have c33b0 := beq_iff_eq.mpr c33
   have c33b1 := bne_eq_false_iff_eq.mpr c33
   clear c33
   obtain rfl := Option.some.inj H
   have hnb34 := NB869_870.out
   have hnc34 := NB870_869.out
   have hz35_1 := bz BK869
   have hz36_2 := bz BK870
   go_wp2
   go_ret
   exact ⟨fe, bls HB⟩
def r5_Float.f (a0 : Int) : Option (Int × Bool × Bool × List Int × Int × ByteArray × (List (S28))) := (r3_IsNaN.f a0).bind fun t583 => (if t583 = true then (some (3, false, false, ([] : List Int), 9221120237041090560, (⟨#[]⟩ : ByteArray), ([] : List (S28)))) else (some (3, false, false, ([] : List Int), a0, (⟨#[]⟩ : ByteArray), ([] : List (S28)))))
theorem r5_Float.calls (a0 r1 : Int) (r2 r3 : Bool) (r4 : List Int) (r5 : Int) (r6 : ByteArray) (r7 : List (S28)) (w : World) (h : r5_Float.f a0 = some (r1, r2, r3, r4, r5, r6, r7)) :
  Calls Tryz.prog 24 #[.int .u64 a0] w fun e w' => ∃ v3_ v6_ : Value, e = .returned (.agg #[.int .i64 r1, .bool r2, .bool r3, v3_, .int .u64 r5, .string r6, v6_]) ∧ Kd.R (Kd.int .u64) 25 w' w.heap.size (fun _ => True) v3_ r4 ∧ Kd.R k28 28 w' w.heap.size (fun k_ => some k_ ≠ (v3_ : Value).ownBlock) v6_ r7 ∧ Below w.heap.size w w' := by
 have hu28 := Tryz.underlying28
 have HB := Az (Below.refl w.heap.size w)
 have H := h
 unfold r5_Float.f at H
 clear h
 obtain ⟨t583, A2, H⟩ := bd H
 by_cases c3 : t583 = true
 ·subst c3
  rw [if_pos rfl] at H
  simp only [Option.some.injEq, Prod.mk.injEq] at H
  obtain ⟨rfl, rfl, rfl, rfl, rfl, rfl, rfl⟩ := H
  go_enter Tryz.func24, Tryz.ntmps24
  go_wp2_with (first | (refine be 2 #[.int .i64 0, .bool false, .bool false, .slice none 0 0, .int .u64 0, .string (⟨#[]⟩ : ByteArray), .slice none 0 0] 28 ?_; intro gb582 hg w4 hbox hb; have BK582 := Az (hbox); have GW582 := gw (bl HB) hg; have GE582 := gw (bl HB) hg; replace HB := bs HB hb; clear hb hbox hg) | (refine gl (some 4) Tryz.func16 #[.int .u64 a0] ?_; (with_reducible refine (r3_IsNaN.calls a0 true _ A2.out).mono ?_); rintro e w4 ⟨rfl, hb⟩; replace hb := dr hb; refine ⟨_, rfl, ?_⟩; replace BK582 := kb BK582 hb; replace HB := bs HB hb; clear hb; have hz582_ := bz BK582; have hz5_1 := bz BK582))
  refine bodyPost_ret (results_cell_row rfl _ _ gb582 28 #[.int .i64 3, .bool false, .bool false, .slice none 0 0, .int .u64 9221120237041090560, .string (⟨#[]⟩ : ByteArray), .slice none 0 0] (0, 0) _ rfl (by refine blk_put (cs := #[.int .i64 3, .bool false, .bool false, .slice none 0 0, .int .u64 9221120237041090560, .string (⟨#[]⟩ : ByteArray), .slice none 0 0]) ?_ 6 _ rfl; refine blk_put (cs := #[.int .i64 3, .bool false, .bool false, .slice none 0 0, .int .u64 9221120237041090560, .string (⟨#[]⟩ : ByteArray), .slice none 0 0]) ?_ 5 _ rfl; refine blk_put (cs := #[.int .i64 3, .bool false, .bool false, .slice none 0 0, .int .u64 0, .string (⟨#[]⟩ : ByteArray), .slice none 0 0]) ?_ 4 _ rfl; refine blk_put (cs := #[.int .i64 3, .bool false, .bool false, .slice none 0 0, .int .u64 0, .string (⟨#[]⟩ : ByteArray), .slice none 0 0]) ?_ 3 _ rfl; refine blk_put (cs := #[.int .i64 3, .bool false, .bool false, .slice none 0 0, .int .u64 0, .string (⟨#[]⟩ : ByteArray), .slice none 0 0]) ?_ 2 _ rfl; refine blk_put (cs := #[.int .i64 3, .bool false, .bool false, .slice none 0 0, .int .u64 0, .string (⟨#[]⟩ : ByteArray), .slice none 0 0]) ?_ 1 _ rfl; refine blk_put (cs := #[.int .i64 0, .bool false, .bool false, .slice none 0 0, .int .u64 0, .string (⟨#[]⟩ : ByteArray), .slice none 0 0]) ?_ 0 _ rfl; exact BK582.out) Tryz.underlying28 rfl (by kernel_rfl)) rfl ?_
  exact ⟨_, _, fe, Kd.R_nil _ _ _ _ _, Kd.R_nil _ _ _ _ _, bls HB⟩
 replace c3 := Bool.eq_false_iff.mpr c3
 subst c3
 rw [if_neg Bool.false_ne_true] at H
 simp only [Option.some.injEq, Prod.mk.injEq] at H
 obtain ⟨rfl, rfl, rfl, rfl, rfl, rfl, rfl⟩ := H
 go_enter Tryz.func24, Tryz.ntmps24
 go_wp2_with (first | (refine be 2 #[.int .i64 0, .bool false, .bool false, .slice none 0 0, .int .u64 0, .string (⟨#[]⟩ : ByteArray), .slice none 0 0] 28 ?_; intro gb582 hg w6 hbox hb; have BK582 := Az (hbox); have GW582 := gw (bl HB) hg; have GE582 := gw (bl HB) hg; replace HB := bs HB hb; clear hb hbox hg) | (refine gl (some 4) Tryz.func16 #[.int .u64 a0] ?_; (with_reducible refine (r3_IsNaN.calls a0 false _ A2.out).mono ?_); rintro e w6 ⟨rfl, hb⟩; replace hb := dr hb; refine ⟨_, rfl, ?_⟩; replace BK582 := kb BK582 hb; replace HB := bs HB hb; clear hb; have hz582_ := bz BK582; have hz7_1 := bz BK582))
 refine bodyPost_ret (results_cell_row rfl _ _ gb582 28 #[.int .i64 3, .bool false, .bool false, .slice none 0 0, .int .u64 a0, .string (⟨#[]⟩ : ByteArray), .slice none 0 0] (0, 0) _ rfl (by refine blk_put (cs := #[.int .i64 3, .bool false, .bool false, .slice none 0 0, .int .u64 a0, .string (⟨#[]⟩ : ByteArray), .slice none 0 0]) ?_ 6 _ rfl; refine blk_put (cs := #[.int .i64 3, .bool false, .bool false, .slice none 0 0, .int .u64 a0, .string (⟨#[]⟩ : ByteArray), .slice none 0 0]) ?_ 5 _ rfl; refine blk_put (cs := #[.int .i64 3, .bool false, .bool false, .slice none 0 0, .int .u64 0, .string (⟨#[]⟩ : ByteArray), .slice none 0 0]) ?_ 4 _ rfl; refine blk_put (cs := #[.int .i64 3, .bool false, .bool false, .slice none 0 0, .int .u64 0, .string (⟨#[]⟩ : ByteArray), .slice none 0 0]) ?_ 3 _ rfl; refine blk_put (cs := #[.int .i64 3, .bool false, .bool false, .slice none 0 0, .int .u64 0, .string (⟨#[]⟩ : ByteArray), .slice none 0 0]) ?_ 2 _ rfl; refine blk_put (cs := #[.int .i64 3, .bool false, .bool false, .slice none 0 0, .int .u64 0, .string (⟨#[]⟩ : ByteArray), .slice none 0 0]) ?_ 1 _ rfl; refine blk_put (cs := #[.int .i64 0, .bool false, .bool false, .slice none 0 0, .int .u64 0, .string (⟨#[]⟩ : ByteArray), .slice none 0 0]) ?_ 0 _ rfl; exact BK582.out) Tryz.underlying28 rfl (by kernel_rfl)) rfl ?_
 exact ⟨_, _, fe, Kd.R_nil _ _ _ _ _, Kd.R_nil _ _ _ _ _, bls HB⟩
def r5_Same.f (k : Nat) (a0_0 : Int) (a0_1 a0_2 : Bool) (l0_3 : List Int) (a0_4 : Int) (a0_5 : ByteArray) (l0_6 : List (S28)) (a1_0 : Int) (a1_1 a1_2 : Bool) (l1_3 : List Int) (a1_4 : Int) (a1_5 : ByteArray) (l1_6 : List (S28)) : Option (Bool) := if a0_0 = a1_0 then (if a0_0 = 3 then ((r5_Float.f a0_4).bind fun bt877 => ((r5_Float.f a1_4).bind fun bt888 => (some (bt877.2.2.2.2.1 == bt888.2.2.2.2.1)))) else (if (a0_1 == a1_1) = true then (if a0_5.toList = a1_5.toList then ((r2_Same.f k a0_2 l0_3 a1_2 l1_3).bind fun t899 => (some t899)) else (some false)) else (some false))) else (some false)
def r5_Same.T4 : Bool × List (List Nat × List Nat) := (true, [([], []), ([0], [0]), ([1], [1]), ([2], [2]), ([], []), ([4], [4]), ([5, 2], [5]), ([6], [6]), ([3, 7], [3, 7]), ([8, 6, 0, 1, 2, 3, 4, 5, 6, 7, 8], [8])])
def r5_Same.B4 : List Nat := [0, 1, 3, 7, 0, 16, 55, 119, 255, 511]
theorem r5_Same.tab4 : rtab .any (opsOf Tryz.f12 4) = r5_Same.T4 := by kernel_rfl
theorem r5_Same.bits4 : waitsOk r5_Same.T4.2 r5_Same.B4 = true := by kernel_rfl
theorem r5_Same.calls (k : Nat) (a0_0 : Int) (a0_1 a0_2 : Bool) (A0_3 : Option Addr) (c0_3 : Nat) (l0_3 : List Int) (a0_4 : Int) (a0_5 : ByteArray) (A0_6 : Option Addr) (c0_6 : Nat) (l0_6 : List (S28)) (a1_0 : Int) (a1_1 a1_2 : Bool) (A1_3 : Option Addr) (c1_3 : Nat) (l1_3 : List Int) (a1_4 : Int) (a1_5 : ByteArray) (A1_6 : Option Addr) (c1_6 : Nat) (l1_6 : List (S28)) (r : Bool) (w : World) (hr0_3 : Kd.C (Kd.int .u64) w A0_3 l0_3.length l0_3) (hc0_3 : l0_3.length ≤ c0_3) (hr0_6 : Kd.C k28 w A0_6 l0_6.length l0_6) (hc0_6 : l0_6.length ≤ c0_6) (hr1_3 : Kd.C (Kd.int .u64) w A1_3 l1_3.length l1_3) (hc1_3 : l1_3.length ≤ c1_3) (hr1_6 : Kd.C k28 w A1_6 l1_6.length l1_6) (hc1_6 : l1_6.length ≤ c1_6) (h : r5_Same.f k a0_0 a0_1 a0_2 l0_3 a0_4 a0_5 l0_6 a1_0 a1_1 a1_2 l1_3 a1_4 a1_5 l1_6 = some r) :
  Calls Tryz.prog 12 #[.agg #[.int .i64 a0_0, .bool a0_1, .bool a0_2, .slice A0_3 l0_3.length c0_3, .int .u64 a0_4, .string a0_5, .slice A0_6 l0_6.length c0_6], .agg #[.int .i64 a1_0, .bool a1_1, .bool a1_2, .slice A1_3 l1_3.length c1_3, .int .u64 a1_4, .string a1_5, .slice A1_6 l1_6.length c1_6]] w fun e w' => e = .returned (.bool r) ∧ Below w.heap.size w w' := by
 have hu28 := Tryz.underlying28
 have hu24 := Tryz.underlying24
 have HR0_3 := Az hr0_3
 have HC0_3 := Az hc0_3
 clear hr0_3 hc0_3
 have HR0_6 := Az hr0_6
 have HC0_6 := Az hc0_6
 clear hr0_6 hc0_6
 have HR1_3 := Az hr1_3
 have HC1_3 := Az hc1_3
 clear hr1_3 hc1_3
 have HR1_6 := Az hr1_6
 have HC1_6 := Az hc1_6
 clear hr1_6 hc1_6
 have HB := Az (Below.refl w.heap.size w)
 have H := h
 unfold r5_Same.f at H
 clear h
 by_cases c3 : a0_0 = a1_0
 case neg =>
  rw [if_neg c3] at H
  have c3b0 := beq_eq_false_iff_ne.mpr c3
  have c3b1 := bne_iff_ne.mpr c3
  obtain rfl := Option.some.inj H
  go_enter Tryz.func12, Tryz.ntmps12
  go_wp2_with (first | (refine be 2 #[.int .i64 a0_0, .bool a0_1, .bool a0_2, .slice A0_3 l0_3.length c0_3, .int .u64 a0_4, .string a0_5, .slice A0_6 l0_6.length c0_6] 28 ?_; intro gb875 hg w34 hbox hb; have BK875 := Az (hbox); have GW875 := gw (bl HB) hg; have GE875 := gw (bl HB) hg; replace HB := bs HB hb; clear hb hbox hg) | (refine be 3 #[.int .i64 a1_0, .bool a1_1, .bool a1_2, .slice A1_3 l1_3.length c1_3, .int .u64 a1_4, .string a1_5, .slice A1_6 l1_6.length c1_6] 28 ?_; intro gb876 hg w35 hbox hb; have BK876 := Az (hbox); have GW876 := gw (bls HB) hg; have GE876 := gw (bls HB) hg; replace HB := bs HB hb; have NB875_876 := nl BK875 hg; have NB876_875 := ng BK875 hg; replace BK875 := kb BK875 hb; clear hb hbox hg; have hnb36 := NB875_876.out; have hnc36 := NB876_875.out; have hz37_1 := bz BK875; have hz38_2 := bz BK876))
  go_ret
  exact ⟨fe, bls HB⟩
 rw [if_pos c3] at H
 have c3b0 := beq_iff_eq.mpr c3
 have c3b1 := bne_eq_false_iff_eq.mpr c3
 clear c3
 by_cases c4 : a0_0 = 3
 case neg =>
  rw [if_neg c4] at H
  have c4b0 := beq_eq_false_iff_ne.mpr c4
  have c4b1 := bne_iff_ne.mpr c4
  by_cases c15 : (a0_1 == a1_1) = true
  case neg =>
   rw [if_neg c15] at H
   have c15b0 : (a0_1 == a1_1) = false := by simpa using c15
   (try (have c15b1 : decide (a0_1 = a1_1) = false := by simpa using c15))
   (try (have c15b2 : (a0_1 == a1_1) = false := by simpa using c15))
   (try (have c15b3 : ¬ (a0_1 = a1_1) := by simpa using c15))
   clear c15
   obtain rfl := Option.some.inj H
   go_enter Tryz.func12, Tryz.ntmps12
   go_wp2_with (first | (refine be 2 #[.int .i64 a0_0, .bool a0_1, .bool a0_2, .slice A0_3 l0_3.length c0_3, .int .u64 a0_4, .string a0_5, .slice A0_6 l0_6.length c0_6] 28 ?_; intro gb875 hg w29 hbox hb; have BK875 := Az (hbox); have GW875 := gw (bl HB) hg; have GE875 := gw (bl HB) hg; replace HB := bs HB hb; clear hb hbox hg) | (refine be 3 #[.int .i64 a1_0, .bool a1_1, .bool a1_2, .slice A1_3 l1_3.length c1_3, .int .u64 a1_4, .string a1_5, .slice A1_6 l1_6.length c1_6] 28 ?_; intro gb876 hg w30 hbox hb; have BK876 := Az (hbox); have GW876 := gw (bls HB) hg; have GE876 := gw (bls HB) hg; replace HB := bs HB hb; have NB875_876 := nl BK875 hg; have NB876_875 := ng BK875 hg; replace BK875 := kb BK875 hb; clear hb hbox hg; have hnb31 := NB875_876.out; have hnc31 := NB876_875.out; have hz32_1 := bz BK875; have hz33_2 := bz BK876))
   go_ret
   exact ⟨fe, bls HB⟩
  rw [if_pos c15] at H
  have c15b0 : (a0_1 == a1_1) = true := c15
  (try (have c15b1 : decide (a0_1 = a1_1) = true := by simpa using c15))
  (try (have c15b2 : (a0_1 == a1_1) = true := by simpa using c15))
  clear c15
  by_cases c16 : a0_5.toList = a1_5.toList
  case neg =>
   rw [if_neg c16] at H
   have c16b0 := beq_eq_false_iff_ne.mpr c16
   have c16b1 := bne_iff_ne.mpr c16
   obtain rfl := Option.some.inj H
   go_enter Tryz.func12, Tryz.ntmps12
   go_wp2_with (first | (refine be 2 #[.int .i64 a0_0, .bool a0_1, .bool a0_2, .slice A0_3 l0_3.length c0_3, .int .u64 a0_4, .string a0_5, .slice A0_6 l0_6.length c0_6] 28 ?_; intro gb875 hg w24 hbox hb; have BK875 := Az (hbox); have GW875 := gw (bl HB) hg; have GE875 := gw (bl HB) hg; replace HB := bs HB hb; clear hb hbox hg) | (refine be 3 #[.int .i64 a1_0, .bool a1_1, .bool a1_2, .slice A1_3 l1_3.length c1_3, .int .u64 a1_4, .string a1_5, .slice A1_6 l1_6.length c1_6] 28 ?_; intro gb876 hg w25 hbox hb; have BK876 := Az (hbox); have GW876 := gw (bls HB) hg; have GE876 := gw (bls HB) hg; replace HB := bs HB hb; have NB875_876 := nl BK875 hg; have NB876_875 := ng BK875 hg; replace BK875 := kb BK875 hb; clear hb hbox hg; have hnb26 := NB875_876.out; have hnc26 := NB876_875.out; have hz27_1 := bz BK875; have hz28_2 := bz BK876))
   go_ret
   exact ⟨fe, bls HB⟩
  rw [if_pos c16] at H
  have c16b0 := beq_iff_eq.mpr c16
  have c16b1 := bne_eq_false_iff_eq.mpr c16
  clear c16
  obtain ⟨t899, A17, H⟩ := bd H
  obtain rfl := Option.some.inj H
  go_enter Tryz.func12, Tryz.ntmps12
  go_wp2_with (first | (refine be 2 #[.int .i64 a0_0, .bool a0_1, .bool a0_2, .slice A0_3 l0_3.length c0_3, .int .u64 a0_4, .string a0_5, .slice A0_6 l0_6.length c0_6] 28 ?_; intro gb875 hg w18 hbox hb; have BK875 := Az (hbox); have GW875 := gw (bl HB) hg; have GE875 := gw (bl HB) hg; replace HB := bs HB hb; clear hb hbox hg) | (refine be 3 #[.int .i64 a1_0, .bool a1_1, .bool a1_2, .slice A1_3 l1_3.length c1_3, .int .u64 a1_4, .string a1_5, .slice A1_6 l1_6.length c1_6] 28 ?_; intro gb876 hg w19 hbox hb; have BK876 := Az (hbox); have GW876 := gw (bls HB) hg; have GE876 := gw (bls HB) hg; replace HB := bs HB hb; have NB875_876 := nl BK875 hg; have NB876_875 := ng BK875 hg; replace BK875 := kb BK875 hb; clear hb hbox hg; have hnb20 := NB875_876.out; have hnc20 := NB876_875.out; have hz21_1 := bz BK875; have hz22_2 := bz BK876) | (go_at_call 34; (with_reducible refine (r2_Same.calls k a0_2 _ _ l0_3 a1_2 _ _ l1_3 t899 _ (ck HR0_3 HB) HC0_3.out (ck HR1_3 HB) HC1_3.out A17.out).mono ?_); rintro e w23 ⟨rfl, hb⟩; replace BK875 := kb BK875 hb; replace BK876 := kb BK876 hb; replace HB := bs HB hb))
  go_ret
  exact ⟨fe, bls HB⟩
 rw [if_pos c4] at H
 have c4b0 := beq_iff_eq.mpr c4
 have c4b1 := bne_eq_false_iff_eq.mpr c4
 clear c4
 obtain ⟨⟨t877, t878, t879, t880, t883, t884, t885⟩, A5, H⟩ := bd H
 (try dsimp only at H)
 obtain ⟨⟨t888, t889, t890, t891, t894, t895, t896⟩, A6, H⟩ := bd H
 (try dsimp only at H)
 obtain rfl := Option.some.inj H
 go_enter Tryz.func12, Tryz.ntmps12
 try go_wp2_with (first | (refine be 2 #[.int .i64 a0_0, .bool a0_1, .bool a0_2, .slice A0_3 l0_3.length c0_3, .int .u64 a0_4, .string a0_5, .slice A0_6 l0_6.length c0_6] 28 ?_; intro gb875 hg w7 hbox hb; have BK875 := Az (hbox); have GW875 := gw (bl HB) hg; have GE875 := gw (bl HB) hg; replace HB := bs HB hb; clear hb hbox hg) | (refine be 3 #[.int .i64 a1_0, .bool a1_1, .bool a1_2, .slice A1_3 l1_3.length c1_3, .int .u64 a1_4, .string a1_5, .slice A1_6 l1_6.length c1_6] 28 ?_; intro gb876 hg w8 hbox hb; have BK876 := Az (hbox); have GW876 := gw (bls HB) hg; have GE876 := gw (bls HB) hg; replace HB := bs HB hb; have NB875_876 := nl BK875 hg; have NB876_875 := ng BK875 hg; replace BK875 := kb BK875 hb; clear hb hbox hg; have hnb9 := NB875_876.out; have hnc9 := NB876_875.out; have hz10_1 := bz BK875; have hz11_2 := bz BK876))
 replace BK875 := Az (blk_drew BK875.out)
 replace BK876 := Az (blk_drew BK876.out)
 replace HB := Az (below_drew1 HB.out)
 refine start_ (n := 10) (S := fun w' => w'.cell? ⟨gb875, 0, none⟩ = some (.int .i64 a0_0) ∧ w'.cell? ⟨gb875, 1, none⟩ = some (.bool a0_1) ∧ w'.cell? ⟨gb875, 2, none⟩ = some (.bool a0_2) ∧ w'.cell? ⟨gb875, 3, none⟩ = some (.slice A0_3 l0_3.length c0_3) ∧ w'.cell? ⟨gb875, 4, none⟩ = some (.int .u64 a0_4) ∧ w'.cell? ⟨gb875, 5, none⟩ = some (.string a0_5) ∧ w'.cell? ⟨gb875, 6, none⟩ = some (.slice A0_6 l0_6.length c0_6) ∧ w'.cell? ⟨gb876, 0, none⟩ = some (.int .i64 a1_0) ∧ w'.cell? ⟨gb876, 1, none⟩ = some (.bool a1_1) ∧ w'.cell? ⟨gb876, 2, none⟩ = some (.bool a1_2) ∧ w'.cell? ⟨gb876, 3, none⟩ = some (.slice A1_3 l1_3.length c1_3) ∧ w'.cell? ⟨gb876, 4, none⟩ = some (.int .u64 a1_4) ∧ w'.cell? ⟨gb876, 5, none⟩ = some (.string a1_5) ∧ w'.cell? ⟨gb876, 6, none⟩ = some (.slice A1_6 l1_6.length c1_6)) (ds := []) (bm 10 0) (by kernel_rfl) rfl rfl ⟨(blk_cell BK875.out 0).trans rfl, (blk_cell BK875.out 1).trans rfl, (blk_cell BK875.out 2).trans rfl, (blk_cell BK875.out 3).trans rfl, (blk_cell BK875.out 4).trans rfl, (blk_cell BK875.out 5).trans rfl, (blk_cell BK875.out 6).trans rfl, (blk_cell BK876.out 0).trans rfl, (blk_cell BK876.out 1).trans rfl, (blk_cell BK876.out 2).trans rfl, (blk_cell BK876.out 3).trans rfl, (blk_cell BK876.out 4).trans rfl, (blk_cell BK876.out 5).trans rfl, (blk_cell BK876.out 6).trans rfl⟩ (fun hHeld => ?_); refine with_tabW r5_Same.tab4 r5_Same.bits4 (fun HT_ HW_ => ?_)
 generalize w8.drew = w12 at BK875 BK876 HB hHeld ⊢
 refine pu 0 (some 13) (bm 10 1) HT_.out ?_
 refine pu 4 (some 17) (bm 10 17) HT_.out ?_
 refine tk 1 (some 14) (bm 10 19) HT_.out HW_.out hHeld ?_
 refine tk 5 (some 18) (bm 10 51) HT_.out HW_.out hHeld ?_
 refine on 2 (some 15) (bm 10 55) HT_.out (fun K hK => ?_)
 refine gs Tryz.func24 #[.int .u64 a0_4] ?_
 with_reducible refine (r5_Float.calls a0_4 t877 t878 t879 t880 t883 t884 t885 _ A5.out).mono ?_
 rintro e w13 ⟨v881, v886, rfl, ho0, ho1, hb⟩
 obtain ⟨Ao881, co881, eo881⟩ := Kd.R_slice ho0
 obtain ⟨Ao886, co886, eo886⟩ := Kd.R_slice ho1
 have hfd881 : ∀ w : World, (Instr.field 28 (.agg #[.int .i64 t877, .bool t878, .bool t879, .slice Ao881 t880.length co881, .int .u64 t883, .string t884, .slice Ao886 t885.length co886]) 3).run Tryz.prog w = .ok (.int .u64 t883) w := fun _ => by kernel_rfl
 refine ⟨_, rfl, ?_⟩
 have HO882 := Az (Kd.R_lower ho0 (below_size (bls HB)))
 have HO887 := Az (Kd.R_lower (Kd.R_newB (Kd.R_newB ho1 (g := gb875) (o := .cells #[.int .i64 a0_0, .bool a0_1, .bool a0_2, .slice A0_3 l0_3.length c0_3, .int .u64 a0_4, .string a0_5, .slice A0_6 l0_6.length c0_6] 28 (0, 0)) (bk BK875)) (g := gb876) (o := .cells #[.int .i64 a1_0, .bool a1_1, .bool a1_2, .slice A1_3 l1_3.length c1_3, .int .u64 a1_4, .string a1_5, .slice A1_6 l1_6.length c1_6] 28 (0, 0)) (bk BK876)) (below_size (bls HB)))
 replace BK875 := kb BK875 hb
 replace BK876 := kb BK876 hb
 replace HB := bs HB hb
 (try clear hb)
 (try clear ho0)
 (try clear ho1)
 refine hK.out _ _ hd (fun hHeld => ?_)
 clear hK K
 refine nm ?_
 refine pu 3 (some 16) (bm 10 63) HT_.out ?_
 refine on 6 (some 19) (bm 10 127) HT_.out (fun K hK => ?_)
 refine gs Tryz.func24 #[.int .u64 a1_4] ?_
 with_reducible refine (r5_Float.calls a1_4 t888 t889 t890 t891 t894 t895 t896 _ A6.out).mono ?_
 rintro e w14 ⟨v892, v897, rfl, ho0, ho1, hb⟩
 obtain ⟨Ao892, co892, eo892⟩ := Kd.R_slice ho0
 obtain ⟨Ao897, co897, eo897⟩ := Kd.R_slice ho1
 have hfd892 : ∀ w : World, (Instr.field 28 (.agg #[.int .i64 t888, .bool t889, .bool t890, .slice Ao892 t891.length co892, .int .u64 t894, .string t895, .slice Ao897 t896.length co897]) 3).run Tryz.prog w = .ok (.int .u64 t894) w := fun _ => by kernel_rfl
 refine ⟨_, rfl, ?_⟩
 have HO893 := Az (Kd.R_lower (Kd.R_new' ho0 (Kd.R_lt (rk HO882))) (below_size (bls HB)))
 have HO898 := Az (Kd.R_lower (Kd.R_newB (Kd.R_newB (Kd.R_new' (Kd.R_new' ho1 (Kd.R_lt (rk HO882))) (Kd.R_lt (rk HO887))) (g := gb875) (o := .cells #[.int .i64 a0_0, .bool a0_1, .bool a0_2, .slice A0_3 l0_3.length c0_3, .int .u64 a0_4, .string a0_5, .slice A0_6 l0_6.length c0_6] 28 (0, 0)) (bk BK875)) (g := gb876) (o := .cells #[.int .i64 a1_0, .bool a1_1, .bool a1_2, .slice A1_3 l1_3.length c1_3, .int .u64 a1_4, .string a1_5, .slice A1_6 l1_6.length c1_6] 28 (0, 0)) (bk BK876)) (below_size (bls HB)))
 replace HO882 := Az (Kd.R_elder' (rk HO882) (Kd.R_base ho0) hb)
 replace HO887 := Az (Kd.R_mono (Kd.R_told (Kd.R_told (Kd.R_old (rk HO887) hb) (Kd.R_base ho0)) (Kd.R_base ho1)) (fun _ h_ => h_.1))
 replace BK875 := kb BK875 hb
 replace BK876 := kb BK876 hb
 replace HB := bs HB hb
 (try clear hb)
 (try clear hb2)
 (try clear hk)
 (try clear hi)
 (try clear ho0)
 (try clear ho1)
 refine hK.out _ _ hd (fun hHeld => ?_)
 clear hK K
 refine nm ?_
 refine pu 7 (some 20) (bm 10 255) HT_.out ?_
 refine pu 8 (some 21) (bm 10 511) HT_.out ?_
 refine pu 9 (some 4) (bm 10 1023) HT_.out ?_
 refine done_ (done_of HT_.out (by kernel_rfl)) ?_
 try go_wp2
 go_ret
 exact ⟨fe, bls HB⟩
def r5_Order.j0 : Nat → Bool → Int → Bool → Bool → List Int → Int → ByteArray → List (S28) → Int → Bool → Bool → List Int → Int → ByteArray → List (S28) → Option (Int × Bool × Int)
 | 0, _, _, _, _, _, _, _, _, _, _, _, _, _, _, _ => none
 | k + 1, x14, x863000, x863001, x863002, x863003, x863004, x863005, x863006, x864000, x864001, x864002, x864003, x864004, x864005, x864006 => if x14 = true then ((r5_numbers.f k x863000 x863001 x863002 x863003 x863004 x863005 x863006 x864000 x864001 x864002 x864003 x864004 x864005 x864006).bind fun bt866 => (some (bt866.1, bt866.2, 0))) else (if x863000 = 4 then (if x864000 = 4 then ((r5_bytes.f k x863005 x864005).bind fun t868 => (some (t868, true, 0))) else (some (0, false, 9))) else (some (0, false, 9)))
def r5_Order.f (k : Nat) (a0_0 : Int) (a0_1 a0_2 : Bool) (l0_3 : List Int) (a0_4 : Int) (a0_5 : ByteArray) (l0_6 : List (S28)) (a1_0 : Int) (a1_1 a1_2 : Bool) (l1_3 : List Int) (a1_4 : Int) (a1_5 : ByteArray) (l1_6 : List (S28)) : Option (Int × Bool × Int) := (r5_Number.f a0_0 a0_1 a0_2 l0_3 a0_4 a0_5 l0_6).bind fun t864 => (if t864 = true then ((r5_Number.f a1_0 a1_1 a1_2 l1_3 a1_4 a1_5 l1_6).bind fun t865 => (r5_Order.j0 k t865 a0_0 a0_1 a0_2 l0_3 a0_4 a0_5 l0_6 a1_0 a1_1 a1_2 l1_3 a1_4 a1_5 l1_6)) else (r5_Order.j0 k false a0_0 a0_1 a0_2 l0_3 a0_4 a0_5 l0_6 a1_0 a1_1 a1_2 l1_3 a1_4 a1_5 l1_6))
theorem r5_Order.calls (k : Nat) (a0_0 : Int) (a0_1 a0_2 : Bool) (A0_3 : Option Addr) (c0_3 : Nat) (l0_3 : List Int) (a0_4 : Int) (a0_5 : ByteArray) (A0_6 : Option Addr) (c0_6 : Nat) (l0_6 : List (S28)) (a1_0 : Int) (a1_1 a1_2 : Bool) (A1_3 : Option Addr) (c1_3 : Nat) (l1_3 : List Int) (a1_4 : Int) (a1_5 : ByteArray) (A1_6 : Option Addr) (c1_6 : Nat) (l1_6 : List (S28)) (r1 : Int) (r2 : Bool) (r3 : Int) (w : World) (hr0_3 : Kd.C (Kd.int .u64) w A0_3 l0_3.length l0_3) (hc0_3 : l0_3.length ≤ c0_3) (hr0_6 : Kd.C k28 w A0_6 l0_6.length l0_6) (hc0_6 : l0_6.length ≤ c0_6) (hr1_3 : Kd.C (Kd.int .u64) w A1_3 l1_3.length l1_3) (hc1_3 : l1_3.length ≤ c1_3) (hr1_6 : Kd.C k28 w A1_6 l1_6.length l1_6) (hc1_6 : l1_6.length ≤ c1_6) (h : r5_Order.f k a0_0 a0_1 a0_2 l0_3 a0_4 a0_5 l0_6 a1_0 a1_1 a1_2 l1_3 a1_4 a1_5 l1_6 = some (r1, r2, r3)) :
  Calls Tryz.prog 10 #[.agg #[.int .i64 a0_0, .bool a0_1, .bool a0_2, .slice A0_3 l0_3.length c0_3, .int .u64 a0_4, .string a0_5, .slice A0_6 l0_6.length c0_6], .agg #[.int .i64 a1_0, .bool a1_1, .bool a1_2, .slice A1_3 l1_3.length c1_3, .int .u64 a1_4, .string a1_5, .slice A1_6 l1_6.length c1_6]] w fun e w' => e = .returned (.tuple #[.int .i64 r1, .bool r2, .int .i64 r3]) ∧ Below w.heap.size w w' := by
 have hu28 := Tryz.underlying28
 have HR0_3 := Az hr0_3
 have HC0_3 := Az hc0_3
 clear hr0_3 hc0_3
 have HR0_6 := Az hr0_6
 have HC0_6 := Az hc0_6
 clear hr0_6 hc0_6
 have HR1_3 := Az hr1_3
 have HC1_3 := Az hc1_3
 clear hr1_3 hc1_3
 have HR1_6 := Az hr1_6
 have HC1_6 := Az hc1_6
 clear hr1_6 hc1_6
 have HB := Az (Below.refl w.heap.size w)
 have H := h
 unfold r5_Order.f at H
 clear h
 have HC3 := Az H
 clear H
 go_enter Tryz.func10, Tryz.ntmps10
 go_upto_region 1 with (first | (refine be 2 #[.int .i64 a0_0, .bool a0_1, .bool a0_2, .slice A0_3 l0_3.length c0_3, .int .u64 a0_4, .string a0_5, .slice A0_6 l0_6.length c0_6] 28 ?_; intro gb862 hg w4 hbox hb; have BK862 := Az (hbox); have GW862 := gw (bl HB) hg; have GE862 := gw (bl HB) hg; replace HB := bs HB hb; clear hb hbox hg) | (refine be 3 #[.int .i64 a1_0, .bool a1_1, .bool a1_2, .slice A1_3 l1_3.length c1_3, .int .u64 a1_4, .string a1_5, .slice A1_6 l1_6.length c1_6] 28 ?_; intro gb863 hg w5 hbox hb; have BK863 := Az (hbox); have GW863 := gw (bls HB) hg; have GE863 := gw (bls HB) hg; replace HB := bs HB hb; have NB862_863 := nl BK862 hg; have NB863_862 := ng BK862 hg; replace BK862 := kb BK862 hb; clear hb hbox hg))
 (try simp only [Act.put, List.setIfInBounds_toArray, List.set_cons_zero, List.set_cons_succ])
 go_cut [14] (fun v14 wc => ∃ (kq : Nat) (x14_2 : Bool), v14 = .bool x14_2 ∧ Aside0 (r5_Order.j0 kq x14_2 a0_0 a0_1 a0_2 l0_3 a0_4 a0_5 l0_6 a1_0 a1_1 a1_2 l1_3 a1_4 a1_5 l1_6 = some (r1, r2, r3)) ∧ Aside0 (kq ≤ k) ∧ Aside0 (wc.heap[gb862]? = some (.cells #[.int .i64 a0_0, .bool a0_1, .bool a0_2, (.slice A0_3 l0_3.length c0_3), .int .u64 a0_4, .string a0_5, (.slice A0_6 l0_6.length c0_6)] 28 (0, 0))) ∧ Aside0 (wc.heap[gb863]? = some (.cells #[.int .i64 a1_0, .bool a1_1, .bool a1_2, (.slice A1_3 l1_3.length c1_3), .int .u64 a1_4, .string a1_5, (.slice A1_6 l1_6.length c1_6)] 28 (0, 0))) ∧ Aside0 (Below w.heap.size w wc))
 case first =>
  have H := HC3.out
  clear HC3
  obtain ⟨t864, A6, H⟩ := bd H
  by_cases c7 : t864 = true
  ·subst c7
   rw [if_pos rfl] at H
   obtain ⟨t865, A8, H⟩ := bd H
   have H' := Az H
   clear H
   have hnb9 := NB862_863.out
   have hnc9 := NB863_862.out
   have hz10_1 := bz BK862
   go_wp2_with (first | (refine gl (some 10) Tryz.func31 #[.agg #[.int .i64 a0_0, .bool a0_1, .bool a0_2, .slice A0_3 l0_3.length c0_3, .int .u64 a0_4, .string a0_5, .slice A0_6 l0_6.length c0_6]] ?_; (with_reducible refine (r5_Number.calls a0_0 a0_1 a0_2 _ _ l0_3 a0_4 a0_5 _ _ l0_6 true _ (ck HR0_3 HB) HC0_3.out (ck HR0_6 HB) HC0_6.out A6.out).mono ?_); rintro e w11 ⟨rfl, hb⟩; refine ⟨_, rfl, ?_⟩; replace BK862 := kb BK862 hb; replace BK863 := kb BK863 hb; replace HB := bs HB hb; have hz12_1 := bz BK863) | (go_at_call 31; (with_reducible refine (r5_Number.calls a1_0 a1_1 a1_2 _ _ l1_3 a1_4 a1_5 _ _ l1_6 t865 _ (ck HR1_3 HB) HC1_3.out (ck HR1_6 HB) HC1_6.out A8.out).mono ?_); rintro e w13 ⟨rfl, hb⟩; replace BK862 := kb BK862 hb; replace BK863 := kb BK863 hb; replace HB := bs HB hb))
   go_meet
   case rel => exact ⟨_, (t865), rs, H', ⟨le0⟩, ⟨bk BK862⟩, ⟨bk BK863⟩, ⟨bls HB⟩⟩
  replace c7 := Bool.eq_false_iff.mpr c7
  subst c7
  rw [if_neg Bool.false_ne_true] at H
  have H' := Az H
  clear H
  have hnb14 := NB862_863.out
  have hnc14 := NB863_862.out
  have hz15_1 := bz BK862
  go_wp2_with (first | (refine gl (some 10) Tryz.func31 #[.agg #[.int .i64 a0_0, .bool a0_1, .bool a0_2, .slice A0_3 l0_3.length c0_3, .int .u64 a0_4, .string a0_5, .slice A0_6 l0_6.length c0_6]] ?_; (with_reducible refine (r5_Number.calls a0_0 a0_1 a0_2 _ _ l0_3 a0_4 a0_5 _ _ l0_6 false _ (ck HR0_3 HB) HC0_3.out (ck HR0_6 HB) HC0_6.out A6.out).mono ?_); rintro e w16 ⟨rfl, hb⟩; refine ⟨_, rfl, ?_⟩; replace BK862 := kb BK862 hb; replace BK863 := kb BK863 hb; replace HB := bs HB hb))
  go_meet
  case rel => exact ⟨_, (false), rs, H', ⟨le0⟩, ⟨bk BK862⟩, ⟨bk BK863⟩, ⟨bls HB⟩⟩
 case rest =>
  clear HC3
  obtain ⟨kq, x14_2, rfl, HA, HJ2, BK862, BK863, HB⟩ := hcut
  cases kq with
  | zero => exact absurd HA.out (by simp [r5_Order.j0])
  | succ kj2 =>
   have H := HA.out
   clear HA
   simp only [r5_Order.j0] at H
   by_cases c17 : x14_2 = true
   ·subst c17
    rw [if_pos rfl] at H
    obtain ⟨⟨t866, t867⟩, A18, H⟩ := bd H
    (try dsimp only at H)
    simp only [Option.some.injEq, Prod.mk.injEq] at H
    obtain ⟨rfl, rfl, rfl⟩ := H
    have hnb19 := NB862_863.out
    have hnc19 := NB863_862.out
    have hz20_1 := bz BK862
    have hz21_2 := bz BK863
    go_wp2_with (first | (refine gl (some 18) Tryz.func32 #[.agg #[.int .i64 a0_0, .bool a0_1, .bool a0_2, .slice A0_3 l0_3.length c0_3, .int .u64 a0_4, .string a0_5, .slice A0_6 l0_6.length c0_6], .agg #[.int .i64 a1_0, .bool a1_1, .bool a1_2, .slice A1_3 l1_3.length c1_3, .int .u64 a1_4, .string a1_5, .slice A1_6 l1_6.length c1_6]] ?_; (with_reducible refine (r5_numbers.calls kj2 a0_0 a0_1 a0_2 _ _ l0_3 a0_4 a0_5 _ _ l0_6 a1_0 a1_1 a1_2 _ _ l1_3 a1_4 a1_5 _ _ l1_6 t866 t867 _ (ck HR0_3 HB) HC0_3.out (ck HR0_6 HB) HC0_6.out (ck HR1_3 HB) HC1_3.out (ck HR1_6 HB) HC1_6.out A18.out).mono ?_); rintro e w22 ⟨rfl, hb⟩; refine ⟨_, rfl, ?_⟩; replace BK862 := kb BK862 hb; replace BK863 := kb BK863 hb; replace HB := bs HB hb))
    go_ret3
    exact ⟨fe, bls HB⟩
   replace c17 := Bool.eq_false_iff.mpr c17
   subst c17
   rw [if_neg Bool.false_ne_true] at H
   by_cases c23 : a0_0 = 4
   case neg =>
    rw [if_neg c23] at H
    have c23b0 := beq_eq_false_iff_ne.mpr c23
    have c23b1 := bne_iff_ne.mpr c23
    simp only [Option.some.injEq, Prod.mk.injEq] at H
    obtain ⟨rfl, rfl, rfl⟩ := H
    have hnb32 := NB862_863.out
    have hnc32 := NB863_862.out
    have hz33_1 := bz BK862
    go_wp2
    go_ret3
    exact ⟨fe, bls HB⟩
   rw [if_pos c23] at H
   have c23b0 := beq_iff_eq.mpr c23
   have c23b1 := bne_eq_false_iff_eq.mpr c23
   clear c23
   by_cases c24 : a1_0 = 4
   case neg =>
    rw [if_neg c24] at H
    have c24b0 := beq_eq_false_iff_ne.mpr c24
    have c24b1 := bne_iff_ne.mpr c24
    simp only [Option.some.injEq, Prod.mk.injEq] at H
    obtain ⟨rfl, rfl, rfl⟩ := H
    have hnb29 := NB862_863.out
    have hnc29 := NB863_862.out
    have hz30_1 := bz BK862
    have hz31_2 := bz BK863
    go_wp2
    go_ret3
    exact ⟨fe, bls HB⟩
   rw [if_pos c24] at H
   have c24b0 := beq_iff_eq.mpr c24
   have c24b1 := bne_eq_false_iff_eq.mpr c24
   clear c24
   obtain ⟨t868, A25, H⟩ := bd H
   simp only [Option.some.injEq, Prod.mk.injEq] at H
   obtain ⟨rfl, rfl, rfl⟩ := H
   have hnb26 := NB862_863.out
   have hnc26 := NB863_862.out
   have hz27_1 := bz BK862
   have hz28_2 := bz BK863
   go_wp2_with (first | (refine gl (some 35) Tryz.func33 #[.string a0_5, .string a1_5] ?_; (with_reducible refine (r5_bytes.calls kj2 a0_5 a1_5 t868 _ A25.out).mono ?_); rintro e w' ⟨rfl, ⟨nd, rfl⟩⟩; refine ⟨_, rfl, ?_⟩))
   go_ret3
   exact ⟨fe, bls HB⟩
end Go.Proofs.YtkenmmfplnheaaaGreatDoor.P
