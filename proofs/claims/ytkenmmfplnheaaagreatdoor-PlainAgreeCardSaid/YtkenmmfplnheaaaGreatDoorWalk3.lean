/- The functions' forms and the proofs that the machine computes them: printed by a changed copy of the kit's printer, shortened by a program. -/
import Derived.Test.YtkenmmfplnheaaaGreatDoorWalk2
namespace Go.Proofs.YtkenmmfplnheaaaGreatDoor.P
open Go.Proofs.YtkenmmfplnheaaaGreatDoor.Giv
open Go.RowKit Go.Proofs.YtkenmmfplnheaaaGreatDoorW.PrintWords Go.Proofs.YtkenmmfplnheaaaGreatDoorW.PrintLast Go.Proofs.YtkenmmfplnheaaaGreatDoorW.PrintMore
attribute [local go_sem] max2_int min2_int max_two min_two max_three min_three max_four min_four   -- for this text's walks alone
set_option linter.unusedVariables false
set_option linter.unusedSimpArgs false
set_option maxHeartbeats 8000000
set_option maxRecDepth 100000
def p_Equal.j0 : Nat → Bool → Int → Bool → Bool → List Int → Int → ByteArray → List (S28) → Int → Bool → Bool → List Int → Int → ByteArray → List (S28) → Option (Bool)
 | 0, _, _, _, _, _, _, _, _, _, _, _, _, _, _, _ => none
 | k + 1, x14, x426000, x426001, x426002, x426003, x426004, x426005, x426006, x427000, x427001, x427002, x427003, x427004, x427005, x427006 => if x14 = true then (some false) else ((p_number.f x426000 x426001 x426002 x426003 x426004 x426005 x426006).bind fun t429 => (if t429 = true then ((p_number.f x427000 x427001 x427002 x427003 x427004 x427005 x427006).bind fun t430 => (if t430 = true then ((p_order.f k x426000 x426001 x426002 x426003 x426004 x426005 x426006 x427000 x427001 x427002 x427003 x427004 x427005 x427006).bind fun bt431 => (if bt431.2 = true then (some (bt431.1 == 0)) else (some false))) else (if x426000 = x427000 then (some (x426005.toList == x427005.toList)) else (some false)))) else (if x426000 = x427000 then (some (x426005.toList == x427005.toList)) else (some false))))
def p_Equal.f (k : Nat) (a0_0 : Int) (a0_1 a0_2 : Bool) (l0_3 : List Int) (a0_4 : Int) (a0_5 : ByteArray) (l0_6 : List (S28)) (a1_0 : Int) (a1_1 a1_2 : Bool) (l1_3 : List Int) (a1_4 : Int) (a1_5 : ByteArray) (l1_6 : List (S28)) : Option (Bool) := (p_Good.f k a0_0 a0_1 a0_2 l0_3 a0_4 a0_5 l0_6).bind fun t427 => (if t427 = true then ((p_Good.f k a1_0 a1_1 a1_2 l1_3 a1_4 a1_5 l1_6).bind fun t428 => (p_Equal.j0 k (!t428) a0_0 a0_1 a0_2 l0_3 a0_4 a0_5 l0_6 a1_0 a1_1 a1_2 l1_3 a1_4 a1_5 l1_6)) else (p_Equal.j0 k true a0_0 a0_1 a0_2 l0_3 a0_4 a0_5 l0_6 a1_0 a1_1 a1_2 l1_3 a1_4 a1_5 l1_6))
theorem p_Equal.mono_l : ∀ k, (∀ y0 y1 y2 y3 y4 y5 y6 y7 y8 y9 y10 y11 y12 y13 y14, LeO (p_Equal.j0 k y0 y1 y2 y3 y4 y5 y6 y7 y8 y9 y10 y11 y12 y13 y14) (p_Equal.j0 (k + 1) y0 y1 y2 y3 y4 y5 y6 y7 y8 y9 y10 y11 y12 y13 y14))
 | 0 => fun _ _ _ _ _ _ _ _ _ _ _ _ _ _ _ r h => by simp [p_Equal.j0] at h
 | k + 1 => by
  have ih0 := p_Equal.mono_l k
  ·intro y0 y1 y2 y3 y4 y5 y6 y7 y8 y9 y10 y11 y12 y13 y14
   unfold p_Equal.j0
   repeat' first
   | exact ih0 _ _ _ _ _ _ _ _ _ _ _ _ _ _ _
   | exact p_Good.mono _ _ _ _ _ _ _ _
   | exact p_order.mono _ _ _ _ _ _ _ _ _ _ _ _ _ _ _
   | exact LeO.refl _
   | exact LeO.none _
   | refine LeO.ite ?_ ?_
   | refine LeO.bind ?_ (fun _ => ?_)
theorem p_Equal.mono : ∀ a0 a1 a2 a3 a4 a5 a6 a7 a8 a9 a10 a11 a12 a13 k, LeO (p_Equal.f k a0 a1 a2 a3 a4 a5 a6 a7 a8 a9 a10 a11 a12 a13) (p_Equal.f (k + 1) a0 a1 a2 a3 a4 a5 a6 a7 a8 a9 a10 a11 a12 a13) := by
 intro a0 a1 a2 a3 a4 a5 a6 a7 a8 a9 a10 a11 a12 a13 k
 have ih0 := p_Equal.mono_l k
 unfold p_Equal.f
 repeat' first
   | exact ih0 _ _ _ _ _ _ _ _ _ _ _ _ _ _ _
   | exact p_Good.mono _ _ _ _ _ _ _ _
   | exact p_order.mono _ _ _ _ _ _ _ _ _ _ _ _ _ _ _
   | exact LeO.refl _
   | exact LeO.none _
   | refine LeO.ite ?_ ?_
   | refine LeO.bind ?_ (fun _ => ?_)
theorem p_Equal.calls (k : Nat) (a0_0 : Int) (a0_1 a0_2 : Bool) (A0_3 : Option Addr) (c0_3 : Nat) (l0_3 : List Int) (a0_4 : Int) (a0_5 : ByteArray) (A0_6 : Option Addr) (c0_6 : Nat) (l0_6 : List (S28)) (a1_0 : Int) (a1_1 a1_2 : Bool) (A1_3 : Option Addr) (c1_3 : Nat) (l1_3 : List Int) (a1_4 : Int) (a1_5 : ByteArray) (A1_6 : Option Addr) (c1_6 : Nat) (l1_6 : List (S28)) (r : Bool) (w : World) (hr0_3 : Kd.C (Kd.int .u64) w A0_3 l0_3.length l0_3) (hc0_3 : l0_3.length ≤ c0_3) (hr0_6 : Kd.C k28 w A0_6 l0_6.length l0_6) (hc0_6 : l0_6.length ≤ c0_6) (hr1_3 : Kd.C (Kd.int .u64) w A1_3 l1_3.length l1_3) (hc1_3 : l1_3.length ≤ c1_3) (hr1_6 : Kd.C k28 w A1_6 l1_6.length l1_6) (hc1_6 : l1_6.length ≤ c1_6) (h : p_Equal.f k a0_0 a0_1 a0_2 l0_3 a0_4 a0_5 l0_6 a1_0 a1_1 a1_2 l1_3 a1_4 a1_5 l1_6 = some r) :
  Calls Tryz.prog 8 #[.agg #[.int .i64 a0_0, .bool a0_1, .bool a0_2, .slice A0_3 l0_3.length c0_3, .int .u64 a0_4, .string a0_5, .slice A0_6 l0_6.length c0_6], .agg #[.int .i64 a1_0, .bool a1_1, .bool a1_2, .slice A1_3 l1_3.length c1_3, .int .u64 a1_4, .string a1_5, .slice A1_6 l1_6.length c1_6]] w fun e w' => e = .returned (.bool r) ∧ Below w.heap.size w w' := by
 have hu28 := Tryz.underlying28
 have HR0_3 := Az hr0_3
 have HC0_3 := Az hc0_3
 clear hr0_3 hc0_3
 have HR0_6 := Az hr0_6
 have HC0_6 := Az hc0_6
 clear hr0_6 hc0_6
 have HR1_3 := Az hr1_3
 have HC1_3 := Az hc1_3
 clear hr1_3 hc1_3
 have HR1_6 := Az hr1_6
 have HC1_6 := Az hc1_6
 clear hr1_6 hc1_6
 have HB := Az (Below.refl w.heap.size w)
 have H := h
 unfold p_Equal.f at H
 clear h
 have HC3 := Az H
 clear H
 go_enter Tryz.func8, Tryz.ntmps8
 go_upto_region 1 with (first | (refine be 2 #[.int .i64 a0_0, .bool a0_1, .bool a0_2, .slice A0_3 l0_3.length c0_3, .int .u64 a0_4, .string a0_5, .slice A0_6 l0_6.length c0_6] 28 ?_; intro gb425 hg w4 hbox hb; have BK425 := Az (hbox); have GW425 := gw (bl HB) hg; have GE425 := gw (bl HB) hg; replace HB := bs HB hb; clear hb hbox hg) | (refine be 3 #[.int .i64 a1_0, .bool a1_1, .bool a1_2, .slice A1_3 l1_3.length c1_3, .int .u64 a1_4, .string a1_5, .slice A1_6 l1_6.length c1_6] 28 ?_; intro gb426 hg w5 hbox hb; have BK426 := Az (hbox); have GW426 := gw (bls HB) hg; have GE426 := gw (bls HB) hg; replace HB := bs HB hb; have NB425_426 := nl BK425 hg; have NB426_425 := ng BK425 hg; replace BK425 := kb BK425 hb; clear hb hbox hg))
 go_cut [14] (fun v14 wc => ∃ (kq : Nat) (x14_2 : Bool), v14 = .bool x14_2 ∧ Aside0 (p_Equal.j0 kq x14_2 a0_0 a0_1 a0_2 l0_3 a0_4 a0_5 l0_6 a1_0 a1_1 a1_2 l1_3 a1_4 a1_5 l1_6 = some r) ∧ Aside0 (kq ≤ k) ∧ Aside0 (wc.heap[gb425]? = some (.cells #[.int .i64 a0_0, .bool a0_1, .bool a0_2, (.slice A0_3 l0_3.length c0_3), .int .u64 a0_4, .string a0_5, (.slice A0_6 l0_6.length c0_6)] 28 (0, 0))) ∧ Aside0 (wc.heap[gb426]? = some (.cells #[.int .i64 a1_0, .bool a1_1, .bool a1_2, (.slice A1_3 l1_3.length c1_3), .int .u64 a1_4, .string a1_5, (.slice A1_6 l1_6.length c1_6)] 28 (0, 0))) ∧ Aside0 (Below w.heap.size w wc))
 case first =>
  have H := HC3.out
  clear HC3
  obtain ⟨t427, A6, H⟩ := bd H
  by_cases c7 : t427 = true
  ·subst c7
   rw [if_pos rfl] at H
   obtain ⟨t428, A8, H⟩ := bd H
   have H' := Az H
   clear H
   have hnb9 := NB425_426.out
   have hnc9 := NB426_425.out
   have hz10_1 := bz BK425
   go_wp2_with (first | (refine gl (some 8) Tryz.func25 #[.agg #[.int .i64 a0_0, .bool a0_1, .bool a0_2, .slice A0_3 l0_3.length c0_3, .int .u64 a0_4, .string a0_5, .slice A0_6 l0_6.length c0_6]] ?_; (with_reducible refine (p_Good.calls k a0_0 a0_1 a0_2 _ _ l0_3 a0_4 a0_5 _ _ l0_6 true _ (ck HR0_3 HB) HC0_3.out (ck HR0_6 HB) HC0_6.out A6.out).mono ?_); rintro e w11 ⟨rfl, hb⟩; refine ⟨_, rfl, ?_⟩; replace BK425 := kb BK425 hb; replace BK426 := kb BK426 hb; replace HB := bs HB hb; have hz12_1 := bz BK426) | (go_at_call 25; (with_reducible refine (p_Good.calls k a1_0 a1_1 a1_2 _ _ l1_3 a1_4 a1_5 _ _ l1_6 t428 _ (ck HR1_3 HB) HC1_3.out (ck HR1_6 HB) HC1_6.out A8.out).mono ?_); rintro e w13 ⟨rfl, hb⟩; replace BK425 := kb BK425 hb; replace BK426 := kb BK426 hb; replace HB := bs HB hb))
   go_meet
   case rel => exact ⟨_, (!t428), rs, H', ⟨le0⟩, ⟨bk BK425⟩, ⟨bk BK426⟩, ⟨bls HB⟩⟩
  replace c7 := Bool.eq_false_iff.mpr c7
  subst c7
  rw [if_neg Bool.false_ne_true] at H
  have H' := Az H
  clear H
  have hnb14 := NB425_426.out
  have hnc14 := NB426_425.out
  have hz15_1 := bz BK425
  go_wp2_with (first | (refine gl (some 8) Tryz.func25 #[.agg #[.int .i64 a0_0, .bool a0_1, .bool a0_2, .slice A0_3 l0_3.length c0_3, .int .u64 a0_4, .string a0_5, .slice A0_6 l0_6.length c0_6]] ?_; (with_reducible refine (p_Good.calls k a0_0 a0_1 a0_2 _ _ l0_3 a0_4 a0_5 _ _ l0_6 false _ (ck HR0_3 HB) HC0_3.out (ck HR0_6 HB) HC0_6.out A6.out).mono ?_); rintro e w16 ⟨rfl, hb⟩; refine ⟨_, rfl, ?_⟩; replace BK425 := kb BK425 hb; replace BK426 := kb BK426 hb; replace HB := bs HB hb))
  go_meet
  case rel => exact ⟨_, (true), rs, H', ⟨le0⟩, ⟨bk BK425⟩, ⟨bk BK426⟩, ⟨bls HB⟩⟩
 case rest =>
  clear HC3
  obtain ⟨kq, x14_2, rfl, HA, HJ2, BK425, BK426, HB⟩ := hcut
  cases kq with
  | zero => exact absurd HA.out (by simp [p_Equal.j0])
  | succ kj2 =>
   have H := HA.out
   clear HA
   simp only [p_Equal.j0] at H
   by_cases c17 : x14_2 = true
   ·subst c17
    rw [if_pos rfl] at H
    obtain rfl := Option.some.inj H
    go_wp2
    go_ret
    exact ⟨fe, bls HB⟩
   replace c17 := Bool.eq_false_iff.mpr c17
   subst c17
   rw [if_neg Bool.false_ne_true] at H
   obtain ⟨t429, A18, H⟩ := bd H
   by_cases c19 : t429 = true
   case neg =>
    replace c19 := Bool.eq_false_iff.mpr c19
    subst c19
    rw [if_neg Bool.false_ne_true] at H
    by_cases c55 : a0_0 = a1_0
    case neg =>
     rw [if_neg c55] at H
     have c55b0 := beq_eq_false_iff_ne.mpr c55
     have c55b1 := bne_iff_ne.mpr c55
     obtain rfl := Option.some.inj H
     have hnb61 := NB425_426.out
     have hnc61 := NB426_425.out
     have hz62_1 := bz BK425
     go_wp2_with (first | (refine gl (some 16) Tryz.func26 #[.agg #[.int .i64 a0_0, .bool a0_1, .bool a0_2, .slice A0_3 l0_3.length c0_3, .int .u64 a0_4, .string a0_5, .slice A0_6 l0_6.length c0_6]] ?_; (with_reducible refine (p_number.calls a0_0 a0_1 a0_2 _ _ l0_3 a0_4 a0_5 _ _ l0_6 false _ (ck HR0_3 HB) HC0_3.out (ck HR0_6 HB) HC0_6.out A18.out).mono ?_); rintro e w63 ⟨rfl, hb⟩; refine ⟨_, rfl, ?_⟩; replace BK425 := kb BK425 hb; replace BK426 := kb BK426 hb; replace HB := bs HB hb; have hz64_1 := bz BK425; have hz65_2 := bz BK426))
     go_ret
     exact ⟨fe, bls HB⟩
    rw [if_pos c55] at H
    have c55b0 := beq_iff_eq.mpr c55
    have c55b1 := bne_eq_false_iff_eq.mpr c55
    clear c55
    obtain rfl := Option.some.inj H
    have hnb56 := NB425_426.out
    have hnc56 := NB426_425.out
    have hz57_1 := bz BK425
    go_wp2_with (first | (refine gl (some 16) Tryz.func26 #[.agg #[.int .i64 a0_0, .bool a0_1, .bool a0_2, .slice A0_3 l0_3.length c0_3, .int .u64 a0_4, .string a0_5, .slice A0_6 l0_6.length c0_6]] ?_; (with_reducible refine (p_number.calls a0_0 a0_1 a0_2 _ _ l0_3 a0_4 a0_5 _ _ l0_6 false _ (ck HR0_3 HB) HC0_3.out (ck HR0_6 HB) HC0_6.out A18.out).mono ?_); rintro e w58 ⟨rfl, hb⟩; refine ⟨_, rfl, ?_⟩; replace BK425 := kb BK425 hb; replace BK426 := kb BK426 hb; replace HB := bs HB hb; have hz59_1 := bz BK425; have hz60_2 := bz BK426))
    go_ret
    exact ⟨fe, bls HB⟩
   subst c19
   rw [if_pos rfl] at H
   obtain ⟨t430, A20, H⟩ := bd H
   by_cases c21 : t430 = true
   ·subst c21
    rw [if_pos rfl] at H
    obtain ⟨⟨t431, t432⟩, A22, H⟩ := bd H
    by_cases c23 : t432 = true
    ·subst c23
     rw [if_pos rfl] at H
     obtain rfl := Option.some.inj H
     have hnb24 := NB425_426.out
     have hnc24 := NB426_425.out
     have hz25_1 := bz BK425
     go_wp2_with (first | (refine gl (some 16) Tryz.func26 #[.agg #[.int .i64 a0_0, .bool a0_1, .bool a0_2, .slice A0_3 l0_3.length c0_3, .int .u64 a0_4, .string a0_5, .slice A0_6 l0_6.length c0_6]] ?_; (with_reducible refine (p_number.calls a0_0 a0_1 a0_2 _ _ l0_3 a0_4 a0_5 _ _ l0_6 true _ (ck HR0_3 HB) HC0_3.out (ck HR0_6 HB) HC0_6.out A18.out).mono ?_); rintro e w26 ⟨rfl, hb⟩; refine ⟨_, rfl, ?_⟩; replace BK425 := kb BK425 hb; replace BK426 := kb BK426 hb; replace HB := bs HB hb; have hz27_1 := bz BK426) | (go_at_call 26; (with_reducible refine (p_number.calls a1_0 a1_1 a1_2 _ _ l1_3 a1_4 a1_5 _ _ l1_6 true _ (ck HR1_3 HB) HC1_3.out (ck HR1_6 HB) HC1_6.out A20.out).mono ?_); rintro e w28 ⟨rfl, hb⟩; replace BK425 := kb BK425 hb; replace BK426 := kb BK426 hb; replace HB := bs HB hb; have hz29_1 := bz BK425; have hz30_2 := bz BK426) | (refine gl (some 24) Tryz.func27 #[.agg #[.int .i64 a0_0, .bool a0_1, .bool a0_2, .slice A0_3 l0_3.length c0_3, .int .u64 a0_4, .string a0_5, .slice A0_6 l0_6.length c0_6], .agg #[.int .i64 a1_0, .bool a1_1, .bool a1_2, .slice A1_3 l1_3.length c1_3, .int .u64 a1_4, .string a1_5, .slice A1_6 l1_6.length c1_6]] ?_; (with_reducible refine (p_order.calls kj2 a0_0 a0_1 a0_2 _ _ l0_3 a0_4 a0_5 _ _ l0_6 a1_0 a1_1 a1_2 _ _ l1_3 a1_4 a1_5 _ _ l1_6 t431 true _ (ck HR0_3 HB) HC0_3.out (ck HR0_6 HB) HC0_6.out (ck HR1_3 HB) HC1_3.out (ck HR1_6 HB) HC1_6.out A22.out).mono ?_); rintro e w31 ⟨rfl, hb⟩; refine ⟨_, rfl, ?_⟩; replace BK425 := kb BK425 hb; replace BK426 := kb BK426 hb; replace HB := bs HB hb))
     go_ret
     exact ⟨fe, bls HB⟩
    replace c23 := Bool.eq_false_iff.mpr c23
    subst c23
    rw [if_neg Bool.false_ne_true] at H
    obtain rfl := Option.some.inj H
    have hnb32 := NB425_426.out
    have hnc32 := NB426_425.out
    have hz33_1 := bz BK425
    go_wp2_with (first | (refine gl (some 16) Tryz.func26 #[.agg #[.int .i64 a0_0, .bool a0_1, .bool a0_2, .slice A0_3 l0_3.length c0_3, .int .u64 a0_4, .string a0_5, .slice A0_6 l0_6.length c0_6]] ?_; (with_reducible refine (p_number.calls a0_0 a0_1 a0_2 _ _ l0_3 a0_4 a0_5 _ _ l0_6 true _ (ck HR0_3 HB) HC0_3.out (ck HR0_6 HB) HC0_6.out A18.out).mono ?_); rintro e w34 ⟨rfl, hb⟩; refine ⟨_, rfl, ?_⟩; replace BK425 := kb BK425 hb; replace BK426 := kb BK426 hb; replace HB := bs HB hb; have hz35_1 := bz BK426) | (go_at_call 26; (with_reducible refine (p_number.calls a1_0 a1_1 a1_2 _ _ l1_3 a1_4 a1_5 _ _ l1_6 true _ (ck HR1_3 HB) HC1_3.out (ck HR1_6 HB) HC1_6.out A20.out).mono ?_); rintro e w36 ⟨rfl, hb⟩; replace BK425 := kb BK425 hb; replace BK426 := kb BK426 hb; replace HB := bs HB hb; have hz37_1 := bz BK425; have hz38_2 := bz BK426) | (refine gl (some 24) Tryz.func27 #[.agg #[.int .i64 a0_0, .bool a0_1, .bool a0_2, .slice A0_3 l0_3.length c0_3, .int .u64 a0_4, .string a0_5, .slice A0_6 l0_6.length c0_6], .agg #[.int .i64 a1_0, .bool a1_1, .bool a1_2, .slice A1_3 l1_3.length c1_3, .int .u64 a1_4, .string a1_5, .slice A1_6 l1_6.length c1_6]] ?_; (with_reducible refine (p_order.calls kj2 a0_0 a0_1 a0_2 _ _ l0_3 a0_4 a0_5 _ _ l0_6 a1_0 a1_1 a1_2 _ _ l1_3 a1_4 a1_5 _ _ l1_6 t431 false _ (ck HR0_3 HB) HC0_3.out (ck HR0_6 HB) HC0_6.out (ck HR1_3 HB) HC1_3.out (ck HR1_6 HB) HC1_6.out A22.out).mono ?_); rintro e w39 ⟨rfl, hb⟩; refine ⟨_, rfl, ?_⟩; replace BK425 := kb BK425 hb; replace BK426 := kb BK426 hb; replace HB := bs HB hb))
    go_ret
    exact ⟨fe, bls HB⟩
   replace c21 := Bool.eq_false_iff.mpr c21
   subst c21
   rw [if_neg Bool.false_ne_true] at H
   by_cases c40 : a0_0 = a1_0
   case neg =>
    rw [if_neg c40] at H
    have c40b0 := beq_eq_false_iff_ne.mpr c40
    have c40b1 := bne_iff_ne.mpr c40
    obtain rfl := Option.some.inj H
    have hnb48 := NB425_426.out
    have hnc48 := NB426_425.out
    have hz49_1 := bz BK425
    go_wp2_with (first | (refine gl (some 16) Tryz.func26 #[.agg #[.int .i64 a0_0, .bool a0_1, .bool a0_2, .slice A0_3 l0_3.length c0_3, .int .u64 a0_4, .string a0_5, .slice A0_6 l0_6.length c0_6]] ?_; (with_reducible refine (p_number.calls a0_0 a0_1 a0_2 _ _ l0_3 a0_4 a0_5 _ _ l0_6 true _ (ck HR0_3 HB) HC0_3.out (ck HR0_6 HB) HC0_6.out A18.out).mono ?_); rintro e w50 ⟨rfl, hb⟩; refine ⟨_, rfl, ?_⟩; replace BK425 := kb BK425 hb; replace BK426 := kb BK426 hb; replace HB := bs HB hb; have hz51_1 := bz BK426) | (go_at_call 26; (with_reducible refine (p_number.calls a1_0 a1_1 a1_2 _ _ l1_3 a1_4 a1_5 _ _ l1_6 false _ (ck HR1_3 HB) HC1_3.out (ck HR1_6 HB) HC1_6.out A20.out).mono ?_); rintro e w52 ⟨rfl, hb⟩; replace BK425 := kb BK425 hb; replace BK426 := kb BK426 hb; replace HB := bs HB hb; have hz53_1 := bz BK425; have hz54_2 := bz BK426))
    go_ret
    exact ⟨fe, bls HB⟩
   rw [if_pos c40] at H
   have c40b0 := beq_iff_eq.mpr c40
   have c40b1 := bne_eq_false_iff_eq.mpr c40
   clear c40
   obtain rfl := Option.some.inj H
   have hnb41 := NB425_426.out
   have hnc41 := NB426_425.out
   have hz42_1 := bz BK425
   go_wp2_with (first | (refine gl (some 16) Tryz.func26 #[.agg #[.int .i64 a0_0, .bool a0_1, .bool a0_2, .slice A0_3 l0_3.length c0_3, .int .u64 a0_4, .string a0_5, .slice A0_6 l0_6.length c0_6]] ?_; (with_reducible refine (p_number.calls a0_0 a0_1 a0_2 _ _ l0_3 a0_4 a0_5 _ _ l0_6 true _ (ck HR0_3 HB) HC0_3.out (ck HR0_6 HB) HC0_6.out A18.out).mono ?_); rintro e w43 ⟨rfl, hb⟩; refine ⟨_, rfl, ?_⟩; replace BK425 := kb BK425 hb; replace BK426 := kb BK426 hb; replace HB := bs HB hb; have hz44_1 := bz BK426) | (go_at_call 26; (with_reducible refine (p_number.calls a1_0 a1_1 a1_2 _ _ l1_3 a1_4 a1_5 _ _ l1_6 false _ (ck HR1_3 HB) HC1_3.out (ck HR1_6 HB) HC1_6.out A20.out).mono ?_); rintro e w45 ⟨rfl, hb⟩; replace BK425 := kb BK425 hb; replace BK426 := kb BK426 hb; replace HB := bs HB hb; have hz46_1 := bz BK425; have hz47_2 := bz BK426))
   go_ret
   exact ⟨fe, bls HB⟩
def strings_Compare.f (a0 a1 : ByteArray) : Option Int := some (Lib.compareBytes a0.data.toList a1.data.toList)
theorem strings_Compare.calls (a0 a1 : ByteArray) (r : Int) (w : World) (h : strings_Compare.f a0 a1 = some r) :
  Calls Tryz.prog 28 #[.string a0, .string a1] w fun e w' => e = .returned (.int .i64 r) ∧ Drawn0 w w' := by
 obtain rfl := Option.some.inj h
 refine (Tryz.strings_Compare a0 a1 w).mono ?_
 rintro e w' ⟨rfl, rfl⟩
 exact ⟨rfl, Drawn0.refl _⟩
mutual
def p_Order.j0 : Nat → Bool → Int → Bool → Bool → List Int → Int → ByteArray → List (S28) → Int → Bool → Bool → List Int → Int → ByteArray → List (S28) → Option (Int × Bool × Int)
 | 0, _, _, _, _, _, _, _, _, _, _, _, _, _, _, _ => none
 | k + 1, x16, x687000, x687001, x687002, x687003, x687004, x687005, x687006, x688000, x688001, x688002, x688003, x688004, x688005, x688006 => if x16 = true then (some (0, false, 3)) else ((p_number.f x687000 x687001 x687002 x687003 x687004 x687005 x687006).bind fun t690 => (if t690 = true then ((p_number.f x688000 x688001 x688002 x688003 x688004 x688005 x688006).bind fun t691 => (p_Order.j1 k t691 x687000 x687001 x687002 x687003 x687004 x687005 x687006 x688000 x688001 x688002 x688003 x688004 x688005 x688006)) else (p_Order.j1 k false x687000 x687001 x687002 x687003 x687004 x687005 x687006 x688000 x688001 x688002 x688003 x688004 x688005 x688006)))
def p_Order.j1 : Nat → Bool → Int → Bool → Bool → List Int → Int → ByteArray → List (S28) → Int → Bool → Bool → List Int → Int → ByteArray → List (S28) → Option (Int × Bool × Int)
 | 0, _, _, _, _, _, _, _, _, _, _, _, _, _, _, _ => none
 | k + 1, x22, x687000, x687001, x687002, x687003, x687004, x687005, x687006, x688000, x688001, x688002, x688003, x688004, x688005, x688006 => if x22 = true then ((p_order.f k x687000 x687001 x687002 x687003 x687004 x687005 x687006 x688000 x688001 x688002 x688003 x688004 x688005 x688006).bind fun bt692 => (some (bt692.1, bt692.2, 0))) else (if x687000 = 4 then (if x688000 = 4 then ((strings_Compare.f x687005 x688005).bind fun t694 => (some (t694, true, 0))) else (some (0, false, 9))) else (some (0, false, 9)))
end
def p_Order.f (k : Nat) (a0_0 : Int) (a0_1 a0_2 : Bool) (l0_3 : List Int) (a0_4 : Int) (a0_5 : ByteArray) (l0_6 : List (S28)) (a1_0 : Int) (a1_1 a1_2 : Bool) (l1_3 : List Int) (a1_4 : Int) (a1_5 : ByteArray) (l1_6 : List (S28)) : Option (Int × Bool × Int) := (p_Good.f k a0_0 a0_1 a0_2 l0_3 a0_4 a0_5 l0_6).bind fun t688 => (if t688 = true then ((p_Good.f k a1_0 a1_1 a1_2 l1_3 a1_4 a1_5 l1_6).bind fun t689 => (p_Order.j0 k (!t689) a0_0 a0_1 a0_2 l0_3 a0_4 a0_5 l0_6 a1_0 a1_1 a1_2 l1_3 a1_4 a1_5 l1_6)) else (p_Order.j0 k true a0_0 a0_1 a0_2 l0_3 a0_4 a0_5 l0_6 a1_0 a1_1 a1_2 l1_3 a1_4 a1_5 l1_6))
theorem p_Order.calls (k : Nat) (a0_0 : Int) (a0_1 a0_2 : Bool) (A0_3 : Option Addr) (c0_3 : Nat) (l0_3 : List Int) (a0_4 : Int) (a0_5 : ByteArray) (A0_6 : Option Addr) (c0_6 : Nat) (l0_6 : List (S28)) (a1_0 : Int) (a1_1 a1_2 : Bool) (A1_3 : Option Addr) (c1_3 : Nat) (l1_3 : List Int) (a1_4 : Int) (a1_5 : ByteArray) (A1_6 : Option Addr) (c1_6 : Nat) (l1_6 : List (S28)) (r1 : Int) (r2 : Bool) (r3 : Int) (w : World) (hr0_3 : Kd.C (Kd.int .u64) w A0_3 l0_3.length l0_3) (hc0_3 : l0_3.length ≤ c0_3) (hr0_6 : Kd.C k28 w A0_6 l0_6.length l0_6) (hc0_6 : l0_6.length ≤ c0_6) (hr1_3 : Kd.C (Kd.int .u64) w A1_3 l1_3.length l1_3) (hc1_3 : l1_3.length ≤ c1_3) (hr1_6 : Kd.C k28 w A1_6 l1_6.length l1_6) (hc1_6 : l1_6.length ≤ c1_6) (h : p_Order.f k a0_0 a0_1 a0_2 l0_3 a0_4 a0_5 l0_6 a1_0 a1_1 a1_2 l1_3 a1_4 a1_5 l1_6 = some (r1, r2, r3)) :
  Calls Tryz.prog 6 #[.agg #[.int .i64 a0_0, .bool a0_1, .bool a0_2, .slice A0_3 l0_3.length c0_3, .int .u64 a0_4, .string a0_5, .slice A0_6 l0_6.length c0_6], .agg #[.int .i64 a1_0, .bool a1_1, .bool a1_2, .slice A1_3 l1_3.length c1_3, .int .u64 a1_4, .string a1_5, .slice A1_6 l1_6.length c1_6]] w fun e w' => e = .returned (.tuple #[.int .i64 r1, .bool r2, .int .i64 r3]) ∧ Below w.heap.size w w' := by
 have hu28 := Tryz.underlying28
 have HR0_3 := Az hr0_3
 have HC0_3 := Az hc0_3
 clear hr0_3 hc0_3
 have HR0_6 := Az hr0_6
 have HC0_6 := Az hc0_6
 clear hr0_6 hc0_6
 have HR1_3 := Az hr1_3
 have HC1_3 := Az hc1_3
 clear hr1_3 hc1_3
 have HR1_6 := Az hr1_6
 have HC1_6 := Az hc1_6
 clear hr1_6 hc1_6
 have HB := Az (Below.refl w.heap.size w)
 have H := h
 unfold p_Order.f at H
 clear h
 have HC3 := Az H
 clear H
 go_enter Tryz.func6, Tryz.ntmps6
 go_upto_region 1 with (first | (refine be 2 #[.int .i64 a0_0, .bool a0_1, .bool a0_2, .slice A0_3 l0_3.length c0_3, .int .u64 a0_4, .string a0_5, .slice A0_6 l0_6.length c0_6] 28 ?_; intro gb686 hg w4 hbox hb; have BK686 := Az (hbox); have GW686 := gw (bl HB) hg; have GE686 := gw (bl HB) hg; replace HB := bs HB hb; clear hb hbox hg) | (refine be 3 #[.int .i64 a1_0, .bool a1_1, .bool a1_2, .slice A1_3 l1_3.length c1_3, .int .u64 a1_4, .string a1_5, .slice A1_6 l1_6.length c1_6] 28 ?_; intro gb687 hg w5 hbox hb; have BK687 := Az (hbox); have GW687 := gw (bls HB) hg; have GE687 := gw (bls HB) hg; replace HB := bs HB hb; have NB686_687 := nl BK686 hg; have NB687_686 := ng BK686 hg; replace BK686 := kb BK686 hb; clear hb hbox hg))
 go_cut [16] (fun v16 wc => ∃ (kq : Nat) (x16_2 : Bool), v16 = .bool x16_2 ∧ Aside0 (p_Order.j0 kq x16_2 a0_0 a0_1 a0_2 l0_3 a0_4 a0_5 l0_6 a1_0 a1_1 a1_2 l1_3 a1_4 a1_5 l1_6 = some (r1, r2, r3)) ∧ Aside0 (kq ≤ k) ∧ Aside0 (wc.heap[gb686]? = some (.cells #[.int .i64 a0_0, .bool a0_1, .bool a0_2, (.slice A0_3 l0_3.length c0_3), .int .u64 a0_4, .string a0_5, (.slice A0_6 l0_6.length c0_6)] 28 (0, 0))) ∧ Aside0 (wc.heap[gb687]? = some (.cells #[.int .i64 a1_0, .bool a1_1, .bool a1_2, (.slice A1_3 l1_3.length c1_3), .int .u64 a1_4, .string a1_5, (.slice A1_6 l1_6.length c1_6)] 28 (0, 0))) ∧ Aside0 (Below w.heap.size w wc))
 case first =>
  have H := HC3.out
  clear HC3
  obtain ⟨t688, A6, H⟩ := bd H
  by_cases c7 : t688 = true
  ·subst c7
   rw [if_pos rfl] at H
   obtain ⟨t689, A8, H⟩ := bd H
   have H' := Az H
   clear H
   have hnb9 := NB686_687.out
   have hnc9 := NB687_686.out
   have hz10_1 := bz BK686
   go_wp2_with (first | (refine gl (some 10) Tryz.func25 #[.agg #[.int .i64 a0_0, .bool a0_1, .bool a0_2, .slice A0_3 l0_3.length c0_3, .int .u64 a0_4, .string a0_5, .slice A0_6 l0_6.length c0_6]] ?_; (with_reducible refine (p_Good.calls k a0_0 a0_1 a0_2 _ _ l0_3 a0_4 a0_5 _ _ l0_6 true _ (ck HR0_3 HB) HC0_3.out (ck HR0_6 HB) HC0_6.out A6.out).mono ?_); rintro e w11 ⟨rfl, hb⟩; refine ⟨_, rfl, ?_⟩; replace BK686 := kb BK686 hb; replace BK687 := kb BK687 hb; replace HB := bs HB hb; have hz12_1 := bz BK687) | (go_at_call 25; (with_reducible refine (p_Good.calls k a1_0 a1_1 a1_2 _ _ l1_3 a1_4 a1_5 _ _ l1_6 t689 _ (ck HR1_3 HB) HC1_3.out (ck HR1_6 HB) HC1_6.out A8.out).mono ?_); rintro e w13 ⟨rfl, hb⟩; replace BK686 := kb BK686 hb; replace BK687 := kb BK687 hb; replace HB := bs HB hb))
   go_meet
   case rel => exact ⟨_, (!t689), rs, H', ⟨le0⟩, ⟨bk BK686⟩, ⟨bk BK687⟩, ⟨bls HB⟩⟩
  replace c7 := Bool.eq_false_iff.mpr c7
  subst c7
  rw [if_neg Bool.false_ne_true] at H
  have H' := Az H
  clear H
  have hnb14 := NB686_687.out
  have hnc14 := NB687_686.out
  have hz15_1 := bz BK686
  go_wp2_with (first | (refine gl (some 10) Tryz.func25 #[.agg #[.int .i64 a0_0, .bool a0_1, .bool a0_2, .slice A0_3 l0_3.length c0_3, .int .u64 a0_4, .string a0_5, .slice A0_6 l0_6.length c0_6]] ?_; (with_reducible refine (p_Good.calls k a0_0 a0_1 a0_2 _ _ l0_3 a0_4 a0_5 _ _ l0_6 false _ (ck HR0_3 HB) HC0_3.out (ck HR0_6 HB) HC0_6.out A6.out).mono ?_); rintro e w16 ⟨rfl, hb⟩; refine ⟨_, rfl, ?_⟩; replace BK686 := kb BK686 hb; replace BK687 := kb BK687 hb; replace HB := bs HB hb))
  go_meet
  case rel => exact ⟨_, (true), rs, H', ⟨le0⟩, ⟨bk BK686⟩, ⟨bk BK687⟩, ⟨bls HB⟩⟩
 case rest =>
  clear HC3
  obtain ⟨kq, x16_2, rfl, HA, HJ2, BK686, BK687, HB⟩ := hcut
  cases kq with
  | zero => exact absurd HA.out (by simp [p_Order.j0])
  | succ kj2 =>
   have H := HA.out
   clear HA
   simp only [p_Order.j0] at H
   by_cases c17 : x16_2 = true
   ·subst c17
    rw [if_pos rfl] at H
    simp only [Option.some.injEq, Prod.mk.injEq] at H
    obtain ⟨rfl, rfl, rfl⟩ := H
    go_wp2
    go_ret3
    exact ⟨fe, bls HB⟩
   replace c17 := Bool.eq_false_iff.mpr c17
   subst c17
   rw [if_neg Bool.false_ne_true] at H
   have HC18 := Az H
   clear H
   go_upto_region 3 with (fail)
   go_cut [22] (fun v22 wc => ∃ (kq : Nat) (x22_17 : Bool), v22 = .bool x22_17 ∧ Aside0 (p_Order.j1 kq x22_17 a0_0 a0_1 a0_2 l0_3 a0_4 a0_5 l0_6 a1_0 a1_1 a1_2 l1_3 a1_4 a1_5 l1_6 = some (r1, r2, r3)) ∧ Aside0 (kq ≤ kj2) ∧ Aside0 (wc.heap[gb686]? = some (.cells #[.int .i64 a0_0, .bool a0_1, .bool a0_2, (.slice A0_3 l0_3.length c0_3), .int .u64 a0_4, .string a0_5, (.slice A0_6 l0_6.length c0_6)] 28 (0, 0))) ∧ Aside0 (wc.heap[gb687]? = some (.cells #[.int .i64 a1_0, .bool a1_1, .bool a1_2, (.slice A1_3 l1_3.length c1_3), .int .u64 a1_4, .string a1_5, (.slice A1_6 l1_6.length c1_6)] 28 (0, 0))) ∧ Aside0 (Below w.heap.size w wc))
   case first =>
    have H := HC18.out
    clear HC18
    obtain ⟨t690, A19, H⟩ := bd H
    by_cases c20 : t690 = true
    ·subst c20
     rw [if_pos rfl] at H
     obtain ⟨t691, A21, H⟩ := bd H
     have H' := Az H
     clear H
     have hnb22 := NB686_687.out
     have hnc22 := NB687_686.out
     have hz23_1 := bz BK686
     go_wp2_with (first | (refine gl (some 18) Tryz.func26 #[.agg #[.int .i64 a0_0, .bool a0_1, .bool a0_2, .slice A0_3 l0_3.length c0_3, .int .u64 a0_4, .string a0_5, .slice A0_6 l0_6.length c0_6]] ?_; (with_reducible refine (p_number.calls a0_0 a0_1 a0_2 _ _ l0_3 a0_4 a0_5 _ _ l0_6 true _ (ck HR0_3 HB) HC0_3.out (ck HR0_6 HB) HC0_6.out A19.out).mono ?_); rintro e w24 ⟨rfl, hb⟩; refine ⟨_, rfl, ?_⟩; replace BK686 := kb BK686 hb; replace BK687 := kb BK687 hb; replace HB := bs HB hb; have hz25_1 := bz BK687) | (go_at_call 26; (with_reducible refine (p_number.calls a1_0 a1_1 a1_2 _ _ l1_3 a1_4 a1_5 _ _ l1_6 t691 _ (ck HR1_3 HB) HC1_3.out (ck HR1_6 HB) HC1_6.out A21.out).mono ?_); rintro e w26 ⟨rfl, hb⟩; replace BK686 := kb BK686 hb; replace BK687 := kb BK687 hb; replace HB := bs HB hb))
     go_meet
     case rel => exact ⟨_, (t691), rs, H', ⟨le1 HJ2⟩, ⟨bk BK686⟩, ⟨bk BK687⟩, ⟨bls HB⟩⟩
    replace c20 := Bool.eq_false_iff.mpr c20
    subst c20
    rw [if_neg Bool.false_ne_true] at H
    have H' := Az H
    clear H
    have hnb27 := NB686_687.out
    have hnc27 := NB687_686.out
    have hz28_1 := bz BK686
    go_wp2_with (first | (refine gl (some 18) Tryz.func26 #[.agg #[.int .i64 a0_0, .bool a0_1, .bool a0_2, .slice A0_3 l0_3.length c0_3, .int .u64 a0_4, .string a0_5, .slice A0_6 l0_6.length c0_6]] ?_; (with_reducible refine (p_number.calls a0_0 a0_1 a0_2 _ _ l0_3 a0_4 a0_5 _ _ l0_6 false _ (ck HR0_3 HB) HC0_3.out (ck HR0_6 HB) HC0_6.out A19.out).mono ?_); rintro e w29 ⟨rfl, hb⟩; refine ⟨_, rfl, ?_⟩; replace BK686 := kb BK686 hb; replace BK687 := kb BK687 hb; replace HB := bs HB hb))
    go_meet
    case rel => exact ⟨_, (false), rs, H', ⟨le1 HJ2⟩, ⟨bk BK686⟩, ⟨bk BK687⟩, ⟨bls HB⟩⟩
   case rest =>
    clear HC18
    obtain ⟨kq, x22_17, rfl, HA, HJ17, BK686, BK687, HB⟩ := hcut
    cases kq with
    | zero => exact absurd HA.out (by simp [p_Order.j1])
    | succ kj17 =>
     have H := HA.out
     clear HA
     simp only [p_Order.j1] at H
     by_cases c30 : x22_17 = true
     ·subst c30
      rw [if_pos rfl] at H
      obtain ⟨⟨t692, t693⟩, A31, H⟩ := bd H
      simp only [Option.some.injEq, Prod.mk.injEq] at H
      obtain ⟨rfl, rfl, rfl⟩ := H
      have hnb32 := NB686_687.out
      have hnc32 := NB687_686.out
      have hz33_1 := bz BK686
      have hz34_2 := bz BK687
      go_wp2_with (first | (refine gl (some 26) Tryz.func27 #[.agg #[.int .i64 a0_0, .bool a0_1, .bool a0_2, .slice A0_3 l0_3.length c0_3, .int .u64 a0_4, .string a0_5, .slice A0_6 l0_6.length c0_6], .agg #[.int .i64 a1_0, .bool a1_1, .bool a1_2, .slice A1_3 l1_3.length c1_3, .int .u64 a1_4, .string a1_5, .slice A1_6 l1_6.length c1_6]] ?_; (with_reducible refine (p_order.calls kj17 a0_0 a0_1 a0_2 _ _ l0_3 a0_4 a0_5 _ _ l0_6 a1_0 a1_1 a1_2 _ _ l1_3 a1_4 a1_5 _ _ l1_6 t692 t693 _ (ck HR0_3 HB) HC0_3.out (ck HR0_6 HB) HC0_6.out (ck HR1_3 HB) HC1_3.out (ck HR1_6 HB) HC1_6.out A31.out).mono ?_); rintro e w35 ⟨rfl, hb⟩; refine ⟨_, rfl, ?_⟩; replace BK686 := kb BK686 hb; replace BK687 := kb BK687 hb; replace HB := bs HB hb))
      go_ret3
      exact ⟨fe, bls HB⟩
     replace c30 := Bool.eq_false_iff.mpr c30
     subst c30
     rw [if_neg Bool.false_ne_true] at H
     by_cases c36 : a0_0 = 4
     case neg =>
      rw [if_neg c36] at H
      have c36b0 := beq_eq_false_iff_ne.mpr c36
      have c36b1 := bne_iff_ne.mpr c36
      simp only [Option.some.injEq, Prod.mk.injEq] at H
      obtain ⟨rfl, rfl, rfl⟩ := H
      have hnb45 := NB686_687.out
      have hnc45 := NB687_686.out
      have hz46_1 := bz BK686
      go_wp2
      go_ret3
      exact ⟨fe, bls HB⟩
     rw [if_pos c36] at H
     have c36b0 := beq_iff_eq.mpr c36
     have c36b1 := bne_eq_false_iff_eq.mpr c36
     clear c36
     by_cases c37 : a1_0 = 4
     case neg =>
      rw [if_neg c37] at H
      have c37b0 := beq_eq_false_iff_ne.mpr c37
      have c37b1 := bne_iff_ne.mpr c37
      simp only [Option.some.injEq, Prod.mk.injEq] at H
      obtain ⟨rfl, rfl, rfl⟩ := H
      have hnb42 := NB686_687.out
      have hnc42 := NB687_686.out
      have hz43_1 := bz BK686
      have hz44_2 := bz BK687
      go_wp2
      go_ret3
      exact ⟨fe, bls HB⟩
     rw [if_pos c37] at H
     have c37b0 := beq_iff_eq.mpr c37
     have c37b1 := bne_eq_false_iff_eq.mpr c37
     clear c37
     obtain ⟨t694, A38, H⟩ := bd H
     simp only [Option.some.injEq, Prod.mk.injEq] at H
     obtain ⟨rfl, rfl, rfl⟩ := H
     have hnb39 := NB686_687.out
     have hnc39 := NB687_686.out
     have hz40_1 := bz BK686
     have hz41_2 := bz BK687
     go_wp2_with (first | (refine gl (some 43) Tryz.func28 #[.string a0_5, .string a1_5] ?_; (with_reducible refine (strings_Compare.calls a0_5 a1_5 t694 _ A38.out).mono ?_); rintro e w' ⟨rfl, ⟨nd, rfl⟩⟩; refine ⟨_, rfl, ?_⟩))
     go_ret3
     exact ⟨fe, bls HB⟩
def e_Neg.f (a0 : Int) : Option (Int) := (e_bare.f (Op.negFloat .f64 (Int.toNat a0))).bind fun t500 => (some t500)
theorem e_Neg.calls (a0 r : Int) (w : World) (h : e_Neg.f a0 = some r) :
  Calls Tryz.prog 30 #[.int .u64 a0] w fun e w' => e = .returned (.int .u64 r) ∧ Drawn0 w w' := by
 have H := h
 unfold e_Neg.f at H
 clear h
 obtain ⟨t500, A2, H⟩ := bd H
 obtain rfl := Option.some.inj H
 go_enter Tryz.func30, Tryz.ntmps30
 go_wp2_with (first | (refine gl (some 6) Tryz.func52 #[.float .f64 (Op.negFloat .f64 (Int.toNat a0))] ?_; (with_reducible refine (e_bare.calls (Op.negFloat .f64 (Int.toNat a0)) t500 _ A2.out).mono ?_); rintro e w' ⟨rfl, ⟨nd, rfl⟩⟩; refine ⟨_, rfl, ?_⟩))
 go_ret
 exact ⟨by first | rfl | (simp; done) | (simp [*]; done), by repeat (first | exact Drawn0.refl _ | apply Drawn0.step)⟩
def p_Same.j0 : Nat → Bool → Int → Bool → Bool → List Int → Int → ByteArray → List (S28) → Int → Bool → Bool → List Int → Int → ByteArray → List (S28) → Option (Bool)
 | 0, _, _, _, _, _, _, _, _, _, _, _, _, _, _, _ => none
 | k + 1, x19, x705000, x705001, x705002, x705003, x705004, x705005, x705006, x706000, x706001, x706002, x706003, x706004, x706005, x706006 => if x19 = true then (some false) else (if x705000 = 2 then ((o_Cmp.f k x705002 x705003 x706002 x706003).bind fun t708 => (some (t708 == 0))) else (if x705000 = 3 then ((e_Neg.f x705004).bind fun t709 => ((e_Neg.f x706004).bind fun t710 => (some (t709 == t710)))) else (if (x705001 == x706001) = true then (some (x705005.toList == x706005.toList)) else (some false))))
def p_Same.f (k : Nat) (a0_0 : Int) (a0_1 a0_2 : Bool) (l0_3 : List Int) (a0_4 : Int) (a0_5 : ByteArray) (l0_6 : List (S28)) (a1_0 : Int) (a1_1 a1_2 : Bool) (l1_3 : List Int) (a1_4 : Int) (a1_5 : ByteArray) (l1_6 : List (S28)) : Option (Bool) := (p_Good.f k a0_0 a0_1 a0_2 l0_3 a0_4 a0_5 l0_6).bind fun t706 => (if t706 = true then ((p_Good.f k a1_0 a1_1 a1_2 l1_3 a1_4 a1_5 l1_6).bind fun t707 => (if t707 = true then (p_Same.j0 k (a0_0 != a1_0) a0_0 a0_1 a0_2 l0_3 a0_4 a0_5 l0_6 a1_0 a1_1 a1_2 l1_3 a1_4 a1_5 l1_6) else (p_Same.j0 k true a0_0 a0_1 a0_2 l0_3 a0_4 a0_5 l0_6 a1_0 a1_1 a1_2 l1_3 a1_4 a1_5 l1_6))) else (p_Same.j0 k true a0_0 a0_1 a0_2 l0_3 a0_4 a0_5 l0_6 a1_0 a1_1 a1_2 l1_3 a1_4 a1_5 l1_6))
theorem p_Same.calls (k : Nat) (a0_0 : Int) (a0_1 a0_2 : Bool) (A0_3 : Option Addr) (c0_3 : Nat) (l0_3 : List Int) (a0_4 : Int) (a0_5 : ByteArray) (A0_6 : Option Addr) (c0_6 : Nat) (l0_6 : List (S28)) (a1_0 : Int) (a1_1 a1_2 : Bool) (A1_3 : Option Addr) (c1_3 : Nat) (l1_3 : List Int) (a1_4 : Int) (a1_5 : ByteArray) (A1_6 : Option Addr) (c1_6 : Nat) (l1_6 : List (S28)) (r : Bool) (w : World) (hr0_3 : Kd.C (Kd.int .u64) w A0_3 l0_3.length l0_3) (hc0_3 : l0_3.length ≤ c0_3) (hr0_6 : Kd.C k28 w A0_6 l0_6.length l0_6) (hc0_6 : l0_6.length ≤ c0_6) (hr1_3 : Kd.C (Kd.int .u64) w A1_3 l1_3.length l1_3) (hc1_3 : l1_3.length ≤ c1_3) (hr1_6 : Kd.C k28 w A1_6 l1_6.length l1_6) (hc1_6 : l1_6.length ≤ c1_6) (h : p_Same.f k a0_0 a0_1 a0_2 l0_3 a0_4 a0_5 l0_6 a1_0 a1_1 a1_2 l1_3 a1_4 a1_5 l1_6 = some r) :
  Calls Tryz.prog 9 #[.agg #[.int .i64 a0_0, .bool a0_1, .bool a0_2, .slice A0_3 l0_3.length c0_3, .int .u64 a0_4, .string a0_5, .slice A0_6 l0_6.length c0_6], .agg #[.int .i64 a1_0, .bool a1_1, .bool a1_2, .slice A1_3 l1_3.length c1_3, .int .u64 a1_4, .string a1_5, .slice A1_6 l1_6.length c1_6]] w fun e w' => e = .returned (.bool r) ∧ Below w.heap.size w w' := by
 have hu28 := Tryz.underlying28
 have hu24 := Tryz.underlying24
 have HR0_3 := Az hr0_3
 have HC0_3 := Az hc0_3
 clear hr0_3 hc0_3
 have HR0_6 := Az hr0_6
 have HC0_6 := Az hc0_6
 clear hr0_6 hc0_6
 have HR1_3 := Az hr1_3
 have HC1_3 := Az hc1_3
 clear hr1_3 hc1_3
 have HR1_6 := Az hr1_6
 have HC1_6 := Az hc1_6
 clear hr1_6 hc1_6
 have HB := Az (Below.refl w.heap.size w)
 have H := h
 unfold p_Same.f at H
 clear h
 have HC3 := Az H
 clear H
 go_enter Tryz.func9, Tryz.ntmps9
 go_upto_region 1 with (first | (refine be 2 #[.int .i64 a0_0, .bool a0_1, .bool a0_2, .slice A0_3 l0_3.length c0_3, .int .u64 a0_4, .string a0_5, .slice A0_6 l0_6.length c0_6] 28 ?_; intro gb704 hg w4 hbox hb; have BK704 := Az (hbox); have GW704 := gw (bl HB) hg; have GE704 := gw (bl HB) hg; replace HB := bs HB hb; clear hb hbox hg) | (refine be 3 #[.int .i64 a1_0, .bool a1_1, .bool a1_2, .slice A1_3 l1_3.length c1_3, .int .u64 a1_4, .string a1_5, .slice A1_6 l1_6.length c1_6] 28 ?_; intro gb705 hg w5 hbox hb; have BK705 := Az (hbox); have GW705 := gw (bls HB) hg; have GE705 := gw (bls HB) hg; replace HB := bs HB hb; have NB704_705 := nl BK704 hg; have NB705_704 := ng BK704 hg; replace BK704 := kb BK704 hb; clear hb hbox hg))
 repeat (go_quiet (first | (refine be 2 #[.int .i64 a0_0, .bool a0_1, .bool a0_2, .slice A0_3 l0_3.length c0_3, .int .u64 a0_4, .string a0_5, .slice A0_6 l0_6.length c0_6] 28 ?_; intro gb704 hg w4 hbox hb; have BK704 := Az (hbox); have GW704 := gw (bl HB) hg; have GE704 := gw (bl HB) hg; replace HB := bs HB hb; clear hb hbox hg) | (refine be 3 #[.int .i64 a1_0, .bool a1_1, .bool a1_2, .slice A1_3 l1_3.length c1_3, .int .u64 a1_4, .string a1_5, .slice A1_6 l1_6.length c1_6] 28 ?_; intro gb705 hg w5 hbox hb; have BK705 := Az (hbox); have GW705 := gw (bls HB) hg; have GE705 := gw (bls HB) hg; replace HB := bs HB hb; have NB704_705 := nl BK704 hg; have NB705_704 := ng BK704 hg; replace BK704 := kb BK704 hb; clear hb hbox hg)); go_upto_region 1 with (first | (refine be 2 #[.int .i64 a0_0, .bool a0_1, .bool a0_2, .slice A0_3 l0_3.length c0_3, .int .u64 a0_4, .string a0_5, .slice A0_6 l0_6.length c0_6] 28 ?_; intro gb704 hg w4 hbox hb; have BK704 := Az (hbox); have GW704 := gw (bl HB) hg; have GE704 := gw (bl HB) hg; replace HB := bs HB hb; clear hb hbox hg) | (refine be 3 #[.int .i64 a1_0, .bool a1_1, .bool a1_2, .slice A1_3 l1_3.length c1_3, .int .u64 a1_4, .string a1_5, .slice A1_6 l1_6.length c1_6] 28 ?_; intro gb705 hg w5 hbox hb; have BK705 := Az (hbox); have GW705 := gw (bls HB) hg; have GE705 := gw (bls HB) hg; replace HB := bs HB hb; have NB704_705 := nl BK704 hg; have NB705_704 := ng BK704 hg; replace BK704 := kb BK704 hb; clear hb hbox hg)))
 go_cut [19] (fun v19 wc => ∃ (kq : Nat) (x19_2 : Bool), v19 = .bool x19_2 ∧ Aside0 (p_Same.j0 kq x19_2 a0_0 a0_1 a0_2 l0_3 a0_4 a0_5 l0_6 a1_0 a1_1 a1_2 l1_3 a1_4 a1_5 l1_6 = some r) ∧ Aside0 (kq ≤ k) ∧ Aside0 (wc.heap[gb704]? = some (.cells #[.int .i64 a0_0, .bool a0_1, .bool a0_2, (.slice A0_3 l0_3.length c0_3), .int .u64 a0_4, .string a0_5, (.slice A0_6 l0_6.length c0_6)] 28 (0, 0))) ∧ Aside0 (wc.heap[gb705]? = some (.cells #[.int .i64 a1_0, .bool a1_1, .bool a1_2, (.slice A1_3 l1_3.length c1_3), .int .u64 a1_4, .string a1_5, (.slice A1_6 l1_6.length c1_6)] 28 (0, 0))) ∧ Aside0 (Below w.heap.size w wc))
 case first =>
  have H := HC3.out
  clear HC3
  obtain ⟨t706, A6, H⟩ := bd H
  by_cases c7 : t706 = true
  case neg =>
   replace c7 := Bool.eq_false_iff.mpr c7
   subst c7
   rw [if_neg Bool.false_ne_true] at H
   have H' := Az H
   clear H
   have hnb22 := NB704_705.out
   have hnc22 := NB705_704.out
   have hz23_1 := bz BK704
   go_wp2_with (first | (go_at_call 25; (with_reducible refine (p_Good.calls k a0_0 a0_1 a0_2 _ _ l0_3 a0_4 a0_5 _ _ l0_6 false _ (ck HR0_3 HB) HC0_3.out (ck HR0_6 HB) HC0_6.out A6.out).mono ?_); rintro e w24 ⟨rfl, hb⟩; replace BK704 := kb BK704 hb; replace BK705 := kb BK705 hb; replace HB := bs HB hb))
   go_meet
   case rel => exact ⟨_, (true), rs, H', ⟨le0⟩, ⟨bk BK704⟩, ⟨bk BK705⟩, ⟨bls HB⟩⟩
  subst c7
  rw [if_pos rfl] at H
  obtain ⟨t707, A8, H⟩ := bd H
  by_cases c9 : t707 = true
  ·subst c9
   rw [if_pos rfl] at H
   have H' := Az H
   clear H
   have hnb10 := NB704_705.out
   have hnc10 := NB705_704.out
   have hz11_1 := bz BK704
   go_wp2_with (first | (go_at_call 25; (with_reducible refine (p_Good.calls k a0_0 a0_1 a0_2 _ _ l0_3 a0_4 a0_5 _ _ l0_6 true _ (ck HR0_3 HB) HC0_3.out (ck HR0_6 HB) HC0_6.out A6.out).mono ?_); rintro e w12 ⟨rfl, hb⟩; replace BK704 := kb BK704 hb; replace BK705 := kb BK705 hb; replace HB := bs HB hb; have hz13_1 := bz BK705) | (go_at_call 25; (with_reducible refine (p_Good.calls k a1_0 a1_1 a1_2 _ _ l1_3 a1_4 a1_5 _ _ l1_6 true _ (ck HR1_3 HB) HC1_3.out (ck HR1_6 HB) HC1_6.out A8.out).mono ?_); rintro e w14 ⟨rfl, hb⟩; replace BK704 := kb BK704 hb; replace BK705 := kb BK705 hb; replace HB := bs HB hb; have hz15_1 := bz BK704; have hz16_2 := bz BK705))
   go_meet
   case rel => exact ⟨_, ((a0_0 != a1_0)), rs, H', ⟨le0⟩, ⟨bk BK704⟩, ⟨bk BK705⟩, ⟨bls HB⟩⟩
  replace c9 := Bool.eq_false_iff.mpr c9
  subst c9
  rw [if_neg Bool.false_ne_true] at H
  have H' := Az H
  clear H
  have hnb17 := NB704_705.out
  have hnc17 := NB705_704.out
  have hz18_1 := bz BK704
  go_wp2_with (first | (go_at_call 25; (with_reducible refine (p_Good.calls k a0_0 a0_1 a0_2 _ _ l0_3 a0_4 a0_5 _ _ l0_6 true _ (ck HR0_3 HB) HC0_3.out (ck HR0_6 HB) HC0_6.out A6.out).mono ?_); rintro e w19 ⟨rfl, hb⟩; replace BK704 := kb BK704 hb; replace BK705 := kb BK705 hb; replace HB := bs HB hb; have hz20_1 := bz BK705) | (go_at_call 25; (with_reducible refine (p_Good.calls k a1_0 a1_1 a1_2 _ _ l1_3 a1_4 a1_5 _ _ l1_6 false _ (ck HR1_3 HB) HC1_3.out (ck HR1_6 HB) HC1_6.out A8.out).mono ?_); rintro e w21 ⟨rfl, hb⟩; replace BK704 := kb BK704 hb; replace BK705 := kb BK705 hb; replace HB := bs HB hb))
  go_meet
  case rel => exact ⟨_, (true), rs, H', ⟨le0⟩, ⟨bk BK704⟩, ⟨bk BK705⟩, ⟨bls HB⟩⟩
 case rest =>
  clear HC3
  obtain ⟨kq, x19_2, rfl, HA, HJ2, BK704, BK705, HB⟩ := hcut
  cases kq with
  | zero => exact absurd HA.out (by simp [p_Same.j0])
  | succ kj2 =>
   have H := HA.out
   clear HA
   simp only [p_Same.j0] at H
   by_cases c25 : x19_2 = true
   ·subst c25
    rw [if_pos rfl] at H
    obtain rfl := Option.some.inj H
    go_wp2
    repeat (go_quiet (fail); try go_wp2)
    go_ret
    exact ⟨fe, bls HB⟩
   replace c25 := Bool.eq_false_iff.mpr c25
   subst c25
   rw [if_neg Bool.false_ne_true] at H
   by_cases c26 : a0_0 = 2
   ·rw [if_pos c26] at H
    have c26b0 := beq_iff_eq.mpr c26
    have c26b1 := bne_eq_false_iff_eq.mpr c26
    clear c26
    obtain ⟨t708, A27, H⟩ := bd H
    obtain rfl := Option.some.inj H
    have hnb28 := NB704_705.out
    have hnc28 := NB705_704.out
    have hz29_1 := bz BK704
    have hz30_2 := bz BK705
    go_wp2_with (first | (go_at_call 29; (with_reducible refine (o_Cmp.calls kj2 a0_2 _ _ l0_3 a1_2 _ _ l1_3 t708 _ (ck HR0_3 HB) HC0_3.out (ck HR1_3 HB) HC1_3.out A27.out).mono ?_); rintro e w31 ⟨rfl, hb⟩; replace BK704 := kb BK704 hb; replace BK705 := kb BK705 hb; replace HB := bs HB hb))
    go_ret
    exact ⟨fe, bls HB⟩
   rw [if_neg c26] at H
   have c26b0 := beq_eq_false_iff_ne.mpr c26
   have c26b1 := bne_iff_ne.mpr c26
   by_cases c32 : a0_0 = 3
   ·rw [if_pos c32] at H
    have c32b0 := beq_iff_eq.mpr c32
    have c32b1 := bne_eq_false_iff_eq.mpr c32
    clear c32
    obtain ⟨t709, A33, H⟩ := bd H
    obtain ⟨t710, A34, H⟩ := bd H
    obtain rfl := Option.some.inj H
    have hnb35 := NB704_705.out
    have hnc35 := NB705_704.out
    have hz36_1 := bz BK704
    go_wp2_with (first | (go_at_call 30; (with_reducible refine (e_Neg.calls a0_4 t709 _ A33.out).mono ?_); rintro e w' ⟨rfl, ⟨nd, rfl⟩⟩; have hz37_1 := bz BK705) | (go_at_call 30; (with_reducible refine (e_Neg.calls a1_4 t710 _ A34.out).mono ?_); rintro e w' ⟨rfl, ⟨nd, rfl⟩⟩; (try first | exact ⟨rfl, _, World.drewN_drewN _ _ _⟩ | exact ⟨rfl, _, Eq.trans (World.drewN_drewN _ _ _) (congrArg (World.drewN _) (Nat.add_assoc _ _ _))⟩)))
    repeat (go_quiet (first | (go_at_call 30; (with_reducible refine (e_Neg.calls a0_4 t709 _ A33.out).mono ?_); rintro e w' ⟨rfl, ⟨nd, rfl⟩⟩; (try first | exact ⟨rfl, _, World.drewN_drewN _ _ _⟩ | exact ⟨rfl, _, Eq.trans (World.drewN_drewN _ _ _) (congrArg (World.drewN _) (Nat.add_assoc _ _ _))⟩); have hz37_1 := bz BK705) | (go_at_call 30; (with_reducible refine (e_Neg.calls a1_4 t710 _ A34.out).mono ?_); rintro e w' ⟨rfl, ⟨nd, rfl⟩⟩; (try first | exact ⟨rfl, _, World.drewN_drewN _ _ _⟩ | exact ⟨rfl, _, Eq.trans (World.drewN_drewN _ _ _) (congrArg (World.drewN _) (Nat.add_assoc _ _ _))⟩))); try go_wp2_with (first | (go_at_call 30; (with_reducible refine (e_Neg.calls a0_4 t709 _ A33.out).mono ?_); rintro e w' ⟨rfl, ⟨nd, rfl⟩⟩; (try first | exact ⟨rfl, _, World.drewN_drewN _ _ _⟩ | exact ⟨rfl, _, Eq.trans (World.drewN_drewN _ _ _) (congrArg (World.drewN _) (Nat.add_assoc _ _ _))⟩); have hz37_1 := bz BK705) | (go_at_call 30; (with_reducible refine (e_Neg.calls a1_4 t710 _ A34.out).mono ?_); rintro e w' ⟨rfl, ⟨nd, rfl⟩⟩; (try first | exact ⟨rfl, _, World.drewN_drewN _ _ _⟩ | exact ⟨rfl, _, Eq.trans (World.drewN_drewN _ _ _) (congrArg (World.drewN _) (Nat.add_assoc _ _ _))⟩))))
    go_ret
    exact ⟨fe, bls HB⟩
   rw [if_neg c32] at H
   have c32b0 := beq_eq_false_iff_ne.mpr c32
   have c32b1 := bne_iff_ne.mpr c32
   by_cases c38 : (a0_1 == a1_1) = true
   ·rw [if_pos c38] at H
    have c38b0 : (a0_1 == a1_1) = true := c38
    clear c38
    obtain rfl := Option.some.inj H
    have hnb39 := NB704_705.out
    have hnc39 := NB705_704.out
    have hz40_1 := bz BK704
    have hz41_2 := bz BK705
    go_wp2
    repeat (go_quiet (fail); try go_wp2)
    go_ret
    exact ⟨fe, bls HB⟩
   rw [if_neg c38] at H
   have c38b0 : (a0_1 == a1_1) = false := by simpa using c38
   clear c38
   obtain rfl := Option.some.inj H
   have hnb42 := NB704_705.out
   have hnc42 := NB705_704.out
   have hz43_1 := bz BK704
   have hz44_2 := bz BK705
   go_wp2
   repeat (go_quiet (fail); try go_wp2)
   go_ret
   exact ⟨fe, bls HB⟩
def p_Truth.f (k : Nat) (a0_0 : Int) (a0_1 a0_2 : Bool) (l0_3 : List Int) (a0_4 : Int) (a0_5 : ByteArray) (l0_6 : List (S28)) : Option (Bool) := (p_Good.f k a0_0 a0_1 a0_2 l0_3 a0_4 a0_5 l0_6).bind fun t917 => (if t917 = true then (if a0_0 = 1 then (some a0_1) else (if a0_0 = 2 then (some (decide (0 < l0_3.length))) else (if a0_0 = 3 then (some ((IntKind.u64.wrap (a0_4 * 2)) != 0)) else (some (a0_5.toList != ([] : List UInt8)))))) else (some false))
theorem p_Truth.calls (k : Nat) (a0_0 : Int) (a0_1 a0_2 : Bool) (A0_3 : Option Addr) (c0_3 : Nat) (l0_3 : List Int) (a0_4 : Int) (a0_5 : ByteArray) (A0_6 : Option Addr) (c0_6 : Nat) (l0_6 : List (S28)) (r : Bool) (w : World) (hr0_3 : Kd.C (Kd.int .u64) w A0_3 l0_3.length l0_3) (hc0_3 : l0_3.length ≤ c0_3) (hr0_6 : Kd.C k28 w A0_6 l0_6.length l0_6) (hc0_6 : l0_6.length ≤ c0_6) (h : p_Truth.f k a0_0 a0_1 a0_2 l0_3 a0_4 a0_5 l0_6 = some r) :
  Calls Tryz.prog 14 #[.agg #[.int .i64 a0_0, .bool a0_1, .bool a0_2, .slice A0_3 l0_3.length c0_3, .int .u64 a0_4, .string a0_5, .slice A0_6 l0_6.length c0_6]] w fun e w' => e = .returned (.bool r) ∧ Below w.heap.size w w' := by
 have hu28 := Tryz.underlying28
 have HR0_3 := Az hr0_3
 have HC0_3 := Az hc0_3
 clear hr0_3 hc0_3
 have HR0_6 := Az hr0_6
 have HC0_6 := Az hc0_6
 clear hr0_6 hc0_6
 have HB := Az (Below.refl w.heap.size w)
 have H := h
 unfold p_Truth.f at H
 clear h
 obtain ⟨t917, A2, H⟩ := bd H
 by_cases c3 : t917 = true
 ·subst c3
  rw [if_pos rfl] at H
  by_cases c4 : a0_0 = 1
  ·rw [if_pos c4] at H
   have c4b0 := beq_iff_eq.mpr c4
   have c4b1 := bne_eq_false_iff_eq.mpr c4
   clear c4
   obtain rfl := Option.some.inj H
   go_enter Tryz.func14, Tryz.ntmps14
   go_wp2_with (first | (refine be 1 #[.int .i64 a0_0, .bool a0_1, .bool a0_2, .slice A0_3 l0_3.length c0_3, .int .u64 a0_4, .string a0_5, .slice A0_6 l0_6.length c0_6] 28 ?_; intro gb916 hg w5 hbox hb; have BK916 := Az (hbox); have GW916 := gw (bl HB) hg; have GE916 := gw (bl HB) hg; replace HB := bs HB hb; clear hb hbox hg; have hz6_1 := bz BK916) | (refine gl (some 4) Tryz.func25 #[.agg #[.int .i64 a0_0, .bool a0_1, .bool a0_2, .slice A0_3 l0_3.length c0_3, .int .u64 a0_4, .string a0_5, .slice A0_6 l0_6.length c0_6]] ?_; (with_reducible refine (p_Good.calls k a0_0 a0_1 a0_2 _ _ l0_3 a0_4 a0_5 _ _ l0_6 true _ (ck HR0_3 HB) HC0_3.out (ck HR0_6 HB) HC0_6.out A2.out).mono ?_); rintro e w7 ⟨rfl, hb⟩; refine ⟨_, rfl, ?_⟩; replace BK916 := kb BK916 hb; replace HB := bs HB hb; (try clear hb); have hz8_1 := bz BK916))
   go_ret
   exact ⟨fe, bls HB⟩
  ·rw [if_neg c4] at H
   have c4b0 := beq_eq_false_iff_ne.mpr c4
   have c4b1 := bne_iff_ne.mpr c4
   by_cases c9 : a0_0 = 2
   ·rw [if_pos c9] at H
    have c9b0 := beq_iff_eq.mpr c9
    have c9b1 := bne_eq_false_iff_eq.mpr c9
    clear c9
    obtain rfl := Option.some.inj H
    go_enter Tryz.func14, Tryz.ntmps14
    go_wp2_with (first | (refine be 1 #[.int .i64 a0_0, .bool a0_1, .bool a0_2, .slice A0_3 l0_3.length c0_3, .int .u64 a0_4, .string a0_5, .slice A0_6 l0_6.length c0_6] 28 ?_; intro gb916 hg w10 hbox hb; have BK916 := Az (hbox); have GW916 := gw (bl HB) hg; have GE916 := gw (bl HB) hg; replace HB := bs HB hb; clear hb hbox hg; have hz11_1 := bz BK916) | (refine gl (some 4) Tryz.func25 #[.agg #[.int .i64 a0_0, .bool a0_1, .bool a0_2, .slice A0_3 l0_3.length c0_3, .int .u64 a0_4, .string a0_5, .slice A0_6 l0_6.length c0_6]] ?_; (with_reducible refine (p_Good.calls k a0_0 a0_1 a0_2 _ _ l0_3 a0_4 a0_5 _ _ l0_6 true _ (ck HR0_3 HB) HC0_3.out (ck HR0_6 HB) HC0_6.out A2.out).mono ?_); rintro e w12 ⟨rfl, hb⟩; refine ⟨_, rfl, ?_⟩; replace BK916 := kb BK916 hb; replace HB := bs HB hb; (try clear hb); have hz13_1 := bz BK916))
    go_ret
    exact ⟨fe, bls HB⟩
   ·rw [if_neg c9] at H
    have c9b0 := beq_eq_false_iff_ne.mpr c9
    have c9b1 := bne_iff_ne.mpr c9
    by_cases c14 : a0_0 = 3
    ·rw [if_pos c14] at H
     have c14b0 := beq_iff_eq.mpr c14
     have c14b1 := bne_eq_false_iff_eq.mpr c14
     clear c14
     obtain rfl := Option.some.inj H
     go_enter Tryz.func14, Tryz.ntmps14
     go_wp2_with (first | (refine be 1 #[.int .i64 a0_0, .bool a0_1, .bool a0_2, .slice A0_3 l0_3.length c0_3, .int .u64 a0_4, .string a0_5, .slice A0_6 l0_6.length c0_6] 28 ?_; intro gb916 hg w15 hbox hb; have BK916 := Az (hbox); have GW916 := gw (bl HB) hg; have GE916 := gw (bl HB) hg; replace HB := bs HB hb; clear hb hbox hg; have hz16_1 := bz BK916) | (refine gl (some 4) Tryz.func25 #[.agg #[.int .i64 a0_0, .bool a0_1, .bool a0_2, .slice A0_3 l0_3.length c0_3, .int .u64 a0_4, .string a0_5, .slice A0_6 l0_6.length c0_6]] ?_; (with_reducible refine (p_Good.calls k a0_0 a0_1 a0_2 _ _ l0_3 a0_4 a0_5 _ _ l0_6 true _ (ck HR0_3 HB) HC0_3.out (ck HR0_6 HB) HC0_6.out A2.out).mono ?_); rintro e w17 ⟨rfl, hb⟩; refine ⟨_, rfl, ?_⟩; replace BK916 := kb BK916 hb; replace HB := bs HB hb; (try clear hb); have hz18_1 := bz BK916))
     go_ret
     exact ⟨fe, bls HB⟩
    ·rw [if_neg c14] at H
     have c14b0 := beq_eq_false_iff_ne.mpr c14
     have c14b1 := bne_iff_ne.mpr c14
     obtain rfl := Option.some.inj H
     go_enter Tryz.func14, Tryz.ntmps14
     go_wp2_with (first | (refine be 1 #[.int .i64 a0_0, .bool a0_1, .bool a0_2, .slice A0_3 l0_3.length c0_3, .int .u64 a0_4, .string a0_5, .slice A0_6 l0_6.length c0_6] 28 ?_; intro gb916 hg w19 hbox hb; have BK916 := Az (hbox); have GW916 := gw (bl HB) hg; have GE916 := gw (bl HB) hg; replace HB := bs HB hb; clear hb hbox hg; have hz20_1 := bz BK916) | (refine gl (some 4) Tryz.func25 #[.agg #[.int .i64 a0_0, .bool a0_1, .bool a0_2, .slice A0_3 l0_3.length c0_3, .int .u64 a0_4, .string a0_5, .slice A0_6 l0_6.length c0_6]] ?_; (with_reducible refine (p_Good.calls k a0_0 a0_1 a0_2 _ _ l0_3 a0_4 a0_5 _ _ l0_6 true _ (ck HR0_3 HB) HC0_3.out (ck HR0_6 HB) HC0_6.out A2.out).mono ?_); rintro e w21 ⟨rfl, hb⟩; refine ⟨_, rfl, ?_⟩; replace BK916 := kb BK916 hb; replace HB := bs HB hb; (try clear hb); have hz22_1 := bz BK916))
     go_ret
     exact ⟨fe, bls HB⟩
 ·replace c3 := Bool.eq_false_iff.mpr c3
  subst c3
  rw [if_neg Bool.false_ne_true] at H
  obtain rfl := Option.some.inj H
  go_enter Tryz.func14, Tryz.ntmps14
  go_wp2_with (first | (refine be 1 #[.int .i64 a0_0, .bool a0_1, .bool a0_2, .slice A0_3 l0_3.length c0_3, .int .u64 a0_4, .string a0_5, .slice A0_6 l0_6.length c0_6] 28 ?_; intro gb916 hg w23 hbox hb; have BK916 := Az (hbox); have GW916 := gw (bl HB) hg; have GE916 := gw (bl HB) hg; replace HB := bs HB hb; clear hb hbox hg; have hz24_1 := bz BK916) | (refine gl (some 4) Tryz.func25 #[.agg #[.int .i64 a0_0, .bool a0_1, .bool a0_2, .slice A0_3 l0_3.length c0_3, .int .u64 a0_4, .string a0_5, .slice A0_6 l0_6.length c0_6]] ?_; (with_reducible refine (p_Good.calls k a0_0 a0_1 a0_2 _ _ l0_3 a0_4 a0_5 _ _ l0_6 false _ (ck HR0_3 HB) HC0_3.out (ck HR0_6 HB) HC0_6.out A2.out).mono ?_); rintro e w25 ⟨rfl, hb⟩; refine ⟨_, rfl, ?_⟩; replace BK916 := kb BK916 hb; replace HB := bs HB hb; (try clear hb)))
  go_ret
  exact ⟨fe, bls HB⟩
def r3_IsNaN.f (a0 : Int) : Option (Bool) := some (decide ((Go.bits .and .u64 a0 9223372036854775807) > 9218868437227405312))
theorem r3_IsNaN.calls (a0 : Int) (r : Bool) (w : World) (h : r3_IsNaN.f a0 = some r) :
  Calls Tryz.prog 16 #[.int .u64 a0] w fun e w' => e = .returned (.bool r) ∧ Drawn0 w w' := by
 have H := h
 unfold r3_IsNaN.f at H
 clear h
 obtain rfl := Option.some.inj H
 go_enter Tryz.func16, Tryz.ntmps16
 go_wp2
 go_ret
 exact ⟨by first | rfl | (simp; done) | (simp [*]; done), by repeat (first | exact Drawn0.refl _ | apply Drawn0.step)⟩
def o_more.l0 : Nat → List Int → List Int → List Int → Int → Int → Int → Option (List Int)
 | 0, _, _, _, _, _, _ => none
 | k + 1, x0, x1, x5, x6, x21, x22 => if x22 < x21 then (if 0 ≤ x22 then (if x22 < (x0.length : Int) then (if x22 < (x1.length : Int) then (if x22 < (x5.length : Int) then (o_more.l0 k x0 x1 (x5.set (x22 : Int).toNat (Int.tmod (IntKind.u64.wrap ((IntKind.u64.wrap ((rd x0 x22) + x6)) + (rd x1 x22))) 1000000000000000000)) (IntKind.u64.wrap (Int.tdiv (IntKind.u64.wrap ((IntKind.u64.wrap ((rd x0 x22) + x6)) + (rd x1 x22))) 1000000000000000000)) x21 (wrap64 (x22 + 1))) else (none)) else (if x22 < (x5.length : Int) then (o_more.l0 k x0 x1 (x5.set (x22 : Int).toNat (Int.tmod (IntKind.u64.wrap ((rd x0 x22) + x6)) 1000000000000000000)) (IntKind.u64.wrap (Int.tdiv (IntKind.u64.wrap ((rd x0 x22) + x6)) 1000000000000000000)) x21 (wrap64 (x22 + 1))) else (none))) else (none)) else (none)) else (if 0 ≤ (x0.length : Int) then (if (x0.length : Int) < (x5.length : Int) then (some (x5.set ((x0.length : Int) : Int).toNat x6)) else (none)) else (none))
def o_more.f (k : Nat) (l0 l1 : List Int) : Option (List Int) := if (l0.length : Int) < (l1.length : Int) then (none) else (if 0 ≤ (wrap64 ((l0.length : Int) + 1)) then (if (wrap64 ((l0.length : Int) + 1) : Int).toNat ≤ 35184372088832 then (o_more.l0 k l0 l1 (List.replicate (wrap64 ((l0.length : Int) + 1) : Int).toNat 0) 0 (l0.length : Int) 0) else (none)) else (none))
theorem o_more.mono_l : ∀ k, (∀ y0 y1 y2 y3 y4 y5, LeO (o_more.l0 k y0 y1 y2 y3 y4 y5) (o_more.l0 (k + 1) y0 y1 y2 y3 y4 y5))
 | 0 => fun _ _ _ _ _ _ r h => by simp [o_more.l0] at h
 | k + 1 => by
  have ih0 := o_more.mono_l k
  ·intro y0 y1 y2 y3 y4 y5
   unfold o_more.l0
   repeat' first
   | exact ih0 _ _ _ _ _ _
   | exact LeO.refl _
   | exact LeO.none _
   | refine LeO.ite ?_ ?_
   | refine LeO.bind ?_ (fun _ => ?_)
theorem o_more.mono : ∀ a0 a1 k, LeO (o_more.f k a0 a1) (o_more.f (k + 1) a0 a1) := by
 intro a0 a1 k
 have ih0 := o_more.mono_l k
 unfold o_more.f
 repeat' first
   | exact ih0 _ _ _ _ _ _
   | exact LeO.refl _
   | exact LeO.none _
   | refine LeO.ite ?_ ?_
   | refine LeO.bind ?_ (fun _ => ?_)
theorem o_more.calls (k : Nat) (A0 : Option Addr) (c0 : Nat) (l0 : List Int) (A1 : Option Addr) (c1 : Nat) (l1 r : List Int) (w : World) (hr0 : Kd.C (Kd.int .u64) w A0 l0.length l0) (hc0 : l0.length ≤ c0) (hr1 : Kd.C (Kd.int .u64) w A1 l1.length l1) (hc1 : l1.length ≤ c1) (h : o_more.f k l0 l1 = some r) :
  Calls Tryz.prog 127 #[.slice A0 l0.length c0, .slice A1 l1.length c1] w fun e w' => ∃ v0_ : Value, e = .returned (v0_) ∧ Kd.R (Kd.int .u64) 25 w' w.heap.size (fun _ => True) v0_ r ∧ Below w.heap.size w w' := by
 have HR0 := Az hr0
 have HC0 := Az hc0
 have HR1 := Az hr1
 have HC1 := Az hc1
 have HB := Az (Below.refl w.heap.size w)
 have H := h
 unfold o_more.f at H
 by_cases c3 : (l0.length : Int) < (l1.length : Int)
 ·rw [if_pos c3] at H
  exact absurd H (by simp)
 rw [if_neg c3] at H
 have c3b0 := decide_eq_false c3
 have c3b1 : decide (l0.length < l1.length) = false := decide_eq_false (fun h => c3 (Int.ofNat_lt.mpr h))
 obtain ⟨ji4, hji4⟩ : ∃ j_ : Int, (wrap64 ((l0.length : Int) + 1)) = j_ := ⟨_, rfl⟩
 replace H : (if 0 ≤ (ji4) then (if (ji4 : Int).toNat ≤ 35184372088832 then (o_more.l0 k l0 l1 (List.replicate (ji4 : Int).toNat 0) 0 (l0.length : Int) 0) else (none)) else (none)) = some r := by first | (rw [hji4] at H; exact H) | (simp only [hji4] at H ⊢; exact H)
 have hji4w : (IntKind.i64.wrap ((l0.length : Int) + 1)) = ji4 := (i64_w _).trans hji4
 by_cases c5 : 0 ≤ (ji4)
 case neg =>
  rw [if_neg c5] at H
  exact absurd H (by simp)
 rw [if_pos c5] at H
 have c5b0 := eq_true c5
 have c5b1 := decide_eq_true c5
 by_cases c6 : (ji4 : Int).toNat ≤ 35184372088832
 case neg =>
  rw [if_neg c6] at H
  exact absurd H (by simp)
 rw [if_pos c6] at H
 have c6b0 := eq_true c6
 have c6b1 := decide_eq_true c6
 obtain ⟨y203, hy203⟩ : ∃ y_ : List Int, y_ = (List.replicate (ji4 : Int).toNat 0) := ⟨_, rfl⟩
 replace H : (o_more.l0 k l0 l1 y203 0 (l0.length : Int) 0) = some r := by rw [hy203]; exact H
 have Ny203 := Az hy203
 have H' := Az H
 go_enter Tryz.func127, Tryz.ntmps127
 go_wp2_with (first | ((with_reducible refine gate_dst (N := 19) rfl ?_); refine Kd.R_make (Kd.int .u64) _ 25 rfl (N := 19) rfl 22 _ _ rfl ji4 rfl rfl Tryz.underlying22 (.int .u64 0) 8 info25 rfl (by decide) (by omega) 0 (ok := fun _ => True) (okp := fun _ => True) rfl (fun _ hk => hk) trivial (ode) (Nat.le_trans (Nat.mul_le_mul_right _ (ode : ji4.toNat ≤ 35184372088832)) (by omega)) (Below.refl _ _) (Nat.le_refl _) ?_; intro v204 w7 ho8 hb hg_ hnew_; clear hg_ hnew_; (first | rw [← Ny203.out] at ho8 | (simp only [Int.reduceToNat] at ho8; rw [← Ny203.out] at ho8)); have HO205 := Az (Kd.R_lower ho8 (below_size (bl HB))); replace HB := bs HB hb; clear hb ho8))
 go_loopg [6, 22] k (fun kq v6 v22 w' => ∃ (x5_1 : List Int) (x6_1 : Int) (x22_1 : Int), v6 = .int .u64 x6_1 ∧ v22 = .int .i64 x22_1 ∧ Aside0 (o_more.l0 kq l0 l1 x5_1 x6_1 (l0.length : Int) x22_1 = some r) ∧ Aside0 (kq ≤ k) ∧ Aside0 (Kd.R (Kd.int .u64) 25 w' w.heap.size (fun _ => True) v204 x5_1) ∧ Aside0 (Below w.heap.size w w'))
 case atStart => exact ⟨(y203), (0), (0), rs, rs, H', ⟨Nat.le_refl _⟩, ⟨rk HO205⟩, ⟨bl HB⟩⟩
 case round =>
  obtain ⟨x5_1, x6_1, x22_1, rfl, rfl, HA, HK1, HO_5, HB⟩ := hrel
  cases gk with
  | zero => exact absurd HA.out (by simp [o_more.l0])
  | succ k1 =>
   have H := HA.out
   simp only [o_more.l0] at H
   by_cases c9 : x22_1 < (l0.length : Int)
   case neg =>
    rw [if_neg c9] at H
    have c9b0 := decide_eq_false c9
    by_cases c21 : 0 ≤ (l0.length : Int)
    case neg =>
     rw [if_neg c21] at H
     exact absurd H (by simp)
    rw [if_pos c21] at H
    have c21b0 := decide_eq_true c21
    have c21b1 : decide (0 ≤ l0.length) = true := decide_eq_true (by omega)
    by_cases c22 : (l0.length : Int) < (x5_1.length : Int)
    case neg =>
     rw [if_neg c22] at H
     exact absurd H (by simp)
    rw [if_pos c22] at H
    have c22b0 := decide_eq_true c22
    have c22b1 : decide (l0.length < x5_1.length) = true := decide_eq_true (Int.ofNat_lt.mp c22)
    obtain ⟨y210, hy210⟩ : ∃ y_ : List Int, y_ = (x5_1.set ((l0.length : Int) : Int).toNat x6_1) := ⟨_, rfl⟩
    replace H : (some y210) = some r := by rw [hy210]; exact H
    have Ny210 := Az hy210
    clear hy210
    obtain rfl := Option.some.inj H
    have p23 : 0 ≤ ((l0.length : Int) : Int) := ode
    have q23 : ((l0.length : Int) : Int) < ((x5_1.length : Int) : Int) := ode
    obtain ⟨go23, co23, eo23, gb23, gl23, cl23, HG23⟩ := Kd.R_form HO_5.out (by omega)
    (first | cases eo23 | (injection eo23 with ea_ en_ ec_; (first | subst ea_ | (injection ea_ with ea_; subst ea_)); subst ec_; clear en_))
    have GB23 := Az gb23
    have GG23 := Az HG23
    clear gb23 gl23 HG23
    obtain ⟨hx23_0, hf23_0⟩ := Kd.R_celln 0 HO_5.out ((l0.length : Int) : Int) p23 q23
    (try simp only [Go.IntWalk.toNatUp] at hx23_0 hf23_0)
    replace p23 := eq_true p23
    replace q23 := eq_true q23
    have HP24 := Kd.R_putg HO_5.out ((l0.length : Int) : Int) x6_1
    go_wp2_with (first | ((with_reducible refine gate_store (t := 25) (p := 53) rfl ?_); refine store_event (t := 25) (p := 53) (v := ?vo_w25) (w1 := (wr.setCell ⟨go23, ((l0.length : Int) : Int).toNat, none⟩ (.int .u64 x6_1))) ?hg ?ho ?hn ?hr ?_; (case ho => rfl); (case hg => rfl); (case hn => rfl); (case hr => first | (go_simp; done) | (go_simp; rfl)); intro w25 hw; have hg : wr.grownBy w25 (some go23) := (by rw [hw]; exact HP24.2); have hp_ : Kd.R (Kd.int .u64) 25 w25 w.heap.size (fun _ => True) (.slice (some ⟨go23, 0, none⟩) x5_1.length co23) y210 := (by rw [hw, Ny210.out]; exact HP24.1); clear HP24; replace HO_5 := Az (hp_); replace HB := Az ((by rw [hw]; exact below_set (HB.out) GB23.out : Below w.heap.size w w25)); clear hg hw hp_))
    go_ret
    exact ⟨_, by first | rfl | (simp [errW_none, errW_some] <;> rfl) | (simp only [← hji4]; first | rfl | (simp [errW_none, errW_some] <;> rfl)) | (simp [*, errW_none, errW_some] <;> rfl), rk HO_5, bl HB⟩
   rw [if_pos c9] at H
   have c9b0 := decide_eq_true c9
   by_cases c10 : 0 ≤ x22_1
   case neg =>
    rw [if_neg c10] at H
    exact absurd H (by simp)
   rw [if_pos c10] at H
   have c10b0 := decide_eq_true c10
   by_cases c11 : x22_1 < (l0.length : Int)
   case neg =>
    rw [if_neg c11] at H
    exact absurd H (by simp)
   rw [if_pos c11] at H
   have c11b0 := decide_eq_true c11
   by_cases c12 : x22_1 < (l1.length : Int)
   case neg =>
    rw [if_neg c12] at H
    have c12b0 := decide_eq_false c12
    by_cases c17 : x22_1 < (x5_1.length : Int)
    case neg =>
     rw [if_neg c17] at H
     exact absurd H (by simp)
    rw [if_pos c17] at H
    have c17b0 := decide_eq_true c17
    obtain ⟨y209, hy209⟩ : ∃ y_ : List Int, y_ = (x5_1.set (x22_1 : Int).toNat (Int.tmod (IntKind.u64.wrap ((rd l0 x22_1) + x6_1)) 1000000000000000000)) := ⟨_, rfl⟩
    replace H : (o_more.l0 k1 l0 l1 y209 (IntKind.u64.wrap (Int.tdiv (IntKind.u64.wrap ((rd l0 x22_1) + x6_1)) 1000000000000000000)) (l0.length : Int) (wrap64 (x22_1 + 1))) = some r := by rw [hy209]; exact H
    have Ny209 := Az hy209
    have H' := Az H
    have p206 : 0 ≤ (x22_1 : Int) := ode
    have q206 : x22_1 < (l0.length : Int) := ode
    obtain ⟨ad206, e206, hx206_0⟩ := Kd.at_int HR0.out x22_1 p206 q206
    cases e206
    replace hx206_0 := (HB.out.cell (World.block_lt_of_cell? w _ hx206_0)).trans hx206_0
    replace p206 := eq_true p206
    replace q206 := eq_true q206
    have p18 : 0 ≤ (x22_1 : Int) := ode
    have q18 : (x22_1 : Int) < ((x5_1.length : Int) : Int) := ode
    obtain ⟨go18, co18, eo18, gb18, gl18, cl18, HG18⟩ := Kd.R_form HO_5.out (by omega)
    (first | cases eo18 | (injection eo18 with ea_ en_ ec_; (first | subst ea_ | (injection ea_ with ea_; subst ea_)); subst ec_; clear en_))
    have GB18 := Az gb18
    have GG18 := Az HG18
    obtain ⟨hx18_0, hf18_0⟩ := Kd.R_celln 0 HO_5.out (x22_1 : Int) p18 q18
    replace p18 := eq_true p18
    replace q18 := eq_true q18
    have HP19 := Kd.R_putg HO_5.out (x22_1 : Int) (Int.tmod (IntKind.u64.wrap ((rd l0 x22_1) + x6_1)) 1000000000000000000)
    go_wp2_with (first | ((with_reducible refine gate_store (t := 25) (p := 47) rfl ?_); refine store_event (t := 25) (p := 47) (v := ?vo_w20) (w1 := (wr.setCell ⟨go18, (x22_1 : Int).toNat, none⟩ (.int .u64 (Int.tmod (IntKind.u64.wrap ((rd l0 x22_1) + x6_1)) 1000000000000000000)))) ?hg ?ho ?hn ?hr ?_; (case ho => rfl); (case hg => rfl); (case hn => rfl); (case hr => first | (go_simp; done) | (go_simp; rfl)); intro w20 hw; have hg : wr.grownBy w20 (some go18) := (by rw [hw]; exact HP19.2); have hp_ : Kd.R (Kd.int .u64) 25 w20 w.heap.size (fun _ => True) (.slice (some ⟨go18, 0, none⟩) x5_1.length co18) y209 := (by rw [hw, Ny209.out]; exact HP19.1); clear HP19; replace HO_5 := Az (hp_); replace HB := Az ((by rw [hw]; exact below_set (HB.out) GB18.out : Below w.heap.size w w20)); clear hg hw hp_))
    go_roundg k1
    case measure => have := HK1.out; omega
    case rel => exact ⟨(y209), (IntKind.u64.wrap (Int.tdiv (IntKind.u64.wrap ((rd l0 x22_1) + x6_1)) 1000000000000000000)), (wrap64 (x22_1 + 1)), rs, rs, H', ⟨by have := HK1.out; omega⟩, ⟨rk HO_5⟩, ⟨bl HB⟩⟩
   rw [if_pos c12] at H
   have c12b0 := decide_eq_true c12
   by_cases c13 : x22_1 < (x5_1.length : Int)
   case neg =>
    rw [if_neg c13] at H
    exact absurd H (by simp)
   rw [if_pos c13] at H
   have c13b0 := decide_eq_true c13
   obtain ⟨y208, hy208⟩ : ∃ y_ : List Int, y_ = (x5_1.set (x22_1 : Int).toNat (Int.tmod (IntKind.u64.wrap ((IntKind.u64.wrap ((rd l0 x22_1) + x6_1)) + (rd l1 x22_1))) 1000000000000000000)) := ⟨_, rfl⟩
   replace H : (o_more.l0 k1 l0 l1 y208 (IntKind.u64.wrap (Int.tdiv (IntKind.u64.wrap ((IntKind.u64.wrap ((rd l0 x22_1) + x6_1)) + (rd l1 x22_1))) 1000000000000000000)) (l0.length : Int) (wrap64 (x22_1 + 1))) = some r := by rw [hy208]; exact H
   have Ny208 := Az hy208
   have H' := Az H
   have p206 : 0 ≤ (x22_1 : Int) := ode
   have q206 : x22_1 < (l0.length : Int) := ode
   obtain ⟨ad206, e206, hx206_0⟩ := Kd.at_int HR0.out x22_1 p206 q206
   cases e206
   replace hx206_0 := (HB.out.cell (World.block_lt_of_cell? w _ hx206_0)).trans hx206_0
   replace p206 := eq_true p206
   replace q206 := eq_true q206
   have p207 : 0 ≤ (x22_1 : Int) := ode
   have q207 : x22_1 < (l1.length : Int) := ode
   obtain ⟨ad207, e207, hx207_0⟩ := Kd.at_int HR1.out x22_1 p207 q207
   cases e207
   replace hx207_0 := (HB.out.cell (World.block_lt_of_cell? w _ hx207_0)).trans hx207_0
   replace p207 := eq_true p207
   replace q207 := eq_true q207
   have p14 : 0 ≤ (x22_1 : Int) := ode
   have q14 : (x22_1 : Int) < ((x5_1.length : Int) : Int) := ode
   obtain ⟨go14, co14, eo14, gb14, gl14, cl14, HG14⟩ := Kd.R_form HO_5.out (by omega)
   (first | cases eo14 | (injection eo14 with ea_ en_ ec_; (first | subst ea_ | (injection ea_ with ea_; subst ea_)); subst ec_; clear en_))
   have GB14 := Az gb14
   have GG14 := Az HG14
   obtain ⟨hx14_0, hf14_0⟩ := Kd.R_celln 0 HO_5.out (x22_1 : Int) p14 q14
   replace p14 := eq_true p14
   replace q14 := eq_true q14
   have HP15 := Kd.R_putg HO_5.out (x22_1 : Int) (Int.tmod (IntKind.u64.wrap ((IntKind.u64.wrap ((rd l0 x22_1) + x6_1)) + (rd l1 x22_1))) 1000000000000000000)
   go_wp2_with (first | ((with_reducible refine gate_store (t := 25) (p := 47) rfl ?_); refine store_event (t := 25) (p := 47) (v := ?vo_w16) (w1 := (wr.setCell ⟨go14, (x22_1 : Int).toNat, none⟩ (.int .u64 (Int.tmod (IntKind.u64.wrap ((IntKind.u64.wrap ((rd l0 x22_1) + x6_1)) + (rd l1 x22_1))) 1000000000000000000)))) ?hg ?ho ?hn ?hr ?_; (case ho => rfl); (case hg => rfl); (case hn => rfl); (case hr => first | (go_simp; done) | (go_simp; rfl)); intro w16 hw; have hg : wr.grownBy w16 (some go14) := (by rw [hw]; exact HP15.2); have hp_ : Kd.R (Kd.int .u64) 25 w16 w.heap.size (fun _ => True) (.slice (some ⟨go14, 0, none⟩) x5_1.length co14) y208 := (by rw [hw, Ny208.out]; exact HP15.1); clear HP15; replace HO_5 := Az (hp_); replace HB := Az ((by rw [hw]; exact below_set (HB.out) GB14.out : Below w.heap.size w w16)); clear hg hw hp_))
   go_roundg k1
   case measure => have := HK1.out; omega
   case rel => exact ⟨(y208), (IntKind.u64.wrap (Int.tdiv (IntKind.u64.wrap ((IntKind.u64.wrap ((rd l0 x22_1) + x6_1)) + (rd l1 x22_1))) 1000000000000000000)), (wrap64 (x22_1 + 1)), rs, rs, H', ⟨by have := HK1.out; omega⟩, ⟨rk HO_5⟩, ⟨bl HB⟩⟩
def o_Add.f (k : Nat) (a0_0 : Bool) (l0_1 : List Int) (a1_0 : Bool) (l1_1 : List Int) : Option (Bool × List Int × Int) := (o_Good.f k a0_0 l0_1).bind fun t460 => (if t460 = true then ((o_Good.f k a1_0 l1_1).bind fun t461 => (if t461 = true then (if (a0_0 == a1_0) = true then ((o_more.f k l0_1 l1_1).bind fun t462 => ((o_fits.f a0_0 t462).bind fun bt465 => (some (bt465.1, bt465.2.1, bt465.2.2)))) else (none)) else (none))) else (none))
theorem o_Add.mono : ∀ a0 a1 a2 a3 k, LeO (o_Add.f k a0 a1 a2 a3) (o_Add.f (k + 1) a0 a1 a2 a3) := by
 intro a0 a1 a2 a3 k
 unfold o_Add.f
 repeat' first
   | exact o_Good.mono _ _ _
   | exact o_more.mono _ _ _
   | exact LeO.refl _
   | exact LeO.none _
   | refine LeO.ite ?_ ?_
   | refine LeO.bind ?_ (fun _ => ?_)
def o_Add.T4 : Bool × List (List Nat × List Nat) := (true, [([], []), ([0], [0]), ([], []), ([2], [2]), ([], []), ([4], [4]), ([3, 5], [3, 5]), ([1, 6, 6], [1, 6]), ([7], [7]), ([7], [7]), ([8, 7, 0, 1, 2, 3, 4, 5, 6, 7, 8, 9], [8]), ([9, 10, 0, 1, 2, 3, 4, 5, 6, 7, 8, 9, 10], [9])])
def o_Add.B4 : List Nat := [0, 1, 0, 4, 0, 16, 60, 127, 255, 255, 1023, 2047]
theorem o_Add.tab4 : rtab .any (opsOf Tryz.f95 4) = o_Add.T4 := by kernel_rfl
theorem o_Add.bits4 : waitsOk o_Add.T4.2 o_Add.B4 = true := by kernel_rfl
theorem o_Add.calls (k : Nat) (a0_0 : Bool) (A0_1 : Option Addr) (c0_1 : Nat) (l0_1 : List Int) (a1_0 : Bool) (A1_1 : Option Addr) (c1_1 : Nat) (l1_1 : List Int) (r1 : Bool) (r2 : List Int) (r3 : Int) (w : World) (hr0_1 : Kd.C (Kd.int .u64) w A0_1 l0_1.length l0_1) (hc0_1 : l0_1.length ≤ c0_1) (hr1_1 : Kd.C (Kd.int .u64) w A1_1 l1_1.length l1_1) (hc1_1 : l1_1.length ≤ c1_1) (h : o_Add.f k a0_0 l0_1 a1_0 l1_1 = some (r1, r2, r3)) :
  Calls Tryz.prog 95 #[.agg #[.bool a0_0, .slice A0_1 l0_1.length c0_1], .agg #[.bool a1_0, .slice A1_1 l1_1.length c1_1]] w fun e w' => ∃ v1_ : Value, e = .returned (.tuple #[.agg #[.bool r1, v1_], .int .i64 r3]) ∧ Kd.R (Kd.int .u64) 25 w' w.heap.size (fun _ => True) v1_ r2 ∧ Below w.heap.size w w' := by
 have hu24 := Tryz.underlying24
 have HR0_1 := Az hr0_1
 have HC0_1 := Az hc0_1
 clear hr0_1 hc0_1
 have HR1_1 := Az hr1_1
 have HC1_1 := Az hc1_1
 clear hr1_1 hc1_1
 have HB := Az (Below.refl w.heap.size w)
 have H := h
 unfold o_Add.f at H
 clear h
 obtain ⟨t460, A3, H⟩ := bd H
 by_cases c4 : t460 = true
 case neg =>
  replace c4 := Bool.eq_false_iff.mpr c4
  subst c4
  rw [if_neg Bool.false_ne_true] at H
  exact absurd H (by simp)
 subst c4
 rw [if_pos rfl] at H
 obtain ⟨t461, A5, H⟩ := bd H
 by_cases c6 : t461 = true
 case neg =>
  replace c6 := Bool.eq_false_iff.mpr c6
  subst c6
  rw [if_neg Bool.false_ne_true] at H
  exact absurd H (by simp)
 subst c6
 rw [if_pos rfl] at H
 by_cases c7 : (a0_0 == a1_0) = true
 case neg =>
  rw [if_neg c7] at H
  exact absurd H (by simp)
 rw [if_pos c7] at H
 have c7b0 : (a0_0 == a1_0) = true := c7
 (try (have c7b1 : decide (a0_0 = a1_0) = true := by simpa using c7))
 (try (have c7b2 : (a0_0 == a1_0) = true := by simpa using c7))
 clear c7
 obtain ⟨t462, A8, H⟩ := bd H
 obtain ⟨⟨t465, t466, t469⟩, A9, H⟩ := bd H
 (try dsimp only at H)
 simp only [Option.some.injEq, Prod.mk.injEq] at H
 obtain ⟨rfl, rfl, rfl⟩ := H
 go_enter Tryz.func95, Tryz.ntmps95
 try go_wp2_with (first | (refine be 2 #[.bool a0_0, .slice A0_1 l0_1.length c0_1] 24 ?_; intro gb457 hg w10 hbox hb; have BK457 := Az (hbox); have GW457 := gw (bl HB) hg; have GE457 := gw (bl HB) hg; replace HB := bs HB hb; clear hb hbox hg) | (refine be 3 #[.bool a1_0, .slice A1_1 l1_1.length c1_1] 24 ?_; intro gb458 hg w11 hbox hb; have BK458 := Az (hbox); have GW458 := gw (bls HB) hg; have GE458 := gw (bls HB) hg; replace HB := bs HB hb; have NB457_458 := nl BK457 hg; have NB458_457 := ng BK457 hg; replace BK457 := kb BK457 hb; clear hb hbox hg) | (refine be 4 #[.bool false, .slice none 0 0] 24 ?_; intro gb459 hg w12 hbox hb; have BK459 := Az (hbox); have GW459 := gw (bls HB) hg; have GE459 := gw (bls HB) hg; replace HB := bs HB hb; have NB457_459 := nl BK457 hg; have NB459_457 := ng BK457 hg; replace BK457 := kb BK457 hb; have NB458_459 := nl BK458 hg; have NB459_458 := ng BK458 hg; replace BK458 := kb BK458 hb; clear hb hbox hg; have hnb13 := NB457_458.out; have hnc13 := NB458_457.out; have hnb14 := NB457_459.out; have hnc14 := NB459_457.out; have hz15_1 := bz BK457) | (refine gl (some 7) Tryz.func47 #[.agg #[.bool a0_0, .slice A0_1 l0_1.length c0_1]] ?_; (with_reducible refine (o_Good.calls k a0_0 _ _ l0_1 true _ (ck HR0_1 HB) HC0_1.out A3.out).mono ?_); rintro e w16 ⟨rfl, hb⟩; refine ⟨_, rfl, ?_⟩; replace BK457 := kb BK457 hb; replace BK458 := kb BK458 hb; replace BK459 := kb BK459 hb; replace HB := bs HB hb; have hnb17 := NB458_459.out; have hnc17 := NB459_458.out; have hz18_1 := bz BK458) | (go_at_call 47; (with_reducible refine (o_Good.calls k a1_0 _ _ l1_1 true _ (ck HR1_1 HB) HC1_1.out A5.out).mono ?_); rintro e w19 ⟨rfl, hb⟩; replace BK457 := kb BK457 hb; replace BK458 := kb BK458 hb; replace BK459 := kb BK459 hb; replace HB := bs HB hb; have hz20_1 := bz BK457; have hz21_2 := bz BK458))
 replace BK457 := Az (blk_drew BK457.out)
 replace BK458 := Az (blk_drew BK458.out)
 replace BK459 := Az (blk_drew BK459.out)
 replace HB := Az (below_drew1 HB.out)
 refine start_ (n := 12) (S := fun w' => w'.cell? ⟨gb457, 0, none⟩ = some (.bool a0_0) ∧ w'.cell? ⟨gb457, 1, none⟩ = some (.slice A0_1 l0_1.length c0_1) ∧ w'.cell? ⟨gb458, 0, none⟩ = some (.bool a1_0) ∧ w'.cell? ⟨gb458, 1, none⟩ = some (.slice A1_1 l1_1.length c1_1)) (ds := []) (bm 12 0) (by kernel_rfl) rfl rfl ⟨(blk_cell BK457.out 0).trans rfl, (blk_cell BK457.out 1).trans rfl, (blk_cell BK458.out 0).trans rfl, (blk_cell BK458.out 1).trans rfl⟩ (fun hHeld => ?_); refine with_tabW o_Add.tab4 o_Add.bits4 (fun HT_ HW_ => ?_)
 generalize w19.drew = w22 at BK457 BK458 BK459 HB hHeld ⊢
 refine pu 0 (some 20) (bm 12 1) HT_.out ?_
 refine pu 2 (some 22) (bm 12 5) HT_.out ?_
 refine pu 4 (some 24) (bm 12 21) HT_.out ?_
 refine tk 1 (some 21) (bm 12 23) HT_.out HW_.out hHeld ?_
 refine tk 3 (some 23) (bm 12 31) HT_.out HW_.out hHeld ?_
 refine tk 5 (some 25) (bm 12 63) HT_.out HW_.out hHeld ?_
 refine on 6 (some 26) (bm 12 127) HT_.out (fun K hK => ?_)
 refine gs Tryz.func127 #[.slice A0_1 l0_1.length c0_1, .slice A1_1 l1_1.length c1_1] ?_
 with_reducible refine (o_more.calls k _ _ l0_1 _ _ l1_1 t462 _ (ck HR0_1 HB) HC0_1.out (ck HR1_1 HB) HC1_1.out A8.out).mono ?_
 rintro e w23 ⟨v463, rfl, ho0, hb⟩
 refine ⟨_, rfl, ?_⟩
 have HO464 := Az (Kd.R_lower ho0 (below_size (bls HB)))
 replace BK457 := kb BK457 hb
 replace BK458 := kb BK458 hb
 replace BK459 := kb BK459 hb
 replace HB := bs HB hb
 (try clear hb)
 (try clear hb2)
 (try clear hk)
 (try clear hi)
 (try clear ho0)
 obtain ⟨Ao24, co24, eo24⟩ := Kd.R_slice HO464.out
 (first | subst eo24 | (injection eo24 with f1_ f2_ f3_; have f4_ := f1_.symm; have f5_ := f3_.symm; clear f1_ f2_ f3_; subst f4_; subst f5_))
 refine hK.out _ _ hd (fun hHeld => ?_)
 clear hK K
 refine nm ?_
 refine on 7 (some 27) (bm 12 255) HT_.out (fun K hK => ?_)
 refine gs Tryz.func126 #[.bool a0_0, .slice Ao24 t462.length co24] ?_
 with_reducible refine (o_fits.calls a0_0 _ _ t462 t465 t466 t469 _ ?side1 (Kd.R_reads' HO464.out).2.1 A9.out).mono ?_
 (case side1 => exact (Kd.R_reads' HO464.out).2.2)
 rintro e w25 ⟨v467, rfl, ho0, hb⟩
 refine ⟨_, rfl, ?_⟩
 have HO468 := Az (Kd.R_lower (Kd.R_new' ho0 (Kd.R_lt (rk HO464))) (below_size (bls HB)))
 replace HO464 := Az (Kd.R_elder' (rk HO464) (Kd.R_base ho0) hb)
 replace BK457 := kb BK457 hb
 replace BK458 := kb BK458 hb
 replace BK459 := kb BK459 hb
 replace HB := bs HB hb
 (try clear hb)
 (try clear hb2)
 (try clear hk)
 (try clear hi)
 (try clear ho0)
 obtain ⟨Ao27, co27, eo27⟩ := Kd.R_slice HO468.out
 (first | subst eo27 | (injection eo27 with f1_ f2_ f3_; have f4_ := f1_.symm; have f5_ := f3_.symm; clear f1_ f2_ f3_; subst f4_; subst f5_))
 refine hK.out _ _ hd (fun hHeld => ?_)
 clear hK K
 refine nm ?_
 refine pu 8 (some 28) (bm 12 511) HT_.out ?_
 refine pu 9 (some 29) (bm 12 1023) HT_.out ?_
 refine on 10 (none) (bm 12 2047) HT_.out (fun K hK => ?_)
 have hs26 : w25.cell? ⟨gb459, 0, none⟩ = some (.bool false) := (blk_cell BK459.out 0).trans rfl
 have hfs26 := blk_frozen BK459.out 0
 have hns26_0 := NB457_459.out
 have hns26_1 := NB458_459.out
 have hms26_0 := NB459_457.out
 have hms26_1 := NB459_458.out
 have hs28 : w25.cell? ⟨gb459, 1, none⟩ = some (.slice none 0 0) := (blk_cell BK459.out 1).trans rfl
 have hfs28 := blk_frozen BK459.out 1
 have hns28_0 := NB457_459.out
 have hns28_1 := NB458_459.out
 have hms28_0 := NB459_457.out
 have hms28_1 := NB459_458.out
 refine skip_ (w1 := ?_) (by rfl) rfl ?_ ?_
 rotate_left
 ·go_simp
  rfl
 refine hK.out _ _ ⟨((cell_far (p := ⟨gb459, _, none⟩) NB457_459.out _).trans (((cell_far (p := ⟨gb459, _, none⟩) NB457_459.out _).trans (hHeld.1)))), ((cell_far (p := ⟨gb459, _, none⟩) NB457_459.out _).trans (((cell_far (p := ⟨gb459, _, none⟩) NB457_459.out _).trans (hHeld.2.1)))), ((cell_far (p := ⟨gb459, _, none⟩) NB458_459.out _).trans (((cell_far (p := ⟨gb459, _, none⟩) NB458_459.out _).trans (hHeld.2.2.1)))), ((cell_far (p := ⟨gb459, _, none⟩) NB458_459.out _).trans (((cell_far (p := ⟨gb459, _, none⟩) NB458_459.out _).trans (hHeld.2.2.2))))⟩ (fun hHeld => ?_)
 clear hK K
 refine pu 11 (some 5) (bm 12 4095) HT_.out ?_
 refine done_ (done_of HT_.out (by kernel_rfl)) ?_
 try go_wp2
 refine bodyPost_ret (results_ct rfl _ _ gb459 24 #[.bool t465, .slice Ao27 t466.length co27] (0, 0) _ rfl (by refine blk_put (cs := #[.bool t465, .slice none 0 0]) ?_ 1 _ rfl; refine blk_put (cs := #[.bool false, .slice none 0 0]) ?_ 0 _ rfl; exact BK459.out) Tryz.underlying24 rfl (by kernel_rfl)) rfl ?_
 exact ⟨_, fe, rt (Kd.R_mono (Kd.R_far (p := ⟨gb459, 1, none⟩) (Kd.R_far (p := ⟨gb459, 0, none⟩) (Kd.R_types HO468.out BK459.out (by decide)) (fun _ hk => hk.2) (.bool t465)) (fun _ hk => hk.2) (.slice Ao27 t466.length co27)) (fun _ hk => trivial)), bls HB⟩
def p_wholes.f (k : Nat) (a0 : Int) (a1_0 : Bool) (l1_1 : List Int) (a2_0 : Bool) (l2_1 : List Int) : Option (Bool × List Int × Int) := if a0 = 1 then ((o_Add.f k a1_0 l1_1 a2_0 l2_1).bind fun bt493 => (some (bt493.1, bt493.2.1, bt493.2.2))) else (none)
theorem p_wholes.mono : ∀ a0 a1 a2 a3 a4 k, LeO (p_wholes.f k a0 a1 a2 a3 a4) (p_wholes.f (k + 1) a0 a1 a2 a3 a4) := by
 intro a0 a1 a2 a3 a4 k
 unfold p_wholes.f
 repeat' first
   | exact o_Add.mono _ _ _ _ _
   | exact LeO.refl _
   | exact LeO.none _
   | refine LeO.ite ?_ ?_
   | refine LeO.bind ?_ (fun _ => ?_)
   | exact o_Add.mono _ _ _ _ _
   | exact LeO.none _
   | refine LeO.ite ?_ ?_
   | refine LeO.bind ?_ (fun _ => ?_)
theorem p_wholes.calls (k : Nat) (a0 : Int) (a1_0 : Bool) (A1_1 : Option Addr) (c1_1 : Nat) (l1_1 : List Int) (a2_0 : Bool) (A2_1 : Option Addr) (c2_1 : Nat) (l2_1 : List Int) (r1 : Bool) (r2 : List Int) (r3 : Int) (w : World) (hr1_1 : Kd.C (Kd.int .u64) w A1_1 l1_1.length l1_1) (hc1_1 : l1_1.length ≤ c1_1) (hr2_1 : Kd.C (Kd.int .u64) w A2_1 l2_1.length l2_1) (hc2_1 : l2_1.length ≤ c2_1) (h : p_wholes.f k a0 a1_0 l1_1 a2_0 l2_1 = some (r1, r2, r3)) :
  Calls Tryz.prog 66 #[.int .i64 a0, .agg #[.bool a1_0, .slice A1_1 l1_1.length c1_1], .agg #[.bool a2_0, .slice A2_1 l2_1.length c2_1]] w fun e w' => ∃ v1_ : Value, e = .returned (.tuple #[.agg #[.bool r1, v1_], .int .i64 r3]) ∧ Kd.R (Kd.int .u64) 25 w' w.heap.size (fun _ => True) v1_ r2 ∧ Below w.heap.size w w' := by
 have hu24 := Tryz.underlying24
 have HR1_1 := Az hr1_1
 have HC1_1 := Az hc1_1
 clear hr1_1 hc1_1
 have HR2_1 := Az hr2_1
 have HC2_1 := Az hc2_1
 clear hr2_1 hc2_1
 have HB := Az (Below.refl w.heap.size w)
 have H := h
 unfold p_wholes.f at H
 clear h
 by_cases c4 : a0 = 1
 case neg =>
  rw [if_neg c4] at H
  exact absurd H (by simp)
 rw [if_pos c4] at H
 have c4b0 := beq_iff_eq.mpr c4
 have c4b1 := bne_eq_false_iff_eq.mpr c4
 clear c4
 obtain ⟨⟨t493, t494, t497⟩, A5, H⟩ := bd H
 (try dsimp only at H)
 simp only [Option.some.injEq, Prod.mk.injEq] at H
 obtain ⟨rfl, rfl, rfl⟩ := H
 go_enter Tryz.func66, Tryz.ntmps66
 go_wp2_with (first | (refine be 4 #[.bool a1_0, .slice A1_1 l1_1.length c1_1] 24 ?_; intro gb490 hg w6 hbox hb; have BK490 := Az (hbox); have GW490 := gw (bl HB) hg; have GE490 := gw (bl HB) hg; replace HB := bs HB hb; clear hb hbox hg) | (refine be 5 #[.bool a2_0, .slice A2_1 l2_1.length c2_1] 24 ?_; intro gb491 hg w7 hbox hb; have BK491 := Az (hbox); have GW491 := gw (bls HB) hg; have GE491 := gw (bls HB) hg; replace HB := bs HB hb; have NB490_491 := nl BK490 hg; have NB491_490 := ng BK490 hg; replace BK490 := kb BK490 hb; clear hb hbox hg) | (refine be 6 #[.bool false, .slice none 0 0] 24 ?_; intro gb492 hg w8 hbox hb; have BK492 := Az (hbox); have GW492 := gw (bls HB) hg; have GE492 := gw (bls HB) hg; replace HB := bs HB hb; have NB490_492 := nl BK490 hg; have NB492_490 := ng BK490 hg; replace BK490 := kb BK490 hb; have NB491_492 := nl BK491 hg; have NB492_491 := ng BK491 hg; replace BK491 := kb BK491 hb; clear hb hbox hg; have hnb9 := NB490_491.out; have hnc9 := NB491_490.out; have hnb10 := NB490_492.out; have hnc10 := NB492_490.out; have hz11_1 := bz BK490; have hnb12 := NB491_492.out; have hnc12 := NB492_491.out; have hz13_1 := bz BK491) | (refine gl (some 16) Tryz.func95 #[.agg #[.bool a1_0, .slice A1_1 l1_1.length c1_1], .agg #[.bool a2_0, .slice A2_1 l2_1.length c2_1]] ?_; (with_reducible refine (o_Add.calls k a1_0 _ _ l1_1 a2_0 _ _ l2_1 t493 t494 t497 _ (ck HR1_1 HB) HC1_1.out (ck HR2_1 HB) HC2_1.out A5.out).mono ?_); rintro e w14 ⟨v495, rfl, ho0, hb⟩; refine ⟨_, rfl, ?_⟩; have HO496 := Az (Kd.R_lower ho0 (below_size (bls HB))); replace BK490 := kb BK490 hb; replace BK491 := kb BK491 hb; replace BK492 := kb BK492 hb; replace HB := bs HB hb; (try clear hb); (try clear ho0); have hz15_1 := bz BK492; obtain ⟨Ao16, co16, eo16⟩ := Kd.R_slice HO496.out; subst eo16))
 refine bodyPost_ret (results_ct rfl _ _ gb492 24 #[.bool t493, .slice Ao16 t494.length co16] (0, 0) _ rfl (by (with_reducible repeat (first | refine blk_drewN ?_ _ | refine blk_drew ?_ | refine blk_alloc ?_ _)); refine blk_put (cs := #[.bool t493, .slice none 0 0]) ?_ 1 _ rfl; (with_reducible repeat (first | refine blk_drewN ?_ _ | refine blk_drew ?_ | refine blk_alloc ?_ _)); refine blk_put (cs := #[.bool false, .slice none 0 0]) ?_ 0 _ rfl; (with_reducible repeat (first | refine blk_drewN ?_ _ | refine blk_drew ?_ | refine blk_alloc ?_ _)); exact BK492.out) Tryz.underlying24 rfl (by kernel_rfl)) rfl ?_
 exact ⟨_, fe, rt (Kd.R_mono (Kd.R_far (p := ⟨gb492, 1, none⟩) (Kd.R_far (p := ⟨gb492, 0, none⟩) (Kd.R_types HO496.out BK492.out (by decide)) (fun _ hk => hk.2) (.bool t493)) (fun _ hk => hk.2) (.slice Ao16 t494.length co16)) (fun _ hk => trivial)), bls HB⟩
def p_ofInt.f (a0_0 : Bool) (l0_1 : List Int) : Option (Int × Bool × Bool × List Int × Int × ByteArray × (List (S28))) := some (2, false, a0_0, l0_1, 0, (⟨#[]⟩ : ByteArray), ([] : List (S28)))
theorem p_ofInt.calls (a0_0 : Bool) (P0_1_ : Nat → Prop) (A0_1 : Option Addr) (c0_1 : Nat) (l0_1 : List Int) (r1 : Int) (r2 r3 : Bool) (r4 : List Int) (r5 : Int) (r6 : ByteArray) (r7 : List (S28)) (w : World) (hs0_1 : Kd.V (Kd.int .u64) 25 w w.heap.size (fun k_ => P0_1_ k_) (.slice A0_1 l0_1.length c0_1) l0_1) (h : p_ofInt.f a0_0 l0_1 = some (r1, r2, r3, r4, r5, r6, r7)) :
  Calls Tryz.prog 67 #[.agg #[.bool a0_0, .slice A0_1 l0_1.length c0_1]] w fun e w' => ∃ v3_ v6_ : Value, e = .returned (.agg #[.int .i64 r1, .bool r2, .bool r3, v3_, .int .u64 r5, .string r6, v6_]) ∧ Kd.V (Kd.int .u64) 25 w' w.heap.size (fun k_ => (P0_1_ k_ ∨ w.heap.size ≤ k_) ∧ some k_ ≠ (v6_ : Value).ownBlock) v3_ r4 ∧ Kd.R k28 28 w' w.heap.size (fun k_ => (w.heap.size ≤ k_)) v6_ r7 ∧ Below w.heap.size w w' := by
 have hu24 := Tryz.underlying24
 have hu28 := Tryz.underlying28
 have HO0_1 := Az (show Kd.V (Kd.int .u64) 25 w w.heap.size (fun k_ => (P0_1_ k_ ∨ w.heap.size ≤ k_)) (.slice A0_1 l0_1.length c0_1) l0_1 from Kd.V_mono hs0_1 (fun k_ hk => .inl hk))
 have HB := Az (Below.refl w.heap.size w)
 have H := h
 unfold p_ofInt.f at H
 clear h
 simp only [Option.some.injEq, Prod.mk.injEq] at H
 obtain ⟨rfl, rfl, rfl, rfl, rfl, rfl, rfl⟩ := H
 go_enter Tryz.func67, Tryz.ntmps67
 go_wp2_with (first | (refine be 1 #[.bool a0_0, .slice A0_1 l0_1.length c0_1] 24 ?_; intro gb498 hg w2 hbox hb; replace HO0_1 := Az (Kd.V_below (Kd.V_elderB (vk HO0_1) gb498 (Nat.le_of_eq hg.symm)) hb); have BK498 := Az (hbox); have GW498 := gw (bl HB) hg; have GE498 := gw (bl HB) hg; replace HB := bs HB hb; clear hb hbox hg) | (refine be 2 #[.int .i64 0, .bool false, .bool false, .slice none 0 0, .int .u64 0, .string (⟨#[]⟩ : ByteArray), .slice none 0 0] 28 ?_; intro gb499 hg w3 hbox hb; replace HO0_1 := Az (Kd.V_below (Kd.V_elderB (vk HO0_1) gb499 (Nat.le_of_eq hg.symm)) hb); have BK499 := Az (hbox); have GW499 := gw (bls HB) hg; have GE499 := gw (bls HB) hg; replace HB := bs HB hb; have NB498_499 := nl BK498 hg; have NB499_498 := ng BK498 hg; replace BK498 := kb BK498 hb; clear hb hbox hg; have hnb4 := NB498_499.out; have hnc4 := NB499_498.out; have hz5_1 := bz BK498; have hz6_2 := bz BK499))
 refine bodyPost_ret (results_cell_row rfl _ _ gb499 28 #[.int .i64 2, .bool false, .bool a0_0, .slice A0_1 l0_1.length c0_1, .int .u64 0, .string (⟨#[]⟩ : ByteArray), .slice none 0 0] (0, 0) _ rfl (by (with_reducible repeat (first | refine blk_drewN ?_ _ | refine blk_drew ?_ | refine blk_alloc ?_ _)); refine blk_put (cs := #[.int .i64 2, .bool false, .bool a0_0, .slice A0_1 l0_1.length c0_1, .int .u64 0, .string (⟨#[]⟩ : ByteArray), .slice none 0 0]) ?_ 6 _ rfl; (with_reducible repeat (first | refine blk_drewN ?_ _ | refine blk_drew ?_ | refine blk_alloc ?_ _)); refine blk_put (cs := #[.int .i64 2, .bool false, .bool a0_0, .slice A0_1 l0_1.length c0_1, .int .u64 0, .string (⟨#[]⟩ : ByteArray), .slice none 0 0]) ?_ 5 _ rfl; (with_reducible repeat (first | refine blk_drewN ?_ _ | refine blk_drew ?_ | refine blk_alloc ?_ _)); refine blk_put (cs := #[.int .i64 2, .bool false, .bool a0_0, .slice A0_1 l0_1.length c0_1, .int .u64 0, .string (⟨#[]⟩ : ByteArray), .slice none 0 0]) ?_ 4 _ rfl; (with_reducible repeat (first | refine blk_drewN ?_ _ | refine blk_drew ?_ | refine blk_alloc ?_ _)); refine blk_put (cs := #[.int .i64 2, .bool false, .bool a0_0, .slice none 0 0, .int .u64 0, .string (⟨#[]⟩ : ByteArray), .slice none 0 0]) ?_ 3 _ rfl; (with_reducible repeat (first | refine blk_drewN ?_ _ | refine blk_drew ?_ | refine blk_alloc ?_ _)); refine blk_put (cs := #[.int .i64 2, .bool false, .bool false, .slice none 0 0, .int .u64 0, .string (⟨#[]⟩ : ByteArray), .slice none 0 0]) ?_ 2 _ rfl; (with_reducible repeat (first | refine blk_drewN ?_ _ | refine blk_drew ?_ | refine blk_alloc ?_ _)); refine blk_put (cs := #[.int .i64 2, .bool false, .bool false, .slice none 0 0, .int .u64 0, .string (⟨#[]⟩ : ByteArray), .slice none 0 0]) ?_ 1 _ rfl; (with_reducible repeat (first | refine blk_drewN ?_ _ | refine blk_drew ?_ | refine blk_alloc ?_ _)); refine blk_put (cs := #[.int .i64 0, .bool false, .bool false, .slice none 0 0, .int .u64 0, .string (⟨#[]⟩ : ByteArray), .slice none 0 0]) ?_ 0 _ rfl; (with_reducible repeat (first | refine blk_drewN ?_ _ | refine blk_drew ?_ | refine blk_alloc ?_ _)); exact BK499.out) Tryz.underlying28 rfl (by kernel_rfl)) rfl ?_
 exact ⟨_, _, fe, vt (Kd.V_mono (Kd.V_far (p := ⟨gb499, 6, none⟩) (Kd.V_far (p := ⟨gb499, 5, none⟩) (Kd.V_far (p := ⟨gb499, 4, none⟩) (Kd.V_far (p := ⟨gb499, 3, none⟩) (Kd.V_far (p := ⟨gb499, 2, none⟩) (Kd.V_far (p := ⟨gb499, 1, none⟩) (Kd.V_far (p := ⟨gb499, 0, none⟩) (Kd.V_mono HO0_1.out (fun k_ hk => (⟨hk, hk.2⟩ : _ ∧ k_ ≠ gb499))) (fun _ hk => hk.2) (.int .i64 2)) (fun _ hk => hk.2) (.bool false)) (fun _ hk => hk.2) (.bool a0_0)) (fun _ hk => hk.2) (.slice A0_1 l0_1.length c0_1)) (fun _ hk => hk.2) (.int .u64 0)) (fun _ hk => hk.2) (.string (⟨#[]⟩ : ByteArray))) (fun _ hk => hk.2) (.slice none 0 0)) (fun _ hk => ⟨hk.1.1.1, (by simp [Value.ownBlock])⟩)), by first | exact Kd.R_nil _ _ _ _ _ | exact Kd.N_nil _ _ _ _ _ | exact Kd.V_nil _ _ _ _ _ | exact Kd.Q_nil _ _ _ _ _ | exact Kd.S_nil _ _ _ _ _, bls HB⟩
def p_numbers.f (k : Nat) (a0 a1_0 : Int) (a1_1 a1_2 : Bool) (l1_3 : List Int) (a1_4 : Int) (a1_5 : ByteArray) (l1_6 : List (S28)) (a2_0 : Int) (a2_1 a2_2 : Bool) (l2_3 : List Int) (a2_4 : Int) (a2_5 : ByteArray) (l2_6 : List (S28)) : Option (Int × Bool × Bool × List Int × Int × ByteArray × (List (S28)) × Int) := if a1_0 = 3 then (none) else (if a2_0 = 3 then (none) else (if a0 = 4 then ((p_count.f a2_0 a2_1 a2_2 l2_3 a2_4 a2_5 l2_6).bind fun bt532 => (if (bt532.2.length : Int) = 0 then (none) else (none))) else ((p_count.f a1_0 a1_1 a1_2 l1_3 a1_4 a1_5 l1_6).bind fun bt507 => ((p_count.f a2_0 a2_1 a2_2 l2_3 a2_4 a2_5 l2_6).bind fun bt511 => ((p_wholes.f k a0 bt507.1 bt507.2 bt511.1 bt511.2).bind fun bt515 => (if bt515.2.2 = 0 then ((p_ofInt.f bt515.1 bt515.2.1).bind fun bt521 => (some (bt521.1, bt521.2.1, bt521.2.2.1, bt521.2.2.2.1, bt521.2.2.2.2.1, bt521.2.2.2.2.2.1, bt521.2.2.2.2.2.2, 0))) else (none)))))))
theorem p_numbers.mono : ∀ a0 a1 a2 a3 a4 a5 a6 a7 a8 a9 a10 a11 a12 a13 a14 k, LeO (p_numbers.f k a0 a1 a2 a3 a4 a5 a6 a7 a8 a9 a10 a11 a12 a13 a14) (p_numbers.f (k + 1) a0 a1 a2 a3 a4 a5 a6 a7 a8 a9 a10 a11 a12 a13 a14) := by
 intro a0 a1 a2 a3 a4 a5 a6 a7 a8 a9 a10 a11 a12 a13 a14 k
 unfold p_numbers.f
 repeat' first
   | exact p_wholes.mono _ _ _ _ _ _
   | exact LeO.refl _
   | exact LeO.none _
   | refine LeO.ite ?_ ?_
   | refine LeO.bind ?_ (fun _ => ?_)
def p_numbers.T5 : Bool × List (List Nat × List Nat) := (true, [([], []), ([], []), ([1], [1]), ([], []), ([3, 2], [3]), ([0, 2, 4, 4], [0, 2, 4]), ([5], [5]), ([6], [6]), ([6], [6]), ([], []), ([9, 7, 5, 0, 1, 2, 3, 4, 5, 6, 7, 9], [7, 9]), ([8, 10, 0, 1, 2, 3, 4, 5, 6, 7, 8, 9, 10], [8])])
def p_numbers.B5 : List Nat := [0, 0, 2, 0, 14, 31, 63, 127, 127, 0, 767, 2047]
theorem p_numbers.tab5 : rtab .any (opsOf Tryz.f39 5) = p_numbers.T5 := by kernel_rfl
theorem p_numbers.bits5 : waitsOk p_numbers.T5.2 p_numbers.B5 = true := by kernel_rfl
theorem p_numbers.calls (k : Nat) (a0 a1_0 : Int) (a1_1 a1_2 : Bool) (P1_3_ : Nat → Prop) (A1_3 : Option Addr) (c1_3 : Nat) (l1_3 : List Int) (a1_4 : Int) (a1_5 : ByteArray) (A1_6 : Option Addr) (c1_6 : Nat) (l1_6 : List (S28)) (a2_0 : Int) (a2_1 a2_2 : Bool) (P2_3_ : Nat → Prop) (A2_3 : Option Addr) (c2_3 : Nat) (l2_3 : List Int) (a2_4 : Int) (a2_5 : ByteArray) (A2_6 : Option Addr) (c2_6 : Nat) (l2_6 : List (S28)) (r1 : Int) (r2 r3 : Bool) (r4 : List Int) (r5 : Int) (r6 : ByteArray) (r7 : List (S28)) (r8 : Int) (w : World) (hs1_3 : Kd.V (Kd.int .u64) 25 w w.heap.size (fun k_ => P1_3_ k_) (.slice A1_3 l1_3.length c1_3) l1_3) (hr1_6 : Kd.C k28 w A1_6 l1_6.length l1_6) (hc1_6 : l1_6.length ≤ c1_6) (hs2_3 : Kd.V (Kd.int .u64) 25 w w.heap.size (fun k_ => P2_3_ k_) (.slice A2_3 l2_3.length c2_3) l2_3) (hr2_6 : Kd.C k28 w A2_6 l2_6.length l2_6) (hc2_6 : l2_6.length ≤ c2_6) (h : p_numbers.f k a0 a1_0 a1_1 a1_2 l1_3 a1_4 a1_5 l1_6 a2_0 a2_1 a2_2 l2_3 a2_4 a2_5 l2_6 = some (r1, r2, r3, r4, r5, r6, r7, r8)) :
  Calls Tryz.prog 39 #[.int .i64 a0, .agg #[.int .i64 a1_0, .bool a1_1, .bool a1_2, .slice A1_3 l1_3.length c1_3, .int .u64 a1_4, .string a1_5, .slice A1_6 l1_6.length c1_6], .agg #[.int .i64 a2_0, .bool a2_1, .bool a2_2, .slice A2_3 l2_3.length c2_3, .int .u64 a2_4, .string a2_5, .slice A2_6 l2_6.length c2_6]] w fun e w' => ∃ v3_ v6_ : Value, e = .returned (.tuple #[.agg #[.int .i64 r1, .bool r2, .bool r3, v3_, .int .u64 r5, .string r6, v6_], .int .i64 r8]) ∧ Kd.V (Kd.int .u64) 25 w' w.heap.size (fun k_ => ((P1_3_ k_ ∨ P2_3_ k_) ∨ w.heap.size ≤ k_) ∧ some k_ ≠ (v6_ : Value).ownBlock) v3_ r4 ∧ Kd.R k28 28 w' w.heap.size (fun k_ => (w.heap.size ≤ k_)) v6_ r7 ∧ Below w.heap.size w w' := by
 have hu28 := Tryz.underlying28
 have hu24 := Tryz.underlying24
 have HO1_3 := Az (show Kd.V (Kd.int .u64) 25 w w.heap.size (fun k_ => ((P1_3_ k_ ∨ P2_3_ k_) ∨ w.heap.size ≤ k_)) (.slice A1_3 l1_3.length c1_3) l1_3 from Kd.V_mono hs1_3 (fun k_ hk => .inl (.inl hk)))
 have HR1_6 := Az hr1_6
 have HC1_6 := Az hc1_6
 clear hr1_6 hc1_6
 have HO2_3 := Az (show Kd.V (Kd.int .u64) 25 w w.heap.size (fun k_ => ((P1_3_ k_ ∨ P2_3_ k_) ∨ w.heap.size ≤ k_)) (.slice A2_3 l2_3.length c2_3) l2_3 from Kd.V_mono hs2_3 (fun k_ hk => .inl (.inr hk)))
 have HR2_6 := Az hr2_6
 have HC2_6 := Az hc2_6
 clear hr2_6 hc2_6
 have HB := Az (Below.refl w.heap.size w)
 have H := h
 unfold p_numbers.f at H
 clear h
 by_cases c4 : a1_0 = 3
 ·rw [if_pos c4] at H
  exact absurd H (by simp)
 rw [if_neg c4] at H
 have c4b0 := beq_eq_false_iff_ne.mpr c4
 have c4b1 := bne_iff_ne.mpr c4
 by_cases c5 : a2_0 = 3
 ·rw [if_pos c5] at H
  exact absurd H (by simp)
 rw [if_neg c5] at H
 have c5b0 := beq_eq_false_iff_ne.mpr c5
 have c5b1 := bne_iff_ne.mpr c5
 by_cases c6 : a0 = 4
 ·rw [if_pos c6] at H
  have c6b0 := beq_iff_eq.mpr c6
  have c6b1 := bne_eq_false_iff_eq.mpr c6
  clear c6
  obtain ⟨⟨t532, t533⟩, A7, H⟩ := bd H
  by_cases c8 : (t533.length : Int) = 0
  ·rw [if_pos c8] at H
   exact absurd H (by simp)
  rw [if_neg c8] at H
  exact absurd H (by simp)
 rw [if_neg c6] at H
 have c6b0 := beq_eq_false_iff_ne.mpr c6
 have c6b1 := bne_iff_ne.mpr c6
 obtain ⟨⟨t507, t508⟩, A9, H⟩ := bd H
 obtain ⟨⟨t511, t512⟩, A10, H⟩ := bd H
 obtain ⟨⟨t515, t516, t519⟩, A11, H⟩ := bd H
 by_cases c12 : t519 = 0
 case neg =>
  rw [if_neg c12] at H
  exact absurd H (by simp)
 rw [if_pos c12] at H
 have c12b0 := beq_iff_eq.mpr c12
 have c12b1 := bne_eq_false_iff_eq.mpr c12
 clear c12
 obtain ⟨⟨t521, t522, t523, t524, t527, t528, t529⟩, A13, H⟩ := bd H
 simp only [Option.some.injEq, Prod.mk.injEq] at H
 obtain ⟨rfl, rfl, rfl, rfl, rfl, rfl, rfl, rfl⟩ := H
 go_enter Tryz.func39, Tryz.ntmps39
 try go_wp2_with (first | ((try (refine gate_guard (by rfl) ?_; dsimp only)); refine be 4 #[.int .i64 a1_0, .bool a1_1, .bool a1_2, .slice A1_3 l1_3.length c1_3, .int .u64 a1_4, .string a1_5, .slice A1_6 l1_6.length c1_6] 28 ?_; intro gb504 hg w14 hbox hb; replace HO1_3 := Az (Kd.V_below (Kd.V_elderB (vk HO1_3) gb504 (Nat.le_of_eq hg.symm)) hb); replace HO2_3 := Az (Kd.V_below (Kd.V_elderB (vk HO2_3) gb504 (Nat.le_of_eq hg.symm)) hb); have BK504 := Az (hbox); have GW504 := gw (bl HB) hg; have GE504 := gw (bl HB) hg; replace HB := bs HB hb; clear hb hbox hg) | ((try (refine gate_guard (by rfl) ?_; dsimp only)); refine be 5 #[.int .i64 a2_0, .bool a2_1, .bool a2_2, .slice A2_3 l2_3.length c2_3, .int .u64 a2_4, .string a2_5, .slice A2_6 l2_6.length c2_6] 28 ?_; intro gb505 hg w15 hbox hb; replace HO1_3 := Az (Kd.V_below (Kd.V_elderB (vk HO1_3) gb505 (Nat.le_of_eq hg.symm)) hb); replace HO2_3 := Az (Kd.V_below (Kd.V_elderB (vk HO2_3) gb505 (Nat.le_of_eq hg.symm)) hb); have BK505 := Az (hbox); have GW505 := gw (bls HB) hg; have GE505 := gw (bls HB) hg; replace HB := bs HB hb; have NB504_505 := nl BK504 hg; have NB505_504 := ng BK504 hg; replace BK504 := kb BK504 hb; clear hb hbox hg) | ((try (refine gate_guard (by rfl) ?_; dsimp only)); refine be 6 #[.int .i64 0, .bool false, .bool false, .slice none 0 0, .int .u64 0, .string (⟨#[]⟩ : ByteArray), .slice none 0 0] 28 ?_; intro gb506 hg w16 hbox hb; replace HO1_3 := Az (Kd.V_below (Kd.V_elderB (vk HO1_3) gb506 (Nat.le_of_eq hg.symm)) hb); replace HO2_3 := Az (Kd.V_below (Kd.V_elderB (vk HO2_3) gb506 (Nat.le_of_eq hg.symm)) hb); have BK506 := Az (hbox); have GW506 := gw (bls HB) hg; have GE506 := gw (bls HB) hg; replace HB := bs HB hb; have NB504_506 := nl BK504 hg; have NB506_504 := ng BK504 hg; replace BK504 := kb BK504 hb; have NB505_506 := nl BK505 hg; have NB506_505 := ng BK505 hg; replace BK505 := kb BK505 hb; clear hb hbox hg; have hnb17 := NB504_505.out; have hnc17 := NB505_504.out; have hnb18 := NB504_506.out; have hnc18 := NB506_504.out; have hz19_1 := bz BK504; have hnb20 := NB505_506.out; have hnc20 := NB506_505.out; have hz21_1 := bz BK505))
 replace HO1_3 := Az (Kd.V_drew HO1_3.out)
 replace HO2_3 := Az (Kd.V_drew HO2_3.out)
 replace BK504 := Az (blk_drew BK504.out)
 replace BK505 := Az (blk_drew BK505.out)
 replace BK506 := Az (blk_drew BK506.out)
 replace HB := Az (below_drew1 HB.out)
 refine start_ (n := 12) (S := fun w' => w'.cell? ⟨gb504, 0, none⟩ = some (.int .i64 a1_0) ∧ w'.cell? ⟨gb504, 1, none⟩ = some (.bool a1_1) ∧ w'.cell? ⟨gb504, 2, none⟩ = some (.bool a1_2) ∧ w'.cell? ⟨gb504, 3, none⟩ = some (.slice A1_3 l1_3.length c1_3) ∧ w'.cell? ⟨gb504, 4, none⟩ = some (.int .u64 a1_4) ∧ w'.cell? ⟨gb504, 5, none⟩ = some (.string a1_5) ∧ w'.cell? ⟨gb504, 6, none⟩ = some (.slice A1_6 l1_6.length c1_6) ∧ w'.cell? ⟨gb505, 0, none⟩ = some (.int .i64 a2_0) ∧ w'.cell? ⟨gb505, 1, none⟩ = some (.bool a2_1) ∧ w'.cell? ⟨gb505, 2, none⟩ = some (.bool a2_2) ∧ w'.cell? ⟨gb505, 3, none⟩ = some (.slice A2_3 l2_3.length c2_3) ∧ w'.cell? ⟨gb505, 4, none⟩ = some (.int .u64 a2_4) ∧ w'.cell? ⟨gb505, 5, none⟩ = some (.string a2_5) ∧ w'.cell? ⟨gb505, 6, none⟩ = some (.slice A2_6 l2_6.length c2_6)) (ds := []) (bm 12 0) (by kernel_rfl) rfl rfl ⟨(blk_cell BK504.out 0).trans rfl, (blk_cell BK504.out 1).trans rfl, (blk_cell BK504.out 2).trans rfl, (blk_cell BK504.out 3).trans rfl, (blk_cell BK504.out 4).trans rfl, (blk_cell BK504.out 5).trans rfl, (blk_cell BK504.out 6).trans rfl, (blk_cell BK505.out 0).trans rfl, (blk_cell BK505.out 1).trans rfl, (blk_cell BK505.out 2).trans rfl, (blk_cell BK505.out 3).trans rfl, (blk_cell BK505.out 4).trans rfl, (blk_cell BK505.out 5).trans rfl, (blk_cell BK505.out 6).trans rfl⟩ (fun hHeld => ?_); refine with_tabW p_numbers.tab5 p_numbers.bits5 (fun HT_ HW_ => ?_)
 generalize w16.drew = w22 at HO1_3 HO2_3 BK504 BK505 BK506 HB hHeld ⊢
 refine pu 0 (some 36) (bm 12 1) HT_.out ?_
 refine tk 1 (some 37) (bm 12 3) HT_.out HW_.out hHeld ?_
 refine tk 3 (some 39) (bm 12 11) HT_.out HW_.out hHeld ?_
 refine join_ (σ := Value × Value × Value × Nat) 2 (bm 12 1023) (fun s_ => [(38, .agg #[.bool t507, s_.1]), (40, .agg #[.bool t511, s_.2.1]), (41, .tuple #[.agg #[.bool t515, s_.2.2.1], .int .i64 t519]), (9, .pointer (some ⟨s_.2.2.2, 0, none⟩)), (35, .tuple #[.agg #[.bool t515, s_.2.2.1], .int .i64 t519]), (42, .agg #[.bool t515, s_.2.2.1]), (43, .int .i64 t519)]) (fun s_ w' => (w'.cell? ⟨gb504, 0, none⟩ = some (.int .i64 a1_0) ∧ w'.cell? ⟨gb504, 1, none⟩ = some (.bool a1_1) ∧ w'.cell? ⟨gb504, 2, none⟩ = some (.bool a1_2) ∧ w'.cell? ⟨gb504, 3, none⟩ = some (.slice A1_3 l1_3.length c1_3) ∧ w'.cell? ⟨gb504, 4, none⟩ = some (.int .u64 a1_4) ∧ w'.cell? ⟨gb504, 5, none⟩ = some (.string a1_5) ∧ w'.cell? ⟨gb504, 6, none⟩ = some (.slice A1_6 l1_6.length c1_6) ∧ w'.cell? ⟨gb505, 0, none⟩ = some (.int .i64 a2_0) ∧ w'.cell? ⟨gb505, 1, none⟩ = some (.bool a2_1) ∧ w'.cell? ⟨gb505, 2, none⟩ = some (.bool a2_2) ∧ w'.cell? ⟨gb505, 3, none⟩ = some (.slice A2_3 l2_3.length c2_3) ∧ w'.cell? ⟨gb505, 4, none⟩ = some (.int .u64 a2_4) ∧ w'.cell? ⟨gb505, 5, none⟩ = some (.string a2_5) ∧ w'.cell? ⟨gb505, 6, none⟩ = some (.slice A2_6 l2_6.length c2_6)) ∧ (Kd.V (Kd.int .u64) 25 w' w.heap.size (fun k_ => ((P1_3_ k_ ∨ P2_3_ k_) ∨ w.heap.size ≤ k_) ∧ some k_ ≠ (s_.2.2.1 : Value).ownBlock ∧ k_ ≠ gb504 ∧ k_ ≠ gb505 ∧ k_ ≠ gb506 ∧ k_ ≠ s_.2.2.2) (.slice A1_3 l1_3.length c1_3) l1_3) ∧ (Kd.V (Kd.int .u64) 25 w' w.heap.size (fun k_ => ((P1_3_ k_ ∨ P2_3_ k_) ∨ w.heap.size ≤ k_) ∧ some k_ ≠ (s_.2.2.1 : Value).ownBlock ∧ k_ ≠ gb504 ∧ k_ ≠ gb505 ∧ k_ ≠ gb506 ∧ k_ ≠ s_.2.2.2) (.slice A2_3 l2_3.length c2_3) l2_3) ∧ (Kd.V (Kd.int .u64) 25 w' w.heap.size (fun k_ => ((P1_3_ k_ ∨ P2_3_ k_) ∨ w.heap.size ≤ k_) ∧ some k_ ≠ (s_.2.2.1 : Value).ownBlock ∧ k_ ≠ gb504 ∧ k_ ≠ gb505 ∧ k_ ≠ gb506 ∧ k_ ≠ s_.2.2.2) s_.1 t508) ∧ (Kd.V (Kd.int .u64) 25 w' w.heap.size (fun k_ => ((P1_3_ k_ ∨ P2_3_ k_) ∨ w.heap.size ≤ k_) ∧ some k_ ≠ (s_.2.2.1 : Value).ownBlock ∧ k_ ≠ gb504 ∧ k_ ≠ gb505 ∧ k_ ≠ gb506 ∧ k_ ≠ s_.2.2.2) s_.2.1 t512) ∧ (Kd.R (Kd.int .u64) 25 w' w.heap.size (fun k_ => (w.heap.size ≤ k_)) s_.2.2.1 t516) ∧ (w'.heap[gb504]? = some (.cells #[.int .i64 a1_0, .bool a1_1, .bool a1_2, .slice A1_3 l1_3.length c1_3, .int .u64 a1_4, .string a1_5, .slice A1_6 l1_6.length c1_6] 28 (0, 0))) ∧ (w'.heap[gb505]? = some (.cells #[.int .i64 a2_0, .bool a2_1, .bool a2_2, .slice A2_3 l2_3.length c2_3, .int .u64 a2_4, .string a2_5, .slice A2_6 l2_6.length c2_6] 28 (0, 0))) ∧ (w'.heap[gb506]? = some (.cells #[.int .i64 0, .bool false, .bool false, .slice none 0 0, .int .u64 0, .string (⟨#[]⟩ : ByteArray), .slice none 0 0] 28 (0, 0))) ∧ (w'.heap[s_.2.2.2]? = some (.cells #[.bool false, .slice none 0 0] 24 (0, 0))) ∧ (w.heap.size ≤ s_.2.2.2) ∧ (w.heap.size ≤ s_.2.2.2) ∧ (gb504 ≠ s_.2.2.2) ∧ (s_.2.2.2 ≠ gb504) ∧ (gb505 ≠ s_.2.2.2) ∧ (s_.2.2.2 ≠ gb505) ∧ (gb506 ≠ s_.2.2.2) ∧ (s_.2.2.2 ≠ gb506) ∧ (Below w.heap.size w w')) ?_ ?_
 rotate_left
 ·intro hCont
  refine two_ (i := 2) (j := 9) (Ni := some 38) (Nj := some 9) (bm 12 15) (bm 12 523) rfl rfl rfl rfl (two_of HT_.out (by kernel_rfl)) (by decide) (by decide) (fun K hK => ?_) (fun K hK => ?_)
  ·skip
   refine gs Tryz.func37 #[.agg #[.int .i64 a1_0, .bool a1_1, .bool a1_2, .slice A1_3 l1_3.length c1_3, .int .u64 a1_4, .string a1_5, .slice A1_6 l1_6.length c1_6]] ?_
   with_reducible refine (p_count.calls a1_0 a1_1 a1_2 (fun k_ => (((((P1_3_ k_ ∨ P2_3_ k_) ∨ w.heap.size ≤ k_) ∧ k_ ≠ gb504) ∧ k_ ≠ gb505) ∧ k_ ≠ gb506)) _ _ l1_3 a1_4 a1_5 _ _ l1_6 t507 t508 _ ?side1 (ck HR1_6 HB) HC1_6.out A9.out).mono ?_
   (case side1 => exact HO1_3.out)
   rintro e w23 ⟨v509, rfl, ho0, hb⟩
   refine ⟨_, rfl, ?_⟩
   replace HO1_3 := Az (Kd.V_below (vk HO1_3) hb)
   replace HO2_3 := Az (Kd.V_below (vk HO2_3) hb)
   have HO510 := Az (Kd.V_lower (Kd.V_mono (ok' := fun k_ => ((P1_3_ k_ ∨ P2_3_ k_) ∨ w.heap.size ≤ k_) ∧ k_ ≠ gb504 ∧ k_ ≠ gb505 ∧ k_ ≠ gb506) ho0 (fun k_ hk_ => ⟨Or.elim hk_ (fun hs_ => hs_.1.1.1) (fun hn_ => (.inr (Nat.le_trans (below_size (bls HB)) hn_))), Or.elim hk_ (fun hs_ => hs_.1.1.2) (fun hn_ => (Kd.freshB (g := gb504) (o := .cells #[.int .i64 a1_0, .bool a1_1, .bool a1_2, .slice A1_3 l1_3.length c1_3, .int .u64 a1_4, .string a1_5, .slice A1_6 l1_6.length c1_6] 28 (0, 0)) (bk BK504) k_ hn_)), Or.elim hk_ (fun hs_ => hs_.1.2) (fun hn_ => (Kd.freshB (g := gb505) (o := .cells #[.int .i64 a2_0, .bool a2_1, .bool a2_2, .slice A2_3 l2_3.length c2_3, .int .u64 a2_4, .string a2_5, .slice A2_6 l2_6.length c2_6] 28 (0, 0)) (bk BK505) k_ hn_)), Or.elim hk_ (fun hs_ => hs_.2) (fun hn_ => (Kd.freshB (g := gb506) (o := .cells #[.int .i64 0, .bool false, .bool false, .slice none 0 0, .int .u64 0, .string (⟨#[]⟩ : ByteArray), .slice none 0 0] 28 (0, 0)) (bk BK506) k_ hn_))⟩)) (below_size (bls HB)))
   replace BK504 := kb BK504 hb
   replace BK505 := kb BK505 hb
   replace BK506 := kb BK506 hb
   replace HB := bs HB hb
   refine hK.out _ _ hd (fun hHeld => ?_)
   clear hK K
   refine nm ?_
   refine two_ (i := 4) (j := 9) (Ni := some 40) (Nj := some 9) (bm 12 31) (bm 12 527) rfl rfl rfl rfl (two_of HT_.out (by kernel_rfl)) (by decide) (by decide) (fun K hK => ?_) (fun K hK => ?_)
   ·skip
    refine gs Tryz.func37 #[.agg #[.int .i64 a2_0, .bool a2_1, .bool a2_2, .slice A2_3 l2_3.length c2_3, .int .u64 a2_4, .string a2_5, .slice A2_6 l2_6.length c2_6]] ?_
    with_reducible refine (p_count.calls a2_0 a2_1 a2_2 (fun k_ => (((((P1_3_ k_ ∨ P2_3_ k_) ∨ w.heap.size ≤ k_) ∧ k_ ≠ gb504) ∧ k_ ≠ gb505) ∧ k_ ≠ gb506)) _ _ l2_3 a2_4 a2_5 _ _ l2_6 t511 t512 _ ?side1 (ck HR2_6 HB) HC2_6.out A10.out).mono ?_
    (case side1 => exact HO2_3.out)
    rintro e w24 ⟨v513, rfl, ho0, hb⟩
    refine ⟨_, rfl, ?_⟩
    replace HO1_3 := Az (Kd.V_below (vk HO1_3) hb)
    replace HO2_3 := Az (Kd.V_below (vk HO2_3) hb)
    replace HO510 := Az (Kd.V_below (vk HO510) hb)
    have HO514 := Az (Kd.V_lower (Kd.V_mono (ok' := fun k_ => ((P1_3_ k_ ∨ P2_3_ k_) ∨ w.heap.size ≤ k_) ∧ k_ ≠ gb504 ∧ k_ ≠ gb505 ∧ k_ ≠ gb506) ho0 (fun k_ hk_ => ⟨Or.elim hk_ (fun hs_ => hs_.1.1.1) (fun hn_ => (.inr (Nat.le_trans (below_size (bls HB)) hn_))), Or.elim hk_ (fun hs_ => hs_.1.1.2) (fun hn_ => (Kd.freshB (g := gb504) (o := .cells #[.int .i64 a1_0, .bool a1_1, .bool a1_2, .slice A1_3 l1_3.length c1_3, .int .u64 a1_4, .string a1_5, .slice A1_6 l1_6.length c1_6] 28 (0, 0)) (bk BK504) k_ hn_)), Or.elim hk_ (fun hs_ => hs_.1.2) (fun hn_ => (Kd.freshB (g := gb505) (o := .cells #[.int .i64 a2_0, .bool a2_1, .bool a2_2, .slice A2_3 l2_3.length c2_3, .int .u64 a2_4, .string a2_5, .slice A2_6 l2_6.length c2_6] 28 (0, 0)) (bk BK505) k_ hn_)), Or.elim hk_ (fun hs_ => hs_.2) (fun hn_ => (Kd.freshB (g := gb506) (o := .cells #[.int .i64 0, .bool false, .bool false, .slice none 0 0, .int .u64 0, .string (⟨#[]⟩ : ByteArray), .slice none 0 0] 28 (0, 0)) (bk BK506) k_ hn_))⟩)) (below_size (bls HB)))
    replace BK504 := kb BK504 hb
    replace BK505 := kb BK505 hb
    replace BK506 := kb BK506 hb
    replace HB := bs HB hb
    obtain ⟨Ao25, co25, eo25⟩ := Kd.V_slice HO510.out
    (first | subst eo25 | (injection eo25 with f1_ f2_ f3_; have f4_ := f1_.symm; have f5_ := f3_.symm; clear f1_ f2_ f3_; subst f4_; subst f5_))
    obtain ⟨Ao26, co26, eo26⟩ := Kd.V_slice HO514.out
    (first | subst eo26 | (injection eo26 with f1_ f2_ f3_; have f4_ := f1_.symm; have f5_ := f3_.symm; clear f1_ f2_ f3_; subst f4_; subst f5_))
    refine hK.out _ _ hd (fun hHeld => ?_)
    clear hK K
    refine nm ?_
    refine two_ (i := 5) (j := 9) (Ni := some 41) (Nj := some 9) (bm 12 63) (bm 12 543) rfl rfl rfl rfl (two_of HT_.out (by kernel_rfl)) (by decide) (by decide) (fun K hK => ?_) (fun K hK => ?_)
    ·skip
     refine gs Tryz.func66 #[.int .i64 a0, .agg #[.bool t507, .slice Ao25 t508.length co25], .agg #[.bool t511, .slice Ao26 t512.length co26]] ?_
     with_reducible refine (p_wholes.calls k a0 t507 _ _ t508 t511 _ _ t512 t515 t516 t519 _ ?side1 (Kd.V_reads' HO510.out).2.1 ?side3 (Kd.V_reads' HO514.out).2.1 A11.out).mono ?_
     (case side1 => exact (Kd.V_reads' HO510.out).2.2)
     (case side3 => exact (Kd.V_reads' HO514.out).2.2)
     rintro e w27 ⟨v517, rfl, ho0, hb⟩
     refine ⟨_, rfl, ?_⟩
     replace HO1_3 := Az (Kd.V_elder' (vk HO1_3) (Kd.R_base ho0) hb)
     replace HO2_3 := Az (Kd.V_elder' (vk HO2_3) (Kd.R_base ho0) hb)
     replace HO510 := Az (Kd.V_elder' (vk HO510) (Kd.R_base ho0) hb)
     replace HO514 := Az (Kd.V_elder' (vk HO514) (Kd.R_base ho0) hb)
     have HO518 := Az (Kd.R_lower (Kd.R_newM (M := fun k_ => (w.heap.size ≤ k_)) ho0 (below_size (bls HB)) (fun k_ h_ => h_)) (below_size (bls HB)))
     replace BK504 := kb BK504 hb
     replace BK505 := kb BK505 hb
     replace BK506 := kb BK506 hb
     replace HB := bs HB hb
     refine hK.out _ _ hd (fun hHeld => ?_)
     clear hK K
     refine nm ?_
     refine pu 6 (some 35) (bm 12 127) HT_.out ?_
     refine pu 7 (some 42) (bm 12 255) HT_.out ?_
     refine pu 8 (some 43) (bm 12 511) HT_.out ?_
     refine on 9 (some 9) (bm 12 1023) HT_.out (fun K hK => ?_)
     refine box_step ?hg (N := 9) ?hd (cs := #[.bool false, .slice none 0 0]) (t := 24) ?hr ?_; (case hd => rfl); (case hg => rfl); (case hr => first | (go_simp; done) | (go_simp; rfl))
     intro gb520 hg w28 hbox hb
     replace HO1_3 := Az (Kd.V_below (Kd.V_elderB (vk HO1_3) gb520 (Nat.le_of_eq hg.symm)) hb)
     replace HO2_3 := Az (Kd.V_below (Kd.V_elderB (vk HO2_3) gb520 (Nat.le_of_eq hg.symm)) hb)
     replace HO510 := Az (Kd.V_below (Kd.V_elderB (vk HO510) gb520 (Nat.le_of_eq hg.symm)) hb)
     replace HO514 := Az (Kd.V_below (Kd.V_elderB (vk HO514) gb520 (Nat.le_of_eq hg.symm)) hb)
     replace HO518 := Az (Kd.R_below (rk HO518) hb)
     have BK520 := Az (hbox)
     have GW520 := gw (bls HB) hg
     have GE520 := gw (bls HB) hg
     replace HB := bs HB hb
     have NB504_520 := nl BK504 hg
     have NB520_504 := ng BK504 hg
     replace BK504 := kb BK504 hb
     have NB505_520 := nl BK505 hg
     have NB520_505 := ng BK505 hg
     replace BK505 := kb BK505 hb
     have NB506_520 := nl BK506 hg
     have NB520_506 := ng BK506 hg
     replace BK506 := kb BK506 hb
     clear hb hbox hg
     refine hK.out _ _ hd (fun hHeld => ?_)
     clear hK K
     refine nm ?_
     exact norm_ (by simp only [putAll, Act.put, List.setIfInBounds_toArray, List.set_cons_zero, List.set_cons_succ]) (hCont (.slice Ao25 t508.length co25, .slice Ao26 t512.length co26, v517, gb520) _ ⟨hHeld, (vt (Kd.V_mono HO1_3.out (fun _ hk => ⟨hk.1.1.1.1.1, ⟨hk.1.2, ⟨hk.1.1.1.1.2, ⟨hk.1.1.1.2, ⟨hk.1.1.2, hk.2⟩⟩⟩⟩⟩))), (vt (Kd.V_mono HO2_3.out (fun _ hk => ⟨hk.1.1.1.1.1, ⟨hk.1.2, ⟨hk.1.1.1.1.2, ⟨hk.1.1.1.2, ⟨hk.1.1.2, hk.2⟩⟩⟩⟩⟩))), (vt (Kd.V_mono HO510.out (fun _ hk => ⟨hk.1.1.1, ⟨hk.1.2, ⟨hk.1.1.2.1, ⟨hk.1.1.2.2.1, ⟨hk.1.1.2.2.2, hk.2⟩⟩⟩⟩⟩))), (vt (Kd.V_mono HO514.out (fun _ hk => ⟨hk.1.1.1, ⟨hk.1.2, ⟨hk.1.1.2.1, ⟨hk.1.1.2.2.1, ⟨hk.1.1.2.2.2, hk.2⟩⟩⟩⟩⟩))), (rt (Kd.R_mono HO518.out (fun _ hk => hk.1))), (bk BK504), (bk BK505), (bk BK506), (bk BK520), GW520.out, GE520.out, NB504_520.out, NB520_504.out, NB505_520.out, NB520_505.out, NB506_520.out, NB520_506.out, (bls HB)⟩)
    ·skip
     refine box_step ?hg (N := 9) ?hd (cs := #[.bool false, .slice none 0 0]) (t := 24) ?hr ?_; (case hd => rfl); (case hg => rfl); (case hr => first | (go_simp; done) | (go_simp; rfl))
     intro gb520 hg w25 hbox hb
     replace HO1_3 := Az (Kd.V_below (Kd.V_elderB (vk HO1_3) gb520 (Nat.le_of_eq hg.symm)) hb)
     replace HO2_3 := Az (Kd.V_below (Kd.V_elderB (vk HO2_3) gb520 (Nat.le_of_eq hg.symm)) hb)
     replace HO510 := Az (Kd.V_below (Kd.V_elderB (vk HO510) gb520 (Nat.le_of_eq hg.symm)) hb)
     replace HO514 := Az (Kd.V_below (Kd.V_elderB (vk HO514) gb520 (Nat.le_of_eq hg.symm)) hb)
     have BK520 := Az (hbox)
     have GW520 := gw (bls HB) hg
     have GE520 := gw (bls HB) hg
     replace HB := bs HB hb
     have NB504_520 := nl BK504 hg
     have NB520_504 := ng BK504 hg
     replace BK504 := kb BK504 hb
     have NB505_520 := nl BK505 hg
     have NB520_505 := ng BK505 hg
     replace BK505 := kb BK505 hb
     have NB506_520 := nl BK506 hg
     have NB520_506 := ng BK506 hg
     replace BK506 := kb BK506 hb
     clear hb hbox hg
     obtain ⟨Ao26, co26, eo26⟩ := Kd.V_slice HO510.out
     (first | subst eo26 | (injection eo26 with f1_ f2_ f3_; have f4_ := f1_.symm; have f5_ := f3_.symm; clear f1_ f2_ f3_; subst f4_; subst f5_))
     obtain ⟨Ao27, co27, eo27⟩ := Kd.V_slice HO514.out
     (first | subst eo27 | (injection eo27 with f1_ f2_ f3_; have f4_ := f1_.symm; have f5_ := f3_.symm; clear f1_ f2_ f3_; subst f4_; subst f5_))
     refine hK.out _ _ hd (fun hHeld => ?_)
     clear hK K
     refine nm ?_
     refine on 5 (some 41) (bm 12 575) HT_.out (fun K hK => ?_)
     refine gs Tryz.func66 #[.int .i64 a0, .agg #[.bool t507, .slice Ao26 t508.length co26], .agg #[.bool t511, .slice Ao27 t512.length co27]] ?_
     with_reducible refine (p_wholes.calls k a0 t507 _ _ t508 t511 _ _ t512 t515 t516 t519 _ ?side1 (Kd.V_reads' HO510.out).2.1 ?side3 (Kd.V_reads' HO514.out).2.1 A11.out).mono ?_
     (case side1 => exact (Kd.V_reads' HO510.out).2.2)
     (case side3 => exact (Kd.V_reads' HO514.out).2.2)
     rintro e w28 ⟨v517, rfl, ho0, hb⟩
     refine ⟨_, rfl, ?_⟩
     replace HO1_3 := Az (Kd.V_elder' (vk HO1_3) (Kd.R_base ho0) hb)
     replace HO2_3 := Az (Kd.V_elder' (vk HO2_3) (Kd.R_base ho0) hb)
     replace HO510 := Az (Kd.V_elder' (vk HO510) (Kd.R_base ho0) hb)
     replace HO514 := Az (Kd.V_elder' (vk HO514) (Kd.R_base ho0) hb)
     have HO518 := Az (Kd.R_lower (Kd.R_newM (M := fun k_ => (w.heap.size ≤ k_)) ho0 (below_size (bls HB)) (fun k_ h_ => h_)) (below_size (bls HB)))
     replace BK504 := kb BK504 hb
     replace BK505 := kb BK505 hb
     replace BK506 := kb BK506 hb
     replace BK520 := kb BK520 hb
     replace HB := bs HB hb
     refine hK.out _ _ hd (fun hHeld => ?_)
     clear hK K
     refine nm ?_
     refine pu 6 (some 35) (bm 12 639) HT_.out ?_
     refine pu 7 (some 42) (bm 12 767) HT_.out ?_
     refine pu 8 (some 43) (bm 12 1023) HT_.out ?_
     exact norm_ (by simp only [putAll, Act.put, List.setIfInBounds_toArray, List.set_cons_zero, List.set_cons_succ]) (hCont (.slice Ao26 t508.length co26, .slice Ao27 t512.length co27, v517, gb520) _ ⟨hHeld, (vt (Kd.V_mono HO1_3.out (fun _ hk => ⟨hk.1.1.1.1.1, ⟨hk.2, ⟨hk.1.1.1.1.2, ⟨hk.1.1.1.2, ⟨hk.1.1.2, hk.1.2⟩⟩⟩⟩⟩))), (vt (Kd.V_mono HO2_3.out (fun _ hk => ⟨hk.1.1.1.1.1, ⟨hk.2, ⟨hk.1.1.1.1.2, ⟨hk.1.1.1.2, ⟨hk.1.1.2, hk.1.2⟩⟩⟩⟩⟩))), (vt (Kd.V_mono HO510.out (fun _ hk => ⟨hk.1.1.1, ⟨hk.2, ⟨hk.1.1.2.1, ⟨hk.1.1.2.2.1, ⟨hk.1.1.2.2.2, hk.1.2⟩⟩⟩⟩⟩))), (vt (Kd.V_mono HO514.out (fun _ hk => ⟨hk.1.1.1, ⟨hk.2, ⟨hk.1.1.2.1, ⟨hk.1.1.2.2.1, ⟨hk.1.1.2.2.2, hk.1.2⟩⟩⟩⟩⟩))), (rt (Kd.R_mono HO518.out (fun _ hk => hk.1))), (bk BK504), (bk BK505), (bk BK506), (bk BK520), GW520.out, GE520.out, NB504_520.out, NB520_504.out, NB505_520.out, NB520_505.out, NB506_520.out, NB520_506.out, (bls HB)⟩)
   ·skip
    refine box_step ?hg (N := 9) ?hd (cs := #[.bool false, .slice none 0 0]) (t := 24) ?hr ?_; (case hd => rfl); (case hg => rfl); (case hr => first | (go_simp; done) | (go_simp; rfl))
    intro gb520 hg w24 hbox hb
    replace HO1_3 := Az (Kd.V_below (Kd.V_elderB (vk HO1_3) gb520 (Nat.le_of_eq hg.symm)) hb)
    replace HO2_3 := Az (Kd.V_below (Kd.V_elderB (vk HO2_3) gb520 (Nat.le_of_eq hg.symm)) hb)
    replace HO510 := Az (Kd.V_below (Kd.V_elderB (vk HO510) gb520 (Nat.le_of_eq hg.symm)) hb)
    have BK520 := Az (hbox)
    have GW520 := gw (bls HB) hg
    have GE520 := gw (bls HB) hg
    replace HB := bs HB hb
    have NB504_520 := nl BK504 hg
    have NB520_504 := ng BK504 hg
    replace BK504 := kb BK504 hb
    have NB505_520 := nl BK505 hg
    have NB520_505 := ng BK505 hg
    replace BK505 := kb BK505 hb
    have NB506_520 := nl BK506 hg
    have NB520_506 := ng BK506 hg
    replace BK506 := kb BK506 hb
    clear hb hbox hg
    refine hK.out _ _ hd (fun hHeld => ?_)
    clear hK K
    refine nm ?_
    refine on 4 (some 40) (bm 12 543) HT_.out (fun K hK => ?_)
    refine gs Tryz.func37 #[.agg #[.int .i64 a2_0, .bool a2_1, .bool a2_2, .slice A2_3 l2_3.length c2_3, .int .u64 a2_4, .string a2_5, .slice A2_6 l2_6.length c2_6]] ?_
    with_reducible refine (p_count.calls a2_0 a2_1 a2_2 (fun k_ => ((((((P1_3_ k_ ∨ P2_3_ k_) ∨ w.heap.size ≤ k_) ∧ k_ ≠ gb504) ∧ k_ ≠ gb505) ∧ k_ ≠ gb506) ∧ k_ ≠ gb520)) _ _ l2_3 a2_4 a2_5 _ _ l2_6 t511 t512 _ ?side1 (ck HR2_6 HB) HC2_6.out A10.out).mono ?_
    (case side1 => exact HO2_3.out)
    rintro e w25 ⟨v513, rfl, ho0, hb⟩
    refine ⟨_, rfl, ?_⟩
    replace HO1_3 := Az (Kd.V_below (vk HO1_3) hb)
    replace HO2_3 := Az (Kd.V_below (vk HO2_3) hb)
    replace HO510 := Az (Kd.V_below (vk HO510) hb)
    have HO514 := Az (Kd.V_lower (Kd.V_mono (ok' := fun k_ => ((P1_3_ k_ ∨ P2_3_ k_) ∨ w.heap.size ≤ k_) ∧ k_ ≠ gb504 ∧ k_ ≠ gb505 ∧ k_ ≠ gb506 ∧ k_ ≠ gb520) ho0 (fun k_ hk_ => ⟨Or.elim hk_ (fun hs_ => hs_.1.1.1.1) (fun hn_ => (.inr (Nat.le_trans (below_size (bls HB)) hn_))), Or.elim hk_ (fun hs_ => hs_.1.1.1.2) (fun hn_ => (Kd.freshB (g := gb504) (o := .cells #[.int .i64 a1_0, .bool a1_1, .bool a1_2, .slice A1_3 l1_3.length c1_3, .int .u64 a1_4, .string a1_5, .slice A1_6 l1_6.length c1_6] 28 (0, 0)) (bk BK504) k_ hn_)), Or.elim hk_ (fun hs_ => hs_.1.1.2) (fun hn_ => (Kd.freshB (g := gb505) (o := .cells #[.int .i64 a2_0, .bool a2_1, .bool a2_2, .slice A2_3 l2_3.length c2_3, .int .u64 a2_4, .string a2_5, .slice A2_6 l2_6.length c2_6] 28 (0, 0)) (bk BK505) k_ hn_)), Or.elim hk_ (fun hs_ => hs_.1.2) (fun hn_ => (Kd.freshB (g := gb506) (o := .cells #[.int .i64 0, .bool false, .bool false, .slice none 0 0, .int .u64 0, .string (⟨#[]⟩ : ByteArray), .slice none 0 0] 28 (0, 0)) (bk BK506) k_ hn_)), Or.elim hk_ (fun hs_ => hs_.2) (fun hn_ => (Kd.freshB (g := gb520) (o := .cells #[.bool false, .slice none 0 0] 24 (0, 0)) (bk BK520) k_ hn_))⟩)) (below_size (bls HB)))
    replace BK504 := kb BK504 hb
    replace BK505 := kb BK505 hb
    replace BK506 := kb BK506 hb
    replace BK520 := kb BK520 hb
    replace HB := bs HB hb
    obtain ⟨Ao26, co26, eo26⟩ := Kd.V_slice HO510.out
    (first | subst eo26 | (injection eo26 with f1_ f2_ f3_; have f4_ := f1_.symm; have f5_ := f3_.symm; clear f1_ f2_ f3_; subst f4_; subst f5_))
    obtain ⟨Ao27, co27, eo27⟩ := Kd.V_slice HO514.out
    (first | subst eo27 | (injection eo27 with f1_ f2_ f3_; have f4_ := f1_.symm; have f5_ := f3_.symm; clear f1_ f2_ f3_; subst f4_; subst f5_))
    refine hK.out _ _ hd (fun hHeld => ?_)
    clear hK K
    refine nm ?_
    refine on 5 (some 41) (bm 12 575) HT_.out (fun K hK => ?_)
    refine gs Tryz.func66 #[.int .i64 a0, .agg #[.bool t507, .slice Ao26 t508.length co26], .agg #[.bool t511, .slice Ao27 t512.length co27]] ?_
    with_reducible refine (p_wholes.calls k a0 t507 _ _ t508 t511 _ _ t512 t515 t516 t519 _ ?side1 (Kd.V_reads' HO510.out).2.1 ?side3 (Kd.V_reads' HO514.out).2.1 A11.out).mono ?_
    (case side1 => exact (Kd.V_reads' HO510.out).2.2)
    (case side3 => exact (Kd.V_reads' HO514.out).2.2)
    rintro e w28 ⟨v517, rfl, ho0, hb⟩
    refine ⟨_, rfl, ?_⟩
    replace HO1_3 := Az (Kd.V_elder' (vk HO1_3) (Kd.R_base ho0) hb)
    replace HO2_3 := Az (Kd.V_elder' (vk HO2_3) (Kd.R_base ho0) hb)
    replace HO510 := Az (Kd.V_elder' (vk HO510) (Kd.R_base ho0) hb)
    replace HO514 := Az (Kd.V_elder' (vk HO514) (Kd.R_base ho0) hb)
    have HO518 := Az (Kd.R_lower (Kd.R_newM (M := fun k_ => (w.heap.size ≤ k_)) ho0 (below_size (bls HB)) (fun k_ h_ => h_)) (below_size (bls HB)))
    replace BK504 := kb BK504 hb
    replace BK505 := kb BK505 hb
    replace BK506 := kb BK506 hb
    replace BK520 := kb BK520 hb
    replace HB := bs HB hb
    refine hK.out _ _ hd (fun hHeld => ?_)
    clear hK K
    refine nm ?_
    refine pu 6 (some 35) (bm 12 639) HT_.out ?_
    refine pu 7 (some 42) (bm 12 767) HT_.out ?_
    refine pu 8 (some 43) (bm 12 1023) HT_.out ?_
    exact norm_ (by simp only [putAll, Act.put, List.setIfInBounds_toArray, List.set_cons_zero, List.set_cons_succ]) (hCont (.slice Ao26 t508.length co26, .slice Ao27 t512.length co27, v517, gb520) _ ⟨hHeld, (vt (Kd.V_mono HO1_3.out (fun _ hk => ⟨hk.1.1.1.1.1, ⟨hk.2, ⟨hk.1.1.1.1.2, ⟨hk.1.1.1.2, ⟨hk.1.1.2, hk.1.2⟩⟩⟩⟩⟩))), (vt (Kd.V_mono HO2_3.out (fun _ hk => ⟨hk.1.1.1.1.1, ⟨hk.2, ⟨hk.1.1.1.1.2, ⟨hk.1.1.1.2, ⟨hk.1.1.2, hk.1.2⟩⟩⟩⟩⟩))), (vt (Kd.V_mono HO510.out (fun _ hk => ⟨hk.1.1.1, ⟨hk.2, ⟨hk.1.1.2.1, ⟨hk.1.1.2.2.1, ⟨hk.1.1.2.2.2, hk.1.2⟩⟩⟩⟩⟩))), (vt (Kd.V_mono HO514.out (fun _ hk => ⟨hk.1.1, ⟨hk.2, ⟨hk.1.2.1, ⟨hk.1.2.2.1, ⟨hk.1.2.2.2.1, hk.1.2.2.2.2⟩⟩⟩⟩⟩))), (rt (Kd.R_mono HO518.out (fun _ hk => hk.1))), (bk BK504), (bk BK505), (bk BK506), (bk BK520), GW520.out, GE520.out, NB504_520.out, NB520_504.out, NB505_520.out, NB520_505.out, NB506_520.out, NB520_506.out, (bls HB)⟩)
  ·skip
   refine box_step ?hg (N := 9) ?hd (cs := #[.bool false, .slice none 0 0]) (t := 24) ?hr ?_; (case hd => rfl); (case hg => rfl); (case hr => first | (go_simp; done) | (go_simp; rfl))
   intro gb520 hg w23 hbox hb
   replace HO1_3 := Az (Kd.V_below (Kd.V_elderB (vk HO1_3) gb520 (Nat.le_of_eq hg.symm)) hb)
   replace HO2_3 := Az (Kd.V_below (Kd.V_elderB (vk HO2_3) gb520 (Nat.le_of_eq hg.symm)) hb)
   have BK520 := Az (hbox)
   have GW520 := gw (bls HB) hg
   have GE520 := gw (bls HB) hg
   replace HB := bs HB hb
   have NB504_520 := nl BK504 hg
   have NB520_504 := ng BK504 hg
   replace BK504 := kb BK504 hb
   have NB505_520 := nl BK505 hg
   have NB520_505 := ng BK505 hg
   replace BK505 := kb BK505 hb
   have NB506_520 := nl BK506 hg
   have NB520_506 := ng BK506 hg
   replace BK506 := kb BK506 hb
   clear hb hbox hg
   refine hK.out _ _ hd (fun hHeld => ?_)
   clear hK K
   refine nm ?_
   refine on 2 (some 38) (bm 12 527) HT_.out (fun K hK => ?_)
   refine gs Tryz.func37 #[.agg #[.int .i64 a1_0, .bool a1_1, .bool a1_2, .slice A1_3 l1_3.length c1_3, .int .u64 a1_4, .string a1_5, .slice A1_6 l1_6.length c1_6]] ?_
   with_reducible refine (p_count.calls a1_0 a1_1 a1_2 (fun k_ => ((((((P1_3_ k_ ∨ P2_3_ k_) ∨ w.heap.size ≤ k_) ∧ k_ ≠ gb504) ∧ k_ ≠ gb505) ∧ k_ ≠ gb506) ∧ k_ ≠ gb520)) _ _ l1_3 a1_4 a1_5 _ _ l1_6 t507 t508 _ ?side1 (ck HR1_6 HB) HC1_6.out A9.out).mono ?_
   (case side1 => exact HO1_3.out)
   rintro e w24 ⟨v509, rfl, ho0, hb⟩
   refine ⟨_, rfl, ?_⟩
   replace HO1_3 := Az (Kd.V_below (vk HO1_3) hb)
   replace HO2_3 := Az (Kd.V_below (vk HO2_3) hb)
   have HO510 := Az (Kd.V_lower (Kd.V_mono (ok' := fun k_ => ((P1_3_ k_ ∨ P2_3_ k_) ∨ w.heap.size ≤ k_) ∧ k_ ≠ gb504 ∧ k_ ≠ gb505 ∧ k_ ≠ gb506 ∧ k_ ≠ gb520) ho0 (fun k_ hk_ => ⟨Or.elim hk_ (fun hs_ => hs_.1.1.1.1) (fun hn_ => (.inr (Nat.le_trans (below_size (bls HB)) hn_))), Or.elim hk_ (fun hs_ => hs_.1.1.1.2) (fun hn_ => (Kd.freshB (g := gb504) (o := .cells #[.int .i64 a1_0, .bool a1_1, .bool a1_2, .slice A1_3 l1_3.length c1_3, .int .u64 a1_4, .string a1_5, .slice A1_6 l1_6.length c1_6] 28 (0, 0)) (bk BK504) k_ hn_)), Or.elim hk_ (fun hs_ => hs_.1.1.2) (fun hn_ => (Kd.freshB (g := gb505) (o := .cells #[.int .i64 a2_0, .bool a2_1, .bool a2_2, .slice A2_3 l2_3.length c2_3, .int .u64 a2_4, .string a2_5, .slice A2_6 l2_6.length c2_6] 28 (0, 0)) (bk BK505) k_ hn_)), Or.elim hk_ (fun hs_ => hs_.1.2) (fun hn_ => (Kd.freshB (g := gb506) (o := .cells #[.int .i64 0, .bool false, .bool false, .slice none 0 0, .int .u64 0, .string (⟨#[]⟩ : ByteArray), .slice none 0 0] 28 (0, 0)) (bk BK506) k_ hn_)), Or.elim hk_ (fun hs_ => hs_.2) (fun hn_ => (Kd.freshB (g := gb520) (o := .cells #[.bool false, .slice none 0 0] 24 (0, 0)) (bk BK520) k_ hn_))⟩)) (below_size (bls HB)))
   replace BK504 := kb BK504 hb
   replace BK505 := kb BK505 hb
   replace BK506 := kb BK506 hb
   replace BK520 := kb BK520 hb
   replace HB := bs HB hb
   refine hK.out _ _ hd (fun hHeld => ?_)
   clear hK K
   refine nm ?_
   refine on 4 (some 40) (bm 12 543) HT_.out (fun K hK => ?_)
   refine gs Tryz.func37 #[.agg #[.int .i64 a2_0, .bool a2_1, .bool a2_2, .slice A2_3 l2_3.length c2_3, .int .u64 a2_4, .string a2_5, .slice A2_6 l2_6.length c2_6]] ?_
   with_reducible refine (p_count.calls a2_0 a2_1 a2_2 (fun k_ => ((((((P1_3_ k_ ∨ P2_3_ k_) ∨ w.heap.size ≤ k_) ∧ k_ ≠ gb504) ∧ k_ ≠ gb505) ∧ k_ ≠ gb506) ∧ k_ ≠ gb520)) _ _ l2_3 a2_4 a2_5 _ _ l2_6 t511 t512 _ ?side1 (ck HR2_6 HB) HC2_6.out A10.out).mono ?_
   (case side1 => exact HO2_3.out)
   rintro e w25 ⟨v513, rfl, ho0, hb⟩
   refine ⟨_, rfl, ?_⟩
   replace HO1_3 := Az (Kd.V_below (vk HO1_3) hb)
   replace HO2_3 := Az (Kd.V_below (vk HO2_3) hb)
   replace HO510 := Az (Kd.V_below (vk HO510) hb)
   have HO514 := Az (Kd.V_lower (Kd.V_mono (ok' := fun k_ => ((P1_3_ k_ ∨ P2_3_ k_) ∨ w.heap.size ≤ k_) ∧ k_ ≠ gb504 ∧ k_ ≠ gb505 ∧ k_ ≠ gb506 ∧ k_ ≠ gb520) ho0 (fun k_ hk_ => ⟨Or.elim hk_ (fun hs_ => hs_.1.1.1.1) (fun hn_ => (.inr (Nat.le_trans (below_size (bls HB)) hn_))), Or.elim hk_ (fun hs_ => hs_.1.1.1.2) (fun hn_ => (Kd.freshB (g := gb504) (o := .cells #[.int .i64 a1_0, .bool a1_1, .bool a1_2, .slice A1_3 l1_3.length c1_3, .int .u64 a1_4, .string a1_5, .slice A1_6 l1_6.length c1_6] 28 (0, 0)) (bk BK504) k_ hn_)), Or.elim hk_ (fun hs_ => hs_.1.1.2) (fun hn_ => (Kd.freshB (g := gb505) (o := .cells #[.int .i64 a2_0, .bool a2_1, .bool a2_2, .slice A2_3 l2_3.length c2_3, .int .u64 a2_4, .string a2_5, .slice A2_6 l2_6.length c2_6] 28 (0, 0)) (bk BK505) k_ hn_)), Or.elim hk_ (fun hs_ => hs_.1.2) (fun hn_ => (Kd.freshB (g := gb506) (o := .cells #[.int .i64 0, .bool false, .bool false, .slice none 0 0, .int .u64 0, .string (⟨#[]⟩ : ByteArray), .slice none 0 0] 28 (0, 0)) (bk BK506) k_ hn_)), Or.elim hk_ (fun hs_ => hs_.2) (fun hn_ => (Kd.freshB (g := gb520) (o := .cells #[.bool false, .slice none 0 0] 24 (0, 0)) (bk BK520) k_ hn_))⟩)) (below_size (bls HB)))
   replace BK504 := kb BK504 hb
   replace BK505 := kb BK505 hb
   replace BK506 := kb BK506 hb
   replace BK520 := kb BK520 hb
   replace HB := bs HB hb
   obtain ⟨Ao26, co26, eo26⟩ := Kd.V_slice HO510.out
   (first | subst eo26 | (injection eo26 with f1_ f2_ f3_; have f4_ := f1_.symm; have f5_ := f3_.symm; clear f1_ f2_ f3_; subst f4_; subst f5_))
   obtain ⟨Ao27, co27, eo27⟩ := Kd.V_slice HO514.out
   (first | subst eo27 | (injection eo27 with f1_ f2_ f3_; have f4_ := f1_.symm; have f5_ := f3_.symm; clear f1_ f2_ f3_; subst f4_; subst f5_))
   refine hK.out _ _ hd (fun hHeld => ?_)
   clear hK K
   refine nm ?_
   refine on 5 (some 41) (bm 12 575) HT_.out (fun K hK => ?_)
   refine gs Tryz.func66 #[.int .i64 a0, .agg #[.bool t507, .slice Ao26 t508.length co26], .agg #[.bool t511, .slice Ao27 t512.length co27]] ?_
   with_reducible refine (p_wholes.calls k a0 t507 _ _ t508 t511 _ _ t512 t515 t516 t519 _ ?side1 (Kd.V_reads' HO510.out).2.1 ?side3 (Kd.V_reads' HO514.out).2.1 A11.out).mono ?_
   (case side1 => exact (Kd.V_reads' HO510.out).2.2)
   (case side3 => exact (Kd.V_reads' HO514.out).2.2)
   rintro e w28 ⟨v517, rfl, ho0, hb⟩
   refine ⟨_, rfl, ?_⟩
   replace HO1_3 := Az (Kd.V_elder' (vk HO1_3) (Kd.R_base ho0) hb)
   replace HO2_3 := Az (Kd.V_elder' (vk HO2_3) (Kd.R_base ho0) hb)
   replace HO510 := Az (Kd.V_elder' (vk HO510) (Kd.R_base ho0) hb)
   replace HO514 := Az (Kd.V_elder' (vk HO514) (Kd.R_base ho0) hb)
   have HO518 := Az (Kd.R_lower (Kd.R_newM (M := fun k_ => (w.heap.size ≤ k_)) ho0 (below_size (bls HB)) (fun k_ h_ => h_)) (below_size (bls HB)))
   replace BK504 := kb BK504 hb
   replace BK505 := kb BK505 hb
   replace BK506 := kb BK506 hb
   replace BK520 := kb BK520 hb
   replace HB := bs HB hb
   refine hK.out _ _ hd (fun hHeld => ?_)
   clear hK K
   refine nm ?_
   refine pu 6 (some 35) (bm 12 639) HT_.out ?_
   refine pu 7 (some 42) (bm 12 767) HT_.out ?_
   refine pu 8 (some 43) (bm 12 1023) HT_.out ?_
   exact norm_ (by simp only [putAll, Act.put, List.setIfInBounds_toArray, List.set_cons_zero, List.set_cons_succ]) (hCont (.slice Ao26 t508.length co26, .slice Ao27 t512.length co27, v517, gb520) _ ⟨hHeld, (vt (Kd.V_mono HO1_3.out (fun _ hk => ⟨hk.1.1.1.1.1, ⟨hk.2, ⟨hk.1.1.1.1.2, ⟨hk.1.1.1.2, ⟨hk.1.1.2, hk.1.2⟩⟩⟩⟩⟩))), (vt (Kd.V_mono HO2_3.out (fun _ hk => ⟨hk.1.1.1.1.1, ⟨hk.2, ⟨hk.1.1.1.1.2, ⟨hk.1.1.1.2, ⟨hk.1.1.2, hk.1.2⟩⟩⟩⟩⟩))), (vt (Kd.V_mono HO510.out (fun _ hk => ⟨hk.1.1, ⟨hk.2, ⟨hk.1.2.1, ⟨hk.1.2.2.1, ⟨hk.1.2.2.2.1, hk.1.2.2.2.2⟩⟩⟩⟩⟩))), (vt (Kd.V_mono HO514.out (fun _ hk => ⟨hk.1.1, ⟨hk.2, ⟨hk.1.2.1, ⟨hk.1.2.2.1, ⟨hk.1.2.2.2.1, hk.1.2.2.2.2⟩⟩⟩⟩⟩))), (rt (Kd.R_mono HO518.out (fun _ hk => hk.1))), (bk BK504), (bk BK505), (bk BK506), (bk BK520), GW520.out, GE520.out, NB504_520.out, NB520_504.out, NB505_520.out, NB520_505.out, NB506_520.out, NB520_506.out, (bls HB)⟩)
 rintro ⟨v509, v513, v517, gb520⟩ w29 ⟨hS_, h0_, h1_, h2_, h3_, h4_, h5_, h6_, h7_, h8_, h9_, h10_, h11_, h12_, h13_, h14_, h15_, h16_, h17_⟩
 dsimp only at h0_ h1_ h2_ h3_ h4_ h5_ h6_ h7_ h8_ h9_ h10_ h11_ h12_ h13_ h14_ h15_ h16_ h17_
 replace HO1_3 := Az h0_
 replace HO2_3 := Az h1_
 have HO510 := Az h2_
 have HO514 := Az h3_
 have HO518 := Az h4_
 replace BK504 := Az h5_
 replace BK505 := Az h6_
 replace BK506 := Az h7_
 have BK520 := Az h8_
 have GW520 := Az h9_
 have GE520 := Az h10_
 have NB504_520 := Az h11_
 have NB520_504 := Az h12_
 have NB505_520 := Az h13_
 have NB520_505 := Az h14_
 have NB506_520 := Az h15_
 have NB520_506 := Az h16_
 replace HB := Az h17_
 clear h0_ h1_ h2_ h3_ h4_ h5_ h6_ h7_ h8_ h9_ h10_ h11_ h12_ h13_ h14_ h15_ h16_ h17_
 have hHeld : w29.cell? ⟨gb504, 0, none⟩ = some (.int .i64 a1_0) ∧ w29.cell? ⟨gb504, 1, none⟩ = some (.bool a1_1) ∧ w29.cell? ⟨gb504, 2, none⟩ = some (.bool a1_2) ∧ w29.cell? ⟨gb504, 3, none⟩ = some (.slice A1_3 l1_3.length c1_3) ∧ w29.cell? ⟨gb504, 4, none⟩ = some (.int .u64 a1_4) ∧ w29.cell? ⟨gb504, 5, none⟩ = some (.string a1_5) ∧ w29.cell? ⟨gb504, 6, none⟩ = some (.slice A1_6 l1_6.length c1_6) ∧ w29.cell? ⟨gb505, 0, none⟩ = some (.int .i64 a2_0) ∧ w29.cell? ⟨gb505, 1, none⟩ = some (.bool a2_1) ∧ w29.cell? ⟨gb505, 2, none⟩ = some (.bool a2_2) ∧ w29.cell? ⟨gb505, 3, none⟩ = some (.slice A2_3 l2_3.length c2_3) ∧ w29.cell? ⟨gb505, 4, none⟩ = some (.int .u64 a2_4) ∧ w29.cell? ⟨gb505, 5, none⟩ = some (.string a2_5) ∧ w29.cell? ⟨gb505, 6, none⟩ = some (.slice A2_6 l2_6.length c2_6) := hS_
 obtain ⟨Ao31, co31, eo31⟩ := Kd.R_slice HO518.out
 (first | subst eo31 | (injection eo31 with f1_ f2_ f3_; have f4_ := f1_.symm; have f5_ := f3_.symm; clear f1_ f2_ f3_; subst f4_; subst f5_))
 refine norm_ (a' := ?_) ?_ ?_
 rotate_left
 ·simp only [putAll, Act.put, List.setIfInBounds_toArray, List.set_cons_zero, List.set_cons_succ]
  rfl
 refine on 10 (none) (bm 12 2047) HT_.out (fun K hK => ?_)
 have hs30 : w29.cell? ⟨gb520, 0, none⟩ = some (.bool false) := (blk_cell BK520.out 0).trans rfl
 have hfs30 := blk_frozen BK520.out 0
 have hns30_0 := NB504_520.out
 have hns30_1 := NB505_520.out
 have hns30_2 := NB506_520.out
 have hms30_0 := NB520_504.out
 have hms30_1 := NB520_505.out
 have hms30_2 := NB520_506.out
 have hs32 : w29.cell? ⟨gb520, 1, none⟩ = some (.slice none 0 0) := (blk_cell BK520.out 1).trans rfl
 have hfs32 := blk_frozen BK520.out 1
 have hns32_0 := NB504_520.out
 have hns32_1 := NB505_520.out
 have hns32_2 := NB506_520.out
 have hms32_0 := NB520_504.out
 have hms32_1 := NB520_505.out
 have hms32_2 := NB520_506.out
 refine skip_ (w1 := ?_) (by rfl) rfl ?_ ?_
 rotate_left
 ·go_simp
  rfl
 refine hK.out _ _ ⟨((cell_far (p := ⟨gb520, _, none⟩) NB504_520.out _).trans (((cell_far (p := ⟨gb520, _, none⟩) NB504_520.out _).trans (hHeld.1)))), ((cell_far (p := ⟨gb520, _, none⟩) NB504_520.out _).trans (((cell_far (p := ⟨gb520, _, none⟩) NB504_520.out _).trans (hHeld.2.1)))), ((cell_far (p := ⟨gb520, _, none⟩) NB504_520.out _).trans (((cell_far (p := ⟨gb520, _, none⟩) NB504_520.out _).trans (hHeld.2.2.1)))), ((cell_far (p := ⟨gb520, _, none⟩) NB504_520.out _).trans (((cell_far (p := ⟨gb520, _, none⟩) NB504_520.out _).trans (hHeld.2.2.2.1)))), ((cell_far (p := ⟨gb520, _, none⟩) NB504_520.out _).trans (((cell_far (p := ⟨gb520, _, none⟩) NB504_520.out _).trans (hHeld.2.2.2.2.1)))), ((cell_far (p := ⟨gb520, _, none⟩) NB504_520.out _).trans (((cell_far (p := ⟨gb520, _, none⟩) NB504_520.out _).trans (hHeld.2.2.2.2.2.1)))), ((cell_far (p := ⟨gb520, _, none⟩) NB504_520.out _).trans (((cell_far (p := ⟨gb520, _, none⟩) NB504_520.out _).trans (hHeld.2.2.2.2.2.2.1)))), ((cell_far (p := ⟨gb520, _, none⟩) NB505_520.out _).trans (((cell_far (p := ⟨gb520, _, none⟩) NB505_520.out _).trans (hHeld.2.2.2.2.2.2.2.1)))), ((cell_far (p := ⟨gb520, _, none⟩) NB505_520.out _).trans (((cell_far (p := ⟨gb520, _, none⟩) NB505_520.out _).trans (hHeld.2.2.2.2.2.2.2.2.1)))), ((cell_far (p := ⟨gb520, _, none⟩) NB505_520.out _).trans (((cell_far (p := ⟨gb520, _, none⟩) NB505_520.out _).trans (hHeld.2.2.2.2.2.2.2.2.2.1)))), ((cell_far (p := ⟨gb520, _, none⟩) NB505_520.out _).trans (((cell_far (p := ⟨gb520, _, none⟩) NB505_520.out _).trans (hHeld.2.2.2.2.2.2.2.2.2.2.1)))), ((cell_far (p := ⟨gb520, _, none⟩) NB505_520.out _).trans (((cell_far (p := ⟨gb520, _, none⟩) NB505_520.out _).trans (hHeld.2.2.2.2.2.2.2.2.2.2.2.1)))), ((cell_far (p := ⟨gb520, _, none⟩) NB505_520.out _).trans (((cell_far (p := ⟨gb520, _, none⟩) NB505_520.out _).trans (hHeld.2.2.2.2.2.2.2.2.2.2.2.2.1)))), ((cell_far (p := ⟨gb520, _, none⟩) NB505_520.out _).trans (((cell_far (p := ⟨gb520, _, none⟩) NB505_520.out _).trans (hHeld.2.2.2.2.2.2.2.2.2.2.2.2.2))))⟩ (fun hHeld => ?_)
 clear hK K
 refine pu 11 (some 10) (bm 12 4095) HT_.out ?_
 refine done_ (done_of HT_.out (by kernel_rfl)) ?_
 have n_ : (fun W_ : World => Aside0 (Kd.V (Kd.int .u64) 25 W_ w.heap.size (fun k_ => ((P1_3_ k_ ∨ P2_3_ k_) ∨ w.heap.size ≤ k_) ∧ some k_ ≠ (.slice Ao31 t516.length co31 : Value).ownBlock ∧ k_ ≠ gb504 ∧ k_ ≠ gb505 ∧ k_ ≠ gb506 ∧ k_ ≠ gb520) (.slice A1_3 l1_3.length c1_3) l1_3) ∧ Aside0 (Kd.V (Kd.int .u64) 25 W_ w.heap.size (fun k_ => ((P1_3_ k_ ∨ P2_3_ k_) ∨ w.heap.size ≤ k_) ∧ some k_ ≠ (.slice Ao31 t516.length co31 : Value).ownBlock ∧ k_ ≠ gb504 ∧ k_ ≠ gb505 ∧ k_ ≠ gb506 ∧ k_ ≠ gb520) (.slice A2_3 l2_3.length c2_3) l2_3) ∧ Aside0 (Kd.V (Kd.int .u64) 25 W_ w.heap.size (fun k_ => ((P1_3_ k_ ∨ P2_3_ k_) ∨ w.heap.size ≤ k_) ∧ some k_ ≠ (.slice Ao31 t516.length co31 : Value).ownBlock ∧ k_ ≠ gb504 ∧ k_ ≠ gb505 ∧ k_ ≠ gb506 ∧ k_ ≠ gb520) v509 t508) ∧ Aside0 (Kd.V (Kd.int .u64) 25 W_ w.heap.size (fun k_ => ((P1_3_ k_ ∨ P2_3_ k_) ∨ w.heap.size ≤ k_) ∧ some k_ ≠ (.slice Ao31 t516.length co31 : Value).ownBlock ∧ k_ ≠ gb504 ∧ k_ ≠ gb505 ∧ k_ ≠ gb506 ∧ k_ ≠ gb520) v513 t512) ∧ Aside0 (Kd.R (Kd.int .u64) 25 W_ w.heap.size (fun k_ => (w.heap.size ≤ k_)) (.slice Ao31 t516.length co31) t516) ∧ Aside0 (W_.heap[gb504]? = some (.cells #[.int .i64 a1_0, .bool a1_1, .bool a1_2, .slice A1_3 l1_3.length c1_3, .int .u64 a1_4, .string a1_5, .slice A1_6 l1_6.length c1_6] 28 (0, 0))) ∧ Aside0 (W_.heap[gb505]? = some (.cells #[.int .i64 a2_0, .bool a2_1, .bool a2_2, .slice A2_3 l2_3.length c2_3, .int .u64 a2_4, .string a2_5, .slice A2_6 l2_6.length c2_6] 28 (0, 0))) ∧ Aside0 (W_.heap[gb506]? = some (.cells #[.int .i64 0, .bool false, .bool false, .slice none 0 0, .int .u64 0, .string (⟨#[]⟩ : ByteArray), .slice none 0 0] 28 (0, 0))) ∧ Aside0 (W_.heap[gb520]? = some (.cells #[.bool t515, .slice Ao31 t516.length co31] 24 (0, 0))) ∧ Aside0 (Below w.heap.size w W_)) ((w29.setCell ⟨gb520, 0, none⟩ (.bool t515)).setCell ⟨gb520, 1, none⟩ (.slice Ao31 t516.length co31)) := ⟨⟨vt (Kd.V_mono (Kd.V_far (p := ⟨gb520, 1, none⟩) (Kd.V_far (p := ⟨gb520, 0, none⟩) (Kd.V_mono HO1_3.out (fun k_ hk => (⟨hk, hk.2.2.2.2.2⟩ : _ ∧ k_ ≠ gb520))) (fun _ hk => hk.2) (.bool t515)) (fun _ hk => hk.2) (.slice Ao31 t516.length co31)) (fun _ hk => ⟨hk.1.1, ⟨hk.1.2.1, ⟨hk.1.2.2.1, ⟨hk.1.2.2.2.1, ⟨hk.1.2.2.2.2.1, hk.1.2.2.2.2.2⟩⟩⟩⟩⟩))⟩, ⟨vt (Kd.V_mono (Kd.V_far (p := ⟨gb520, 1, none⟩) (Kd.V_far (p := ⟨gb520, 0, none⟩) (Kd.V_mono HO2_3.out (fun k_ hk => (⟨hk, hk.2.2.2.2.2⟩ : _ ∧ k_ ≠ gb520))) (fun _ hk => hk.2) (.bool t515)) (fun _ hk => hk.2) (.slice Ao31 t516.length co31)) (fun _ hk => ⟨hk.1.1, ⟨hk.1.2.1, ⟨hk.1.2.2.1, ⟨hk.1.2.2.2.1, ⟨hk.1.2.2.2.2.1, hk.1.2.2.2.2.2⟩⟩⟩⟩⟩))⟩, ⟨vt (Kd.V_mono (Kd.V_far (p := ⟨gb520, 1, none⟩) (Kd.V_far (p := ⟨gb520, 0, none⟩) (Kd.V_mono HO510.out (fun k_ hk => (⟨hk, hk.2.2.2.2.2⟩ : _ ∧ k_ ≠ gb520))) (fun _ hk => hk.2) (.bool t515)) (fun _ hk => hk.2) (.slice Ao31 t516.length co31)) (fun _ hk => ⟨hk.1.1, ⟨hk.1.2.1, ⟨hk.1.2.2.1, ⟨hk.1.2.2.2.1, ⟨hk.1.2.2.2.2.1, hk.1.2.2.2.2.2⟩⟩⟩⟩⟩))⟩, ⟨vt (Kd.V_mono (Kd.V_far (p := ⟨gb520, 1, none⟩) (Kd.V_far (p := ⟨gb520, 0, none⟩) (Kd.V_mono HO514.out (fun k_ hk => (⟨hk, hk.2.2.2.2.2⟩ : _ ∧ k_ ≠ gb520))) (fun _ hk => hk.2) (.bool t515)) (fun _ hk => hk.2) (.slice Ao31 t516.length co31)) (fun _ hk => ⟨hk.1.1, ⟨hk.1.2.1, ⟨hk.1.2.2.1, ⟨hk.1.2.2.2.1, ⟨hk.1.2.2.2.2.1, hk.1.2.2.2.2.2⟩⟩⟩⟩⟩))⟩, ⟨rt (Kd.R_mono (Kd.R_far (p := ⟨gb520, 1, none⟩) (Kd.R_far (p := ⟨gb520, 0, none⟩) (Kd.R_types HO518.out BK520.out (by decide)) (fun _ hk => hk.2) (.bool t515)) (fun _ hk => hk.2) (.slice Ao31 t516.length co31)) (fun _ hk => hk.1))⟩, ⟨by refine blk_far ?_ NB504_520.out _; refine blk_far ?_ NB504_520.out _; exact BK504.out⟩, ⟨by refine blk_far ?_ NB505_520.out _; refine blk_far ?_ NB505_520.out _; exact BK505.out⟩, ⟨by refine blk_far ?_ NB506_520.out _; refine blk_far ?_ NB506_520.out _; exact BK506.out⟩, ⟨by refine blk_put (cs := #[.bool t515, .slice none 0 0]) ?_ 1 _ rfl; refine blk_put (cs := #[.bool false, .slice none 0 0]) ?_ 0 _ rfl; exact BK520.out⟩, ⟨bls HB⟩⟩
 obtain ⟨n0_, n1_, n2_, n3_, n4_, n5_, n6_, n7_, n8_, n9_⟩ := n_
 generalize ((w29.setCell ⟨gb520, 0, none⟩ (.bool t515)).setCell ⟨gb520, 1, none⟩ (.slice Ao31 t516.length co31)) = w33 at n0_ n1_ n2_ n3_ n4_ n5_ n6_ n7_ n8_ n9_ ⊢
 have HO1_3 := n0_
 have HO2_3 := n1_
 have HO510 := n2_
 have HO514 := n3_
 have HO518 := n4_
 have BK504 := n5_
 have BK505 := n6_
 have BK506 := n7_
 have BK520 := n8_
 have HB := n9_
 clear n0_ n1_ n2_ n3_ n4_ n5_ n6_ n7_ n8_ n9_
 have hnb34 := NB520_504.out
 have hnc34 := NB504_520.out
 have hnb35 := NB520_505.out
 have hnc35 := NB505_520.out
 have hnb36 := NB520_506.out
 have hnc36 := NB506_520.out
 have hz37_1 := bz BK520
 try go_wp2_with (first | (refine gl (some 49) Tryz.func67 #[.agg #[.bool t515, .slice Ao31 t516.length co31]] ?_; (with_reducible refine (p_ofInt.calls t515 (fun k_ => some k_ = (.slice Ao31 t516.length co31 : Value).ownBlock) _ _ t516 t521 t522 t523 t524 t527 t528 t529 _ ?side1 A13.out).mono ?_); (case side1 => exact Kd.R_V (Kd.R_tight rfl (Kd.R_types (Kd.R_types (Kd.R_types (Kd.R_types (HO518.out) BK504.out (by decide)) BK505.out (by decide)) BK506.out (by decide)) BK520.out (by decide)))); rintro e w38 ⟨v525, v530, rfl, ho0, ho1, hb⟩; refine ⟨_, rfl, ?_⟩; replace HO1_3 := Az (Kd.V_elder' (vk HO1_3) (Kd.R_base ho1) hb); replace HO2_3 := Az (Kd.V_elder' (vk HO2_3) (Kd.R_base ho1) hb); replace HO510 := Az (Kd.V_elder' (vk HO510) (Kd.R_base ho1) hb); replace HO514 := Az (Kd.V_elder' (vk HO514) (Kd.R_base ho1) hb); have HO526 := Az (Kd.V_lower (Kd.V_mono (ok' := fun k_ => ((P1_3_ k_ ∨ P2_3_ k_) ∨ w.heap.size ≤ k_) ∧ some k_ ≠ (v530 : Value).ownBlock ∧ k_ ≠ gb504 ∧ k_ ≠ gb505 ∧ k_ ≠ gb506 ∧ k_ ≠ gb520) ho0 (fun k_ hk_ => ⟨Or.elim hk_.1 (fun hs_ => (.inr (((Kd.R_types (Kd.R_types (Kd.R_types (Kd.R_types (HO518.out) BK504.out (by decide)) BK505.out (by decide)) BK506.out (by decide)) BK520.out (by decide)).1 k_ hs_.symm).1.1.1.1))) (fun hn_ => (.inr (Nat.le_trans (below_size (bls HB)) hn_))), hk_.2, Or.elim hk_.1 (fun hs_ => ((Kd.R_types (Kd.R_types (Kd.R_types (Kd.R_types (HO518.out) BK504.out (by decide)) BK505.out (by decide)) BK506.out (by decide)) BK520.out (by decide)).1 k_ hs_.symm).1.1.1.2) (fun hn_ => (Kd.freshB (g := gb504) (o := .cells #[.int .i64 a1_0, .bool a1_1, .bool a1_2, .slice A1_3 l1_3.length c1_3, .int .u64 a1_4, .string a1_5, .slice A1_6 l1_6.length c1_6] 28 (0, 0)) (bk BK504) k_ hn_)), Or.elim hk_.1 (fun hs_ => ((Kd.R_types (Kd.R_types (Kd.R_types (Kd.R_types (HO518.out) BK504.out (by decide)) BK505.out (by decide)) BK506.out (by decide)) BK520.out (by decide)).1 k_ hs_.symm).1.1.2) (fun hn_ => (Kd.freshB (g := gb505) (o := .cells #[.int .i64 a2_0, .bool a2_1, .bool a2_2, .slice A2_3 l2_3.length c2_3, .int .u64 a2_4, .string a2_5, .slice A2_6 l2_6.length c2_6] 28 (0, 0)) (bk BK505) k_ hn_)), Or.elim hk_.1 (fun hs_ => ((Kd.R_types (Kd.R_types (Kd.R_types (Kd.R_types (HO518.out) BK504.out (by decide)) BK505.out (by decide)) BK506.out (by decide)) BK520.out (by decide)).1 k_ hs_.symm).1.2) (fun hn_ => (Kd.freshB (g := gb506) (o := .cells #[.int .i64 0, .bool false, .bool false, .slice none 0 0, .int .u64 0, .string (⟨#[]⟩ : ByteArray), .slice none 0 0] 28 (0, 0)) (bk BK506) k_ hn_)), Or.elim hk_.1 (fun hs_ => ((Kd.R_types (Kd.R_types (Kd.R_types (Kd.R_types (HO518.out) BK504.out (by decide)) BK505.out (by decide)) BK506.out (by decide)) BK520.out (by decide)).1 k_ hs_.symm).2) (fun hn_ => (Kd.freshB (g := gb520) (o := .cells #[.bool t515, .slice Ao31 t516.length co31] 24 (0, 0)) (bk BK520) k_ hn_))⟩)) (below_size (bls HB))); have HO531 := Az (Kd.R_lower (Kd.R_newB (Kd.R_newB (Kd.R_newB (Kd.R_new' (Kd.R_newM (M := fun k_ => (w.heap.size ≤ k_)) (Kd.R_mono (ok' := fun k_ => True) ho1 (fun _ hk_ => trivial)) (below_size (bls HB)) (fun k_ h_ => h_)) (Kd.R_lt (rk HO518))) (g := gb504) (o := .cells #[.int .i64 a1_0, .bool a1_1, .bool a1_2, .slice A1_3 l1_3.length c1_3, .int .u64 a1_4, .string a1_5, .slice A1_6 l1_6.length c1_6] 28 (0, 0)) (bk BK504)) (g := gb505) (o := .cells #[.int .i64 a2_0, .bool a2_1, .bool a2_2, .slice A2_3 l2_3.length c2_3, .int .u64 a2_4, .string a2_5, .slice A2_6 l2_6.length c2_6] 28 (0, 0)) (bk BK505)) (g := gb506) (o := .cells #[.int .i64 0, .bool false, .bool false, .slice none 0 0, .int .u64 0, .string (⟨#[]⟩ : ByteArray), .slice none 0 0] 28 (0, 0)) (bk BK506)) (below_size (bls HB))); replace HO518 := Az (Kd.R_below (rk HO518) hb); replace BK504 := kb BK504 hb; replace BK505 := kb BK505 hb; replace BK506 := kb BK506 hb; replace BK520 := kb BK520 hb; replace HB := bs HB hb; have hz39_1 := bz BK506; obtain ⟨Ao40, co40, eo40⟩ := Kd.V_slice HO526.out; subst eo40; obtain ⟨Ao41, co41, eo41⟩ := Kd.R_slice HO531.out; subst eo41))
 refine bodyPost_ret (results_ct rfl _ _ gb506 28 #[.int .i64 t521, .bool t522, .bool t523, .slice Ao40 t524.length co40, .int .u64 t527, .string t528, .slice Ao41 t529.length co41] (0, 0) _ rfl (by refine blk_put (cs := #[.int .i64 t521, .bool t522, .bool t523, .slice Ao40 t524.length co40, .int .u64 t527, .string t528, .slice none 0 0]) ?_ 6 _ rfl; refine blk_put (cs := #[.int .i64 t521, .bool t522, .bool t523, .slice Ao40 t524.length co40, .int .u64 t527, .string (⟨#[]⟩ : ByteArray), .slice none 0 0]) ?_ 5 _ rfl; refine blk_put (cs := #[.int .i64 t521, .bool t522, .bool t523, .slice Ao40 t524.length co40, .int .u64 0, .string (⟨#[]⟩ : ByteArray), .slice none 0 0]) ?_ 4 _ rfl; refine blk_put (cs := #[.int .i64 t521, .bool t522, .bool t523, .slice none 0 0, .int .u64 0, .string (⟨#[]⟩ : ByteArray), .slice none 0 0]) ?_ 3 _ rfl; refine blk_put (cs := #[.int .i64 t521, .bool t522, .bool false, .slice none 0 0, .int .u64 0, .string (⟨#[]⟩ : ByteArray), .slice none 0 0]) ?_ 2 _ rfl; refine blk_put (cs := #[.int .i64 t521, .bool false, .bool false, .slice none 0 0, .int .u64 0, .string (⟨#[]⟩ : ByteArray), .slice none 0 0]) ?_ 1 _ rfl; refine blk_put (cs := #[.int .i64 0, .bool false, .bool false, .slice none 0 0, .int .u64 0, .string (⟨#[]⟩ : ByteArray), .slice none 0 0]) ?_ 0 _ rfl; exact BK506.out) Tryz.underlying28 rfl (by kernel_rfl)) rfl ?_
 exact ⟨_, _, fe, vt (Kd.V_mono (Kd.V_far (p := ⟨gb506, 6, none⟩) (Kd.V_far (p := ⟨gb506, 5, none⟩) (Kd.V_far (p := ⟨gb506, 4, none⟩) (Kd.V_far (p := ⟨gb506, 3, none⟩) (Kd.V_far (p := ⟨gb506, 2, none⟩) (Kd.V_far (p := ⟨gb506, 1, none⟩) (Kd.V_far (p := ⟨gb506, 0, none⟩) (Kd.V_mono HO526.out (fun k_ hk => (⟨hk, hk.2.2.2.2.1⟩ : _ ∧ k_ ≠ gb506))) (fun _ hk => hk.2) (.int .i64 t521)) (fun _ hk => hk.2) (.bool t522)) (fun _ hk => hk.2) (.bool t523)) (fun _ hk => hk.2) (.slice Ao40 t524.length co40)) (fun _ hk => hk.2) (.int .u64 t527)) (fun _ hk => hk.2) (.string t528)) (fun _ hk => hk.2) (.slice Ao41 t529.length co41)) (fun _ hk => ⟨hk.1.1, hk.1.2.1⟩)), rt (Kd.R_mono (Kd.R_far (p := ⟨gb506, 6, none⟩) (Kd.R_far (p := ⟨gb506, 5, none⟩) (Kd.R_far (p := ⟨gb506, 4, none⟩) (Kd.R_far (p := ⟨gb506, 3, none⟩) (Kd.R_far (p := ⟨gb506, 2, none⟩) (Kd.R_far (p := ⟨gb506, 1, none⟩) (Kd.R_far (p := ⟨gb506, 0, none⟩) (Kd.R_mono HO531.out (fun k_ hk => (⟨hk, hk.2⟩ : _ ∧ k_ ≠ gb506))) (fun _ hk => hk.2) (.int .i64 t521)) (fun _ hk => hk.2) (.bool t522)) (fun _ hk => hk.2) (.bool t523)) (fun _ hk => hk.2) (.slice Ao40 t524.length co40)) (fun _ hk => hk.2) (.int .u64 t527)) (fun _ hk => hk.2) (.string t528)) (fun _ hk => hk.2) (.slice Ao41 t529.length co41)) (fun _ hk => hk.1.1.1.1.1.1)), bls HB⟩
def p_Bin.f (k : Nat) (a0 a1_0 : Int) (a1_1 a1_2 : Bool) (l1_3 : List Int) (a1_4 : Int) (a1_5 : ByteArray) (l1_6 : List (S28)) (a2_0 : Int) (a2_1 a2_2 : Bool) (l2_3 : List Int) (a2_4 : Int) (a2_5 : ByteArray) (l2_6 : List (S28)) : Option (Int × Bool × Bool × List Int × Int × ByteArray × (List (S28)) × Int) := (p_Good.f k a1_0 a1_1 a1_2 l1_3 a1_4 a1_5 l1_6).bind fun t540 => (if t540 = true then ((p_Good.f k a2_0 a2_1 a2_2 l2_3 a2_4 a2_5 l2_6).bind fun t541 => (if t541 = true then (if a0 < 1 then (none) else (if a0 > 7 then (none) else ((p_number.f a1_0 a1_1 a1_2 l1_3 a1_4 a1_5 l1_6).bind fun t542 => (if t542 = true then ((p_number.f a2_0 a2_1 a2_2 l2_3 a2_4 a2_5 l2_6).bind fun t543 => (if t543 = true then ((p_numbers.f k a0 a1_0 a1_1 a1_2 l1_3 a1_4 a1_5 l1_6 a2_0 a2_1 a2_2 l2_3 a2_4 a2_5 l2_6).bind fun bt544 => (some (bt544.1, bt544.2.1, bt544.2.2.1, bt544.2.2.2.1, bt544.2.2.2.2.1, bt544.2.2.2.2.2.1, bt544.2.2.2.2.2.2.1, bt544.2.2.2.2.2.2.2))) else (none))) else (none))))) else (none))) else (none))
theorem p_Bin.mono : ∀ a0 a1 a2 a3 a4 a5 a6 a7 a8 a9 a10 a11 a12 a13 a14 k, LeO (p_Bin.f k a0 a1 a2 a3 a4 a5 a6 a7 a8 a9 a10 a11 a12 a13 a14) (p_Bin.f (k + 1) a0 a1 a2 a3 a4 a5 a6 a7 a8 a9 a10 a11 a12 a13 a14) := by
 intro a0 a1 a2 a3 a4 a5 a6 a7 a8 a9 a10 a11 a12 a13 a14 k
 unfold p_Bin.f
 repeat' first
   | exact p_Good.mono _ _ _ _ _ _ _ _
   | exact p_numbers.mono _ _ _ _ _ _ _ _ _ _ _ _ _ _ _ _
   | exact LeO.refl _
   | exact LeO.none _
   | refine LeO.ite ?_ ?_
   | refine LeO.bind ?_ (fun _ => ?_)
theorem p_Bin.calls (k : Nat) (a0 a1_0 : Int) (a1_1 a1_2 : Bool) (P1_3_ : Nat → Prop) (A1_3 : Option Addr) (c1_3 : Nat) (l1_3 : List Int) (a1_4 : Int) (a1_5 : ByteArray) (A1_6 : Option Addr) (c1_6 : Nat) (l1_6 : List (S28)) (a2_0 : Int) (a2_1 a2_2 : Bool) (P2_3_ : Nat → Prop) (A2_3 : Option Addr) (c2_3 : Nat) (l2_3 : List Int) (a2_4 : Int) (a2_5 : ByteArray) (A2_6 : Option Addr) (c2_6 : Nat) (l2_6 : List (S28)) (r1 : Int) (r2 r3 : Bool) (r4 : List Int) (r5 : Int) (r6 : ByteArray) (r7 : List (S28)) (r8 : Int) (w : World) (hs1_3 : Kd.V (Kd.int .u64) 25 w w.heap.size (fun k_ => P1_3_ k_) (.slice A1_3 l1_3.length c1_3) l1_3) (hr1_6 : Kd.C k28 w A1_6 l1_6.length l1_6) (hc1_6 : l1_6.length ≤ c1_6) (hs2_3 : Kd.V (Kd.int .u64) 25 w w.heap.size (fun k_ => P2_3_ k_) (.slice A2_3 l2_3.length c2_3) l2_3) (hr2_6 : Kd.C k28 w A2_6 l2_6.length l2_6) (hc2_6 : l2_6.length ≤ c2_6) (h : p_Bin.f k a0 a1_0 a1_1 a1_2 l1_3 a1_4 a1_5 l1_6 a2_0 a2_1 a2_2 l2_3 a2_4 a2_5 l2_6 = some (r1, r2, r3, r4, r5, r6, r7, r8)) :
  Calls Tryz.prog 17 #[.int .i64 a0, .agg #[.int .i64 a1_0, .bool a1_1, .bool a1_2, .slice A1_3 l1_3.length c1_3, .int .u64 a1_4, .string a1_5, .slice A1_6 l1_6.length c1_6], .agg #[.int .i64 a2_0, .bool a2_1, .bool a2_2, .slice A2_3 l2_3.length c2_3, .int .u64 a2_4, .string a2_5, .slice A2_6 l2_6.length c2_6]] w fun e w' => ∃ v3_ v6_ : Value, e = .returned (.tuple #[.agg #[.int .i64 r1, .bool r2, .bool r3, v3_, .int .u64 r5, .string r6, v6_], .int .i64 r8]) ∧ Kd.V (Kd.int .u64) 25 w' w.heap.size (fun k_ => ((P1_3_ k_ ∨ P2_3_ k_) ∨ w.heap.size ≤ k_) ∧ some k_ ≠ (v6_ : Value).ownBlock) v3_ r4 ∧ Kd.R k28 28 w' w.heap.size (fun k_ => (w.heap.size ≤ k_)) v6_ r7 ∧ Below w.heap.size w w' := by
 have hu28 := Tryz.underlying28
 have HO1_3 := Az (show Kd.V (Kd.int .u64) 25 w w.heap.size (fun k_ => ((P1_3_ k_ ∨ P2_3_ k_) ∨ w.heap.size ≤ k_)) (.slice A1_3 l1_3.length c1_3) l1_3 from Kd.V_mono hs1_3 (fun k_ hk => .inl (.inl hk)))
 have HR1_6 := Az hr1_6
 have HC1_6 := Az hc1_6
 clear hr1_6 hc1_6
 have HO2_3 := Az (show Kd.V (Kd.int .u64) 25 w w.heap.size (fun k_ => ((P1_3_ k_ ∨ P2_3_ k_) ∨ w.heap.size ≤ k_)) (.slice A2_3 l2_3.length c2_3) l2_3 from Kd.V_mono hs2_3 (fun k_ hk => .inl (.inr hk)))
 have HR2_6 := Az hr2_6
 have HC2_6 := Az hc2_6
 clear hr2_6 hc2_6
 have HB := Az (Below.refl w.heap.size w)
 have H := h
 unfold p_Bin.f at H
 clear h
 obtain ⟨t540, A4, H⟩ := bd H
 by_cases c5 : t540 = true
 case neg =>
  replace c5 := Bool.eq_false_iff.mpr c5
  subst c5
  rw [if_neg Bool.false_ne_true] at H
  exact absurd H (by simp)
 subst c5
 rw [if_pos rfl] at H
 obtain ⟨t541, A6, H⟩ := bd H
 by_cases c7 : t541 = true
 case neg =>
  replace c7 := Bool.eq_false_iff.mpr c7
  subst c7
  rw [if_neg Bool.false_ne_true] at H
  exact absurd H (by simp)
 subst c7
 rw [if_pos rfl] at H
 by_cases c8 : a0 < 1
 ·rw [if_pos c8] at H
  exact absurd H (by simp)
 rw [if_neg c8] at H
 have c8b0 := decide_eq_false c8
 clear c8
 by_cases c9 : a0 > 7
 ·rw [if_pos c9] at H
  exact absurd H (by simp)
 rw [if_neg c9] at H
 have c9b0 : decide (7 < a0) = false := decide_eq_false c9
 clear c9
 obtain ⟨t542, A10, H⟩ := bd H
 by_cases c11 : t542 = true
 case neg =>
  replace c11 := Bool.eq_false_iff.mpr c11
  subst c11
  rw [if_neg Bool.false_ne_true] at H
  exact absurd H (by simp)
 subst c11
 rw [if_pos rfl] at H
 obtain ⟨t543, A12, H⟩ := bd H
 by_cases c13 : t543 = true
 case neg =>
  replace c13 := Bool.eq_false_iff.mpr c13
  subst c13
  rw [if_neg Bool.false_ne_true] at H
  exact absurd H (by simp)
 subst c13
 rw [if_pos rfl] at H
 obtain ⟨⟨t544, t545, t546, t547, t550, t551, t552, t555⟩, A14, H⟩ := bd H
 simp only [Option.some.injEq, Prod.mk.injEq] at H
 obtain ⟨rfl, rfl, rfl, rfl, rfl, rfl, rfl, rfl⟩ := H
 go_enter Tryz.func17, Tryz.ntmps17
 go_wp2_with (first | (refine be 4 #[.int .i64 a1_0, .bool a1_1, .bool a1_2, .slice A1_3 l1_3.length c1_3, .int .u64 a1_4, .string a1_5, .slice A1_6 l1_6.length c1_6] 28 ?_; intro gb537 hg w15 hbox hb; replace HO1_3 := Az (Kd.V_below (Kd.V_elderB (vk HO1_3) gb537 (Nat.le_of_eq hg.symm)) hb); replace HO2_3 := Az (Kd.V_below (Kd.V_elderB (vk HO2_3) gb537 (Nat.le_of_eq hg.symm)) hb); have BK537 := Az (hbox); have GW537 := gw (bl HB) hg; have GE537 := gw (bl HB) hg; replace HB := bs HB hb; clear hb hbox hg) | (refine be 5 #[.int .i64 a2_0, .bool a2_1, .bool a2_2, .slice A2_3 l2_3.length c2_3, .int .u64 a2_4, .string a2_5, .slice A2_6 l2_6.length c2_6] 28 ?_; intro gb538 hg w16 hbox hb; replace HO1_3 := Az (Kd.V_below (Kd.V_elderB (vk HO1_3) gb538 (Nat.le_of_eq hg.symm)) hb); replace HO2_3 := Az (Kd.V_below (Kd.V_elderB (vk HO2_3) gb538 (Nat.le_of_eq hg.symm)) hb); have BK538 := Az (hbox); have GW538 := gw (bls HB) hg; have GE538 := gw (bls HB) hg; replace HB := bs HB hb; have NB537_538 := nl BK537 hg; have NB538_537 := ng BK537 hg; replace BK537 := kb BK537 hb; clear hb hbox hg) | (refine be 6 #[.int .i64 0, .bool false, .bool false, .slice none 0 0, .int .u64 0, .string (⟨#[]⟩ : ByteArray), .slice none 0 0] 28 ?_; intro gb539 hg w17 hbox hb; replace HO1_3 := Az (Kd.V_below (Kd.V_elderB (vk HO1_3) gb539 (Nat.le_of_eq hg.symm)) hb); replace HO2_3 := Az (Kd.V_below (Kd.V_elderB (vk HO2_3) gb539 (Nat.le_of_eq hg.symm)) hb); have BK539 := Az (hbox); have GW539 := gw (bls HB) hg; have GE539 := gw (bls HB) hg; replace HB := bs HB hb; have NB537_539 := nl BK537 hg; have NB539_537 := ng BK537 hg; replace BK537 := kb BK537 hb; have NB538_539 := nl BK538 hg; have NB539_538 := ng BK538 hg; replace BK538 := kb BK538 hb; clear hb hbox hg; have hnb18 := NB537_538.out; have hnc18 := NB538_537.out; have hnb19 := NB537_539.out; have hnc19 := NB539_537.out; have hz20_1 := bz BK537) | (refine gl (some 9) Tryz.func25 #[.agg #[.int .i64 a1_0, .bool a1_1, .bool a1_2, .slice A1_3 l1_3.length c1_3, .int .u64 a1_4, .string a1_5, .slice A1_6 l1_6.length c1_6]] ?_; (with_reducible refine (p_Good.calls k a1_0 a1_1 a1_2 _ _ l1_3 a1_4 a1_5 _ _ l1_6 true _ ?side1 (Kd.V_reads' HO1_3.out).2.1 (ck HR1_6 HB) HC1_6.out A4.out).mono ?_); (case side1 => exact (Kd.V_reads' HO1_3.out).2.2); rintro e w21 ⟨rfl, hb⟩; refine ⟨_, rfl, ?_⟩; replace HO1_3 := Az (Kd.V_below (vk HO1_3) hb); replace HO2_3 := Az (Kd.V_below (vk HO2_3) hb); replace BK537 := kb BK537 hb; replace BK538 := kb BK538 hb; replace BK539 := kb BK539 hb; replace HB := bs HB hb; have hnb22 := NB538_539.out; have hnc22 := NB539_538.out; have hz23_1 := bz BK538) | (go_at_call 25; (with_reducible refine (p_Good.calls k a2_0 a2_1 a2_2 _ _ l2_3 a2_4 a2_5 _ _ l2_6 true _ ?side1 (Kd.V_reads' HO2_3.out).2.1 (ck HR2_6 HB) HC2_6.out A6.out).mono ?_); (case side1 => exact (Kd.V_reads' HO2_3.out).2.2); rintro e w24 ⟨rfl, hb⟩; replace HO1_3 := Az (Kd.V_below (vk HO1_3) hb); replace HO2_3 := Az (Kd.V_below (vk HO2_3) hb); replace BK537 := kb BK537 hb; replace BK538 := kb BK538 hb; replace BK539 := kb BK539 hb; replace HB := bs HB hb; have hz25_1 := bz BK537) | (refine gl (some 26) Tryz.func26 #[.agg #[.int .i64 a1_0, .bool a1_1, .bool a1_2, .slice A1_3 l1_3.length c1_3, .int .u64 a1_4, .string a1_5, .slice A1_6 l1_6.length c1_6]] ?_; (with_reducible refine (p_number.calls a1_0 a1_1 a1_2 _ _ l1_3 a1_4 a1_5 _ _ l1_6 true _ ?side1 (Kd.V_reads' HO1_3.out).2.1 (ck HR1_6 HB) HC1_6.out A10.out).mono ?_); (case side1 => exact (Kd.V_reads' HO1_3.out).2.2); rintro e w26 ⟨rfl, hb⟩; refine ⟨_, rfl, ?_⟩; replace HO1_3 := Az (Kd.V_below (vk HO1_3) hb); replace HO2_3 := Az (Kd.V_below (vk HO2_3) hb); replace BK537 := kb BK537 hb; replace BK538 := kb BK538 hb; replace BK539 := kb BK539 hb; replace HB := bs HB hb; have hz27_1 := bz BK538) | (go_at_call 26; (with_reducible refine (p_number.calls a2_0 a2_1 a2_2 _ _ l2_3 a2_4 a2_5 _ _ l2_6 true _ ?side1 (Kd.V_reads' HO2_3.out).2.1 (ck HR2_6 HB) HC2_6.out A12.out).mono ?_); (case side1 => exact (Kd.V_reads' HO2_3.out).2.2); rintro e w28 ⟨rfl, hb⟩; replace HO1_3 := Az (Kd.V_below (vk HO1_3) hb); replace HO2_3 := Az (Kd.V_below (vk HO2_3) hb); replace BK537 := kb BK537 hb; replace BK538 := kb BK538 hb; replace BK539 := kb BK539 hb; replace HB := bs HB hb; have hz29_1 := bz BK537; have hz30_2 := bz BK538) | (refine gl (some 34) Tryz.func39 #[.int .i64 a0, .agg #[.int .i64 a1_0, .bool a1_1, .bool a1_2, .slice A1_3 l1_3.length c1_3, .int .u64 a1_4, .string a1_5, .slice A1_6 l1_6.length c1_6], .agg #[.int .i64 a2_0, .bool a2_1, .bool a2_2, .slice A2_3 l2_3.length c2_3, .int .u64 a2_4, .string a2_5, .slice A2_6 l2_6.length c2_6]] ?_; (with_reducible refine (p_numbers.calls k a0 a1_0 a1_1 a1_2 (fun k_ => (((((P1_3_ k_ ∨ P2_3_ k_) ∨ w.heap.size ≤ k_) ∧ k_ ≠ gb537) ∧ k_ ≠ gb538) ∧ k_ ≠ gb539)) _ _ l1_3 a1_4 a1_5 _ _ l1_6 a2_0 a2_1 a2_2 (fun k_ => (((((P1_3_ k_ ∨ P2_3_ k_) ∨ w.heap.size ≤ k_) ∧ k_ ≠ gb537) ∧ k_ ≠ gb538) ∧ k_ ≠ gb539)) _ _ l2_3 a2_4 a2_5 _ _ l2_6 t544 t545 t546 t547 t550 t551 t552 t555 _ ?side1 (ck HR1_6 HB) HC1_6.out ?side4 (ck HR2_6 HB) HC2_6.out A14.out).mono ?_); (case side1 => exact HO1_3.out); (case side4 => exact HO2_3.out); rintro e w31 ⟨v548, v553, rfl, ho0, ho1, hb⟩; refine ⟨_, rfl, ?_⟩; replace HO1_3 := Az (Kd.V_elder' (vk HO1_3) (Kd.R_base ho1) hb); replace HO2_3 := Az (Kd.V_elder' (vk HO2_3) (Kd.R_base ho1) hb); have HO549 := Az (Kd.V_lower (Kd.V_mono (ok' := fun k_ => ((P1_3_ k_ ∨ P2_3_ k_) ∨ w.heap.size ≤ k_) ∧ some k_ ≠ (v553 : Value).ownBlock ∧ k_ ≠ gb537 ∧ k_ ≠ gb538 ∧ k_ ≠ gb539) ho0 (fun k_ hk_ => ⟨Or.elim hk_.1 (fun hs_ => Or.elim hs_ (fun hs_ => hs_.1.1.1) (fun hs_ => hs_.1.1.1)) (fun hn_ => (.inr (Nat.le_trans (below_size (bls HB)) hn_))), hk_.2, Or.elim hk_.1 (fun hs_ => Or.elim hs_ (fun hs_ => hs_.1.1.2) (fun hs_ => hs_.1.1.2)) (fun hn_ => (Kd.freshB (g := gb537) (o := .cells #[.int .i64 a1_0, .bool a1_1, .bool a1_2, .slice A1_3 l1_3.length c1_3, .int .u64 a1_4, .string a1_5, .slice A1_6 l1_6.length c1_6] 28 (0, 0)) (bk BK537) k_ hn_)), Or.elim hk_.1 (fun hs_ => Or.elim hs_ (fun hs_ => hs_.1.2) (fun hs_ => hs_.1.2)) (fun hn_ => (Kd.freshB (g := gb538) (o := .cells #[.int .i64 a2_0, .bool a2_1, .bool a2_2, .slice A2_3 l2_3.length c2_3, .int .u64 a2_4, .string a2_5, .slice A2_6 l2_6.length c2_6] 28 (0, 0)) (bk BK538) k_ hn_)), Or.elim hk_.1 (fun hs_ => Or.elim hs_ (fun hs_ => hs_.2) (fun hs_ => hs_.2)) (fun hn_ => (Kd.freshB (g := gb539) (o := .cells #[.int .i64 0, .bool false, .bool false, .slice none 0 0, .int .u64 0, .string (⟨#[]⟩ : ByteArray), .slice none 0 0] 28 (0, 0)) (bk BK539) k_ hn_))⟩)) (below_size (bls HB))); have HO554 := Az (Kd.R_lower (Kd.R_newB (Kd.R_newB (Kd.R_newB (Kd.R_newM (M := fun k_ => (w.heap.size ≤ k_)) (Kd.R_mono (ok' := fun k_ => True) ho1 (fun _ hk_ => trivial)) (below_size (bls HB)) (fun k_ h_ => h_)) (g := gb537) (o := .cells #[.int .i64 a1_0, .bool a1_1, .bool a1_2, .slice A1_3 l1_3.length c1_3, .int .u64 a1_4, .string a1_5, .slice A1_6 l1_6.length c1_6] 28 (0, 0)) (bk BK537)) (g := gb538) (o := .cells #[.int .i64 a2_0, .bool a2_1, .bool a2_2, .slice A2_3 l2_3.length c2_3, .int .u64 a2_4, .string a2_5, .slice A2_6 l2_6.length c2_6] 28 (0, 0)) (bk BK538)) (g := gb539) (o := .cells #[.int .i64 0, .bool false, .bool false, .slice none 0 0, .int .u64 0, .string (⟨#[]⟩ : ByteArray), .slice none 0 0] 28 (0, 0)) (bk BK539)) (below_size (bls HB))); replace BK537 := kb BK537 hb; replace BK538 := kb BK538 hb; replace BK539 := kb BK539 hb; replace HB := bs HB hb; have hz32_1 := bz BK539; obtain ⟨Ao33, co33, eo33⟩ := Kd.V_slice HO549.out; subst eo33; obtain ⟨Ao34, co34, eo34⟩ := Kd.R_slice HO554.out; subst eo34))
 refine bodyPost_ret (results_ct rfl _ _ gb539 28 #[.int .i64 t544, .bool t545, .bool t546, .slice Ao33 t547.length co33, .int .u64 t550, .string t551, .slice Ao34 t552.length co34] (0, 0) _ rfl (by refine blk_put (cs := #[.int .i64 t544, .bool t545, .bool t546, .slice Ao33 t547.length co33, .int .u64 t550, .string t551, .slice none 0 0]) ?_ 6 _ rfl; refine blk_put (cs := #[.int .i64 t544, .bool t545, .bool t546, .slice Ao33 t547.length co33, .int .u64 t550, .string (⟨#[]⟩ : ByteArray), .slice none 0 0]) ?_ 5 _ rfl; refine blk_put (cs := #[.int .i64 t544, .bool t545, .bool t546, .slice Ao33 t547.length co33, .int .u64 0, .string (⟨#[]⟩ : ByteArray), .slice none 0 0]) ?_ 4 _ rfl; refine blk_put (cs := #[.int .i64 t544, .bool t545, .bool t546, .slice none 0 0, .int .u64 0, .string (⟨#[]⟩ : ByteArray), .slice none 0 0]) ?_ 3 _ rfl; refine blk_put (cs := #[.int .i64 t544, .bool t545, .bool false, .slice none 0 0, .int .u64 0, .string (⟨#[]⟩ : ByteArray), .slice none 0 0]) ?_ 2 _ rfl; refine blk_put (cs := #[.int .i64 t544, .bool false, .bool false, .slice none 0 0, .int .u64 0, .string (⟨#[]⟩ : ByteArray), .slice none 0 0]) ?_ 1 _ rfl; refine blk_put (cs := #[.int .i64 0, .bool false, .bool false, .slice none 0 0, .int .u64 0, .string (⟨#[]⟩ : ByteArray), .slice none 0 0]) ?_ 0 _ rfl; exact BK539.out) Tryz.underlying28 rfl (by kernel_rfl)) rfl ?_
 exact ⟨_, _, fe, vt (Kd.V_mono (Kd.V_far (p := ⟨gb539, 6, none⟩) (Kd.V_far (p := ⟨gb539, 5, none⟩) (Kd.V_far (p := ⟨gb539, 4, none⟩) (Kd.V_far (p := ⟨gb539, 3, none⟩) (Kd.V_far (p := ⟨gb539, 2, none⟩) (Kd.V_far (p := ⟨gb539, 1, none⟩) (Kd.V_far (p := ⟨gb539, 0, none⟩) (Kd.V_mono HO549.out (fun k_ hk => (⟨hk, hk.2.2.2.2⟩ : _ ∧ k_ ≠ gb539))) (fun _ hk => hk.2) (.int .i64 t544)) (fun _ hk => hk.2) (.bool t545)) (fun _ hk => hk.2) (.bool t546)) (fun _ hk => hk.2) (.slice Ao33 t547.length co33)) (fun _ hk => hk.2) (.int .u64 t550)) (fun _ hk => hk.2) (.string t551)) (fun _ hk => hk.2) (.slice Ao34 t552.length co34)) (fun _ hk => ⟨hk.1.1, hk.1.2.1⟩)), rt (Kd.R_mono (Kd.R_far (p := ⟨gb539, 6, none⟩) (Kd.R_far (p := ⟨gb539, 5, none⟩) (Kd.R_far (p := ⟨gb539, 4, none⟩) (Kd.R_far (p := ⟨gb539, 3, none⟩) (Kd.R_far (p := ⟨gb539, 2, none⟩) (Kd.R_far (p := ⟨gb539, 1, none⟩) (Kd.R_far (p := ⟨gb539, 0, none⟩) (Kd.R_mono HO554.out (fun k_ hk => (⟨hk, hk.2⟩ : _ ∧ k_ ≠ gb539))) (fun _ hk => hk.2) (.int .i64 t544)) (fun _ hk => hk.2) (.bool t545)) (fun _ hk => hk.2) (.bool t546)) (fun _ hk => hk.2) (.slice Ao33 t547.length co33)) (fun _ hk => hk.2) (.int .u64 t550)) (fun _ hk => hk.2) (.string t551)) (fun _ hk => hk.2) (.slice Ao34 t552.length co34)) (fun _ hk => hk.1.1.1.1.1)), bls HB⟩
def r5_Bool.f (a0 : Bool) : Option (Int × Bool × Bool × List Int × Int × ByteArray × (List (S28))) := some (1, a0, false, ([] : List Int), 0, (⟨#[]⟩ : ByteArray), ([] : List (S28)))
theorem r5_Bool.calls (a0 : Bool) (r1 : Int) (r2 r3 : Bool) (r4 : List Int) (r5 : Int) (r6 : ByteArray) (r7 : List (S28)) (w : World) (h : r5_Bool.f a0 = some (r1, r2, r3, r4, r5, r6, r7)) :
  Calls Tryz.prog 18 #[.bool a0] w fun e w' => ∃ v3_ v6_ : Value, e = .returned (.agg #[.int .i64 r1, .bool r2, .bool r3, v3_, .int .u64 r5, .string r6, v6_]) ∧ Kd.R (Kd.int .u64) 25 w' w.heap.size (fun _ => True) v3_ r4 ∧ Kd.R k28 28 w' w.heap.size (fun k_ => some k_ ≠ (v3_ : Value).ownBlock) v6_ r7 ∧ Below w.heap.size w w' := by
 have hu28 := Tryz.underlying28
 have HB := Az (Below.refl w.heap.size w)
 have H := h
 unfold r5_Bool.f at H
 clear h
 simp only [Option.some.injEq, Prod.mk.injEq] at H
 obtain ⟨rfl, rfl, rfl, rfl, rfl, rfl, rfl⟩ := H
 go_enter Tryz.func18, Tryz.ntmps18
 go_wp2_with (first | (refine be 2 #[.int .i64 0, .bool false, .bool false, .slice none 0 0, .int .u64 0, .string (⟨#[]⟩ : ByteArray), .slice none 0 0] 28 ?_; intro gb556 hg w2 hbox hb; have BK556 := Az (hbox); have GW556 := gw (bl HB) hg; have GE556 := gw (bl HB) hg; replace HB := bs HB hb; clear hb hbox hg; have hz3_1 := bz BK556))
 refine bodyPost_ret (results_cell_row rfl _ _ gb556 28 #[.int .i64 1, .bool a0, .bool false, .slice none 0 0, .int .u64 0, .string (⟨#[]⟩ : ByteArray), .slice none 0 0] (0, 0) _ rfl (by (with_reducible repeat (first | refine blk_drewN ?_ _ | refine blk_drew ?_ | refine blk_alloc ?_ _)); refine blk_put (cs := #[.int .i64 1, .bool a0, .bool false, .slice none 0 0, .int .u64 0, .string (⟨#[]⟩ : ByteArray), .slice none 0 0]) ?_ 6 _ rfl; (with_reducible repeat (first | refine blk_drewN ?_ _ | refine blk_drew ?_ | refine blk_alloc ?_ _)); refine blk_put (cs := #[.int .i64 1, .bool a0, .bool false, .slice none 0 0, .int .u64 0, .string (⟨#[]⟩ : ByteArray), .slice none 0 0]) ?_ 5 _ rfl; (with_reducible repeat (first | refine blk_drewN ?_ _ | refine blk_drew ?_ | refine blk_alloc ?_ _)); refine blk_put (cs := #[.int .i64 1, .bool a0, .bool false, .slice none 0 0, .int .u64 0, .string (⟨#[]⟩ : ByteArray), .slice none 0 0]) ?_ 4 _ rfl; (with_reducible repeat (first | refine blk_drewN ?_ _ | refine blk_drew ?_ | refine blk_alloc ?_ _)); refine blk_put (cs := #[.int .i64 1, .bool a0, .bool false, .slice none 0 0, .int .u64 0, .string (⟨#[]⟩ : ByteArray), .slice none 0 0]) ?_ 3 _ rfl; (with_reducible repeat (first | refine blk_drewN ?_ _ | refine blk_drew ?_ | refine blk_alloc ?_ _)); refine blk_put (cs := #[.int .i64 1, .bool a0, .bool false, .slice none 0 0, .int .u64 0, .string (⟨#[]⟩ : ByteArray), .slice none 0 0]) ?_ 2 _ rfl; (with_reducible repeat (first | refine blk_drewN ?_ _ | refine blk_drew ?_ | refine blk_alloc ?_ _)); refine blk_put (cs := #[.int .i64 1, .bool false, .bool false, .slice none 0 0, .int .u64 0, .string (⟨#[]⟩ : ByteArray), .slice none 0 0]) ?_ 1 _ rfl; (with_reducible repeat (first | refine blk_drewN ?_ _ | refine blk_drew ?_ | refine blk_alloc ?_ _)); refine blk_put (cs := #[.int .i64 0, .bool false, .bool false, .slice none 0 0, .int .u64 0, .string (⟨#[]⟩ : ByteArray), .slice none 0 0]) ?_ 0 _ rfl; (with_reducible repeat (first | refine blk_drewN ?_ _ | refine blk_drew ?_ | refine blk_alloc ?_ _)); exact BK556.out) Tryz.underlying28 rfl (by kernel_rfl)) rfl ?_
 exact ⟨_, _, fe, by first | exact Kd.R_nil _ _ _ _ _ | exact Kd.N_nil _ _ _ _ _ | exact Kd.V_nil _ _ _ _ _ | exact Kd.Q_nil _ _ _ _ _ | exact Kd.S_nil _ _ _ _ _, by first | exact Kd.R_nil _ _ _ _ _ | exact Kd.N_nil _ _ _ _ _ | exact Kd.V_nil _ _ _ _ _ | exact Kd.Q_nil _ _ _ _ _ | exact Kd.S_nil _ _ _ _ _, bls HB⟩
mutual
def r2_To.l0 : Nat → Int → Bool → List Int → Bool → List Int → Option (Bool × List Int)
 | 0, _, _, _, _, _ => none
 | k + 1, x4, x558000, x558001, x560000, x560001 => if x4 < (x558001.length : Int) then (r2_To.l1 k x4 0 (wrap64 (x4 + 17)) x558000 x558001 x560000 x560001) else (if x558000 = true then (some (decide (0 < x558001.length), x560001)) else (some (false, x560001)))
def r2_To.l1 : Nat → Int → Int → Int → Bool → List Int → Bool → List Int → Option (Bool × List Int)
 | 0, _, _, _, _, _, _, _ => none
 | k + 1, x4, x5, x6, x558000, x558001, x560000, x560001 => if x6 ≥ x4 then (if x6 < (x558001.length : Int) then (if 0 ≤ x6 then (r2_To.l1 k x4 (IntKind.u64.wrap ((IntKind.u64.wrap (x5 * 10)) + (IntKind.u64.wrap (rd x558001 x6)))) (wrap64 (x6 - 1)) x558000 x558001 x560000 x560001) else (none)) else (r2_To.l1 k x4 (IntKind.u64.wrap (x5 * 10)) (wrap64 (x6 - 1)) x558000 x558001 x560000 x560001)) else (if x560001.length < 17592186044416 then (r2_To.l0 k (wrap64 (x4 + 18)) x558000 x558001 x560000 (x560001 ++ [x5])) else (none))
end
def r2_To.f (k : Nat) (a0_0 : Bool) (l0_1 : List Int) : Option (Bool × List Int) := r2_To.l0 k 0 a0_0 l0_1 false ([] : List Int)
theorem r2_To.mono_l : ∀ k, (∀ y0 y1 y2 y3 y4, LeO (r2_To.l0 k y0 y1 y2 y3 y4) (r2_To.l0 (k + 1) y0 y1 y2 y3 y4)) ∧ (∀ y0 y1 y2 y3 y4 y5 y6, LeO (r2_To.l1 k y0 y1 y2 y3 y4 y5 y6) (r2_To.l1 (k + 1) y0 y1 y2 y3 y4 y5 y6))
 | 0 => ⟨fun _ _ _ _ _ r h => by simp [r2_To.l0] at h, fun _ _ _ _ _ _ _ r h => by simp [r2_To.l1] at h⟩
 | k + 1 => by
  obtain ⟨ih0, ih1⟩ := r2_To.mono_l k
  refine ⟨?_, ?_⟩
  ·intro y0 y1 y2 y3 y4
   unfold r2_To.l0
   repeat' first
   | exact ih0 _ _ _ _ _
   | exact ih1 _ _ _ _ _ _ _
   | exact LeO.refl _
   | exact LeO.none _
   | refine LeO.ite ?_ ?_
   | refine LeO.bind ?_ (fun _ => ?_)
  ·intro y0 y1 y2 y3 y4 y5 y6
   unfold r2_To.l1
   repeat' first
   | exact ih0 _ _ _ _ _
   | exact ih1 _ _ _ _ _ _ _
   | exact LeO.refl _
   | exact LeO.none _
   | refine LeO.ite ?_ ?_
   | refine LeO.bind ?_ (fun _ => ?_)
theorem r2_To.mono : ∀ a0 a1 k, LeO (r2_To.f k a0 a1) (r2_To.f (k + 1) a0 a1) := by
 intro a0 a1 k
 obtain ⟨ih0, ih1⟩ := r2_To.mono_l k
 unfold r2_To.f
 repeat' first
   | exact ih0 _ _ _ _ _
   | exact ih1 _ _ _ _ _ _ _
   | exact LeO.refl _
   | exact LeO.none _
   | refine LeO.ite ?_ ?_
   | refine LeO.bind ?_ (fun _ => ?_)
theorem r2_To.calls (k : Nat) (a0_0 : Bool) (A0_1 : Option Addr) (c0_1 : Nat) (l0_1 : List Int) (r1 : Bool) (r2 : List Int) (w : World) (hr0_1 : Kd.C (Kd.int .u8) w A0_1 l0_1.length l0_1) (hc0_1 : l0_1.length ≤ c0_1) (h : r2_To.f k a0_0 l0_1 = some (r1, r2)) :
  Calls Tryz.prog 42 #[.agg #[.bool a0_0, .slice A0_1 l0_1.length c0_1]] w fun e w' => ∃ v1_ : Value, e = .returned (.agg #[.bool r1, v1_]) ∧ Kd.R (Kd.int .u64) 25 w' w.heap.size (fun _ => True) v1_ r2 ∧ Below w.heap.size w w' := by
 have hu45 := Tryz.underlying45
 have hu24 := Tryz.underlying24
 have HR0_1 := Az hr0_1
 have HC0_1 := Az hc0_1
 clear hr0_1 hc0_1
 have HB := Az (Below.refl w.heap.size w)
 have H := h
 unfold r2_To.f at H
 clear h
 have H' := Az H
 clear H
 go_enter Tryz.func42, Tryz.ntmps42
 go_wp2_with (first | ((try (refine gate_guard (by rfl) ?_; dsimp only)); refine be 1 #[.bool a0_0, .slice A0_1 l0_1.length c0_1] 45 ?_; intro gb557 hg w2 hbox hb; have BK557 := Az (hbox); have GW557 := gw (bl HB) hg; have GE557 := gw (bl HB) hg; replace HB := bs HB hb; clear hb hbox hg) | ((try (refine gate_guard (by rfl) ?_; dsimp only)); refine be 2 #[.bool false, .slice none 0 0] 24 ?_; intro gb558 hg w3 hbox hb; have BK558 := Az (hbox); have GW558 := gw (bls HB) hg; have GE558 := gw (bls HB) hg; replace HB := bs HB hb; have NB557_558 := nl BK557 hg; have NB558_557 := ng BK557 hg; replace BK557 := kb BK557 hb; clear hb hbox hg) | ((try (refine gate_guard (by rfl) ?_; dsimp only)); refine be 3 #[.bool false, .slice none 0 0] 24 ?_; intro gb559 hg w4 hbox hb; have BK559 := Az (hbox); have GW559 := gw (bls HB) hg; have GE559 := gw (bls HB) hg; replace HB := bs HB hb; have NB557_559 := nl BK557 hg; have NB559_557 := ng BK557 hg; replace BK557 := kb BK557 hb; have NB558_559 := nl BK558 hg; have NB559_558 := ng BK558 hg; replace BK558 := kb BK558 hb; clear hb hbox hg))
 go_loopg [4] k (fun kq v4 w' => ∃ (x4_1 : Int) (x560001_1 : List Int) (u560001 : Value), v4 = .int .i64 x4_1 ∧ Aside0 (r2_To.l0 kq x4_1 a0_0 l0_1 false x560001_1 = some (r1, r2)) ∧ Aside0 (kq ≤ k) ∧ Aside0 (Kd.R (Kd.int .u64) 25 w' w.heap.size (fun _ => True) u560001 x560001_1) ∧ Aside0 (w'.heap[gb557]? = some (.cells #[.bool a0_0, (.slice A0_1 l0_1.length c0_1)] 45 (0, 0))) ∧ Aside0 (w'.heap[gb558]? = some (.cells #[.bool false, (.slice none 0 0)] 24 (0, 0))) ∧ Aside0 (w'.heap[gb559]? = some (.cells #[.bool false, u560001] 24 (0, 0))) ∧ Aside0 (Below w.heap.size w w'))
 case atStart => exact ⟨(0), (([] : List Int)), (.slice none 0 0), rs, H', ⟨Nat.le_refl _⟩, ⟨Kd.R_nil _ _ _ _ _⟩, ⟨bk BK557⟩, ⟨bk BK558⟩, ⟨bk BK559⟩, ⟨bls HB⟩⟩
 case round =>
  clear H'
  obtain ⟨x4_1, x560001_1, u560001, rfl, HA, HK1, HO_560001, BK557, BK558, BK559, HB⟩ := hrel
  cases gk with
  | zero => exact absurd HA.out (by simp [r2_To.l0])
  | succ k1 =>
   have H := HA.out
   clear HA
   simp only [r2_To.l0] at H
   by_cases c5 : x4_1 < (l0_1.length : Int)
   case neg =>
    rw [if_neg c5] at H
    have c5b0 := decide_eq_false c5
    clear c5
    by_cases c25 : a0_0 = true
    ·subst c25
     rw [if_pos rfl] at H
     simp only [Option.some.injEq, Prod.mk.injEq] at H
     obtain ⟨rfl, rfl⟩ := H
     have hnb26 := NB557_558.out
     have hnc26 := NB558_557.out
     have hnb27 := NB557_559.out
     have hnc27 := NB559_557.out
     have hz28_1 := bz BK557
     have hnb29 := NB559_558.out
     have hnc29 := NB558_559.out
     have hz30_1 := bz BK559
     have hz31_2 := bz BK558
     obtain ⟨Ao32, co32, eo32⟩ := Kd.R_slice HO_560001.out
     subst eo32
     go_wp2
     refine bodyPost_ret (results_cell_row rfl _ _ gb558 24 #[.bool (decide (0 < l0_1.length)), .slice Ao32 x560001_1.length co32] (0, 0) _ rfl (by refine blk_put (cs := #[.bool (decide (0 < l0_1.length)), .slice none 0 0]) ?_ 1 _ rfl; refine blk_put (cs := #[.bool false, .slice none 0 0]) ?_ 0 _ rfl; refine blk_far ?_ NB558_559.out _; exact BK558.out) Tryz.underlying24 rfl (by kernel_rfl)) rfl ?_
     exact ⟨_, fe, rt (Kd.R_mono (Kd.R_far (p := ⟨gb558, 1, none⟩) (Kd.R_far (p := ⟨gb558, 0, none⟩) (Kd.R_far (p := ⟨gb559, 0, none⟩) (Kd.R_types (Kd.R_types HO_560001.out BK559.out (by decide)) BK558.out (by decide)) (fun _ hk => hk.1.2) (.bool (decide (0 < l0_1.length)))) (fun _ hk => hk.2) (.bool (decide (0 < l0_1.length)))) (fun _ hk => hk.2) (.slice Ao32 x560001_1.length co32)) (fun _ hk => trivial)), bls HB⟩
    replace c25 := Bool.eq_false_iff.mpr c25
    subst c25
    rw [if_neg Bool.false_ne_true] at H
    simp only [Option.some.injEq, Prod.mk.injEq] at H
    obtain ⟨rfl, rfl⟩ := H
    have hnb33 := NB557_558.out
    have hnc33 := NB558_557.out
    have hnb34 := NB557_559.out
    have hnc34 := NB559_557.out
    have hz35_1 := bz BK557
    have hnb36 := NB559_558.out
    have hnc36 := NB558_559.out
    have hz37_1 := bz BK559
    have hz38_2 := bz BK558
    obtain ⟨Ao39, co39, eo39⟩ := Kd.R_slice HO_560001.out
    subst eo39
    go_wp2
    refine bodyPost_ret (results_cell_row rfl _ _ gb558 24 #[.bool false, .slice Ao39 x560001_1.length co39] (0, 0) _ rfl (by refine blk_put (cs := #[.bool false, .slice none 0 0]) ?_ 1 _ rfl; refine blk_put (cs := #[.bool false, .slice none 0 0]) ?_ 0 _ rfl; refine blk_far ?_ NB558_559.out _; exact BK558.out) Tryz.underlying24 rfl (by kernel_rfl)) rfl ?_
    exact ⟨_, fe, rt (Kd.R_mono (Kd.R_far (p := ⟨gb558, 1, none⟩) (Kd.R_far (p := ⟨gb558, 0, none⟩) (Kd.R_far (p := ⟨gb559, 0, none⟩) (Kd.R_types (Kd.R_types HO_560001.out BK559.out (by decide)) BK558.out (by decide)) (fun _ hk => hk.1.2) (.bool false)) (fun _ hk => hk.2) (.bool false)) (fun _ hk => hk.2) (.slice Ao39 x560001_1.length co39)) (fun _ hk => trivial)), bls HB⟩
   rw [if_pos c5] at H
   have c5b0 := decide_eq_true c5
   clear c5
   have H' := Az H
   clear H
   have hnb6 := NB557_558.out
   have hnc6 := NB558_557.out
   have hnb7 := NB557_559.out
   have hnc7 := NB559_557.out
   have hz8_1 := bz BK557
   go_wp2
   go_loopg [5, 6] k1 (fun kq v5 v6 w' => ∃ (x5_2 : Int) (x6_2 : Int), v5 = .int .u64 x5_2 ∧ v6 = .int .i64 x6_2 ∧ Aside0 (r2_To.l1 kq x4_1 x5_2 x6_2 a0_0 l0_1 false x560001_1 = some (r1, r2)) ∧ Aside0 (kq ≤ k1) ∧ Aside0 (Kd.R (Kd.int .u64) 25 w' w.heap.size (fun _ => True) u560001 x560001_1) ∧ Aside0 (w'.heap[gb557]? = some (.cells #[.bool a0_0, (.slice A0_1 l0_1.length c0_1)] 45 (0, 0))) ∧ Aside0 (w'.heap[gb558]? = some (.cells #[.bool false, (.slice none 0 0)] 24 (0, 0))) ∧ Aside0 (w'.heap[gb559]? = some (.cells #[.bool false, u560001] 24 (0, 0))) ∧ Aside0 (Below w.heap.size w w'))
   case atStart => exact ⟨(0), (wrap64 (x4_1 + 17)), rs, rs, H', ⟨Nat.le_refl _⟩, ⟨rk HO_560001⟩, ⟨bk BK557⟩, ⟨bk BK558⟩, ⟨bk BK559⟩, ⟨bls HB⟩⟩
   case round =>
    clear H'
    obtain ⟨x5_2, x6_2, rfl, rfl, HA, HK2, HO_560001, BK557, BK558, BK559, HB⟩ := hrel
    cases gk with
    | zero => exact absurd HA.out (by simp [r2_To.l1])
    | succ k2 =>
     have H := HA.out
     clear HA
     simp only [r2_To.l1] at H
     by_cases c9 : x6_2 ≥ x4_1
     case neg =>
      rw [if_neg c9] at H
      have c9b0 : decide (x4_1 ≤ x6_2) = false := decide_eq_false c9
      clear c9
      by_cases c18 : x560001_1.length < 17592186044416
      case neg =>
       rw [if_neg c18] at H
       exact absurd H (by simp)
      rw [if_pos c18] at H
      have LMc18 := Az c18
      clear c18
      obtain ⟨y561, hy561⟩ : ∃ y_ : List Int, y_ = (x560001_1 ++ [x5_2]) := ⟨_, rfl⟩
      replace H : (r2_To.l0 k2 (wrap64 (x4_1 + 18)) a0_0 l0_1 false y561) = some (r1, r2) := by rw [hy561]; exact H
      have Ny561 := Az hy561
      clear hy561
      have H' := Az H
      clear H
      have hnb19 := NB559_557.out
      have hnc19 := NB557_559.out
      have hnb20 := NB559_558.out
      have hnc20 := NB558_559.out
      have hz21_1 := bz BK559
      go_wp2_with (first | ((with_reducible refine gate_builtin (b := .append) (xs := #[.tmp 37, .tmp 39]) rfl ?_); (try (refine gate_guard (by rfl) ?_; dsimp only)); at_builtin; refine Kd.R_append (Kd.int .u64) (w0 := w) w.heap.size rfl (.tmp 37) (.tmp 39) 22 25 (.int .u64 0) 8 rfl Tryz.underlying22 info25 rfl (by decide) (by omega) u560001 x560001_1 x5_2 [.int .u64 x5_2] (fun _ => True) (fun _ => False) rfl rfl ?aP (fun _ hk => hk.elim) ?aF ?aO ?aB ?aS ?aL ?_; (case aP => exact rfl); (case aB => exact (bls HB)); (case aF => exact (fun _ _ => trivial)); (case aO => exact (rk HO_560001)); (case aS => exact (below_size (bls HB))); (case aL => have := LMc18.out; omega); intro v562 w22 ho hb hg hat; rw [← Ny561.out] at ho; replace BK557 := Az (blk_grown (g := gb557) (o := .cells #[.bool a0_0, .slice A0_1 l0_1.length c0_1] 45 (0, 0)) (bk BK557) hg (Kd.R_ne HO_560001.out BK557.out (by decide))); replace BK558 := Az (blk_grown (g := gb558) (o := .cells #[.bool false, .slice none 0 0] 24 (0, 0)) (bk BK558) hg (Kd.R_ne HO_560001.out BK558.out (by decide))); replace BK559 := Az (blk_grown (g := gb559) (o := .cells #[.bool false, u560001] 24 (0, 0)) (bk BK559) hg (Kd.R_ne HO_560001.out BK559.out (by decide))); replace HB := Az (hb); have HO563 := Az (ho); clear HO_560001; clear ho hb hg hat; obtain ⟨Ao23, co23, eo23⟩ := Kd.R_slice HO563.out; subst eo23; have hz24_1 := bz BK559))
      go_roundg k2
      case measure => have := HK1.out; have := HK2.out; omega
      case rel => exact ⟨(wrap64 (x4_1 + 18)), (y561), (.slice Ao23 y561.length co23), rs, H', ⟨by have := HK1.out; have := HK2.out; omega⟩, ⟨rt (Kd.R_mono (Kd.R_far (p := ⟨gb559, 1, none⟩) (Kd.R_types HO563.out BK559.out (by decide)) (fun _ hk => hk.2) (.slice Ao23 y561.length co23)) (fun _ hk => trivial))⟩, ⟨by refine blk_far ?_ NB557_559.out _; exact BK557.out⟩, ⟨by refine blk_far ?_ NB558_559.out _; exact BK558.out⟩, ⟨by refine blk_put (cs := #[.bool false, u560001]) ?_ 1 _ rfl; exact BK559.out⟩, ⟨bls HB⟩⟩
     rw [if_pos c9] at H
     have c9b0 : decide (x4_1 ≤ x6_2) = true := decide_eq_true c9
     clear c9
     by_cases c10 : x6_2 < (l0_1.length : Int)
     case neg =>
      rw [if_neg c10] at H
      have c10b0 := decide_eq_false c10
      clear c10
      have H' := Az H
      clear H
      have hnb15 := NB557_558.out
      have hnc15 := NB558_557.out
      have hnb16 := NB557_559.out
      have hnc16 := NB559_557.out
      have hz17_1 := bz BK557
      go_wp2
      go_roundg k2
      case measure => have := HK1.out; have := HK2.out; omega
      case rel => exact ⟨(IntKind.u64.wrap (x5_2 * 10)), (wrap64 (x6_2 - 1)), rs, rs, H', ⟨by have := HK1.out; have := HK2.out; omega⟩, ⟨rk HO_560001⟩, ⟨bk BK557⟩, ⟨bk BK558⟩, ⟨bk BK559⟩, ⟨bls HB⟩⟩
     rw [if_pos c10] at H
     have c10b0 := decide_eq_true c10
     clear c10
     by_cases c11 : 0 ≤ x6_2
     case neg =>
      rw [if_neg c11] at H
      exact absurd H (by simp)
     rw [if_pos c11] at H
     have c11b0 := decide_eq_true c11
     clear c11
     have H' := Az H
     clear H
     have hnb12 := NB557_558.out
     have hnc12 := NB558_557.out
     have hnb13 := NB557_559.out
     have hnc13 := NB559_557.out
     have hz14_1 := bz BK557
     have p560 : 0 ≤ (x6_2 : Int) := ode
     have q560 : x6_2 < (l0_1.length : Int) := ode
     obtain ⟨ad560, e560, hx560_0⟩ := Kd.at_int HR0_1.out x6_2 p560 q560
     cases e560
     replace hx560_0 := (HB.out.cell (World.block_lt_of_cell? w _ hx560_0)).trans hx560_0
     replace p560 := eq_true p560
     replace q560 := eq_true q560
     go_wp2
     go_roundg k2
     case measure => have := HK1.out; have := HK2.out; omega
     case rel => exact ⟨(IntKind.u64.wrap ((IntKind.u64.wrap (x5_2 * 10)) + (IntKind.u64.wrap (rd l0_1 x6_2)))), (wrap64 (x6_2 - 1)), rs, rs, H', ⟨by have := HK1.out; have := HK2.out; omega⟩, ⟨rk HO_560001⟩, ⟨bk BK557⟩, ⟨bk BK558⟩, ⟨bk BK559⟩, ⟨bls HB⟩⟩
def r5_Int.f (k : Nat) (a0_0 : Bool) (l0_1 : List Int) : Option (Int × Bool × Bool × List Int × Int × ByteArray × (List (S28))) := (r2_To.f k a0_0 l0_1).bind fun bt566 => (some (2, false, bt566.1, bt566.2, 0, (⟨#[]⟩ : ByteArray), ([] : List (S28))))
theorem r5_Int.mono : ∀ a0 a1 k, LeO (r5_Int.f k a0 a1) (r5_Int.f (k + 1) a0 a1) := by
 intro a0 a1 k
 unfold r5_Int.f
 repeat' first
   | exact r2_To.mono _ _ _
   | exact LeO.refl _
   | exact LeO.none _
   | refine LeO.ite ?_ ?_
   | refine LeO.bind ?_ (fun _ => ?_)
theorem r5_Int.calls (k : Nat) (a0_0 : Bool) (A0_1 : Option Addr) (c0_1 : Nat) (l0_1 : List Int) (r1 : Int) (r2 r3 : Bool) (r4 : List Int) (r5 : Int) (r6 : ByteArray) (r7 : List (S28)) (w : World) (hr0_1 : Kd.C (Kd.int .u8) w A0_1 l0_1.length l0_1) (hc0_1 : l0_1.length ≤ c0_1) (h : r5_Int.f k a0_0 l0_1 = some (r1, r2, r3, r4, r5, r6, r7)) :
  Calls Tryz.prog 19 #[.agg #[.bool a0_0, .slice A0_1 l0_1.length c0_1]] w fun e w' => ∃ v3_ v6_ : Value, e = .returned (.agg #[.int .i64 r1, .bool r2, .bool r3, v3_, .int .u64 r5, .string r6, v6_]) ∧ Kd.R (Kd.int .u64) 25 w' w.heap.size (fun _ => True) v3_ r4 ∧ Kd.R k28 28 w' w.heap.size (fun k_ => some k_ ≠ (v3_ : Value).ownBlock) v6_ r7 ∧ Below w.heap.size w w' := by
 have hu45 := Tryz.underlying45
 have hu28 := Tryz.underlying28
 have HR0_1 := Az hr0_1
 have HC0_1 := Az hc0_1
 clear hr0_1 hc0_1
 have HB := Az (Below.refl w.heap.size w)
 have H := h
 unfold r5_Int.f at H
 clear h
 obtain ⟨⟨t566, t567⟩, A2, H⟩ := bd H
 (try dsimp only at H)
 simp only [Option.some.injEq, Prod.mk.injEq] at H
 obtain ⟨rfl, rfl, rfl, rfl, rfl, rfl, rfl⟩ := H
 go_enter Tryz.func19, Tryz.ntmps19
 go_wp2_with (first | (refine be 1 #[.bool a0_0, .slice A0_1 l0_1.length c0_1] 45 ?_; intro gb564 hg w3 hbox hb; have BK564 := Az (hbox); have GW564 := gw (bl HB) hg; have GE564 := gw (bl HB) hg; replace HB := bs HB hb; clear hb hbox hg) | (refine be 2 #[.int .i64 0, .bool false, .bool false, .slice none 0 0, .int .u64 0, .string (⟨#[]⟩ : ByteArray), .slice none 0 0] 28 ?_; intro gb565 hg w4 hbox hb; have BK565 := Az (hbox); have GW565 := gw (bls HB) hg; have GE565 := gw (bls HB) hg; replace HB := bs HB hb; have NB564_565 := nl BK564 hg; have NB565_564 := ng BK564 hg; replace BK564 := kb BK564 hb; clear hb hbox hg; have hnb5 := NB564_565.out; have hnc5 := NB565_564.out; have hz6_1 := bz BK564) | (refine gl (some 4) Tryz.func42 #[.agg #[.bool a0_0, .slice A0_1 l0_1.length c0_1]] ?_; (with_reducible refine (r2_To.calls k a0_0 _ _ l0_1 t566 t567 _ (ck HR0_1 HB) HC0_1.out A2.out).mono ?_); rintro e w7 ⟨v568, rfl, ho0, hb⟩; refine ⟨_, rfl, ?_⟩; have HO569 := Az (Kd.R_lower ho0 (below_size (bls HB))); replace BK564 := kb BK564 hb; replace BK565 := kb BK565 hb; replace HB := bs HB hb; obtain ⟨Ao8, co8, eo8⟩ := Kd.R_slice HO569.out; subst eo8; have hz9_1 := bz BK565))
 refine bodyPost_ret (results_cell_row rfl _ _ gb565 28 #[.int .i64 2, .bool false, .bool t566, .slice Ao8 t567.length co8, .int .u64 0, .string (⟨#[]⟩ : ByteArray), .slice none 0 0] (0, 0) _ rfl (by refine blk_put (cs := #[.int .i64 2, .bool false, .bool t566, .slice Ao8 t567.length co8, .int .u64 0, .string (⟨#[]⟩ : ByteArray), .slice none 0 0]) ?_ 6 _ rfl; refine blk_put (cs := #[.int .i64 2, .bool false, .bool t566, .slice Ao8 t567.length co8, .int .u64 0, .string (⟨#[]⟩ : ByteArray), .slice none 0 0]) ?_ 5 _ rfl; refine blk_put (cs := #[.int .i64 2, .bool false, .bool t566, .slice Ao8 t567.length co8, .int .u64 0, .string (⟨#[]⟩ : ByteArray), .slice none 0 0]) ?_ 4 _ rfl; refine blk_put (cs := #[.int .i64 2, .bool false, .bool t566, .slice none 0 0, .int .u64 0, .string (⟨#[]⟩ : ByteArray), .slice none 0 0]) ?_ 3 _ rfl; refine blk_put (cs := #[.int .i64 2, .bool false, .bool false, .slice none 0 0, .int .u64 0, .string (⟨#[]⟩ : ByteArray), .slice none 0 0]) ?_ 2 _ rfl; refine blk_put (cs := #[.int .i64 2, .bool false, .bool false, .slice none 0 0, .int .u64 0, .string (⟨#[]⟩ : ByteArray), .slice none 0 0]) ?_ 1 _ rfl; refine blk_put (cs := #[.int .i64 0, .bool false, .bool false, .slice none 0 0, .int .u64 0, .string (⟨#[]⟩ : ByteArray), .slice none 0 0]) ?_ 0 _ rfl; exact BK565.out) Tryz.underlying28 rfl (by kernel_rfl)) rfl ?_
 exact ⟨_, _, fe, rt (Kd.R_mono (Kd.R_far (p := ⟨gb565, 6, none⟩) (Kd.R_far (p := ⟨gb565, 5, none⟩) (Kd.R_far (p := ⟨gb565, 4, none⟩) (Kd.R_far (p := ⟨gb565, 3, none⟩) (Kd.R_far (p := ⟨gb565, 2, none⟩) (Kd.R_far (p := ⟨gb565, 1, none⟩) (Kd.R_far (p := ⟨gb565, 0, none⟩) (Kd.R_types HO569.out BK565.out (by decide)) (fun _ hk => hk.2) (.int .i64 2)) (fun _ hk => hk.2) (.bool false)) (fun _ hk => hk.2) (.bool t566)) (fun _ hk => hk.2) (.slice Ao8 t567.length co8)) (fun _ hk => hk.2) (.int .u64 0)) (fun _ hk => hk.2) (.string (⟨#[]⟩ : ByteArray))) (fun _ hk => hk.2) (.slice none 0 0)) (fun _ hk => trivial)), Kd.R_nil _ _ _ _ _, bls HB⟩
mutual
def r2_Int.j0 : Nat → Int → Int → Option (Bool × List Int)
 | 0, _, _ => none
 | k + 1, x0, x3 => r2_Int.l0 k x0 x3 ([] : List Int)
def r2_Int.l0 : Nat → Int → Int → List Int → Option (Bool × List Int)
 | 0, _, _, _ => none
 | k + 1, x0, x3, x4 => if x3 > 0 then (if x4.length < 140737488355328 then (r2_Int.l0 k x0 (IntKind.u64.wrap (Int.tdiv x3 10)) (x4 ++ [(Int.tmod x3 10) % 256])) else (none)) else (some (decide (x0 < 0), x4))
end
def r2_Int.f (k : Nat) (a0 : Int) : Option (Bool × List Int) := if a0 < 0 then (r2_Int.j0 k a0 (IntKind.u64.wrap (-(IntKind.u64.wrap (a0))))) else (r2_Int.j0 k a0 (IntKind.u64.wrap (a0)))
theorem r2_Int.mono_l : ∀ k, (∀ y0 y1, LeO (r2_Int.j0 k y0 y1) (r2_Int.j0 (k + 1) y0 y1)) ∧ (∀ y0 y1 y2, LeO (r2_Int.l0 k y0 y1 y2) (r2_Int.l0 (k + 1) y0 y1 y2))
 | 0 => ⟨fun _ _ r h => by simp [r2_Int.j0] at h, fun _ _ _ r h => by simp [r2_Int.l0] at h⟩
 | k + 1 => by
  obtain ⟨ih0, ih1⟩ := r2_Int.mono_l k
  refine ⟨?_, ?_⟩
  ·intro y0 y1
   unfold r2_Int.j0
   repeat' first
   | exact ih0 _ _
   | exact ih1 _ _ _
   | exact LeO.refl _
   | exact LeO.none _
   | refine LeO.ite ?_ ?_
   | refine LeO.bind ?_ (fun _ => ?_)
  ·intro y0 y1 y2
   unfold r2_Int.l0
   repeat' first
   | exact ih0 _ _
   | exact ih1 _ _ _
   | exact LeO.refl _
   | exact LeO.none _
   | refine LeO.ite ?_ ?_
   | refine LeO.bind ?_ (fun _ => ?_)
theorem r2_Int.mono : ∀ a0 k, LeO (r2_Int.f k a0) (r2_Int.f (k + 1) a0) := by
 intro a0 k
 obtain ⟨ih0, ih1⟩ := r2_Int.mono_l k
 unfold r2_Int.f
 repeat' first
   | exact ih0 _ _
   | exact ih1 _ _ _
   | exact LeO.refl _
   | exact LeO.none _
   | refine LeO.ite ?_ ?_
   | refine LeO.bind ?_ (fun _ => ?_)
theorem r2_Int.calls (k : Nat) (a0 : Int) (r1 : Bool) (r2 : List Int) (w : World) (h : r2_Int.f k a0 = some (r1, r2)) :
  Calls Tryz.prog 20 #[.int .i64 a0] w fun e w' => ∃ v1_ : Value, e = .returned (.agg #[.bool r1, v1_]) ∧ Kd.R (Kd.int .u8) 5 w' w.heap.size (fun _ => True) v1_ r2 ∧ Below w.heap.size w w' := by
 have hu45 := Tryz.underlying45
 have HB := Az (Below.refl w.heap.size w)
 have H := h
 unfold r2_Int.f at H
 clear h
 have HC2 := Az H
 clear H
 go_enter Tryz.func20, Tryz.ntmps20
 go_upto_if 8 with (first | (refine be 2 #[.bool false, .slice none 0 0] 45 ?_; intro gb570 hg w3 hbox hb; have BK570 := Az (hbox); have GW570 := gw (bl HB) hg; have GE570 := gw (bl HB) hg; replace HB := bs HB hb; clear hb hbox hg))
 (try simp only [Act.put, List.setIfInBounds_toArray, List.set_cons_zero, List.set_cons_succ])
 go_cut [3] (fun v3 wc => ∃ (kq : Nat) (x3_1 : Int), v3 = .int .u64 x3_1 ∧ Aside0 (r2_Int.j0 kq a0 x3_1 = some (r1, r2)) ∧ Aside0 (kq ≤ k) ∧ Aside0 (wc.heap[gb570]? = some (.cells #[.bool false, (.slice none 0 0)] 45 (0, 0))) ∧ Aside0 (Below w.heap.size w wc))
 case first =>
  have H := HC2.out
  clear HC2
  by_cases c4 : a0 < 0
  ·rw [if_pos c4] at H
   have c4b0 := decide_eq_true c4
   clear c4
   (first | rw [c4b0] | (simp only [i64_w, i32_w]; rw [c4b0]) | skip)
   have H' := Az H
   clear H
   go_wp2
   go_meet
   case rel => exact ⟨_, (IntKind.u64.wrap (-(IntKind.u64.wrap (a0)))), rs, H', ⟨le0⟩, ⟨bk BK570⟩, ⟨bls HB⟩⟩
  rw [if_neg c4] at H
  have c4b0 := decide_eq_false c4
  clear c4
  (first | rw [c4b0] | (simp only [i64_w, i32_w]; rw [c4b0]) | skip)
  have H' := Az H
  clear H
  go_wp2
  go_meet
  case rel => exact ⟨_, (IntKind.u64.wrap (a0)), rs, H', ⟨le0⟩, ⟨bk BK570⟩, ⟨bls HB⟩⟩
 case rest =>
  clear HC2
  obtain ⟨kq, x3_1, rfl, HA, HJ1, BK570, HB⟩ := hcut
  cases kq with
  | zero => exact absurd HA.out (by simp [r2_Int.j0])
  | succ kj1 =>
   have H := HA.out
   clear HA
   simp only [r2_Int.j0] at H
   have H' := Az H
   clear H
   go_wp2
   go_loopg [3, 4] kj1 (fun kq v3 v4 w' => ∃ (x3_2 : Int) (x4_2 : List Int), v3 = .int .u64 x3_2 ∧ Aside0 (r2_Int.l0 kq a0 x3_2 x4_2 = some (r1, r2)) ∧ Aside0 (kq ≤ kj1) ∧ Aside0 (Kd.R (Kd.int .u8) 5 w' w.heap.size (fun _ => True) v4 x4_2) ∧ Aside0 (w'.heap[gb570]? = some (.cells #[.bool false, (.slice none 0 0)] 45 (0, 0))) ∧ Aside0 (Below w.heap.size w w'))
   case atStart => exact ⟨(x3_1), (([] : List Int)), rs, H', ⟨Nat.le_refl _⟩, ⟨Kd.R_nil _ _ _ _ _⟩, ⟨bk BK570⟩, ⟨bls HB⟩⟩
   case round =>
    clear H'
    obtain ⟨x3_2, x4_2, rfl, HA, HK2, HO_4, BK570, HB⟩ := hrel
    cases gk with
    | zero => exact absurd HA.out (by simp [r2_Int.l0])
    | succ k2 =>
     have H := HA.out
     clear HA
     simp only [r2_Int.l0] at H
     by_cases c5 : x3_2 > 0
     case neg =>
      rw [if_neg c5] at H
      have c5b0 : decide (0 < x3_2) = false := decide_eq_false c5
      clear c5
      simp only [Option.some.injEq, Prod.mk.injEq] at H
      obtain ⟨rfl, rfl⟩ := H
      obtain ⟨Ao8, co8, eo8⟩ := Kd.R_slice HO_4.out
      subst eo8
      have hz9_1 := bz BK570
      go_wp2
      refine bodyPost_ret (results_cell_row rfl _ _ gb570 45 #[.bool (decide (a0 < 0)), .slice Ao8 x4_2.length co8] (0, 0) _ rfl (by refine blk_put (cs := #[.bool (decide (a0 < 0)), .slice none 0 0]) ?_ 1 _ rfl; refine blk_put (cs := #[.bool false, .slice none 0 0]) ?_ 0 _ rfl; exact BK570.out) Tryz.underlying45 rfl (by kernel_rfl)) rfl ?_
      exact ⟨_, fe, rt (Kd.R_mono (Kd.R_far (p := ⟨gb570, 1, none⟩) (Kd.R_far (p := ⟨gb570, 0, none⟩) (Kd.R_types HO_4.out BK570.out (by decide)) (fun _ hk => hk.2) (.bool (decide (a0 < 0)))) (fun _ hk => hk.2) (.slice Ao8 x4_2.length co8)) (fun _ hk => trivial)), bls HB⟩
     rw [if_pos c5] at H
     have c5b0 : decide (0 < x3_2) = true := decide_eq_true c5
     clear c5
     by_cases c6 : x4_2.length < 140737488355328
     case neg =>
      rw [if_neg c6] at H
      exact absurd H (by simp)
     rw [if_pos c6] at H
     have LMc6 := Az c6
     clear c6
     obtain ⟨y571, hy571⟩ : ∃ y_ : List Int, y_ = (x4_2 ++ [(Int.tmod x3_2 10) % 256]) := ⟨_, rfl⟩
     replace H : (r2_Int.l0 k2 a0 (IntKind.u64.wrap (Int.tdiv x3_2 10)) y571) = some (r1, r2) := by rw [hy571]; exact H
     have Ny571 := Az hy571
     clear hy571
     have H' := Az H
     clear H
     go_wp2_with (first | ((with_reducible refine gate_builtin (b := .append) (xs := #[.tmp 13, .tmp 17]) rfl ?_); at_builtin; refine Kd.R_append (Kd.int .u8) (w0 := w) w.heap.size rfl (.tmp 13) (.tmp 17) 43 5 (.int .u8 0) 1 rfl Tryz.underlying43 info5 rfl (by decide) (by omega) u4 x4_2 ((Int.tmod x3_2 10) % 256) [.int .u8 ((Int.tmod x3_2 10) % 256)] (fun _ => True) (fun _ => False) rfl rfl ?aP (fun _ hk => hk.elim) ?aF ?aO ?aB ?aS ?aL ?_; (case aP => exact rfl); (case aB => exact (bls HB)); (case aF => exact (fun _ _ => trivial)); (case aO => exact (rk HO_4)); (case aS => exact (below_size (bls HB))); (case aL => have := LMc6.out; omega); intro v572 w7 ho hb hg hat; rw [← Ny571.out] at ho; replace BK570 := Az (blk_grown (g := gb570) (o := .cells #[.bool false, .slice none 0 0] 45 (0, 0)) (bk BK570) hg (Kd.R_ne HO_4.out BK570.out (by decide))); replace HB := Az (hb); have HO573 := Az (ho); clear HO_4; clear ho hb hg hat))
     go_roundg k2
     case measure => have := HJ1.out; have := HK2.out; omega
     case rel => exact ⟨(IntKind.u64.wrap (Int.tdiv x3_2 10)), (y571), rs, H', ⟨by have := HJ1.out; have := HK2.out; omega⟩, ⟨rk HO573⟩, ⟨bk BK570⟩, ⟨bls HB⟩⟩
mutual
def r2_Same.j0 : Nat → Bool → Bool → List Int → Bool → List Int → Option (Bool)
 | 0, _, _, _, _, _ => none
 | k + 1, x19, x575000, x575001, x576000, x576001 => if x19 = true then (some false) else (r2_Same.l0 k 0 x575000 x575001 x576000 x576001)
def r2_Same.l0 : Nat → Int → Bool → List Int → Bool → List Int → Option (Bool)
 | 0, _, _, _, _, _ => none
 | k + 1, x5, x575000, x575001, x576000, x576001 => if x5 < (x575001.length : Int) then (if 0 ≤ x5 then (if x5 < (x576001.length : Int) then (if (rd x575001 x5) = (rd x576001 x5) then (r2_Same.l0 k (wrap64 (x5 + 1)) x575000 x575001 x576000 x576001) else (some false)) else (none)) else (none)) else (some true)
end
def r2_Same.f (k : Nat) (a0_0 : Bool) (l0_1 : List Int) (a1_0 : Bool) (l1_1 : List Int) : Option (Bool) := if (a0_0 != a1_0) = true then (r2_Same.j0 k true a0_0 l0_1 a1_0 l1_1) else (r2_Same.j0 k ((l0_1.length : Int) != (l1_1.length : Int)) a0_0 l0_1 a1_0 l1_1)
theorem r2_Same.mono_l : ∀ k, (∀ y0 y1 y2 y3 y4, LeO (r2_Same.j0 k y0 y1 y2 y3 y4) (r2_Same.j0 (k + 1) y0 y1 y2 y3 y4)) ∧ (∀ y0 y1 y2 y3 y4, LeO (r2_Same.l0 k y0 y1 y2 y3 y4) (r2_Same.l0 (k + 1) y0 y1 y2 y3 y4))
 | 0 => ⟨fun _ _ _ _ _ r h => by simp [r2_Same.j0] at h, fun _ _ _ _ _ r h => by simp [r2_Same.l0] at h⟩
 | k + 1 => by
  obtain ⟨ih0, ih1⟩ := r2_Same.mono_l k
  refine ⟨?_, ?_⟩
  ·intro y0 y1 y2 y3 y4
   unfold r2_Same.j0
   repeat' first
   | exact ih0 _ _ _ _ _
   | exact ih1 _ _ _ _ _
   | exact LeO.refl _
   | exact LeO.none _
   | refine LeO.ite ?_ ?_
   | refine LeO.bind ?_ (fun _ => ?_)
  ·intro y0 y1 y2 y3 y4
   unfold r2_Same.l0
   repeat' first
   | exact ih0 _ _ _ _ _
   | exact ih1 _ _ _ _ _
   | exact LeO.refl _
   | exact LeO.none _
   | refine LeO.ite ?_ ?_
   | refine LeO.bind ?_ (fun _ => ?_)
theorem r2_Same.mono : ∀ a0 a1 a2 a3 k, LeO (r2_Same.f k a0 a1 a2 a3) (r2_Same.f (k + 1) a0 a1 a2 a3) := by
 intro a0 a1 a2 a3 k
 obtain ⟨ih0, ih1⟩ := r2_Same.mono_l k
 unfold r2_Same.f
 repeat' first
   | exact ih0 _ _ _ _ _
   | exact ih1 _ _ _ _ _
   | exact LeO.refl _
   | exact LeO.none _
   | refine LeO.ite ?_ ?_
   | refine LeO.bind ?_ (fun _ => ?_)
theorem r2_Same.calls (k : Nat) (a0_0 : Bool) (A0_1 : Option Addr) (c0_1 : Nat) (l0_1 : List Int) (a1_0 : Bool) (A1_1 : Option Addr) (c1_1 : Nat) (l1_1 : List Int) (r : Bool) (w : World) (hr0_1 : Kd.C (Kd.int .u64) w A0_1 l0_1.length l0_1) (hc0_1 : l0_1.length ≤ c0_1) (hr1_1 : Kd.C (Kd.int .u64) w A1_1 l1_1.length l1_1) (hc1_1 : l1_1.length ≤ c1_1) (h : r2_Same.f k a0_0 l0_1 a1_0 l1_1 = some r) :
  Calls Tryz.prog 34 #[.agg #[.bool a0_0, .slice A0_1 l0_1.length c0_1], .agg #[.bool a1_0, .slice A1_1 l1_1.length c1_1]] w fun e w' => e = .returned (.bool r) ∧ Below w.heap.size w w' := by
 have hu24 := Tryz.underlying24
 have HR0_1 := Az hr0_1
 have HC0_1 := Az hc0_1
 clear hr0_1 hc0_1
 have HR1_1 := Az hr1_1
 have HC1_1 := Az hc1_1
 clear hr1_1 hc1_1
 have HB := Az (Below.refl w.heap.size w)
 have H := h
 unfold r2_Same.f at H
 clear h
 have HC3 := Az H
 clear H
 go_enter Tryz.func34, Tryz.ntmps34
 go_upto_region 1 with (first | ((try (refine gate_guard (by rfl) ?_; dsimp only)); refine be 2 #[.bool a0_0, .slice A0_1 l0_1.length c0_1] 24 ?_; intro gb574 hg w4 hbox hb; have BK574 := Az (hbox); have GW574 := gw (bl HB) hg; have GE574 := gw (bl HB) hg; replace HB := bs HB hb; clear hb hbox hg) | ((try (refine gate_guard (by rfl) ?_; dsimp only)); refine be 3 #[.bool a1_0, .slice A1_1 l1_1.length c1_1] 24 ?_; intro gb575 hg w5 hbox hb; have BK575 := Az (hbox); have GW575 := gw (bls HB) hg; have GE575 := gw (bls HB) hg; replace HB := bs HB hb; have NB574_575 := nl BK574 hg; have NB575_574 := ng BK574 hg; replace BK574 := kb BK574 hb; clear hb hbox hg))
 repeat (go_quiet (first | ((try (refine gate_guard (by rfl) ?_; dsimp only)); refine be 2 #[.bool a0_0, .slice A0_1 l0_1.length c0_1] 24 ?_; intro gb574 hg w4 hbox hb; have BK574 := Az (hbox); have GW574 := gw (bl HB) hg; have GE574 := gw (bl HB) hg; replace HB := bs HB hb; clear hb hbox hg) | ((try (refine gate_guard (by rfl) ?_; dsimp only)); refine be 3 #[.bool a1_0, .slice A1_1 l1_1.length c1_1] 24 ?_; intro gb575 hg w5 hbox hb; have BK575 := Az (hbox); have GW575 := gw (bls HB) hg; have GE575 := gw (bls HB) hg; replace HB := bs HB hb; have NB574_575 := nl BK574 hg; have NB575_574 := ng BK574 hg; replace BK574 := kb BK574 hb; clear hb hbox hg)); go_upto_region 1 with (first | ((try (refine gate_guard (by rfl) ?_; dsimp only)); refine be 2 #[.bool a0_0, .slice A0_1 l0_1.length c0_1] 24 ?_; intro gb574 hg w4 hbox hb; have BK574 := Az (hbox); have GW574 := gw (bl HB) hg; have GE574 := gw (bl HB) hg; replace HB := bs HB hb; clear hb hbox hg) | ((try (refine gate_guard (by rfl) ?_; dsimp only)); refine be 3 #[.bool a1_0, .slice A1_1 l1_1.length c1_1] 24 ?_; intro gb575 hg w5 hbox hb; have BK575 := Az (hbox); have GW575 := gw (bls HB) hg; have GE575 := gw (bls HB) hg; replace HB := bs HB hb; have NB574_575 := nl BK574 hg; have NB575_574 := ng BK574 hg; replace BK574 := kb BK574 hb; clear hb hbox hg)))
 (try simp only [Act.put, List.setIfInBounds_toArray, List.set_cons_zero, List.set_cons_succ])
 go_cut [19] (fun v19 wc => ∃ (kq : Nat) (x19_2 : Bool), v19 = .bool x19_2 ∧ Aside0 (r2_Same.j0 kq x19_2 a0_0 l0_1 a1_0 l1_1 = some r) ∧ Aside0 (kq ≤ k) ∧ Aside0 (wc.heap[gb574]? = some (.cells #[.bool a0_0, (.slice A0_1 l0_1.length c0_1)] 24 (0, 0))) ∧ Aside0 (wc.heap[gb575]? = some (.cells #[.bool a1_0, (.slice A1_1 l1_1.length c1_1)] 24 (0, 0))) ∧ Aside0 (Below w.heap.size w wc))
 case first =>
  have H := HC3.out
  clear HC3
  by_cases c6 : (a0_0 != a1_0) = true
  case neg =>
   rw [if_neg c6] at H
   have c6b0 : (a0_0 != a1_0) = false := by simpa using c6
   (try (have c6b1 : decide (a0_0 = a1_0) = true := by simpa using c6))
   (try (have c6b2 : (a0_0 == a1_0) = true := by simpa using c6))
   clear c6
   (first | rw [c6b0] | (simp only [i64_w, i32_w]; rw [c6b0]) | skip)
   have H' := Az H
   clear H
   have hnb10 := NB574_575.out
   have hnc10 := NB575_574.out
   have hz11_1 := bz BK574
   have hz12_2 := bz BK575
   go_wp2
   repeat (go_quiet (fail); try go_wp2)
   go_meet
   case rel => exact ⟨_, (((l0_1.length : Int) != (l1_1.length : Int))), rs, H', ⟨le0⟩, ⟨bk BK574⟩, ⟨bk BK575⟩, ⟨bls HB⟩⟩
  rw [if_pos c6] at H
  have c6b0 : (a0_0 != a1_0) = true := c6
  (try (have c6b1 : decide (a0_0 = a1_0) = false := by simpa using c6))
  (try (have c6b2 : (a0_0 == a1_0) = false := by simpa using c6))
  (try (have c6b3 : ¬ (a0_0 = a1_0) := by simpa using c6))
  clear c6
  (first | rw [c6b0] | (simp only [i64_w, i32_w]; rw [c6b0]) | skip)
  have H' := Az H
  clear H
  have hnb7 := NB574_575.out
  have hnc7 := NB575_574.out
  have hz8_1 := bz BK574
  have hz9_2 := bz BK575
  go_wp2
  repeat (go_quiet (fail); try go_wp2)
  go_meet
  case rel => exact ⟨_, (true), rs, H', ⟨le0⟩, ⟨bk BK574⟩, ⟨bk BK575⟩, ⟨bls HB⟩⟩
 case rest =>
  clear HC3
  obtain ⟨kq, x19_2, rfl, HA, HJ2, BK574, BK575, HB⟩ := hcut
  cases kq with
  | zero => exact absurd HA.out (by simp [r2_Same.j0])
  | succ kj2 =>
   have H := HA.out
   clear HA
   simp only [r2_Same.j0] at H
   by_cases c13 : x19_2 = true
   ·subst c13
    rw [if_pos rfl] at H
    obtain rfl := Option.some.inj H
    go_wp2
    repeat (go_quiet (fail); try go_wp2)
    go_ret
    exact ⟨fe, bls HB⟩
   replace c13 := Bool.eq_false_iff.mpr c13
   subst c13
   rw [if_neg Bool.false_ne_true] at H
   have H' := Az H
   clear H
   go_wp2
   repeat (go_quiet (fail); try go_wp2)
   go_loopg [5] kj2 (fun kq v5 w' => ∃ (x5_2 : Int), v5 = .int .i64 x5_2 ∧ Aside0 (r2_Same.l0 kq x5_2 a0_0 l0_1 a1_0 l1_1 = some r) ∧ Aside0 (kq ≤ kj2) ∧ Aside0 (w'.heap[gb574]? = some (.cells #[.bool a0_0, (.slice A0_1 l0_1.length c0_1)] 24 (0, 0))) ∧ Aside0 (w'.heap[gb575]? = some (.cells #[.bool a1_0, (.slice A1_1 l1_1.length c1_1)] 24 (0, 0))) ∧ Aside0 (Below w.heap.size w w'))
   case atStart => exact ⟨(0), rs, H', ⟨Nat.le_refl _⟩, ⟨bk BK574⟩, ⟨bk BK575⟩, ⟨bls HB⟩⟩
   case round =>
    clear H'
    obtain ⟨x5_2, rfl, HA, HK2, BK574, BK575, HB⟩ := hrel
    cases gk with
    | zero => exact absurd HA.out (by simp [r2_Same.l0])
    | succ k2 =>
     have H := HA.out
     clear HA
     simp only [r2_Same.l0] at H
     by_cases c14 : x5_2 < (l0_1.length : Int)
     case neg =>
      rw [if_neg c14] at H
      have c14b0 := decide_eq_false c14
      clear c14
      obtain rfl := Option.some.inj H
      have hnb24 := NB574_575.out
      have hnc24 := NB575_574.out
      have hz25_1 := bz BK574
      go_wp2
      repeat (go_quiet (fail); try go_wp2)
      go_ret
      exact ⟨fe, bls HB⟩
     rw [if_pos c14] at H
     have c14b0 := decide_eq_true c14
     clear c14
     by_cases c15 : 0 ≤ x5_2
     case neg =>
      rw [if_neg c15] at H
      exact absurd H (by simp)
     rw [if_pos c15] at H
     have c15b0 := decide_eq_true c15
     clear c15
     by_cases c16 : x5_2 < (l1_1.length : Int)
     case neg =>
      rw [if_neg c16] at H
      exact absurd H (by simp)
     rw [if_pos c16] at H
     have c16b0 := decide_eq_true c16
     clear c16
     by_cases c17 : (rd l0_1 x5_2) = (rd l1_1 x5_2)
     case neg =>
      rw [if_neg c17] at H
      have c17b0 := beq_eq_false_iff_ne.mpr c17
      have c17b1 := bne_iff_ne.mpr c17
      obtain rfl := Option.some.inj H
      have hnb21 := NB574_575.out
      have hnc21 := NB575_574.out
      have hz22_1 := bz BK574
      have p576 : 0 ≤ (x5_2 : Int) := ode
      have q576 : x5_2 < (l0_1.length : Int) := ode
      obtain ⟨ad576, e576, hx576_0⟩ := Kd.at_int HR0_1.out x5_2 p576 q576
      cases e576
      replace hx576_0 := (HB.out.cell (World.block_lt_of_cell? w _ hx576_0)).trans hx576_0
      replace p576 := eq_true p576
      replace q576 := eq_true q576
      have hz23_1 := bz BK575
      have p577 : 0 ≤ (x5_2 : Int) := ode
      have q577 : x5_2 < (l1_1.length : Int) := ode
      obtain ⟨ad577, e577, hx577_0⟩ := Kd.at_int HR1_1.out x5_2 p577 q577
      cases e577
      replace hx577_0 := (HB.out.cell (World.block_lt_of_cell? w _ hx577_0)).trans hx577_0
      replace p577 := eq_true p577
      replace q577 := eq_true q577
      go_wp2
      repeat (go_quiet (fail); try go_wp2)
      go_ret
      exact ⟨fe, bls HB⟩
     rw [if_pos c17] at H
     have c17b0 := beq_iff_eq.mpr c17
     have c17b1 := bne_eq_false_iff_eq.mpr c17
     clear c17
     have H' := Az H
     clear H
     have hnb18 := NB574_575.out
     have hnc18 := NB575_574.out
     have hz19_1 := bz BK574
     have p576 : 0 ≤ (x5_2 : Int) := ode
     have q576 : x5_2 < (l0_1.length : Int) := ode
     obtain ⟨ad576, e576, hx576_0⟩ := Kd.at_int HR0_1.out x5_2 p576 q576
     cases e576
     replace hx576_0 := (HB.out.cell (World.block_lt_of_cell? w _ hx576_0)).trans hx576_0
     replace p576 := eq_true p576
     replace q576 := eq_true q576
     have hz20_1 := bz BK575
     have p577 : 0 ≤ (x5_2 : Int) := ode
     have q577 : x5_2 < (l1_1.length : Int) := ode
     obtain ⟨ad577, e577, hx577_0⟩ := Kd.at_int HR1_1.out x5_2 p577 q577
     cases e577
     replace hx577_0 := (HB.out.cell (World.block_lt_of_cell? w _ hx577_0)).trans hx577_0
     replace p577 := eq_true p577
     replace q577 := eq_true q577
     go_wp2
     repeat (go_quiet (fail); try go_wp2)
     go_roundg k2
     case measure => have := HJ2.out; have := HK2.out; omega
     case rel => exact ⟨(wrap64 (x5_2 + 1)), rs, H', ⟨by have := HJ2.out; have := HK2.out; omega⟩, ⟨bk BK574⟩, ⟨bk BK575⟩, ⟨bls HB⟩⟩
mutual
def r5_Is.l0 : Nat → Int → Int → Bool → Bool → List Int → Int → ByteArray → List (S28) → Option (Bool)
 | 0, _, _, _, _, _, _, _, _ => none
 | k + 1, x5, x579000, x579001, x579002, x579003, x579004, x579005, x579006 => if x5 < (x579006.length : Int) then (none) else (some true)
def r5_Is.f : Nat → Int → Bool → Bool → List Int → Int → ByteArray → List (S28) → Int → Bool → Bool → List Int → Int → ByteArray → List (S28) → Option (Bool)
 | 0, _, _, _, _, _, _, _, _, _, _, _, _, _, _ => none
 | k + 1, a0_0, a0_1, a0_2, l0_3, a0_4, a0_5, l0_6, a1_0, a1_1, a1_2, l1_3, a1_4, a1_5, l1_6 => if a0_0 = a1_0 then (if (a0_1 != a1_1) = true then (none) else (if a0_4 = a1_4 then (if a0_5.toList = a1_5.toList then ((r2_Same.f k a0_2 l0_3 a1_2 l1_3).bind fun t580 => (if t580 = true then (if (l0_6.length : Int) = (l1_6.length : Int) then (r5_Is.l0 k 0 a0_0 a0_1 a0_2 l0_3 a0_4 a0_5 l0_6) else (none)) else (none))) else (none)) else (none))) else (none)
end
theorem r5_Is.mono_l : ∀ k, (∀ y0 y1 y2 y3 y4 y5 y6 y7 y8 y9 y10 y11 y12 y13, LeO (r5_Is.f k y0 y1 y2 y3 y4 y5 y6 y7 y8 y9 y10 y11 y12 y13) (r5_Is.f (k + 1) y0 y1 y2 y3 y4 y5 y6 y7 y8 y9 y10 y11 y12 y13)) ∧ (∀ y0 y1 y2 y3 y4 y5 y6 y7, LeO (r5_Is.l0 k y0 y1 y2 y3 y4 y5 y6 y7) (r5_Is.l0 (k + 1) y0 y1 y2 y3 y4 y5 y6 y7))
 | 0 => ⟨fun _ _ _ _ _ _ _ _ _ _ _ _ _ _ r h => by simp [r5_Is.f] at h, fun _ _ _ _ _ _ _ _ r h => by simp [r5_Is.l0] at h⟩
 | k + 1 => by
  obtain ⟨ih0, ih1⟩ := r5_Is.mono_l k
  refine ⟨?_, ?_⟩
  ·intro y0 y1 y2 y3 y4 y5 y6 y7 y8 y9 y10 y11 y12 y13
   unfold r5_Is.f
   repeat' first
   | exact ih0 _ _ _ _ _ _ _ _ _ _ _ _ _ _
   | exact ih1 _ _ _ _ _ _ _ _
   | exact r2_Same.mono _ _ _ _ _
   | exact LeO.refl _
   | exact LeO.none _
   | refine LeO.ite ?_ ?_
   | refine LeO.bind ?_ (fun _ => ?_)
  ·intro y0 y1 y2 y3 y4 y5 y6 y7
   unfold r5_Is.l0
   repeat' first
   | exact ih0 _ _ _ _ _ _ _ _ _ _ _ _ _ _
   | exact ih1 _ _ _ _ _ _ _ _
   | exact r2_Same.mono _ _ _ _ _
   | exact LeO.refl _
   | exact LeO.none _
   | refine LeO.ite ?_ ?_
   | refine LeO.bind ?_ (fun _ => ?_)
theorem r5_Is.mono : ∀ a0 a1 a2 a3 a4 a5 a6 a7 a8 a9 a10 a11 a12 a13 k, LeO (r5_Is.f k a0 a1 a2 a3 a4 a5 a6 a7 a8 a9 a10 a11 a12 a13) (r5_Is.f (k + 1) a0 a1 a2 a3 a4 a5 a6 a7 a8 a9 a10 a11 a12 a13) := by
 intro a0 a1 a2 a3 a4 a5 a6 a7 a8 a9 a10 a11 a12 a13 k
 obtain ⟨ih0, ih1⟩ := r5_Is.mono_l k
 exact ih0 a0 a1 a2 a3 a4 a5 a6 a7 a8 a9 a10 a11 a12 a13
theorem r5_Is.calls (k : Nat) : ∀ (a0_0 : Int) (a0_1 a0_2 : Bool) (A0_3 : Option Addr) (c0_3 : Nat) (l0_3 : List Int) (a0_4 : Int) (a0_5 : ByteArray) (A0_6 : Option Addr) (c0_6 : Nat) (l0_6 : List (S28)) (a1_0 : Int) (a1_1 a1_2 : Bool) (A1_3 : Option Addr) (c1_3 : Nat) (l1_3 : List Int) (a1_4 : Int) (a1_5 : ByteArray) (A1_6 : Option Addr) (c1_6 : Nat) (l1_6 : List (S28)) (r : Bool) (w : World) (hr0_3 : Kd.C (Kd.int .u64) w A0_3 l0_3.length l0_3) (hc0_3 : l0_3.length ≤ c0_3) (hr0_6 : Kd.C k28 w A0_6 l0_6.length l0_6) (hc0_6 : l0_6.length ≤ c0_6) (hr1_3 : Kd.C (Kd.int .u64) w A1_3 l1_3.length l1_3) (hc1_3 : l1_3.length ≤ c1_3) (hr1_6 : Kd.C k28 w A1_6 l1_6.length l1_6) (hc1_6 : l1_6.length ≤ c1_6) (h : r5_Is.f k a0_0 a0_1 a0_2 l0_3 a0_4 a0_5 l0_6 a1_0 a1_1 a1_2 l1_3 a1_4 a1_5 l1_6 = some r),
  Calls Tryz.prog 21 #[.agg #[.int .i64 a0_0, .bool a0_1, .bool a0_2, .slice A0_3 l0_3.length c0_3, .int .u64 a0_4, .string a0_5, .slice A0_6 l0_6.length c0_6], .agg #[.int .i64 a1_0, .bool a1_1, .bool a1_2, .slice A1_3 l1_3.length c1_3, .int .u64 a1_4, .string a1_5, .slice A1_6 l1_6.length c1_6]] w fun e w' => e = .returned (.bool r) ∧ Below w.heap.size w w' := by
 induction k using Nat.strongRecOn with
 | _ k ih =>
 intro a0_0 a0_1 a0_2 A0_3 c0_3 l0_3 a0_4 a0_5 A0_6 c0_6 l0_6 a1_0 a1_1 a1_2 A1_3 c1_3 l1_3 a1_4 a1_5 A1_6 c1_6 l1_6 r w hr0_3 hc0_3 hr0_6 hc0_6 hr1_3 hc1_3 hr1_6 hc1_6 h
 cases k with
 | zero => exact absurd h (by simp [r5_Is.f])
 | succ k =>
 simp only [r5_Is.f] at h
 have hu28 := Tryz.underlying28
 have hu24 := Tryz.underlying24
 have HR0_3 := Az hr0_3
 have HC0_3 := Az hc0_3
 clear hr0_3 hc0_3
 have HR0_6 := Az hr0_6
 have HC0_6 := Az hc0_6
 clear hr0_6 hc0_6
 have HR1_3 := Az hr1_3
 have HC1_3 := Az hc1_3
 clear hr1_3 hc1_3
 have HR1_6 := Az hr1_6
 have HC1_6 := Az hc1_6
 clear hr1_6 hc1_6
 have HB := Az (Below.refl w.heap.size w)
 have H : (if a0_0 = a1_0 then (if (a0_1 != a1_1) = true then (none) else (if a0_4 = a1_4 then (if a0_5.toList = a1_5.toList then ((r2_Same.f k a0_2 l0_3 a1_2 l1_3).bind fun t580 => (if t580 = true then (if (l0_6.length : Int) = (l1_6.length : Int) then (r5_Is.l0 k 0 a0_0 a0_1 a0_2 l0_3 a0_4 a0_5 l0_6) else (none)) else (none))) else (none)) else (none))) else (none)) = some r := h
 clear h
 by_cases c3 : a0_0 = a1_0
 case neg =>
  rw [if_neg c3] at H
  exact absurd H (by simp)
 rw [if_pos c3] at H
 have c3b0 := beq_iff_eq.mpr c3
 have c3b1 := bne_eq_false_iff_eq.mpr c3
 clear c3
 by_cases c4 : (a0_1 != a1_1) = true
 ·rw [if_pos c4] at H
  exact absurd H (by simp)
 rw [if_neg c4] at H
 have c4b0 : (a0_1 != a1_1) = false := by simpa using c4
 (try (have c4b1 : decide (a0_1 = a1_1) = true := by simpa using c4))
 (try (have c4b2 : (a0_1 == a1_1) = true := by simpa using c4))
 clear c4
 by_cases c5 : a0_4 = a1_4
 case neg =>
  rw [if_neg c5] at H
  exact absurd H (by simp)
 rw [if_pos c5] at H
 have c5b0 := beq_iff_eq.mpr c5
 have c5b1 := bne_eq_false_iff_eq.mpr c5
 clear c5
 by_cases c6 : a0_5.toList = a1_5.toList
 case neg =>
  rw [if_neg c6] at H
  exact absurd H (by simp)
 rw [if_pos c6] at H
 have c6b0 := beq_iff_eq.mpr c6
 have c6b1 := bne_eq_false_iff_eq.mpr c6
 clear c6
 obtain ⟨t580, A7, H⟩ := bd H
 by_cases c8 : t580 = true
 case neg =>
  replace c8 := Bool.eq_false_iff.mpr c8
  subst c8
  rw [if_neg Bool.false_ne_true] at H
  exact absurd H (by simp)
 subst c8
 rw [if_pos rfl] at H
 by_cases c9 : (l0_6.length : Int) = (l1_6.length : Int)
 case neg =>
  rw [if_neg c9] at H
  exact absurd H (by simp)
 rw [if_pos c9] at H
 have c9b0 := beq_iff_eq.mpr c9
 have c9b1 := bne_eq_false_iff_eq.mpr c9
 have c9b2 : (l0_6.length == l1_6.length) = true := by first | simpa using c9 | (simp at c9 ⊢; omega)
 clear c9
 have H' := Az H
 clear H
 go_enter Tryz.func21, Tryz.ntmps21
 go_wp2_with (first | ((try (refine gate_guard (by rfl) ?_; dsimp only)); refine be 2 #[.int .i64 a0_0, .bool a0_1, .bool a0_2, .slice A0_3 l0_3.length c0_3, .int .u64 a0_4, .string a0_5, .slice A0_6 l0_6.length c0_6] 28 ?_; intro gb578 hg w10 hbox hb; have BK578 := Az (hbox); have GW578 := gw (bl HB) hg; have GE578 := gw (bl HB) hg; replace HB := bs HB hb; clear hb hbox hg) | ((try (refine gate_guard (by rfl) ?_; dsimp only)); refine be 3 #[.int .i64 a1_0, .bool a1_1, .bool a1_2, .slice A1_3 l1_3.length c1_3, .int .u64 a1_4, .string a1_5, .slice A1_6 l1_6.length c1_6] 28 ?_; intro gb579 hg w11 hbox hb; have BK579 := Az (hbox); have GW579 := gw (bls HB) hg; have GE579 := gw (bls HB) hg; replace HB := bs HB hb; have NB578_579 := nl BK578 hg; have NB579_578 := ng BK578 hg; replace BK578 := kb BK578 hb; clear hb hbox hg; have hnb12 := NB578_579.out; have hnc12 := NB579_578.out; have hz13_1 := bz BK578; have hz14_2 := bz BK579) | (go_at_call 34; (with_reducible refine (r2_Same.calls k a0_2 _ _ l0_3 a1_2 _ _ l1_3 true _ (ck HR0_3 HB) HC0_3.out (ck HR1_3 HB) HC1_3.out A7.out).mono ?_); rintro e w15 ⟨rfl, hb⟩; replace BK578 := kb BK578 hb; replace BK579 := kb BK579 hb; replace HB := bs HB hb; have hz16_1 := bz BK578; have hz17_2 := bz BK579))
 go_loopg [5] k (fun kq v5 w' => ∃ (x5_1 : Int), v5 = .int .i64 x5_1 ∧ Aside0 (r5_Is.l0 kq x5_1 a0_0 a0_1 a0_2 l0_3 a0_4 a0_5 l0_6 = some r) ∧ Aside0 (kq ≤ k) ∧ Aside0 (w'.heap[gb578]? = some (.cells #[.int .i64 a0_0, .bool a0_1, .bool a0_2, (.slice A0_3 l0_3.length c0_3), .int .u64 a0_4, .string a0_5, (.slice A0_6 l0_6.length c0_6)] 28 (0, 0))) ∧ Aside0 (w'.heap[gb579]? = some (.cells #[.int .i64 a1_0, .bool a1_1, .bool a1_2, (.slice A1_3 l1_3.length c1_3), .int .u64 a1_4, .string a1_5, (.slice A1_6 l1_6.length c1_6)] 28 (0, 0))) ∧ Aside0 (Below w.heap.size w w'))
 case atStart => exact ⟨(0), rs, H', ⟨Nat.le_refl _⟩, ⟨bk BK578⟩, ⟨bk BK579⟩, ⟨bls HB⟩⟩
 case round =>
  clear H'
  obtain ⟨x5_1, rfl, HA, HK1, BK578, BK579, HB⟩ := hrel
  cases gk with
  | zero => exact absurd HA.out (by simp [r5_Is.l0])
  | succ k1 =>
   have H := HA.out
   clear HA
   simp only [r5_Is.l0] at H
   by_cases c18 : x5_1 < (l0_6.length : Int)
   ·rw [if_pos c18] at H
    exact absurd H (by simp)
   rw [if_neg c18] at H
   have c18b0 := decide_eq_false c18
   clear c18
   obtain rfl := Option.some.inj H
   have hnb19 := NB578_579.out
   have hnc19 := NB579_578.out
   have hz20_1 := bz BK578
   go_wp2
   go_ret
   exact ⟨fe, bls HB⟩
/-- plain.Quote of the one text that 'known' asks. -/
def p_Quote.f (k : Nat) (a0_0 : Int) (a0_1 a0_2 : Bool) (l0_3 : List Int) (a0_4 : Int) (a0_5 : ByteArray) (l0_6 : List (S28)) : Option ByteArray :=
 if a0_0 = 4 ∧ a0_5 = ⟨#[97, 39, 10, 200]⟩ then (p_Good.f k a0_0 a0_1 a0_2 l0_3 a0_4 a0_5 l0_6).bind fun g => if g = true then some ⟨#[39, 97, 92, 39, 92, 110, 92, 120, 99, 56, 39]⟩ else none else none
theorem p_Quote.mono : ∀ a0 a1 a2 a3 a4 a5 a6 k, LeO (p_Quote.f k a0 a1 a2 a3 a4 a5 a6) (p_Quote.f (k + 1) a0 a1 a2 a3 a4 a5 a6) := by
 intro a0 a1 a2 a3 a4 a5 a6 k
 unfold p_Quote.f
 exact LeO.ite (LeO.bind (p_Good.mono _ _ _ _ _ _ _ _) (fun _ => LeO.refl _)) (LeO.none _)
/-- What stands in the Builder behind j rounds. -/
def quoteTo : Nat → List UInt8
 | 0 => [39]
 | 1 => [39, 97]
 | 2 => [39, 97, 92, 39]
 | 3 => [39, 97, 92, 39, 92, 110]
 | _ => [39, 97, 92, 39, 92, 110, 92, 120, 99, 56]
/-- The Builder's state in the walk: what it holds, what stays. -/
structure QS (w0 : World) (B b g : Nat) (O : Obj) (l : List UInt8) (w : World) : Prop where
 at_ : Lib.IsBuilder 65 5 B b (Lib.byteCells l) w
 below : Below w0.heap.size w0 w
 row : w.heap[g]? = some O
 le : B ≤ w.heap.size
structure QF (w0 : World) (B b g : Nat) (O : Obj) : Prop where
 ne : g ≠ b
 no : ∀ cur, O ≠ .cells cur 5 (0, 0)
 lo : w0.heap.size ≤ B
theorem QS.byte {w0 : World} {B b g : Nat} {O : Obj} {l : List UInt8} {w : World} (F : QF w0 B b g O) (h : QS w0 B b g O l w) (hl : l.length ≤ 100) (c : UInt8) (n : Int) (hn : n = (c.toNat : Int)) :
  Calls Tryz.prog 44 #[.pointer (some ⟨b, 0, none⟩), .int .u8 n] w fun e w' => e = .returned .nilIface ∧ QS w0 B b g O (l ++ [c]) w' := by
 subst hn
 refine (writeByte B b (Lib.byteCells l) _ w h.at_ (by rw [Lib.byteCells_length]; omega) h.le).mono ?_
 rintro e w' ⟨rfl, h1, h2, h3⟩
 refine ⟨rfl, .inr ?_, h.below.trans (h2.mono F.lo), h3 g O h.row F.ne F.no, Nat.le_trans h.le h2.size⟩
 have e : Lib.byteCells (l ++ [c]) = Lib.byteCells l ++ [.int .u8 (c.toNat : Int)] := by simp [Lib.byteCells]
 rw [e]; exact h1
theorem QS.str {w0 : World} {B b g : Nat} {O : Obj} {l : List UInt8} {w : World} (F : QF w0 B b g O) (h : QS w0 B b g O l w) (hl : l.length ≤ 100) (s : ByteArray) (hs : s.size ≤ 100) :
  Calls Tryz.prog 45 #[.pointer (some ⟨b, 0, none⟩), .string s] w fun e w' => e = .returned (.tuple #[.int .i64 s.size, .nilIface]) ∧ QS w0 B b g O (l ++ s.data.toList) w' := by
 refine (writeString B b (Lib.byteCells l) s w h.at_ (by rw [Lib.byteCells_length]; omega) h.le).mono ?_
 rintro e w' ⟨rfl, h1, h2, h3⟩
 refine ⟨rfl, .inr ?_, h.below.trans (h2.mono F.lo), h3 g O h.row F.ne F.no, Nat.le_trans h.le h2.size⟩
 have e : Lib.byteCells (l ++ s.data.toList) = Lib.byteCells l ++ Lib.strCells s := by rw [Lib.strCells_eq]; simp [Lib.byteCells]
 rw [e]; exact h1
theorem p_Quote.calls (k : Nat) (a0_0 : Int) (a0_1 a0_2 : Bool) (A0_3 : Option Addr) (c0_3 : Nat) (l0_3 : List Int) (a0_4 : Int) (a0_5 : ByteArray) (A0_6 : Option Addr) (c0_6 : Nat) (l0_6 : List (S28)) (r : ByteArray) (w : World) (hr0_3 : Kd.C (Kd.int .u64) w A0_3 l0_3.length l0_3) (hc0_3 : l0_3.length ≤ c0_3) (hr0_6 : Kd.C k28 w A0_6 l0_6.length l0_6) (hc0_6 : l0_6.length ≤ c0_6) (h : p_Quote.f k a0_0 a0_1 a0_2 l0_3 a0_4 a0_5 l0_6 = some r) :
  Calls Tryz.prog 22 #[.agg #[.int .i64 a0_0, .bool a0_1, .bool a0_2, .slice A0_3 l0_3.length c0_3, .int .u64 a0_4, .string a0_5, .slice A0_6 l0_6.length c0_6]] w fun e w' => e = .returned (.string r) ∧ Below w.heap.size w w' := by
 have HR0_3 := Az hr0_3
 have HC0_3 := Az hc0_3
 have HR0_6 := Az hr0_6
 have HC0_6 := Az hc0_6
 clear hr0_3 hc0_3 hr0_6 hc0_6
 unfold p_Quote.f at h
 by_cases hc : a0_0 = 4 ∧ a0_5 = ⟨#[97, 39, 10, 200]⟩
 case neg => rw [if_neg hc] at h; exact absurd h (by simp)
 rw [if_pos hc] at h
 obtain ⟨rfl, rfl⟩ := hc
 obtain ⟨t, A2, H⟩ := bd h
 clear h
 cases t with
 | false => exact absurd H (by simp)
 | true =>
 rw [if_pos rfl] at H
 obtain rfl := Option.some.inj H
 clear H
 have HB := Az (Below.refl w.heap.size w)
 have kb_ := fun W => print_bytes (P := Tryz.prog) 9 43 5 Tryz.underlying9 Tryz.underlying43 Tryz.underlying5 ⟨#[97, 39, 10, 200]⟩ W
 go_enter Tryz.func22, Tryz.ntmps22
 go_wp2_with (first | (refine be 1 #[.int .i64 4, .bool a0_1, .bool a0_2, .slice A0_3 l0_3.length c0_3, .int .u64 a0_4, .string ⟨#[97, 39, 10, 200]⟩, .slice A0_6 l0_6.length c0_6] 28 ?_; intro gb449 hg w5 hbox hb; have BK449 := Az (hbox); have GW449 := gw (bl HB) hg; replace HB := bs HB hb; clear hb hbox hg; have hz6_1 := bz BK449) | (go_at_call 25; refine (p_Good.calls k 4 a0_1 a0_2 _ _ l0_3 a0_4 _ _ _ l0_6 true _ (ck HR0_3 HB) HC0_3.out (ck HR0_6 HB) HC0_6.out A2.out).mono ?_; rintro e w7 ⟨rfl, hb⟩; replace BK449 := kb BK449 hb; replace HB := bs HB hb; have hz8_1 := bz BK449))
 refine (writeByte w7.heap.size w7.heap.size [] 39 _ (Lib.fresh_isBuilder 65 5 w7) (by simp) (by simp)).mono ?_
 rintro e w8 ⟨rfl, h8, hb8, hk8⟩
 have hsz8 : w7.heap.size < w8.heap.size := by have := hb8.size; simp at this; omega
 have BK8 := Az ((hb8.block gb449 (blk_lt BK449.out)).trans (blk_alloc BK449.out _))
 have HB8 := Az ((below_alloc HB.out _).trans (hb8.mono (below_size HB.out)))
 have hz9 := bz BK8
 have H8 := Az h8
 have HS8 := Az hsz8
 have HL8 := Az (below_size HB.out)
 clear h8 hb8 hk8 hsz8 hz6_1 hz8_1 BK449 HB
 generalize w7.heap.size = B at *
 go_wp2
 have hO : ∀ j, j < 4 → (Lib.bytesCells w8 5 ⟨#[97, 39, 10, 200]⟩)[j]? = some (.int .u8 (([97, 39, 10, 200] : List UInt8).getD j 0).toNat) := fun j hj => by
  have h1 := Lib.bytesWorld_cell w8 5 ⟨#[97, 39, 10, 200]⟩ j hj
  rw [cell_of_row _ _ j _ _ _ (Lib.bytesWorld_at_new w8 5 ⟨#[97, 39, 10, 200]⟩)] at h1
  exact h1
 have hq0 : QS w B B w8.heap.size (.cells (Lib.bytesCells w8 5 ⟨#[97, 39, 10, 200]⟩) 5 ((Lib.bytesCells w8 5 ⟨#[97, 39, 10, 200]⟩).size, (Lib.bytesCells w8 5 ⟨#[97, 39, 10, 200]⟩).size + 1)) (quoteTo 0) (Lib.bytesWorld w8 5 ⟨#[97, 39, 10, 200]⟩) := by
  obtain ⟨hB, v, hbk, hown, hne⟩ := H8.out
  have old := Lib.bytesWorld_at_old w8 5 ⟨#[97, 39, 10, 200]⟩
  refine ⟨.inr ⟨hB, v, (old B HS8.out).trans hbk, ⟨hown.1, ?_⟩, hne⟩, bytes_below HB8.out (below_size HB8.out) _ _, Lib.bytesWorld_at_new w8 5 _, by rw [Lib.bytesWorld_size]; have := HS8.out; omega⟩
  rcases hown.2 with h | ⟨g, cap, cur, hv, hg, hh, r⟩
  ·exact .inl h
  ·exact .inr ⟨g, cap, cur, hv, hg, (old g (blk_lt hh)).trans hh, r⟩
 have F : QF w B B w8.heap.size (.cells (Lib.bytesCells w8 5 ⟨#[97, 39, 10, 200]⟩) 5 ((Lib.bytesCells w8 5 ⟨#[97, 39, 10, 200]⟩).size, (Lib.bytesCells w8 5 ⟨#[97, 39, 10, 200]⟩).size + 1)) :=
  ⟨by have := HS8.out; omega, fun cur e => by injection e with _ _ e3; injection e3 with _ e4; omega, HL8.out⟩
 have hc : ∀ (l : List UInt8) (w' : World), QS w B B w8.heap.size (.cells (Lib.bytesCells w8 5 ⟨#[97, 39, 10, 200]⟩) 5 ((Lib.bytesCells w8 5 ⟨#[97, 39, 10, 200]⟩).size, (Lib.bytesCells w8 5 ⟨#[97, 39, 10, 200]⟩).size + 1)) l w' → ∀ j, j < 4 → w'.cell? ⟨w8.heap.size, j, none⟩ = some (.int .u8 (([97, 39, 10, 200] : List UInt8).getD j 0).toNat) :=
  fun l w' h j hj => (cell_of_row _ _ j _ _ _ h.row).trans (hO j hj)
 have HC := Az hc
 have HF := Az F
 have HQ := Az hq0
 clear hc F hq0 hO kb_ hz9 BK8 HB8 H8
 generalize (Obj.cells (Lib.bytesCells w8 5 ⟨#[97, 39, 10, 200]⟩) 5 ((Lib.bytesCells w8 5 ⟨#[97, 39, 10, 200]⟩).size, (Lib.bytesCells w8 5 ⟨#[97, 39, 10, 200]⟩).size + 1)) = O at *
 generalize Lib.bytesWorld w8 5 ⟨#[97, 39, 10, 200]⟩ = W9 at *
 generalize w8.heap.size = g at *
 go_loopw [21] (fun i w' => ∃ j : Nat, j ≤ 4 ∧ i = .int .i64 j ∧ Aside0 (QS w B B g O (quoteTo j) w')) (fun i _ => 4 - (intOf i).toNat)
 case atStart => exact ⟨0, by omega, rfl, HQ⟩
 case round =>
  obtain ⟨j, hj, rfl, hq⟩ := hrel
  by_cases hlt : j < 4
  case neg =>
   obtain rfl : j = 4 := by omega
   go_wp2_with fail
   refine (QS.byte HF.out hq.out (by decide) 39 _ rfl).mono ?_
   rintro e w2 ⟨rfl, hq2⟩
   have HQ2 := Az hq2
   clear hq2
   go_wp2_with fail
   refine (stringOf B B (quoteTo 4 ++ [39]) _ HQ2.out.at_ (by decide)).mono ?_
   rintro e w3 ⟨rfl, hb3⟩
   have HB3 := Az (HQ2.out.below.trans (hb3.mono HL8.out))
   clear hb3
   go_wp2
   go_ret
   exact ⟨rfl, HB3.out⟩
  rcases (by omega : j = 0 ∨ j = 1 ∨ j = 2 ∨ j = 3) with rfl | rfl | rfl | rfl
  ·have hx := HC.out _ _ hq.out 0 (by decide)
   go_wp2_with fail
   refine (QS.byte HF.out hq.out (by decide) 97 _ rfl).mono ?_
   rintro e w2 ⟨rfl, hq2⟩
   have HQ2 := Az hq2
   clear hq2 hx
   go_wp2
   go_roundw
   case rel => exact ⟨1, by decide, by go_num, HQ2⟩
   case measure => simp [intOf]
  ·have hx := HC.out _ _ hq.out 1 (by decide)
   go_wp2_with fail
   refine (QS.byte HF.out hq.out (by decide) 92 _ rfl).mono ?_
   rintro e w2 ⟨rfl, hq2⟩
   have HQ2 := Az hq2
   clear hq2 hx
   go_wp2_with fail
   refine (QS.byte HF.out HQ2.out (by decide) 39 _ rfl).mono ?_
   rintro e w3 ⟨rfl, hq3⟩
   have HQ3 := Az hq3
   clear hq3
   go_wp2
   go_roundw
   case rel => exact ⟨2, by decide, by go_num, HQ3⟩
   case measure => simp [intOf]
  ·have hx := HC.out _ _ hq.out 2 (by decide)
   go_wp2_with fail
   refine (QS.str HF.out hq.out (by decide) _ (by decide)).mono ?_
   rintro e w2 ⟨rfl, hq2⟩
   have HQ2 := Az hq2
   clear hq2 hx
   go_wp2
   go_roundw
   case rel => exact ⟨3, by decide, by go_num, HQ2⟩
   case measure => simp [intOf]
  ·have hx := HC.out _ _ hq.out 3 (by decide)
   go_wp2_with fail
   refine (QS.str HF.out hq.out (by decide) _ (by decide)).mono ?_
   rintro e w2 ⟨rfl, hq2⟩
   have HQ2 := Az hq2
   clear hq2 hx
   go_wp2_with fail
   refine (QS.byte HF.out HQ2.out (by decide) 99 _ rfl).mono ?_
   rintro e w3 ⟨rfl, hq3⟩
   have HQ3 := Az hq3
   clear hq3
   go_wp2_with fail
   refine (QS.byte HF.out HQ3.out (by decide) 56 _ rfl).mono ?_
   rintro e w4 ⟨rfl, hq4⟩
   have HQ4 := Az hq4
   clear hq4
   go_wp2
   go_roundw
   case rel => exact ⟨4, by decide, by go_num, HQ4⟩
   case measure => simp [intOf]
def r5_Str.f (a0 : ByteArray) : Option (Int × Bool × Bool × List Int × Int × ByteArray × (List (S28))) := some (4, false, false, ([] : List Int), 0, a0, ([] : List (S28)))
theorem r5_Str.calls (a0 : ByteArray) (r1 : Int) (r2 r3 : Bool) (r4 : List Int) (r5 : Int) (r6 : ByteArray) (r7 : List (S28)) (w : World) (h : r5_Str.f a0 = some (r1, r2, r3, r4, r5, r6, r7)) :
  Calls Tryz.prog 23 #[.string a0] w fun e w' => ∃ v3_ v6_ : Value, e = .returned (.agg #[.int .i64 r1, .bool r2, .bool r3, v3_, .int .u64 r5, .string r6, v6_]) ∧ Kd.R (Kd.int .u64) 25 w' w.heap.size (fun _ => True) v3_ r4 ∧ Kd.R k28 28 w' w.heap.size (fun k_ => some k_ ≠ (v3_ : Value).ownBlock) v6_ r7 ∧ Below w.heap.size w w' := by
 have hu28 := Tryz.underlying28
 have HB := Az (Below.refl w.heap.size w)
 have H := h
 unfold r5_Str.f at H
 clear h
 simp only [Option.some.injEq, Prod.mk.injEq] at H
 obtain ⟨rfl, rfl, rfl, rfl, rfl, rfl, rfl⟩ := H
 go_enter Tryz.func23, Tryz.ntmps23
 go_wp2_with (first | (refine be 2 #[.int .i64 0, .bool false, .bool false, .slice none 0 0, .int .u64 0, .string (⟨#[]⟩ : ByteArray), .slice none 0 0] 28 ?_; intro gb581 hg w2 hbox hb; have BK581 := Az (hbox); have GW581 := gw (bl HB) hg; have GE581 := gw (bl HB) hg; replace HB := bs HB hb; clear hb hbox hg; have hz3_1 := bz BK581))
 refine bodyPost_ret (results_cell_row rfl _ _ gb581 28 #[.int .i64 4, .bool false, .bool false, .slice none 0 0, .int .u64 0, .string a0, .slice none 0 0] (0, 0) _ rfl (by (with_reducible repeat (first | refine blk_drewN ?_ _ | refine blk_drew ?_ | refine blk_alloc ?_ _)); refine blk_put (cs := #[.int .i64 4, .bool false, .bool false, .slice none 0 0, .int .u64 0, .string a0, .slice none 0 0]) ?_ 6 _ rfl; (with_reducible repeat (first | refine blk_drewN ?_ _ | refine blk_drew ?_ | refine blk_alloc ?_ _)); refine blk_put (cs := #[.int .i64 4, .bool false, .bool false, .slice none 0 0, .int .u64 0, .string (⟨#[]⟩ : ByteArray), .slice none 0 0]) ?_ 5 _ rfl; (with_reducible repeat (first | refine blk_drewN ?_ _ | refine blk_drew ?_ | refine blk_alloc ?_ _)); refine blk_put (cs := #[.int .i64 4, .bool false, .bool false, .slice none 0 0, .int .u64 0, .string (⟨#[]⟩ : ByteArray), .slice none 0 0]) ?_ 4 _ rfl; (with_reducible repeat (first | refine blk_drewN ?_ _ | refine blk_drew ?_ | refine blk_alloc ?_ _)); refine blk_put (cs := #[.int .i64 4, .bool false, .bool false, .slice none 0 0, .int .u64 0, .string (⟨#[]⟩ : ByteArray), .slice none 0 0]) ?_ 3 _ rfl; (with_reducible repeat (first | refine blk_drewN ?_ _ | refine blk_drew ?_ | refine blk_alloc ?_ _)); refine blk_put (cs := #[.int .i64 4, .bool false, .bool false, .slice none 0 0, .int .u64 0, .string (⟨#[]⟩ : ByteArray), .slice none 0 0]) ?_ 2 _ rfl; (with_reducible repeat (first | refine blk_drewN ?_ _ | refine blk_drew ?_ | refine blk_alloc ?_ _)); refine blk_put (cs := #[.int .i64 4, .bool false, .bool false, .slice none 0 0, .int .u64 0, .string (⟨#[]⟩ : ByteArray), .slice none 0 0]) ?_ 1 _ rfl; (with_reducible repeat (first | refine blk_drewN ?_ _ | refine blk_drew ?_ | refine blk_alloc ?_ _)); refine blk_put (cs := #[.int .i64 0, .bool false, .bool false, .slice none 0 0, .int .u64 0, .string (⟨#[]⟩ : ByteArray), .slice none 0 0]) ?_ 0 _ rfl; (with_reducible repeat (first | refine blk_drewN ?_ _ | refine blk_drew ?_ | refine blk_alloc ?_ _)); exact BK581.out) Tryz.underlying28 rfl (by kernel_rfl)) rfl ?_
 exact ⟨_, _, fe, by first | exact Kd.R_nil _ _ _ _ _ | exact Kd.N_nil _ _ _ _ _ | exact Kd.V_nil _ _ _ _ _ | exact Kd.Q_nil _ _ _ _ _ | exact Kd.S_nil _ _ _ _ _, by first | exact Kd.R_nil _ _ _ _ _ | exact Kd.N_nil _ _ _ _ _ | exact Kd.V_nil _ _ _ _ _ | exact Kd.Q_nil _ _ _ _ _ | exact Kd.S_nil _ _ _ _ _, bls HB⟩
def r5_Float.f (a0 : Int) : Option (Int × Bool × Bool × List Int × Int × ByteArray × (List (S28))) := (r3_IsNaN.f a0).bind fun t583 => (if t583 = true then (some (3, false, false, ([] : List Int), 9221120237041090560, (⟨#[]⟩ : ByteArray), ([] : List (S28)))) else (some (3, false, false, ([] : List Int), a0, (⟨#[]⟩ : ByteArray), ([] : List (S28)))))
theorem r5_Float.calls (a0 r1 : Int) (r2 r3 : Bool) (r4 : List Int) (r5 : Int) (r6 : ByteArray) (r7 : List (S28)) (w : World) (h : r5_Float.f a0 = some (r1, r2, r3, r4, r5, r6, r7)) :
  Calls Tryz.prog 24 #[.int .u64 a0] w fun e w' => ∃ v3_ v6_ : Value, e = .returned (.agg #[.int .i64 r1, .bool r2, .bool r3, v3_, .int .u64 r5, .string r6, v6_]) ∧ Kd.R (Kd.int .u64) 25 w' w.heap.size (fun _ => True) v3_ r4 ∧ Kd.R k28 28 w' w.heap.size (fun k_ => some k_ ≠ (v3_ : Value).ownBlock) v6_ r7 ∧ Below w.heap.size w w' := by
 have hu28 := Tryz.underlying28
 have HB := Az (Below.refl w.heap.size w)
 have H := h
 unfold r5_Float.f at H
 clear h
 obtain ⟨t583, A2, H⟩ := bd H
 by_cases c3 : t583 = true
 ·subst c3
  rw [if_pos rfl] at H
  simp only [Option.some.injEq, Prod.mk.injEq] at H
  obtain ⟨rfl, rfl, rfl, rfl, rfl, rfl, rfl⟩ := H
  go_enter Tryz.func24, Tryz.ntmps24
  go_wp2_with (first | (refine be 2 #[.int .i64 0, .bool false, .bool false, .slice none 0 0, .int .u64 0, .string (⟨#[]⟩ : ByteArray), .slice none 0 0] 28 ?_; intro gb582 hg w4 hbox hb; have BK582 := Az (hbox); have GW582 := gw (bl HB) hg; have GE582 := gw (bl HB) hg; replace HB := bs HB hb; clear hb hbox hg) | (refine gl (some 4) Tryz.func16 #[.int .u64 a0] ?_; (with_reducible refine (r3_IsNaN.calls a0 true _ A2.out).mono ?_); rintro e w4 ⟨rfl, hb⟩; replace hb := dr hb; refine ⟨_, rfl, ?_⟩; replace BK582 := kb BK582 hb; replace HB := bs HB hb; clear hb; have hz582_ := bz BK582; have hz5_1 := bz BK582))
  refine bodyPost_ret (results_cell_row rfl _ _ gb582 28 #[.int .i64 3, .bool false, .bool false, .slice none 0 0, .int .u64 9221120237041090560, .string (⟨#[]⟩ : ByteArray), .slice none 0 0] (0, 0) _ rfl (by refine blk_put (cs := #[.int .i64 3, .bool false, .bool false, .slice none 0 0, .int .u64 9221120237041090560, .string (⟨#[]⟩ : ByteArray), .slice none 0 0]) ?_ 6 _ rfl; refine blk_put (cs := #[.int .i64 3, .bool false, .bool false, .slice none 0 0, .int .u64 9221120237041090560, .string (⟨#[]⟩ : ByteArray), .slice none 0 0]) ?_ 5 _ rfl; refine blk_put (cs := #[.int .i64 3, .bool false, .bool false, .slice none 0 0, .int .u64 0, .string (⟨#[]⟩ : ByteArray), .slice none 0 0]) ?_ 4 _ rfl; refine blk_put (cs := #[.int .i64 3, .bool false, .bool false, .slice none 0 0, .int .u64 0, .string (⟨#[]⟩ : ByteArray), .slice none 0 0]) ?_ 3 _ rfl; refine blk_put (cs := #[.int .i64 3, .bool false, .bool false, .slice none 0 0, .int .u64 0, .string (⟨#[]⟩ : ByteArray), .slice none 0 0]) ?_ 2 _ rfl; refine blk_put (cs := #[.int .i64 3, .bool false, .bool false, .slice none 0 0, .int .u64 0, .string (⟨#[]⟩ : ByteArray), .slice none 0 0]) ?_ 1 _ rfl; refine blk_put (cs := #[.int .i64 0, .bool false, .bool false, .slice none 0 0, .int .u64 0, .string (⟨#[]⟩ : ByteArray), .slice none 0 0]) ?_ 0 _ rfl; exact BK582.out) Tryz.underlying28 rfl (by kernel_rfl)) rfl ?_
  exact ⟨_, _, fe, Kd.R_nil _ _ _ _ _, Kd.R_nil _ _ _ _ _, bls HB⟩
 replace c3 := Bool.eq_false_iff.mpr c3
 subst c3
 rw [if_neg Bool.false_ne_true] at H
 simp only [Option.some.injEq, Prod.mk.injEq] at H
 obtain ⟨rfl, rfl, rfl, rfl, rfl, rfl, rfl⟩ := H
 go_enter Tryz.func24, Tryz.ntmps24
 go_wp2_with (first | (refine be 2 #[.int .i64 0, .bool false, .bool false, .slice none 0 0, .int .u64 0, .string (⟨#[]⟩ : ByteArray), .slice none 0 0] 28 ?_; intro gb582 hg w6 hbox hb; have BK582 := Az (hbox); have GW582 := gw (bl HB) hg; have GE582 := gw (bl HB) hg; replace HB := bs HB hb; clear hb hbox hg) | (refine gl (some 4) Tryz.func16 #[.int .u64 a0] ?_; (with_reducible refine (r3_IsNaN.calls a0 false _ A2.out).mono ?_); rintro e w6 ⟨rfl, hb⟩; replace hb := dr hb; refine ⟨_, rfl, ?_⟩; replace BK582 := kb BK582 hb; replace HB := bs HB hb; clear hb; have hz582_ := bz BK582; have hz7_1 := bz BK582))
 refine bodyPost_ret (results_cell_row rfl _ _ gb582 28 #[.int .i64 3, .bool false, .bool false, .slice none 0 0, .int .u64 a0, .string (⟨#[]⟩ : ByteArray), .slice none 0 0] (0, 0) _ rfl (by refine blk_put (cs := #[.int .i64 3, .bool false, .bool false, .slice none 0 0, .int .u64 a0, .string (⟨#[]⟩ : ByteArray), .slice none 0 0]) ?_ 6 _ rfl; refine blk_put (cs := #[.int .i64 3, .bool false, .bool false, .slice none 0 0, .int .u64 a0, .string (⟨#[]⟩ : ByteArray), .slice none 0 0]) ?_ 5 _ rfl; refine blk_put (cs := #[.int .i64 3, .bool false, .bool false, .slice none 0 0, .int .u64 0, .string (⟨#[]⟩ : ByteArray), .slice none 0 0]) ?_ 4 _ rfl; refine blk_put (cs := #[.int .i64 3, .bool false, .bool false, .slice none 0 0, .int .u64 0, .string (⟨#[]⟩ : ByteArray), .slice none 0 0]) ?_ 3 _ rfl; refine blk_put (cs := #[.int .i64 3, .bool false, .bool false, .slice none 0 0, .int .u64 0, .string (⟨#[]⟩ : ByteArray), .slice none 0 0]) ?_ 2 _ rfl; refine blk_put (cs := #[.int .i64 3, .bool false, .bool false, .slice none 0 0, .int .u64 0, .string (⟨#[]⟩ : ByteArray), .slice none 0 0]) ?_ 1 _ rfl; refine blk_put (cs := #[.int .i64 0, .bool false, .bool false, .slice none 0 0, .int .u64 0, .string (⟨#[]⟩ : ByteArray), .slice none 0 0]) ?_ 0 _ rfl; exact BK582.out) Tryz.underlying28 rfl (by kernel_rfl)) rfl ?_
 exact ⟨_, _, fe, Kd.R_nil _ _ _ _ _, Kd.R_nil _ _ _ _ _, bls HB⟩
def w5_known.f (k : Nat)  : Option (Bool) := (r5_Bool.f true).bind fun bt584 => ((r2_Int.f k 1).bind fun bt595 => ((r5_Int.f k bt595.1 bt595.2).bind fun bt599 => ((p_Bin.f k 1 bt584.1 bt584.2.1 bt584.2.2.1 bt584.2.2.2.1 bt584.2.2.2.2.1 bt584.2.2.2.2.2.1 bt584.2.2.2.2.2.2 bt599.1 bt599.2.1 bt599.2.2.1 bt599.2.2.2.1 bt599.2.2.2.2.1 bt599.2.2.2.2.2.1 bt599.2.2.2.2.2.2).bind fun bt610 => (if bt610.2.2.2.2.2.2.2 = 0 then ((r2_Int.f k 2).bind fun bt623 => ((r5_Int.f k bt623.1 bt623.2).bind fun bt627 => ((r5_Is.f k bt610.1 bt610.2.1 bt610.2.2.1 bt610.2.2.2.1 bt610.2.2.2.2.1 bt610.2.2.2.2.2.1 bt610.2.2.2.2.2.2.1 bt627.1 bt627.2.1 bt627.2.2.1 bt627.2.2.2.1 bt627.2.2.2.2.1 bt627.2.2.2.2.2.1 bt627.2.2.2.2.2.2).bind fun t638 => (if t638 = true then ((r5_Str.f (⟨#[97, 39, 10, 200]⟩ : ByteArray)).bind fun bt639 => ((p_Quote.f k bt639.1 bt639.2.1 bt639.2.2.1 bt639.2.2.2.1 bt639.2.2.2.2.1 bt639.2.2.2.2.2.1 bt639.2.2.2.2.2.2).bind fun t650 => (if t650.toList = ([39, 97, 92, 39, 92, 110, 92, 120, 99, 56, 39] : List UInt8) then ((r5_Str.f (⟨#[97]⟩ : ByteArray)).bind fun bt651 => ((p_Hash.f k bt651.1 bt651.2.1 bt651.2.2.1 bt651.2.2.2.1 bt651.2.2.2.2.1 bt651.2.2.2.2.2.1 bt651.2.2.2.2.2.2).bind fun t662 => (if t662 = 129 then ((r5_Float.f 9221120237041090560).bind fun bt663 => ((r5_Float.f 9221120237041090560).bind fun bt674 => ((p_Equal.f k bt663.1 bt663.2.1 bt663.2.2.1 bt663.2.2.2.1 bt663.2.2.2.2.1 bt663.2.2.2.2.2.1 bt663.2.2.2.2.2.2 bt674.1 bt674.2.1 bt674.2.2.1 bt674.2.2.2.1 bt674.2.2.2.2.1 bt674.2.2.2.2.2.1 bt674.2.2.2.2.2.2).bind fun t685 => (some (!t685))))) else (none)))) else (none)))) else (none))))) else (none)))))
theorem w5_known.mono : ∀ k, LeO (w5_known.f k ) (w5_known.f (k + 1) ) := by
 intro  k
 unfold w5_known.f
 repeat' first
   | exact p_Bin.mono _ _ _ _ _ _ _ _ _ _ _ _ _ _ _ _
   | exact p_Equal.mono _ _ _ _ _ _ _ _ _ _ _ _ _ _ _
   | exact p_Hash.mono _ _ _ _ _ _ _ _
   | exact p_Quote.mono _ _ _ _ _ _ _ _
   | exact r2_Int.mono _ _
   | exact r5_Int.mono _ _ _
   | exact r5_Is.mono _ _ _ _ _ _ _ _ _ _ _ _ _ _ _
   | exact LeO.refl _
   | exact LeO.none _
   | refine LeO.ite ?_ ?_
   | refine LeO.bind ?_ (fun _ => ?_)
def w5_known.T2 : Bool × List (List Nat × List Nat) := (true, [([], []), ([0], [0]), ([1], [1]), ([2], [2]), ([2, 2], [2]), ([4, 4, 2], [2, 4]), ([3, 5, 5, 2], [2, 3, 5]), ([2, 6], [2, 6]), ([7, 6], [7]), ([8, 8], [8]), ([9, 9, 8], [8, 9]), ([10, 8], [8, 10]), ([8, 11], [8, 11]), ([12, 10], [12]), ([13, 13], [13]), ([14, 14, 13], [13, 14]), ([15, 13], [13, 15]), ([13, 16], [13, 16]), ([17, 15], [17]), ([18, 18], [18]), ([19, 18], [18]), ([19, 20, 20, 18], [18, 19, 20]), ([21, 18], [18, 21]), ([18, 22], [18, 22]), ([23, 21, 0, 1, 2, 3, 4, 5, 6, 7, 8, 9, 10, 11, 12, 13, 14, 15, 16, 17, 18, 19, 20, 21, 22, 23], [23])])
def w5_known.B2 : List Nat := [0, 1, 3, 7, 7, 23, 63, 127, 255, 511, 1023, 2047, 4095, 8191, 16383, 32767, 65535, 131071, 262143, 524287, 1048575, 2097151, 4194303, 8388607, 16777215]
theorem w5_known.tab2 : rtab .any (opsOf Tryz.f5 2) = w5_known.T2 := by kernel_rfl
theorem w5_known.bits2 : waitsOk w5_known.T2.2 w5_known.B2 = true := by kernel_rfl
theorem w5_known.calls (k : Nat)  (r : Bool) (w : World) (h : w5_known.f k  = some r) :
  Calls Tryz.prog 5 #[] w fun e w' => e = .returned (.bool r) ∧ Below w.heap.size w w' := by
 have hu28 := Tryz.underlying28
 have HB := Az (Below.refl w.heap.size w)
 have H := h
 unfold w5_known.f at H
 clear h
 obtain ⟨⟨t584, t585, t586, t587, t590, t591, t592⟩, A1, H⟩ := bd H
 obtain ⟨⟨t595, t596⟩, A2, H⟩ := bd H
 obtain ⟨⟨t599, t600, t601, t602, t605, t606, t607⟩, A3, H⟩ := bd H
 obtain ⟨⟨t610, t611, t612, t613, t616, t617, t618, t621⟩, A4, H⟩ := bd H
 by_cases c5 : t621 = 0
 case neg =>
  rw [if_neg c5] at H
  exact absurd H (by simp)
 rw [if_pos c5] at H
 have c5b0 := beq_iff_eq.mpr c5
 have c5b1 := bne_eq_false_iff_eq.mpr c5
 clear c5
 obtain ⟨⟨t623, t624⟩, A6, H⟩ := bd H
 obtain ⟨⟨t627, t628, t629, t630, t633, t634, t635⟩, A7, H⟩ := bd H
 obtain ⟨t638, A8, H⟩ := bd H
 by_cases c9 : t638 = true
 case neg =>
  replace c9 := Bool.eq_false_iff.mpr c9
  subst c9
  rw [if_neg Bool.false_ne_true] at H
  exact absurd H (by simp)
 subst c9
 rw [if_pos rfl] at H
 obtain ⟨⟨t639, t640, t641, t642, t645, t646, t647⟩, A10, H⟩ := bd H
 obtain ⟨t650, A11, H⟩ := bd H
 by_cases c12 : t650.toList = ([39, 97, 92, 39, 92, 110, 92, 120, 99, 56, 39] : List UInt8)
 case neg =>
  rw [if_neg c12] at H
  exact absurd H (by simp)
 rw [if_pos c12] at H
 have c12b0 := beq_iff_eq.mpr c12
 have c12b1 := bne_eq_false_iff_eq.mpr c12
 clear c12
 obtain ⟨⟨t651, t652, t653, t654, t657, t658, t659⟩, A13, H⟩ := bd H
 obtain ⟨t662, A14, H⟩ := bd H
 by_cases c15 : t662 = 129
 case neg =>
  rw [if_neg c15] at H
  exact absurd H (by simp)
 rw [if_pos c15] at H
 have c15b0 := beq_iff_eq.mpr c15
 have c15b1 := bne_eq_false_iff_eq.mpr c15
 clear c15
 obtain ⟨⟨t663, t664, t665, t666, t669, t670, t671⟩, A16, H⟩ := bd H
 obtain ⟨⟨t674, t675, t676, t677, t680, t681, t682⟩, A17, H⟩ := bd H
 obtain ⟨t685, A18, H⟩ := bd H
 obtain rfl := Option.some.inj H
 go_enter Tryz.func5, Tryz.ntmps5
 try go_wp2_with (first | (refine gl (some 4) Tryz.func18 #[.bool true] ?_; (with_reducible refine (r5_Bool.calls true t584 t585 t586 t587 t590 t591 t592 _ A1.out).mono ?_); rintro e w19 ⟨v588, v593, rfl, ho0, ho1, hb⟩; refine ⟨_, rfl, ?_⟩; have HO589 := Az (Kd.R_lower ho0 (below_size (bl HB))); have HO594 := Az (Kd.R_lower ho1 (below_size (bl HB))); replace HB := bs HB hb) | (refine gl (some 5) Tryz.func20 #[.int .i64 1] ?_; (with_reducible refine (r2_Int.calls k 1 t595 t596 _ A2.out).mono ?_); rintro e w20 ⟨v597, rfl, ho0, hb⟩; refine ⟨_, rfl, ?_⟩; replace HO589 := Az (Kd.R_below (rk HO589) hb); replace HO594 := Az (Kd.R_below (rk HO594) hb); have HO598 := Az (Kd.R_lower ho0 (below_size (bl HB))); replace HB := bs HB hb; obtain ⟨Ao21, co21, eo21⟩ := Kd.R_slice HO598.out; subst eo21) | (refine gl (some 6) Tryz.func19 #[.agg #[.bool t595, .slice Ao21 t596.length co21]] ?_; (with_reducible refine (r5_Int.calls k t595 _ _ t596 t599 t600 t601 t602 t605 t606 t607 _ ?side1 (Kd.R_reads' HO598.out).2.1 A3.out).mono ?_); (case side1 => exact (Kd.R_reads' HO598.out).2.2); rintro e w22 ⟨v603, v608, rfl, ho0, ho1, hb⟩; refine ⟨_, rfl, ?_⟩; replace HO598 := Az (Kd.R_below (rk HO598) hb); have HO604 := Az (Kd.R_lower (Kd.R_new' ho0 (Kd.R_lt (rk HO589))) (below_size (bl HB))); have HO609 := Az (Kd.R_lower (Kd.R_new' (Kd.R_new' ho1 (Kd.R_lt (rk HO589))) (Kd.R_lt (rk HO594))) (below_size (bl HB))); replace HO589 := Az (Kd.R_elder' (rk HO589) (Kd.R_base ho0) hb); replace HO594 := Az (Kd.R_mono (Kd.R_told (Kd.R_told (Kd.R_old (rk HO594) hb) (Kd.R_base ho0)) (Kd.R_base ho1)) (fun _ h_ => h_.1)); replace HB := bs HB hb; obtain ⟨Ao23, co23, eo23⟩ := Kd.R_slice HO589.out; subst eo23; obtain ⟨Ao24, co24, eo24⟩ := Kd.R_slice HO594.out; subst eo24; obtain ⟨Ao25, co25, eo25⟩ := Kd.R_slice HO604.out; subst eo25; obtain ⟨Ao26, co26, eo26⟩ := Kd.R_slice HO609.out; subst eo26) | (refine gl (some 7) Tryz.func17 #[.int .i64 1, .agg #[.int .i64 t584, .bool t585, .bool t586, .slice Ao23 t587.length co23, .int .u64 t590, .string t591, .slice Ao24 t592.length co24], .agg #[.int .i64 t599, .bool t600, .bool t601, .slice Ao25 t602.length co25, .int .u64 t605, .string t606, .slice Ao26 t607.length co26]] ?_; (with_reducible refine (p_Bin.calls k 1 t584 t585 t586 (fun k_ => some k_ = (.slice Ao23 t587.length co23 : Value).ownBlock) _ _ t587 t590 t591 _ _ t592 t599 t600 t601 (fun k_ => some k_ = (.slice Ao25 t602.length co25 : Value).ownBlock) _ _ t602 t605 t606 _ _ t607 t610 t611 t612 t613 t616 t617 t618 t621 _ ?side1 ?side2 ?side3 ?side4 ?side5 ?side6 A4.out).mono ?_); (case side1 => exact Kd.R_V (Kd.R_tight rfl (Kd.R_apart' (Kd.R_apart' (Kd.R_apart' (HO589.out) (Kd.R_typed HO594.out) (by decide)) (Kd.R_typed HO598.out) (by decide)) (Kd.R_typed HO609.out) (by decide)))); (case side2 => exact (Kd.R_reads' HO594.out).2.2); (case side3 => exact (Kd.R_reads' HO594.out).2.1); (case side4 => exact Kd.R_V (Kd.R_tight rfl (Kd.R_apart' (Kd.R_apart' (Kd.R_apart' (HO604.out) (Kd.R_typed HO594.out) (by decide)) (Kd.R_typed HO598.out) (by decide)) (Kd.R_typed HO609.out) (by decide)))); (case side5 => exact (Kd.R_reads' HO609.out).2.2); (case side6 => exact (Kd.R_reads' HO609.out).2.1); rintro e w27 ⟨v614, v619, rfl, ho0, ho1, hb⟩; refine ⟨_, rfl, ?_⟩; have HO615 := Az (Kd.V_lower (Kd.V_mono (ok' := fun k_ => some k_ ≠ (v619 : Value).ownBlock ∧ some k_ ≠ (.slice Ao24 t592.length co24 : Value).ownBlock ∧ some k_ ≠ (.slice Ao21 t596.length co21 : Value).ownBlock ∧ some k_ ≠ (.slice Ao26 t607.length co26 : Value).ownBlock) ho0 (fun k_ hk_ => ⟨hk_.2, Or.elim hk_.1 (fun hs_ => Or.elim hs_ (fun hs_ => ((Kd.R_apart' (Kd.R_apart' (Kd.R_apart' (HO589.out) (Kd.R_typed HO594.out) (by decide)) (Kd.R_typed HO598.out) (by decide)) (Kd.R_typed HO609.out) (by decide)).1 k_ hs_.symm).1.1.2) (fun hs_ => ((Kd.R_apart' (Kd.R_apart' (Kd.R_apart' (HO604.out) (Kd.R_typed HO594.out) (by decide)) (Kd.R_typed HO598.out) (by decide)) (Kd.R_typed HO609.out) (by decide)).1 k_ hs_.symm).1.1.2)) (fun hn_ => (Kd.fresh' (Kd.R_lt (rk HO594)) k_ hn_)), Or.elim hk_.1 (fun hs_ => Or.elim hs_ (fun hs_ => ((Kd.R_apart' (Kd.R_apart' (Kd.R_apart' (HO589.out) (Kd.R_typed HO594.out) (by decide)) (Kd.R_typed HO598.out) (by decide)) (Kd.R_typed HO609.out) (by decide)).1 k_ hs_.symm).1.2) (fun hs_ => ((Kd.R_apart' (Kd.R_apart' (Kd.R_apart' (HO604.out) (Kd.R_typed HO594.out) (by decide)) (Kd.R_typed HO598.out) (by decide)) (Kd.R_typed HO609.out) (by decide)).1 k_ hs_.symm).1.2)) (fun hn_ => (Kd.fresh' (Kd.R_lt (rk HO598)) k_ hn_)), Or.elim hk_.1 (fun hs_ => Or.elim hs_ (fun hs_ => ((Kd.R_apart' (Kd.R_apart' (Kd.R_apart' (HO589.out) (Kd.R_typed HO594.out) (by decide)) (Kd.R_typed HO598.out) (by decide)) (Kd.R_typed HO609.out) (by decide)).1 k_ hs_.symm).2) (fun hs_ => ((Kd.R_apart' (Kd.R_apart' (Kd.R_apart' (HO604.out) (Kd.R_typed HO594.out) (by decide)) (Kd.R_typed HO598.out) (by decide)) (Kd.R_typed HO609.out) (by decide)).1 k_ hs_.symm).2)) (fun hn_ => (Kd.fresh' (Kd.R_lt (rk HO609)) k_ hn_))⟩)) (below_size (bl HB))); replace HO598 := Az (Kd.R_below (rk HO598) hb); have HO620 := Az (Kd.R_lower (Kd.R_new' (Kd.R_new' (Kd.R_new' (Kd.R_new' (Kd.R_mono (ok' := fun k_ => True) ho1 (fun _ hk_ => trivial)) (Kd.R_lt (rk HO589))) (Kd.R_lt (rk HO594))) (Kd.R_lt (rk HO604))) (Kd.R_lt (rk HO609))) (below_size (bl HB))); replace HO589 := Az (Kd.R_below (rk HO589) hb); replace HO594 := Az (Kd.R_elder' (rk HO594) (Kd.R_base ho1) hb); replace HO604 := Az (Kd.R_below (rk HO604) hb); replace HO609 := Az (Kd.R_elder' (rk HO609) (Kd.R_base ho1) hb); replace HB := bs HB hb) | (refine be 1 #[.int .i64 0, .bool false, .bool false, .slice none 0 0, .int .u64 0, .string (⟨#[]⟩ : ByteArray), .slice none 0 0] 28 ?_; intro gb622 hg w28 hbox hb; replace HO589 := Az (Kd.R_below (rk HO589) hb); replace HO594 := Az (Kd.R_below (Kd.R_elderB (rk HO594) gb622 (Nat.le_of_eq hg.symm)) hb); replace HO598 := Az (Kd.R_below (rk HO598) hb); replace HO604 := Az (Kd.R_below (rk HO604) hb); replace HO609 := Az (Kd.R_below (Kd.R_elderB (rk HO609) gb622 (Nat.le_of_eq hg.symm)) hb); replace HO615 := Az (Kd.V_below (Kd.V_elderB (vk HO615) gb622 (Nat.le_of_eq hg.symm)) hb); replace HO620 := Az (Kd.R_below (Kd.R_elderB (rk HO620) gb622 (Nat.le_of_eq hg.symm)) hb); have BK622 := Az (hbox); have GW622 := gw (bl HB) hg; have GE622 := gw (bl HB) hg; replace HB := bs HB hb; clear hb hbox hg; have hz29_1 := bz BK622; obtain ⟨Ao30, co30, eo30⟩ := Kd.V_slice HO615.out; subst eo30; obtain ⟨Ao31, co31, eo31⟩ := Kd.R_slice HO620.out; subst eo31))
 have n_ : (fun W_ : World => Aside0 (Kd.R (Kd.int .u64) 25 W_ w.heap.size (fun k_ => some k_ ≠ (.slice Ao25 t602.length co25 : Value).ownBlock) (.slice Ao23 t587.length co23) t587) ∧ Aside0 (Kd.R k28 28 W_ w.heap.size (fun k_ => some k_ ≠ (.slice Ao23 t587.length co23 : Value).ownBlock ∧ some k_ ≠ (.slice Ao25 t602.length co25 : Value).ownBlock ∧ some k_ ≠ (.slice Ao26 t607.length co26 : Value).ownBlock ∧ some k_ ≠ (.slice Ao31 t618.length co31 : Value).ownBlock ∧ k_ ≠ gb622) (.slice Ao24 t592.length co24) t592) ∧ Aside0 (Kd.R (Kd.int .u8) 5 W_ w.heap.size (fun _ => True) (.slice Ao21 t596.length co21) t596) ∧ Aside0 (Kd.R (Kd.int .u64) 25 W_ w.heap.size (fun k_ => some k_ ≠ (.slice Ao23 t587.length co23 : Value).ownBlock) (.slice Ao25 t602.length co25) t602) ∧ Aside0 (Kd.R k28 28 W_ w.heap.size (fun k_ => some k_ ≠ (.slice Ao23 t587.length co23 : Value).ownBlock ∧ some k_ ≠ (.slice Ao24 t592.length co24 : Value).ownBlock ∧ some k_ ≠ (.slice Ao25 t602.length co25 : Value).ownBlock ∧ some k_ ≠ (.slice Ao31 t618.length co31 : Value).ownBlock ∧ k_ ≠ gb622) (.slice Ao26 t607.length co26) t607) ∧ Aside0 (Kd.V (Kd.int .u64) 25 W_ w.heap.size (fun k_ => some k_ ≠ (.slice Ao24 t592.length co24 : Value).ownBlock ∧ some k_ ≠ (.slice Ao21 t596.length co21 : Value).ownBlock ∧ some k_ ≠ (.slice Ao26 t607.length co26 : Value).ownBlock ∧ some k_ ≠ (.slice Ao31 t618.length co31 : Value).ownBlock ∧ k_ ≠ gb622) (.slice Ao30 t613.length co30) t613) ∧ Aside0 (Kd.R k28 28 W_ w.heap.size (fun k_ => some k_ ≠ (.slice Ao23 t587.length co23 : Value).ownBlock ∧ some k_ ≠ (.slice Ao24 t592.length co24 : Value).ownBlock ∧ some k_ ≠ (.slice Ao25 t602.length co25 : Value).ownBlock ∧ some k_ ≠ (.slice Ao26 t607.length co26 : Value).ownBlock ∧ k_ ≠ gb622) (.slice Ao31 t618.length co31) t618) ∧ Aside0 (W_.heap[gb622]? = some (.cells #[.int .i64 t610, .bool t611, .bool t612, .slice Ao30 t613.length co30, .int .u64 t616, .string t617, .slice Ao31 t618.length co31] 28 (0, 0))) ∧ Aside0 (Below w.heap.size w W_)) (((((((w28.setCell ⟨gb622, 0, none⟩ (.int .i64 t610)).setCell ⟨gb622, 1, none⟩ (.bool t611)).setCell ⟨gb622, 2, none⟩ (.bool t612)).setCell ⟨gb622, 3, none⟩ (.slice Ao30 t613.length co30)).setCell ⟨gb622, 4, none⟩ (.int .u64 t616)).setCell ⟨gb622, 5, none⟩ (.string t617)).setCell ⟨gb622, 6, none⟩ (.slice Ao31 t618.length co31)) := ⟨⟨rt (Kd.R_mono (Kd.R_far (p := ⟨gb622, 6, none⟩) (Kd.R_far (p := ⟨gb622, 5, none⟩) (Kd.R_far (p := ⟨gb622, 4, none⟩) (Kd.R_far (p := ⟨gb622, 3, none⟩) (Kd.R_far (p := ⟨gb622, 2, none⟩) (Kd.R_far (p := ⟨gb622, 1, none⟩) (Kd.R_far (p := ⟨gb622, 0, none⟩) (Kd.R_types HO589.out BK622.out (by decide)) (fun _ hk => hk.2) (.int .i64 t610)) (fun _ hk => hk.2) (.bool t611)) (fun _ hk => hk.2) (.bool t612)) (fun _ hk => hk.2) (.slice Ao30 t613.length co30)) (fun _ hk => hk.2) (.int .u64 t616)) (fun _ hk => hk.2) (.string t617)) (fun _ hk => hk.2) (.slice Ao31 t618.length co31)) (fun _ hk => hk.1.2))⟩, ⟨rt (Kd.R_mono (Kd.R_far (p := ⟨gb622, 6, none⟩) (Kd.R_far (p := ⟨gb622, 5, none⟩) (Kd.R_far (p := ⟨gb622, 4, none⟩) (Kd.R_far (p := ⟨gb622, 3, none⟩) (Kd.R_far (p := ⟨gb622, 2, none⟩) (Kd.R_far (p := ⟨gb622, 1, none⟩) (Kd.R_far (p := ⟨gb622, 0, none⟩) (Kd.R_mono HO594.out (fun k_ hk => (⟨hk, hk.2⟩ : _ ∧ k_ ≠ gb622))) (fun _ hk => hk.2) (.int .i64 t610)) (fun _ hk => hk.2) (.bool t611)) (fun _ hk => hk.2) (.bool t612)) (fun _ hk => hk.2) (.slice Ao30 t613.length co30)) (fun _ hk => hk.2) (.int .u64 t616)) (fun _ hk => hk.2) (.string t617)) (fun _ hk => hk.2) (.slice Ao31 t618.length co31)) (fun _ hk => ⟨hk.1.1.1.1.1, ⟨hk.1.1.1.1.2, ⟨hk.1.1.1.2, ⟨hk.1.1.2, hk.1.2⟩⟩⟩⟩))⟩, ⟨rt (Kd.R_mono (Kd.R_far (p := ⟨gb622, 6, none⟩) (Kd.R_far (p := ⟨gb622, 5, none⟩) (Kd.R_far (p := ⟨gb622, 4, none⟩) (Kd.R_far (p := ⟨gb622, 3, none⟩) (Kd.R_far (p := ⟨gb622, 2, none⟩) (Kd.R_far (p := ⟨gb622, 1, none⟩) (Kd.R_far (p := ⟨gb622, 0, none⟩) (Kd.R_types HO598.out BK622.out (by decide)) (fun _ hk => hk.2) (.int .i64 t610)) (fun _ hk => hk.2) (.bool t611)) (fun _ hk => hk.2) (.bool t612)) (fun _ hk => hk.2) (.slice Ao30 t613.length co30)) (fun _ hk => hk.2) (.int .u64 t616)) (fun _ hk => hk.2) (.string t617)) (fun _ hk => hk.2) (.slice Ao31 t618.length co31)) (fun _ hk => trivial))⟩, ⟨rt (Kd.R_mono (Kd.R_far (p := ⟨gb622, 6, none⟩) (Kd.R_far (p := ⟨gb622, 5, none⟩) (Kd.R_far (p := ⟨gb622, 4, none⟩) (Kd.R_far (p := ⟨gb622, 3, none⟩) (Kd.R_far (p := ⟨gb622, 2, none⟩) (Kd.R_far (p := ⟨gb622, 1, none⟩) (Kd.R_far (p := ⟨gb622, 0, none⟩) (Kd.R_types HO604.out BK622.out (by decide)) (fun _ hk => hk.2) (.int .i64 t610)) (fun _ hk => hk.2) (.bool t611)) (fun _ hk => hk.2) (.bool t612)) (fun _ hk => hk.2) (.slice Ao30 t613.length co30)) (fun _ hk => hk.2) (.int .u64 t616)) (fun _ hk => hk.2) (.string t617)) (fun _ hk => hk.2) (.slice Ao31 t618.length co31)) (fun _ hk => hk.1.2))⟩, ⟨rt (Kd.R_mono (Kd.R_far (p := ⟨gb622, 6, none⟩) (Kd.R_far (p := ⟨gb622, 5, none⟩) (Kd.R_far (p := ⟨gb622, 4, none⟩) (Kd.R_far (p := ⟨gb622, 3, none⟩) (Kd.R_far (p := ⟨gb622, 2, none⟩) (Kd.R_far (p := ⟨gb622, 1, none⟩) (Kd.R_far (p := ⟨gb622, 0, none⟩) (Kd.R_mono HO609.out (fun k_ hk => (⟨hk, hk.2⟩ : _ ∧ k_ ≠ gb622))) (fun _ hk => hk.2) (.int .i64 t610)) (fun _ hk => hk.2) (.bool t611)) (fun _ hk => hk.2) (.bool t612)) (fun _ hk => hk.2) (.slice Ao30 t613.length co30)) (fun _ hk => hk.2) (.int .u64 t616)) (fun _ hk => hk.2) (.string t617)) (fun _ hk => hk.2) (.slice Ao31 t618.length co31)) (fun _ hk => ⟨hk.1.1.1.1.2, ⟨hk.1.1.1.2, ⟨hk.1.1.1.1.1, ⟨hk.1.1.2, hk.1.2⟩⟩⟩⟩))⟩, ⟨vt (Kd.V_mono (Kd.V_far (p := ⟨gb622, 6, none⟩) (Kd.V_far (p := ⟨gb622, 5, none⟩) (Kd.V_far (p := ⟨gb622, 4, none⟩) (Kd.V_far (p := ⟨gb622, 3, none⟩) (Kd.V_far (p := ⟨gb622, 2, none⟩) (Kd.V_far (p := ⟨gb622, 1, none⟩) (Kd.V_far (p := ⟨gb622, 0, none⟩) (Kd.V_mono HO615.out (fun k_ hk => (⟨hk, hk.2⟩ : _ ∧ k_ ≠ gb622))) (fun _ hk => hk.2) (.int .i64 t610)) (fun _ hk => hk.2) (.bool t611)) (fun _ hk => hk.2) (.bool t612)) (fun _ hk => hk.2) (.slice Ao30 t613.length co30)) (fun _ hk => hk.2) (.int .u64 t616)) (fun _ hk => hk.2) (.string t617)) (fun _ hk => hk.2) (.slice Ao31 t618.length co31)) (fun _ hk => ⟨hk.1.1.2.1, ⟨hk.1.1.2.2.1, ⟨hk.1.1.2.2.2, ⟨hk.1.1.1, hk.1.2⟩⟩⟩⟩))⟩, ⟨rt (Kd.R_mono (Kd.R_far (p := ⟨gb622, 6, none⟩) (Kd.R_far (p := ⟨gb622, 5, none⟩) (Kd.R_far (p := ⟨gb622, 4, none⟩) (Kd.R_far (p := ⟨gb622, 3, none⟩) (Kd.R_far (p := ⟨gb622, 2, none⟩) (Kd.R_far (p := ⟨gb622, 1, none⟩) (Kd.R_far (p := ⟨gb622, 0, none⟩) (Kd.R_mono HO620.out (fun k_ hk => (⟨hk, hk.2⟩ : _ ∧ k_ ≠ gb622))) (fun _ hk => hk.2) (.int .i64 t610)) (fun _ hk => hk.2) (.bool t611)) (fun _ hk => hk.2) (.bool t612)) (fun _ hk => hk.2) (.slice Ao30 t613.length co30)) (fun _ hk => hk.2) (.int .u64 t616)) (fun _ hk => hk.2) (.string t617)) (fun _ hk => hk.2) (.slice Ao31 t618.length co31)) (fun _ hk => ⟨hk.1.1.1.1.1.2, ⟨hk.1.1.1.1.2, ⟨hk.1.1.1.2, ⟨hk.1.1.2, hk.1.2⟩⟩⟩⟩))⟩, ⟨by refine blk_put (cs := #[.int .i64 t610, .bool t611, .bool t612, .slice Ao30 t613.length co30, .int .u64 t616, .string t617, .slice none 0 0]) ?_ 6 _ rfl; refine blk_put (cs := #[.int .i64 t610, .bool t611, .bool t612, .slice Ao30 t613.length co30, .int .u64 t616, .string (⟨#[]⟩ : ByteArray), .slice none 0 0]) ?_ 5 _ rfl; refine blk_put (cs := #[.int .i64 t610, .bool t611, .bool t612, .slice Ao30 t613.length co30, .int .u64 0, .string (⟨#[]⟩ : ByteArray), .slice none 0 0]) ?_ 4 _ rfl; refine blk_put (cs := #[.int .i64 t610, .bool t611, .bool t612, .slice none 0 0, .int .u64 0, .string (⟨#[]⟩ : ByteArray), .slice none 0 0]) ?_ 3 _ rfl; refine blk_put (cs := #[.int .i64 t610, .bool t611, .bool false, .slice none 0 0, .int .u64 0, .string (⟨#[]⟩ : ByteArray), .slice none 0 0]) ?_ 2 _ rfl; refine blk_put (cs := #[.int .i64 t610, .bool false, .bool false, .slice none 0 0, .int .u64 0, .string (⟨#[]⟩ : ByteArray), .slice none 0 0]) ?_ 1 _ rfl; refine blk_put (cs := #[.int .i64 0, .bool false, .bool false, .slice none 0 0, .int .u64 0, .string (⟨#[]⟩ : ByteArray), .slice none 0 0]) ?_ 0 _ rfl; exact BK622.out⟩, ⟨bls HB⟩⟩
 obtain ⟨n0_, n1_, n2_, n3_, n4_, n5_, n6_, n7_, n8_⟩ := n_
 generalize (((((((w28.setCell ⟨gb622, 0, none⟩ (.int .i64 t610)).setCell ⟨gb622, 1, none⟩ (.bool t611)).setCell ⟨gb622, 2, none⟩ (.bool t612)).setCell ⟨gb622, 3, none⟩ (.slice Ao30 t613.length co30)).setCell ⟨gb622, 4, none⟩ (.int .u64 t616)).setCell ⟨gb622, 5, none⟩ (.string t617)).setCell ⟨gb622, 6, none⟩ (.slice Ao31 t618.length co31)) = w32 at n0_ n1_ n2_ n3_ n4_ n5_ n6_ n7_ n8_ ⊢
 have HO589 := n0_
 have HO594 := n1_
 have HO598 := n2_
 have HO604 := n3_
 have HO609 := n4_
 have HO615 := n5_
 have HO620 := n6_
 have BK622 := n7_
 have HB := n8_
 clear n0_ n1_ n2_ n3_ n4_ n5_ n6_ n7_ n8_
 replace HO589 := Az (Kd.R_drew HO589.out)
 replace HO594 := Az (Kd.R_drew HO594.out)
 replace HO598 := Az (Kd.R_drew HO598.out)
 replace HO604 := Az (Kd.R_drew HO604.out)
 replace HO609 := Az (Kd.R_drew HO609.out)
 replace HO615 := Az (Kd.V_drew HO615.out)
 replace HO620 := Az (Kd.R_drew HO620.out)
 replace BK622 := Az (blk_drew BK622.out)
 replace HB := Az (below_drew1 HB.out)
 refine start_ (n := 25) (S := fun w' => w'.cell? ⟨gb622, 0, none⟩ = some (.int .i64 t610) ∧ w'.cell? ⟨gb622, 1, none⟩ = some (.bool t611) ∧ w'.cell? ⟨gb622, 2, none⟩ = some (.bool t612) ∧ w'.cell? ⟨gb622, 3, none⟩ = some (.slice Ao30 t613.length co30) ∧ w'.cell? ⟨gb622, 4, none⟩ = some (.int .u64 t616) ∧ w'.cell? ⟨gb622, 5, none⟩ = some (.string t617) ∧ w'.cell? ⟨gb622, 6, none⟩ = some (.slice Ao31 t618.length co31)) (ds := []) (bm 25 0) (by kernel_rfl) rfl rfl ⟨(blk_cell BK622.out 0).trans rfl, (blk_cell BK622.out 1).trans rfl, (blk_cell BK622.out 2).trans rfl, (blk_cell BK622.out 3).trans rfl, (blk_cell BK622.out 4).trans rfl, (blk_cell BK622.out 5).trans rfl, (blk_cell BK622.out 6).trans rfl⟩ (fun hHeld => ?_); refine with_tabW w5_known.tab2 w5_known.bits2 (fun HT_ HW_ => ?_)
 generalize w32.drew = w33 at HO589 HO594 HO598 HO604 HO609 HO615 HO620 BK622 HB hHeld ⊢
 refine pu 0 (some 10) (bm 25 1) HT_.out ?_
 refine pu 1 (some 11) (bm 25 3) HT_.out ?_
 refine pu 2 (some 12) (bm 25 7) HT_.out ?_
 refine tk 3 (some 13) (bm 25 15) HT_.out HW_.out hHeld ?_
 refine on 4 (some 14) (bm 25 31) HT_.out (fun K hK => ?_)
 refine gs Tryz.func20 #[.int .i64 2] ?_
 with_reducible refine (r2_Int.calls k 2 t623 t624 _ A6.out).mono ?_
 rintro e w34 ⟨v625, rfl, ho0, hb⟩
 refine ⟨_, rfl, ?_⟩
 replace HO589 := Az (Kd.R_below (rk HO589) hb)
 replace HO594 := Az (Kd.R_below (rk HO594) hb)
 replace HO604 := Az (Kd.R_below (rk HO604) hb)
 replace HO609 := Az (Kd.R_below (rk HO609) hb)
 replace HO615 := Az (Kd.V_elder' (vk HO615) (Kd.R_base ho0) hb)
 replace HO620 := Az (Kd.R_below (rk HO620) hb)
 have HO626 := Az (Kd.R_lower (Kd.R_new' ho0 (Kd.R_lt (rk HO598))) (below_size (bls HB)))
 replace HO598 := Az (Kd.R_elder' (rk HO598) (Kd.R_base ho0) hb)
 replace BK622 := kb BK622 hb
 replace HB := bs HB hb
 obtain ⟨Ao35, co35, eo35⟩ := Kd.R_slice HO626.out
 (first | subst eo35 | (injection eo35 with f1_ f2_ f3_; have f4_ := f1_.symm; have f5_ := f3_.symm; clear f1_ f2_ f3_; subst f4_; subst f5_))
 refine hK.out _ _ hd (fun hHeld => ?_)
 clear hK K
 refine nm ?_
 refine on 5 (some 15) (bm 25 63) HT_.out (fun K hK => ?_)
 refine gs Tryz.func19 #[.agg #[.bool t623, .slice Ao35 t624.length co35]] ?_
 with_reducible refine (r5_Int.calls k t623 _ _ t624 t627 t628 t629 t630 t633 t634 t635 _ ?side1 (Kd.R_reads' HO626.out).2.1 A7.out).mono ?_
 (case side1 => exact (Kd.R_reads' HO626.out).2.2)
 rintro e w36 ⟨v631, v636, rfl, ho0, ho1, hb⟩
 refine ⟨_, rfl, ?_⟩
 replace HO598 := Az (Kd.R_below (rk HO598) hb)
 replace HO615 := Az (Kd.V_mono (Kd.V_told (Kd.V_told (Kd.V_old (vk HO615) hb) (Kd.R_base ho0)) (Kd.R_base ho1)) (fun _ h_ => h_.1))
 replace HO626 := Az (Kd.R_below (rk HO626) hb)
 have HO632 := Az (Kd.R_lower (Kd.R_new' (Kd.R_new' ho0 (Kd.R_lt (rk HO589))) (Kd.R_lt (rk HO604))) (below_size (bls HB)))
 have HO637 := Az (Kd.R_lower (Kd.R_newB (Kd.R_new' (Kd.R_new' (Kd.R_new' (Kd.R_new' (Kd.R_new' ho1 (Kd.R_lt (rk HO589))) (Kd.R_lt (rk HO594))) (Kd.R_lt (rk HO604))) (Kd.R_lt (rk HO609))) (Kd.R_lt (rk HO620))) (g := gb622) (o := .cells #[.int .i64 t610, .bool t611, .bool t612, .slice Ao30 t613.length co30, .int .u64 t616, .string t617, .slice Ao31 t618.length co31] 28 (0, 0)) (bk BK622)) (below_size (bls HB)))
 replace HO589 := Az (Kd.R_elder' (rk HO589) (Kd.R_base ho0) hb)
 replace HO594 := Az (Kd.R_mono (Kd.R_told (Kd.R_told (Kd.R_old (rk HO594) hb) (Kd.R_base ho0)) (Kd.R_base ho1)) (fun _ h_ => h_.1))
 replace HO604 := Az (Kd.R_elder' (rk HO604) (Kd.R_base ho0) hb)
 replace HO609 := Az (Kd.R_mono (Kd.R_told (Kd.R_told (Kd.R_old (rk HO609) hb) (Kd.R_base ho0)) (Kd.R_base ho1)) (fun _ h_ => h_.1))
 replace HO620 := Az (Kd.R_mono (Kd.R_told (Kd.R_told (Kd.R_old (rk HO620) hb) (Kd.R_base ho0)) (Kd.R_base ho1)) (fun _ h_ => h_.1))
 replace BK622 := kb BK622 hb
 replace HB := bs HB hb
 obtain ⟨Ao37, co37, eo37⟩ := Kd.R_slice HO632.out
 (first | subst eo37 | (injection eo37 with f1_ f2_ f3_; have f4_ := f1_.symm; have f5_ := f3_.symm; clear f1_ f2_ f3_; subst f4_; subst f5_))
 obtain ⟨Ao38, co38, eo38⟩ := Kd.R_slice HO637.out
 (first | subst eo38 | (injection eo38 with f1_ f2_ f3_; have f4_ := f1_.symm; have f5_ := f3_.symm; clear f1_ f2_ f3_; subst f4_; subst f5_))
 refine hK.out _ _ hd (fun hHeld => ?_)
 clear hK K
 refine nm ?_
 refine on 6 (some 16) (bm 25 127) HT_.out (fun K hK => ?_)
 refine gs Tryz.func21 #[.agg #[.int .i64 t610, .bool t611, .bool t612, .slice Ao30 t613.length co30, .int .u64 t616, .string t617, .slice Ao31 t618.length co31], .agg #[.int .i64 t627, .bool t628, .bool t629, .slice Ao37 t630.length co37, .int .u64 t633, .string t634, .slice Ao38 t635.length co38]] ?_
 with_reducible refine (r5_Is.calls k t610 t611 t612 _ _ t613 t616 t617 _ _ t618 t627 t628 t629 _ _ t630 t633 t634 _ _ t635 true _ ?side1 (Kd.V_reads' HO615.out).2.1 ?side3 (Kd.R_reads' HO620.out).2.1 ?side5 (Kd.R_reads' HO632.out).2.1 ?side7 (Kd.R_reads' HO637.out).2.1 A8.out).mono ?_
 (case side1 => exact (Kd.V_reads' HO615.out).2.2)
 (case side3 => exact (Kd.R_reads' HO620.out).2.2)
 (case side5 => exact (Kd.R_reads' HO632.out).2.2)
 (case side7 => exact (Kd.R_reads' HO637.out).2.2)
 rintro e w39 ⟨rfl, hb⟩
 refine ⟨_, rfl, ?_⟩
 replace HO589 := Az (Kd.R_below (rk HO589) hb)
 replace HO594 := Az (Kd.R_below (rk HO594) hb)
 replace HO598 := Az (Kd.R_below (rk HO598) hb)
 replace HO604 := Az (Kd.R_below (rk HO604) hb)
 replace HO609 := Az (Kd.R_below (rk HO609) hb)
 replace HO615 := Az (Kd.V_below (vk HO615) hb)
 replace HO620 := Az (Kd.R_below (rk HO620) hb)
 replace HO626 := Az (Kd.R_below (rk HO626) hb)
 replace HO632 := Az (Kd.R_below (rk HO632) hb)
 replace HO637 := Az (Kd.R_below (rk HO637) hb)
 replace BK622 := kb BK622 hb
 replace HB := bs HB hb
 refine hK.out _ _ hd (fun hHeld => ?_)
 clear hK K
 refine nm ?_
 refine pu 7 (some 17) (bm 25 255) HT_.out ?_
 refine pu 8 (some 18) (bm 25 511) HT_.out ?_
 refine on 9 (some 19) (bm 25 1023) HT_.out (fun K hK => ?_)
 refine gs Tryz.func23 #[.string (⟨#[97, 39, 10, 200]⟩ : ByteArray)] ?_
 with_reducible refine (r5_Str.calls (⟨#[97, 39, 10, 200]⟩ : ByteArray) t639 t640 t641 t642 t645 t646 t647 _ A10.out).mono ?_
 rintro e w40 ⟨v643, v648, rfl, ho0, ho1, hb⟩
 refine ⟨_, rfl, ?_⟩
 replace HO598 := Az (Kd.R_below (rk HO598) hb)
 replace HO615 := Az (Kd.V_mono (Kd.V_told (Kd.V_told (Kd.V_old (vk HO615) hb) (Kd.R_base ho0)) (Kd.R_base ho1)) (fun _ h_ => h_.1))
 replace HO626 := Az (Kd.R_below (rk HO626) hb)
 have HO644 := Az (Kd.R_lower (Kd.R_new' (Kd.R_new' (Kd.R_new' ho0 (Kd.R_lt (rk HO589))) (Kd.R_lt (rk HO604))) (Kd.R_lt (rk HO632))) (below_size (bls HB)))
 have HO649 := Az (Kd.R_lower (Kd.R_newB (Kd.R_new' (Kd.R_new' (Kd.R_new' (Kd.R_new' (Kd.R_new' (Kd.R_new' (Kd.R_new' ho1 (Kd.R_lt (rk HO589))) (Kd.R_lt (rk HO594))) (Kd.R_lt (rk HO604))) (Kd.R_lt (rk HO609))) (Kd.R_lt (rk HO620))) (Kd.R_lt (rk HO632))) (Kd.R_lt (rk HO637))) (g := gb622) (o := .cells #[.int .i64 t610, .bool t611, .bool t612, .slice Ao30 t613.length co30, .int .u64 t616, .string t617, .slice Ao31 t618.length co31] 28 (0, 0)) (bk BK622)) (below_size (bls HB)))
 replace HO589 := Az (Kd.R_elder' (rk HO589) (Kd.R_base ho0) hb)
 replace HO594 := Az (Kd.R_mono (Kd.R_told (Kd.R_told (Kd.R_old (rk HO594) hb) (Kd.R_base ho0)) (Kd.R_base ho1)) (fun _ h_ => h_.1))
 replace HO604 := Az (Kd.R_elder' (rk HO604) (Kd.R_base ho0) hb)
 replace HO609 := Az (Kd.R_mono (Kd.R_told (Kd.R_told (Kd.R_old (rk HO609) hb) (Kd.R_base ho0)) (Kd.R_base ho1)) (fun _ h_ => h_.1))
 replace HO620 := Az (Kd.R_mono (Kd.R_told (Kd.R_told (Kd.R_old (rk HO620) hb) (Kd.R_base ho0)) (Kd.R_base ho1)) (fun _ h_ => h_.1))
 replace HO632 := Az (Kd.R_elder' (rk HO632) (Kd.R_base ho0) hb)
 replace HO637 := Az (Kd.R_mono (Kd.R_told (Kd.R_told (Kd.R_old (rk HO637) hb) (Kd.R_base ho0)) (Kd.R_base ho1)) (fun _ h_ => h_.1))
 replace BK622 := kb BK622 hb
 replace HB := bs HB hb
 obtain ⟨Ao41, co41, eo41⟩ := Kd.R_slice HO644.out
 (first | subst eo41 | (injection eo41 with f1_ f2_ f3_; have f4_ := f1_.symm; have f5_ := f3_.symm; clear f1_ f2_ f3_; subst f4_; subst f5_))
 obtain ⟨Ao42, co42, eo42⟩ := Kd.R_slice HO649.out
 (first | subst eo42 | (injection eo42 with f1_ f2_ f3_; have f4_ := f1_.symm; have f5_ := f3_.symm; clear f1_ f2_ f3_; subst f4_; subst f5_))
 refine hK.out _ _ hd (fun hHeld => ?_)
 clear hK K
 refine nm ?_
 refine on 10 (some 20) (bm 25 2047) HT_.out (fun K hK => ?_)
 refine gs Tryz.func22 #[.agg #[.int .i64 t639, .bool t640, .bool t641, .slice Ao41 t642.length co41, .int .u64 t645, .string t646, .slice Ao42 t647.length co42]] ?_
 with_reducible refine (p_Quote.calls k t639 t640 t641 _ _ t642 t645 t646 _ _ t647 t650 _ ?side1 (Kd.R_reads' HO644.out).2.1 ?side3 (Kd.R_reads' HO649.out).2.1 A11.out).mono ?_
 (case side1 => exact (Kd.R_reads' HO644.out).2.2)
 (case side3 => exact (Kd.R_reads' HO649.out).2.2)
 rintro e w43 ⟨rfl, hb⟩
 refine ⟨_, rfl, ?_⟩
 replace HO589 := Az (Kd.R_below (rk HO589) hb)
 replace HO594 := Az (Kd.R_below (rk HO594) hb)
 replace HO598 := Az (Kd.R_below (rk HO598) hb)
 replace HO604 := Az (Kd.R_below (rk HO604) hb)
 replace HO609 := Az (Kd.R_below (rk HO609) hb)
 replace HO615 := Az (Kd.V_below (vk HO615) hb)
 replace HO620 := Az (Kd.R_below (rk HO620) hb)
 replace HO626 := Az (Kd.R_below (rk HO626) hb)
 replace HO632 := Az (Kd.R_below (rk HO632) hb)
 replace HO637 := Az (Kd.R_below (rk HO637) hb)
 replace HO644 := Az (Kd.R_below (rk HO644) hb)
 replace HO649 := Az (Kd.R_below (rk HO649) hb)
 replace BK622 := kb BK622 hb
 replace HB := bs HB hb
 refine hK.out _ _ hd (fun hHeld => ?_)
 clear hK K
 refine nm ?_
 refine pu 11 (some 21) (bm 25 4095) HT_.out ?_
 refine pu 12 (some 22) (bm 25 8191) HT_.out ?_
 refine pu 13 (some 23) (bm 25 16383) HT_.out ?_
 refine on 14 (some 24) (bm 25 32767) HT_.out (fun K hK => ?_)
 refine gs Tryz.func23 #[.string (⟨#[97]⟩ : ByteArray)] ?_
 with_reducible refine (r5_Str.calls (⟨#[97]⟩ : ByteArray) t651 t652 t653 t654 t657 t658 t659 _ A13.out).mono ?_
 rintro e w44 ⟨v655, v660, rfl, ho0, ho1, hb⟩
 refine ⟨_, rfl, ?_⟩
 replace HO598 := Az (Kd.R_below (rk HO598) hb)
 replace HO615 := Az (Kd.V_mono (Kd.V_told (Kd.V_told (Kd.V_old (vk HO615) hb) (Kd.R_base ho0)) (Kd.R_base ho1)) (fun _ h_ => h_.1))
 replace HO626 := Az (Kd.R_below (rk HO626) hb)
 have HO656 := Az (Kd.R_lower (Kd.R_new' (Kd.R_new' (Kd.R_new' (Kd.R_new' ho0 (Kd.R_lt (rk HO589))) (Kd.R_lt (rk HO604))) (Kd.R_lt (rk HO632))) (Kd.R_lt (rk HO644))) (below_size (bls HB)))
 have HO661 := Az (Kd.R_lower (Kd.R_newB (Kd.R_new' (Kd.R_new' (Kd.R_new' (Kd.R_new' (Kd.R_new' (Kd.R_new' (Kd.R_new' (Kd.R_new' (Kd.R_new' ho1 (Kd.R_lt (rk HO589))) (Kd.R_lt (rk HO594))) (Kd.R_lt (rk HO604))) (Kd.R_lt (rk HO609))) (Kd.R_lt (rk HO620))) (Kd.R_lt (rk HO632))) (Kd.R_lt (rk HO637))) (Kd.R_lt (rk HO644))) (Kd.R_lt (rk HO649))) (g := gb622) (o := .cells #[.int .i64 t610, .bool t611, .bool t612, .slice Ao30 t613.length co30, .int .u64 t616, .string t617, .slice Ao31 t618.length co31] 28 (0, 0)) (bk BK622)) (below_size (bls HB)))
 replace HO589 := Az (Kd.R_elder' (rk HO589) (Kd.R_base ho0) hb)
 replace HO594 := Az (Kd.R_mono (Kd.R_told (Kd.R_told (Kd.R_old (rk HO594) hb) (Kd.R_base ho0)) (Kd.R_base ho1)) (fun _ h_ => h_.1))
 replace HO604 := Az (Kd.R_elder' (rk HO604) (Kd.R_base ho0) hb)
 replace HO609 := Az (Kd.R_mono (Kd.R_told (Kd.R_told (Kd.R_old (rk HO609) hb) (Kd.R_base ho0)) (Kd.R_base ho1)) (fun _ h_ => h_.1))
 replace HO620 := Az (Kd.R_mono (Kd.R_told (Kd.R_told (Kd.R_old (rk HO620) hb) (Kd.R_base ho0)) (Kd.R_base ho1)) (fun _ h_ => h_.1))
 replace HO632 := Az (Kd.R_elder' (rk HO632) (Kd.R_base ho0) hb)
 replace HO637 := Az (Kd.R_mono (Kd.R_told (Kd.R_told (Kd.R_old (rk HO637) hb) (Kd.R_base ho0)) (Kd.R_base ho1)) (fun _ h_ => h_.1))
 replace HO644 := Az (Kd.R_elder' (rk HO644) (Kd.R_base ho0) hb)
 replace HO649 := Az (Kd.R_mono (Kd.R_told (Kd.R_told (Kd.R_old (rk HO649) hb) (Kd.R_base ho0)) (Kd.R_base ho1)) (fun _ h_ => h_.1))
 replace BK622 := kb BK622 hb
 replace HB := bs HB hb
 obtain ⟨Ao45, co45, eo45⟩ := Kd.R_slice HO656.out
 (first | subst eo45 | (injection eo45 with f1_ f2_ f3_; have f4_ := f1_.symm; have f5_ := f3_.symm; clear f1_ f2_ f3_; subst f4_; subst f5_))
 obtain ⟨Ao46, co46, eo46⟩ := Kd.R_slice HO661.out
 (first | subst eo46 | (injection eo46 with f1_ f2_ f3_; have f4_ := f1_.symm; have f5_ := f3_.symm; clear f1_ f2_ f3_; subst f4_; subst f5_))
 refine hK.out _ _ hd (fun hHeld => ?_)
 clear hK K
 refine nm ?_
 refine on 15 (some 25) (bm 25 65535) HT_.out (fun K hK => ?_)
 refine gs Tryz.func13 #[.agg #[.int .i64 t651, .bool t652, .bool t653, .slice Ao45 t654.length co45, .int .u64 t657, .string t658, .slice Ao46 t659.length co46]] ?_
 with_reducible refine (p_Hash.calls k t651 t652 t653 _ _ t654 t657 t658 _ _ t659 t662 _ ?side1 (Kd.R_reads' HO656.out).2.1 ?side3 (Kd.R_reads' HO661.out).2.1 A14.out).mono ?_
 (case side1 => exact (Kd.R_reads' HO656.out).2.2)
 (case side3 => exact (Kd.R_reads' HO661.out).2.2)
 rintro e w47 ⟨rfl, hb⟩
 refine ⟨_, rfl, ?_⟩
 replace HO589 := Az (Kd.R_below (rk HO589) hb)
 replace HO594 := Az (Kd.R_below (rk HO594) hb)
 replace HO598 := Az (Kd.R_below (rk HO598) hb)
 replace HO604 := Az (Kd.R_below (rk HO604) hb)
 replace HO609 := Az (Kd.R_below (rk HO609) hb)
 replace HO615 := Az (Kd.V_below (vk HO615) hb)
 replace HO620 := Az (Kd.R_below (rk HO620) hb)
 replace HO626 := Az (Kd.R_below (rk HO626) hb)
 replace HO632 := Az (Kd.R_below (rk HO632) hb)
 replace HO637 := Az (Kd.R_below (rk HO637) hb)
 replace HO644 := Az (Kd.R_below (rk HO644) hb)
 replace HO649 := Az (Kd.R_below (rk HO649) hb)
 replace HO656 := Az (Kd.R_below (rk HO656) hb)
 replace HO661 := Az (Kd.R_below (rk HO661) hb)
 replace BK622 := kb BK622 hb
 replace HB := bs HB hb
 refine hK.out _ _ hd (fun hHeld => ?_)
 clear hK K
 refine nm ?_
 refine pu 16 (some 26) (bm 25 131071) HT_.out ?_
 refine pu 17 (some 27) (bm 25 262143) HT_.out ?_
 refine pu 18 (some 28) (bm 25 524287) HT_.out ?_
 refine on 19 (some 29) (bm 25 1048575) HT_.out (fun K hK => ?_)
 refine gs Tryz.func24 #[.int .u64 9221120237041090560] ?_
 with_reducible refine (r5_Float.calls 9221120237041090560 t663 t664 t665 t666 t669 t670 t671 _ A16.out).mono ?_
 rintro e w48 ⟨v667, v672, rfl, ho0, ho1, hb⟩
 refine ⟨_, rfl, ?_⟩
 replace HO598 := Az (Kd.R_below (rk HO598) hb)
 replace HO615 := Az (Kd.V_mono (Kd.V_told (Kd.V_told (Kd.V_old (vk HO615) hb) (Kd.R_base ho0)) (Kd.R_base ho1)) (fun _ h_ => h_.1))
 replace HO626 := Az (Kd.R_below (rk HO626) hb)
 have HO668 := Az (Kd.R_lower (Kd.R_new' (Kd.R_new' (Kd.R_new' (Kd.R_new' (Kd.R_new' ho0 (Kd.R_lt (rk HO589))) (Kd.R_lt (rk HO604))) (Kd.R_lt (rk HO632))) (Kd.R_lt (rk HO644))) (Kd.R_lt (rk HO656))) (below_size (bls HB)))
 have HO673 := Az (Kd.R_lower (Kd.R_newB (Kd.R_new' (Kd.R_new' (Kd.R_new' (Kd.R_new' (Kd.R_new' (Kd.R_new' (Kd.R_new' (Kd.R_new' (Kd.R_new' (Kd.R_new' (Kd.R_new' ho1 (Kd.R_lt (rk HO589))) (Kd.R_lt (rk HO594))) (Kd.R_lt (rk HO604))) (Kd.R_lt (rk HO609))) (Kd.R_lt (rk HO620))) (Kd.R_lt (rk HO632))) (Kd.R_lt (rk HO637))) (Kd.R_lt (rk HO644))) (Kd.R_lt (rk HO649))) (Kd.R_lt (rk HO656))) (Kd.R_lt (rk HO661))) (g := gb622) (o := .cells #[.int .i64 t610, .bool t611, .bool t612, .slice Ao30 t613.length co30, .int .u64 t616, .string t617, .slice Ao31 t618.length co31] 28 (0, 0)) (bk BK622)) (below_size (bls HB)))
 replace HO589 := Az (Kd.R_elder' (rk HO589) (Kd.R_base ho0) hb)
 replace HO594 := Az (Kd.R_mono (Kd.R_told (Kd.R_told (Kd.R_old (rk HO594) hb) (Kd.R_base ho0)) (Kd.R_base ho1)) (fun _ h_ => h_.1))
 replace HO604 := Az (Kd.R_elder' (rk HO604) (Kd.R_base ho0) hb)
 replace HO609 := Az (Kd.R_mono (Kd.R_told (Kd.R_told (Kd.R_old (rk HO609) hb) (Kd.R_base ho0)) (Kd.R_base ho1)) (fun _ h_ => h_.1))
 replace HO620 := Az (Kd.R_mono (Kd.R_told (Kd.R_told (Kd.R_old (rk HO620) hb) (Kd.R_base ho0)) (Kd.R_base ho1)) (fun _ h_ => h_.1))
 replace HO632 := Az (Kd.R_elder' (rk HO632) (Kd.R_base ho0) hb)
 replace HO637 := Az (Kd.R_mono (Kd.R_told (Kd.R_told (Kd.R_old (rk HO637) hb) (Kd.R_base ho0)) (Kd.R_base ho1)) (fun _ h_ => h_.1))
 replace HO644 := Az (Kd.R_elder' (rk HO644) (Kd.R_base ho0) hb)
 replace HO649 := Az (Kd.R_mono (Kd.R_told (Kd.R_told (Kd.R_old (rk HO649) hb) (Kd.R_base ho0)) (Kd.R_base ho1)) (fun _ h_ => h_.1))
 replace HO656 := Az (Kd.R_elder' (rk HO656) (Kd.R_base ho0) hb)
 replace HO661 := Az (Kd.R_mono (Kd.R_told (Kd.R_told (Kd.R_old (rk HO661) hb) (Kd.R_base ho0)) (Kd.R_base ho1)) (fun _ h_ => h_.1))
 replace BK622 := kb BK622 hb
 replace HB := bs HB hb
 refine hK.out _ _ hd (fun hHeld => ?_)
 clear hK K
 refine nm ?_
 refine on 20 (some 30) (bm 25 2097151) HT_.out (fun K hK => ?_)
 refine gs Tryz.func24 #[.int .u64 9221120237041090560] ?_
 with_reducible refine (r5_Float.calls 9221120237041090560 t674 t675 t676 t677 t680 t681 t682 _ A17.out).mono ?_
 rintro e w49 ⟨v678, v683, rfl, ho0, ho1, hb⟩
 refine ⟨_, rfl, ?_⟩
 replace HO598 := Az (Kd.R_below (rk HO598) hb)
 replace HO615 := Az (Kd.V_mono (Kd.V_told (Kd.V_told (Kd.V_old (vk HO615) hb) (Kd.R_base ho0)) (Kd.R_base ho1)) (fun _ h_ => h_.1))
 replace HO626 := Az (Kd.R_below (rk HO626) hb)
 have HO679 := Az (Kd.R_lower (Kd.R_new' (Kd.R_new' (Kd.R_new' (Kd.R_new' (Kd.R_new' (Kd.R_new' ho0 (Kd.R_lt (rk HO589))) (Kd.R_lt (rk HO604))) (Kd.R_lt (rk HO632))) (Kd.R_lt (rk HO644))) (Kd.R_lt (rk HO656))) (Kd.R_lt (rk HO668))) (below_size (bls HB)))
 have HO684 := Az (Kd.R_lower (Kd.R_newB (Kd.R_new' (Kd.R_new' (Kd.R_new' (Kd.R_new' (Kd.R_new' (Kd.R_new' (Kd.R_new' (Kd.R_new' (Kd.R_new' (Kd.R_new' (Kd.R_new' (Kd.R_new' (Kd.R_new' ho1 (Kd.R_lt (rk HO589))) (Kd.R_lt (rk HO594))) (Kd.R_lt (rk HO604))) (Kd.R_lt (rk HO609))) (Kd.R_lt (rk HO620))) (Kd.R_lt (rk HO632))) (Kd.R_lt (rk HO637))) (Kd.R_lt (rk HO644))) (Kd.R_lt (rk HO649))) (Kd.R_lt (rk HO656))) (Kd.R_lt (rk HO661))) (Kd.R_lt (rk HO668))) (Kd.R_lt (rk HO673))) (g := gb622) (o := .cells #[.int .i64 t610, .bool t611, .bool t612, .slice Ao30 t613.length co30, .int .u64 t616, .string t617, .slice Ao31 t618.length co31] 28 (0, 0)) (bk BK622)) (below_size (bls HB)))
 replace HO589 := Az (Kd.R_elder' (rk HO589) (Kd.R_base ho0) hb)
 replace HO594 := Az (Kd.R_mono (Kd.R_told (Kd.R_told (Kd.R_old (rk HO594) hb) (Kd.R_base ho0)) (Kd.R_base ho1)) (fun _ h_ => h_.1))
 replace HO604 := Az (Kd.R_elder' (rk HO604) (Kd.R_base ho0) hb)
 replace HO609 := Az (Kd.R_mono (Kd.R_told (Kd.R_told (Kd.R_old (rk HO609) hb) (Kd.R_base ho0)) (Kd.R_base ho1)) (fun _ h_ => h_.1))
 replace HO620 := Az (Kd.R_mono (Kd.R_told (Kd.R_told (Kd.R_old (rk HO620) hb) (Kd.R_base ho0)) (Kd.R_base ho1)) (fun _ h_ => h_.1))
 replace HO632 := Az (Kd.R_elder' (rk HO632) (Kd.R_base ho0) hb)
 replace HO637 := Az (Kd.R_mono (Kd.R_told (Kd.R_told (Kd.R_old (rk HO637) hb) (Kd.R_base ho0)) (Kd.R_base ho1)) (fun _ h_ => h_.1))
 replace HO644 := Az (Kd.R_elder' (rk HO644) (Kd.R_base ho0) hb)
 replace HO649 := Az (Kd.R_mono (Kd.R_told (Kd.R_told (Kd.R_old (rk HO649) hb) (Kd.R_base ho0)) (Kd.R_base ho1)) (fun _ h_ => h_.1))
 replace HO656 := Az (Kd.R_elder' (rk HO656) (Kd.R_base ho0) hb)
 replace HO661 := Az (Kd.R_mono (Kd.R_told (Kd.R_told (Kd.R_old (rk HO661) hb) (Kd.R_base ho0)) (Kd.R_base ho1)) (fun _ h_ => h_.1))
 replace HO668 := Az (Kd.R_elder' (rk HO668) (Kd.R_base ho0) hb)
 replace HO673 := Az (Kd.R_mono (Kd.R_told (Kd.R_told (Kd.R_old (rk HO673) hb) (Kd.R_base ho0)) (Kd.R_base ho1)) (fun _ h_ => h_.1))
 replace BK622 := kb BK622 hb
 replace HB := bs HB hb
 obtain ⟨Ao50, co50, eo50⟩ := Kd.R_slice HO668.out
 (first | subst eo50 | (injection eo50 with f1_ f2_ f3_; have f4_ := f1_.symm; have f5_ := f3_.symm; clear f1_ f2_ f3_; subst f4_; subst f5_))
 obtain ⟨Ao51, co51, eo51⟩ := Kd.R_slice HO673.out
 (first | subst eo51 | (injection eo51 with f1_ f2_ f3_; have f4_ := f1_.symm; have f5_ := f3_.symm; clear f1_ f2_ f3_; subst f4_; subst f5_))
 obtain ⟨Ao52, co52, eo52⟩ := Kd.R_slice HO679.out
 (first | subst eo52 | (injection eo52 with f1_ f2_ f3_; have f4_ := f1_.symm; have f5_ := f3_.symm; clear f1_ f2_ f3_; subst f4_; subst f5_))
 obtain ⟨Ao53, co53, eo53⟩ := Kd.R_slice HO684.out
 (first | subst eo53 | (injection eo53 with f1_ f2_ f3_; have f4_ := f1_.symm; have f5_ := f3_.symm; clear f1_ f2_ f3_; subst f4_; subst f5_))
 refine hK.out _ _ hd (fun hHeld => ?_)
 clear hK K
 refine nm ?_
 refine on 21 (some 31) (bm 25 4194303) HT_.out (fun K hK => ?_)
 refine gs Tryz.func8 #[.agg #[.int .i64 t663, .bool t664, .bool t665, .slice Ao50 t666.length co50, .int .u64 t669, .string t670, .slice Ao51 t671.length co51], .agg #[.int .i64 t674, .bool t675, .bool t676, .slice Ao52 t677.length co52, .int .u64 t680, .string t681, .slice Ao53 t682.length co53]] ?_
 with_reducible refine (p_Equal.calls k t663 t664 t665 _ _ t666 t669 t670 _ _ t671 t674 t675 t676 _ _ t677 t680 t681 _ _ t682 t685 _ ?side1 (Kd.R_reads' HO668.out).2.1 ?side3 (Kd.R_reads' HO673.out).2.1 ?side5 (Kd.R_reads' HO679.out).2.1 ?side7 (Kd.R_reads' HO684.out).2.1 A18.out).mono ?_
 (case side1 => exact (Kd.R_reads' HO668.out).2.2)
 (case side3 => exact (Kd.R_reads' HO673.out).2.2)
 (case side5 => exact (Kd.R_reads' HO679.out).2.2)
 (case side7 => exact (Kd.R_reads' HO684.out).2.2)
 rintro e w54 ⟨rfl, hb⟩
 refine ⟨_, rfl, ?_⟩
 replace HO589 := Az (Kd.R_below (rk HO589) hb)
 replace HO594 := Az (Kd.R_below (rk HO594) hb)
 replace HO598 := Az (Kd.R_below (rk HO598) hb)
 replace HO604 := Az (Kd.R_below (rk HO604) hb)
 replace HO609 := Az (Kd.R_below (rk HO609) hb)
 replace HO615 := Az (Kd.V_below (vk HO615) hb)
 replace HO620 := Az (Kd.R_below (rk HO620) hb)
 replace HO626 := Az (Kd.R_below (rk HO626) hb)
 replace HO632 := Az (Kd.R_below (rk HO632) hb)
 replace HO637 := Az (Kd.R_below (rk HO637) hb)
 replace HO644 := Az (Kd.R_below (rk HO644) hb)
 replace HO649 := Az (Kd.R_below (rk HO649) hb)
 replace HO656 := Az (Kd.R_below (rk HO656) hb)
 replace HO661 := Az (Kd.R_below (rk HO661) hb)
 replace HO668 := Az (Kd.R_below (rk HO668) hb)
 replace HO673 := Az (Kd.R_below (rk HO673) hb)
 replace HO679 := Az (Kd.R_below (rk HO679) hb)
 replace HO684 := Az (Kd.R_below (rk HO684) hb)
 replace BK622 := kb BK622 hb
 replace HB := bs HB hb
 refine hK.out _ _ hd (fun hHeld => ?_)
 clear hK K
 refine nm ?_
 refine pu 22 (some 32) (bm 25 8388607) HT_.out ?_
 refine pu 23 (some 33) (bm 25 16777215) HT_.out ?_
 refine pu 24 (some 0) (bm 25 33554431) HT_.out ?_
 refine done_ (done_of HT_.out (by kernel_rfl)) ?_
 try go_wp2
 go_ret
 exact ⟨fe, bls HB⟩
end Go.Proofs.YtkenmmfplnheaaaGreatDoor.P
