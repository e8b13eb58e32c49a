/- The functions' forms and the proofs that the machine computes them: printed by a changed copy of the kit's printer, shortened by a program. -/
import Derived.Test.YtkenmmfplnheaaaGreatDoorWalk1
namespace Go.Proofs.YtkenmmfplnheaaaGreatDoor.P
open Go.Proofs.YtkenmmfplnheaaaGreatDoor.Giv
open Go.RowKit Go.Proofs.YtkenmmfplnheaaaGreatDoorW.PrintWords Go.Proofs.YtkenmmfplnheaaaGreatDoorW.PrintLast Go.Proofs.YtkenmmfplnheaaaGreatDoorW.PrintMore
attribute [local go_sem] max2_int min2_int max_two min_two max_three min_three max_four min_four   -- for this text's walks alone
set_option linter.unusedVariables false
set_option linter.unusedSimpArgs false
mutual
def whole_divide.l0 : Nat → List Int → List Int → Int → Int → List Int → Int → Option (List Int × List Int)
 | 0, _, _, _, _, _, _ => none
 | k + 1, x6, x7, x10, x11, x12, x13 => if x13 ≥ 0 then (if 0 ≤ (wrap64 (x13 + x11)) then (if (wrap64 (x13 + x11)) < (x7.length : Int) then (if 0 ≤ (wrap64 ((wrap64 (x13 + x11)) - 1)) then (if (wrap64 ((wrap64 (x13 + x11)) - 1)) < (x7.length : Int) then (if 0 ≤ (wrap64 (x11 - 1)) then (if (wrap64 (x11 - 1)) < (x6.length : Int) then (if (rd x6 (wrap64 (x11 - 1))) = 0 then (none) else (whole_divide.l1 k x6 x7 x10 x11 x12 x13 (IntKind.u64.wrap (Int.tdiv (IntKind.u64.wrap ((IntKind.u64.wrap ((rd x7 (wrap64 (x13 + x11))) * 1000000000)) + (rd x7 (wrap64 ((wrap64 (x13 + x11)) - 1))))) (rd x6 (wrap64 (x11 - 1))))) (Int.tmod (IntKind.u64.wrap ((IntKind.u64.wrap ((rd x7 (wrap64 (x13 + x11))) * 1000000000)) + (rd x7 (wrap64 ((wrap64 (x13 + x11)) - 1))))) (rd x6 (wrap64 (x11 - 1)))))) else (none)) else (none)) else (none)) else (none)) else (none)) else (none)) else (if 0 ≤ x11 then (if x11 ≤ (x7.length : Int) then ((whole_short.f k (x7.take (x11 : Int).toNat) x10).bind fun bt288 => ((whole_doubles.f k x12).bind fun t292 => ((whole_doubles.f k bt288.1).bind fun t295 => (some (t292, t295))))) else (none)) else (none))
def whole_divide.l1 : Nat → List Int → List Int → Int → Int → List Int → Int → Int → Int → Option (List Int × List Int)
 | 0, _, _, _, _, _, _, _, _ => none
 | k + 1, x6, x7, x10, x11, x12, x13, x15, x16 => if x15 ≥ 1000000000 then (none) else (if x16 < 1000000000 then (if 0 ≤ (wrap64 (x11 - 2)) then (if (wrap64 (x11 - 2)) < (x6.length : Int) then (if 0 ≤ (wrap64 ((wrap64 (x13 + x11)) - 2)) then (if (wrap64 ((wrap64 (x13 + x11)) - 2)) < (x7.length : Int) then (if (IntKind.u64.wrap (x15 * (rd x6 (wrap64 (x11 - 2))))) > (IntKind.u64.wrap ((IntKind.u64.wrap (x16 * 1000000000)) + (rd x7 (wrap64 ((wrap64 (x13 + x11)) - 2))))) then (if 0 ≤ (wrap64 (x11 - 1)) then (if (wrap64 (x11 - 1)) < (x6.length : Int) then (if (IntKind.u64.wrap (x16 + (rd x6 (wrap64 (x11 - 1))))) ≥ 1000000000 then ((whole_take.f k x7 x6 x13 (IntKind.u64.wrap (x15 - 1))).bind fun bt305 => (if bt305.1 = true then (if 0 ≤ x13 then (if x13 < (x12.length : Int) then (whole_divide.l0 k x6 bt305.2 x10 x11 (x12.set (x13 : Int).toNat (IntKind.u64.wrap (x15 - 1))) (wrap64 (x13 - 1))) else (none)) else (none)) else (none))) else (whole_divide.l1 k x6 x7 x10 x11 x12 x13 (IntKind.u64.wrap (x15 - 1)) (IntKind.u64.wrap (x16 + (rd x6 (wrap64 (x11 - 1))))))) else (none)) else (none)) else ((whole_take.f k x7 x6 x13 x15).bind fun bt308 => (if bt308.1 = true then (if 0 ≤ x13 then (if x13 < (x12.length : Int) then (whole_divide.l0 k x6 bt308.2 x10 x11 (x12.set (x13 : Int).toNat x15) (wrap64 (x13 - 1))) else (none)) else (none)) else (none)))) else (none)) else (none)) else (none)) else (none)) else (none))
end
def whole_divide.f (k : Nat) (l0 : List Int) (l1 : List Int) : Option (List Int × List Int) := (whole_halves.f k l1).bind fun t255 => ((whole_halves.f k l0).bind fun t258 => (if (t255.length : Int) = 1 then (if 0 < (t255.length : Int) then ((whole_short.f k t258 (rd t255 0)).bind fun bt262 => ((whole_doubles.f k bt262.1).bind fun t266 => (some (t266, (([bt262.2] : List Int)))))) else (none)) else (if (t258.length : Int) < (t255.length : Int) then (some (([] : List Int), l0)) else (if 0 ≤ (wrap64 ((t255.length : Int) - 1)) then (if (wrap64 ((t255.length : Int) - 1)) < (t255.length : Int) then (if (IntKind.u64.wrap ((rd t255 (wrap64 ((t255.length : Int) - 1))) + 1)) = 0 then (none) else ((whole_scaled.f k t258 (IntKind.u64.wrap (Int.tdiv (1000000000 : Int) (IntKind.u64.wrap ((rd t255 (wrap64 ((t255.length : Int) - 1))) + 1))))).bind fun t273 => ((whole_scaled.f k t255 (IntKind.u64.wrap (Int.tdiv (1000000000 : Int) (IntKind.u64.wrap ((rd t255 (wrap64 ((t255.length : Int) - 1))) + 1))))).bind fun t276 => (if 0 ≤ (t255.length : Int) then (if (t255.length : Int) ≤ (t276.length : Int) then (if 0 ≤ (wrap64 ((t273.length : Int) - (t255.length : Int))) then (if (wrap64 ((t273.length : Int) - (t255.length : Int)) : Int).toNat ≤ 35184372088832 then ((some (List.replicate (wrap64 ((t273.length : Int) - (t255.length : Int)) : Int).toNat 0 : List Int)).bind fun y282 => (whole_divide.l0 k (t276.take ((t255.length : Int) : Int).toNat) t273 (IntKind.u64.wrap (Int.tdiv (1000000000 : Int) (IntKind.u64.wrap ((rd t255 (wrap64 ((t255.length : Int) - 1))) + 1)))) (t255.length : Int) y282 (wrap64 ((y282.length : Int) - 1)))) else (none)) else (none)) else (none)) else (none))))) else (none)) else (none)))))
theorem whole_divide.mono_l : ∀ k, (∀ y0 y1 y2 y3 y4 y5, LeO (whole_divide.l0 k y0 y1 y2 y3 y4 y5) (whole_divide.l0 (k + 1) y0 y1 y2 y3 y4 y5)) ∧ (∀ y0 y1 y2 y3 y4 y5 y6 y7, LeO (whole_divide.l1 k y0 y1 y2 y3 y4 y5 y6 y7) (whole_divide.l1 (k + 1) y0 y1 y2 y3 y4 y5 y6 y7))
 | 0 => ⟨fun _ _ _ _ _ _ r h => by simp [whole_divide.l0] at h, fun _ _ _ _ _ _ _ _ r h => by simp [whole_divide.l1] at h⟩
 | k + 1 => by
  obtain ⟨ih0, ih1⟩ := whole_divide.mono_l k
  refine ⟨?_, ?_⟩
  ·intro y0 y1 y2 y3 y4 y5
   unfold whole_divide.l0
   repeat' first
   | (with_reducible exact ih0 _ _ _ _ _ _)
   | (with_reducible exact ih1 _ _ _ _ _ _ _ _)
   | (with_reducible exact whole_doubles.mono _ _)
   | (with_reducible exact whole_halves.mono _ _)
   | (with_reducible exact whole_scaled.mono _ _ _)
   | (with_reducible exact whole_short.mono _ _ _)
   | (with_reducible exact whole_take.mono _ _ _ _ _)
   | (with_reducible exact LeO.refl _)
   | (with_reducible exact LeO.none _)
   | (with_reducible refine LeO.ite ?_ ?_)
   | (with_reducible refine LeO.bind ?_ (fun _ => ?_))
  ·intro y0 y1 y2 y3 y4 y5 y6 y7
   unfold whole_divide.l1
   repeat' first
   | (with_reducible exact ih0 _ _ _ _ _ _)
   | (with_reducible exact ih1 _ _ _ _ _ _ _ _)
   | (with_reducible exact whole_doubles.mono _ _)
   | (with_reducible exact whole_halves.mono _ _)
   | (with_reducible exact whole_scaled.mono _ _ _)
   | (with_reducible exact whole_short.mono _ _ _)
   | (with_reducible exact whole_take.mono _ _ _ _ _)
   | (with_reducible exact LeO.refl _)
   | (with_reducible exact LeO.none _)
   | (with_reducible refine LeO.ite ?_ ?_)
   | (with_reducible refine LeO.bind ?_ (fun _ => ?_))
theorem whole_divide.mono : ∀ a0 a1 k, LeO (whole_divide.f k a0 a1) (whole_divide.f (k + 1) a0 a1) := by
 intro a0 a1 k
 obtain ⟨ih0, ih1⟩ := whole_divide.mono_l k
 unfold whole_divide.f
 repeat' first
   | (with_reducible exact ih0 _ _ _ _ _ _)
   | (with_reducible exact ih1 _ _ _ _ _ _ _ _)
   | (with_reducible exact whole_doubles.mono _ _)
   | (with_reducible exact whole_halves.mono _ _)
   | (with_reducible exact whole_scaled.mono _ _ _)
   | (with_reducible exact whole_short.mono _ _ _)
   | (with_reducible exact whole_take.mono _ _ _ _ _)
   | (with_reducible exact LeO.refl _)
   | (with_reducible exact LeO.none _)
   | (with_reducible refine LeO.ite ?_ ?_)
   | (with_reducible refine LeO.bind ?_ (fun _ => ?_))
set_option maxHeartbeats 8000000 in
set_option maxRecDepth 100000 in
theorem whole_divide.calls (k : Nat) (P0_ : Nat → Prop) (A0 : Option Addr) (c0 : Nat) (l0 : List Int) (A1 : Option Addr) (c1 : Nat) (l1 : List Int) (r1 : List Int) (r2 : List Int) (w : World) (hs0 : Kd.V (Kd.int .u64) 25 w w.heap.size (fun k_ => P0_ k_) (.slice A0 l0.length c0) l0) (hr1 : Kd.C (Kd.int .u64) w A1 l1.length l1) (hc1 : l1.length ≤ c1) (h : whole_divide.f k l0 l1 = some (r1, r2)) :
  Calls Tryz.prog 130 #[.slice A0 l0.length c0, .slice A1 l1.length c1] w fun e w' => ∃ v0_ v1_ : Value, e = .returned (.tuple #[v0_, v1_]) ∧ Kd.R (Kd.int .u64) 25 w' w.heap.size (fun k_ => (w.heap.size ≤ k_)) v0_ r1 ∧ Kd.V (Kd.int .u64) 25 w' w.heap.size (fun k_ => (P0_ k_ ∨ w.heap.size ≤ k_) ∧ some k_ ≠ (v0_ : Value).ownBlock) v1_ r2 ∧ Below w.heap.size w w' := by
 have HO0 := Az (show Kd.V (Kd.int .u64) 25 w w.heap.size (fun k_ => (P0_ k_ ∨ w.heap.size ≤ k_)) (.slice A0 l0.length c0) l0 from Kd.V_mono hs0 (fun k_ hk => .inl hk))
 have HR1 := Az hr1
 have HC1 := Az hc1
 clear hr1 hc1
 have HB := Az (Below.refl w.heap.size w)
 have H := h
 unfold whole_divide.f at H
 clear h
 obtain ⟨t255, A3, H⟩ := bd H
 obtain ⟨t258, A4, H⟩ := bd H
 by_cases c5 : (t255.length : Int) = 1
 ·rw [if_pos c5] at H
  have c5b0 := beq_iff_eq.mpr c5
  have c5b1 := bne_eq_false_iff_eq.mpr c5
  clear c5
  by_cases c6 : 0 < (t255.length : Int)
  ·rw [if_pos c6] at H
   have c6b0 := decide_eq_true c6
   have c6b1 : decide (0 < t255.length) = true := decide_eq_true (by omega)
   clear c6
   obtain ⟨⟨t262, t263⟩, A7, H⟩ := bd H
   obtain ⟨t266, A8, H⟩ := bd H
   obtain ⟨y269, hy269⟩ : ∃ y_ : List Int, y_ = (([t263] : List Int)) := ⟨_, rfl⟩
   replace H : (some (t266, y269)) = some (r1, r2) := by rw [hy269]; exact H
   have Ny269 := Az hy269
   clear hy269
   simp only [Option.some.injEq, Prod.mk.injEq] at H
   obtain ⟨rfl, rfl⟩ := H
   go_enter Tryz.func130, Tryz.ntmps130
   go_wp2_with (first | (go_at_call 145; (with_reducible refine (whole_halves.calls k _ _ l1 t255 _ ?side1 HC1.out A3.out).mono ?_); (case side1 => exact HR1.out); rintro e w9 ⟨v256, rfl, ho0, hb⟩; replace HO0 := Az (Kd.V_elder' (vk HO0) (Kd.R_base ho0) hb); have HO257 := Az (Kd.R_lower (Kd.R_newM (M := fun k_ => (w.heap.size ≤ k_)) ho0 (below_size (bl HB)) (fun k_ h_ => h_)) (below_size (bl HB))); replace HB := Az (below_step (bl HB) hb)) | (go_at_call 145; (with_reducible refine (whole_halves.calls k _ _ l0 t258 _ ?side1 (Kd.V_reads' HO0.out).2.1 A4.out).mono ?_); (case side1 => exact (Kd.V_reads' HO0.out).2.2); rintro e w10 ⟨v259, rfl, ho0, hb⟩; replace HO0 := Az (Kd.V_elder' (vk HO0) (Kd.R_base ho0) hb); have HO260 := Az (Kd.R_lower (Kd.R_new' (Kd.R_newM (M := fun k_ => (w.heap.size ≤ k_)) ho0 (below_size (bl HB)) (fun k_ h_ => h_)) (Kd.R_lt (rk HO257))) (below_size (bl HB))); replace HO257 := Az (Kd.R_elder' (rk HO257) (Kd.R_base ho0) hb); replace HB := Az (below_step (bl HB) hb); obtain ⟨Ao11, co11, eo11⟩ := Kd.R_slice HO257.out; subst eo11; have p261 : 0 ≤ (0 : Int) := (by omega); have q261 : 0 < (t255.length : Int) := ode; obtain ⟨ad261, e261, hx261_0⟩ := Kd.at_int (Kd.R_reads' HO257.out).2.2 0 p261 q261; cases e261; have qi261 : (0 < t255.length) = True := eq_true (by omega); (try rw [show ((0 : Int)).toNat = 0 from rfl] at hx261_0); (try rw [Addr.add_zero'] at hx261_0); replace p261 := eq_true p261; replace q261 := eq_true q261; obtain ⟨Ao12, co12, eo12⟩ := Kd.R_slice HO260.out; subst eo12) | (go_at_call 146; (with_reducible refine (whole_short.calls k _ _ t258 (rd t255 0) t262 t263 _ ?side1 (Kd.R_reads' HO260.out).2.1 A7.out).mono ?_); (case side1 => exact (Kd.R_reads' HO260.out).2.2); rintro e w13 ⟨v264, rfl, ho0, hb⟩; replace HO0 := Az (Kd.V_elder' (vk HO0) (Kd.R_base ho0) hb); have HO265 := Az (Kd.R_lower (Kd.R_new' (Kd.R_new' (Kd.R_newM (M := fun k_ => (w.heap.size ≤ k_)) ho0 (below_size (bl HB)) (fun k_ h_ => h_)) (Kd.R_lt (rk HO257))) (Kd.R_lt (rk HO260))) (below_size (bl HB))); replace HO257 := Az (Kd.R_elder' (rk HO257) (Kd.R_base ho0) hb); replace HO260 := Az (Kd.R_elder' (rk HO260) (Kd.R_base ho0) hb); replace HB := Az (below_step (bl HB) hb); obtain ⟨Ao14, co14, eo14⟩ := Kd.R_slice HO265.out; subst eo14) | (go_at_call 147; (with_reducible refine (whole_doubles.calls k _ _ t262 t266 _ ?side1 (Kd.R_reads' HO265.out).2.1 A8.out).mono ?_); (case side1 => exact (Kd.R_reads' HO265.out).2.2); rintro e w15 ⟨v267, rfl, ho0, hb⟩; replace HO0 := Az (Kd.V_elder' (vk HO0) (Kd.R_base ho0) hb); have HO268 := Az (Kd.R_lower (Kd.R_new' (Kd.R_new' (Kd.R_new' (Kd.R_newM (M := fun k_ => (w.heap.size ≤ k_)) ho0 (below_size (bl HB)) (fun k_ h_ => h_)) (Kd.R_lt (rk HO257))) (Kd.R_lt (rk HO260))) (Kd.R_lt (rk HO265))) (below_size (bl HB))); replace HO257 := Az (Kd.R_elder' (rk HO257) (Kd.R_base ho0) hb); replace HO260 := Az (Kd.R_elder' (rk HO260) (Kd.R_base ho0) hb); replace HO265 := Az (Kd.R_elder' (rk HO265) (Kd.R_base ho0) hb); replace HB := Az (below_step (bl HB) hb)) | ((with_reducible refine gate_dst (N := 37) rfl ?_); refine Kd.R_lit (Kd.int .u64) _ 25 ?hg (N := 37) ?hd (xs := ([t263] : List Int)) (inner := [.int .u64 t263]) (ok := fun _ => True) (okp := fun _ => True) ?hr ?hp (fun _ hk => hk) trivial (Below.refl _ _) (Nat.le_refl _) (by simp) ?_; (case hd => rfl); (case hg => rfl); (case hr => first | (go_simp; done) | (go_simp; rfl)); (case hp => exact (Reps.one (show Kd.M (Kd.int .u64) _ _ _ t263 [.int .u64 t263] from rfl) (Reps.none _ _))); intro v270 w16 ho17 hb hg_ hnew_; clear hg_ hnew_; (first | rw [← Ny269.out] at ho17 | (simp only [Int.reduceToNat] at ho17; rw [← Ny269.out] at ho17)); replace HO0 := Az (Kd.V_elder' (vk HO0) (Kd.R_base ho17) hb); have HO271 := Az (Kd.R_lower (Kd.R_new' (Kd.R_new' (Kd.R_new' (Kd.R_new' (Kd.R_newM (M := fun k_ => (w.heap.size ≤ k_)) ho17 (below_size (bl HB)) (fun k_ h_ => h_)) (Kd.R_lt (rk HO257))) (Kd.R_lt (rk HO260))) (Kd.R_lt (rk HO265))) (Kd.R_lt (rk HO268))) (below_size (bl HB))); replace HO257 := Az (Kd.R_elder' (rk HO257) (Kd.R_base ho17) hb); replace HO260 := Az (Kd.R_elder' (rk HO260) (Kd.R_base ho17) hb); replace HO265 := Az (Kd.R_elder' (rk HO265) (Kd.R_base ho17) hb); replace HO268 := Az (Kd.R_elder' (rk HO268) (Kd.R_base ho17) hb); replace HB := Az (below_step (bl HB) hb); clear hb ho17))
   go_ret2
   exact ⟨_, _, fe, rt (Kd.R_mono HO268.out (fun _ hk => hk.1.1.1.1.1)), Kd.V_mono (Kd.R_V (rt HO271.out)) (fun k_ hk => ⟨.inr hk.1.1.1.1.1, hk.2⟩), bl HB⟩
  ·rw [if_neg c6] at H
   exact absurd H (by simp)
 ·rw [if_neg c5] at H
  have c5b0 := beq_eq_false_iff_ne.mpr c5
  have c5b1 := bne_iff_ne.mpr c5
  by_cases c18 : (t258.length : Int) < (t255.length : Int)
  ·rw [if_pos c18] at H
   have c18b0 := decide_eq_true c18
   have c18b1 : decide (t258.length < t255.length) = true := decide_eq_true (Int.ofNat_lt.mp c18)
   clear c18
   simp only [Option.some.injEq, Prod.mk.injEq] at H
   obtain ⟨rfl, rfl⟩ := H
   go_enter Tryz.func130, Tryz.ntmps130
   go_wp2_with (first | (go_at_call 145; (with_reducible refine (whole_halves.calls k _ _ l1 t255 _ ?side1 HC1.out A3.out).mono ?_); (case side1 => exact HR1.out); rintro e w19 ⟨v256, rfl, ho0, hb⟩; replace HO0 := Az (Kd.V_elder' (vk HO0) (Kd.R_base ho0) hb); have HO257 := Az (Kd.R_lower (Kd.R_newM (M := fun k_ => (w.heap.size ≤ k_)) ho0 (below_size (bl HB)) (fun k_ h_ => h_)) (below_size (bl HB))); replace HB := Az (below_step (bl HB) hb)) | (go_at_call 145; (with_reducible refine (whole_halves.calls k _ _ l0 t258 _ ?side1 (Kd.V_reads' HO0.out).2.1 A4.out).mono ?_); (case side1 => exact (Kd.V_reads' HO0.out).2.2); rintro e w20 ⟨v259, rfl, ho0, hb⟩; replace HO0 := Az (Kd.V_elder' (vk HO0) (Kd.R_base ho0) hb); have HO260 := Az (Kd.R_lower (Kd.R_new' (Kd.R_newM (M := fun k_ => (w.heap.size ≤ k_)) ho0 (below_size (bl HB)) (fun k_ h_ => h_)) (Kd.R_lt (rk HO257))) (below_size (bl HB))); replace HO257 := Az (Kd.R_elder' (rk HO257) (Kd.R_base ho0) hb); replace HB := Az (below_step (bl HB) hb); obtain ⟨Ao21, co21, eo21⟩ := Kd.R_slice HO257.out; subst eo21; obtain ⟨Ao22, co22, eo22⟩ := Kd.R_slice HO260.out; subst eo22))
   go_ret2
   exact ⟨_, _, fe, Kd.R_nil _ _ _ _ _, vt (Kd.V_mono HO0.out (fun _ hk => ⟨hk.1.1, (by simp [Value.ownBlock])⟩)), bl HB⟩
  ·rw [if_neg c18] at H
   have c18b0 := decide_eq_false c18
   have c18b1 : decide (t258.length < t255.length) = false := decide_eq_false (fun h => c18 (Int.ofNat_lt.mpr h))
   clear c18
   obtain ⟨ji23, hji23⟩ : ∃ j_ : Int, (wrap64 ((t255.length : Int) - 1)) = j_ := ⟨_, rfl⟩
   replace H : (if 0 ≤ (ji23) then (if (ji23) < (t255.length : Int) then (if (IntKind.u64.wrap ((rd t255 (ji23)) + 1)) = 0 then (none) else ((whole_scaled.f k t258 (IntKind.u64.wrap (Int.tdiv (1000000000 : Int) (IntKind.u64.wrap ((rd t255 (ji23)) + 1))))).bind fun t273 => ((whole_scaled.f k t255 (IntKind.u64.wrap (Int.tdiv (1000000000 : Int) (IntKind.u64.wrap ((rd t255 (ji23)) + 1))))).bind fun t276 => (if 0 ≤ (t255.length : Int) then (if (t255.length : Int) ≤ (t276.length : Int) then (if 0 ≤ (wrap64 ((t273.length : Int) - (t255.length : Int))) then (if (wrap64 ((t273.length : Int) - (t255.length : Int)) : Int).toNat ≤ 35184372088832 then ((some (List.replicate (wrap64 ((t273.length : Int) - (t255.length : Int)) : Int).toNat 0 : List Int)).bind fun y282 => (whole_divide.l0 k (t276.take ((t255.length : Int) : Int).toNat) t273 (IntKind.u64.wrap (Int.tdiv (1000000000 : Int) (IntKind.u64.wrap ((rd t255 (ji23)) + 1)))) (t255.length : Int) y282 (wrap64 ((y282.length : Int) - 1)))) else (none)) else (none)) else (none)) else (none))))) else (none)) else (none)) = some (r1, r2) := by first | (rw [hji23] at H; exact H) | (simp only [hji23] at H ⊢; exact H)
   have hji23w : (IntKind.i64.wrap ((t255.length : Int) - 1)) = ji23 := (i64_w _).trans hji23
   by_cases c24 : 0 ≤ (ji23)
   ·rw [if_pos c24] at H
    have c24b0 := decide_eq_true c24
    clear c24
    by_cases c25 : (ji23) < (t255.length : Int)
    ·rw [if_pos c25] at H
     have c25b0 := decide_eq_true c25
     clear c25
     by_cases c26 : (IntKind.u64.wrap ((rd t255 (ji23)) + 1)) = 0
     ·rw [if_pos c26] at H
      exact absurd H (by simp)
     ·rw [if_neg c26] at H
      have c26b0 := beq_eq_false_iff_ne.mpr c26
      have c26b1 := bne_iff_ne.mpr c26
      obtain ⟨t273, A27, H⟩ := bd H
      obtain ⟨t276, A28, H⟩ := bd H
      by_cases c29 : 0 ≤ (t255.length : Int)
      ·rw [if_pos c29] at H
       have c29b0 := eq_true c29
       have c29b1 := decide_eq_true c29
       clear c29
       by_cases c30 : (t255.length : Int) ≤ (t276.length : Int)
       ·rw [if_pos c30] at H
        have c30b0 := eq_true c30
        have c30b1 := decide_eq_true c30
        clear c30
        obtain ⟨y279, hy279⟩ : ∃ y_ : List Int, y_ = (t276.take ((t255.length : Int) : Int).toNat) := ⟨_, rfl⟩
        replace H : (if 0 ≤ (wrap64 ((t273.length : Int) - (t255.length : Int))) then (if (wrap64 ((t273.length : Int) - (t255.length : Int)) : Int).toNat ≤ 35184372088832 then ((some (List.replicate (wrap64 ((t273.length : Int) - (t255.length : Int)) : Int).toNat 0 : List Int)).bind fun y282 => (whole_divide.l0 k y279 t273 (IntKind.u64.wrap (Int.tdiv (1000000000 : Int) (IntKind.u64.wrap ((rd t255 (ji23)) + 1)))) (t255.length : Int) y282 (wrap64 ((y282.length : Int) - 1)))) else (none)) else (none)) = some (r1, r2) := by rw [hy279]; exact H
        have Ny279 := Az hy279
        clear hy279
        obtain ⟨ji31, hji31⟩ : ∃ j_ : Int, (wrap64 ((t273.length : Int) - (t255.length : Int))) = j_ := ⟨_, rfl⟩
        replace H : (if 0 ≤ (ji31) then (if (ji31 : Int).toNat ≤ 35184372088832 then ((some (List.replicate (ji31 : Int).toNat 0 : List Int)).bind fun y282 => (whole_divide.l0 k y279 t273 (IntKind.u64.wrap (Int.tdiv (1000000000 : Int) (IntKind.u64.wrap ((rd t255 (ji23)) + 1)))) (t255.length : Int) y282 (wrap64 ((y282.length : Int) - 1)))) else (none)) else (none)) = some (r1, r2) := by first | (rw [hji31] at H; exact H) | (simp only [hji31] at H ⊢; exact H)
        have hji31w : (IntKind.i64.wrap ((t273.length : Int) - (t255.length : Int))) = ji31 := (i64_w _).trans hji31
        by_cases c32 : 0 ≤ (ji31)
        ·rw [if_pos c32] at H
         have c32b0 := eq_true c32
         have c32b1 := decide_eq_true c32
         clear c32
         by_cases c33 : (ji31 : Int).toNat ≤ 35184372088832
         ·rw [if_pos c33] at H
          have c33b0 := eq_true c33
          have c33b1 := decide_eq_true c33
          clear c33
          obtain ⟨y282, hy282⟩ : ∃ y_ : List Int, y_ = (List.replicate (ji31 : Int).toNat 0) := ⟨_, rfl⟩
          replace H : (whole_divide.l0 k y279 t273 (IntKind.u64.wrap (Int.tdiv (1000000000 : Int) (IntKind.u64.wrap ((rd t255 (ji23)) + 1)))) (t255.length : Int) y282 (wrap64 ((y282.length : Int) - 1))) = some (r1, r2) := by rw [hy282]; exact H
          have Ny282 := Az hy282
          clear hy282
          have H' := Az H
          clear H
          go_enter Tryz.func130, Tryz.ntmps130
          go_wp2_with (first | (go_at_call 145; (with_reducible refine (whole_halves.calls k _ _ l1 t255 _ ?side1 HC1.out A3.out).mono ?_); (case side1 => exact HR1.out); rintro e w34 ⟨v256, rfl, ho0, hb⟩; replace HO0 := Az (Kd.V_elder' (vk HO0) (Kd.R_base ho0) hb); have HO257 := Az (Kd.R_lower (Kd.R_newM (M := fun k_ => (w.heap.size ≤ k_)) ho0 (below_size (bl HB)) (fun k_ h_ => h_)) (below_size (bl HB))); replace HB := Az (below_step (bl HB) hb)) | (go_at_call 145; (with_reducible refine (whole_halves.calls k _ _ l0 t258 _ ?side1 (Kd.V_reads' HO0.out).2.1 A4.out).mono ?_); (case side1 => exact (Kd.V_reads' HO0.out).2.2); rintro e w35 ⟨v259, rfl, ho0, hb⟩; replace HO0 := Az (Kd.V_elder' (vk HO0) (Kd.R_base ho0) hb); have HO260 := Az (Kd.R_lower (Kd.R_new' (Kd.R_newM (M := fun k_ => (w.heap.size ≤ k_)) ho0 (below_size (bl HB)) (fun k_ h_ => h_)) (Kd.R_lt (rk HO257))) (below_size (bl HB))); replace HO257 := Az (Kd.R_elder' (rk HO257) (Kd.R_base ho0) hb); replace HB := Az (below_step (bl HB) hb); obtain ⟨Ao36, co36, eo36⟩ := Kd.R_slice HO257.out; subst eo36; obtain ⟨Ao37, co37, eo37⟩ := Kd.R_slice HO260.out; subst eo37; have p272 : 0 ≤ ((ji23) : Int) := ode; have q272 : (ji23) < (t255.length : Int) := ode; obtain ⟨ad272, e272, hx272_0⟩ := Kd.at_int (Kd.R_reads' HO257.out).2.2 (ji23) p272 q272; cases e272; replace p272 := eq_true p272; replace q272 := eq_true q272) | (go_at_call 148; (with_reducible refine (whole_scaled.calls k _ _ t258 (IntKind.u64.wrap (Int.tdiv (1000000000 : Int) (IntKind.u64.wrap ((rd t255 (ji23)) + 1)))) t273 _ ?side1 (Kd.R_reads' HO260.out).2.1 A27.out).mono ?_); (case side1 => exact (Kd.R_reads' HO260.out).2.2); rintro e w38 ⟨v274, rfl, ho0, hb⟩; replace HO0 := Az (Kd.V_elder' (vk HO0) (Kd.R_base ho0) hb); have HO275 := Az (Kd.R_lower (Kd.R_new' (Kd.R_new' (Kd.R_newM (M := fun k_ => (w.heap.size ≤ k_)) ho0 (below_size (bl HB)) (fun k_ h_ => h_)) (Kd.R_lt (rk HO257))) (Kd.R_lt (rk HO260))) (below_size (bl HB))); replace HO257 := Az (Kd.R_elder' (rk HO257) (Kd.R_base ho0) hb); replace HO260 := Az (Kd.R_elder' (rk HO260) (Kd.R_base ho0) hb); replace HB := Az (below_step (bl HB) hb)) | (go_at_call 148; (with_reducible refine (whole_scaled.calls k _ _ t255 (IntKind.u64.wrap (Int.tdiv (1000000000 : Int) (IntKind.u64.wrap ((rd t255 (ji23)) + 1)))) t276 _ ?side1 (Kd.R_reads' HO257.out).2.1 A28.out).mono ?_); (case side1 => exact (Kd.R_reads' HO257.out).2.2); rintro e w39 ⟨v277, rfl, ho0, hb⟩; replace HO0 := Az (Kd.V_elder' (vk HO0) (Kd.R_base ho0) hb); have HO278 := Az (Kd.R_lower (Kd.R_new' (Kd.R_new' (Kd.R_new' (Kd.R_newM (M := fun k_ => (w.heap.size ≤ k_)) ho0 (below_size (bl HB)) (fun k_ h_ => h_)) (Kd.R_lt (rk HO257))) (Kd.R_lt (rk HO260))) (Kd.R_lt (rk HO275))) (below_size (bl HB))); replace HO257 := Az (Kd.R_elder' (rk HO257) (Kd.R_base ho0) hb); replace HO260 := Az (Kd.R_elder' (rk HO260) (Kd.R_base ho0) hb); replace HO275 := Az (Kd.R_elder' (rk HO275) (Kd.R_base ho0) hb); replace HB := Az (below_step (bl HB) hb); obtain ⟨Ao40, co40, eo40⟩ := Kd.R_slice HO278.out; subst eo40; have q41 : ((t255.length : Int) : Int) ≤ ((t276.length : Int) : Int) := ode; obtain ⟨i041, hi041, _, hsz41, _⟩ := info_parts info25; have hcut41 := cut_to (P := Tryz.prog) 22 25 .i64 Tryz.underlying22 hi041 Ao40 t276.length co40 (t255.length : Int) (ode) q41 (Kd.R_reads' HO278.out).2.1; have hr41 := Kd.R_take (m := ((t255.length : Int) : Int).toNat) HO278.out (by omega); have hy41 : y279.length = ((t255.length : Int) : Int).toNat := (by rw [Ny279.out, List.length_take]; omega); rw [← Ny279.out] at hr41; rw [← hy41] at hr41 hcut41; clear hy41 hi041 hsz41 HO278; have HO281 := Az hr41; clear hr41; replace q41 := eq_true q41; obtain ⟨Ao42, co42, eo42⟩ := Kd.R_slice HO275.out; subst eo42) | ((with_reducible refine gate_dst (N := 66) rfl ?_); refine Kd.R_make (Kd.int .u64) _ 25 rfl (N := 66) rfl 22 _ _ rfl ji31 rfl rfl Tryz.underlying22 (.int .u64 0) 8 info25 rfl (by decide) (by omega) 0 (ok := fun _ => True) (okp := fun _ => True) rfl (fun _ hk => hk) trivial (ode) (Nat.le_trans (Nat.mul_le_mul_right _ (ode : ji31.toNat ≤ 35184372088832)) (by omega)) (Below.refl _ _) (Nat.le_refl _) ?_; intro v283 w43 ho44 hb hg_ hnew_; clear hg_ hnew_; (first | rw [← Ny282.out] at ho44 | (simp only [Int.reduceToNat] at ho44; rw [← Ny282.out] at ho44)); replace HO0 := Az (Kd.V_elder' (vk HO0) (Kd.R_base ho44) hb); have HO284 := Az (Kd.R_lower (Kd.R_new' (Kd.R_new' (Kd.R_new' (Kd.R_new' (Kd.R_newM (M := fun k_ => (w.heap.size ≤ k_)) ho44 (below_size (bl HB)) (fun k_ h_ => h_)) (Kd.R_lt (rk HO257))) (Kd.R_lt (rk HO260))) (Kd.R_lt (rk HO275))) (Kd.R_lt (rk HO281))) (below_size (bl HB))); replace HO257 := Az (Kd.R_elder' (rk HO257) (Kd.R_base ho44) hb); replace HO260 := Az (Kd.R_elder' (rk HO260) (Kd.R_base ho44) hb); replace HO275 := Az (Kd.R_elder' (rk HO275) (Kd.R_base ho44) hb); replace HO281 := Az (Kd.R_elder' (rk HO281) (Kd.R_base ho44) hb); replace HB := Az (below_step (bl HB) hb); clear hb ho44; obtain ⟨Ao45, co45, eo45⟩ := Kd.R_slice HO284.out; subst eo45))
          go_loopg [13] k (fun kq v13 w' => ∃ (x7_1 : List Int) (x12_1 : List Int) (x13_1 : Int), v13 = .int .i64 x13_1 ∧ Aside0 (whole_divide.l0 kq y279 x7_1 (IntKind.u64.wrap (Int.tdiv (1000000000 : Int) (IntKind.u64.wrap ((rd t255 (ji23)) + 1)))) (t255.length : Int) x12_1 x13_1 = some (r1, r2)) ∧ Aside0 (kq ≤ k) ∧ Aside0 (Kd.R (Kd.int .u64) 25 w' w.heap.size (fun k_ => (w.heap.size ≤ k_) ∧ some k_ ≠ ((.slice Ao42 t273.length co42) : Value).ownBlock ∧ some k_ ≠ ((.slice Ao45 y282.length co45) : Value).ownBlock) (.slice Ao40 y279.length co40) y279) ∧ Aside0 (Kd.R (Kd.int .u64) 25 w' w.heap.size (fun k_ => (w.heap.size ≤ k_) ∧ some k_ ≠ ((.slice Ao40 y279.length co40) : Value).ownBlock ∧ some k_ ≠ ((.slice Ao45 y282.length co45) : Value).ownBlock) (.slice Ao42 t273.length co42) x7_1) ∧ Aside0 (Kd.R (Kd.int .u64) 25 w' w.heap.size (fun k_ => (w.heap.size ≤ k_) ∧ some k_ ≠ ((.slice Ao40 y279.length co40) : Value).ownBlock ∧ some k_ ≠ ((.slice Ao42 t273.length co42) : Value).ownBlock) (.slice Ao45 y282.length co45) x12_1) ∧ Aside0 (Below w.heap.size w w'))
          case atStart => exact ⟨(t273), (y282), (wrap64 ((y282.length : Int) - 1)), rs, H', ⟨Nat.le_refl _⟩, ⟨rt (Kd.R_mono HO281.out (fun _ hk => ⟨hk.1.1.1.1.1, ⟨ne_own hk.1.2, ne_own hk.2⟩⟩))⟩, ⟨rt (Kd.R_mono HO275.out (fun _ hk => ⟨hk.1.1.1.1.1, ⟨ne_own hk.1.2, ne_own hk.2⟩⟩))⟩, ⟨rt (Kd.R_mono HO284.out (fun _ hk => ⟨hk.1.1.1.1.1, ⟨ne_own hk.2, ne_own hk.1.2⟩⟩))⟩, ⟨bl HB⟩⟩
          case round =>
           clear H'
           obtain ⟨x7_1, x12_1, x13_1, rfl, HA, HK1, HO_6, HO_7, HO_12, HB⟩ := hrel
           have hl7_1 := (Kd.R_reads' HO_7.out).1
           rw [hl7_1] at HO_7
           have hl12_1 := (Kd.R_reads' HO_12.out).1
           rw [hl12_1] at HO_12
           (try simp only [hl12_1] at HO_6)
           (try simp only [hl12_1] at HO_7)
           cases gk with
           | zero => exact absurd HA.out (by simp [whole_divide.l0])
           | succ k1 =>
            have H := HA.out
            clear HA
            simp only [whole_divide.l0] at H
            by_cases c46 : x13_1 ≥ 0
            ·rw [if_pos c46] at H
             have c46b0 : decide (0 ≤ x13_1) = true := decide_eq_true c46
             clear c46
             obtain ⟨ji47, hji47⟩ : ∃ j_ : Int, (wrap64 (x13_1 + (t255.length : Int))) = j_ := ⟨_, rfl⟩
             replace H : (if 0 ≤ (ji47) then (if (ji47) < (x7_1.length : Int) then (if 0 ≤ (wrap64 ((ji47) - 1)) then (if (wrap64 ((ji47) - 1)) < (x7_1.length : Int) then (if 0 ≤ (wrap64 ((t255.length : Int) - 1)) then (if (wrap64 ((t255.length : Int) - 1)) < (y279.length : Int) then (if (rd y279 (wrap64 ((t255.length : Int) - 1))) = 0 then (none) else (whole_divide.l1 k1 y279 x7_1 (IntKind.u64.wrap (Int.tdiv (1000000000 : Int) (IntKind.u64.wrap ((rd t255 (ji23)) + 1)))) (t255.length : Int) x12_1 x13_1 (IntKind.u64.wrap (Int.tdiv (IntKind.u64.wrap ((IntKind.u64.wrap ((rd x7_1 (ji47)) * 1000000000)) + (rd x7_1 (wrap64 ((ji47) - 1))))) (rd y279 (wrap64 ((t255.length : Int) - 1))))) (Int.tmod (IntKind.u64.wrap ((IntKind.u64.wrap ((rd x7_1 (ji47)) * 1000000000)) + (rd x7_1 (wrap64 ((ji47) - 1))))) (rd y279 (wrap64 ((t255.length : Int) - 1)))))) else (none)) else (none)) else (none)) else (none)) else (none)) else (none)) = some (r1, r2) := by first | (rw [hji47] at H; exact H) | (simp only [hji47] at H ⊢; exact H)
             have hji47w : (IntKind.i64.wrap (x13_1 + (t255.length : Int))) = ji47 := (i64_w _).trans hji47
             by_cases c48 : 0 ≤ (ji47)
             ·rw [if_pos c48] at H
              have c48b0 := decide_eq_true c48
              clear c48
              by_cases c49 : (ji47) < (x7_1.length : Int)
              ·rw [if_pos c49] at H
               have c49b0 := decide_eq_true c49
               clear c49
               obtain ⟨ji50, hji50⟩ : ∃ j_ : Int, (wrap64 ((ji47) - 1)) = j_ := ⟨_, rfl⟩
               replace H : (if 0 ≤ (ji50) then (if (ji50) < (x7_1.length : Int) then (if 0 ≤ (wrap64 ((t255.length : Int) - 1)) then (if (wrap64 ((t255.length : Int) - 1)) < (y279.length : Int) then (if (rd y279 (wrap64 ((t255.length : Int) - 1))) = 0 then (none) else (whole_divide.l1 k1 y279 x7_1 (IntKind.u64.wrap (Int.tdiv (1000000000 : Int) (IntKind.u64.wrap ((rd t255 (ji23)) + 1)))) (t255.length : Int) x12_1 x13_1 (IntKind.u64.wrap (Int.tdiv (IntKind.u64.wrap ((IntKind.u64.wrap ((rd x7_1 (ji47)) * 1000000000)) + (rd x7_1 (ji50)))) (rd y279 (wrap64 ((t255.length : Int) - 1))))) (Int.tmod (IntKind.u64.wrap ((IntKind.u64.wrap ((rd x7_1 (ji47)) * 1000000000)) + (rd x7_1 (ji50)))) (rd y279 (wrap64 ((t255.length : Int) - 1)))))) else (none)) else (none)) else (none)) else (none)) = some (r1, r2) := by first | (rw [hji50] at H; exact H) | (simp only [hji50] at H ⊢; exact H)
               have hji50w : (IntKind.i64.wrap ((ji47) - 1)) = ji50 := (i64_w _).trans hji50
               by_cases c51 : 0 ≤ (ji50)
               ·rw [if_pos c51] at H
                have c51b0 := decide_eq_true c51
                clear c51
                by_cases c52 : (ji50) < (x7_1.length : Int)
                ·rw [if_pos c52] at H
                 have c52b0 := decide_eq_true c52
                 clear c52
                 obtain ⟨ji53, hji53⟩ : ∃ j_ : Int, (wrap64 ((t255.length : Int) - 1)) = j_ := ⟨_, rfl⟩
                 replace H : (if 0 ≤ (ji53) then (if (ji53) < (y279.length : Int) then (if (rd y279 (ji53)) = 0 then (none) else (whole_divide.l1 k1 y279 x7_1 (IntKind.u64.wrap (Int.tdiv (1000000000 : Int) (IntKind.u64.wrap ((rd t255 (ji23)) + 1)))) (t255.length : Int) x12_1 x13_1 (IntKind.u64.wrap (Int.tdiv (IntKind.u64.wrap ((IntKind.u64.wrap ((rd x7_1 (ji47)) * 1000000000)) + (rd x7_1 (ji50)))) (rd y279 (ji53)))) (Int.tmod (IntKind.u64.wrap ((IntKind.u64.wrap ((rd x7_1 (ji47)) * 1000000000)) + (rd x7_1 (ji50)))) (rd y279 (ji53))))) else (none)) else (none)) = some (r1, r2) := by first | (rw [hji53] at H; exact H) | (simp only [hji53] at H ⊢; exact H)
                 have hji53w : (IntKind.i64.wrap ((t255.length : Int) - 1)) = ji53 := (i64_w _).trans hji53
                 obtain rfl : ji23 = ji53 := hji23.symm.trans hji53
                 by_cases c54 : 0 ≤ (ji23)
                 ·rw [if_pos c54] at H
                  have c54b0 := decide_eq_true c54
                  clear c54
                  by_cases c55 : (ji23) < (y279.length : Int)
                  ·rw [if_pos c55] at H
                   have c55b0 := decide_eq_true c55
                   clear c55
                   by_cases c56 : (rd y279 (ji23)) = 0
                   ·rw [if_pos c56] at H
                    exact absurd H (by simp)
                   ·rw [if_neg c56] at H
                    have c56b0 := beq_eq_false_iff_ne.mpr c56
                    have c56b1 := bne_iff_ne.mpr c56
                    have H' := Az H
                    clear H
                    have p298 : 0 ≤ ((ji47) : Int) := ode
                    have q298 : (ji47) < (x7_1.length : Int) := ode
                    obtain ⟨ad298, e298, hx298_0⟩ := Kd.at_int (Kd.R_reads' HO_7.out).2.2 (ji47) p298 q298
                    cases e298
                    replace p298 := eq_true p298
                    replace q298 := eq_true q298
                    have p299 : 0 ≤ ((ji50) : Int) := ode
                    have q299 : (ji50) < (x7_1.length : Int) := ode
                    obtain ⟨ad299, e299, hx299_0⟩ := Kd.at_int (Kd.R_reads' HO_7.out).2.2 (ji50) p299 q299
                    obtain rfl : ad298 = ad299 := (by injection e299)
                    replace p299 := eq_true p299
                    replace q299 := eq_true q299
                    have p300 : 0 ≤ ((ji23) : Int) := ode
                    have q300 : (ji23) < (y279.length : Int) := ode
                    obtain ⟨ad300, e300, hx300_0⟩ := Kd.at_int (Kd.R_reads' HO_6.out).2.2 (ji23) p300 q300
                    cases e300
                    replace p300 := eq_true p300
                    replace q300 := eq_true q300
                    have p301 : 0 ≤ ((ji23) : Int) := ode
                    have q301 : (ji23) < (y279.length : Int) := ode
                    obtain ⟨ad301, e301, hx301_0⟩ := Kd.at_int (Kd.R_reads' HO_6.out).2.2 (ji23) p301 q301
                    obtain rfl : ad300 = ad301 := (by injection e301)
                    replace p301 := eq_true p301
                    replace q301 := eq_true q301
                    go_wp2
                    repeat (go_quiet (fail); try go_wp2)
                    go_loopg [15, 16] k1 (fun kq v15 v16 w' => ∃ (x15_2 : Int) (x16_2 : Int), v15 = .int .u64 x15_2 ∧ v16 = .int .u64 x16_2 ∧ Aside0 (whole_divide.l1 kq y279 x7_1 (IntKind.u64.wrap (Int.tdiv (1000000000 : Int) (IntKind.u64.wrap ((rd t255 (ji23)) + 1)))) (t255.length : Int) x12_1 x13_1 x15_2 x16_2 = some (r1, r2)) ∧ Aside0 (kq ≤ k1) ∧ Aside0 (Kd.R (Kd.int .u64) 25 w' w.heap.size (fun k_ => (w.heap.size ≤ k_) ∧ some k_ ≠ ((.slice (some ad298) x7_1.length co42) : Value).ownBlock ∧ some k_ ≠ ((.slice Ao45 x12_1.length co45) : Value).ownBlock) (.slice (some ad300) y279.length co40) y279) ∧ Aside0 (Kd.R (Kd.int .u64) 25 w' w.heap.size (fun k_ => (w.heap.size ≤ k_) ∧ some k_ ≠ ((.slice (some ad300) y279.length co40) : Value).ownBlock ∧ some k_ ≠ ((.slice Ao45 x12_1.length co45) : Value).ownBlock) (.slice (some ad298) x7_1.length co42) x7_1) ∧ Aside0 (Kd.R (Kd.int .u64) 25 w' w.heap.size (fun k_ => (w.heap.size ≤ k_) ∧ some k_ ≠ ((.slice (some ad300) y279.length co40) : Value).ownBlock ∧ some k_ ≠ ((.slice (some ad298) x7_1.length co42) : Value).ownBlock) (.slice Ao45 x12_1.length co45) x12_1) ∧ Aside0 (Below w.heap.size w w'))
                    case atStart => exact ⟨(IntKind.u64.wrap (Int.tdiv (IntKind.u64.wrap ((IntKind.u64.wrap ((rd x7_1 (ji47)) * 1000000000)) + (rd x7_1 (ji50)))) (rd y279 (ji23)))), (Int.tmod (IntKind.u64.wrap ((IntKind.u64.wrap ((rd x7_1 (ji47)) * 1000000000)) + (rd x7_1 (ji50)))) (rd y279 (ji23))), (by first | rfl | (simp; done) | (simp only [← hji47, ← hji50, ← hji53] <;> (first | rfl | simp)) | (simp [*]; done)), (by first | rfl | (simp; done) | (simp only [← hji47, ← hji50, ← hji53] <;> (first | rfl | simp)) | (simp [*]; done)), H', ⟨Nat.le_refl _⟩, ⟨by (try simp only [hl7_1]); (try simp only [hl12_1]); (with_reducible repeat (first | apply Kd.R_alloc | apply Kd.R_drewN | apply Kd.R_drew)); exact HO_6.out⟩, ⟨by (try simp only [hl7_1]); (try simp only [hl12_1]); (with_reducible repeat (first | apply Kd.R_alloc | apply Kd.R_drewN | apply Kd.R_drew)); exact HO_7.out⟩, ⟨by (try simp only [hl7_1]); (try simp only [hl12_1]); (with_reducible repeat (first | apply Kd.R_alloc | apply Kd.R_drewN | apply Kd.R_drew)); exact HO_12.out⟩, ⟨bl HB⟩⟩
                    case round =>
                     clear H'
                     obtain ⟨x15_2, x16_2, rfl, rfl, HA, HK2, HO_6, HO_7, HO_12, HB⟩ := hrel
                     cases gk with
                     | zero => exact absurd HA.out (by simp [whole_divide.l1])
                     | succ k2 =>
                      have H := HA.out
                      clear HA
                      simp only [whole_divide.l1] at H
                      by_cases c57 : x15_2 ≥ 1000000000
                      ·rw [if_pos c57] at H
                       exact absurd H (by simp)
                      ·rw [if_neg c57] at H
                       have c57b0 : decide (1000000000 ≤ x15_2) = false := decide_eq_false c57
                       clear c57
                       by_cases c58 : x16_2 < 1000000000
                       ·rw [if_pos c58] at H
                        have c58b0 := decide_eq_true c58
                        clear c58
                        obtain ⟨ji59, hji59⟩ : ∃ j_ : Int, (wrap64 ((t255.length : Int) - 2)) = j_ := ⟨_, rfl⟩
                        replace H : (if 0 ≤ (ji59) then (if (ji59) < (y279.length : Int) then (if 0 ≤ (wrap64 ((wrap64 (x13_1 + (t255.length : Int))) - 2)) then (if (wrap64 ((wrap64 (x13_1 + (t255.length : Int))) - 2)) < (x7_1.length : Int) then (if (IntKind.u64.wrap (x15_2 * (rd y279 (ji59)))) > (IntKind.u64.wrap ((IntKind.u64.wrap (x16_2 * 1000000000)) + (rd x7_1 (wrap64 ((wrap64 (x13_1 + (t255.length : Int))) - 2))))) then (if 0 ≤ (wrap64 ((t255.length : Int) - 1)) then (if (wrap64 ((t255.length : Int) - 1)) < (y279.length : Int) then (if (IntKind.u64.wrap (x16_2 + (rd y279 (wrap64 ((t255.length : Int) - 1))))) ≥ 1000000000 then ((whole_take.f k2 x7_1 y279 x13_1 (IntKind.u64.wrap (x15_2 - 1))).bind fun bt305 => (if bt305.1 = true then (if 0 ≤ x13_1 then (if x13_1 < (x12_1.length : Int) then (whole_divide.l0 k2 y279 bt305.2 (IntKind.u64.wrap (Int.tdiv (1000000000 : Int) (IntKind.u64.wrap ((rd t255 (ji23)) + 1)))) (t255.length : Int) (x12_1.set (x13_1 : Int).toNat (IntKind.u64.wrap (x15_2 - 1))) (wrap64 (x13_1 - 1))) else (none)) else (none)) else (none))) else (whole_divide.l1 k2 y279 x7_1 (IntKind.u64.wrap (Int.tdiv (1000000000 : Int) (IntKind.u64.wrap ((rd t255 (ji23)) + 1)))) (t255.length : Int) x12_1 x13_1 (IntKind.u64.wrap (x15_2 - 1)) (IntKind.u64.wrap (x16_2 + (rd y279 (wrap64 ((t255.length : Int) - 1))))))) else (none)) else (none)) else ((whole_take.f k2 x7_1 y279 x13_1 x15_2).bind fun bt308 => (if bt308.1 = true then (if 0 ≤ x13_1 then (if x13_1 < (x12_1.length : Int) then (whole_divide.l0 k2 y279 bt308.2 (IntKind.u64.wrap (Int.tdiv (1000000000 : Int) (IntKind.u64.wrap ((rd t255 (ji23)) + 1)))) (t255.length : Int) (x12_1.set (x13_1 : Int).toNat x15_2) (wrap64 (x13_1 - 1))) else (none)) else (none)) else (none)))) else (none)) else (none)) else (none)) else (none)) = some (r1, r2) := by first | (rw [hji59] at H; exact H) | (simp only [hji59] at H ⊢; exact H)
                        have hji59w : (IntKind.i64.wrap ((t255.length : Int) - 2)) = ji59 := (i64_w _).trans hji59
                        by_cases c60 : 0 ≤ (ji59)
                        ·rw [if_pos c60] at H
                         have c60b0 := decide_eq_true c60
                         clear c60
                         by_cases c61 : (ji59) < (y279.length : Int)
                         ·rw [if_pos c61] at H
                          have c61b0 := decide_eq_true c61
                          clear c61
                          obtain ⟨ji62, hji62⟩ : ∃ j_ : Int, (wrap64 ((wrap64 (x13_1 + (t255.length : Int))) - 2)) = j_ := ⟨_, rfl⟩
                          replace H : (if 0 ≤ (ji62) then (if (ji62) < (x7_1.length : Int) then (if (IntKind.u64.wrap (x15_2 * (rd y279 (ji59)))) > (IntKind.u64.wrap ((IntKind.u64.wrap (x16_2 * 1000000000)) + (rd x7_1 (ji62)))) then (if 0 ≤ (wrap64 ((t255.length : Int) - 1)) then (if (wrap64 ((t255.length : Int) - 1)) < (y279.length : Int) then (if (IntKind.u64.wrap (x16_2 + (rd y279 (wrap64 ((t255.length : Int) - 1))))) ≥ 1000000000 then ((whole_take.f k2 x7_1 y279 x13_1 (IntKind.u64.wrap (x15_2 - 1))).bind fun bt305 => (if bt305.1 = true then (if 0 ≤ x13_1 then (if x13_1 < (x12_1.length : Int) then (whole_divide.l0 k2 y279 bt305.2 (IntKind.u64.wrap (Int.tdiv (1000000000 : Int) (IntKind.u64.wrap ((rd t255 (ji23)) + 1)))) (t255.length : Int) (x12_1.set (x13_1 : Int).toNat (IntKind.u64.wrap (x15_2 - 1))) (wrap64 (x13_1 - 1))) else (none)) else (none)) else (none))) else (whole_divide.l1 k2 y279 x7_1 (IntKind.u64.wrap (Int.tdiv (1000000000 : Int) (IntKind.u64.wrap ((rd t255 (ji23)) + 1)))) (t255.length : Int) x12_1 x13_1 (IntKind.u64.wrap (x15_2 - 1)) (IntKind.u64.wrap (x16_2 + (rd y279 (wrap64 ((t255.length : Int) - 1))))))) else (none)) else (none)) else ((whole_take.f k2 x7_1 y279 x13_1 x15_2).bind fun bt308 => (if bt308.1 = true then (if 0 ≤ x13_1 then (if x13_1 < (x12_1.length : Int) then (whole_divide.l0 k2 y279 bt308.2 (IntKind.u64.wrap (Int.tdiv (1000000000 : Int) (IntKind.u64.wrap ((rd t255 (ji23)) + 1)))) (t255.length : Int) (x12_1.set (x13_1 : Int).toNat x15_2) (wrap64 (x13_1 - 1))) else (none)) else (none)) else (none)))) else (none)) else (none)) = some (r1, r2) := by first | (rw [hji62] at H; exact H) | (simp only [hji62] at H ⊢; exact H)
                          have hji62w : (IntKind.i64.wrap ((wrap64 (x13_1 + (t255.length : Int))) - 2)) = ji62 := (i64_w _).trans hji62
                          have hji62v : (IntKind.i64.wrap (ji47 - 2)) = ji62 := by rw [← hji47]; exact hji62w
                          by_cases c63 : 0 ≤ (ji62)
                          ·rw [if_pos c63] at H
                           have c63b0 := decide_eq_true c63
                           clear c63
                           by_cases c64 : (ji62) < (x7_1.length : Int)
                           ·rw [if_pos c64] at H
                            have c64b0 := decide_eq_true c64
                            clear c64
                            by_cases c65 : (IntKind.u64.wrap (x15_2 * (rd y279 (ji59)))) > (IntKind.u64.wrap ((IntKind.u64.wrap (x16_2 * 1000000000)) + (rd x7_1 (ji62))))
                            ·rw [if_pos c65] at H
                             have c65b0 : decide ((IntKind.u64.wrap ((IntKind.u64.wrap (x16_2 * 1000000000)) + (rd x7_1 (ji62)))) < (IntKind.u64.wrap (x15_2 * (rd y279 (ji59))))) = true := decide_eq_true c65
                             clear c65
                             obtain ⟨ji66, hji66⟩ : ∃ j_ : Int, (wrap64 ((t255.length : Int) - 1)) = j_ := ⟨_, rfl⟩
                             replace H : (if 0 ≤ (ji66) then (if (ji66) < (y279.length : Int) then (if (IntKind.u64.wrap (x16_2 + (rd y279 (ji66)))) ≥ 1000000000 then ((whole_take.f k2 x7_1 y279 x13_1 (IntKind.u64.wrap (x15_2 - 1))).bind fun bt305 => (if bt305.1 = true then (if 0 ≤ x13_1 then (if x13_1 < (x12_1.length : Int) then (whole_divide.l0 k2 y279 bt305.2 (IntKind.u64.wrap (Int.tdiv (1000000000 : Int) (IntKind.u64.wrap ((rd t255 (ji23)) + 1)))) (t255.length : Int) (x12_1.set (x13_1 : Int).toNat (IntKind.u64.wrap (x15_2 - 1))) (wrap64 (x13_1 - 1))) else (none)) else (none)) else (none))) else (whole_divide.l1 k2 y279 x7_1 (IntKind.u64.wrap (Int.tdiv (1000000000 : Int) (IntKind.u64.wrap ((rd t255 (ji23)) + 1)))) (t255.length : Int) x12_1 x13_1 (IntKind.u64.wrap (x15_2 - 1)) (IntKind.u64.wrap (x16_2 + (rd y279 (ji66)))))) else (none)) else (none)) = some (r1, r2) := by first | (rw [hji66] at H; exact H) | (simp only [hji66] at H ⊢; exact H)
                             have hji66w : (IntKind.i64.wrap ((t255.length : Int) - 1)) = ji66 := (i64_w _).trans hji66
                             obtain rfl : ji23 = ji66 := hji23.symm.trans hji66
                             by_cases c67 : 0 ≤ (ji23)
                             ·rw [if_pos c67] at H
                              have c67b0 := decide_eq_true c67
                              clear c67
                              by_cases c68 : (ji23) < (y279.length : Int)
                              ·rw [if_pos c68] at H
                               have c68b0 := decide_eq_true c68
                               clear c68
                               by_cases c69 : (IntKind.u64.wrap (x16_2 + (rd y279 (ji23)))) ≥ 1000000000
                               ·rw [if_pos c69] at H
                                have c69b0 : decide (1000000000 ≤ (IntKind.u64.wrap (x16_2 + (rd y279 (ji23))))) = true := decide_eq_true c69
                                clear c69
                                obtain ⟨⟨t305, t306⟩, A70, H⟩ := bd H
                                (try dsimp only at H)
                                by_cases c71 : t305 = true
                                ·subst c71
                                 rw [if_pos rfl] at H
                                 by_cases c72 : 0 ≤ x13_1
                                 ·rw [if_pos c72] at H
                                  have c72b0 := decide_eq_true c72
                                  clear c72
                                  by_cases c73 : x13_1 < (x12_1.length : Int)
                                  ·rw [if_pos c73] at H
                                   have c73b0 := decide_eq_true c73
                                   clear c73
                                   obtain ⟨y307, hy307⟩ : ∃ y_ : List Int, y_ = (x12_1.set (x13_1 : Int).toNat (IntKind.u64.wrap (x15_2 - 1))) := ⟨_, rfl⟩
                                   replace H : (whole_divide.l0 k2 y279 t306 (IntKind.u64.wrap (Int.tdiv (1000000000 : Int) (IntKind.u64.wrap ((rd t255 (ji23)) + 1)))) (t255.length : Int) y307 (wrap64 (x13_1 - 1))) = some (r1, r2) := by rw [hy307]; exact H
                                   have Ny307 := Az hy307
                                   clear hy307
                                   have H' := Az H
                                   clear H
                                   have p302 : 0 ≤ ((ji59) : Int) := ode
                                   have q302 : (ji59) < (y279.length : Int) := ode
                                   obtain ⟨ad302, e302, hx302_0⟩ := Kd.at_int (Kd.R_reads' HO_6.out).2.2 (ji59) p302 q302
                                   obtain rfl : ad300 = ad302 := (by injection e302)
                                   replace p302 := eq_true p302
                                   replace q302 := eq_true q302
                                   have p303 : 0 ≤ ((ji62) : Int) := ode
                                   have q303 : (ji62) < (x7_1.length : Int) := ode
                                   obtain ⟨ad303, e303, hx303_0⟩ := Kd.at_int (Kd.R_reads' HO_7.out).2.2 (ji62) p303 q303
                                   obtain rfl : ad298 = ad303 := (by injection e303)
                                   replace p303 := eq_true p303
                                   replace q303 := eq_true q303
                                   have p304 : 0 ≤ ((ji23) : Int) := ode
                                   have q304 : (ji23) < (y279.length : Int) := ode
                                   obtain ⟨ad304, e304, hx304_0⟩ := Kd.at_int (Kd.R_reads' HO_6.out).2.2 (ji23) p304 q304
                                   obtain rfl : ad300 = ad304 := (by injection e304)
                                   replace p304 := eq_true p304
                                   replace q304 := eq_true q304
                                   go_wp2_with (first | (go_at_call 149; (with_reducible refine (whole_take.calls k2 (fun k_ => some k_ = (.slice (some ad298) x7_1.length co42 : Value).ownBlock) (.slice (some ad298) x7_1.length co42) x7_1 _ _ y279 x13_1 (IntKind.u64.wrap (x15_2 - 1)) true t306 w _ ?side1 ?side2 ?side3 (Kd.R_reads' HO_6.out).2.1 A70.out).mono ?_); (case side1 => repeat (first | (with_reducible first | exact HB.out | apply below_alloc | apply pw_below_drewN | apply below_drew1) | exact HB.out)); (case side2 => exact Kd.R_tight rfl HO_7.out); (case side3 => exact Kd.C_kept_own (HO_6.out) (fun k_ hk_ hs_ => (hk_.2.1) hs_)); rintro e w75 ⟨rfl, hy0, hb, hkp⟩; replace HO_6 := Az (Kd.R_mono (ok' := fun k_ => (w.heap.size ≤ k_) ∧ some k_ ≠ (.slice (some ad298) x7_1.length co42 : Value).ownBlock ∧ some k_ ≠ (.slice Ao45 x12_1.length co45 : Value).ownBlock) (Kd.R_keptB (HO_6.out) hkp (fun k_ hk_ hs_ => (hk_.2.1) hs_)) (fun k_ hk_ => ⟨hk_.1.1, hk_.1.2.1, hk_.1.2.2⟩)); replace HO_7 := Az (Kd.R_reok rfl hy0 (fun k_ e_ => HO_7.out.1 k_ e_)); replace HO_12 := Az (Kd.R_mono (ok' := fun k_ => (w.heap.size ≤ k_) ∧ some k_ ≠ (.slice (some ad300) y279.length co40 : Value).ownBlock ∧ some k_ ≠ (.slice (some ad298) x7_1.length co42 : Value).ownBlock) (Kd.R_keptB (HO_12.out) hkp (fun k_ hk_ hs_ => (hk_.2.2) hs_)) (fun k_ hk_ => ⟨hk_.1.1, hk_.1.2.1, hk_.1.2.2⟩)); replace HB := Az (hb); have p74 : 0 ≤ (x13_1 : Int) := ode; have q74 : (x13_1 : Int) < ((x12_1.length : Int) : Int) := ode; obtain ⟨go74, co74, eo74, gb74, gl74, cl74, HG74⟩ := Kd.R_form HO_12.out (by omega); (first | cases eo74 | (injection eo74 with ea_ en_ ec_; (first | subst ea_ | (injection ea_ with ea_; subst ea_)); subst ec_; clear en_)); have GB74 := Az gb74; have GG74 := Az HG74; clear gb74 gl74 HG74; obtain ⟨hx74_0, hf74_0⟩ := Kd.R_celln 0 HO_12.out (x13_1 : Int) p74 q74; replace p74 := eq_true p74; replace q74 := eq_true q74; obtain ⟨hy76_, hz76_⟩ := Kd.R_celln 0 HO_12.out (x13_1 : Int) (ode) (ode); have HP76 := Kd.R_putg HO_12.out (x13_1 : Int) (IntKind.u64.wrap (x15_2 - 1))) | ((with_reducible refine gate_store (t := 25) (p := 151) rfl ?_); (try (rw [drewN_self w75]; generalize hq_ : World.drewN w75 _ = w75; have n0_ := Az (Kd.R_at hq_ HO_6.out); have n1_ := Az (Kd.R_at hq_ HO_7.out); have n2_ := Az (Kd.R_at hq_ HO_12.out); have n3_ := Az (below_at hq_ HB.out); clear hq_ HO_6 HO_7 HO_12 HB; have HO_6 := n0_; have HO_7 := n1_; have HO_12 := n2_; have HB := n3_; clear n0_ n1_ n2_ n3_; (try (obtain ⟨hy76_, hz76_⟩ := Kd.R_celln 0 HO_12.out (x13_1 : Int) (ode) (ode))); (try (have HP76 := Kd.R_putg HO_12.out (x13_1 : Int) (IntKind.u64.wrap (x15_2 - 1)))))); refine store_event (t := 25) (p := 151) (v := ?vo_w77) (w1 := (w75.setCell ⟨go74, (x13_1 : Int).toNat, none⟩ (.int .u64 (IntKind.u64.wrap (x15_2 - 1))))) ?hg ?ho ?hn ?hr ?_; (case ho => rfl); (case hg => rfl); (case hn => rfl); (case hr => first | (go_simp; done) | (go_simp; rfl)); intro w77 hw; have hg : w75.grownBy w77 (some go74) := (by rw [hw]; exact HP76.2); have hp_ : Kd.R (Kd.int .u64) 25 w77 w.heap.size (fun k_ => (w.heap.size ≤ k_) ∧ some k_ ≠ (.slice (some ad300) y279.length co40 : Value).ownBlock ∧ some k_ ≠ (.slice (some ad298) x7_1.length co42 : Value).ownBlock) (.slice (some ⟨go74, 0, none⟩) x12_1.length co45) y307 := (by rw [hw, Ny307.out]; exact HP76.1); clear HP76; replace HO_6 := Az (Kd.R_after (v := (.slice (some ⟨go74, 0, none⟩) x12_1.length co45)) (v1 := (.slice (some ⟨go74, 0, none⟩) x12_1.length co45)) (ok := (fun k_ => (w.heap.size ≤ k_) ∧ some k_ ≠ (.slice (some ad298) x7_1.length co42 : Value).ownBlock)) (rt (Kd.R_mono HO_6.out (fun _ hk => ⟨⟨hk.1, hk.2.1⟩, hk.2.2⟩))) hg (.inl rfl)); replace HO_7 := Az (Kd.R_after (v := (.slice (some ⟨go74, 0, none⟩) x12_1.length co45)) (v1 := (.slice (some ⟨go74, 0, none⟩) x12_1.length co45)) (ok := (fun k_ => (w.heap.size ≤ k_) ∧ some k_ ≠ (.slice (some ad300) y279.length co40 : Value).ownBlock)) (rt (Kd.R_mono HO_7.out (fun _ hk => ⟨⟨hk.1, hk.2.1⟩, hk.2.2⟩))) hg (.inl rfl)); replace HO_12 := Az (hp_); replace HB := Az ((by rw [hw]; exact below_set (HB.out) GB74.out : Below w.heap.size w w77)); clear hg hw hp_))
                                   repeat (go_quiet (first | (go_at_call 149; (with_reducible refine (whole_take.calls k2 (fun k_ => some k_ = (.slice (some ad298) x7_1.length co42 : Value).ownBlock) (.slice (some ad298) x7_1.length co42) x7_1 _ _ y279 x13_1 (IntKind.u64.wrap (x15_2 - 1)) true t306 w _ ?side1 ?side2 ?side3 (Kd.R_reads' HO_6.out).2.1 A70.out).mono ?_); (case side1 => repeat (first | (with_reducible first | exact HB.out | apply below_alloc | apply pw_below_drewN | apply below_drew1) | exact HB.out)); (case side2 => exact Kd.R_tight rfl HO_7.out); (case side3 => exact Kd.C_kept_own (HO_6.out) (fun k_ hk_ hs_ => (hk_.2.1) hs_)); rintro e w75 ⟨rfl, hy0, hb, hkp⟩; replace HO_6 := Az (Kd.R_mono (ok' := fun k_ => (w.heap.size ≤ k_) ∧ some k_ ≠ (.slice (some ad298) x7_1.length co42 : Value).ownBlock ∧ some k_ ≠ (.slice Ao45 x12_1.length co45 : Value).ownBlock) (Kd.R_keptB (HO_6.out) hkp (fun k_ hk_ hs_ => (hk_.2.1) hs_)) (fun k_ hk_ => ⟨hk_.1.1, hk_.1.2.1, hk_.1.2.2⟩)); replace HO_7 := Az (Kd.R_reok rfl hy0 (fun k_ e_ => HO_7.out.1 k_ e_)); replace HO_12 := Az (Kd.R_mono (ok' := fun k_ => (w.heap.size ≤ k_) ∧ some k_ ≠ (.slice (some ad300) y279.length co40 : Value).ownBlock ∧ some k_ ≠ (.slice (some ad298) x7_1.length co42 : Value).ownBlock) (Kd.R_keptB (HO_12.out) hkp (fun k_ hk_ hs_ => (hk_.2.2) hs_)) (fun k_ hk_ => ⟨hk_.1.1, hk_.1.2.1, hk_.1.2.2⟩)); replace HB := Az (hb); have p74 : 0 ≤ (x13_1 : Int) := ode; have q74 : (x13_1 : Int) < ((x12_1.length : Int) : Int) := ode; obtain ⟨go74, co74, eo74, gb74, gl74, cl74, HG74⟩ := Kd.R_form HO_12.out (by omega); (first | cases eo74 | (injection eo74 with ea_ en_ ec_; (first | subst ea_ | (injection ea_ with ea_; subst ea_)); subst ec_; clear en_)); have GB74 := Az gb74; have GG74 := Az HG74; clear gb74 gl74 HG74; obtain ⟨hx74_0, hf74_0⟩ := Kd.R_celln 0 HO_12.out (x13_1 : Int) p74 q74; replace p74 := eq_true p74; replace q74 := eq_true q74; obtain ⟨hy76_, hz76_⟩ := Kd.R_celln 0 HO_12.out (x13_1 : Int) (ode) (ode); have HP76 := Kd.R_putg HO_12.out (x13_1 : Int) (IntKind.u64.wrap (x15_2 - 1))) | ((with_reducible refine gate_store (t := 25) (p := 151) rfl ?_); (try (rw [drewN_self w75]; generalize hq_ : World.drewN w75 _ = w75; have n0_ := Az (Kd.R_at hq_ HO_6.out); have n1_ := Az (Kd.R_at hq_ HO_7.out); have n2_ := Az (Kd.R_at hq_ HO_12.out); have n3_ := Az (below_at hq_ HB.out); clear hq_ HO_6 HO_7 HO_12 HB; have HO_6 := n0_; have HO_7 := n1_; have HO_12 := n2_; have HB := n3_; clear n0_ n1_ n2_ n3_; (try (obtain ⟨hy76_, hz76_⟩ := Kd.R_celln 0 HO_12.out (x13_1 : Int) (ode) (ode))); (try (have HP76 := Kd.R_putg HO_12.out (x13_1 : Int) (IntKind.u64.wrap (x15_2 - 1)))))); refine store_event (t := 25) (p := 151) (v := ?vo_w77) (w1 := (w75.setCell ⟨go74, (x13_1 : Int).toNat, none⟩ (.int .u64 (IntKind.u64.wrap (x15_2 - 1))))) ?hg ?ho ?hn ?hr ?_; (case ho => rfl); (case hg => rfl); (case hn => rfl); (case hr => first | (go_simp; done) | (go_simp; rfl)); intro w77 hw; have hg : w75.grownBy w77 (some go74) := (by rw [hw]; exact HP76.2); have hp_ : Kd.R (Kd.int .u64) 25 w77 w.heap.size (fun k_ => (w.heap.size ≤ k_) ∧ some k_ ≠ (.slice (some ad300) y279.length co40 : Value).ownBlock ∧ some k_ ≠ (.slice (some ad298) x7_1.length co42 : Value).ownBlock) (.slice (some ⟨go74, 0, none⟩) x12_1.length co45) y307 := (by rw [hw, Ny307.out]; exact HP76.1); clear HP76; replace HO_6 := Az (Kd.R_after (v := (.slice (some ⟨go74, 0, none⟩) x12_1.length co45)) (v1 := (.slice (some ⟨go74, 0, none⟩) x12_1.length co45)) (ok := (fun k_ => (w.heap.size ≤ k_) ∧ some k_ ≠ (.slice (some ad298) x7_1.length co42 : Value).ownBlock)) (rt (Kd.R_mono HO_6.out (fun _ hk => ⟨⟨hk.1, hk.2.1⟩, hk.2.2⟩))) hg (.inl rfl)); replace HO_7 := Az (Kd.R_after (v := (.slice (some ⟨go74, 0, none⟩) x12_1.length co45)) (v1 := (.slice (some ⟨go74, 0, none⟩) x12_1.length co45)) (ok := (fun k_ => (w.heap.size ≤ k_) ∧ some k_ ≠ (.slice (some ad300) y279.length co40 : Value).ownBlock)) (rt (Kd.R_mono HO_7.out (fun _ hk => ⟨⟨hk.1, hk.2.1⟩, hk.2.2⟩))) hg (.inl rfl)); replace HO_12 := Az (hp_); replace HB := Az ((by rw [hw]; exact below_set (HB.out) GB74.out : Below w.heap.size w w77)); clear hg hw hp_)); try go_wp2_with (first | (go_at_call 149; (with_reducible refine (whole_take.calls k2 (fun k_ => some k_ = (.slice (some ad298) x7_1.length co42 : Value).ownBlock) (.slice (some ad298) x7_1.length co42) x7_1 _ _ y279 x13_1 (IntKind.u64.wrap (x15_2 - 1)) true t306 w _ ?side1 ?side2 ?side3 (Kd.R_reads' HO_6.out).2.1 A70.out).mono ?_); (case side1 => repeat (first | (with_reducible first | exact HB.out | apply below_alloc | apply pw_below_drewN | apply below_drew1) | exact HB.out)); (case side2 => exact Kd.R_tight rfl HO_7.out); (case side3 => exact Kd.C_kept_own (HO_6.out) (fun k_ hk_ hs_ => (hk_.2.1) hs_)); rintro e w75 ⟨rfl, hy0, hb, hkp⟩; replace HO_6 := Az (Kd.R_mono (ok' := fun k_ => (w.heap.size ≤ k_) ∧ some k_ ≠ (.slice (some ad298) x7_1.length co42 : Value).ownBlock ∧ some k_ ≠ (.slice Ao45 x12_1.length co45 : Value).ownBlock) (Kd.R_keptB (HO_6.out) hkp (fun k_ hk_ hs_ => (hk_.2.1) hs_)) (fun k_ hk_ => ⟨hk_.1.1, hk_.1.2.1, hk_.1.2.2⟩)); replace HO_7 := Az (Kd.R_reok rfl hy0 (fun k_ e_ => HO_7.out.1 k_ e_)); replace HO_12 := Az (Kd.R_mono (ok' := fun k_ => (w.heap.size ≤ k_) ∧ some k_ ≠ (.slice (some ad300) y279.length co40 : Value).ownBlock ∧ some k_ ≠ (.slice (some ad298) x7_1.length co42 : Value).ownBlock) (Kd.R_keptB (HO_12.out) hkp (fun k_ hk_ hs_ => (hk_.2.2) hs_)) (fun k_ hk_ => ⟨hk_.1.1, hk_.1.2.1, hk_.1.2.2⟩)); replace HB := Az (hb); have p74 : 0 ≤ (x13_1 : Int) := ode; have q74 : (x13_1 : Int) < ((x12_1.length : Int) : Int) := ode; obtain ⟨go74, co74, eo74, gb74, gl74, cl74, HG74⟩ := Kd.R_form HO_12.out (by omega); (first | cases eo74 | (injection eo74 with ea_ en_ ec_; (first | subst ea_ | (injection ea_ with ea_; subst ea_)); subst ec_; clear en_)); have GB74 := Az gb74; have GG74 := Az HG74; clear gb74 gl74 HG74; obtain ⟨hx74_0, hf74_0⟩ := Kd.R_celln 0 HO_12.out (x13_1 : Int) p74 q74; replace p74 := eq_true p74; replace q74 := eq_true q74; obtain ⟨hy76_, hz76_⟩ := Kd.R_celln 0 HO_12.out (x13_1 : Int) (ode) (ode); have HP76 := Kd.R_putg HO_12.out (x13_1 : Int) (IntKind.u64.wrap (x15_2 - 1))) | ((with_reducible refine gate_store (t := 25) (p := 151) rfl ?_); (try (rw [drewN_self w75]; generalize hq_ : World.drewN w75 _ = w75; have n0_ := Az (Kd.R_at hq_ HO_6.out); have n1_ := Az (Kd.R_at hq_ HO_7.out); have n2_ := Az (Kd.R_at hq_ HO_12.out); have n3_ := Az (below_at hq_ HB.out); clear hq_ HO_6 HO_7 HO_12 HB; have HO_6 := n0_; have HO_7 := n1_; have HO_12 := n2_; have HB := n3_; clear n0_ n1_ n2_ n3_; (try (obtain ⟨hy76_, hz76_⟩ := Kd.R_celln 0 HO_12.out (x13_1 : Int) (ode) (ode))); (try (have HP76 := Kd.R_putg HO_12.out (x13_1 : Int) (IntKind.u64.wrap (x15_2 - 1)))))); refine store_event (t := 25) (p := 151) (v := ?vo_w77) (w1 := (w75.setCell ⟨go74, (x13_1 : Int).toNat, none⟩ (.int .u64 (IntKind.u64.wrap (x15_2 - 1))))) ?hg ?ho ?hn ?hr ?_; (case ho => rfl); (case hg => rfl); (case hn => rfl); (case hr => first | (go_simp; done) | (go_simp; rfl)); intro w77 hw; have hg : w75.grownBy w77 (some go74) := (by rw [hw]; exact HP76.2); have hp_ : Kd.R (Kd.int .u64) 25 w77 w.heap.size (fun k_ => (w.heap.size ≤ k_) ∧ some k_ ≠ (.slice (some ad300) y279.length co40 : Value).ownBlock ∧ some k_ ≠ (.slice (some ad298) x7_1.length co42 : Value).ownBlock) (.slice (some ⟨go74, 0, none⟩) x12_1.length co45) y307 := (by rw [hw, Ny307.out]; exact HP76.1); clear HP76; replace HO_6 := Az (Kd.R_after (v := (.slice (some ⟨go74, 0, none⟩) x12_1.length co45)) (v1 := (.slice (some ⟨go74, 0, none⟩) x12_1.length co45)) (ok := (fun k_ => (w.heap.size ≤ k_) ∧ some k_ ≠ (.slice (some ad298) x7_1.length co42 : Value).ownBlock)) (rt (Kd.R_mono HO_6.out (fun _ hk => ⟨⟨hk.1, hk.2.1⟩, hk.2.2⟩))) hg (.inl rfl)); replace HO_7 := Az (Kd.R_after (v := (.slice (some ⟨go74, 0, none⟩) x12_1.length co45)) (v1 := (.slice (some ⟨go74, 0, none⟩) x12_1.length co45)) (ok := (fun k_ => (w.heap.size ≤ k_) ∧ some k_ ≠ (.slice (some ad300) y279.length co40 : Value).ownBlock)) (rt (Kd.R_mono HO_7.out (fun _ hk => ⟨⟨hk.1, hk.2.1⟩, hk.2.2⟩))) hg (.inl rfl)); replace HO_12 := Az (hp_); replace HB := Az ((by rw [hw]; exact below_set (HB.out) GB74.out : Below w.heap.size w w77)); clear hg hw hp_)))
                                   (try simp only [← hl7_1, ← hl12_1])
                                   go_roundg k2
                                   case measure => have := HK1.out; have := HK2.out; omega
                                   case rel => exact ⟨(t306), (y307), (wrap64 (x13_1 - 1)), rs, H', ⟨by have := HK1.out; have := HK2.out; omega⟩, ⟨by (try simp only [hl7_1]); (try simp only [hl12_1]); (with_reducible repeat (first | apply Kd.R_alloc | apply Kd.R_drewN | apply Kd.R_drew)); exact Kd.R_mono HO_6.out (fun _ hk => ⟨hk.1.1, ⟨hk.1.2, hk.2⟩⟩)⟩, ⟨by (try simp only [hl7_1]); (try simp only [hl12_1]); (with_reducible repeat (first | apply Kd.R_alloc | apply Kd.R_drewN | apply Kd.R_drew)); exact Kd.R_mono HO_7.out (fun _ hk => ⟨hk.1.1, ⟨hk.1.2, hk.2⟩⟩)⟩, ⟨by (try simp only [hl7_1]); (try simp only [hl12_1]); (with_reducible repeat (first | apply Kd.R_alloc | apply Kd.R_drewN | apply Kd.R_drew)); exact HO_12.out⟩, ⟨bl HB⟩⟩
                                  ·rw [if_neg c73] at H
                                   exact absurd H (by simp)
                                 ·rw [if_neg c72] at H
                                  exact absurd H (by simp)
                                ·replace c71 := Bool.eq_false_iff.mpr c71
                                 subst c71
                                 rw [if_neg Bool.false_ne_true] at H
                                 exact absurd H (by simp)
                               ·rw [if_neg c69] at H
                                have c69b0 : decide (1000000000 ≤ (IntKind.u64.wrap (x16_2 + (rd y279 (ji23))))) = false := decide_eq_false c69
                                clear c69
                                have H' := Az H
                                clear H
                                have p302 : 0 ≤ ((ji59) : Int) := ode
                                have q302 : (ji59) < (y279.length : Int) := ode
                                obtain ⟨ad302, e302, hx302_0⟩ := Kd.at_int (Kd.R_reads' HO_6.out).2.2 (ji59) p302 q302
                                obtain rfl : ad300 = ad302 := (by injection e302)
                                replace p302 := eq_true p302
                                replace q302 := eq_true q302
                                have p303 : 0 ≤ ((ji62) : Int) := ode
                                have q303 : (ji62) < (x7_1.length : Int) := ode
                                obtain ⟨ad303, e303, hx303_0⟩ := Kd.at_int (Kd.R_reads' HO_7.out).2.2 (ji62) p303 q303
                                obtain rfl : ad298 = ad303 := (by injection e303)
                                replace p303 := eq_true p303
                                replace q303 := eq_true q303
                                have p304 : 0 ≤ ((ji23) : Int) := ode
                                have q304 : (ji23) < (y279.length : Int) := ode
                                obtain ⟨ad304, e304, hx304_0⟩ := Kd.at_int (Kd.R_reads' HO_6.out).2.2 (ji23) p304 q304
                                obtain rfl : ad300 = ad304 := (by injection e304)
                                replace p304 := eq_true p304
                                replace q304 := eq_true q304
                                go_wp2
                                repeat (go_quiet (fail); try go_wp2)
                                go_roundg k2
                                case measure => have := HK1.out; have := HK2.out; omega
                                case rel => exact ⟨(IntKind.u64.wrap (x15_2 - 1)), (IntKind.u64.wrap (x16_2 + (rd y279 (ji23)))), rs, (by first | rfl | (simp; done) | (simp only [← hji66] <;> (first | rfl | simp)) | (simp [*]; done)), H', ⟨by have := HK1.out; have := HK2.out; omega⟩, ⟨by (try simp only [hl7_1]); (try simp only [hl12_1]); (with_reducible repeat (first | apply Kd.R_alloc | apply Kd.R_drewN | apply Kd.R_drew)); exact HO_6.out⟩, ⟨by (try simp only [hl7_1]); (try simp only [hl12_1]); (with_reducible repeat (first | apply Kd.R_alloc | apply Kd.R_drewN | apply Kd.R_drew)); exact HO_7.out⟩, ⟨by (try simp only [hl7_1]); (try simp only [hl12_1]); (with_reducible repeat (first | apply Kd.R_alloc | apply Kd.R_drewN | apply Kd.R_drew)); exact HO_12.out⟩, ⟨bl HB⟩⟩
                              ·rw [if_neg c68] at H
                               exact absurd H (by simp)
                             ·rw [if_neg c67] at H
                              exact absurd H (by simp)
                            ·rw [if_neg c65] at H
                             have c65b0 : decide ((IntKind.u64.wrap ((IntKind.u64.wrap (x16_2 * 1000000000)) + (rd x7_1 (ji62)))) < (IntKind.u64.wrap (x15_2 * (rd y279 (ji59))))) = false := decide_eq_false c65
                             clear c65
                             obtain ⟨⟨t308, t309⟩, A78, H⟩ := bd H
                             (try dsimp only at H)
                             by_cases c79 : t308 = true
                             ·subst c79
                              rw [if_pos rfl] at H
                              by_cases c80 : 0 ≤ x13_1
                              ·rw [if_pos c80] at H
                               have c80b0 := decide_eq_true c80
                               clear c80
                               by_cases c81 : x13_1 < (x12_1.length : Int)
                               ·rw [if_pos c81] at H
                                have c81b0 := decide_eq_true c81
                                clear c81
                                obtain ⟨y310, hy310⟩ : ∃ y_ : List Int, y_ = (x12_1.set (x13_1 : Int).toNat x15_2) := ⟨_, rfl⟩
                                replace H : (whole_divide.l0 k2 y279 t309 (IntKind.u64.wrap (Int.tdiv (1000000000 : Int) (IntKind.u64.wrap ((rd t255 (ji23)) + 1)))) (t255.length : Int) y310 (wrap64 (x13_1 - 1))) = some (r1, r2) := by rw [hy310]; exact H
                                have Ny310 := Az hy310
                                clear hy310
                                have H' := Az H
                                clear H
                                have p302 : 0 ≤ ((ji59) : Int) := ode
                                have q302 : (ji59) < (y279.length : Int) := ode
                                obtain ⟨ad302, e302, hx302_0⟩ := Kd.at_int (Kd.R_reads' HO_6.out).2.2 (ji59) p302 q302
                                obtain rfl : ad300 = ad302 := (by injection e302)
                                replace p302 := eq_true p302
                                replace q302 := eq_true q302
                                have p303 : 0 ≤ ((ji62) : Int) := ode
                                have q303 : (ji62) < (x7_1.length : Int) := ode
                                obtain ⟨ad303, e303, hx303_0⟩ := Kd.at_int (Kd.R_reads' HO_7.out).2.2 (ji62) p303 q303
                                obtain rfl : ad298 = ad303 := (by injection e303)
                                replace p303 := eq_true p303
                                replace q303 := eq_true q303
                                go_wp2_with (first | (go_at_call 149; (with_reducible refine (whole_take.calls k2 (fun k_ => some k_ = (.slice (some ad298) x7_1.length co42 : Value).ownBlock) (.slice (some ad298) x7_1.length co42) x7_1 _ _ y279 x13_1 x15_2 true t309 w _ ?side1 ?side2 ?side3 (Kd.R_reads' HO_6.out).2.1 A78.out).mono ?_); (case side1 => repeat (first | (with_reducible first | exact HB.out | apply below_alloc | apply pw_below_drewN | apply below_drew1) | exact HB.out)); (case side2 => exact Kd.R_tight rfl HO_7.out); (case side3 => exact Kd.C_kept_own (HO_6.out) (fun k_ hk_ hs_ => (hk_.2.1) hs_)); rintro e w83 ⟨rfl, hy0, hb, hkp⟩; replace HO_6 := Az (Kd.R_mono (ok' := fun k_ => (w.heap.size ≤ k_) ∧ some k_ ≠ (.slice (some ad298) x7_1.length co42 : Value).ownBlock ∧ some k_ ≠ (.slice Ao45 x12_1.length co45 : Value).ownBlock) (Kd.R_keptB (HO_6.out) hkp (fun k_ hk_ hs_ => (hk_.2.1) hs_)) (fun k_ hk_ => ⟨hk_.1.1, hk_.1.2.1, hk_.1.2.2⟩)); replace HO_7 := Az (Kd.R_reok rfl hy0 (fun k_ e_ => HO_7.out.1 k_ e_)); replace HO_12 := Az (Kd.R_mono (ok' := fun k_ => (w.heap.size ≤ k_) ∧ some k_ ≠ (.slice (some ad300) y279.length co40 : Value).ownBlock ∧ some k_ ≠ (.slice (some ad298) x7_1.length co42 : Value).ownBlock) (Kd.R_keptB (HO_12.out) hkp (fun k_ hk_ hs_ => (hk_.2.2) hs_)) (fun k_ hk_ => ⟨hk_.1.1, hk_.1.2.1, hk_.1.2.2⟩)); replace HB := Az (hb); have p82 : 0 ≤ (x13_1 : Int) := ode; have q82 : (x13_1 : Int) < ((x12_1.length : Int) : Int) := ode; obtain ⟨go82, co82, eo82, gb82, gl82, cl82, HG82⟩ := Kd.R_form HO_12.out (by omega); (first | cases eo82 | (injection eo82 with ea_ en_ ec_; (first | subst ea_ | (injection ea_ with ea_; subst ea_)); subst ec_; clear en_)); have GB82 := Az gb82; have GG82 := Az HG82; clear gb82 gl82 HG82; obtain ⟨hx82_0, hf82_0⟩ := Kd.R_celln 0 HO_12.out (x13_1 : Int) p82 q82; replace p82 := eq_true p82; replace q82 := eq_true q82; obtain ⟨hy84_, hz84_⟩ := Kd.R_celln 0 HO_12.out (x13_1 : Int) (ode) (ode); have HP84 := Kd.R_putg HO_12.out (x13_1 : Int) x15_2) | ((with_reducible refine gate_store (t := 25) (p := 151) rfl ?_); (try (rw [drewN_self w83]; generalize hq_ : World.drewN w83 _ = w83; have n0_ := Az (Kd.R_at hq_ HO_6.out); have n1_ := Az (Kd.R_at hq_ HO_7.out); have n2_ := Az (Kd.R_at hq_ HO_12.out); have n3_ := Az (below_at hq_ HB.out); clear hq_ HO_6 HO_7 HO_12 HB; have HO_6 := n0_; have HO_7 := n1_; have HO_12 := n2_; have HB := n3_; clear n0_ n1_ n2_ n3_; (try (obtain ⟨hy84_, hz84_⟩ := Kd.R_celln 0 HO_12.out (x13_1 : Int) (ode) (ode))); (try (have HP84 := Kd.R_putg HO_12.out (x13_1 : Int) x15_2)))); refine store_event (t := 25) (p := 151) (v := ?vo_w85) (w1 := (w83.setCell ⟨go82, (x13_1 : Int).toNat, none⟩ (.int .u64 x15_2))) ?hg ?ho ?hn ?hr ?_; (case ho => rfl); (case hg => rfl); (case hn => rfl); (case hr => first | (go_simp; done) | (go_simp; rfl)); intro w85 hw; have hg : w83.grownBy w85 (some go82) := (by rw [hw]; exact HP84.2); have hp_ : Kd.R (Kd.int .u64) 25 w85 w.heap.size (fun k_ => (w.heap.size ≤ k_) ∧ some k_ ≠ (.slice (some ad300) y279.length co40 : Value).ownBlock ∧ some k_ ≠ (.slice (some ad298) x7_1.length co42 : Value).ownBlock) (.slice (some ⟨go82, 0, none⟩) x12_1.length co45) y310 := (by rw [hw, Ny310.out]; exact HP84.1); clear HP84; replace HO_6 := Az (Kd.R_after (v := (.slice (some ⟨go82, 0, none⟩) x12_1.length co45)) (v1 := (.slice (some ⟨go82, 0, none⟩) x12_1.length co45)) (ok := (fun k_ => (w.heap.size ≤ k_) ∧ some k_ ≠ (.slice (some ad298) x7_1.length co42 : Value).ownBlock)) (rt (Kd.R_mono HO_6.out (fun _ hk => ⟨⟨hk.1, hk.2.1⟩, hk.2.2⟩))) hg (.inl rfl)); replace HO_7 := Az (Kd.R_after (v := (.slice (some ⟨go82, 0, none⟩) x12_1.length co45)) (v1 := (.slice (some ⟨go82, 0, none⟩) x12_1.length co45)) (ok := (fun k_ => (w.heap.size ≤ k_) ∧ some k_ ≠ (.slice (some ad300) y279.length co40 : Value).ownBlock)) (rt (Kd.R_mono HO_7.out (fun _ hk => ⟨⟨hk.1, hk.2.1⟩, hk.2.2⟩))) hg (.inl rfl)); replace HO_12 := Az (hp_); replace HB := Az ((by rw [hw]; exact below_set (HB.out) GB82.out : Below w.heap.size w w85)); clear hg hw hp_))
                                repeat (go_quiet (first | (go_at_call 149; (with_reducible refine (whole_take.calls k2 (fun k_ => some k_ = (.slice (some ad298) x7_1.length co42 : Value).ownBlock) (.slice (some ad298) x7_1.length co42) x7_1 _ _ y279 x13_1 x15_2 true t309 w _ ?side1 ?side2 ?side3 (Kd.R_reads' HO_6.out).2.1 A78.out).mono ?_); (case side1 => repeat (first | (with_reducible first | exact HB.out | apply below_alloc | apply pw_below_drewN | apply below_drew1) | exact HB.out)); (case side2 => exact Kd.R_tight rfl HO_7.out); (case side3 => exact Kd.C_kept_own (HO_6.out) (fun k_ hk_ hs_ => (hk_.2.1) hs_)); rintro e w83 ⟨rfl, hy0, hb, hkp⟩; replace HO_6 := Az (Kd.R_mono (ok' := fun k_ => (w.heap.size ≤ k_) ∧ some k_ ≠ (.slice (some ad298) x7_1.length co42 : Value).ownBlock ∧ some k_ ≠ (.slice Ao45 x12_1.length co45 : Value).ownBlock) (Kd.R_keptB (HO_6.out) hkp (fun k_ hk_ hs_ => (hk_.2.1) hs_)) (fun k_ hk_ => ⟨hk_.1.1, hk_.1.2.1, hk_.1.2.2⟩)); replace HO_7 := Az (Kd.R_reok rfl hy0 (fun k_ e_ => HO_7.out.1 k_ e_)); replace HO_12 := Az (Kd.R_mono (ok' := fun k_ => (w.heap.size ≤ k_) ∧ some k_ ≠ (.slice (some ad300) y279.length co40 : Value).ownBlock ∧ some k_ ≠ (.slice (some ad298) x7_1.length co42 : Value).ownBlock) (Kd.R_keptB (HO_12.out) hkp (fun k_ hk_ hs_ => (hk_.2.2) hs_)) (fun k_ hk_ => ⟨hk_.1.1, hk_.1.2.1, hk_.1.2.2⟩)); replace HB := Az (hb); have p82 : 0 ≤ (x13_1 : Int) := ode; have q82 : (x13_1 : Int) < ((x12_1.length : Int) : Int) := ode; obtain ⟨go82, co82, eo82, gb82, gl82, cl82, HG82⟩ := Kd.R_form HO_12.out (by omega); (first | cases eo82 | (injection eo82 with ea_ en_ ec_; (first | subst ea_ | (injection ea_ with ea_; subst ea_)); subst ec_; clear en_)); have GB82 := Az gb82; have GG82 := Az HG82; clear gb82 gl82 HG82; obtain ⟨hx82_0, hf82_0⟩ := Kd.R_celln 0 HO_12.out (x13_1 : Int) p82 q82; replace p82 := eq_true p82; replace q82 := eq_true q82; obtain ⟨hy84_, hz84_⟩ := Kd.R_celln 0 HO_12.out (x13_1 : Int) (ode) (ode); have HP84 := Kd.R_putg HO_12.out (x13_1 : Int) x15_2) | ((with_reducible refine gate_store (t := 25) (p := 151) rfl ?_); (try (rw [drewN_self w83]; generalize hq_ : World.drewN w83 _ = w83; have n0_ := Az (Kd.R_at hq_ HO_6.out); have n1_ := Az (Kd.R_at hq_ HO_7.out); have n2_ := Az (Kd.R_at hq_ HO_12.out); have n3_ := Az (below_at hq_ HB.out); clear hq_ HO_6 HO_7 HO_12 HB; have HO_6 := n0_; have HO_7 := n1_; have HO_12 := n2_; have HB := n3_; clear n0_ n1_ n2_ n3_; (try (obtain ⟨hy84_, hz84_⟩ := Kd.R_celln 0 HO_12.out (x13_1 : Int) (ode) (ode))); (try (have HP84 := Kd.R_putg HO_12.out (x13_1 : Int) x15_2)))); refine store_event (t := 25) (p := 151) (v := ?vo_w85) (w1 := (w83.setCell ⟨go82, (x13_1 : Int).toNat, none⟩ (.int .u64 x15_2))) ?hg ?ho ?hn ?hr ?_; (case ho => rfl); (case hg => rfl); (case hn => rfl); (case hr => first | (go_simp; done) | (go_simp; rfl)); intro w85 hw; have hg : w83.grownBy w85 (some go82) := (by rw [hw]; exact HP84.2); have hp_ : Kd.R (Kd.int .u64) 25 w85 w.heap.size (fun k_ => (w.heap.size ≤ k_) ∧ some k_ ≠ (.slice (some ad300) y279.length co40 : Value).ownBlock ∧ some k_ ≠ (.slice (some ad298) x7_1.length co42 : Value).ownBlock) (.slice (some ⟨go82, 0, none⟩) x12_1.length co45) y310 := (by rw [hw, Ny310.out]; exact HP84.1); clear HP84; replace HO_6 := Az (Kd.R_after (v := (.slice (some ⟨go82, 0, none⟩) x12_1.length co45)) (v1 := (.slice (some ⟨go82, 0, none⟩) x12_1.length co45)) (ok := (fun k_ => (w.heap.size ≤ k_) ∧ some k_ ≠ (.slice (some ad298) x7_1.length co42 : Value).ownBlock)) (rt (Kd.R_mono HO_6.out (fun _ hk => ⟨⟨hk.1, hk.2.1⟩, hk.2.2⟩))) hg (.inl rfl)); replace HO_7 := Az (Kd.R_after (v := (.slice (some ⟨go82, 0, none⟩) x12_1.length co45)) (v1 := (.slice (some ⟨go82, 0, none⟩) x12_1.length co45)) (ok := (fun k_ => (w.heap.size ≤ k_) ∧ some k_ ≠ (.slice (some ad300) y279.length co40 : Value).ownBlock)) (rt (Kd.R_mono HO_7.out (fun _ hk => ⟨⟨hk.1, hk.2.1⟩, hk.2.2⟩))) hg (.inl rfl)); replace HO_12 := Az (hp_); replace HB := Az ((by rw [hw]; exact below_set (HB.out) GB82.out : Below w.heap.size w w85)); clear hg hw hp_)); try go_wp2_with (first | (go_at_call 149; (with_reducible refine (whole_take.calls k2 (fun k_ => some k_ = (.slice (some ad298) x7_1.length co42 : Value).ownBlock) (.slice (some ad298) x7_1.length co42) x7_1 _ _ y279 x13_1 x15_2 true t309 w _ ?side1 ?side2 ?side3 (Kd.R_reads' HO_6.out).2.1 A78.out).mono ?_); (case side1 => repeat (first | (with_reducible first | exact HB.out | apply below_alloc | apply pw_below_drewN | apply below_drew1) | exact HB.out)); (case side2 => exact Kd.R_tight rfl HO_7.out); (case side3 => exact Kd.C_kept_own (HO_6.out) (fun k_ hk_ hs_ => (hk_.2.1) hs_)); rintro e w83 ⟨rfl, hy0, hb, hkp⟩; replace HO_6 := Az (Kd.R_mono (ok' := fun k_ => (w.heap.size ≤ k_) ∧ some k_ ≠ (.slice (some ad298) x7_1.length co42 : Value).ownBlock ∧ some k_ ≠ (.slice Ao45 x12_1.length co45 : Value).ownBlock) (Kd.R_keptB (HO_6.out) hkp (fun k_ hk_ hs_ => (hk_.2.1) hs_)) (fun k_ hk_ => ⟨hk_.1.1, hk_.1.2.1, hk_.1.2.2⟩)); replace HO_7 := Az (Kd.R_reok rfl hy0 (fun k_ e_ => HO_7.out.1 k_ e_)); replace HO_12 := Az (Kd.R_mono (ok' := fun k_ => (w.heap.size ≤ k_) ∧ some k_ ≠ (.slice (some ad300) y279.length co40 : Value).ownBlock ∧ some k_ ≠ (.slice (some ad298) x7_1.length co42 : Value).ownBlock) (Kd.R_keptB (HO_12.out) hkp (fun k_ hk_ hs_ => (hk_.2.2) hs_)) (fun k_ hk_ => ⟨hk_.1.1, hk_.1.2.1, hk_.1.2.2⟩)); replace HB := Az (hb); have p82 : 0 ≤ (x13_1 : Int) := ode; have q82 : (x13_1 : Int) < ((x12_1.length : Int) : Int) := ode; obtain ⟨go82, co82, eo82, gb82, gl82, cl82, HG82⟩ := Kd.R_form HO_12.out (by omega); (first | cases eo82 | (injection eo82 with ea_ en_ ec_; (first | subst ea_ | (injection ea_ with ea_; subst ea_)); subst ec_; clear en_)); have GB82 := Az gb82; have GG82 := Az HG82; clear gb82 gl82 HG82; obtain ⟨hx82_0, hf82_0⟩ := Kd.R_celln 0 HO_12.out (x13_1 : Int) p82 q82; replace p82 := eq_true p82; replace q82 := eq_true q82; obtain ⟨hy84_, hz84_⟩ := Kd.R_celln 0 HO_12.out (x13_1 : Int) (ode) (ode); have HP84 := Kd.R_putg HO_12.out (x13_1 : Int) x15_2) | ((with_reducible refine gate_store (t := 25) (p := 151) rfl ?_); (try (rw [drewN_self w83]; generalize hq_ : World.drewN w83 _ = w83; have n0_ := Az (Kd.R_at hq_ HO_6.out); have n1_ := Az (Kd.R_at hq_ HO_7.out); have n2_ := Az (Kd.R_at hq_ HO_12.out); have n3_ := Az (below_at hq_ HB.out); clear hq_ HO_6 HO_7 HO_12 HB; have HO_6 := n0_; have HO_7 := n1_; have HO_12 := n2_; have HB := n3_; clear n0_ n1_ n2_ n3_; (try (obtain ⟨hy84_, hz84_⟩ := Kd.R_celln 0 HO_12.out (x13_1 : Int) (ode) (ode))); (try (have HP84 := Kd.R_putg HO_12.out (x13_1 : Int) x15_2)))); refine store_event (t := 25) (p := 151) (v := ?vo_w85) (w1 := (w83.setCell ⟨go82, (x13_1 : Int).toNat, none⟩ (.int .u64 x15_2))) ?hg ?ho ?hn ?hr ?_; (case ho => rfl); (case hg => rfl); (case hn => rfl); (case hr => first | (go_simp; done) | (go_simp; rfl)); intro w85 hw; have hg : w83.grownBy w85 (some go82) := (by rw [hw]; exact HP84.2); have hp_ : Kd.R (Kd.int .u64) 25 w85 w.heap.size (fun k_ => (w.heap.size ≤ k_) ∧ some k_ ≠ (.slice (some ad300) y279.length co40 : Value).ownBlock ∧ some k_ ≠ (.slice (some ad298) x7_1.length co42 : Value).ownBlock) (.slice (some ⟨go82, 0, none⟩) x12_1.length co45) y310 := (by rw [hw, Ny310.out]; exact HP84.1); clear HP84; replace HO_6 := Az (Kd.R_after (v := (.slice (some ⟨go82, 0, none⟩) x12_1.length co45)) (v1 := (.slice (some ⟨go82, 0, none⟩) x12_1.length co45)) (ok := (fun k_ => (w.heap.size ≤ k_) ∧ some k_ ≠ (.slice (some ad298) x7_1.length co42 : Value).ownBlock)) (rt (Kd.R_mono HO_6.out (fun _ hk => ⟨⟨hk.1, hk.2.1⟩, hk.2.2⟩))) hg (.inl rfl)); replace HO_7 := Az (Kd.R_after (v := (.slice (some ⟨go82, 0, none⟩) x12_1.length co45)) (v1 := (.slice (some ⟨go82, 0, none⟩) x12_1.length co45)) (ok := (fun k_ => (w.heap.size ≤ k_) ∧ some k_ ≠ (.slice (some ad300) y279.length co40 : Value).ownBlock)) (rt (Kd.R_mono HO_7.out (fun _ hk => ⟨⟨hk.1, hk.2.1⟩, hk.2.2⟩))) hg (.inl rfl)); replace HO_12 := Az (hp_); replace HB := Az ((by rw [hw]; exact below_set (HB.out) GB82.out : Below w.heap.size w w85)); clear hg hw hp_)))
                                (try simp only [← hl7_1, ← hl12_1])
                                go_roundg k2
                                case measure => have := HK1.out; have := HK2.out; omega
                                case rel => exact ⟨(t309), (y310), (wrap64 (x13_1 - 1)), rs, H', ⟨by have := HK1.out; have := HK2.out; omega⟩, ⟨by (try simp only [hl7_1]); (try simp only [hl12_1]); (with_reducible repeat (first | apply Kd.R_alloc | apply Kd.R_drewN | apply Kd.R_drew)); exact Kd.R_mono HO_6.out (fun _ hk => ⟨hk.1.1, ⟨hk.1.2, hk.2⟩⟩)⟩, ⟨by (try simp only [hl7_1]); (try simp only [hl12_1]); (with_reducible repeat (first | apply Kd.R_alloc | apply Kd.R_drewN | apply Kd.R_drew)); exact Kd.R_mono HO_7.out (fun _ hk => ⟨hk.1.1, ⟨hk.1.2, hk.2⟩⟩)⟩, ⟨by (try simp only [hl7_1]); (try simp only [hl12_1]); (with_reducible repeat (first | apply Kd.R_alloc | apply Kd.R_drewN | apply Kd.R_drew)); exact HO_12.out⟩, ⟨bl HB⟩⟩
                               ·rw [if_neg c81] at H
                                exact absurd H (by simp)
                              ·rw [if_neg c80] at H
                               exact absurd H (by simp)
                             ·replace c79 := Bool.eq_false_iff.mpr c79
                              subst c79
                              rw [if_neg Bool.false_ne_true] at H
                              exact absurd H (by simp)
                           ·rw [if_neg c64] at H
                            exact absurd H (by simp)
                          ·rw [if_neg c63] at H
                           exact absurd H (by simp)
                         ·rw [if_neg c61] at H
                          exact absurd H (by simp)
                        ·rw [if_neg c60] at H
                         exact absurd H (by simp)
                       ·rw [if_neg c58] at H
                        exact absurd H (by simp)
                  ·rw [if_neg c55] at H
                   exact absurd H (by simp)
                 ·rw [if_neg c54] at H
                  exact absurd H (by simp)
                ·rw [if_neg c52] at H
                 exact absurd H (by simp)
               ·rw [if_neg c51] at H
                exact absurd H (by simp)
              ·rw [if_neg c49] at H
               exact absurd H (by simp)
             ·rw [if_neg c48] at H
              exact absurd H (by simp)
            ·rw [if_neg c46] at H
             have c46b0 : decide (0 ≤ x13_1) = false := decide_eq_false c46
             clear c46
             by_cases c86 : 0 ≤ (t255.length : Int)
             ·rw [if_pos c86] at H
              have c86b0 := eq_true c86
              have c86b1 := decide_eq_true c86
              clear c86
              by_cases c87 : (t255.length : Int) ≤ (x7_1.length : Int)
              ·rw [if_pos c87] at H
               have c87b0 := eq_true c87
               have c87b1 := decide_eq_true c87
               clear c87
               obtain ⟨y285, hy285⟩ : ∃ y_ : List Int, y_ = (x7_1.take ((t255.length : Int) : Int).toNat) := ⟨_, rfl⟩
               replace H : ((whole_short.f k1 y285 (IntKind.u64.wrap (Int.tdiv (1000000000 : Int) (IntKind.u64.wrap ((rd t255 (ji23)) + 1))))).bind fun bt288 => ((whole_doubles.f k1 x12_1).bind fun t292 => ((whole_doubles.f k1 bt288.1).bind fun t295 => (some (t292, t295))))) = some (r1, r2) := by rw [hy285]; exact H
               have Ny285 := Az hy285
               clear hy285
               obtain ⟨⟨t288, t289⟩, A88, H⟩ := bd H
               obtain ⟨t292, A89, H⟩ := bd H
               obtain ⟨t295, A90, H⟩ := bd H
               simp only [Option.some.injEq, Prod.mk.injEq] at H
               obtain ⟨rfl, rfl⟩ := H
               have q91 : ((t255.length : Int) : Int) ≤ ((x7_1.length : Int) : Int) := ode
               obtain ⟨i091, hi091, _, hsz91, _⟩ := info_parts info25
               have hcut91 := cut_to (P := Tryz.prog) 22 25 .i64 Tryz.underlying22 hi091 Ao42 x7_1.length co42 (t255.length : Int) (ode) q91 (Kd.R_reads' HO_7.out).2.1
               have hr91 := Kd.R_take (m := ((t255.length : Int) : Int).toNat) HO_7.out (by omega)
               have hy91 : y285.length = ((t255.length : Int) : Int).toNat := (by rw [Ny285.out, List.length_take]; omega)
               rw [← Ny285.out] at hr91
               rw [← hy91] at hr91 hcut91
               clear hy91 hi091 hsz91 HO_7
               have HO287 := Az hr91
               clear hr91
               replace q91 := eq_true q91
               go_wp2_with (first | (go_at_call 146; (with_reducible refine (whole_short.calls k1 _ _ y285 (IntKind.u64.wrap (Int.tdiv (1000000000 : Int) (IntKind.u64.wrap ((rd t255 (ji23)) + 1)))) t288 t289 _ ?side1 (Kd.R_reads' HO287.out).2.1 A88.out).mono ?_); (case side1 => exact (Kd.R_reads' HO287.out).2.2); rintro e w92 ⟨v290, rfl, ho0, hb⟩; have HO291 := Az (Kd.R_lower (Kd.R_new' (Kd.R_new' (Kd.R_new' (Kd.R_newM (M := fun k_ => (w.heap.size ≤ k_)) ho0 (below_size (bl HB)) (fun k_ h_ => h_)) (Kd.R_lt (rk HO_6))) (Kd.R_lt (rk HO287))) (Kd.R_lt (rk HO_12))) (below_size (bl HB))); replace HO_6 := Az (Kd.R_elder' (rk HO_6) (Kd.R_base ho0) hb); replace HO287 := Az (Kd.R_elder' (rk HO287) (Kd.R_base ho0) hb); replace HO_12 := Az (Kd.R_elder' (rk HO_12) (Kd.R_base ho0) hb); replace HB := Az (below_step (bl HB) hb)) | (go_at_call 147; (with_reducible refine (whole_doubles.calls k1 _ _ x12_1 t292 _ ?side1 (Kd.R_reads' HO_12.out).2.1 A89.out).mono ?_); (case side1 => exact (Kd.R_reads' HO_12.out).2.2); rintro e w93 ⟨v293, rfl, ho0, hb⟩; have HO294 := Az (Kd.R_lower (Kd.R_new' (Kd.R_new' (Kd.R_new' (Kd.R_new' (Kd.R_newM (M := fun k_ => (w.heap.size ≤ k_)) ho0 (below_size (bl HB)) (fun k_ h_ => h_)) (Kd.R_lt (rk HO_6))) (Kd.R_lt (rk HO287))) (Kd.R_lt (rk HO_12))) (Kd.R_lt (rk HO291))) (below_size (bl HB))); replace HO_6 := Az (Kd.R_elder' (rk HO_6) (Kd.R_base ho0) hb); replace HO287 := Az (Kd.R_elder' (rk HO287) (Kd.R_base ho0) hb); replace HO_12 := Az (Kd.R_elder' (rk HO_12) (Kd.R_base ho0) hb); replace HO291 := Az (Kd.R_elder' (rk HO291) (Kd.R_base ho0) hb); replace HB := Az (below_step (bl HB) hb); obtain ⟨Ao94, co94, eo94⟩ := Kd.R_slice HO291.out; subst eo94) | (go_at_call 147; (with_reducible refine (whole_doubles.calls k1 _ _ t288 t295 _ ?side1 (Kd.R_reads' HO291.out).2.1 A90.out).mono ?_); (case side1 => exact (Kd.R_reads' HO291.out).2.2); rintro e w95 ⟨v296, rfl, ho0, hb⟩; have HO297 := Az (Kd.R_lower (Kd.R_new' (Kd.R_new' (Kd.R_new' (Kd.R_new' (Kd.R_new' (Kd.R_newM (M := fun k_ => (w.heap.size ≤ k_)) ho0 (below_size (bl HB)) (fun k_ h_ => h_)) (Kd.R_lt (rk HO_6))) (Kd.R_lt (rk HO287))) (Kd.R_lt (rk HO_12))) (Kd.R_lt (rk HO291))) (Kd.R_lt (rk HO294))) (below_size (bl HB))); replace HO_6 := Az (Kd.R_elder' (rk HO_6) (Kd.R_base ho0) hb); replace HO287 := Az (Kd.R_elder' (rk HO287) (Kd.R_base ho0) hb); replace HO_12 := Az (Kd.R_elder' (rk HO_12) (Kd.R_base ho0) hb); replace HO291 := Az (Kd.R_elder' (rk HO291) (Kd.R_base ho0) hb); replace HO294 := Az (Kd.R_elder' (rk HO294) (Kd.R_base ho0) hb); replace HB := Az (below_step (bl HB) hb)))
               go_ret2
               exact ⟨_, _, by first | rfl | (simp [errW_none, errW_some] <;> rfl) | (simp only [← hji23, ← hji31]; first | rfl | (simp [errW_none, errW_some] <;> rfl)) | (simp [*, errW_none, errW_some] <;> rfl), rt (Kd.R_mono HO294.out (fun _ hk => hk.1.1.1.1.1.1)), Kd.V_mono (Kd.R_V (rt HO297.out)) (fun k_ hk => ⟨.inr hk.1.1.1.1.1.1, hk.2⟩), bl HB⟩
              ·rw [if_neg c87] at H
               exact absurd H (by simp)
             ·rw [if_neg c86] at H
              exact absurd H (by simp)
         ·rw [if_neg c33] at H
          exact absurd H (by simp)
        ·rw [if_neg c32] at H
         exact absurd H (by simp)
       ·rw [if_neg c30] at H
        exact absurd H (by simp)
      ·rw [if_neg c29] at H
       exact absurd H (by simp)
    ·rw [if_neg c25] at H
     exact absurd H (by simp)
   ·rw [if_neg c24] at H
    exact absurd H (by simp)
def whole_DivMod.f (k : Nat) (a0_0 : Bool) (l0_1 : List Int) (a1_0 : Bool) (l1_1 : List Int) : Option (Bool × List Int × Bool × List Int × Int) := (whole_Good.f k a0_0 l0_1).bind fun t315 => (if t315 = true then ((whole_Good.f k a1_0 l1_1).bind fun t316 => (if t316 = true then (if (l1_1.length : Int) = 0 then (none) else ((whole_divide.f k l0_1 l1_1).bind fun bt317 => ((whole_form.f (a0_0 != a1_0) bt317.1).bind fun bt323 => ((whole_form.f a0_0 bt317.2).bind fun bt327 => (if (bt327.2.length : Int) > 0 then (none) else (some (bt323.1, bt323.2, bt327.1, bt327.2, 0))))))) else (none))) else (none))
theorem whole_DivMod.mono : ∀ a0 a1 a2 a3 k, LeO (whole_DivMod.f k a0 a1 a2 a3) (whole_DivMod.f (k + 1) a0 a1 a2 a3) := by
 intro a0 a1 a2 a3 k
 unfold whole_DivMod.f
 repeat' first
   | (with_reducible exact whole_Good.mono _ _ _)
   | (with_reducible exact whole_divide.mono _ _ _)
   | (with_reducible exact LeO.refl _)
   | (with_reducible exact LeO.none _)
   | (with_reducible refine LeO.ite ?_ ?_)
   | (with_reducible refine LeO.bind ?_ (fun _ => ?_))
def whole_DivMod.T6 : Bool × List (List Nat × List Nat) := (true, [([], []), ([0], [0]), ([], []), ([2], [2]), ([1, 3], [1, 3]), ([], []), ([4, 5], [4, 5]), ([], []), ([7], [7]), ([], []), ([8, 9, 6], [8, 9]), ([], []), ([], []), ([11, 6, 10, 0, 1, 2, 3, 4, 5, 6, 11, 12], [6, 11]), ([12, 10, 13, 0, 1, 2, 3, 4, 5, 6, 7, 8, 9, 10, 11, 12, 13], [10, 12])])
def whole_DivMod.B6 : List Nat := [0, 1, 0, 4, 15, 0, 63, 0, 128, 0, 1023, 0, 0, 8191, 16383]
theorem whole_DivMod.tab6 : rtab .any (opsOf Tryz.f99 6) = whole_DivMod.T6 := by kernel_rfl
theorem whole_DivMod.bits6 : waitsOk whole_DivMod.T6.2 whole_DivMod.B6 = true := by kernel_rfl
set_option maxHeartbeats 8000000 in
set_option maxRecDepth 100000 in
theorem whole_DivMod.calls (k : Nat) (a0_0 : Bool) (A0_1 : Option Addr) (c0_1 : Nat) (l0_1 : List Int) (a1_0 : Bool) (A1_1 : Option Addr) (c1_1 : Nat) (l1_1 : List Int) (r1 : Bool) (r2 : List Int) (r3 : Bool) (r4 : List Int) (r5 : Int) (w : World) (hr0_1 : Kd.C (Kd.int .u64) w A0_1 l0_1.length l0_1) (hc0_1 : l0_1.length ≤ c0_1) (hr1_1 : Kd.C (Kd.int .u64) w A1_1 l1_1.length l1_1) (hc1_1 : l1_1.length ≤ c1_1) (h : whole_DivMod.f k a0_0 l0_1 a1_0 l1_1 = some (r1, r2, r3, r4, r5)) :
  Calls Tryz.prog 99 #[.agg #[.bool a0_0, .slice A0_1 l0_1.length c0_1], .agg #[.bool a1_0, .slice A1_1 l1_1.length c1_1]] w fun e w' => ∃ v1_ v3_ : Value, e = .returned (.tuple #[.agg #[.bool r1, v1_], .agg #[.bool r3, v3_], .int .i64 r5]) ∧ Kd.R (Kd.int .u64) 25 w' w.heap.size (fun k_ => some k_ ≠ (v3_ : Value).ownBlock) v1_ r2 ∧ Kd.R (Kd.int .u64) 25 w' w.heap.size (fun k_ => some k_ ≠ (v1_ : Value).ownBlock) v3_ r4 ∧ Below w.heap.size w w' := by
 have hu24 := Tryz.underlying24
 have HR0_1 := Az hr0_1
 have HC0_1 := Az hc0_1
 clear hr0_1 hc0_1
 have HR1_1 := Az hr1_1
 have HC1_1 := Az hc1_1
 clear hr1_1 hc1_1
 have HB := Az (Below.refl w.heap.size w)
 have H := h
 unfold whole_DivMod.f at H
 clear h
 obtain ⟨t315, A3, H⟩ := bd H
 by_cases c4 : t315 = true
 ·subst c4
  rw [if_pos rfl] at H
  obtain ⟨t316, A5, H⟩ := bd H
  by_cases c6 : t316 = true
  ·subst c6
   rw [if_pos rfl] at H
   by_cases c7 : (l1_1.length : Int) = 0
   ·rw [if_pos c7] at H
    exact absurd H (by simp)
   ·rw [if_neg c7] at H
    obtain ⟨⟨t317, t320⟩, A8, H⟩ := bd H
    obtain ⟨⟨t323, t324⟩, A9, H⟩ := bd H
    obtain ⟨⟨t327, t328⟩, A10, H⟩ := bd H
    by_cases c11 : (t328.length : Int) > 0
    ·rw [if_pos c11] at H
     exact absurd H (by simp)
    ·rw [if_neg c11] at H
     have c11b0 : decide (0 < (t328.length : Int)) = false := decide_eq_false c11
     have c11b1 : decide (0 < t328.length) = false := decide_eq_false (by omega)
     clear c11
     simp only [Option.some.injEq, Prod.mk.injEq] at H
     obtain ⟨rfl, rfl, rfl, rfl, rfl⟩ := H
     go_enter Tryz.func99, Tryz.ntmps99
     try go_wp2_with (first | (refine be 2 #[.bool a0_0, .slice A0_1 l0_1.length c0_1] 24 ?_; intro gb311 hg w12 hbox hb; have BK311 := Az (hbox); have GW311 := gw (bl HB) hg; have GE311 := gw (bl HB) hg; replace HB := Az (below_step (bl HB) hb); clear hb hbox hg) | (refine be 3 #[.bool a1_0, .slice A1_1 l1_1.length c1_1] 24 ?_; intro gb312 hg w13 hbox hb; have BK312 := Az (hbox); have GW312 := gw (bls HB) hg; have GE312 := gw (bls HB) hg; replace HB := Az (below_step (bls HB) hb); have NB311_312 := nl BK311 hg; have NB312_311 := ng BK311 hg; replace BK311 := kb BK311 hb; clear hb hbox hg) | (refine be 4 #[.bool false, .slice none 0 0] 24 ?_; intro gb313 hg w14 hbox hb; have BK313 := Az (hbox); have GW313 := gw (bls HB) hg; have GE313 := gw (bls HB) hg; replace HB := Az (below_step (bls HB) hb); have NB311_313 := nl BK311 hg; have NB313_311 := ng BK311 hg; replace BK311 := kb BK311 hb; have NB312_313 := nl BK312 hg; have NB313_312 := ng BK312 hg; replace BK312 := kb BK312 hb; clear hb hbox hg) | (refine be 5 #[.bool false, .slice none 0 0] 24 ?_; intro gb314 hg w15 hbox hb; have BK314 := Az (hbox); have GW314 := gw (bls HB) hg; have GE314 := gw (bls HB) hg; replace HB := Az (below_step (bls HB) hb); have NB311_314 := nl BK311 hg; have NB314_311 := ng BK311 hg; replace BK311 := kb BK311 hb; have NB312_314 := nl BK312 hg; have NB314_312 := ng BK312 hg; replace BK312 := kb BK312 hb; have NB313_314 := nl BK313 hg; have NB314_313 := ng BK313 hg; replace BK313 := kb BK313 hb; clear hb hbox hg; have hnb16 := NB311_312.out; have hnc16 := NB312_311.out; have hnb17 := NB311_313.out; have hnc17 := NB313_311.out; have hnb18 := NB311_314.out; have hnc18 := NB314_311.out; have hz19_1 := bz BK311) | (refine gl (some 12) Tryz.func47 #[.agg #[.bool a0_0, .slice A0_1 l0_1.length c0_1]] ?_; (with_reducible refine (whole_Good.calls k a0_0 _ _ l0_1 true _ (ck HR0_1 HB) HC0_1.out A3.out).mono ?_); rintro e w20 ⟨rfl, hb⟩; refine ⟨_, rfl, ?_⟩; replace BK311 := kb BK311 hb; replace BK312 := kb BK312 hb; replace BK313 := kb BK313 hb; replace BK314 := kb BK314 hb; replace HB := Az (below_step (bls HB) hb); have hnb21 := NB312_313.out; have hnc21 := NB313_312.out; have hnb22 := NB312_314.out; have hnc22 := NB314_312.out; have hz23_1 := bz BK312) | (go_at_call 47; (with_reducible refine (whole_Good.calls k a1_0 _ _ l1_1 true _ (ck HR1_1 HB) HC1_1.out A5.out).mono ?_); rintro e w24 ⟨rfl, hb⟩; replace BK311 := kb BK311 hb; replace BK312 := kb BK312 hb; replace BK313 := kb BK313 hb; replace BK314 := kb BK314 hb; replace HB := Az (below_step (bls HB) hb); have hz25_1 := bz BK312; have hz26_2 := bz BK311) | (refine gl (some 32) Tryz.func130 #[.slice A0_1 l0_1.length c0_1, .slice A1_1 l1_1.length c1_1] ?_; (with_reducible refine (whole_divide.calls k (fun k_ => k_ < w.heap.size) _ _ l0_1 _ _ l1_1 t317 t320 _ ?side1 (ck HR1_1 HB) HC1_1.out A8.out).mono ?_); (case side1 => exact Kd.V_mk HC0_1.out (Kd.F_below (Kd.C_F (Kd.heap_int .u64) HR0_1.out) (bls HB))); rintro e w27 ⟨v318, v321, rfl, ho0, ho1, hb⟩; refine ⟨_, rfl, ?_⟩; have HO319 := Az (Kd.R_lower (Kd.R_mono (ok' := fun k_ => True) ho0 (fun _ hk_ => trivial)) (below_size (bls HB))); have HO322 := Az (Kd.V_lower (Kd.V_mono (ok' := fun k_ => some k_ ≠ (v318 : Value).ownBlock ∧ k_ ≠ gb311 ∧ k_ ≠ gb312 ∧ k_ ≠ gb313 ∧ k_ ≠ gb314) ho1 (fun k_ hk_ => ⟨hk_.2, Or.elim hk_.1 (fun hs_ => fun e_ => Nat.not_le.2 hs_ (by rw [e_]; exact GW311.out)) (fun hn_ => (Kd.freshB (g := gb311) (o := .cells #[.bool a0_0, .slice A0_1 l0_1.length c0_1] 24 (0, 0)) (bk BK311) k_ hn_)), Or.elim hk_.1 (fun hs_ => fun e_ => Nat.not_le.2 hs_ (by rw [e_]; exact GW312.out)) (fun hn_ => (Kd.freshB (g := gb312) (o := .cells #[.bool a1_0, .slice A1_1 l1_1.length c1_1] 24 (0, 0)) (bk BK312) k_ hn_)), Or.elim hk_.1 (fun hs_ => fun e_ => Nat.not_le.2 hs_ (by rw [e_]; exact GW313.out)) (fun hn_ => (Kd.freshB (g := gb313) (o := .cells #[.bool false, .slice none 0 0] 24 (0, 0)) (bk BK313) k_ hn_)), Or.elim hk_.1 (fun hs_ => fun e_ => Nat.not_le.2 hs_ (by rw [e_]; exact GW314.out)) (fun hn_ => (Kd.freshB (g := gb314) (o := .cells #[.bool false, .slice none 0 0] 24 (0, 0)) (bk BK314) k_ hn_))⟩)) (below_size (bls HB))); replace BK311 := kb BK311 hb; replace BK312 := kb BK312 hb; replace BK313 := kb BK313 hb; replace BK314 := kb BK314 hb; replace HB := Az (below_step (bls HB) hb); obtain ⟨Ao28, co28, eo28⟩ := Kd.R_slice HO319.out; subst eo28; obtain ⟨Ao29, co29, eo29⟩ := Kd.V_slice HO322.out; subst eo29))
     replace HO319 := Az (Kd.R_drew HO319.out)
     replace HO322 := Az (Kd.V_drew HO322.out)
     replace BK311 := Az (blk_drew BK311.out)
     replace BK312 := Az (blk_drew BK312.out)
     replace BK313 := Az (blk_drew BK313.out)
     replace BK314 := Az (blk_drew BK314.out)
     replace HB := Az (below_drew1 HB.out)
     refine start_ (n := 15) (S := fun w' => w'.cell? ⟨gb311, 0, none⟩ = some (.bool a0_0) ∧ w'.cell? ⟨gb311, 1, none⟩ = some (.slice A0_1 l0_1.length c0_1) ∧ w'.cell? ⟨gb312, 0, none⟩ = some (.bool a1_0) ∧ w'.cell? ⟨gb312, 1, none⟩ = some (.slice A1_1 l1_1.length c1_1)) (ds := []) (bm 15 0) (by kernel_rfl) rfl rfl ⟨(blk_cell BK311.out 0).trans rfl, (blk_cell BK311.out 1).trans rfl, (blk_cell BK312.out 0).trans rfl, (blk_cell BK312.out 1).trans rfl⟩ (fun hHeld => ?_); refine with_tabW whole_DivMod.tab6 whole_DivMod.bits6 (fun HT_ HW_ => ?_)
     generalize w27.drew = w30 at HO319 HO322 BK311 BK312 BK313 BK314 HB hHeld ⊢
     refine pu 0 (some 35) (bm 15 1) HT_.out ?_
     refine pu 2 (some 37) (bm 15 5) HT_.out ?_
     refine pu 5 (some 40) (bm 15 37) HT_.out ?_
     refine pu 7 (some 42) (bm 15 165) HT_.out ?_
     refine pu 9 (some 44) (bm 15 677) HT_.out ?_
     refine tk 1 (some 36) (bm 15 679) HT_.out HW_.out hHeld ?_
     refine tk 3 (some 38) (bm 15 687) HT_.out HW_.out hHeld ?_
     refine pu 4 (some 39) (bm 15 703) HT_.out ?_
     refine tk 8 (some 43) (bm 15 959) HT_.out HW_.out hHeld ?_
     refine join_ (σ := Value × Value × Nat × Nat) 2 (bm 15 8191) (fun s_ => [(41, .agg #[.bool t323, s_.1]), (45, .agg #[.bool t327, s_.2.1]), (9, .pointer (some ⟨s_.2.2.1, 0, none⟩)), (10, .pointer (some ⟨s_.2.2.2, 0, none⟩))]) (fun s_ w' => (w'.cell? ⟨gb311, 0, none⟩ = some (.bool a0_0) ∧ w'.cell? ⟨gb311, 1, none⟩ = some (.slice A0_1 l0_1.length c0_1) ∧ w'.cell? ⟨gb312, 0, none⟩ = some (.bool a1_0) ∧ w'.cell? ⟨gb312, 1, none⟩ = some (.slice A1_1 l1_1.length c1_1)) ∧ (Kd.R (Kd.int .u64) 25 w' w.heap.size (fun k_ => some k_ ≠ (s_.1 : Value).ownBlock ∧ some k_ ≠ (s_.2.1 : Value).ownBlock) (.slice Ao28 t317.length co28) t317) ∧ (Kd.V (Kd.int .u64) 25 w' w.heap.size (fun k_ => some k_ ≠ (.slice Ao28 t317.length co28 : Value).ownBlock ∧ some k_ ≠ (s_.1 : Value).ownBlock ∧ some k_ ≠ (s_.2.1 : Value).ownBlock ∧ k_ ≠ gb311 ∧ k_ ≠ gb312 ∧ k_ ≠ gb313 ∧ k_ ≠ gb314 ∧ k_ ≠ s_.2.2.1 ∧ k_ ≠ s_.2.2.2) (.slice Ao29 t320.length co29) t320) ∧ (Kd.R (Kd.int .u64) 25 w' w.heap.size (fun k_ => some k_ ≠ (.slice Ao28 t317.length co28 : Value).ownBlock ∧ some k_ ≠ (s_.2.1 : Value).ownBlock) s_.1 t324) ∧ (Kd.R (Kd.int .u64) 25 w' w.heap.size (fun k_ => some k_ ≠ (.slice Ao28 t317.length co28 : Value).ownBlock ∧ some k_ ≠ (s_.1 : Value).ownBlock) s_.2.1 t328) ∧ (w'.heap[gb311]? = some (.cells #[.bool a0_0, .slice A0_1 l0_1.length c0_1] 24 (0, 0))) ∧ (w'.heap[gb312]? = some (.cells #[.bool a1_0, .slice A1_1 l1_1.length c1_1] 24 (0, 0))) ∧ (w'.heap[gb313]? = some (.cells #[.bool false, .slice none 0 0] 24 (0, 0))) ∧ (w'.heap[gb314]? = some (.cells #[.bool false, .slice none 0 0] 24 (0, 0))) ∧ (w'.heap[s_.2.2.1]? = some (.cells #[.bool false, .slice none 0 0] 24 (0, 0))) ∧ (w'.heap[s_.2.2.2]? = some (.cells #[.bool false, .slice none 0 0] 24 (0, 0))) ∧ (w.heap.size ≤ s_.2.2.1) ∧ (w.heap.size ≤ s_.2.2.1) ∧ (gb311 ≠ s_.2.2.1) ∧ (s_.2.2.1 ≠ gb311) ∧ (gb312 ≠ s_.2.2.1) ∧ (s_.2.2.1 ≠ gb312) ∧ (gb313 ≠ s_.2.2.1) ∧ (s_.2.2.1 ≠ gb313) ∧ (gb314 ≠ s_.2.2.1) ∧ (s_.2.2.1 ≠ gb314) ∧ (s_.2.2.2 ≠ s_.2.2.1) ∧ (s_.2.2.1 ≠ s_.2.2.2) ∧ (w.heap.size ≤ s_.2.2.2) ∧ (w.heap.size ≤ s_.2.2.2) ∧ (gb311 ≠ s_.2.2.2) ∧ (s_.2.2.2 ≠ gb311) ∧ (gb312 ≠ s_.2.2.2) ∧ (s_.2.2.2 ≠ gb312) ∧ (gb313 ≠ s_.2.2.2) ∧ (s_.2.2.2 ≠ gb313) ∧ (gb314 ≠ s_.2.2.2) ∧ (s_.2.2.2 ≠ gb314) ∧ (Below w.heap.size w w')) ?_ ?_
     rotate_left
     ·intro hJ6_10_11_12
      refine join_ (σ := Value × Value × Nat) 3 (bm 15 4095) (fun s_ => [(41, .agg #[.bool t323, s_.1]), (45, .agg #[.bool t327, s_.2.1]), (9, .pointer (some ⟨s_.2.2, 0, none⟩))]) (fun s_ w' => (w'.cell? ⟨gb311, 0, none⟩ = some (.bool a0_0) ∧ w'.cell? ⟨gb311, 1, none⟩ = some (.slice A0_1 l0_1.length c0_1) ∧ w'.cell? ⟨gb312, 0, none⟩ = some (.bool a1_0) ∧ w'.cell? ⟨gb312, 1, none⟩ = some (.slice A1_1 l1_1.length c1_1)) ∧ (Kd.R (Kd.int .u64) 25 w' w.heap.size (fun k_ => some k_ ≠ (s_.1 : Value).ownBlock ∧ some k_ ≠ (s_.2.1 : Value).ownBlock) (.slice Ao28 t317.length co28) t317) ∧ (Kd.V (Kd.int .u64) 25 w' w.heap.size (fun k_ => some k_ ≠ (.slice Ao28 t317.length co28 : Value).ownBlock ∧ some k_ ≠ (s_.1 : Value).ownBlock ∧ some k_ ≠ (s_.2.1 : Value).ownBlock ∧ k_ ≠ gb311 ∧ k_ ≠ gb312 ∧ k_ ≠ gb313 ∧ k_ ≠ gb314 ∧ k_ ≠ s_.2.2) (.slice Ao29 t320.length co29) t320) ∧ (Kd.R (Kd.int .u64) 25 w' w.heap.size (fun k_ => some k_ ≠ (.slice Ao28 t317.length co28 : Value).ownBlock ∧ some k_ ≠ (s_.2.1 : Value).ownBlock) s_.1 t324) ∧ (Kd.R (Kd.int .u64) 25 w' w.heap.size (fun k_ => some k_ ≠ (.slice Ao28 t317.length co28 : Value).ownBlock ∧ some k_ ≠ (s_.1 : Value).ownBlock) s_.2.1 t328) ∧ (w'.heap[gb311]? = some (.cells #[.bool a0_0, .slice A0_1 l0_1.length c0_1] 24 (0, 0))) ∧ (w'.heap[gb312]? = some (.cells #[.bool a1_0, .slice A1_1 l1_1.length c1_1] 24 (0, 0))) ∧ (w'.heap[gb313]? = some (.cells #[.bool false, .slice none 0 0] 24 (0, 0))) ∧ (w'.heap[gb314]? = some (.cells #[.bool false, .slice none 0 0] 24 (0, 0))) ∧ (w'.heap[s_.2.2]? = some (.cells #[.bool false, .slice none 0 0] 24 (0, 0))) ∧ (w.heap.size ≤ s_.2.2) ∧ (w.heap.size ≤ s_.2.2) ∧ (gb311 ≠ s_.2.2) ∧ (s_.2.2 ≠ gb311) ∧ (gb312 ≠ s_.2.2) ∧ (s_.2.2 ≠ gb312) ∧ (gb313 ≠ s_.2.2) ∧ (s_.2.2 ≠ gb313) ∧ (gb314 ≠ s_.2.2) ∧ (s_.2.2 ≠ gb314) ∧ (Below w.heap.size w w')) ?_ ?_
      rotate_left
      ·intro hJ6_10_11
       refine join_ (σ := Value × Value × Nat) 3 (bm 15 6143) (fun s_ => [(41, .agg #[.bool t323, s_.1]), (45, .agg #[.bool t327, s_.2.1]), (10, .pointer (some ⟨s_.2.2, 0, none⟩))]) (fun s_ w' => (w'.cell? ⟨gb311, 0, none⟩ = some (.bool a0_0) ∧ w'.cell? ⟨gb311, 1, none⟩ = some (.slice A0_1 l0_1.length c0_1) ∧ w'.cell? ⟨gb312, 0, none⟩ = some (.bool a1_0) ∧ w'.cell? ⟨gb312, 1, none⟩ = some (.slice A1_1 l1_1.length c1_1)) ∧ (Kd.R (Kd.int .u64) 25 w' w.heap.size (fun k_ => some k_ ≠ (s_.1 : Value).ownBlock ∧ some k_ ≠ (s_.2.1 : Value).ownBlock) (.slice Ao28 t317.length co28) t317) ∧ (Kd.V (Kd.int .u64) 25 w' w.heap.size (fun k_ => some k_ ≠ (.slice Ao28 t317.length co28 : Value).ownBlock ∧ some k_ ≠ (s_.1 : Value).ownBlock ∧ some k_ ≠ (s_.2.1 : Value).ownBlock ∧ k_ ≠ gb311 ∧ k_ ≠ gb312 ∧ k_ ≠ gb313 ∧ k_ ≠ gb314 ∧ k_ ≠ s_.2.2) (.slice Ao29 t320.length co29) t320) ∧ (Kd.R (Kd.int .u64) 25 w' w.heap.size (fun k_ => some k_ ≠ (.slice Ao28 t317.length co28 : Value).ownBlock ∧ some k_ ≠ (s_.2.1 : Value).ownBlock) s_.1 t324) ∧ (Kd.R (Kd.int .u64) 25 w' w.heap.size (fun k_ => some k_ ≠ (.slice Ao28 t317.length co28 : Value).ownBlock ∧ some k_ ≠ (s_.1 : Value).ownBlock) s_.2.1 t328) ∧ (w'.heap[gb311]? = some (.cells #[.bool a0_0, .slice A0_1 l0_1.length c0_1] 24 (0, 0))) ∧ (w'.heap[gb312]? = some (.cells #[.bool a1_0, .slice A1_1 l1_1.length c1_1] 24 (0, 0))) ∧ (w'.heap[gb313]? = some (.cells #[.bool false, .slice none 0 0] 24 (0, 0))) ∧ (w'.heap[gb314]? = some (.cells #[.bool false, .slice none 0 0] 24 (0, 0))) ∧ (w'.heap[s_.2.2]? = some (.cells #[.bool false, .slice none 0 0] 24 (0, 0))) ∧ (w.heap.size ≤ s_.2.2) ∧ (w.heap.size ≤ s_.2.2) ∧ (gb311 ≠ s_.2.2) ∧ (s_.2.2 ≠ gb311) ∧ (gb312 ≠ s_.2.2) ∧ (s_.2.2 ≠ gb312) ∧ (gb313 ≠ s_.2.2) ∧ (s_.2.2 ≠ gb313) ∧ (gb314 ≠ s_.2.2) ∧ (s_.2.2 ≠ gb314) ∧ (Below w.heap.size w w')) ?_ ?_
       rotate_left
       ·intro hJ6_10_12
        refine join_ (σ := Value × Nat × Nat) 3 (bm 15 7167) (fun s_ => [(41, .agg #[.bool t323, s_.1]), (9, .pointer (some ⟨s_.2.1, 0, none⟩)), (10, .pointer (some ⟨s_.2.2, 0, none⟩))]) (fun s_ w' => (w'.cell? ⟨gb311, 0, none⟩ = some (.bool a0_0) ∧ w'.cell? ⟨gb311, 1, none⟩ = some (.slice A0_1 l0_1.length c0_1) ∧ w'.cell? ⟨gb312, 0, none⟩ = some (.bool a1_0) ∧ w'.cell? ⟨gb312, 1, none⟩ = some (.slice A1_1 l1_1.length c1_1)) ∧ (Kd.R (Kd.int .u64) 25 w' w.heap.size (fun k_ => some k_ ≠ (s_.1 : Value).ownBlock) (.slice Ao28 t317.length co28) t317) ∧ (Kd.V (Kd.int .u64) 25 w' w.heap.size (fun k_ => some k_ ≠ (.slice Ao28 t317.length co28 : Value).ownBlock ∧ some k_ ≠ (s_.1 : Value).ownBlock ∧ k_ ≠ gb311 ∧ k_ ≠ gb312 ∧ k_ ≠ gb313 ∧ k_ ≠ gb314 ∧ k_ ≠ s_.2.1 ∧ k_ ≠ s_.2.2) (.slice Ao29 t320.length co29) t320) ∧ (Kd.R (Kd.int .u64) 25 w' w.heap.size (fun k_ => some k_ ≠ (.slice Ao28 t317.length co28 : Value).ownBlock) s_.1 t324) ∧ (w'.heap[gb311]? = some (.cells #[.bool a0_0, .slice A0_1 l0_1.length c0_1] 24 (0, 0))) ∧ (w'.heap[gb312]? = some (.cells #[.bool a1_0, .slice A1_1 l1_1.length c1_1] 24 (0, 0))) ∧ (w'.heap[gb313]? = some (.cells #[.bool false, .slice none 0 0] 24 (0, 0))) ∧ (w'.heap[gb314]? = some (.cells #[.bool false, .slice none 0 0] 24 (0, 0))) ∧ (w'.heap[s_.2.1]? = some (.cells #[.bool false, .slice none 0 0] 24 (0, 0))) ∧ (w'.heap[s_.2.2]? = some (.cells #[.bool false, .slice none 0 0] 24 (0, 0))) ∧ (w.heap.size ≤ s_.2.1) ∧ (w.heap.size ≤ s_.2.1) ∧ (gb311 ≠ s_.2.1) ∧ (s_.2.1 ≠ gb311) ∧ (gb312 ≠ s_.2.1) ∧ (s_.2.1 ≠ gb312) ∧ (gb313 ≠ s_.2.1) ∧ (s_.2.1 ≠ gb313) ∧ (gb314 ≠ s_.2.1) ∧ (s_.2.1 ≠ gb314) ∧ (s_.2.2 ≠ s_.2.1) ∧ (s_.2.1 ≠ s_.2.2) ∧ (w.heap.size ≤ s_.2.2) ∧ (w.heap.size ≤ s_.2.2) ∧ (gb311 ≠ s_.2.2) ∧ (s_.2.2 ≠ gb311) ∧ (gb312 ≠ s_.2.2) ∧ (s_.2.2 ≠ gb312) ∧ (gb313 ≠ s_.2.2) ∧ (s_.2.2 ≠ gb313) ∧ (gb314 ≠ s_.2.2) ∧ (s_.2.2 ≠ gb314) ∧ (Below w.heap.size w w')) ?_ ?_
        rotate_left
        ·intro hJ6_11_12
         refine join_ (σ := Value × Value) 4 (bm 15 2047) (fun s_ => [(41, .agg #[.bool t323, s_.1]), (45, .agg #[.bool t327, s_.2])]) (fun s_ w' => (w'.cell? ⟨gb311, 0, none⟩ = some (.bool a0_0) ∧ w'.cell? ⟨gb311, 1, none⟩ = some (.slice A0_1 l0_1.length c0_1) ∧ w'.cell? ⟨gb312, 0, none⟩ = some (.bool a1_0) ∧ w'.cell? ⟨gb312, 1, none⟩ = some (.slice A1_1 l1_1.length c1_1)) ∧ (Kd.R (Kd.int .u64) 25 w' w.heap.size (fun k_ => some k_ ≠ (s_.1 : Value).ownBlock ∧ some k_ ≠ (s_.2 : Value).ownBlock) (.slice Ao28 t317.length co28) t317) ∧ (Kd.V (Kd.int .u64) 25 w' w.heap.size (fun k_ => some k_ ≠ (.slice Ao28 t317.length co28 : Value).ownBlock ∧ some k_ ≠ (s_.1 : Value).ownBlock ∧ some k_ ≠ (s_.2 : Value).ownBlock ∧ k_ ≠ gb311 ∧ k_ ≠ gb312 ∧ k_ ≠ gb313 ∧ k_ ≠ gb314) (.slice Ao29 t320.length co29) t320) ∧ (Kd.R (Kd.int .u64) 25 w' w.heap.size (fun k_ => some k_ ≠ (.slice Ao28 t317.length co28 : Value).ownBlock ∧ some k_ ≠ (s_.2 : Value).ownBlock) s_.1 t324) ∧ (Kd.R (Kd.int .u64) 25 w' w.heap.size (fun k_ => some k_ ≠ (.slice Ao28 t317.length co28 : Value).ownBlock ∧ some k_ ≠ (s_.1 : Value).ownBlock) s_.2 t328) ∧ (w'.heap[gb311]? = some (.cells #[.bool a0_0, .slice A0_1 l0_1.length c0_1] 24 (0, 0))) ∧ (w'.heap[gb312]? = some (.cells #[.bool a1_0, .slice A1_1 l1_1.length c1_1] 24 (0, 0))) ∧ (w'.heap[gb313]? = some (.cells #[.bool false, .slice none 0 0] 24 (0, 0))) ∧ (w'.heap[gb314]? = some (.cells #[.bool false, .slice none 0 0] 24 (0, 0))) ∧ (Below w.heap.size w w')) ?_ ?_
         rotate_left
         ·intro hJ6_10
          refine join_ (σ := Value × Nat) 4 (bm 15 3071) (fun s_ => [(41, .agg #[.bool t323, s_.1]), (9, .pointer (some ⟨s_.2, 0, none⟩))]) (fun s_ w' => (w'.cell? ⟨gb311, 0, none⟩ = some (.bool a0_0) ∧ w'.cell? ⟨gb311, 1, none⟩ = some (.slice A0_1 l0_1.length c0_1) ∧ w'.cell? ⟨gb312, 0, none⟩ = some (.bool a1_0) ∧ w'.cell? ⟨gb312, 1, none⟩ = some (.slice A1_1 l1_1.length c1_1)) ∧ (Kd.R (Kd.int .u64) 25 w' w.heap.size (fun k_ => some k_ ≠ (s_.1 : Value).ownBlock) (.slice Ao28 t317.length co28) t317) ∧ (Kd.V (Kd.int .u64) 25 w' w.heap.size (fun k_ => some k_ ≠ (.slice Ao28 t317.length co28 : Value).ownBlock ∧ some k_ ≠ (s_.1 : Value).ownBlock ∧ k_ ≠ gb311 ∧ k_ ≠ gb312 ∧ k_ ≠ gb313 ∧ k_ ≠ gb314 ∧ k_ ≠ s_.2) (.slice Ao29 t320.length co29) t320) ∧ (Kd.R (Kd.int .u64) 25 w' w.heap.size (fun k_ => some k_ ≠ (.slice Ao28 t317.length co28 : Value).ownBlock) s_.1 t324) ∧ (w'.heap[gb311]? = some (.cells #[.bool a0_0, .slice A0_1 l0_1.length c0_1] 24 (0, 0))) ∧ (w'.heap[gb312]? = some (.cells #[.bool a1_0, .slice A1_1 l1_1.length c1_1] 24 (0, 0))) ∧ (w'.heap[gb313]? = some (.cells #[.bool false, .slice none 0 0] 24 (0, 0))) ∧ (w'.heap[gb314]? = some (.cells #[.bool false, .slice none 0 0] 24 (0, 0))) ∧ (w'.heap[s_.2]? = some (.cells #[.bool false, .slice none 0 0] 24 (0, 0))) ∧ (w.heap.size ≤ s_.2) ∧ (w.heap.size ≤ s_.2) ∧ (gb311 ≠ s_.2) ∧ (s_.2 ≠ gb311) ∧ (gb312 ≠ s_.2) ∧ (s_.2 ≠ gb312) ∧ (gb313 ≠ s_.2) ∧ (s_.2 ≠ gb313) ∧ (gb314 ≠ s_.2) ∧ (s_.2 ≠ gb314) ∧ (Below w.heap.size w w')) ?_ ?_
          rotate_left
          ·intro hJ6_11
           refine join_ (σ := Value × Nat) 4 (bm 15 5119) (fun s_ => [(41, .agg #[.bool t323, s_.1]), (10, .pointer (some ⟨s_.2, 0, none⟩))]) (fun s_ w' => (w'.cell? ⟨gb311, 0, none⟩ = some (.bool a0_0) ∧ w'.cell? ⟨gb311, 1, none⟩ = some (.slice A0_1 l0_1.length c0_1) ∧ w'.cell? ⟨gb312, 0, none⟩ = some (.bool a1_0) ∧ w'.cell? ⟨gb312, 1, none⟩ = some (.slice A1_1 l1_1.length c1_1)) ∧ (Kd.R (Kd.int .u64) 25 w' w.heap.size (fun k_ => some k_ ≠ (s_.1 : Value).ownBlock) (.slice Ao28 t317.length co28) t317) ∧ (Kd.V (Kd.int .u64) 25 w' w.heap.size (fun k_ => some k_ ≠ (.slice Ao28 t317.length co28 : Value).ownBlock ∧ some k_ ≠ (s_.1 : Value).ownBlock ∧ k_ ≠ gb311 ∧ k_ ≠ gb312 ∧ k_ ≠ gb313 ∧ k_ ≠ gb314 ∧ k_ ≠ s_.2) (.slice Ao29 t320.length co29) t320) ∧ (Kd.R (Kd.int .u64) 25 w' w.heap.size (fun k_ => some k_ ≠ (.slice Ao28 t317.length co28 : Value).ownBlock) s_.1 t324) ∧ (w'.heap[gb311]? = some (.cells #[.bool a0_0, .slice A0_1 l0_1.length c0_1] 24 (0, 0))) ∧ (w'.heap[gb312]? = some (.cells #[.bool a1_0, .slice A1_1 l1_1.length c1_1] 24 (0, 0))) ∧ (w'.heap[gb313]? = some (.cells #[.bool false, .slice none 0 0] 24 (0, 0))) ∧ (w'.heap[gb314]? = some (.cells #[.bool false, .slice none 0 0] 24 (0, 0))) ∧ (w'.heap[s_.2]? = some (.cells #[.bool false, .slice none 0 0] 24 (0, 0))) ∧ (w.heap.size ≤ s_.2) ∧ (w.heap.size ≤ s_.2) ∧ (gb311 ≠ s_.2) ∧ (s_.2 ≠ gb311) ∧ (gb312 ≠ s_.2) ∧ (s_.2 ≠ gb312) ∧ (gb313 ≠ s_.2) ∧ (s_.2 ≠ gb313) ∧ (gb314 ≠ s_.2) ∧ (s_.2 ≠ gb314) ∧ (Below w.heap.size w w')) ?_ ?_
           rotate_left
           ·intro hJ6_12
            refine join_ (σ := Nat × Nat) 4 (bm 15 7103) (fun s_ => [(9, .pointer (some ⟨s_.1, 0, none⟩)), (10, .pointer (some ⟨s_.2, 0, none⟩))]) (fun s_ w' => (w'.cell? ⟨gb311, 0, none⟩ = some (.bool a0_0) ∧ w'.cell? ⟨gb311, 1, none⟩ = some (.slice A0_1 l0_1.length c0_1) ∧ w'.cell? ⟨gb312, 0, none⟩ = some (.bool a1_0) ∧ w'.cell? ⟨gb312, 1, none⟩ = some (.slice A1_1 l1_1.length c1_1)) ∧ (Kd.R (Kd.int .u64) 25 w' w.heap.size (fun _ => True) (.slice Ao28 t317.length co28) t317) ∧ (Kd.V (Kd.int .u64) 25 w' w.heap.size (fun k_ => some k_ ≠ (.slice Ao28 t317.length co28 : Value).ownBlock ∧ k_ ≠ gb311 ∧ k_ ≠ gb312 ∧ k_ ≠ gb313 ∧ k_ ≠ gb314 ∧ k_ ≠ s_.1 ∧ k_ ≠ s_.2) (.slice Ao29 t320.length co29) t320) ∧ (w'.heap[gb311]? = some (.cells #[.bool a0_0, .slice A0_1 l0_1.length c0_1] 24 (0, 0))) ∧ (w'.heap[gb312]? = some (.cells #[.bool a1_0, .slice A1_1 l1_1.length c1_1] 24 (0, 0))) ∧ (w'.heap[gb313]? = some (.cells #[.bool false, .slice none 0 0] 24 (0, 0))) ∧ (w'.heap[gb314]? = some (.cells #[.bool false, .slice none 0 0] 24 (0, 0))) ∧ (w'.heap[s_.1]? = some (.cells #[.bool false, .slice none 0 0] 24 (0, 0))) ∧ (w'.heap[s_.2]? = some (.cells #[.bool false, .slice none 0 0] 24 (0, 0))) ∧ (w.heap.size ≤ s_.1) ∧ (w.heap.size ≤ s_.1) ∧ (gb311 ≠ s_.1) ∧ (s_.1 ≠ gb311) ∧ (gb312 ≠ s_.1) ∧ (s_.1 ≠ gb312) ∧ (gb313 ≠ s_.1) ∧ (s_.1 ≠ gb313) ∧ (gb314 ≠ s_.1) ∧ (s_.1 ≠ gb314) ∧ (s_.2 ≠ s_.1) ∧ (s_.1 ≠ s_.2) ∧ (w.heap.size ≤ s_.2) ∧ (w.heap.size ≤ s_.2) ∧ (gb311 ≠ s_.2) ∧ (s_.2 ≠ gb311) ∧ (gb312 ≠ s_.2) ∧ (s_.2 ≠ gb312) ∧ (gb313 ≠ s_.2) ∧ (s_.2 ≠ gb313) ∧ (gb314 ≠ s_.2) ∧ (s_.2 ≠ gb314) ∧ (Below w.heap.size w w')) ?_ ?_
            rotate_left
            ·intro hJ11_12
             refine join_ (σ := Value) 5 (bm 15 1023) (fun s_ => [(41, .agg #[.bool t323, s_])]) (fun s_ w' => (w'.cell? ⟨gb311, 0, none⟩ = some (.bool a0_0) ∧ w'.cell? ⟨gb311, 1, none⟩ = some (.slice A0_1 l0_1.length c0_1) ∧ w'.cell? ⟨gb312, 0, none⟩ = some (.bool a1_0) ∧ w'.cell? ⟨gb312, 1, none⟩ = some (.slice A1_1 l1_1.length c1_1)) ∧ (Kd.R (Kd.int .u64) 25 w' w.heap.size (fun k_ => some k_ ≠ (s_ : Value).ownBlock) (.slice Ao28 t317.length co28) t317) ∧ (Kd.V (Kd.int .u64) 25 w' w.heap.size (fun k_ => some k_ ≠ (.slice Ao28 t317.length co28 : Value).ownBlock ∧ some k_ ≠ (s_ : Value).ownBlock ∧ k_ ≠ gb311 ∧ k_ ≠ gb312 ∧ k_ ≠ gb313 ∧ k_ ≠ gb314) (.slice Ao29 t320.length co29) t320) ∧ (Kd.R (Kd.int .u64) 25 w' w.heap.size (fun k_ => some k_ ≠ (.slice Ao28 t317.length co28 : Value).ownBlock) s_ t324) ∧ (w'.heap[gb311]? = some (.cells #[.bool a0_0, .slice A0_1 l0_1.length c0_1] 24 (0, 0))) ∧ (w'.heap[gb312]? = some (.cells #[.bool a1_0, .slice A1_1 l1_1.length c1_1] 24 (0, 0))) ∧ (w'.heap[gb313]? = some (.cells #[.bool false, .slice none 0 0] 24 (0, 0))) ∧ (w'.heap[gb314]? = some (.cells #[.bool false, .slice none 0 0] 24 (0, 0))) ∧ (Below w.heap.size w w')) ?_ ?_
             rotate_left
             ·intro hJ6
              refine join_ (σ := Nat) 5 (bm 15 3007) (fun s_ => [(9, .pointer (some ⟨s_, 0, none⟩))]) (fun s_ w' => (w'.cell? ⟨gb311, 0, none⟩ = some (.bool a0_0) ∧ w'.cell? ⟨gb311, 1, none⟩ = some (.slice A0_1 l0_1.length c0_1) ∧ w'.cell? ⟨gb312, 0, none⟩ = some (.bool a1_0) ∧ w'.cell? ⟨gb312, 1, none⟩ = some (.slice A1_1 l1_1.length c1_1)) ∧ (Kd.R (Kd.int .u64) 25 w' w.heap.size (fun _ => True) (.slice Ao28 t317.length co28) t317) ∧ (Kd.V (Kd.int .u64) 25 w' w.heap.size (fun k_ => some k_ ≠ (.slice Ao28 t317.length co28 : Value).ownBlock ∧ k_ ≠ gb311 ∧ k_ ≠ gb312 ∧ k_ ≠ gb313 ∧ k_ ≠ gb314 ∧ k_ ≠ s_) (.slice Ao29 t320.length co29) t320) ∧ (w'.heap[gb311]? = some (.cells #[.bool a0_0, .slice A0_1 l0_1.length c0_1] 24 (0, 0))) ∧ (w'.heap[gb312]? = some (.cells #[.bool a1_0, .slice A1_1 l1_1.length c1_1] 24 (0, 0))) ∧ (w'.heap[gb313]? = some (.cells #[.bool false, .slice none 0 0] 24 (0, 0))) ∧ (w'.heap[gb314]? = some (.cells #[.bool false, .slice none 0 0] 24 (0, 0))) ∧ (w'.heap[s_]? = some (.cells #[.bool false, .slice none 0 0] 24 (0, 0))) ∧ (w.heap.size ≤ s_) ∧ (w.heap.size ≤ s_) ∧ (gb311 ≠ s_) ∧ (s_ ≠ gb311) ∧ (gb312 ≠ s_) ∧ (s_ ≠ gb312) ∧ (gb313 ≠ s_) ∧ (s_ ≠ gb313) ∧ (gb314 ≠ s_) ∧ (s_ ≠ gb314) ∧ (Below w.heap.size w w')) ?_ ?_
              rotate_left
              ·intro hJ11
               refine join_ (σ := Nat) 5 (bm 15 5055) (fun s_ => [(10, .pointer (some ⟨s_, 0, none⟩))]) (fun s_ w' => (w'.cell? ⟨gb311, 0, none⟩ = some (.bool a0_0) ∧ w'.cell? ⟨gb311, 1, none⟩ = some (.slice A0_1 l0_1.length c0_1) ∧ w'.cell? ⟨gb312, 0, none⟩ = some (.bool a1_0) ∧ w'.cell? ⟨gb312, 1, none⟩ = some (.slice A1_1 l1_1.length c1_1)) ∧ (Kd.R (Kd.int .u64) 25 w' w.heap.size (fun _ => True) (.slice Ao28 t317.length co28) t317) ∧ (Kd.V (Kd.int .u64) 25 w' w.heap.size (fun k_ => some k_ ≠ (.slice Ao28 t317.length co28 : Value).ownBlock ∧ k_ ≠ gb311 ∧ k_ ≠ gb312 ∧ k_ ≠ gb313 ∧ k_ ≠ gb314 ∧ k_ ≠ s_) (.slice Ao29 t320.length co29) t320) ∧ (w'.heap[gb311]? = some (.cells #[.bool a0_0, .slice A0_1 l0_1.length c0_1] 24 (0, 0))) ∧ (w'.heap[gb312]? = some (.cells #[.bool a1_0, .slice A1_1 l1_1.length c1_1] 24 (0, 0))) ∧ (w'.heap[gb313]? = some (.cells #[.bool false, .slice none 0 0] 24 (0, 0))) ∧ (w'.heap[gb314]? = some (.cells #[.bool false, .slice none 0 0] 24 (0, 0))) ∧ (w'.heap[s_]? = some (.cells #[.bool false, .slice none 0 0] 24 (0, 0))) ∧ (w.heap.size ≤ s_) ∧ (w.heap.size ≤ s_) ∧ (gb311 ≠ s_) ∧ (s_ ≠ gb311) ∧ (gb312 ≠ s_) ∧ (s_ ≠ gb312) ∧ (gb313 ≠ s_) ∧ (s_ ≠ gb313) ∧ (gb314 ≠ s_) ∧ (s_ ≠ gb314) ∧ (Below w.heap.size w w')) ?_ ?_
               rotate_left
               ·intro hJ12
                refine three_ (i := 6) (j := 11) (k := 12) (Ni := some 41) (Nj := some 9) (Nk := some 10) (bm 15 1023) (bm 15 3007) (bm 15 5055) rfl rfl rfl rfl rfl rfl (three_of HT_.out (by kernel_rfl)) (by decide) (by decide) (by decide) (fun K hK => ?_) (fun K hK => ?_) (fun K hK => ?_)
                ·skip
                 refine gs Tryz.func94 #[.bool (a0_0 != a1_0), .slice Ao28 t317.length co28] ?_
                 with_reducible refine (whole_form.calls (a0_0 != a1_0) _ _ t317 t323 t324 _ ?side1 (Kd.R_reads' HO319.out).2.1 A9.out).mono ?_
                 (case side1 => exact (Kd.R_reads' HO319.out).2.2)
                 rintro e w31 ⟨v325, rfl, ho0, hb⟩
                 refine ⟨_, rfl, ?_⟩
                 replace HO322 := Az (Kd.V_elder' (vk HO322) (Kd.R_base ho0) hb)
                 have HO326 := Az (Kd.R_lower (Kd.R_new' ho0 (Kd.R_lt (rk HO319))) (below_size (bls HB)))
                 replace HO319 := Az (Kd.R_elder' (rk HO319) (Kd.R_base ho0) hb)
                 replace BK311 := kb BK311 hb
                 replace BK312 := kb BK312 hb
                 replace BK313 := kb BK313 hb
                 replace BK314 := kb BK314 hb
                 replace HB := Az (below_step (bls HB) hb)
                 refine hK.out _ _ hd (fun hHeld => ?_)
                 clear hK K
                 refine nm ?_
                 exact nj (hJ6 (v325) _ ⟨hHeld, (rt (Kd.R_mono HO319.out (fun _ hk => hk.2))), (vt (Kd.V_mono HO322.out (fun _ hk => ⟨hk.1.1, ⟨hk.2, ⟨hk.1.2.1, ⟨hk.1.2.2.1, ⟨hk.1.2.2.2.1, hk.1.2.2.2.2⟩⟩⟩⟩⟩))), (rt (Kd.R_mono HO326.out (fun _ hk => hk.2))), (bk BK311), (bk BK312), (bk BK313), (bk BK314), (bls HB)⟩)
                ·skip
                 refine box_step ?hg (N := 9) ?hd (cs := #[.bool false, .slice none 0 0]) (t := 24) ?hr ?_; (case hd => rfl); (case hg => rfl); (case hr => first | (go_simp; done) | (go_simp; rfl))
                 intro gb331 hg w31 hbox hb
                 replace HO319 := Az (Kd.R_below (rk HO319) hb)
                 replace HO322 := Az (Kd.V_below (Kd.V_elderB (vk HO322) gb331 (Nat.le_of_eq hg.symm)) hb)
                 have BK331 := Az (hbox)
                 have GW331 := gw (bls HB) hg
                 have GE331 := gw (bls HB) hg
                 replace HB := Az (below_step (bls HB) hb)
                 have NB311_331 := nl BK311 hg
                 have NB331_311 := ng BK311 hg
                 replace BK311 := kb BK311 hb
                 have NB312_331 := nl BK312 hg
                 have NB331_312 := ng BK312 hg
                 replace BK312 := kb BK312 hb
                 have NB313_331 := nl BK313 hg
                 have NB331_313 := ng BK313 hg
                 replace BK313 := kb BK313 hb
                 have NB314_331 := nl BK314 hg
                 have NB331_314 := ng BK314 hg
                 replace BK314 := kb BK314 hb
                 clear hb hbox hg
                 refine hK.out _ _ hd (fun hHeld => ?_)
                 clear hK K
                 refine nm ?_
                 exact nj (hJ11 (gb331) _ ⟨hHeld, (rk HO319), (vt (Kd.V_mono HO322.out (fun _ hk => ⟨hk.1.1, ⟨hk.1.2.1, ⟨hk.1.2.2.1, ⟨hk.1.2.2.2.1, ⟨hk.1.2.2.2.2, hk.2⟩⟩⟩⟩⟩))), (bk BK311), (bk BK312), (bk BK313), (bk BK314), (bk BK331), GW331.out, GE331.out, NB311_331.out, NB331_311.out, NB312_331.out, NB331_312.out, NB313_331.out, NB331_313.out, NB314_331.out, NB331_314.out, (bls HB)⟩)
                ·skip
                 refine box_step ?hg (N := 10) ?hd (cs := #[.bool false, .slice none 0 0]) (t := 24) ?hr ?_; (case hd => rfl); (case hg => rfl); (case hr => first | (go_simp; done) | (go_simp; rfl))
                 intro gb332 hg w31 hbox hb
                 replace HO319 := Az (Kd.R_below (rk HO319) hb)
                 replace HO322 := Az (Kd.V_below (Kd.V_elderB (vk HO322) gb332 (Nat.le_of_eq hg.symm)) hb)
                 have BK332 := Az (hbox)
                 have GW332 := gw (bls HB) hg
                 have GE332 := gw (bls HB) hg
                 replace HB := Az (below_step (bls HB) hb)
                 have NB311_332 := nl BK311 hg
                 have NB332_311 := ng BK311 hg
                 replace BK311 := kb BK311 hb
                 have NB312_332 := nl BK312 hg
                 have NB332_312 := ng BK312 hg
                 replace BK312 := kb BK312 hb
                 have NB313_332 := nl BK313 hg
                 have NB332_313 := ng BK313 hg
                 replace BK313 := kb BK313 hb
                 have NB314_332 := nl BK314 hg
                 have NB332_314 := ng BK314 hg
                 replace BK314 := kb BK314 hb
                 clear hb hbox hg
                 refine hK.out _ _ hd (fun hHeld => ?_)
                 clear hK K
                 refine nm ?_
                 exact nj (hJ12 (gb332) _ ⟨hHeld, (rk HO319), (vt (Kd.V_mono HO322.out (fun _ hk => ⟨hk.1.1, ⟨hk.1.2.1, ⟨hk.1.2.2.1, ⟨hk.1.2.2.2.1, ⟨hk.1.2.2.2.2, hk.2⟩⟩⟩⟩⟩))), (bk BK311), (bk BK312), (bk BK313), (bk BK314), (bk BK332), GW332.out, GE332.out, NB311_332.out, NB332_311.out, NB312_332.out, NB332_312.out, NB313_332.out, NB332_313.out, NB314_332.out, NB332_314.out, (bls HB)⟩)
               ·skip
                rintro gb332 w32 ⟨hS_, h0_, h1_, h2_, h3_, h4_, h5_, h6_, h7_, h8_, h9_, h10_, h11_, h12_, h13_, h14_, h15_, h16_, h17_⟩
                have n0_ : Aside0 (Kd.R (Kd.int .u64) 25 w32 w.heap.size (fun _ => True) (.slice Ao28 t317.length co28) t317) := ⟨h0_⟩
                have n1_ : Aside0 (Kd.V (Kd.int .u64) 25 w32 w.heap.size (fun k_ => some k_ ≠ (.slice Ao28 t317.length co28 : Value).ownBlock ∧ k_ ≠ gb311 ∧ k_ ≠ gb312 ∧ k_ ≠ gb313 ∧ k_ ≠ gb314 ∧ k_ ≠ gb332) (.slice Ao29 t320.length co29) t320) := ⟨h1_⟩
                have n2_ : Aside0 (w32.heap[gb311]? = some (.cells #[.bool a0_0, .slice A0_1 l0_1.length c0_1] 24 (0, 0))) := ⟨h2_⟩
                have n3_ : Aside0 (w32.heap[gb312]? = some (.cells #[.bool a1_0, .slice A1_1 l1_1.length c1_1] 24 (0, 0))) := ⟨h3_⟩
                have n4_ : Aside0 (w32.heap[gb313]? = some (.cells #[.bool false, .slice none 0 0] 24 (0, 0))) := ⟨h4_⟩
                have n5_ : Aside0 (w32.heap[gb314]? = some (.cells #[.bool false, .slice none 0 0] 24 (0, 0))) := ⟨h5_⟩
                have n6_ : Aside0 (w32.heap[gb332]? = some (.cells #[.bool false, .slice none 0 0] 24 (0, 0))) := ⟨h6_⟩
                have n7_ : Aside0 (w.heap.size ≤ gb332) := ⟨h7_⟩
                have n8_ : Aside0 (w.heap.size ≤ gb332) := ⟨h8_⟩
                have n9_ : Aside0 (gb311 ≠ gb332) := ⟨h9_⟩
                have n10_ : Aside0 (gb332 ≠ gb311) := ⟨h10_⟩
                have n11_ : Aside0 (gb312 ≠ gb332) := ⟨h11_⟩
                have n12_ : Aside0 (gb332 ≠ gb312) := ⟨h12_⟩
                have n13_ : Aside0 (gb313 ≠ gb332) := ⟨h13_⟩
                have n14_ : Aside0 (gb332 ≠ gb313) := ⟨h14_⟩
                have n15_ : Aside0 (gb314 ≠ gb332) := ⟨h15_⟩
                have n16_ : Aside0 (gb332 ≠ gb314) := ⟨h16_⟩
                have n17_ : Aside0 (Below w.heap.size w w32) := ⟨h17_⟩
                clear HO319
                clear HO322
                clear BK311
                clear BK312
                clear BK313
                clear BK314
                clear HB
                clear h0_ h1_ h2_ h3_ h4_ h5_ h6_ h7_ h8_ h9_ h10_ h11_ h12_ h13_ h14_ h15_ h16_ h17_
                have HO319 := n0_
                have HO322 := n1_
                have BK311 := n2_
                have BK312 := n3_
                have BK313 := n4_
                have BK314 := n5_
                have BK332 := n6_
                have GW332 := n7_
                have GE332 := n8_
                have NB311_332 := n9_
                have NB332_311 := n10_
                have NB312_332 := n11_
                have NB332_312 := n12_
                have NB313_332 := n13_
                have NB332_313 := n14_
                have NB314_332 := n15_
                have NB332_314 := n16_
                have HB := n17_
                clear n0_ n1_ n2_ n3_ n4_ n5_ n6_ n7_ n8_ n9_ n10_ n11_ n12_ n13_ n14_ n15_ n16_ n17_
                have hHeld : w32.cell? ⟨gb311, 0, none⟩ = some (.bool a0_0) ∧ w32.cell? ⟨gb311, 1, none⟩ = some (.slice A0_1 l0_1.length c0_1) ∧ w32.cell? ⟨gb312, 0, none⟩ = some (.bool a1_0) ∧ w32.cell? ⟨gb312, 1, none⟩ = some (.slice A1_1 l1_1.length c1_1) := hS_
                refine norm_ (a' := ?_) ?_ ?_
                rotate_left
                ·simp only [putAll, Act.put, List.setIfInBounds_toArray, List.set_cons_zero, List.set_cons_succ]
                 rfl
                refine two_ (i := 6) (j := 11) (Ni := some 41) (Nj := some 9) (bm 15 5119) (bm 15 7103) rfl rfl rfl rfl (two_of HT_.out (by kernel_rfl)) (by decide) (by decide) (fun K hK => ?_) (fun K hK => ?_)
                ·skip
                 refine gs Tryz.func94 #[.bool (a0_0 != a1_0), .slice Ao28 t317.length co28] ?_
                 with_reducible refine (whole_form.calls (a0_0 != a1_0) _ _ t317 t323 t324 _ ?side1 (Kd.R_reads' HO319.out).2.1 A9.out).mono ?_
                 (case side1 => exact (Kd.R_reads' HO319.out).2.2)
                 rintro e w33 ⟨v325, rfl, ho0, hb⟩
                 refine ⟨_, rfl, ?_⟩
                 replace HO322 := Az (Kd.V_elder' (vk HO322) (Kd.R_base ho0) hb)
                 have HO326 := Az (Kd.R_lower (Kd.R_new' ho0 (Kd.R_lt (rk HO319))) (below_size (bls HB)))
                 replace HO319 := Az (Kd.R_elder' (rk HO319) (Kd.R_base ho0) hb)
                 replace BK311 := kb BK311 hb
                 replace BK312 := kb BK312 hb
                 replace BK313 := kb BK313 hb
                 replace BK314 := kb BK314 hb
                 replace BK332 := kb BK332 hb
                 replace HB := Az (below_step (bls HB) hb)
                 refine hK.out _ _ hd (fun hHeld => ?_)
                 clear hK K
                 refine nm ?_
                 exact nj (hJ6_12 (v325, gb332) _ ⟨hHeld, (rt (Kd.R_mono HO319.out (fun _ hk => hk.2))), (vt (Kd.V_mono HO322.out (fun _ hk => ⟨hk.1.1, ⟨hk.2, ⟨hk.1.2.1, ⟨hk.1.2.2.1, ⟨hk.1.2.2.2.1, ⟨hk.1.2.2.2.2.1, hk.1.2.2.2.2.2⟩⟩⟩⟩⟩⟩))), (rt (Kd.R_mono HO326.out (fun _ hk => hk.2))), (bk BK311), (bk BK312), (bk BK313), (bk BK314), (bk BK332), GW332.out, GE332.out, NB311_332.out, NB332_311.out, NB312_332.out, NB332_312.out, NB313_332.out, NB332_313.out, NB314_332.out, NB332_314.out, (bls HB)⟩)
                ·skip
                 refine box_step ?hg (N := 9) ?hd (cs := #[.bool false, .slice none 0 0]) (t := 24) ?hr ?_; (case hd => rfl); (case hg => rfl); (case hr => first | (go_simp; done) | (go_simp; rfl))
                 intro gb331 hg w33 hbox hb
                 replace HO319 := Az (Kd.R_below (rk HO319) hb)
                 replace HO322 := Az (Kd.V_below (Kd.V_elderB (vk HO322) gb331 (Nat.le_of_eq hg.symm)) hb)
                 have BK331 := Az (hbox)
                 have GW331 := gw (bls HB) hg
                 have GE331 := gw (bls HB) hg
                 replace HB := Az (below_step (bls HB) hb)
                 have NB311_331 := nl BK311 hg
                 have NB331_311 := ng BK311 hg
                 replace BK311 := kb BK311 hb
                 have NB312_331 := nl BK312 hg
                 have NB331_312 := ng BK312 hg
                 replace BK312 := kb BK312 hb
                 have NB313_331 := nl BK313 hg
                 have NB331_313 := ng BK313 hg
                 replace BK313 := kb BK313 hb
                 have NB314_331 := nl BK314 hg
                 have NB331_314 := ng BK314 hg
                 replace BK314 := kb BK314 hb
                 have NB332_331 := nl BK332 hg
                 have NB331_332 := ng BK332 hg
                 replace BK332 := kb BK332 hb
                 clear hb hbox hg
                 refine hK.out _ _ hd (fun hHeld => ?_)
                 clear hK K
                 refine nm ?_
                 exact nj (hJ11_12 (gb331, gb332) _ ⟨hHeld, (rk HO319), (vt (Kd.V_mono HO322.out (fun _ hk => ⟨hk.1.1, ⟨hk.1.2.1, ⟨hk.1.2.2.1, ⟨hk.1.2.2.2.1, ⟨hk.1.2.2.2.2.1, ⟨hk.2, hk.1.2.2.2.2.2⟩⟩⟩⟩⟩⟩))), (bk BK311), (bk BK312), (bk BK313), (bk BK314), (bk BK331), (bk BK332), GW331.out, GE331.out, NB311_331.out, NB331_311.out, NB312_331.out, NB331_312.out, NB313_331.out, NB331_313.out, NB314_331.out, NB331_314.out, NB332_331.out, NB331_332.out, GW332.out, GE332.out, NB311_332.out, NB332_311.out, NB312_332.out, NB332_312.out, NB313_332.out, NB332_313.out, NB314_332.out, NB332_314.out, (bls HB)⟩)
              ·skip
               rintro gb331 w32 ⟨hS_, h0_, h1_, h2_, h3_, h4_, h5_, h6_, h7_, h8_, h9_, h10_, h11_, h12_, h13_, h14_, h15_, h16_, h17_⟩
               have n0_ : Aside0 (Kd.R (Kd.int .u64) 25 w32 w.heap.size (fun _ => True) (.slice Ao28 t317.length co28) t317) := ⟨h0_⟩
               have n1_ : Aside0 (Kd.V (Kd.int .u64) 25 w32 w.heap.size (fun k_ => some k_ ≠ (.slice Ao28 t317.length co28 : Value).ownBlock ∧ k_ ≠ gb311 ∧ k_ ≠ gb312 ∧ k_ ≠ gb313 ∧ k_ ≠ gb314 ∧ k_ ≠ gb331) (.slice Ao29 t320.length co29) t320) := ⟨h1_⟩
               have n2_ : Aside0 (w32.heap[gb311]? = some (.cells #[.bool a0_0, .slice A0_1 l0_1.length c0_1] 24 (0, 0))) := ⟨h2_⟩
               have n3_ : Aside0 (w32.heap[gb312]? = some (.cells #[.bool a1_0, .slice A1_1 l1_1.length c1_1] 24 (0, 0))) := ⟨h3_⟩
               have n4_ : Aside0 (w32.heap[gb313]? = some (.cells #[.bool false, .slice none 0 0] 24 (0, 0))) := ⟨h4_⟩
               have n5_ : Aside0 (w32.heap[gb314]? = some (.cells #[.bool false, .slice none 0 0] 24 (0, 0))) := ⟨h5_⟩
               have n6_ : Aside0 (w32.heap[gb331]? = some (.cells #[.bool false, .slice none 0 0] 24 (0, 0))) := ⟨h6_⟩
               have n7_ : Aside0 (w.heap.size ≤ gb331) := ⟨h7_⟩
               have n8_ : Aside0 (w.heap.size ≤ gb331) := ⟨h8_⟩
               have n9_ : Aside0 (gb311 ≠ gb331) := ⟨h9_⟩
               have n10_ : Aside0 (gb331 ≠ gb311) := ⟨h10_⟩
               have n11_ : Aside0 (gb312 ≠ gb331) := ⟨h11_⟩
               have n12_ : Aside0 (gb331 ≠ gb312) := ⟨h12_⟩
               have n13_ : Aside0 (gb313 ≠ gb331) := ⟨h13_⟩
               have n14_ : Aside0 (gb331 ≠ gb313) := ⟨h14_⟩
               have n15_ : Aside0 (gb314 ≠ gb331) := ⟨h15_⟩
               have n16_ : Aside0 (gb331 ≠ gb314) := ⟨h16_⟩
               have n17_ : Aside0 (Below w.heap.size w w32) := ⟨h17_⟩
               clear HO319
               clear HO322
               clear BK311
               clear BK312
               clear BK313
               clear BK314
               clear HB
               clear h0_ h1_ h2_ h3_ h4_ h5_ h6_ h7_ h8_ h9_ h10_ h11_ h12_ h13_ h14_ h15_ h16_ h17_
               have HO319 := n0_
               have HO322 := n1_
               have BK311 := n2_
               have BK312 := n3_
               have BK313 := n4_
               have BK314 := n5_
               have BK331 := n6_
               have GW331 := n7_
               have GE331 := n8_
               have NB311_331 := n9_
               have NB331_311 := n10_
               have NB312_331 := n11_
               have NB331_312 := n12_
               have NB313_331 := n13_
               have NB331_313 := n14_
               have NB314_331 := n15_
               have NB331_314 := n16_
               have HB := n17_
               clear n0_ n1_ n2_ n3_ n4_ n5_ n6_ n7_ n8_ n9_ n10_ n11_ n12_ n13_ n14_ n15_ n16_ n17_
               have hHeld : w32.cell? ⟨gb311, 0, none⟩ = some (.bool a0_0) ∧ w32.cell? ⟨gb311, 1, none⟩ = some (.slice A0_1 l0_1.length c0_1) ∧ w32.cell? ⟨gb312, 0, none⟩ = some (.bool a1_0) ∧ w32.cell? ⟨gb312, 1, none⟩ = some (.slice A1_1 l1_1.length c1_1) := hS_
               refine norm_ (a' := ?_) ?_ ?_
               rotate_left
               ·simp only [putAll, Act.put, List.setIfInBounds_toArray, List.set_cons_zero, List.set_cons_succ]
                rfl
               refine two_ (i := 6) (j := 12) (Ni := some 41) (Nj := some 10) (bm 15 3071) (bm 15 7103) rfl rfl rfl rfl (two_of HT_.out (by kernel_rfl)) (by decide) (by decide) (fun K hK => ?_) (fun K hK => ?_)
               ·skip
                refine gs Tryz.func94 #[.bool (a0_0 != a1_0), .slice Ao28 t317.length co28] ?_
                with_reducible refine (whole_form.calls (a0_0 != a1_0) _ _ t317 t323 t324 _ ?side1 (Kd.R_reads' HO319.out).2.1 A9.out).mono ?_
                (case side1 => exact (Kd.R_reads' HO319.out).2.2)
                rintro e w33 ⟨v325, rfl, ho0, hb⟩
                refine ⟨_, rfl, ?_⟩
                replace HO322 := Az (Kd.V_elder' (vk HO322) (Kd.R_base ho0) hb)
                have HO326 := Az (Kd.R_lower (Kd.R_new' ho0 (Kd.R_lt (rk HO319))) (below_size (bls HB)))
                replace HO319 := Az (Kd.R_elder' (rk HO319) (Kd.R_base ho0) hb)
                replace BK311 := kb BK311 hb
                replace BK312 := kb BK312 hb
                replace BK313 := kb BK313 hb
                replace BK314 := kb BK314 hb
                replace BK331 := kb BK331 hb
                replace HB := Az (below_step (bls HB) hb)
                refine hK.out _ _ hd (fun hHeld => ?_)
                clear hK K
                refine nm ?_
                exact nj (hJ6_11 (v325, gb331) _ ⟨hHeld, (rt (Kd.R_mono HO319.out (fun _ hk => hk.2))), (vt (Kd.V_mono HO322.out (fun _ hk => ⟨hk.1.1, ⟨hk.2, ⟨hk.1.2.1, ⟨hk.1.2.2.1, ⟨hk.1.2.2.2.1, ⟨hk.1.2.2.2.2.1, hk.1.2.2.2.2.2⟩⟩⟩⟩⟩⟩))), (rt (Kd.R_mono HO326.out (fun _ hk => hk.2))), (bk BK311), (bk BK312), (bk BK313), (bk BK314), (bk BK331), GW331.out, GE331.out, NB311_331.out, NB331_311.out, NB312_331.out, NB331_312.out, NB313_331.out, NB331_313.out, NB314_331.out, NB331_314.out, (bls HB)⟩)
               ·skip
                refine box_step ?hg (N := 10) ?hd (cs := #[.bool false, .slice none 0 0]) (t := 24) ?hr ?_; (case hd => rfl); (case hg => rfl); (case hr => first | (go_simp; done) | (go_simp; rfl))
                intro gb332 hg w33 hbox hb
                replace HO319 := Az (Kd.R_below (rk HO319) hb)
                replace HO322 := Az (Kd.V_below (Kd.V_elderB (vk HO322) gb332 (Nat.le_of_eq hg.symm)) hb)
                have BK332 := Az (hbox)
                have GW332 := gw (bls HB) hg
                have GE332 := gw (bls HB) hg
                replace HB := Az (below_step (bls HB) hb)
                have NB311_332 := nl BK311 hg
                have NB332_311 := ng BK311 hg
                replace BK311 := kb BK311 hb
                have NB312_332 := nl BK312 hg
                have NB332_312 := ng BK312 hg
                replace BK312 := kb BK312 hb
                have NB313_332 := nl BK313 hg
                have NB332_313 := ng BK313 hg
                replace BK313 := kb BK313 hb
                have NB314_332 := nl BK314 hg
                have NB332_314 := ng BK314 hg
                replace BK314 := kb BK314 hb
                have NB331_332 := nl BK331 hg
                have NB332_331 := ng BK331 hg
                replace BK331 := kb BK331 hb
                clear hb hbox hg
                refine hK.out _ _ hd (fun hHeld => ?_)
                clear hK K
                refine nm ?_
                exact nj (hJ11_12 (gb331, gb332) _ ⟨hHeld, (rk HO319), (vt (Kd.V_mono HO322.out (fun _ hk => ⟨hk.1.1, ⟨hk.1.2.1, ⟨hk.1.2.2.1, ⟨hk.1.2.2.2.1, ⟨hk.1.2.2.2.2.1, ⟨hk.1.2.2.2.2.2, hk.2⟩⟩⟩⟩⟩⟩))), (bk BK311), (bk BK312), (bk BK313), (bk BK314), (bk BK331), (bk BK332), GW331.out, GE331.out, NB311_331.out, NB331_311.out, NB312_331.out, NB331_312.out, NB313_331.out, NB331_313.out, NB314_331.out, NB331_314.out, NB332_331.out, NB331_332.out, GW332.out, GE332.out, NB311_332.out, NB332_311.out, NB312_332.out, NB332_312.out, NB313_332.out, NB332_313.out, NB314_332.out, NB332_314.out, (bls HB)⟩)
             ·skip
              rintro v325 w32 ⟨hS_, h0_, h1_, h2_, h3_, h4_, h5_, h6_, h7_⟩
              have n0_ : Aside0 (Kd.R (Kd.int .u64) 25 w32 w.heap.size (fun k_ => some k_ ≠ (v325 : Value).ownBlock) (.slice Ao28 t317.length co28) t317) := ⟨h0_⟩
              have n1_ : Aside0 (Kd.V (Kd.int .u64) 25 w32 w.heap.size (fun k_ => some k_ ≠ (.slice Ao28 t317.length co28 : Value).ownBlock ∧ some k_ ≠ (v325 : Value).ownBlock ∧ k_ ≠ gb311 ∧ k_ ≠ gb312 ∧ k_ ≠ gb313 ∧ k_ ≠ gb314) (.slice Ao29 t320.length co29) t320) := ⟨h1_⟩
              have n2_ : Aside0 (Kd.R (Kd.int .u64) 25 w32 w.heap.size (fun k_ => some k_ ≠ (.slice Ao28 t317.length co28 : Value).ownBlock) v325 t324) := ⟨h2_⟩
              have n3_ : Aside0 (w32.heap[gb311]? = some (.cells #[.bool a0_0, .slice A0_1 l0_1.length c0_1] 24 (0, 0))) := ⟨h3_⟩
              have n4_ : Aside0 (w32.heap[gb312]? = some (.cells #[.bool a1_0, .slice A1_1 l1_1.length c1_1] 24 (0, 0))) := ⟨h4_⟩
              have n5_ : Aside0 (w32.heap[gb313]? = some (.cells #[.bool false, .slice none 0 0] 24 (0, 0))) := ⟨h5_⟩
              have n6_ : Aside0 (w32.heap[gb314]? = some (.cells #[.bool false, .slice none 0 0] 24 (0, 0))) := ⟨h6_⟩
              have n7_ : Aside0 (Below w.heap.size w w32) := ⟨h7_⟩
              clear HO319
              clear HO322
              clear BK311
              clear BK312
              clear BK313
              clear BK314
              clear HB
              clear h0_ h1_ h2_ h3_ h4_ h5_ h6_ h7_
              have HO319 := n0_
              have HO322 := n1_
              have HO326 := n2_
              have BK311 := n3_
              have BK312 := n4_
              have BK313 := n5_
              have BK314 := n6_
              have HB := n7_
              clear n0_ n1_ n2_ n3_ n4_ n5_ n6_ n7_
              have hHeld : w32.cell? ⟨gb311, 0, none⟩ = some (.bool a0_0) ∧ w32.cell? ⟨gb311, 1, none⟩ = some (.slice A0_1 l0_1.length c0_1) ∧ w32.cell? ⟨gb312, 0, none⟩ = some (.bool a1_0) ∧ w32.cell? ⟨gb312, 1, none⟩ = some (.slice A1_1 l1_1.length c1_1) := hS_
              refine norm_ (a' := ?_) ?_ ?_
              rotate_left
              ·simp only [putAll, Act.put, List.setIfInBounds_toArray, List.set_cons_zero, List.set_cons_succ]
               rfl
              refine three_ (i := 10) (j := 11) (k := 12) (Ni := some 45) (Nj := some 9) (Nk := some 10) (bm 15 2047) (bm 15 3071) (bm 15 5119) rfl rfl rfl rfl rfl rfl (three_of HT_.out (by kernel_rfl)) (by decide) (by decide) (by decide) (fun K hK => ?_) (fun K hK => ?_) (fun K hK => ?_)
              ·skip
               refine gs Tryz.func94 #[.bool a0_0, .slice Ao29 t320.length co29] ?_
               with_reducible refine (whole_form.calls a0_0 _ _ t320 t327 t328 _ ?side1 (Kd.V_reads' HO322.out).2.1 A10.out).mono ?_
               (case side1 => exact (Kd.V_reads' HO322.out).2.2)
               rintro e w33 ⟨v329, rfl, ho0, hb⟩
               refine ⟨_, rfl, ?_⟩
               replace HO322 := Az (Kd.V_elder' (vk HO322) (Kd.R_base ho0) hb)
               have HO330 := Az (Kd.R_lower (Kd.R_new' (Kd.R_new' ho0 (Kd.R_lt (rk HO319))) (Kd.R_lt (rk HO326))) (below_size (bls HB)))
               replace HO319 := Az (Kd.R_elder' (rk HO319) (Kd.R_base ho0) hb)
               replace HO326 := Az (Kd.R_elder' (rk HO326) (Kd.R_base ho0) hb)
               replace BK311 := kb BK311 hb
               replace BK312 := kb BK312 hb
               replace BK313 := kb BK313 hb
               replace BK314 := kb BK314 hb
               replace HB := Az (below_step (bls HB) hb)
               refine hK.out _ _ hd (fun hHeld => ?_)
               clear hK K
               refine nm ?_
               exact nj (hJ6_10 (v325, v329) _ ⟨hHeld, (rk HO319), (vt (Kd.V_mono HO322.out (fun _ hk => ⟨hk.1.1, ⟨hk.1.2.1, ⟨hk.2, ⟨hk.1.2.2.1, ⟨hk.1.2.2.2.1, ⟨hk.1.2.2.2.2.1, hk.1.2.2.2.2.2⟩⟩⟩⟩⟩⟩))), (rk HO326), (rt (Kd.R_mono HO330.out (fun _ hk => ⟨hk.1.2, hk.2⟩))), (bk BK311), (bk BK312), (bk BK313), (bk BK314), (bls HB)⟩)
              ·skip
               refine box_step ?hg (N := 9) ?hd (cs := #[.bool false, .slice none 0 0]) (t := 24) ?hr ?_; (case hd => rfl); (case hg => rfl); (case hr => first | (go_simp; done) | (go_simp; rfl))
               intro gb331 hg w33 hbox hb
               replace HO319 := Az (Kd.R_below (rk HO319) hb)
               replace HO322 := Az (Kd.V_below (Kd.V_elderB (vk HO322) gb331 (Nat.le_of_eq hg.symm)) hb)
               replace HO326 := Az (Kd.R_below (rk HO326) hb)
               have BK331 := Az (hbox)
               have GW331 := gw (bls HB) hg
               have GE331 := gw (bls HB) hg
               replace HB := Az (below_step (bls HB) hb)
               have NB311_331 := nl BK311 hg
               have NB331_311 := ng BK311 hg
               replace BK311 := kb BK311 hb
               have NB312_331 := nl BK312 hg
               have NB331_312 := ng BK312 hg
               replace BK312 := kb BK312 hb
               have NB313_331 := nl BK313 hg
               have NB331_313 := ng BK313 hg
               replace BK313 := kb BK313 hb
               have NB314_331 := nl BK314 hg
               have NB331_314 := ng BK314 hg
               replace BK314 := kb BK314 hb
               clear hb hbox hg
               refine hK.out _ _ hd (fun hHeld => ?_)
               clear hK K
               refine nm ?_
               exact nj (hJ6_11 (v325, gb331) _ ⟨hHeld, (rk HO319), (vt (Kd.V_mono HO322.out (fun _ hk => ⟨hk.1.1, ⟨hk.1.2.1, ⟨hk.1.2.2.1, ⟨hk.1.2.2.2.1, ⟨hk.1.2.2.2.2.1, ⟨hk.1.2.2.2.2.2, hk.2⟩⟩⟩⟩⟩⟩))), (rk HO326), (bk BK311), (bk BK312), (bk BK313), (bk BK314), (bk BK331), GW331.out, GE331.out, NB311_331.out, NB331_311.out, NB312_331.out, NB331_312.out, NB313_331.out, NB331_313.out, NB314_331.out, NB331_314.out, (bls HB)⟩)
              ·skip
               refine box_step ?hg (N := 10) ?hd (cs := #[.bool false, .slice none 0 0]) (t := 24) ?hr ?_; (case hd => rfl); (case hg => rfl); (case hr => first | (go_simp; done) | (go_simp; rfl))
               intro gb332 hg w33 hbox hb
               replace HO319 := Az (Kd.R_below (rk HO319) hb)
               replace HO322 := Az (Kd.V_below (Kd.V_elderB (vk HO322) gb332 (Nat.le_of_eq hg.symm)) hb)
               replace HO326 := Az (Kd.R_below (rk HO326) hb)
               have BK332 := Az (hbox)
               have GW332 := gw (bls HB) hg
               have GE332 := gw (bls HB) hg
               replace HB := Az (below_step (bls HB) hb)
               have NB311_332 := nl BK311 hg
               have NB332_311 := ng BK311 hg
               replace BK311 := kb BK311 hb
               have NB312_332 := nl BK312 hg
               have NB332_312 := ng BK312 hg
               replace BK312 := kb BK312 hb
               have NB313_332 := nl BK313 hg
               have NB332_313 := ng BK313 hg
               replace BK313 := kb BK313 hb
               have NB314_332 := nl BK314 hg
               have NB332_314 := ng BK314 hg
               replace BK314 := kb BK314 hb
               clear hb hbox hg
               refine hK.out _ _ hd (fun hHeld => ?_)
               clear hK K
               refine nm ?_
               exact nj (hJ6_12 (v325, gb332) _ ⟨hHeld, (rk HO319), (vt (Kd.V_mono HO322.out (fun _ hk => ⟨hk.1.1, ⟨hk.1.2.1, ⟨hk.1.2.2.1, ⟨hk.1.2.2.2.1, ⟨hk.1.2.2.2.2.1, ⟨hk.1.2.2.2.2.2, hk.2⟩⟩⟩⟩⟩⟩))), (rk HO326), (bk BK311), (bk BK312), (bk BK313), (bk BK314), (bk BK332), GW332.out, GE332.out, NB311_332.out, NB332_311.out, NB312_332.out, NB332_312.out, NB313_332.out, NB332_313.out, NB314_332.out, NB332_314.out, (bls HB)⟩)
            ·skip
             rintro ⟨gb331, gb332⟩ w33 ⟨hS_, h0_, h1_, h2_, h3_, h4_, h5_, h6_, h7_, h8_, h9_, h10_, h11_, h12_, h13_, h14_, h15_, h16_, h17_, h18_, h19_, h20_, h21_, h22_, h23_, h24_, h25_, h26_, h27_, h28_, h29_, h30_⟩
             have n0_ : Aside0 (Kd.R (Kd.int .u64) 25 w33 w.heap.size (fun _ => True) (.slice Ao28 t317.length co28) t317) := ⟨h0_⟩
             have n1_ : Aside0 (Kd.V (Kd.int .u64) 25 w33 w.heap.size (fun k_ => some k_ ≠ (.slice Ao28 t317.length co28 : Value).ownBlock ∧ k_ ≠ gb311 ∧ k_ ≠ gb312 ∧ k_ ≠ gb313 ∧ k_ ≠ gb314 ∧ k_ ≠ gb331 ∧ k_ ≠ gb332) (.slice Ao29 t320.length co29) t320) := ⟨h1_⟩
             have n2_ : Aside0 (w33.heap[gb311]? = some (.cells #[.bool a0_0, .slice A0_1 l0_1.length c0_1] 24 (0, 0))) := ⟨h2_⟩
             have n3_ : Aside0 (w33.heap[gb312]? = some (.cells #[.bool a1_0, .slice A1_1 l1_1.length c1_1] 24 (0, 0))) := ⟨h3_⟩
             have n4_ : Aside0 (w33.heap[gb313]? = some (.cells #[.bool false, .slice none 0 0] 24 (0, 0))) := ⟨h4_⟩
             have n5_ : Aside0 (w33.heap[gb314]? = some (.cells #[.bool false, .slice none 0 0] 24 (0, 0))) := ⟨h5_⟩
             have n6_ : Aside0 (w33.heap[gb331]? = some (.cells #[.bool false, .slice none 0 0] 24 (0, 0))) := ⟨h6_⟩
             have n7_ : Aside0 (w33.heap[gb332]? = some (.cells #[.bool false, .slice none 0 0] 24 (0, 0))) := ⟨h7_⟩
             have n8_ : Aside0 (w.heap.size ≤ gb331) := ⟨h8_⟩
             have n9_ : Aside0 (w.heap.size ≤ gb331) := ⟨h9_⟩
             have n10_ : Aside0 (gb311 ≠ gb331) := ⟨h10_⟩
             have n11_ : Aside0 (gb331 ≠ gb311) := ⟨h11_⟩
             have n12_ : Aside0 (gb312 ≠ gb331) := ⟨h12_⟩
             have n13_ : Aside0 (gb331 ≠ gb312) := ⟨h13_⟩
             have n14_ : Aside0 (gb313 ≠ gb331) := ⟨h14_⟩
             have n15_ : Aside0 (gb331 ≠ gb313) := ⟨h15_⟩
             have n16_ : Aside0 (gb314 ≠ gb331) := ⟨h16_⟩
             have n17_ : Aside0 (gb331 ≠ gb314) := ⟨h17_⟩
             have n18_ : Aside0 (gb332 ≠ gb331) := ⟨h18_⟩
             have n19_ : Aside0 (gb331 ≠ gb332) := ⟨h19_⟩
             have n20_ : Aside0 (w.heap.size ≤ gb332) := ⟨h20_⟩
             have n21_ : Aside0 (w.heap.size ≤ gb332) := ⟨h21_⟩
             have n22_ : Aside0 (gb311 ≠ gb332) := ⟨h22_⟩
             have n23_ : Aside0 (gb332 ≠ gb311) := ⟨h23_⟩
             have n24_ : Aside0 (gb312 ≠ gb332) := ⟨h24_⟩
             have n25_ : Aside0 (gb332 ≠ gb312) := ⟨h25_⟩
             have n26_ : Aside0 (gb313 ≠ gb332) := ⟨h26_⟩
             have n27_ : Aside0 (gb332 ≠ gb313) := ⟨h27_⟩
             have n28_ : Aside0 (gb314 ≠ gb332) := ⟨h28_⟩
             have n29_ : Aside0 (gb332 ≠ gb314) := ⟨h29_⟩
             have n30_ : Aside0 (Below w.heap.size w w33) := ⟨h30_⟩
             clear HO319
             clear HO322
             clear BK311
             clear BK312
             clear BK313
             clear BK314
             clear HB
             clear h0_ h1_ h2_ h3_ h4_ h5_ h6_ h7_ h8_ h9_ h10_ h11_ h12_ h13_ h14_ h15_ h16_ h17_ h18_ h19_ h20_ h21_ h22_ h23_ h24_ h25_ h26_ h27_ h28_ h29_ h30_
             have HO319 := n0_
             have HO322 := n1_
             have BK311 := n2_
             have BK312 := n3_
             have BK313 := n4_
             have BK314 := n5_
             have BK331 := n6_
             have BK332 := n7_
             have GW331 := n8_
             have GE331 := n9_
             have NB311_331 := n10_
             have NB331_311 := n11_
             have NB312_331 := n12_
             have NB331_312 := n13_
             have NB313_331 := n14_
             have NB331_313 := n15_
             have NB314_331 := n16_
             have NB331_314 := n17_
             have NB332_331 := n18_
             have NB331_332 := n19_
             have GW332 := n20_
             have GE332 := n21_
             have NB311_332 := n22_
             have NB332_311 := n23_
             have NB312_332 := n24_
             have NB332_312 := n25_
             have NB313_332 := n26_
             have NB332_313 := n27_
             have NB314_332 := n28_
             have NB332_314 := n29_
             have HB := n30_
             clear n0_ n1_ n2_ n3_ n4_ n5_ n6_ n7_ n8_ n9_ n10_ n11_ n12_ n13_ n14_ n15_ n16_ n17_ n18_ n19_ n20_ n21_ n22_ n23_ n24_ n25_ n26_ n27_ n28_ n29_ n30_
             have hHeld : w33.cell? ⟨gb311, 0, none⟩ = some (.bool a0_0) ∧ w33.cell? ⟨gb311, 1, none⟩ = some (.slice A0_1 l0_1.length c0_1) ∧ w33.cell? ⟨gb312, 0, none⟩ = some (.bool a1_0) ∧ w33.cell? ⟨gb312, 1, none⟩ = some (.slice A1_1 l1_1.length c1_1) := hS_
             refine norm_ (a' := ?_) ?_ ?_
             rotate_left
             ·simp only [putAll, Act.put, List.setIfInBounds_toArray, List.set_cons_zero, List.set_cons_succ]
              rfl
             refine on 6 (some 41) (bm 15 7167) HT_.out (fun K hK => ?_)
             refine gs Tryz.func94 #[.bool (a0_0 != a1_0), .slice Ao28 t317.length co28] ?_
             with_reducible refine (whole_form.calls (a0_0 != a1_0) _ _ t317 t323 t324 _ ?side1 (Kd.R_reads' HO319.out).2.1 A9.out).mono ?_
             (case side1 => exact (Kd.R_reads' HO319.out).2.2)
             rintro e w34 ⟨v325, rfl, ho0, hb⟩
             refine ⟨_, rfl, ?_⟩
             replace HO322 := Az (Kd.V_elder' (vk HO322) (Kd.R_base ho0) hb)
             have HO326 := Az (Kd.R_lower (Kd.R_new' ho0 (Kd.R_lt (rk HO319))) (below_size (bls HB)))
             replace HO319 := Az (Kd.R_elder' (rk HO319) (Kd.R_base ho0) hb)
             replace BK311 := kb BK311 hb
             replace BK312 := kb BK312 hb
             replace BK313 := kb BK313 hb
             replace BK314 := kb BK314 hb
             replace BK331 := kb BK331 hb
             replace BK332 := kb BK332 hb
             replace HB := Az (below_step (bls HB) hb)
             refine hK.out _ _ hd (fun hHeld => ?_)
             clear hK K
             refine nm ?_
             exact nj (hJ6_11_12 (v325, gb331, gb332) _ ⟨hHeld, (rt (Kd.R_mono HO319.out (fun _ hk => hk.2))), (vt (Kd.V_mono HO322.out (fun _ hk => ⟨hk.1.1, ⟨hk.2, ⟨hk.1.2.1, ⟨hk.1.2.2.1, ⟨hk.1.2.2.2.1, ⟨hk.1.2.2.2.2.1, ⟨hk.1.2.2.2.2.2.1, hk.1.2.2.2.2.2.2⟩⟩⟩⟩⟩⟩⟩))), (rt (Kd.R_mono HO326.out (fun _ hk => hk.2))), (bk BK311), (bk BK312), (bk BK313), (bk BK314), (bk BK331), (bk BK332), GW331.out, GE331.out, NB311_331.out, NB331_311.out, NB312_331.out, NB331_312.out, NB313_331.out, NB331_313.out, NB314_331.out, NB331_314.out, NB332_331.out, NB331_332.out, GW332.out, GE332.out, NB311_332.out, NB332_311.out, NB312_332.out, NB332_312.out, NB313_332.out, NB332_313.out, NB314_332.out, NB332_314.out, (bls HB)⟩)
           ·skip
            rintro ⟨v325, gb332⟩ w33 ⟨hS_, h0_, h1_, h2_, h3_, h4_, h5_, h6_, h7_, h8_, h9_, h10_, h11_, h12_, h13_, h14_, h15_, h16_, h17_, h18_⟩
            have n0_ : Aside0 (Kd.R (Kd.int .u64) 25 w33 w.heap.size (fun k_ => some k_ ≠ (v325 : Value).ownBlock) (.slice Ao28 t317.length co28) t317) := ⟨h0_⟩
            have n1_ : Aside0 (Kd.V (Kd.int .u64) 25 w33 w.heap.size (fun k_ => some k_ ≠ (.slice Ao28 t317.length co28 : Value).ownBlock ∧ some k_ ≠ (v325 : Value).ownBlock ∧ k_ ≠ gb311 ∧ k_ ≠ gb312 ∧ k_ ≠ gb313 ∧ k_ ≠ gb314 ∧ k_ ≠ gb332) (.slice Ao29 t320.length co29) t320) := ⟨h1_⟩
            have n2_ : Aside0 (Kd.R (Kd.int .u64) 25 w33 w.heap.size (fun k_ => some k_ ≠ (.slice Ao28 t317.length co28 : Value).ownBlock) v325 t324) := ⟨h2_⟩
            have n3_ : Aside0 (w33.heap[gb311]? = some (.cells #[.bool a0_0, .slice A0_1 l0_1.length c0_1] 24 (0, 0))) := ⟨h3_⟩
            have n4_ : Aside0 (w33.heap[gb312]? = some (.cells #[.bool a1_0, .slice A1_1 l1_1.length c1_1] 24 (0, 0))) := ⟨h4_⟩
            have n5_ : Aside0 (w33.heap[gb313]? = some (.cells #[.bool false, .slice none 0 0] 24 (0, 0))) := ⟨h5_⟩
            have n6_ : Aside0 (w33.heap[gb314]? = some (.cells #[.bool false, .slice none 0 0] 24 (0, 0))) := ⟨h6_⟩
            have n7_ : Aside0 (w33.heap[gb332]? = some (.cells #[.bool false, .slice none 0 0] 24 (0, 0))) := ⟨h7_⟩
            have n8_ : Aside0 (w.heap.size ≤ gb332) := ⟨h8_⟩
            have n9_ : Aside0 (w.heap.size ≤ gb332) := ⟨h9_⟩
            have n10_ : Aside0 (gb311 ≠ gb332) := ⟨h10_⟩
            have n11_ : Aside0 (gb332 ≠ gb311) := ⟨h11_⟩
            have n12_ : Aside0 (gb312 ≠ gb332) := ⟨h12_⟩
            have n13_ : Aside0 (gb332 ≠ gb312) := ⟨h13_⟩
            have n14_ : Aside0 (gb313 ≠ gb332) := ⟨h14_⟩
            have n15_ : Aside0 (gb332 ≠ gb313) := ⟨h15_⟩
            have n16_ : Aside0 (gb314 ≠ gb332) := ⟨h16_⟩
            have n17_ : Aside0 (gb332 ≠ gb314) := ⟨h17_⟩
            have n18_ : Aside0 (Below w.heap.size w w33) := ⟨h18_⟩
            clear HO319
            clear HO322
            clear BK311
            clear BK312
            clear BK313
            clear BK314
            clear HB
            clear h0_ h1_ h2_ h3_ h4_ h5_ h6_ h7_ h8_ h9_ h10_ h11_ h12_ h13_ h14_ h15_ h16_ h17_ h18_
            have HO319 := n0_
            have HO322 := n1_
            have HO326 := n2_
            have BK311 := n3_
            have BK312 := n4_
            have BK313 := n5_
            have BK314 := n6_
            have BK332 := n7_
            have GW332 := n8_
            have GE332 := n9_
            have NB311_332 := n10_
            have NB332_311 := n11_
            have NB312_332 := n12_
            have NB332_312 := n13_
            have NB313_332 := n14_
            have NB332_313 := n15_
            have NB314_332 := n16_
            have NB332_314 := n17_
            have HB := n18_
            clear n0_ n1_ n2_ n3_ n4_ n5_ n6_ n7_ n8_ n9_ n10_ n11_ n12_ n13_ n14_ n15_ n16_ n17_ n18_
            have hHeld : w33.cell? ⟨gb311, 0, none⟩ = some (.bool a0_0) ∧ w33.cell? ⟨gb311, 1, none⟩ = some (.slice A0_1 l0_1.length c0_1) ∧ w33.cell? ⟨gb312, 0, none⟩ = some (.bool a1_0) ∧ w33.cell? ⟨gb312, 1, none⟩ = some (.slice A1_1 l1_1.length c1_1) := hS_
            refine norm_ (a' := ?_) ?_ ?_
            rotate_left
            ·simp only [putAll, Act.put, List.setIfInBounds_toArray, List.set_cons_zero, List.set_cons_succ]
             rfl
            refine two_ (i := 10) (j := 11) (Ni := some 45) (Nj := some 9) (bm 15 6143) (bm 15 7167) rfl rfl rfl rfl (two_of HT_.out (by kernel_rfl)) (by decide) (by decide) (fun K hK => ?_) (fun K hK => ?_)
            ·skip
             refine gs Tryz.func94 #[.bool a0_0, .slice Ao29 t320.length co29] ?_
             with_reducible refine (whole_form.calls a0_0 _ _ t320 t327 t328 _ ?side1 (Kd.V_reads' HO322.out).2.1 A10.out).mono ?_
             (case side1 => exact (Kd.V_reads' HO322.out).2.2)
             rintro e w34 ⟨v329, rfl, ho0, hb⟩
             refine ⟨_, rfl, ?_⟩
             replace HO322 := Az (Kd.V_elder' (vk HO322) (Kd.R_base ho0) hb)
             have HO330 := Az (Kd.R_lower (Kd.R_new' (Kd.R_new' ho0 (Kd.R_lt (rk HO319))) (Kd.R_lt (rk HO326))) (below_size (bls HB)))
             replace HO319 := Az (Kd.R_elder' (rk HO319) (Kd.R_base ho0) hb)
             replace HO326 := Az (Kd.R_elder' (rk HO326) (Kd.R_base ho0) hb)
             replace BK311 := kb BK311 hb
             replace BK312 := kb BK312 hb
             replace BK313 := kb BK313 hb
             replace BK314 := kb BK314 hb
             replace BK332 := kb BK332 hb
             replace HB := Az (below_step (bls HB) hb)
             refine hK.out _ _ hd (fun hHeld => ?_)
             clear hK K
             refine nm ?_
             exact nj (hJ6_10_12 (v325, v329, gb332) _ ⟨hHeld, (rk HO319), (vt (Kd.V_mono HO322.out (fun _ hk => ⟨hk.1.1, ⟨hk.1.2.1, ⟨hk.2, ⟨hk.1.2.2.1, ⟨hk.1.2.2.2.1, ⟨hk.1.2.2.2.2.1, ⟨hk.1.2.2.2.2.2.1, hk.1.2.2.2.2.2.2⟩⟩⟩⟩⟩⟩⟩))), (rk HO326), (rt (Kd.R_mono HO330.out (fun _ hk => ⟨hk.1.2, hk.2⟩))), (bk BK311), (bk BK312), (bk BK313), (bk BK314), (bk BK332), GW332.out, GE332.out, NB311_332.out, NB332_311.out, NB312_332.out, NB332_312.out, NB313_332.out, NB332_313.out, NB314_332.out, NB332_314.out, (bls HB)⟩)
            ·skip
             refine box_step ?hg (N := 9) ?hd (cs := #[.bool false, .slice none 0 0]) (t := 24) ?hr ?_; (case hd => rfl); (case hg => rfl); (case hr => first | (go_simp; done) | (go_simp; rfl))
             intro gb331 hg w34 hbox hb
             replace HO319 := Az (Kd.R_below (rk HO319) hb)
             replace HO322 := Az (Kd.V_below (Kd.V_elderB (vk HO322) gb331 (Nat.le_of_eq hg.symm)) hb)
             replace HO326 := Az (Kd.R_below (rk HO326) hb)
             have BK331 := Az (hbox)
             have GW331 := gw (bls HB) hg
             have GE331 := gw (bls HB) hg
             replace HB := Az (below_step (bls HB) hb)
             have NB311_331 := nl BK311 hg
             have NB331_311 := ng BK311 hg
             replace BK311 := kb BK311 hb
             have NB312_331 := nl BK312 hg
             have NB331_312 := ng BK312 hg
             replace BK312 := kb BK312 hb
             have NB313_331 := nl BK313 hg
             have NB331_313 := ng BK313 hg
             replace BK313 := kb BK313 hb
             have NB314_331 := nl BK314 hg
             have NB331_314 := ng BK314 hg
             replace BK314 := kb BK314 hb
             have NB332_331 := nl BK332 hg
             have NB331_332 := ng BK332 hg
             replace BK332 := kb BK332 hb
             clear hb hbox hg
             refine hK.out _ _ hd (fun hHeld => ?_)
             clear hK K
             refine nm ?_
             exact nj (hJ6_11_12 (v325, gb331, gb332) _ ⟨hHeld, (rk HO319), (vt (Kd.V_mono HO322.out (fun _ hk => ⟨hk.1.1, ⟨hk.1.2.1, ⟨hk.1.2.2.1, ⟨hk.1.2.2.2.1, ⟨hk.1.2.2.2.2.1, ⟨hk.1.2.2.2.2.2.1, ⟨hk.2, hk.1.2.2.2.2.2.2⟩⟩⟩⟩⟩⟩⟩))), (rk HO326), (bk BK311), (bk BK312), (bk BK313), (bk BK314), (bk BK331), (bk BK332), GW331.out, GE331.out, NB311_331.out, NB331_311.out, NB312_331.out, NB331_312.out, NB313_331.out, NB331_313.out, NB314_331.out, NB331_314.out, NB332_331.out, NB331_332.out, GW332.out, GE332.out, NB311_332.out, NB332_311.out, NB312_332.out, NB332_312.out, NB313_332.out, NB332_313.out, NB314_332.out, NB332_314.out, (bls HB)⟩)
          ·skip
           rintro ⟨v325, gb331⟩ w33 ⟨hS_, h0_, h1_, h2_, h3_, h4_, h5_, h6_, h7_, h8_, h9_, h10_, h11_, h12_, h13_, h14_, h15_, h16_, h17_, h18_⟩
           have n0_ : Aside0 (Kd.R (Kd.int .u64) 25 w33 w.heap.size (fun k_ => some k_ ≠ (v325 : Value).ownBlock) (.slice Ao28 t317.length co28) t317) := ⟨h0_⟩
           have n1_ : Aside0 (Kd.V (Kd.int .u64) 25 w33 w.heap.size (fun k_ => some k_ ≠ (.slice Ao28 t317.length co28 : Value).ownBlock ∧ some k_ ≠ (v325 : Value).ownBlock ∧ k_ ≠ gb311 ∧ k_ ≠ gb312 ∧ k_ ≠ gb313 ∧ k_ ≠ gb314 ∧ k_ ≠ gb331) (.slice Ao29 t320.length co29) t320) := ⟨h1_⟩
           have n2_ : Aside0 (Kd.R (Kd.int .u64) 25 w33 w.heap.size (fun k_ => some k_ ≠ (.slice Ao28 t317.length co28 : Value).ownBlock) v325 t324) := ⟨h2_⟩
           have n3_ : Aside0 (w33.heap[gb311]? = some (.cells #[.bool a0_0, .slice A0_1 l0_1.length c0_1] 24 (0, 0))) := ⟨h3_⟩
           have n4_ : Aside0 (w33.heap[gb312]? = some (.cells #[.bool a1_0, .slice A1_1 l1_1.length c1_1] 24 (0, 0))) := ⟨h4_⟩
           have n5_ : Aside0 (w33.heap[gb313]? = some (.cells #[.bool false, .slice none 0 0] 24 (0, 0))) := ⟨h5_⟩
           have n6_ : Aside0 (w33.heap[gb314]? = some (.cells #[.bool false, .slice none 0 0] 24 (0, 0))) := ⟨h6_⟩
           have n7_ : Aside0 (w33.heap[gb331]? = some (.cells #[.bool false, .slice none 0 0] 24 (0, 0))) := ⟨h7_⟩
           have n8_ : Aside0 (w.heap.size ≤ gb331) := ⟨h8_⟩
           have n9_ : Aside0 (w.heap.size ≤ gb331) := ⟨h9_⟩
           have n10_ : Aside0 (gb311 ≠ gb331) := ⟨h10_⟩
           have n11_ : Aside0 (gb331 ≠ gb311) := ⟨h11_⟩
           have n12_ : Aside0 (gb312 ≠ gb331) := ⟨h12_⟩
           have n13_ : Aside0 (gb331 ≠ gb312) := ⟨h13_⟩
           have n14_ : Aside0 (gb313 ≠ gb331) := ⟨h14_⟩
           have n15_ : Aside0 (gb331 ≠ gb313) := ⟨h15_⟩
           have n16_ : Aside0 (gb314 ≠ gb331) := ⟨h16_⟩
           have n17_ : Aside0 (gb331 ≠ gb314) := ⟨h17_⟩
           have n18_ : Aside0 (Below w.heap.size w w33) := ⟨h18_⟩
           clear HO319
           clear HO322
           clear BK311
           clear BK312
           clear BK313
           clear BK314
           clear HB
           clear h0_ h1_ h2_ h3_ h4_ h5_ h6_ h7_ h8_ h9_ h10_ h11_ h12_ h13_ h14_ h15_ h16_ h17_ h18_
           have HO319 := n0_
           have HO322 := n1_
           have HO326 := n2_
           have BK311 := n3_
           have BK312 := n4_
           have BK313 := n5_
           have BK314 := n6_
           have BK331 := n7_
           have GW331 := n8_
           have GE331 := n9_
           have NB311_331 := n10_
           have NB331_311 := n11_
           have NB312_331 := n12_
           have NB331_312 := n13_
           have NB313_331 := n14_
           have NB331_313 := n15_
           have NB314_331 := n16_
           have NB331_314 := n17_
           have HB := n18_
           clear n0_ n1_ n2_ n3_ n4_ n5_ n6_ n7_ n8_ n9_ n10_ n11_ n12_ n13_ n14_ n15_ n16_ n17_ n18_
           have hHeld : w33.cell? ⟨gb311, 0, none⟩ = some (.bool a0_0) ∧ w33.cell? ⟨gb311, 1, none⟩ = some (.slice A0_1 l0_1.length c0_1) ∧ w33.cell? ⟨gb312, 0, none⟩ = some (.bool a1_0) ∧ w33.cell? ⟨gb312, 1, none⟩ = some (.slice A1_1 l1_1.length c1_1) := hS_
           refine norm_ (a' := ?_) ?_ ?_
           rotate_left
           ·simp only [putAll, Act.put, List.setIfInBounds_toArray, List.set_cons_zero, List.set_cons_succ]
            rfl
           refine two_ (i := 10) (j := 12) (Ni := some 45) (Nj := some 10) (bm 15 4095) (bm 15 7167) rfl rfl rfl rfl (two_of HT_.out (by kernel_rfl)) (by decide) (by decide) (fun K hK => ?_) (fun K hK => ?_)
           ·skip
            refine gs Tryz.func94 #[.bool a0_0, .slice Ao29 t320.length co29] ?_
            with_reducible refine (whole_form.calls a0_0 _ _ t320 t327 t328 _ ?side1 (Kd.V_reads' HO322.out).2.1 A10.out).mono ?_
            (case side1 => exact (Kd.V_reads' HO322.out).2.2)
            rintro e w34 ⟨v329, rfl, ho0, hb⟩
            refine ⟨_, rfl, ?_⟩
            replace HO322 := Az (Kd.V_elder' (vk HO322) (Kd.R_base ho0) hb)
            have HO330 := Az (Kd.R_lower (Kd.R_new' (Kd.R_new' ho0 (Kd.R_lt (rk HO319))) (Kd.R_lt (rk HO326))) (below_size (bls HB)))
            replace HO319 := Az (Kd.R_elder' (rk HO319) (Kd.R_base ho0) hb)
            replace HO326 := Az (Kd.R_elder' (rk HO326) (Kd.R_base ho0) hb)
            replace BK311 := kb BK311 hb
            replace BK312 := kb BK312 hb
            replace BK313 := kb BK313 hb
            replace BK314 := kb BK314 hb
            replace BK331 := kb BK331 hb
            replace HB := Az (below_step (bls HB) hb)
            refine hK.out _ _ hd (fun hHeld => ?_)
            clear hK K
            refine nm ?_
            exact nj (hJ6_10_11 (v325, v329, gb331) _ ⟨hHeld, (rk HO319), (vt (Kd.V_mono HO322.out (fun _ hk => ⟨hk.1.1, ⟨hk.1.2.1, ⟨hk.2, ⟨hk.1.2.2.1, ⟨hk.1.2.2.2.1, ⟨hk.1.2.2.2.2.1, ⟨hk.1.2.2.2.2.2.1, hk.1.2.2.2.2.2.2⟩⟩⟩⟩⟩⟩⟩))), (rk HO326), (rt (Kd.R_mono HO330.out (fun _ hk => ⟨hk.1.2, hk.2⟩))), (bk BK311), (bk BK312), (bk BK313), (bk BK314), (bk BK331), GW331.out, GE331.out, NB311_331.out, NB331_311.out, NB312_331.out, NB331_312.out, NB313_331.out, NB331_313.out, NB314_331.out, NB331_314.out, (bls HB)⟩)
           ·skip
            refine box_step ?hg (N := 10) ?hd (cs := #[.bool false, .slice none 0 0]) (t := 24) ?hr ?_; (case hd => rfl); (case hg => rfl); (case hr => first | (go_simp; done) | (go_simp; rfl))
            intro gb332 hg w34 hbox hb
            replace HO319 := Az (Kd.R_below (rk HO319) hb)
            replace HO322 := Az (Kd.V_below (Kd.V_elderB (vk HO322) gb332 (Nat.le_of_eq hg.symm)) hb)
            replace HO326 := Az (Kd.R_below (rk HO326) hb)
            have BK332 := Az (hbox)
            have GW332 := gw (bls HB) hg
            have GE332 := gw (bls HB) hg
            replace HB := Az (below_step (bls HB) hb)
            have NB311_332 := nl BK311 hg
            have NB332_311 := ng BK311 hg
            replace BK311 := kb BK311 hb
            have NB312_332 := nl BK312 hg
            have NB332_312 := ng BK312 hg
            replace BK312 := kb BK312 hb
            have NB313_332 := nl BK313 hg
            have NB332_313 := ng BK313 hg
            replace BK313 := kb BK313 hb
            have NB314_332 := nl BK314 hg
            have NB332_314 := ng BK314 hg
            replace BK314 := kb BK314 hb
            have NB331_332 := nl BK331 hg
            have NB332_331 := ng BK331 hg
            replace BK331 := kb BK331 hb
            clear hb hbox hg
            refine hK.out _ _ hd (fun hHeld => ?_)
            clear hK K
            refine nm ?_
            exact nj (hJ6_11_12 (v325, gb331, gb332) _ ⟨hHeld, (rk HO319), (vt (Kd.V_mono HO322.out (fun _ hk => ⟨hk.1.1, ⟨hk.1.2.1, ⟨hk.1.2.2.1, ⟨hk.1.2.2.2.1, ⟨hk.1.2.2.2.2.1, ⟨hk.1.2.2.2.2.2.1, ⟨hk.1.2.2.2.2.2.2, hk.2⟩⟩⟩⟩⟩⟩⟩))), (rk HO326), (bk BK311), (bk BK312), (bk BK313), (bk BK314), (bk BK331), (bk BK332), GW331.out, GE331.out, NB311_331.out, NB331_311.out, NB312_331.out, NB331_312.out, NB313_331.out, NB331_313.out, NB314_331.out, NB331_314.out, NB332_331.out, NB331_332.out, GW332.out, GE332.out, NB311_332.out, NB332_311.out, NB312_332.out, NB332_312.out, NB313_332.out, NB332_313.out, NB314_332.out, NB332_314.out, (bls HB)⟩)
         ·skip
          rintro ⟨v325, v329⟩ w33 ⟨hS_, h0_, h1_, h2_, h3_, h4_, h5_, h6_, h7_, h8_⟩
          have n0_ : Aside0 (Kd.R (Kd.int .u64) 25 w33 w.heap.size (fun k_ => some k_ ≠ (v325 : Value).ownBlock ∧ some k_ ≠ (v329 : Value).ownBlock) (.slice Ao28 t317.length co28) t317) := ⟨h0_⟩
          have n1_ : Aside0 (Kd.V (Kd.int .u64) 25 w33 w.heap.size (fun k_ => some k_ ≠ (.slice Ao28 t317.length co28 : Value).ownBlock ∧ some k_ ≠ (v325 : Value).ownBlock ∧ some k_ ≠ (v329 : Value).ownBlock ∧ k_ ≠ gb311 ∧ k_ ≠ gb312 ∧ k_ ≠ gb313 ∧ k_ ≠ gb314) (.slice Ao29 t320.length co29) t320) := ⟨h1_⟩
          have n2_ : Aside0 (Kd.R (Kd.int .u64) 25 w33 w.heap.size (fun k_ => some k_ ≠ (.slice Ao28 t317.length co28 : Value).ownBlock ∧ some k_ ≠ (v329 : Value).ownBlock) v325 t324) := ⟨h2_⟩
          have n3_ : Aside0 (Kd.R (Kd.int .u64) 25 w33 w.heap.size (fun k_ => some k_ ≠ (.slice Ao28 t317.length co28 : Value).ownBlock ∧ some k_ ≠ (v325 : Value).ownBlock) v329 t328) := ⟨h3_⟩
          have n4_ : Aside0 (w33.heap[gb311]? = some (.cells #[.bool a0_0, .slice A0_1 l0_1.length c0_1] 24 (0, 0))) := ⟨h4_⟩
          have n5_ : Aside0 (w33.heap[gb312]? = some (.cells #[.bool a1_0, .slice A1_1 l1_1.length c1_1] 24 (0, 0))) := ⟨h5_⟩
          have n6_ : Aside0 (w33.heap[gb313]? = some (.cells #[.bool false, .slice none 0 0] 24 (0, 0))) := ⟨h6_⟩
          have n7_ : Aside0 (w33.heap[gb314]? = some (.cells #[.bool false, .slice none 0 0] 24 (0, 0))) := ⟨h7_⟩
          have n8_ : Aside0 (Below w.heap.size w w33) := ⟨h8_⟩
          clear HO319
          clear HO322
          clear BK311
          clear BK312
          clear BK313
          clear BK314
          clear HB
          clear h0_ h1_ h2_ h3_ h4_ h5_ h6_ h7_ h8_
          have HO319 := n0_
          have HO322 := n1_
          have HO326 := n2_
          have HO330 := n3_
          have BK311 := n4_
          have BK312 := n5_
          have BK313 := n6_
          have BK314 := n7_
          have HB := n8_
          clear n0_ n1_ n2_ n3_ n4_ n5_ n6_ n7_ n8_
          have hHeld : w33.cell? ⟨gb311, 0, none⟩ = some (.bool a0_0) ∧ w33.cell? ⟨gb311, 1, none⟩ = some (.slice A0_1 l0_1.length c0_1) ∧ w33.cell? ⟨gb312, 0, none⟩ = some (.bool a1_0) ∧ w33.cell? ⟨gb312, 1, none⟩ = some (.slice A1_1 l1_1.length c1_1) := hS_
          refine norm_ (a' := ?_) ?_ ?_
          rotate_left
          ·simp only [putAll, Act.put, List.setIfInBounds_toArray, List.set_cons_zero, List.set_cons_succ]
           rfl
          refine two_ (i := 11) (j := 12) (Ni := some 9) (Nj := some 10) (bm 15 4095) (bm 15 6143) rfl rfl rfl rfl (two_of HT_.out (by kernel_rfl)) (by decide) (by decide) (fun K hK => ?_) (fun K hK => ?_)
          ·skip
           refine box_step ?hg (N := 9) ?hd (cs := #[.bool false, .slice none 0 0]) (t := 24) ?hr ?_; (case hd => rfl); (case hg => rfl); (case hr => first | (go_simp; done) | (go_simp; rfl))
           intro gb331 hg w34 hbox hb
           replace HO319 := Az (Kd.R_below (rk HO319) hb)
           replace HO322 := Az (Kd.V_below (Kd.V_elderB (vk HO322) gb331 (Nat.le_of_eq hg.symm)) hb)
           replace HO326 := Az (Kd.R_below (rk HO326) hb)
           replace HO330 := Az (Kd.R_below (rk HO330) hb)
           have BK331 := Az (hbox)
           have GW331 := gw (bls HB) hg
           have GE331 := gw (bls HB) hg
           replace HB := Az (below_step (bls HB) hb)
           have NB311_331 := nl BK311 hg
           have NB331_311 := ng BK311 hg
           replace BK311 := kb BK311 hb
           have NB312_331 := nl BK312 hg
           have NB331_312 := ng BK312 hg
           replace BK312 := kb BK312 hb
           have NB313_331 := nl BK313 hg
           have NB331_313 := ng BK313 hg
           replace BK313 := kb BK313 hb
           have NB314_331 := nl BK314 hg
           have NB331_314 := ng BK314 hg
           replace BK314 := kb BK314 hb
           clear hb hbox hg
           refine hK.out _ _ hd (fun hHeld => ?_)
           clear hK K
           refine nm ?_
           exact nj (hJ6_10_11 (v325, v329, gb331) _ ⟨hHeld, (rk HO319), (vt (Kd.V_mono HO322.out (fun _ hk => ⟨hk.1.1, ⟨hk.1.2.1, ⟨hk.1.2.2.1, ⟨hk.1.2.2.2.1, ⟨hk.1.2.2.2.2.1, ⟨hk.1.2.2.2.2.2.1, ⟨hk.1.2.2.2.2.2.2, hk.2⟩⟩⟩⟩⟩⟩⟩))), (rk HO326), (rk HO330), (bk BK311), (bk BK312), (bk BK313), (bk BK314), (bk BK331), GW331.out, GE331.out, NB311_331.out, NB331_311.out, NB312_331.out, NB331_312.out, NB313_331.out, NB331_313.out, NB314_331.out, NB331_314.out, (bls HB)⟩)
          ·skip
           refine box_step ?hg (N := 10) ?hd (cs := #[.bool false, .slice none 0 0]) (t := 24) ?hr ?_; (case hd => rfl); (case hg => rfl); (case hr => first | (go_simp; done) | (go_simp; rfl))
           intro gb332 hg w34 hbox hb
           replace HO319 := Az (Kd.R_below (rk HO319) hb)
           replace HO322 := Az (Kd.V_below (Kd.V_elderB (vk HO322) gb332 (Nat.le_of_eq hg.symm)) hb)
           replace HO326 := Az (Kd.R_below (rk HO326) hb)
           replace HO330 := Az (Kd.R_below (rk HO330) hb)
           have BK332 := Az (hbox)
           have GW332 := gw (bls HB) hg
           have GE332 := gw (bls HB) hg
           replace HB := Az (below_step (bls HB) hb)
           have NB311_332 := nl BK311 hg
           have NB332_311 := ng BK311 hg
           replace BK311 := kb BK311 hb
           have NB312_332 := nl BK312 hg
           have NB332_312 := ng BK312 hg
           replace BK312 := kb BK312 hb
           have NB313_332 := nl BK313 hg
           have NB332_313 := ng BK313 hg
           replace BK313 := kb BK313 hb
           have NB314_332 := nl BK314 hg
           have NB332_314 := ng BK314 hg
           replace BK314 := kb BK314 hb
           clear hb hbox hg
           refine hK.out _ _ hd (fun hHeld => ?_)
           clear hK K
           refine nm ?_
           exact nj (hJ6_10_12 (v325, v329, gb332) _ ⟨hHeld, (rk HO319), (vt (Kd.V_mono HO322.out (fun _ hk => ⟨hk.1.1, ⟨hk.1.2.1, ⟨hk.1.2.2.1, ⟨hk.1.2.2.2.1, ⟨hk.1.2.2.2.2.1, ⟨hk.1.2.2.2.2.2.1, ⟨hk.1.2.2.2.2.2.2, hk.2⟩⟩⟩⟩⟩⟩⟩))), (rk HO326), (rk HO330), (bk BK311), (bk BK312), (bk BK313), (bk BK314), (bk BK332), GW332.out, GE332.out, NB311_332.out, NB332_311.out, NB312_332.out, NB332_312.out, NB313_332.out, NB332_313.out, NB314_332.out, NB332_314.out, (bls HB)⟩)
        ·skip
         rintro ⟨v325, gb331, gb332⟩ w34 ⟨hS_, h0_, h1_, h2_, h3_, h4_, h5_, h6_, h7_, h8_, h9_, h10_, h11_, h12_, h13_, h14_, h15_, h16_, h17_, h18_, h19_, h20_, h21_, h22_, h23_, h24_, h25_, h26_, h27_, h28_, h29_, h30_, h31_⟩
         have n0_ : Aside0 (Kd.R (Kd.int .u64) 25 w34 w.heap.size (fun k_ => some k_ ≠ (v325 : Value).ownBlock) (.slice Ao28 t317.length co28) t317) := ⟨h0_⟩
         have n1_ : Aside0 (Kd.V (Kd.int .u64) 25 w34 w.heap.size (fun k_ => some k_ ≠ (.slice Ao28 t317.length co28 : Value).ownBlock ∧ some k_ ≠ (v325 : Value).ownBlock ∧ k_ ≠ gb311 ∧ k_ ≠ gb312 ∧ k_ ≠ gb313 ∧ k_ ≠ gb314 ∧ k_ ≠ gb331 ∧ k_ ≠ gb332) (.slice Ao29 t320.length co29) t320) := ⟨h1_⟩
         have n2_ : Aside0 (Kd.R (Kd.int .u64) 25 w34 w.heap.size (fun k_ => some k_ ≠ (.slice Ao28 t317.length co28 : Value).ownBlock) v325 t324) := ⟨h2_⟩
         have n3_ : Aside0 (w34.heap[gb311]? = some (.cells #[.bool a0_0, .slice A0_1 l0_1.length c0_1] 24 (0, 0))) := ⟨h3_⟩
         have n4_ : Aside0 (w34.heap[gb312]? = some (.cells #[.bool a1_0, .slice A1_1 l1_1.length c1_1] 24 (0, 0))) := ⟨h4_⟩
         have n5_ : Aside0 (w34.heap[gb313]? = some (.cells #[.bool false, .slice none 0 0] 24 (0, 0))) := ⟨h5_⟩
         have n6_ : Aside0 (w34.heap[gb314]? = some (.cells #[.bool false, .slice none 0 0] 24 (0, 0))) := ⟨h6_⟩
         have n7_ : Aside0 (w34.heap[gb331]? = some (.cells #[.bool false, .slice none 0 0] 24 (0, 0))) := ⟨h7_⟩
         have n8_ : Aside0 (w34.heap[gb332]? = some (.cells #[.bool false, .slice none 0 0] 24 (0, 0))) := ⟨h8_⟩
         have n9_ : Aside0 (w.heap.size ≤ gb331) := ⟨h9_⟩
         have n10_ : Aside0 (w.heap.size ≤ gb331) := ⟨h10_⟩
         have n11_ : Aside0 (gb311 ≠ gb331) := ⟨h11_⟩
         have n12_ : Aside0 (gb331 ≠ gb311) := ⟨h12_⟩
         have n13_ : Aside0 (gb312 ≠ gb331) := ⟨h13_⟩
         have n14_ : Aside0 (gb331 ≠ gb312) := ⟨h14_⟩
         have n15_ : Aside0 (gb313 ≠ gb331) := ⟨h15_⟩
         have n16_ : Aside0 (gb331 ≠ gb313) := ⟨h16_⟩
         have n17_ : Aside0 (gb314 ≠ gb331) := ⟨h17_⟩
         have n18_ : Aside0 (gb331 ≠ gb314) := ⟨h18_⟩
         have n19_ : Aside0 (gb332 ≠ gb331) := ⟨h19_⟩
         have n20_ : Aside0 (gb331 ≠ gb332) := ⟨h20_⟩
         have n21_ : Aside0 (w.heap.size ≤ gb332) := ⟨h21_⟩
         have n22_ : Aside0 (w.heap.size ≤ gb332) := ⟨h22_⟩
         have n23_ : Aside0 (gb311 ≠ gb332) := ⟨h23_⟩
         have n24_ : Aside0 (gb332 ≠ gb311) := ⟨h24_⟩
         have n25_ : Aside0 (gb312 ≠ gb332) := ⟨h25_⟩
         have n26_ : Aside0 (gb332 ≠ gb312) := ⟨h26_⟩
         have n27_ : Aside0 (gb313 ≠ gb332) := ⟨h27_⟩
         have n28_ : Aside0 (gb332 ≠ gb313) := ⟨h28_⟩
         have n29_ : Aside0 (gb314 ≠ gb332) := ⟨h29_⟩
         have n30_ : Aside0 (gb332 ≠ gb314) := ⟨h30_⟩
         have n31_ : Aside0 (Below w.heap.size w w34) := ⟨h31_⟩
         clear HO319
         clear HO322
         clear BK311
         clear BK312
         clear BK313
         clear BK314
         clear HB
         clear h0_ h1_ h2_ h3_ h4_ h5_ h6_ h7_ h8_ h9_ h10_ h11_ h12_ h13_ h14_ h15_ h16_ h17_ h18_ h19_ h20_ h21_ h22_ h23_ h24_ h25_ h26_ h27_ h28_ h29_ h30_ h31_
         have HO319 := n0_
         have HO322 := n1_
         have HO326 := n2_
         have BK311 := n3_
         have BK312 := n4_
         have BK313 := n5_
         have BK314 := n6_
         have BK331 := n7_
         have BK332 := n8_
         have GW331 := n9_
         have GE331 := n10_
         have NB311_331 := n11_
         have NB331_311 := n12_
         have NB312_331 := n13_
         have NB331_312 := n14_
         have NB313_331 := n15_
         have NB331_313 := n16_
         have NB314_331 := n17_
         have NB331_314 := n18_
         have NB332_331 := n19_
         have NB331_332 := n20_
         have GW332 := n21_
         have GE332 := n22_
         have NB311_332 := n23_
         have NB332_311 := n24_
         have NB312_332 := n25_
         have NB332_312 := n26_
         have NB313_332 := n27_
         have NB332_313 := n28_
         have NB314_332 := n29_
         have NB332_314 := n30_
         have HB := n31_
         clear n0_ n1_ n2_ n3_ n4_ n5_ n6_ n7_ n8_ n9_ n10_ n11_ n12_ n13_ n14_ n15_ n16_ n17_ n18_ n19_ n20_ n21_ n22_ n23_ n24_ n25_ n26_ n27_ n28_ n29_ n30_ n31_
         have hHeld : w34.cell? ⟨gb311, 0, none⟩ = some (.bool a0_0) ∧ w34.cell? ⟨gb311, 1, none⟩ = some (.slice A0_1 l0_1.length c0_1) ∧ w34.cell? ⟨gb312, 0, none⟩ = some (.bool a1_0) ∧ w34.cell? ⟨gb312, 1, none⟩ = some (.slice A1_1 l1_1.length c1_1) := hS_
         refine norm_ (a' := ?_) ?_ ?_
         rotate_left
         ·simp only [putAll, Act.put, List.setIfInBounds_toArray, List.set_cons_zero, List.set_cons_succ]
          rfl
         refine on 10 (some 45) (bm 15 8191) HT_.out (fun K hK => ?_)
         refine gs Tryz.func94 #[.bool a0_0, .slice Ao29 t320.length co29] ?_
         with_reducible refine (whole_form.calls a0_0 _ _ t320 t327 t328 _ ?side1 (Kd.V_reads' HO322.out).2.1 A10.out).mono ?_
         (case side1 => exact (Kd.V_reads' HO322.out).2.2)
         rintro e w35 ⟨v329, rfl, ho0, hb⟩
         refine ⟨_, rfl, ?_⟩
         replace HO322 := Az (Kd.V_elder' (vk HO322) (Kd.R_base ho0) hb)
         have HO330 := Az (Kd.R_lower (Kd.R_new' (Kd.R_new' ho0 (Kd.R_lt (rk HO319))) (Kd.R_lt (rk HO326))) (below_size (bls HB)))
         replace HO319 := Az (Kd.R_elder' (rk HO319) (Kd.R_base ho0) hb)
         replace HO326 := Az (Kd.R_elder' (rk HO326) (Kd.R_base ho0) hb)
         replace BK311 := kb BK311 hb
         replace BK312 := kb BK312 hb
         replace BK313 := kb BK313 hb
         replace BK314 := kb BK314 hb
         replace BK331 := kb BK331 hb
         replace BK332 := kb BK332 hb
         replace HB := Az (below_step (bls HB) hb)
         refine hK.out _ _ hd (fun hHeld => ?_)
         clear hK K
         refine nm ?_
         exact nj (hJ6_10_11_12 (v325, v329, gb331, gb332) _ ⟨hHeld, (rk HO319), (vt (Kd.V_mono HO322.out (fun _ hk => ⟨hk.1.1, ⟨hk.1.2.1, ⟨hk.2, ⟨hk.1.2.2.1, ⟨hk.1.2.2.2.1, ⟨hk.1.2.2.2.2.1, ⟨hk.1.2.2.2.2.2.1, ⟨hk.1.2.2.2.2.2.2.1, hk.1.2.2.2.2.2.2.2⟩⟩⟩⟩⟩⟩⟩⟩))), (rk HO326), (rt (Kd.R_mono HO330.out (fun _ hk => ⟨hk.1.2, hk.2⟩))), (bk BK311), (bk BK312), (bk BK313), (bk BK314), (bk BK331), (bk BK332), GW331.out, GE331.out, NB311_331.out, NB331_311.out, NB312_331.out, NB331_312.out, NB313_331.out, NB331_313.out, NB314_331.out, NB331_314.out, NB332_331.out, NB331_332.out, GW332.out, GE332.out, NB311_332.out, NB332_311.out, NB312_332.out, NB332_312.out, NB313_332.out, NB332_313.out, NB314_332.out, NB332_314.out, (bls HB)⟩)
       ·skip
        rintro ⟨v325, v329, gb332⟩ w34 ⟨hS_, h0_, h1_, h2_, h3_, h4_, h5_, h6_, h7_, h8_, h9_, h10_, h11_, h12_, h13_, h14_, h15_, h16_, h17_, h18_, h19_⟩
        have n0_ : Aside0 (Kd.R (Kd.int .u64) 25 w34 w.heap.size (fun k_ => some k_ ≠ (v325 : Value).ownBlock ∧ some k_ ≠ (v329 : Value).ownBlock) (.slice Ao28 t317.length co28) t317) := ⟨h0_⟩
        have n1_ : Aside0 (Kd.V (Kd.int .u64) 25 w34 w.heap.size (fun k_ => some k_ ≠ (.slice Ao28 t317.length co28 : Value).ownBlock ∧ some k_ ≠ (v325 : Value).ownBlock ∧ some k_ ≠ (v329 : Value).ownBlock ∧ k_ ≠ gb311 ∧ k_ ≠ gb312 ∧ k_ ≠ gb313 ∧ k_ ≠ gb314 ∧ k_ ≠ gb332) (.slice Ao29 t320.length co29) t320) := ⟨h1_⟩
        have n2_ : Aside0 (Kd.R (Kd.int .u64) 25 w34 w.heap.size (fun k_ => some k_ ≠ (.slice Ao28 t317.length co28 : Value).ownBlock ∧ some k_ ≠ (v329 : Value).ownBlock) v325 t324) := ⟨h2_⟩
        have n3_ : Aside0 (Kd.R (Kd.int .u64) 25 w34 w.heap.size (fun k_ => some k_ ≠ (.slice Ao28 t317.length co28 : Value).ownBlock ∧ some k_ ≠ (v325 : Value).ownBlock) v329 t328) := ⟨h3_⟩
        have n4_ : Aside0 (w34.heap[gb311]? = some (.cells #[.bool a0_0, .slice A0_1 l0_1.length c0_1] 24 (0, 0))) := ⟨h4_⟩
        have n5_ : Aside0 (w34.heap[gb312]? = some (.cells #[.bool a1_0, .slice A1_1 l1_1.length c1_1] 24 (0, 0))) := ⟨h5_⟩
        have n6_ : Aside0 (w34.heap[gb313]? = some (.cells #[.bool false, .slice none 0 0] 24 (0, 0))) := ⟨h6_⟩
        have n7_ : Aside0 (w34.heap[gb314]? = some (.cells #[.bool false, .slice none 0 0] 24 (0, 0))) := ⟨h7_⟩
        have n8_ : Aside0 (w34.heap[gb332]? = some (.cells #[.bool false, .slice none 0 0] 24 (0, 0))) := ⟨h8_⟩
        have n9_ : Aside0 (w.heap.size ≤ gb332) := ⟨h9_⟩
        have n10_ : Aside0 (w.heap.size ≤ gb332) := ⟨h10_⟩
        have n11_ : Aside0 (gb311 ≠ gb332) := ⟨h11_⟩
        have n12_ : Aside0 (gb332 ≠ gb311) := ⟨h12_⟩
        have n13_ : Aside0 (gb312 ≠ gb332) := ⟨h13_⟩
        have n14_ : Aside0 (gb332 ≠ gb312) := ⟨h14_⟩
        have n15_ : Aside0 (gb313 ≠ gb332) := ⟨h15_⟩
        have n16_ : Aside0 (gb332 ≠ gb313) := ⟨h16_⟩
        have n17_ : Aside0 (gb314 ≠ gb332) := ⟨h17_⟩
        have n18_ : Aside0 (gb332 ≠ gb314) := ⟨h18_⟩
        have n19_ : Aside0 (Below w.heap.size w w34) := ⟨h19_⟩
        clear HO319
        clear HO322
        clear BK311
        clear BK312
        clear BK313
        clear BK314
        clear HB
        clear h0_ h1_ h2_ h3_ h4_ h5_ h6_ h7_ h8_ h9_ h10_ h11_ h12_ h13_ h14_ h15_ h16_ h17_ h18_ h19_
        have HO319 := n0_
        have HO322 := n1_
        have HO326 := n2_
        have HO330 := n3_
        have BK311 := n4_
        have BK312 := n5_
        have BK313 := n6_
        have BK314 := n7_
        have BK332 := n8_
        have GW332 := n9_
        have GE332 := n10_
        have NB311_332 := n11_
        have NB332_311 := n12_
        have NB312_332 := n13_
        have NB332_312 := n14_
        have NB313_332 := n15_
        have NB332_313 := n16_
        have NB314_332 := n17_
        have NB332_314 := n18_
        have HB := n19_
        clear n0_ n1_ n2_ n3_ n4_ n5_ n6_ n7_ n8_ n9_ n10_ n11_ n12_ n13_ n14_ n15_ n16_ n17_ n18_ n19_
        have hHeld : w34.cell? ⟨gb311, 0, none⟩ = some (.bool a0_0) ∧ w34.cell? ⟨gb311, 1, none⟩ = some (.slice A0_1 l0_1.length c0_1) ∧ w34.cell? ⟨gb312, 0, none⟩ = some (.bool a1_0) ∧ w34.cell? ⟨gb312, 1, none⟩ = some (.slice A1_1 l1_1.length c1_1) := hS_
        refine norm_ (a' := ?_) ?_ ?_
        rotate_left
        ·simp only [putAll, Act.put, List.setIfInBounds_toArray, List.set_cons_zero, List.set_cons_succ]
         rfl
        refine on 11 (some 9) (bm 15 8191) HT_.out (fun K hK => ?_)
        refine box_step ?hg (N := 9) ?hd (cs := #[.bool false, .slice none 0 0]) (t := 24) ?hr ?_; (case hd => rfl); (case hg => rfl); (case hr => first | (go_simp; done) | (go_simp; rfl))
        intro gb331 hg w35 hbox hb
        replace HO319 := Az (Kd.R_below (rk HO319) hb)
        replace HO322 := Az (Kd.V_below (Kd.V_elderB (vk HO322) gb331 (Nat.le_of_eq hg.symm)) hb)
        replace HO326 := Az (Kd.R_below (rk HO326) hb)
        replace HO330 := Az (Kd.R_below (rk HO330) hb)
        have BK331 := Az (hbox)
        have GW331 := gw (bls HB) hg
        have GE331 := gw (bls HB) hg
        replace HB := Az (below_step (bls HB) hb)
        have NB311_331 := nl BK311 hg
        have NB331_311 := ng BK311 hg
        replace BK311 := kb BK311 hb
        have NB312_331 := nl BK312 hg
        have NB331_312 := ng BK312 hg
        replace BK312 := kb BK312 hb
        have NB313_331 := nl BK313 hg
        have NB331_313 := ng BK313 hg
        replace BK313 := kb BK313 hb
        have NB314_331 := nl BK314 hg
        have NB331_314 := ng BK314 hg
        replace BK314 := kb BK314 hb
        have NB332_331 := nl BK332 hg
        have NB331_332 := ng BK332 hg
        replace BK332 := kb BK332 hb
        clear hb hbox hg
        refine hK.out _ _ hd (fun hHeld => ?_)
        clear hK K
        refine nm ?_
        exact nj (hJ6_10_11_12 (v325, v329, gb331, gb332) _ ⟨hHeld, (rk HO319), (vt (Kd.V_mono HO322.out (fun _ hk => ⟨hk.1.1, ⟨hk.1.2.1, ⟨hk.1.2.2.1, ⟨hk.1.2.2.2.1, ⟨hk.1.2.2.2.2.1, ⟨hk.1.2.2.2.2.2.1, ⟨hk.1.2.2.2.2.2.2.1, ⟨hk.2, hk.1.2.2.2.2.2.2.2⟩⟩⟩⟩⟩⟩⟩⟩))), (rk HO326), (rk HO330), (bk BK311), (bk BK312), (bk BK313), (bk BK314), (bk BK331), (bk BK332), GW331.out, GE331.out, NB311_331.out, NB331_311.out, NB312_331.out, NB331_312.out, NB313_331.out, NB331_313.out, NB314_331.out, NB331_314.out, NB332_331.out, NB331_332.out, GW332.out, GE332.out, NB311_332.out, NB332_311.out, NB312_332.out, NB332_312.out, NB313_332.out, NB332_313.out, NB314_332.out, NB332_314.out, (bls HB)⟩)
      ·skip
       rintro ⟨v325, v329, gb331⟩ w34 ⟨hS_, h0_, h1_, h2_, h3_, h4_, h5_, h6_, h7_, h8_, h9_, h10_, h11_, h12_, h13_, h14_, h15_, h16_, h17_, h18_, h19_⟩
       have n0_ : Aside0 (Kd.R (Kd.int .u64) 25 w34 w.heap.size (fun k_ => some k_ ≠ (v325 : Value).ownBlock ∧ some k_ ≠ (v329 : Value).ownBlock) (.slice Ao28 t317.length co28) t317) := ⟨h0_⟩
       have n1_ : Aside0 (Kd.V (Kd.int .u64) 25 w34 w.heap.size (fun k_ => some k_ ≠ (.slice Ao28 t317.length co28 : Value).ownBlock ∧ some k_ ≠ (v325 : Value).ownBlock ∧ some k_ ≠ (v329 : Value).ownBlock ∧ k_ ≠ gb311 ∧ k_ ≠ gb312 ∧ k_ ≠ gb313 ∧ k_ ≠ gb314 ∧ k_ ≠ gb331) (.slice Ao29 t320.length co29) t320) := ⟨h1_⟩
       have n2_ : Aside0 (Kd.R (Kd.int .u64) 25 w34 w.heap.size (fun k_ => some k_ ≠ (.slice Ao28 t317.length co28 : Value).ownBlock ∧ some k_ ≠ (v329 : Value).ownBlock) v325 t324) := ⟨h2_⟩
       have n3_ : Aside0 (Kd.R (Kd.int .u64) 25 w34 w.heap.size (fun k_ => some k_ ≠ (.slice Ao28 t317.length co28 : Value).ownBlock ∧ some k_ ≠ (v325 : Value).ownBlock) v329 t328) := ⟨h3_⟩
       have n4_ : Aside0 (w34.heap[gb311]? = some (.cells #[.bool a0_0, .slice A0_1 l0_1.length c0_1] 24 (0, 0))) := ⟨h4_⟩
       have n5_ : Aside0 (w34.heap[gb312]? = some (.cells #[.bool a1_0, .slice A1_1 l1_1.length c1_1] 24 (0, 0))) := ⟨h5_⟩
       have n6_ : Aside0 (w34.heap[gb313]? = some (.cells #[.bool false, .slice none 0 0] 24 (0, 0))) := ⟨h6_⟩
       have n7_ : Aside0 (w34.heap[gb314]? = some (.cells #[.bool false, .slice none 0 0] 24 (0, 0))) := ⟨h7_⟩
       have n8_ : Aside0 (w34.heap[gb331]? = some (.cells #[.bool false, .slice none 0 0] 24 (0, 0))) := ⟨h8_⟩
       have n9_ : Aside0 (w.heap.size ≤ gb331) := ⟨h9_⟩
       have n10_ : Aside0 (w.heap.size ≤ gb331) := ⟨h10_⟩
       have n11_ : Aside0 (gb311 ≠ gb331) := ⟨h11_⟩
       have n12_ : Aside0 (gb331 ≠ gb311) := ⟨h12_⟩
       have n13_ : Aside0 (gb312 ≠ gb331) := ⟨h13_⟩
       have n14_ : Aside0 (gb331 ≠ gb312) := ⟨h14_⟩
       have n15_ : Aside0 (gb313 ≠ gb331) := ⟨h15_⟩
       have n16_ : Aside0 (gb331 ≠ gb313) := ⟨h16_⟩
       have n17_ : Aside0 (gb314 ≠ gb331) := ⟨h17_⟩
       have n18_ : Aside0 (gb331 ≠ gb314) := ⟨h18_⟩
       have n19_ : Aside0 (Below w.heap.size w w34) := ⟨h19_⟩
       clear HO319
       clear HO322
       clear BK311
       clear BK312
       clear BK313
       clear BK314
       clear HB
       clear h0_ h1_ h2_ h3_ h4_ h5_ h6_ h7_ h8_ h9_ h10_ h11_ h12_ h13_ h14_ h15_ h16_ h17_ h18_ h19_
       have HO319 := n0_
       have HO322 := n1_
       have HO326 := n2_
       have HO330 := n3_
       have BK311 := n4_
       have BK312 := n5_
       have BK313 := n6_
       have BK314 := n7_
       have BK331 := n8_
       have GW331 := n9_
       have GE331 := n10_
       have NB311_331 := n11_
       have NB331_311 := n12_
       have NB312_331 := n13_
       have NB331_312 := n14_
       have NB313_331 := n15_
       have NB331_313 := n16_
       have NB314_331 := n17_
       have NB331_314 := n18_
       have HB := n19_
       clear n0_ n1_ n2_ n3_ n4_ n5_ n6_ n7_ n8_ n9_ n10_ n11_ n12_ n13_ n14_ n15_ n16_ n17_ n18_ n19_
       have hHeld : w34.cell? ⟨gb311, 0, none⟩ = some (.bool a0_0) ∧ w34.cell? ⟨gb311, 1, none⟩ = some (.slice A0_1 l0_1.length c0_1) ∧ w34.cell? ⟨gb312, 0, none⟩ = some (.bool a1_0) ∧ w34.cell? ⟨gb312, 1, none⟩ = some (.slice A1_1 l1_1.length c1_1) := hS_
       refine norm_ (a' := ?_) ?_ ?_
       rotate_left
       ·simp only [putAll, Act.put, List.setIfInBounds_toArray, List.set_cons_zero, List.set_cons_succ]
        rfl
       refine on 12 (some 10) (bm 15 8191) HT_.out (fun K hK => ?_)
       refine box_step ?hg (N := 10) ?hd (cs := #[.bool false, .slice none 0 0]) (t := 24) ?hr ?_; (case hd => rfl); (case hg => rfl); (case hr => first | (go_simp; done) | (go_simp; rfl))
       intro gb332 hg w35 hbox hb
       replace HO319 := Az (Kd.R_below (rk HO319) hb)
       replace HO322 := Az (Kd.V_below (Kd.V_elderB (vk HO322) gb332 (Nat.le_of_eq hg.symm)) hb)
       replace HO326 := Az (Kd.R_below (rk HO326) hb)
       replace HO330 := Az (Kd.R_below (rk HO330) hb)
       have BK332 := Az (hbox)
       have GW332 := gw (bls HB) hg
       have GE332 := gw (bls HB) hg
       replace HB := Az (below_step (bls HB) hb)
       have NB311_332 := nl BK311 hg
       have NB332_311 := ng BK311 hg
       replace BK311 := kb BK311 hb
       have NB312_332 := nl BK312 hg
       have NB332_312 := ng BK312 hg
       replace BK312 := kb BK312 hb
       have NB313_332 := nl BK313 hg
       have NB332_313 := ng BK313 hg
       replace BK313 := kb BK313 hb
       have NB314_332 := nl BK314 hg
       have NB332_314 := ng BK314 hg
       replace BK314 := kb BK314 hb
       have NB331_332 := nl BK331 hg
       have NB332_331 := ng BK331 hg
       replace BK331 := kb BK331 hb
       clear hb hbox hg
       refine hK.out _ _ hd (fun hHeld => ?_)
       clear hK K
       refine nm ?_
       exact nj (hJ6_10_11_12 (v325, v329, gb331, gb332) _ ⟨hHeld, (rk HO319), (vt (Kd.V_mono HO322.out (fun _ hk => ⟨hk.1.1, ⟨hk.1.2.1, ⟨hk.1.2.2.1, ⟨hk.1.2.2.2.1, ⟨hk.1.2.2.2.2.1, ⟨hk.1.2.2.2.2.2.1, ⟨hk.1.2.2.2.2.2.2.1, ⟨hk.1.2.2.2.2.2.2.2, hk.2⟩⟩⟩⟩⟩⟩⟩⟩))), (rk HO326), (rk HO330), (bk BK311), (bk BK312), (bk BK313), (bk BK314), (bk BK331), (bk BK332), GW331.out, GE331.out, NB311_331.out, NB331_311.out, NB312_331.out, NB331_312.out, NB313_331.out, NB331_313.out, NB314_331.out, NB331_314.out, NB332_331.out, NB331_332.out, GW332.out, GE332.out, NB311_332.out, NB332_311.out, NB312_332.out, NB332_312.out, NB313_332.out, NB332_313.out, NB314_332.out, NB332_314.out, (bls HB)⟩)
     rintro ⟨v325, v329, gb331, gb332⟩ w35 ⟨hS_, h0_, h1_, h2_, h3_, h4_, h5_, h6_, h7_, h8_, h9_, h10_, h11_, h12_, h13_, h14_, h15_, h16_, h17_, h18_, h19_, h20_, h21_, h22_, h23_, h24_, h25_, h26_, h27_, h28_, h29_, h30_, h31_, h32_⟩
     have n0_ : Aside0 (Kd.R (Kd.int .u64) 25 w35 w.heap.size (fun k_ => some k_ ≠ (v325 : Value).ownBlock ∧ some k_ ≠ (v329 : Value).ownBlock) (.slice Ao28 t317.length co28) t317) := ⟨h0_⟩
     have n1_ : Aside0 (Kd.V (Kd.int .u64) 25 w35 w.heap.size (fun k_ => some k_ ≠ (.slice Ao28 t317.length co28 : Value).ownBlock ∧ some k_ ≠ (v325 : Value).ownBlock ∧ some k_ ≠ (v329 : Value).ownBlock ∧ k_ ≠ gb311 ∧ k_ ≠ gb312 ∧ k_ ≠ gb313 ∧ k_ ≠ gb314 ∧ k_ ≠ gb331 ∧ k_ ≠ gb332) (.slice Ao29 t320.length co29) t320) := ⟨h1_⟩
     have n2_ : Aside0 (Kd.R (Kd.int .u64) 25 w35 w.heap.size (fun k_ => some k_ ≠ (.slice Ao28 t317.length co28 : Value).ownBlock ∧ some k_ ≠ (v329 : Value).ownBlock) v325 t324) := ⟨h2_⟩
     have n3_ : Aside0 (Kd.R (Kd.int .u64) 25 w35 w.heap.size (fun k_ => some k_ ≠ (.slice Ao28 t317.length co28 : Value).ownBlock ∧ some k_ ≠ (v325 : Value).ownBlock) v329 t328) := ⟨h3_⟩
     have n4_ : Aside0 (w35.heap[gb311]? = some (.cells #[.bool a0_0, .slice A0_1 l0_1.length c0_1] 24 (0, 0))) := ⟨h4_⟩
     have n5_ : Aside0 (w35.heap[gb312]? = some (.cells #[.bool a1_0, .slice A1_1 l1_1.length c1_1] 24 (0, 0))) := ⟨h5_⟩
     have n6_ : Aside0 (w35.heap[gb313]? = some (.cells #[.bool false, .slice none 0 0] 24 (0, 0))) := ⟨h6_⟩
     have n7_ : Aside0 (w35.heap[gb314]? = some (.cells #[.bool false, .slice none 0 0] 24 (0, 0))) := ⟨h7_⟩
     have n8_ : Aside0 (w35.heap[gb331]? = some (.cells #[.bool false, .slice none 0 0] 24 (0, 0))) := ⟨h8_⟩
     have n9_ : Aside0 (w35.heap[gb332]? = some (.cells #[.bool false, .slice none 0 0] 24 (0, 0))) := ⟨h9_⟩
     have n10_ : Aside0 (w.heap.size ≤ gb331) := ⟨h10_⟩
     have n11_ : Aside0 (w.heap.size ≤ gb331) := ⟨h11_⟩
     have n12_ : Aside0 (gb311 ≠ gb331) := ⟨h12_⟩
     have n13_ : Aside0 (gb331 ≠ gb311) := ⟨h13_⟩
     have n14_ : Aside0 (gb312 ≠ gb331) := ⟨h14_⟩
     have n15_ : Aside0 (gb331 ≠ gb312) := ⟨h15_⟩
     have n16_ : Aside0 (gb313 ≠ gb331) := ⟨h16_⟩
     have n17_ : Aside0 (gb331 ≠ gb313) := ⟨h17_⟩
     have n18_ : Aside0 (gb314 ≠ gb331) := ⟨h18_⟩
     have n19_ : Aside0 (gb331 ≠ gb314) := ⟨h19_⟩
     have n20_ : Aside0 (gb332 ≠ gb331) := ⟨h20_⟩
     have n21_ : Aside0 (gb331 ≠ gb332) := ⟨h21_⟩
     have n22_ : Aside0 (w.heap.size ≤ gb332) := ⟨h22_⟩
     have n23_ : Aside0 (w.heap.size ≤ gb332) := ⟨h23_⟩
     have n24_ : Aside0 (gb311 ≠ gb332) := ⟨h24_⟩
     have n25_ : Aside0 (gb332 ≠ gb311) := ⟨h25_⟩
     have n26_ : Aside0 (gb312 ≠ gb332) := ⟨h26_⟩
     have n27_ : Aside0 (gb332 ≠ gb312) := ⟨h27_⟩
     have n28_ : Aside0 (gb313 ≠ gb332) := ⟨h28_⟩
     have n29_ : Aside0 (gb332 ≠ gb313) := ⟨h29_⟩
     have n30_ : Aside0 (gb314 ≠ gb332) := ⟨h30_⟩
     have n31_ : Aside0 (gb332 ≠ gb314) := ⟨h31_⟩
     have n32_ : Aside0 (Below w.heap.size w w35) := ⟨h32_⟩
     clear HO319
     clear HO322
     clear BK311
     clear BK312
     clear BK313
     clear BK314
     clear HB
     clear h0_ h1_ h2_ h3_ h4_ h5_ h6_ h7_ h8_ h9_ h10_ h11_ h12_ h13_ h14_ h15_ h16_ h17_ h18_ h19_ h20_ h21_ h22_ h23_ h24_ h25_ h26_ h27_ h28_ h29_ h30_ h31_ h32_
     have HO319 := n0_
     have HO322 := n1_
     have HO326 := n2_
     have HO330 := n3_
     have BK311 := n4_
     have BK312 := n5_
     have BK313 := n6_
     have BK314 := n7_
     have BK331 := n8_
     have BK332 := n9_
     have GW331 := n10_
     have GE331 := n11_
     have NB311_331 := n12_
     have NB331_311 := n13_
     have NB312_331 := n14_
     have NB331_312 := n15_
     have NB313_331 := n16_
     have NB331_313 := n17_
     have NB314_331 := n18_
     have NB331_314 := n19_
     have NB332_331 := n20_
     have NB331_332 := n21_
     have GW332 := n22_
     have GE332 := n23_
     have NB311_332 := n24_
     have NB332_311 := n25_
     have NB312_332 := n26_
     have NB332_312 := n27_
     have NB313_332 := n28_
     have NB332_313 := n29_
     have NB314_332 := n30_
     have NB332_314 := n31_
     have HB := n32_
     clear n0_ n1_ n2_ n3_ n4_ n5_ n6_ n7_ n8_ n9_ n10_ n11_ n12_ n13_ n14_ n15_ n16_ n17_ n18_ n19_ n20_ n21_ n22_ n23_ n24_ n25_ n26_ n27_ n28_ n29_ n30_ n31_ n32_
     have hHeld : w35.cell? ⟨gb311, 0, none⟩ = some (.bool a0_0) ∧ w35.cell? ⟨gb311, 1, none⟩ = some (.slice A0_1 l0_1.length c0_1) ∧ w35.cell? ⟨gb312, 0, none⟩ = some (.bool a1_0) ∧ w35.cell? ⟨gb312, 1, none⟩ = some (.slice A1_1 l1_1.length c1_1) := hS_
     obtain ⟨Ao37, co37, eo37⟩ := Kd.R_slice HO326.out
     (first | subst eo37 | (injection eo37 with f1_ f2_ f3_; have f4_ := f1_.symm; have f5_ := f3_.symm; clear f1_ f2_ f3_; subst f4_; subst f5_))
     obtain ⟨Ao40, co40, eo40⟩ := Kd.R_slice HO330.out
     (first | subst eo40 | (injection eo40 with f1_ f2_ f3_; have f4_ := f1_.symm; have f5_ := f3_.symm; clear f1_ f2_ f3_; subst f4_; subst f5_))
     refine norm_ (a' := ?_) ?_ ?_
     rotate_left
     ·simp only [putAll, Act.put, List.setIfInBounds_toArray, List.set_cons_zero, List.set_cons_succ]
      rfl
     refine on 13 (none) (bm 15 16383) HT_.out (fun K hK => ?_)
     have hs36 : w35.cell? ⟨gb331, 0, none⟩ = some (.bool false) := (blk_cell BK331.out 0).trans rfl
     have hfs36 := blk_frozen BK331.out 0
     have hns36_0 := NB311_331.out
     have hns36_1 := NB312_331.out
     have hns36_2 := NB313_331.out
     have hns36_3 := NB314_331.out
     have hns36_5 := NB332_331.out
     have hms36_0 := NB331_311.out
     have hms36_1 := NB331_312.out
     have hms36_2 := NB331_313.out
     have hms36_3 := NB331_314.out
     have hms36_5 := NB331_332.out
     have hs38 : w35.cell? ⟨gb331, 1, none⟩ = some (.slice none 0 0) := (blk_cell BK331.out 1).trans rfl
     have hfs38 := blk_frozen BK331.out 1
     have hns38_0 := NB311_331.out
     have hns38_1 := NB312_331.out
     have hns38_2 := NB313_331.out
     have hns38_3 := NB314_331.out
     have hns38_5 := NB332_331.out
     have hms38_0 := NB331_311.out
     have hms38_1 := NB331_312.out
     have hms38_2 := NB331_313.out
     have hms38_3 := NB331_314.out
     have hms38_5 := NB331_332.out
     refine skip_ (w1 := ?_) (by rfl) rfl ?_ ?_
     rotate_left
     ·go_simp
      rfl
     refine hK.out _ _ ⟨((cell_far (p := ⟨gb331, _, none⟩) NB311_331.out _).trans (((cell_far (p := ⟨gb331, _, none⟩) NB311_331.out _).trans (hHeld.1)))), ((cell_far (p := ⟨gb331, _, none⟩) NB311_331.out _).trans (((cell_far (p := ⟨gb331, _, none⟩) NB311_331.out _).trans (hHeld.2.1)))), ((cell_far (p := ⟨gb331, _, none⟩) NB312_331.out _).trans (((cell_far (p := ⟨gb331, _, none⟩) NB312_331.out _).trans (hHeld.2.2.1)))), ((cell_far (p := ⟨gb331, _, none⟩) NB312_331.out _).trans (((cell_far (p := ⟨gb331, _, none⟩) NB312_331.out _).trans (hHeld.2.2.2))))⟩ (fun hHeld => ?_)
     clear hK K
     refine on 14 (none) (bm 15 32767) HT_.out (fun K hK => ?_)
     have hs39 : w35.cell? ⟨gb332, 0, none⟩ = some (.bool false) := (blk_cell BK332.out 0).trans rfl
     have hfs39 := blk_frozen BK332.out 0
     have hns39_0 := NB311_332.out
     have hns39_1 := NB312_332.out
     have hns39_2 := NB313_332.out
     have hns39_3 := NB314_332.out
     have hns39_4 := NB331_332.out
     have hms39_0 := NB332_311.out
     have hms39_1 := NB332_312.out
     have hms39_2 := NB332_313.out
     have hms39_3 := NB332_314.out
     have hms39_4 := NB332_331.out
     have hs41 : w35.cell? ⟨gb332, 1, none⟩ = some (.slice none 0 0) := (blk_cell BK332.out 1).trans rfl
     have hfs41 := blk_frozen BK332.out 1
     have hns41_0 := NB311_332.out
     have hns41_1 := NB312_332.out
     have hns41_2 := NB313_332.out
     have hns41_3 := NB314_332.out
     have hns41_4 := NB331_332.out
     have hms41_0 := NB332_311.out
     have hms41_1 := NB332_312.out
     have hms41_2 := NB332_313.out
     have hms41_3 := NB332_314.out
     have hms41_4 := NB332_331.out
     refine skip_ (w1 := ?_) (by rfl) rfl ?_ ?_
     rotate_left
     ·go_simp
      rfl
     refine hK.out _ _ ⟨((cell_far (p := ⟨gb332, _, none⟩) NB311_332.out _).trans (((cell_far (p := ⟨gb332, _, none⟩) NB311_332.out _).trans (hHeld.1)))), ((cell_far (p := ⟨gb332, _, none⟩) NB311_332.out _).trans (((cell_far (p := ⟨gb332, _, none⟩) NB311_332.out _).trans (hHeld.2.1)))), ((cell_far (p := ⟨gb332, _, none⟩) NB312_332.out _).trans (((cell_far (p := ⟨gb332, _, none⟩) NB312_332.out _).trans (hHeld.2.2.1)))), ((cell_far (p := ⟨gb332, _, none⟩) NB312_332.out _).trans (((cell_far (p := ⟨gb332, _, none⟩) NB312_332.out _).trans (hHeld.2.2.2))))⟩ (fun hHeld => ?_)
     clear hK K
     refine done_ (done_of HT_.out (by kernel_rfl)) ?_
     have hnb42 := NB332_311.out
     have hnc42 := NB311_332.out
     have hnb43 := NB332_312.out
     have hnc43 := NB312_332.out
     have hnb44 := NB332_313.out
     have hnc44 := NB313_332.out
     have hnb45 := NB332_314.out
     have hnc45 := NB314_332.out
     have hnb46 := NB332_331.out
     have hnc46 := NB331_332.out
     have hz47_1 := bz BK332
     try go_wp2
     have n_ : (fun W_ : World => Aside0 (Kd.R (Kd.int .u64) 25 W_ w.heap.size (fun k_ => some k_ ≠ (.slice Ao37 t324.length co37 : Value).ownBlock ∧ some k_ ≠ (.slice Ao40 t328.length co40 : Value).ownBlock) (.slice Ao28 t317.length co28) t317) ∧ Aside0 (Kd.V (Kd.int .u64) 25 W_ w.heap.size (fun k_ => some k_ ≠ (.slice Ao28 t317.length co28 : Value).ownBlock ∧ some k_ ≠ (.slice Ao37 t324.length co37 : Value).ownBlock ∧ some k_ ≠ (.slice Ao40 t328.length co40 : Value).ownBlock ∧ k_ ≠ gb311 ∧ k_ ≠ gb312 ∧ k_ ≠ gb313 ∧ k_ ≠ gb314 ∧ k_ ≠ gb331 ∧ k_ ≠ gb332) (.slice Ao29 t320.length co29) t320) ∧ Aside0 (Kd.R (Kd.int .u64) 25 W_ w.heap.size (fun k_ => some k_ ≠ (.slice Ao28 t317.length co28 : Value).ownBlock ∧ some k_ ≠ (.slice Ao40 t328.length co40 : Value).ownBlock) (.slice Ao37 t324.length co37) t324) ∧ Aside0 (Kd.R (Kd.int .u64) 25 W_ w.heap.size (fun k_ => some k_ ≠ (.slice Ao28 t317.length co28 : Value).ownBlock ∧ some k_ ≠ (.slice Ao37 t324.length co37 : Value).ownBlock) (.slice Ao40 t328.length co40) t328) ∧ Aside0 (W_.heap[gb311]? = some (.cells #[.bool a0_0, .slice A0_1 l0_1.length c0_1] 24 (0, 0))) ∧ Aside0 (W_.heap[gb312]? = some (.cells #[.bool a1_0, .slice A1_1 l1_1.length c1_1] 24 (0, 0))) ∧ Aside0 (W_.heap[gb313]? = some (.cells #[.bool false, .slice none 0 0] 24 (0, 0))) ∧ Aside0 (W_.heap[gb314]? = some (.cells #[.bool false, .slice none 0 0] 24 (0, 0))) ∧ Aside0 (W_.heap[gb331]? = some (.cells #[.bool t323, .slice Ao37 t324.length co37] 24 (0, 0))) ∧ Aside0 (W_.heap[gb332]? = some (.cells #[.bool t327, .slice Ao40 t328.length co40] 24 (0, 0))) ∧ Aside0 (Below w.heap.size w W_)) ((((w35.setCell ⟨gb331, 0, none⟩ (.bool t323)).setCell ⟨gb331, 1, none⟩ (.slice Ao37 t324.length co37)).setCell ⟨gb332, 0, none⟩ (.bool t327)).setCell ⟨gb332, 1, none⟩ (.slice Ao40 t328.length co40)) := ⟨⟨rt (Kd.R_mono (Kd.R_far (p := ⟨gb332, 1, none⟩) (Kd.R_far (p := ⟨gb332, 0, none⟩) (Kd.R_far (p := ⟨gb331, 1, none⟩) (Kd.R_far (p := ⟨gb331, 0, none⟩) (Kd.R_types (Kd.R_types HO319.out BK331.out (by decide)) BK332.out (by decide)) (fun _ hk => hk.1.2) (.bool t323)) (fun _ hk => hk.1.2) (.slice Ao37 t324.length co37)) (fun _ hk => hk.2) (.bool t327)) (fun _ hk => hk.2) (.slice Ao40 t328.length co40)) (fun _ hk => ⟨hk.1.1.1, hk.1.1.2⟩))⟩, ⟨vt (Kd.V_mono (Kd.V_far (p := ⟨gb332, 1, none⟩) (Kd.V_far (p := ⟨gb332, 0, none⟩) (Kd.V_far (p := ⟨gb331, 1, none⟩) (Kd.V_far (p := ⟨gb331, 0, none⟩) (Kd.V_mono (Kd.V_mono HO322.out (fun k_ hk => (⟨hk, hk.2.2.2.2.2.2.2.1⟩ : _ ∧ k_ ≠ gb331))) (fun k_ hk => (⟨hk, hk.1.2.2.2.2.2.2.2.2⟩ : _ ∧ k_ ≠ gb332))) (fun _ hk => hk.1.2) (.bool t323)) (fun _ hk => hk.1.2) (.slice Ao37 t324.length co37)) (fun _ hk => hk.2) (.bool t327)) (fun _ hk => hk.2) (.slice Ao40 t328.length co40)) (fun _ hk => ⟨hk.1.1.1, ⟨hk.1.1.2.1, ⟨hk.1.1.2.2.1, ⟨hk.1.1.2.2.2.1, ⟨hk.1.1.2.2.2.2.1, ⟨hk.1.1.2.2.2.2.2.1, ⟨hk.1.1.2.2.2.2.2.2.1, ⟨hk.1.1.2.2.2.2.2.2.2.1, hk.1.1.2.2.2.2.2.2.2.2⟩⟩⟩⟩⟩⟩⟩⟩))⟩, ⟨rt (Kd.R_mono (Kd.R_far (p := ⟨gb332, 1, none⟩) (Kd.R_far (p := ⟨gb332, 0, none⟩) (Kd.R_far (p := ⟨gb331, 1, none⟩) (Kd.R_far (p := ⟨gb331, 0, none⟩) (Kd.R_types (Kd.R_types HO326.out BK331.out (by decide)) BK332.out (by decide)) (fun _ hk => hk.1.2) (.bool t323)) (fun _ hk => hk.1.2) (.slice Ao37 t324.length co37)) (fun _ hk => hk.2) (.bool t327)) (fun _ hk => hk.2) (.slice Ao40 t328.length co40)) (fun _ hk => ⟨hk.1.1.1, hk.1.1.2⟩))⟩, ⟨rt (Kd.R_mono (Kd.R_far (p := ⟨gb332, 1, none⟩) (Kd.R_far (p := ⟨gb332, 0, none⟩) (Kd.R_far (p := ⟨gb331, 1, none⟩) (Kd.R_far (p := ⟨gb331, 0, none⟩) (Kd.R_types (Kd.R_types HO330.out BK331.out (by decide)) BK332.out (by decide)) (fun _ hk => hk.1.2) (.bool t323)) (fun _ hk => hk.1.2) (.slice Ao37 t324.length co37)) (fun _ hk => hk.2) (.bool t327)) (fun _ hk => hk.2) (.slice Ao40 t328.length co40)) (fun _ hk => ⟨hk.1.1.1, hk.1.1.2⟩))⟩, ⟨by refine blk_far ?_ NB311_332.out _; refine blk_far ?_ NB311_332.out _; refine blk_far ?_ NB311_331.out _; refine blk_far ?_ NB311_331.out _; exact BK311.out⟩, ⟨by refine blk_far ?_ NB312_332.out _; refine blk_far ?_ NB312_332.out _; refine blk_far ?_ NB312_331.out _; refine blk_far ?_ NB312_331.out _; exact BK312.out⟩, ⟨by refine blk_far ?_ NB313_332.out _; refine blk_far ?_ NB313_332.out _; refine blk_far ?_ NB313_331.out _; refine blk_far ?_ NB313_331.out _; exact BK313.out⟩, ⟨by refine blk_far ?_ NB314_332.out _; refine blk_far ?_ NB314_332.out _; refine blk_far ?_ NB314_331.out _; refine blk_far ?_ NB314_331.out _; exact BK314.out⟩, ⟨by refine blk_far ?_ NB331_332.out _; refine blk_far ?_ NB331_332.out _; refine blk_put (cs := #[.bool t323, .slice none 0 0]) ?_ 1 _ rfl; refine blk_put (cs := #[.bool false, .slice none 0 0]) ?_ 0 _ rfl; exact BK331.out⟩, ⟨by refine blk_put (cs := #[.bool t327, .slice none 0 0]) ?_ 1 _ rfl; refine blk_put (cs := #[.bool false, .slice none 0 0]) ?_ 0 _ rfl; refine blk_far ?_ NB332_331.out _; refine blk_far ?_ NB332_331.out _; exact BK332.out⟩, ⟨bls HB⟩⟩
     obtain ⟨n0_, n1_, n2_, n3_, n4_, n5_, n6_, n7_, n8_, n9_, n10_⟩ := n_
     generalize ((((w35.setCell ⟨gb331, 0, none⟩ (.bool t323)).setCell ⟨gb331, 1, none⟩ (.slice Ao37 t324.length co37)).setCell ⟨gb332, 0, none⟩ (.bool t327)).setCell ⟨gb332, 1, none⟩ (.slice Ao40 t328.length co40)) = w48 at n0_ n1_ n2_ n3_ n4_ n5_ n6_ n7_ n8_ n9_ n10_ ⊢
     have HO319 := n0_
     have HO322 := n1_
     have HO326 := n2_
     have HO330 := n3_
     have BK311 := n4_
     have BK312 := n5_
     have BK313 := n6_
     have BK314 := n7_
     have BK331 := n8_
     have BK332 := n9_
     have HB := n10_
     clear n0_ n1_ n2_ n3_ n4_ n5_ n6_ n7_ n8_ n9_ n10_
     replace HO319 := Az (Kd.R_drew HO319.out)
     replace HO322 := Az (Kd.V_drew HO322.out)
     replace HO326 := Az (Kd.R_drew HO326.out)
     replace HO330 := Az (Kd.R_drew HO330.out)
     replace BK311 := Az (blk_drew BK311.out)
     replace BK312 := Az (blk_drew BK312.out)
     replace BK313 := Az (blk_drew BK313.out)
     replace BK314 := Az (blk_drew BK314.out)
     replace BK331 := Az (blk_drew BK331.out)
     replace BK332 := Az (blk_drew BK332.out)
     replace HB := Az (below_drew1 HB.out)
     refine start_ (n := 5) (S := fun w' => w'.cell? ⟨gb331, 0, none⟩ = some (.bool t323) ∧ w'.cell? ⟨gb331, 1, none⟩ = some (.slice Ao37 t324.length co37) ∧ w'.cell? ⟨gb332, 0, none⟩ = some (.bool t327) ∧ w'.cell? ⟨gb332, 1, none⟩ = some (.slice Ao40 t328.length co40)) (ds := []) (bm 5 0) (by kernel_rfl) rfl rfl ⟨(blk_cell BK331.out 0).trans rfl, (blk_cell BK331.out 1).trans rfl, (blk_cell BK332.out 0).trans rfl, (blk_cell BK332.out 1).trans rfl⟩ (fun hHeld => ?_)
     generalize w48.drew = w49 at HO319 HO322 HO326 HO330 BK311 BK312 BK313 BK314 BK331 BK332 HB hHeld ⊢
     refine take_ (i := 0) (N := some 70) (v := ?_) (a' := ?_) (bm 5 1) rfl rfl (by kernel_rfl) (fun _ _ _ h => h) (Or.inl ⟨by rfl, ?_⟩) hHeld ?_ ?_
     rotate_left
     ·rintro w' ⟨s0, s1, s2, s3⟩
      go_simp
      with_reducible rfl
     rotate_left
     ·simp only [Act.put, List.setIfInBounds_toArray, List.set_cons_zero, List.set_cons_succ, i64_w, i32_w]
      rfl
     refine take_ (i := 1) (N := some 71) (v := ?_) (a' := ?_) (bm 5 3) rfl rfl (by kernel_rfl) (fun _ _ _ h => h) (Or.inl ⟨by rfl, ?_⟩) hHeld ?_ ?_
     rotate_left
     ·rintro w' ⟨s0, s1, s2, s3⟩
      go_simp
      with_reducible rfl
     rotate_left
     ·simp only [Act.put, List.setIfInBounds_toArray, List.set_cons_zero, List.set_cons_succ, i64_w, i32_w]
      rfl
     refine one_ (i := 2) (N := none) (bm 5 7) rfl rfl (by kernel_rfl) (by decide) (fun K hK => ?_)
     have hs50 : w49.cell? ⟨gb313, 0, none⟩ = some (.bool false) := (blk_cell BK313.out 0).trans rfl
     have hfs50 := blk_frozen BK313.out 0
     have hns50_0 := NB311_313.out
     have hns50_1 := NB312_313.out
     have hns50_3 := NB314_313.out
     have hns50_4 := NB331_313.out
     have hns50_5 := NB332_313.out
     have hms50_0 := NB313_311.out
     have hms50_1 := NB313_312.out
     have hms50_3 := NB313_314.out
     have hms50_4 := NB313_331.out
     have hms50_5 := NB313_332.out
     have hs51 : w49.cell? ⟨gb313, 1, none⟩ = some (.slice none 0 0) := (blk_cell BK313.out 1).trans rfl
     have hfs51 := blk_frozen BK313.out 1
     have hns51_0 := NB311_313.out
     have hns51_1 := NB312_313.out
     have hns51_3 := NB314_313.out
     have hns51_4 := NB331_313.out
     have hns51_5 := NB332_313.out
     have hms51_0 := NB313_311.out
     have hms51_1 := NB313_312.out
     have hms51_3 := NB313_314.out
     have hms51_4 := NB313_331.out
     have hms51_5 := NB313_332.out
     refine skip_ (w1 := ?_) (by rfl) rfl ?_ ?_
     rotate_left
     ·go_simp
      rfl
     refine hK.out _ _ ⟨((cell_far (p := ⟨gb313, _, none⟩) NB331_313.out _).trans (((cell_far (p := ⟨gb313, _, none⟩) NB331_313.out _).trans (hHeld.1)))), ((cell_far (p := ⟨gb313, _, none⟩) NB331_313.out _).trans (((cell_far (p := ⟨gb313, _, none⟩) NB331_313.out _).trans (hHeld.2.1)))), ((cell_far (p := ⟨gb313, _, none⟩) NB332_313.out _).trans (((cell_far (p := ⟨gb313, _, none⟩) NB332_313.out _).trans (hHeld.2.2.1)))), ((cell_far (p := ⟨gb313, _, none⟩) NB332_313.out _).trans (((cell_far (p := ⟨gb313, _, none⟩) NB332_313.out _).trans (hHeld.2.2.2))))⟩ (fun hHeld => ?_)
     clear hK K
     refine one_ (i := 3) (N := none) (bm 5 15) rfl rfl (by kernel_rfl) (by decide) (fun K hK => ?_)
     have hs52 : w49.cell? ⟨gb314, 0, none⟩ = some (.bool false) := (blk_cell BK314.out 0).trans rfl
     have hfs52 := blk_frozen BK314.out 0
     have hns52_0 := NB311_314.out
     have hns52_1 := NB312_314.out
     have hns52_2 := NB313_314.out
     have hns52_4 := NB331_314.out
     have hns52_5 := NB332_314.out
     have hms52_0 := NB314_311.out
     have hms52_1 := NB314_312.out
     have hms52_2 := NB314_313.out
     have hms52_4 := NB314_331.out
     have hms52_5 := NB314_332.out
     have hs53 : w49.cell? ⟨gb314, 1, none⟩ = some (.slice none 0 0) := (blk_cell BK314.out 1).trans rfl
     have hfs53 := blk_frozen BK314.out 1
     have hns53_0 := NB311_314.out
     have hns53_1 := NB312_314.out
     have hns53_2 := NB313_314.out
     have hns53_4 := NB331_314.out
     have hns53_5 := NB332_314.out
     have hms53_0 := NB314_311.out
     have hms53_1 := NB314_312.out
     have hms53_2 := NB314_313.out
     have hms53_4 := NB314_331.out
     have hms53_5 := NB314_332.out
     refine skip_ (w1 := ?_) (by rfl) rfl ?_ ?_
     rotate_left
     ·go_simp
      rfl
     refine hK.out _ _ ⟨((cell_far (p := ⟨gb314, _, none⟩) NB331_314.out _).trans (((cell_far (p := ⟨gb314, _, none⟩) NB331_314.out _).trans (hHeld.1)))), ((cell_far (p := ⟨gb314, _, none⟩) NB331_314.out _).trans (((cell_far (p := ⟨gb314, _, none⟩) NB331_314.out _).trans (hHeld.2.1)))), ((cell_far (p := ⟨gb314, _, none⟩) NB332_314.out _).trans (((cell_far (p := ⟨gb314, _, none⟩) NB332_314.out _).trans (hHeld.2.2.1)))), ((cell_far (p := ⟨gb314, _, none⟩) NB332_314.out _).trans (((cell_far (p := ⟨gb314, _, none⟩) NB332_314.out _).trans (hHeld.2.2.2))))⟩ (fun hHeld => ?_)
     clear hK K
     refine pure_ (i := 4) (N := some 6) (v := ?_) (a' := ?_) (bm 5 31) rfl rfl (by kernel_rfl) (fun _ _ _ h => h) (Or.inl ⟨by rfl, ?_⟩) ?_ ?_
     rotate_left
     ·intro w'
      go_simp
      with_reducible rfl
     rotate_left
     ·simp only [Act.put, List.setIfInBounds_toArray, List.set_cons_zero, List.set_cons_succ, i64_w, i32_w]
      rfl
     refine done_ (by kernel_rfl) ?_
     try go_wp2
     refine bodyPost_ret (results_list (rs := [.cell 4 24, .cell 5 24, .tmp 6]) rfl (by simp) (.cell gb313 24 #[.bool t323, .slice Ao37 t324.length co37] (0, 0) _ rfl (by refine blk_far ?_ NB313_314.out _; refine blk_far ?_ NB313_314.out _; refine blk_put (cs := #[.bool t323, .slice none 0 0]) ?_ 1 _ rfl; refine blk_put (cs := #[.bool false, .slice none 0 0]) ?_ 0 _ rfl; exact BK313.out) Tryz.underlying24 rfl (by kernel_rfl) (.cell gb314 24 #[.bool t327, .slice Ao40 t328.length co40] (0, 0) _ rfl (by refine blk_put (cs := #[.bool t327, .slice none 0 0]) ?_ 1 _ rfl; refine blk_put (cs := #[.bool false, .slice none 0 0]) ?_ 0 _ rfl; refine blk_far ?_ NB314_313.out _; refine blk_far ?_ NB314_313.out _; exact BK314.out) Tryz.underlying24 rfl (by kernel_rfl) (.tmp .nil)))) rfl ?_
     exact ⟨_, _, fe, rt (Kd.R_mono (Kd.R_far (p := ⟨gb314, 1, none⟩) (Kd.R_far (p := ⟨gb314, 0, none⟩) (Kd.R_far (p := ⟨gb313, 1, none⟩) (Kd.R_far (p := ⟨gb313, 0, none⟩) (Kd.R_types (Kd.R_types HO326.out BK313.out (by decide)) BK314.out (by decide)) (fun _ hk => hk.1.2) (.bool t323)) (fun _ hk => hk.1.2) (.slice Ao37 t324.length co37)) (fun _ hk => hk.2) (.bool t327)) (fun _ hk => hk.2) (.slice Ao40 t328.length co40)) (fun _ hk => hk.1.1.2)), rt (Kd.R_mono (Kd.R_far (p := ⟨gb314, 1, none⟩) (Kd.R_far (p := ⟨gb314, 0, none⟩) (Kd.R_far (p := ⟨gb313, 1, none⟩) (Kd.R_far (p := ⟨gb313, 0, none⟩) (Kd.R_types (Kd.R_types HO330.out BK313.out (by decide)) BK314.out (by decide)) (fun _ hk => hk.1.2) (.bool t323)) (fun _ hk => hk.1.2) (.slice Ao37 t324.length co37)) (fun _ hk => hk.2) (.bool t327)) (fun _ hk => hk.2) (.slice Ao40 t328.length co40)) (fun _ hk => hk.1.1.2)), bls HB⟩
  ·replace c6 := Bool.eq_false_iff.mpr c6
   subst c6
   rw [if_neg Bool.false_ne_true] at H
   exact absurd H (by simp)
 ·replace c4 := Bool.eq_false_iff.mpr c4
  subst c4
  rw [if_neg Bool.false_ne_true] at H
  exact absurd H (by simp)
def math_Abs.f (a0 : Nat) : Option (Nat) := some (Int.toNat (Go.bits .andNot .u64 ((a0 : Nat) : Int) 9223372036854775808))
set_option maxHeartbeats 8000000 in
set_option maxRecDepth 100000 in
theorem math_Abs.calls (a0 : Nat) (r : Nat) (w : World) (h : math_Abs.f a0 = some r) :
  Calls Tryz.prog 60 #[.float .f64 a0] w fun e w' => e = .returned (.float .f64 r) ∧ Drawn0 w w' := by
 have H := h
 unfold math_Abs.f at H
 clear h
 obtain rfl := Option.some.inj H
 go_enter Tryz.func60, Tryz.ntmps60
 go_wp2
 go_ret
 exact ⟨by first | rfl | (simp; done) | (simp [*]; done), by repeat (first | exact Drawn0.refl _ | apply Drawn0.step)⟩
def math_IsInf.f (a0 : Nat) (a1 : Int) : Option (Bool) := if a1 = 0 then ((math_Abs.f a0).bind fun t138 => (some (FloatKind.f64.format.order t138 9218868437227405311 == some Ordering.gt))) else (none)
set_option maxHeartbeats 8000000 in
set_option maxRecDepth 100000 in
theorem math_IsInf.calls (a0 : Nat) (a1 : Int) (r : Bool) (w : World) (h : math_IsInf.f a0 a1 = some r) :
  Calls Tryz.prog 58 #[.float .f64 a0, .int .i64 a1] w fun e w' => e = .returned (.bool r) ∧ Drawn0 w w' := by
 have H := h
 unfold math_IsInf.f at H
 clear h
 by_cases c3 : a1 = 0
 ·rw [if_pos c3] at H
  have c3b0 := beq_iff_eq.mpr c3
  have c3b1 := bne_eq_false_iff_eq.mpr c3
  clear c3
  obtain ⟨t138, A4, H⟩ := bd H
  obtain rfl := Option.some.inj H
  go_enter Tryz.func58, Tryz.ntmps58
  go_wp2_with (first | (refine gl (some 8) Tryz.func60 #[.float .f64 a0] ?_; (with_reducible refine (math_Abs.calls a0 t138 _ A4.out).mono ?_); rintro e w' ⟨rfl, ⟨nd, rfl⟩⟩; refine ⟨_, rfl, ?_⟩))
  go_ret
  exact ⟨by first | rfl | (simp; done) | (simp [*]; done), by repeat (first | exact Drawn0.refl _ | apply Drawn0.step)⟩
 ·rw [if_neg c3] at H
  exact absurd H (by simp)
def math_IsNaN.f (a0 : Nat) : Option (Bool) := some (FloatKind.f64.format.order a0 a0 != some Ordering.eq)
set_option maxHeartbeats 8000000 in
set_option maxRecDepth 100000 in
theorem math_IsNaN.calls (a0 : Nat) (r : Bool) (w : World) (h : math_IsNaN.f a0 = some r) :
  Calls Tryz.prog 122 #[.float .f64 a0] w fun e w' => e = .returned (.bool r) ∧ Drawn0 w w' := by
 have H := h
 unfold math_IsNaN.f at H
 clear h
 obtain rfl := Option.some.inj H
 go_enter Tryz.func122, Tryz.ntmps122
 go_wp2
 go_ret
 exact ⟨by first | rfl | (simp; done) | (simp [*]; done), by repeat (first | exact Drawn0.refl _ | apply Drawn0.step)⟩
def math_normalize.f (a0 : Nat) : Option (Nat × Int) := (math_Abs.f a0).bind fun t139 => (if (FloatKind.f64.format.order t139 4503599627370496 == some Ordering.lt) = true then (if okMul a0 4841369599423283200 = true then (some (fMul a0 4841369599423283200, (-52))) else (none)) else (some (a0, 0)))
set_option maxHeartbeats 8000000 in
set_option maxRecDepth 100000 in
theorem math_normalize.calls (a0 : Nat) (r1 : Nat) (r2 : Int) (w : World) (h : math_normalize.f a0 = some (r1, r2)) :
  Calls Tryz.prog 123 #[.float .f64 a0] w fun e w' => e = .returned (.tuple #[.float .f64 r1, .int .i64 r2]) ∧ Drawn0 w w' := by
 have H := h
 unfold math_normalize.f at H
 clear h
 obtain ⟨t139, A2, H⟩ := bd H
 by_cases c3 : (FloatKind.f64.format.order t139 4503599627370496 == some Ordering.lt) = true
 ·rw [if_pos c3] at H
  have c3b0 : (FloatKind.f64.format.order t139 4503599627370496 == some Ordering.lt) = true := c3
  (try (have c3b1 : decide (FloatKind.f64.format.order t139 4503599627370496 = some Ordering.lt) = true := by simpa using c3))
  (try (have c3b2 : (FloatKind.f64.format.order t139 4503599627370496 == some Ordering.lt) = true := by simpa using c3))
  clear c3
  by_cases c4 : okMul a0 4841369599423283200 = true
  ·rw [if_pos c4] at H
   have c4b0 := eq_true c4
   have c4b1 := decide_eq_true c4
   clear c4
   simp only [Option.some.injEq, Prod.mk.injEq] at H
   obtain ⟨rfl, rfl⟩ := H
   go_enter Tryz.func123, Tryz.ntmps123
   go_wp2_with (first | (refine gl (some 5) Tryz.func60 #[.float .f64 a0] ?_; (with_reducible refine (math_Abs.calls a0 t139 _ A2.out).mono ?_); rintro e w' ⟨rfl, ⟨nd, rfl⟩⟩; refine ⟨_, rfl, ?_⟩))
   go_ret2
   exact ⟨by first | rfl | (simp; done) | (simp [*]; done), by repeat (first | exact Drawn0.refl _ | apply Drawn0.step)⟩
  ·rw [if_neg c4] at H
   exact absurd H (by simp)
 ·rw [if_neg c3] at H
  have c3b0 : (FloatKind.f64.format.order t139 4503599627370496 == some Ordering.lt) = false := by simpa using c3
  (try (have c3b1 : decide (FloatKind.f64.format.order t139 4503599627370496 = some Ordering.lt) = false := by simpa using c3))
  (try (have c3b2 : (FloatKind.f64.format.order t139 4503599627370496 == some Ordering.lt) = false := by simpa using c3))
  (try (have c3b3 : ¬ (FloatKind.f64.format.order t139 4503599627370496 = some Ordering.lt) := by simpa using c3))
  clear c3
  simp only [Option.some.injEq, Prod.mk.injEq] at H
  obtain ⟨rfl, rfl⟩ := H
  go_enter Tryz.func123, Tryz.ntmps123
  go_wp2_with (first | (refine gl (some 5) Tryz.func60 #[.float .f64 a0] ?_; (with_reducible refine (math_Abs.calls a0 t139 _ A2.out).mono ?_); rintro e w' ⟨rfl, ⟨nd, rfl⟩⟩; refine ⟨_, rfl, ?_⟩))
  go_ret2
  exact ⟨by first | rfl | (simp; done) | (simp [*]; done), by repeat (first | exact Drawn0.refl _ | apply Drawn0.step)⟩
def math_frexp.f (a0 : Nat) : Option (Nat × Int) := if (FloatKind.f64.format.order a0 0 == some Ordering.eq) = true then (some (a0, 0)) else ((math_IsInf.f a0 0).bind fun t140 => (if t140 = true then (none) else ((math_IsNaN.f a0).bind fun t141 => (if t141 = true then (none) else ((math_normalize.f a0).bind fun bt142 => (some (Int.toNat (Go.bits .or .u64 (Go.bits .andNot .u64 ((bt142.1 : Nat) : Int) 9218868437227405312) 4602678819172646912), wrap64 (bt142.2 + (wrap64 ((wrap64 ((wrap64 (Go.bits .and .u64 (((bt142.1 : Nat) : Int) / 4503599627370496) 2047)) - 1023)) + 1))))))))))
set_option maxHeartbeats 8000000 in
set_option maxRecDepth 100000 in
theorem math_frexp.calls (a0 : Nat) (r1 : Nat) (r2 : Int) (w : World) (h : math_frexp.f a0 = some (r1, r2)) :
  Calls Tryz.prog 90 #[.float .f64 a0] w fun e w' => e = .returned (.tuple #[.float .f64 r1, .int .i64 r2]) ∧ Drawn0 w w' := by
 have H := h
 unfold math_frexp.f at H
 clear h
 by_cases c2 : (FloatKind.f64.format.order a0 0 == some Ordering.eq) = true
 ·rw [if_pos c2] at H
  have c2b0 : (FloatKind.f64.format.order a0 0 == some Ordering.eq) = true := c2
  (try (have c2b1 : decide (FloatKind.f64.format.order a0 0 = some Ordering.eq) = true := by simpa using c2))
  (try (have c2b2 : (FloatKind.f64.format.order a0 0 == some Ordering.eq) = true := by simpa using c2))
  clear c2
  simp only [Option.some.injEq, Prod.mk.injEq] at H
  obtain ⟨rfl, rfl⟩ := H
  go_enter Tryz.func90, Tryz.ntmps90
  go_wp2
  go_ret2
  exact ⟨by first | rfl | (simp; done) | (simp [*]; done), by repeat (first | exact Drawn0.refl _ | apply Drawn0.step)⟩
 ·rw [if_neg c2] at H
  have c2b0 : (FloatKind.f64.format.order a0 0 == some Ordering.eq) = false := by simpa using c2
  (try (have c2b1 : decide (FloatKind.f64.format.order a0 0 = some Ordering.eq) = false := by simpa using c2))
  (try (have c2b2 : (FloatKind.f64.format.order a0 0 == some Ordering.eq) = false := by simpa using c2))
  (try (have c2b3 : ¬ (FloatKind.f64.format.order a0 0 = some Ordering.eq) := by simpa using c2))
  clear c2
  obtain ⟨t140, A3, H⟩ := bd H
  by_cases c4 : t140 = true
  ·subst c4
   rw [if_pos rfl] at H
   exact absurd H (by simp)
  ·replace c4 := Bool.eq_false_iff.mpr c4
   subst c4
   rw [if_neg Bool.false_ne_true] at H
   obtain ⟨t141, A5, H⟩ := bd H
   by_cases c6 : t141 = true
   ·subst c6
    rw [if_pos rfl] at H
    exact absurd H (by simp)
   ·replace c6 := Bool.eq_false_iff.mpr c6
    subst c6
    rw [if_neg Bool.false_ne_true] at H
    obtain ⟨⟨t142, t143⟩, A7, H⟩ := bd H
    (try dsimp only at H)
    simp only [Option.some.injEq, Prod.mk.injEq] at H
    obtain ⟨rfl, rfl⟩ := H
    go_enter Tryz.func90, Tryz.ntmps90
    go_wp2_with (first | (refine gl (some 11) Tryz.func58 #[.float .f64 a0, .int .i64 0] ?_; (with_reducible refine (math_IsInf.calls a0 0 false _ A3.out).mono ?_); rintro e w' ⟨rfl, ⟨nd, rfl⟩⟩; refine ⟨_, rfl, ?_⟩) | (go_at_call 122; (with_reducible refine (math_IsNaN.calls a0 false _ A5.out).mono ?_); rintro e w' ⟨rfl, ⟨nd, rfl⟩⟩) | (refine gl (some 19) Tryz.func123 #[.float .f64 a0] ?_; (with_reducible refine (math_normalize.calls a0 t142 t143 _ A7.out).mono ?_); rintro e w' ⟨rfl, ⟨nd, rfl⟩⟩; refine ⟨_, rfl, ?_⟩))
    go_ret2
    exact ⟨by first | rfl | (simp; done) | (simp [*]; done), by repeat (first | exact Drawn0.refl _ | apply Drawn0.step)⟩
def math_Frexp.f (a0 : Nat) : Option (Nat × Int) := (math_frexp.f a0).bind fun bt144 => (some (bt144.1, bt144.2))
set_option maxHeartbeats 8000000 in
set_option maxRecDepth 100000 in
theorem math_Frexp.calls (a0 : Nat) (r1 : Nat) (r2 : Int) (w : World) (h : math_Frexp.f a0 = some (r1, r2)) :
  Calls Tryz.prog 59 #[.float .f64 a0] w fun e w' => e = .returned (.tuple #[.float .f64 r1, .int .i64 r2]) ∧ Drawn0 w w' := by
 have H := h
 unfold math_Frexp.f at H
 clear h
 obtain ⟨⟨t144, t145⟩, A2, H⟩ := bd H
 (try dsimp only at H)
 simp only [Option.some.injEq, Prod.mk.injEq] at H
 obtain ⟨rfl, rfl⟩ := H
 go_enter Tryz.func59, Tryz.ntmps59
 go_wp2_with (first | (refine gl (some 9) Tryz.func90 #[.float .f64 a0] ?_; (with_reducible refine (math_frexp.calls a0 t144 t145 _ A2.out).mono ?_); rintro e w' ⟨rfl, ⟨nd, rfl⟩⟩; refine ⟨_, rfl, ?_⟩))
 go_ret2
 exact ⟨by first | rfl | (simp; done) | (simp [*]; done), by repeat (first | exact Drawn0.refl _ | apply Drawn0.step)⟩
def math_ldexp.f (a0 : Nat) (a1 : Int) : Option (Nat) := if (FloatKind.f64.format.order a0 0 == some Ordering.eq) = true then (some a0) else ((math_IsInf.f a0 0).bind fun t146 => (if t146 = true then (none) else ((math_IsNaN.f a0).bind fun t147 => (if t147 = true then (none) else ((math_normalize.f a0).bind fun bt148 => (if (wrap64 ((wrap64 (a1 + bt148.2)) + (wrap64 ((Go.bits .and .i64 (wrap64 (((bt148.1 : Nat) : Int) / 4503599627370496)) 2047) - 1023)))) < (-1075) then (none) else (if (wrap64 ((wrap64 (a1 + bt148.2)) + (wrap64 ((Go.bits .and .i64 (wrap64 (((bt148.1 : Nat) : Int) / 4503599627370496)) 2047) - 1023)))) > 1023 then (none) else (if (wrap64 ((wrap64 (a1 + bt148.2)) + (wrap64 ((Go.bits .and .i64 (wrap64 (((bt148.1 : Nat) : Int) / 4503599627370496)) 2047) - 1023)))) < (-1022) then (none) else (if okMul 4607182418800017408 (Int.toNat (Go.bits .or .u64 (Go.bits .andNot .u64 ((bt148.1 : Nat) : Int) 9218868437227405312) (IntKind.u64.wrap ((IntKind.u64.wrap (wrap64 ((wrap64 ((wrap64 (a1 + bt148.2)) + (wrap64 ((Go.bits .and .i64 (wrap64 (((bt148.1 : Nat) : Int) / 4503599627370496)) 2047) - 1023)))) + 1023))) * 4503599627370496)))) = true then (some (fMul 4607182418800017408 (Int.toNat (Go.bits .or .u64 (Go.bits .andNot .u64 ((bt148.1 : Nat) : Int) 9218868437227405312) (IntKind.u64.wrap ((IntKind.u64.wrap (wrap64 ((wrap64 ((wrap64 (a1 + bt148.2)) + (wrap64 ((Go.bits .and .i64 (wrap64 (((bt148.1 : Nat) : Int) / 4503599627370496)) 2047) - 1023)))) + 1023))) * 4503599627370496)))))) else (none))))))))))
set_option maxHeartbeats 8000000 in
set_option maxRecDepth 100000 in
theorem math_ldexp.calls (a0 : Nat) (a1 : Int) (r : Nat) (w : World) (h : math_ldexp.f a0 a1 = some r) :
  Calls Tryz.prog 92 #[.float .f64 a0, .int .i64 a1] w fun e w' => e = .returned (.float .f64 r) ∧ Drawn0 w w' := by
 have H := h
 unfold math_ldexp.f at H
 clear h
 by_cases c3 : (FloatKind.f64.format.order a0 0 == some Ordering.eq) = true
 ·rw [if_pos c3] at H
  have c3b0 : (FloatKind.f64.format.order a0 0 == some Ordering.eq) = true := c3
  (try (have c3b1 : decide (FloatKind.f64.format.order a0 0 = some Ordering.eq) = true := by simpa using c3))
  (try (have c3b2 : (FloatKind.f64.format.order a0 0 == some Ordering.eq) = true := by simpa using c3))
  clear c3
  obtain rfl := Option.some.inj H
  go_enter Tryz.func92, Tryz.ntmps92
  go_wp2
  go_ret
  exact ⟨by first | rfl | (simp; done) | (simp [*]; done), by repeat (first | exact Drawn0.refl _ | apply Drawn0.step)⟩
 ·rw [if_neg c3] at H
  have c3b0 : (FloatKind.f64.format.order a0 0 == some Ordering.eq) = false := by simpa using c3
  (try (have c3b1 : decide (FloatKind.f64.format.order a0 0 = some Ordering.eq) = false := by simpa using c3))
  (try (have c3b2 : (FloatKind.f64.format.order a0 0 == some Ordering.eq) = false := by simpa using c3))
  (try (have c3b3 : ¬ (FloatKind.f64.format.order a0 0 = some Ordering.eq) := by simpa using c3))
  clear c3
  obtain ⟨t146, A4, H⟩ := bd H
  by_cases c5 : t146 = true
  ·subst c5
   rw [if_pos rfl] at H
   exact absurd H (by simp)
  ·replace c5 := Bool.eq_false_iff.mpr c5
   subst c5
   rw [if_neg Bool.false_ne_true] at H
   obtain ⟨t147, A6, H⟩ := bd H
   by_cases c7 : t147 = true
   ·subst c7
    rw [if_pos rfl] at H
    exact absurd H (by simp)
   ·replace c7 := Bool.eq_false_iff.mpr c7
    subst c7
    rw [if_neg Bool.false_ne_true] at H
    obtain ⟨⟨t148, t149⟩, A8, H⟩ := bd H
    (try dsimp only at H)
    by_cases c9 : (wrap64 ((wrap64 (a1 + t149)) + (wrap64 ((Go.bits .and .i64 (wrap64 (((t148 : Nat) : Int) / 4503599627370496)) 2047) - 1023)))) < (-1075)
    ·rw [if_pos c9] at H
     exact absurd H (by simp)
    ·rw [if_neg c9] at H
     have c9b0 := decide_eq_false c9
     clear c9
     by_cases c10 : (wrap64 ((wrap64 (a1 + t149)) + (wrap64 ((Go.bits .and .i64 (wrap64 (((t148 : Nat) : Int) / 4503599627370496)) 2047) - 1023)))) > 1023
     ·rw [if_pos c10] at H
      exact absurd H (by simp)
     ·rw [if_neg c10] at H
      have c10b0 : decide (1023 < (wrap64 ((wrap64 (a1 + t149)) + (wrap64 ((Go.bits .and .i64 (wrap64 (((t148 : Nat) : Int) / 4503599627370496)) 2047) - 1023))))) = false := decide_eq_false c10
      clear c10
      by_cases c11 : (wrap64 ((wrap64 (a1 + t149)) + (wrap64 ((Go.bits .and .i64 (wrap64 (((t148 : Nat) : Int) / 4503599627370496)) 2047) - 1023)))) < (-1022)
      ·rw [if_pos c11] at H
       exact absurd H (by simp)
      ·rw [if_neg c11] at H
       have c11b0 := decide_eq_false c11
       clear c11
       by_cases c12 : okMul 4607182418800017408 (Int.toNat (Go.bits .or .u64 (Go.bits .andNot .u64 ((t148 : Nat) : Int) 9218868437227405312) (IntKind.u64.wrap ((IntKind.u64.wrap (wrap64 ((wrap64 ((wrap64 (a1 + t149)) + (wrap64 ((Go.bits .and .i64 (wrap64 (((t148 : Nat) : Int) / 4503599627370496)) 2047) - 1023)))) + 1023))) * 4503599627370496)))) = true
       ·rw [if_pos c12] at H
        have c12b0 := eq_true c12
        have c12b1 := decide_eq_true c12
        obtain rfl := Option.some.inj H
        go_enter Tryz.func92, Tryz.ntmps92
        go_wp2_with (first | (refine gl (some 14) Tryz.func58 #[.float .f64 a0, .int .i64 0] ?_; (with_reducible refine (math_IsInf.calls a0 0 false _ A4.out).mono ?_); rintro e w' ⟨rfl, ⟨nd, rfl⟩⟩; refine ⟨_, rfl, ?_⟩) | (go_at_call 122; (with_reducible refine (math_IsNaN.calls a0 false _ A6.out).mono ?_); rintro e w' ⟨rfl, ⟨nd, rfl⟩⟩) | (refine gl (some 22) Tryz.func123 #[.float .f64 a0] ?_; (with_reducible refine (math_normalize.calls a0 t148 t149 _ A8.out).mono ?_); rintro e w' ⟨rfl, ⟨nd, rfl⟩⟩; refine ⟨_, rfl, ?_⟩))
        go_ret
        exact ⟨by first | rfl | (simp; done) | (simp [*]; done), by repeat (first | exact Drawn0.refl _ | apply Drawn0.step)⟩
       ·rw [if_neg c12] at H
        exact absurd H (by simp)
def math_Ldexp.f (a0 : Nat) (a1 : Int) : Option (Nat) := (math_ldexp.f a0 a1).bind fun t150 => (some t150)
set_option maxHeartbeats 8000000 in
set_option maxRecDepth 100000 in
theorem math_Ldexp.calls (a0 : Nat) (a1 : Int) (r : Nat) (w : World) (h : math_Ldexp.f a0 a1 = some r) :
  Calls Tryz.prog 61 #[.float .f64 a0, .int .i64 a1] w fun e w' => e = .returned (.float .f64 r) ∧ Drawn0 w w' := by
 have H := h
 unfold math_Ldexp.f at H
 clear h
 obtain ⟨t150, A3, H⟩ := bd H
 obtain rfl := Option.some.inj H
 go_enter Tryz.func61, Tryz.ntmps61
 go_wp2_with (first | (refine gl (some 10) Tryz.func92 #[.float .f64 a0, .int .i64 a1] ?_; (with_reducible refine (math_ldexp.calls a0 a1 t150 _ A3.out).mono ?_); rintro e w' ⟨rfl, ⟨nd, rfl⟩⟩; refine ⟨_, rfl, ?_⟩))
 go_ret
 exact ⟨by first | rfl | (simp; done) | (simp [*]; done), by repeat (first | exact Drawn0.refl _ | apply Drawn0.step)⟩
def math_Trunc.f (a0 : Nat) : Option (Nat) := if isNum a0 = true then (some (fTrunc a0)) else (none)
set_option maxHeartbeats 8000000 in
set_option maxRecDepth 100000 in
theorem math_Trunc.calls (a0 : Nat) (r : Nat) (w : World) (h : math_Trunc.f a0 = some r) :
  Calls Tryz.prog 79 #[.float .f64 a0] w fun e w' => e = .returned (.float .f64 r) ∧ Drawn0 w w' := by
 have H := h
 unfold math_Trunc.f at H
 clear h
 by_cases c2 : isNum a0 = true
 ·rw [if_pos c2] at H
  have c2b0 := eq_true c2
  have c2b1 := decide_eq_true c2
  clear c2
  obtain rfl := Option.some.inj H
  go_enter Tryz.func79, Tryz.ntmps79
  go_wp2
  go_ret
  exact ⟨by first | rfl | (simp; done) | (simp [*]; done), by repeat (first | exact Drawn0.refl _ | apply Drawn0.step)⟩
 ·rw [if_neg c2] at H
  exact absurd H (by simp)
end Go.Proofs.YtkenmmfplnheaaaGreatDoor.P
