/- The functions' forms and the proofs that the machine computes them: printed by a changed copy of the kit's printer, shortened by a program. -/
import Derived.Test.YtkenmmfplnheaaaGreatDoorWalk2
namespace Go.Proofs.YtkenmmfplnheaaaGreatDoor.P
open Go.Proofs.YtkenmmfplnheaaaGreatDoor.Giv
open Go.RowKit Go.Proofs.YtkenmmfplnheaaaGreatDoorW.PrintWords Go.Proofs.YtkenmmfplnheaaaGreatDoorW.PrintLast Go.Proofs.YtkenmmfplnheaaaGreatDoorW.PrintMore
attribute [local go_sem] max2_int min2_int max_two min_two max_three min_three max_four min_four   -- for this text's walks alone
set_option linter.unusedVariables false
set_option linter.unusedSimpArgs false
def real_Whole.f (k : Nat) (a0 : Int) : Option (Bool × List Int × Int) := if (FloatKind.f64.format.order (Int.toNat a0) (Int.toNat a0) != some Ordering.eq) = true then (none) else ((math_IsInf.f (Int.toNat a0) 0).bind fun t334 => (if t334 = true then (none) else ((math_Trunc.f (Int.toNat a0)).bind fun t335 => ((math_Frexp.f t335).bind fun bt336 => ((math_Ldexp.f bt336.1 53).bind fun t338 => (if inI64 t338 = true then ((whole_Of.f (f2i t338)).bind fun bt339 => ((whole_Of.f 2).bind fun bt344 => (if (wrap64 (bt336.2 - 53)) ≥ 0 then ((whole_Of.f (wrap64 (bt336.2 - 53))).bind fun bt349 => ((whole_Pow.f k bt344.1 bt344.2 bt349.1 bt349.2).bind fun bt353 => ((whole_Mul.f k bt339.1 bt339.2 bt353.1 bt353.2.1).bind fun bt359 => (some (bt359.1, bt359.2.1, 0))))) else (if (wrap64 (bt336.2 - 53)) < (-60) then (none) else ((whole_Of.f (wrap64 (-(wrap64 (bt336.2 - 53))))).bind fun bt364 => ((whole_Pow.f k bt344.1 bt344.2 bt364.1 bt364.2).bind fun bt368 => ((whole_DivMod.f k bt339.1 bt339.2 bt368.1 bt368.2.1).bind fun bt374 => (some (bt374.1, bt374.2.1, 0))))))))) else (none)))))))
theorem real_Whole.mono : ∀ a0 k, LeO (real_Whole.f k a0) (real_Whole.f (k + 1) a0) := by
 intro a0 k
 unfold real_Whole.f
 repeat' first
   | (with_reducible exact whole_DivMod.mono _ _ _ _ _)
   | (with_reducible exact whole_Mul.mono _ _ _ _ _)
   | (with_reducible exact whole_Pow.mono _ _ _ _ _)
   | (with_reducible exact LeO.refl _)
   | (with_reducible exact LeO.none _)
   | (with_reducible refine LeO.ite ?_ ?_)
   | (with_reducible refine LeO.bind ?_ (fun _ => ?_))
def real_Whole.T11 : Bool × List (List Nat × List Nat) := (true, [([], []), ([], []), ([1], [1]), ([0, 2, 2], [0, 2]), ([3], [3]), ([4], [4]), ([4], [4]), ([], []), ([7, 5, 3, 0, 1, 2, 3, 4, 5, 7], [5, 7]), ([6, 8, 0, 1, 2, 3, 4, 5, 6, 7, 8], [6])])
def real_Whole.B11 : List Nat := [0, 0, 2, 7, 15, 31, 31, 0, 191, 511]
theorem real_Whole.tab11 : rtab .any (opsOf Tryz.f78 11) = real_Whole.T11 := by kernel_rfl
theorem real_Whole.bits11 : waitsOk real_Whole.T11.2 real_Whole.B11 = true := by kernel_rfl
def real_Whole.T16 : Bool × List (List Nat × List Nat) := (true, [([], []), ([], []), ([1], [1]), ([2], [2]), ([0, 3, 3], [0, 3]), ([4], [4]), ([5], [5]), ([5], [5]), ([], []), ([8, 6, 4, 0, 1, 2, 3, 4, 5, 6, 8], [6, 8]), ([7, 9, 0, 1, 2, 3, 4, 5, 6, 7, 8, 9], [7])])
def real_Whole.B16 : List Nat := [0, 0, 2, 6, 15, 31, 63, 63, 0, 383, 1023]
theorem real_Whole.tab16 : rtab .any (opsOf Tryz.f78 16) = real_Whole.T16 := by kernel_rfl
theorem real_Whole.bits16 : waitsOk real_Whole.T16.2 real_Whole.B16 = true := by kernel_rfl
set_option maxHeartbeats 8000000 in
set_option maxRecDepth 100000 in
theorem real_Whole.calls (k : Nat) (a0 : Int) (r1 : Bool) (r2 : List Int) (r3 : Int) (w : World) (h : real_Whole.f k a0 = some (r1, r2, r3)) :
  Calls Tryz.prog 78 #[.int .u64 a0] w fun e w' => ∃ v1_ : Value, e = .returned (.tuple #[.agg #[.bool r1, v1_], .int .i64 r3]) ∧ Kd.R (Kd.int .u64) 25 w' w.heap.size (fun _ => True) v1_ r2 ∧ Below w.heap.size w w' := by
 have hu24 := Tryz.underlying24
 have HB := Az (Below.refl w.heap.size w)
 have H := h
 unfold real_Whole.f at H
 clear h
 by_cases c2 : (FloatKind.f64.format.order (Int.toNat a0) (Int.toNat a0) != some Ordering.eq) = true
 ·rw [if_pos c2] at H
  exact absurd H (by simp)
 ·rw [if_neg c2] at H
  have c2b0 : (FloatKind.f64.format.order (Int.toNat a0) (Int.toNat a0) != some Ordering.eq) = false := by simpa using c2
  clear c2
  obtain ⟨t334, A3, H⟩ := bd H
  by_cases c4 : t334 = true
  ·subst c4
   rw [if_pos rfl] at H
   exact absurd H (by simp)
  ·replace c4 := Bool.eq_false_iff.mpr c4
   subst c4
   rw [if_neg Bool.false_ne_true] at H
   obtain ⟨t335, A5, H⟩ := bd H
   obtain ⟨⟨t336, t337⟩, A6, H⟩ := bd H
   obtain ⟨t338, A7, H⟩ := bd H
   by_cases c8 : inI64 t338 = true
   ·rw [if_pos c8] at H
    have c8b0 := eq_true c8
    have c8b1 := decide_eq_true c8
    clear c8
    obtain ⟨⟨t339, t340⟩, A9, H⟩ := bd H
    obtain ⟨⟨t344, t345⟩, A10, H⟩ := bd H
    by_cases c11 : (wrap64 (t337 - 53)) ≥ 0
    ·rw [if_pos c11] at H
     have c11b0 : decide (0 ≤ (wrap64 (t337 - 53))) = true := decide_eq_true c11
     clear c11
     obtain ⟨⟨t349, t350⟩, A12, H⟩ := bd H
     obtain ⟨⟨t353, t354, t357⟩, A13, H⟩ := bd H
     obtain ⟨⟨t359, t360, t363⟩, A14, H⟩ := bd H
     simp only [Option.some.injEq, Prod.mk.injEq] at H
     obtain ⟨rfl, rfl, rfl⟩ := H
     go_enter Tryz.func78, Tryz.ntmps78
     try go_wp2_with (first | (refine be 2 #[.bool false, .slice none 0 0] 24 ?_; intro gb333 hg w15 hbox hb; have BK333 := Az (hbox); have GW333 := gw (bl HB) hg; have GE333 := gw (bl HB) hg; replace HB := Az (below_step (bl HB) hb); clear hb hbox hg) | (refine gl (some 25) Tryz.func58 #[.float .f64 (Int.toNat a0), .int .i64 0] ?_; (with_reducible refine (math_IsInf.calls (Int.toNat a0) 0 false _ A3.out).mono ?_); rintro e w15 ⟨rfl, hb⟩; replace hb := dr hb; refine ⟨_, rfl, ?_⟩; replace BK333 := kb BK333 hb; replace HB := Az (below_step (bls HB) hb); clear hb; have hz333_ := bz BK333) | (refine gl (some 29) Tryz.func79 #[.float .f64 (Int.toNat a0)] ?_; (with_reducible refine (math_Trunc.calls (Int.toNat a0) t335 _ A5.out).mono ?_); rintro e w15 ⟨rfl, hb⟩; replace hb := dr hb; refine ⟨_, rfl, ?_⟩; replace BK333 := kb BK333 hb; replace HB := Az (below_step (bls HB) hb); clear hb; have hz333_ := bz BK333) | (refine gl (some 30) Tryz.func59 #[.float .f64 t335] ?_; (with_reducible refine (math_Frexp.calls t335 t336 t337 _ A6.out).mono ?_); rintro e w15 ⟨rfl, hb⟩; replace hb := dr hb; refine ⟨_, rfl, ?_⟩; replace BK333 := kb BK333 hb; replace HB := Az (below_step (bls HB) hb); clear hb; have hz333_ := bz BK333) | (refine gl (some 34) Tryz.func61 #[.float .f64 t336, .int .i64 53] ?_; (with_reducible refine (math_Ldexp.calls t336 53 t338 _ A7.out).mono ?_); rintro e w15 ⟨rfl, hb⟩; replace hb := dr hb; refine ⟨_, rfl, ?_⟩; replace BK333 := kb BK333 hb; replace HB := Az (below_step (bls HB) hb); clear hb; have hz333_ := bz BK333) | (refine gl (some 36) Tryz.func65 #[.int .i64 (f2i t338)] ?_; (with_reducible refine (whole_Of.calls (f2i t338) t339 t340 _ A9.out).mono ?_); rintro e w16 ⟨v341, rfl, ho0, hb⟩; refine ⟨_, rfl, ?_⟩; have HO342 := Az (Kd.R_lower ho0 (below_size (bls HB))); replace BK333 := kb BK333 hb; replace HB := Az (below_step (bls HB) hb)) | (refine be 7 #[.bool false, .slice none 0 0] 24 ?_; intro gb343 hg w17 hbox hb; replace HO342 := Az (Kd.R_below (rk HO342) hb); have BK343 := Az (hbox); have GW343 := gw (bls HB) hg; have GE343 := gw (bls HB) hg; replace HB := Az (below_step (bls HB) hb); have NB333_343 := nl BK333 hg; have NB343_333 := ng BK333 hg; replace BK333 := kb BK333 hb; clear hb hbox hg; have hnb18 := NB343_333.out; have hnc18 := NB333_343.out; have hz19_1 := bz BK343; obtain ⟨Ao20, co20, eo20⟩ := Kd.R_slice HO342.out; subst eo20) | (refine gl (some 37) Tryz.func65 #[.int .i64 2] ?_; (with_reducible refine (whole_Of.calls 2 t344 t345 _ A10.out).mono ?_); rintro e w21 ⟨v346, rfl, ho0, hb⟩; refine ⟨_, rfl, ?_⟩; have HO347 := Az (Kd.R_lower (Kd.R_new' ho0 (Kd.R_lt (rt ((Kd.R_mono (Kd.R_far (p := ⟨gb343, 1, none⟩) (Kd.R_far (p := ⟨gb343, 0, none⟩) (Kd.R_types HO342.out BK343.out (by decide)) (fun _ hk => hk.2) (.bool t339)) (fun _ hk => hk.2) (.slice Ao20 t340.length co20)) (fun _ h_ => h_.1)))))) (below_size (bls HB))); replace HO342 := Az (Kd.R_elder' (rt ((Kd.R_mono (Kd.R_far (p := ⟨gb343, 1, none⟩) (Kd.R_far (p := ⟨gb343, 0, none⟩) (Kd.R_types HO342.out BK343.out (by decide)) (fun _ hk => hk.2) (.bool t339)) (fun _ hk => hk.2) (.slice Ao20 t340.length co20)) (fun _ h_ => h_.1)))) (Kd.R_base ho0) hb); replace BK333 := Az (blk_below (g := gb333) (o := .cells #[.bool false, .slice none 0 0] 24 (0, 0)) (by refine blk_far ?_ NB333_343.out _; refine blk_far ?_ NB333_343.out _; exact BK333.out) hb); replace BK343 := Az (blk_below (g := gb343) (o := .cells #[.bool t339, .slice Ao20 t340.length co20] 24 (0, 0)) (by refine blk_put (cs := #[.bool t339, .slice none 0 0]) ?_ 1 _ rfl; refine blk_put (cs := #[.bool false, .slice none 0 0]) ?_ 0 _ rfl; exact BK343.out) hb); replace HB := Az (below_step (bls HB) hb)) | (refine be 8 #[.bool false, .slice none 0 0] 24 ?_; intro gb348 hg w22 hbox hb; replace HO342 := Az (Kd.R_below (rk HO342) hb); replace HO347 := Az (Kd.R_below (rk HO347) hb); have BK348 := Az (hbox); have GW348 := gw (bls HB) hg; have GE348 := gw (bls HB) hg; replace HB := Az (below_step (bls HB) hb); have NB333_348 := nl BK333 hg; have NB348_333 := ng BK333 hg; replace BK333 := kb BK333 hb; have NB343_348 := nl BK343 hg; have NB348_343 := ng BK343 hg; replace BK343 := kb BK343 hb; clear hb hbox hg; have hnb23 := NB348_333.out; have hnc23 := NB333_348.out; have hnb24 := NB348_343.out; have hnc24 := NB343_348.out; have hz25_1 := bz BK348; obtain ⟨Ao26, co26, eo26⟩ := Kd.R_slice HO347.out; subst eo26))
     have n_ : (fun W_ : World => Aside0 (Kd.R (Kd.int .u64) 25 W_ w.heap.size (fun k_ => some k_ ≠ (.slice Ao26 t345.length co26 : Value).ownBlock) (.slice Ao20 t340.length co20) t340) ∧ Aside0 (Kd.R (Kd.int .u64) 25 W_ w.heap.size (fun k_ => some k_ ≠ (.slice Ao20 t340.length co20 : Value).ownBlock) (.slice Ao26 t345.length co26) t345) ∧ Aside0 (W_.heap[gb333]? = some (.cells #[.bool false, .slice none 0 0] 24 (0, 0))) ∧ Aside0 (W_.heap[gb343]? = some (.cells #[.bool t339, .slice Ao20 t340.length co20] 24 (0, 0))) ∧ Aside0 (W_.heap[gb348]? = some (.cells #[.bool t344, .slice Ao26 t345.length co26] 24 (0, 0))) ∧ Aside0 (Below w.heap.size w W_)) ((w22.setCell ⟨gb348, 0, none⟩ (.bool t344)).setCell ⟨gb348, 1, none⟩ (.slice Ao26 t345.length co26)) := ⟨⟨rt (Kd.R_mono (Kd.R_far (p := ⟨gb348, 1, none⟩) (Kd.R_far (p := ⟨gb348, 0, none⟩) (Kd.R_types HO342.out BK348.out (by decide)) (fun _ hk => hk.2) (.bool t344)) (fun _ hk => hk.2) (.slice Ao26 t345.length co26)) (fun _ hk => hk.1.2))⟩, ⟨rt (Kd.R_mono (Kd.R_far (p := ⟨gb348, 1, none⟩) (Kd.R_far (p := ⟨gb348, 0, none⟩) (Kd.R_types HO347.out BK348.out (by decide)) (fun _ hk => hk.2) (.bool t344)) (fun _ hk => hk.2) (.slice Ao26 t345.length co26)) (fun _ hk => hk.1.2))⟩, ⟨by refine blk_far ?_ NB333_348.out _; refine blk_far ?_ NB333_348.out _; exact BK333.out⟩, ⟨by refine blk_far ?_ NB343_348.out _; refine blk_far ?_ NB343_348.out _; exact BK343.out⟩, ⟨by refine blk_put (cs := #[.bool t344, .slice none 0 0]) ?_ 1 _ rfl; refine blk_put (cs := #[.bool false, .slice none 0 0]) ?_ 0 _ rfl; exact BK348.out⟩, ⟨bls HB⟩⟩
     obtain ⟨n0_, n1_, n2_, n3_, n4_, n5_⟩ := n_
     generalize ((w22.setCell ⟨gb348, 0, none⟩ (.bool t344)).setCell ⟨gb348, 1, none⟩ (.slice Ao26 t345.length co26)) = w27 at n0_ n1_ n2_ n3_ n4_ n5_ ⊢
     have HO342 := n0_
     have HO347 := n1_
     have BK333 := n2_
     have BK343 := n3_
     have BK348 := n4_
     have HB := n5_
     clear n0_ n1_ n2_ n3_ n4_ n5_
     replace HO342 := Az (Kd.R_drew HO342.out)
     replace HO347 := Az (Kd.R_drew HO347.out)
     replace BK333 := Az (blk_drew BK333.out)
     replace BK343 := Az (blk_drew BK343.out)
     replace BK348 := Az (blk_drew BK348.out)
     replace HB := Az (below_drew1 HB.out)
     refine start_ (n := 10) (S := fun w' => w'.cell? ⟨gb348, 0, none⟩ = some (.bool t344) ∧ w'.cell? ⟨gb348, 1, none⟩ = some (.slice Ao26 t345.length co26)) (ds := []) (bm 10 0) (by kernel_rfl) rfl rfl ⟨(blk_cell BK348.out 0).trans rfl, (blk_cell BK348.out 1).trans rfl⟩ (fun hHeld => ?_); refine with_tabW real_Whole.tab11 real_Whole.bits11 (fun HT_ HW_ => ?_)
     generalize w27.drew = w28 at HO342 HO347 BK333 BK343 BK348 HB hHeld ⊢
     refine pu 1 (some 44) (bm 10 2) HT_.out ?_
     refine tk 0 (some 43) (bm 10 3) HT_.out HW_.out hHeld ?_
     refine join_ (σ := Value × Value × Nat) 2 (bm 10 255) (fun s_ => [(45, .agg #[.bool t349, s_.1]), (46, .tuple #[.agg #[.bool t353, s_.2.1], .int .i64 t357]), (9, .pointer (some ⟨s_.2.2, 0, none⟩)), (42, .tuple #[.agg #[.bool t353, s_.2.1], .int .i64 t357]), (47, .agg #[.bool t353, s_.2.1]), (48, .int .i64 t357)]) (fun s_ w' => (w'.cell? ⟨gb348, 0, none⟩ = some (.bool t344) ∧ w'.cell? ⟨gb348, 1, none⟩ = some (.slice Ao26 t345.length co26)) ∧ (Kd.R (Kd.int .u64) 25 w' w.heap.size (fun k_ => some k_ ≠ (.slice Ao26 t345.length co26 : Value).ownBlock ∧ some k_ ≠ (s_.1 : Value).ownBlock ∧ some k_ ≠ (s_.2.1 : Value).ownBlock) (.slice Ao20 t340.length co20) t340) ∧ (Kd.R (Kd.int .u64) 25 w' w.heap.size (fun k_ => some k_ ≠ (.slice Ao20 t340.length co20 : Value).ownBlock ∧ some k_ ≠ (s_.1 : Value).ownBlock ∧ some k_ ≠ (s_.2.1 : Value).ownBlock) (.slice Ao26 t345.length co26) t345) ∧ (Kd.R (Kd.int .u64) 25 w' w.heap.size (fun k_ => some k_ ≠ (.slice Ao20 t340.length co20 : Value).ownBlock ∧ some k_ ≠ (.slice Ao26 t345.length co26 : Value).ownBlock ∧ some k_ ≠ (s_.2.1 : Value).ownBlock) s_.1 t350) ∧ (Kd.R (Kd.int .u64) 25 w' w.heap.size (fun k_ => some k_ ≠ (.slice Ao20 t340.length co20 : Value).ownBlock ∧ some k_ ≠ (.slice Ao26 t345.length co26 : Value).ownBlock ∧ some k_ ≠ (s_.1 : Value).ownBlock) s_.2.1 t354) ∧ (w'.heap[gb333]? = some (.cells #[.bool false, .slice none 0 0] 24 (0, 0))) ∧ (w'.heap[gb343]? = some (.cells #[.bool t339, .slice Ao20 t340.length co20] 24 (0, 0))) ∧ (w'.heap[gb348]? = some (.cells #[.bool t344, .slice Ao26 t345.length co26] 24 (0, 0))) ∧ (w'.heap[s_.2.2]? = some (.cells #[.bool false, .slice none 0 0] 24 (0, 0))) ∧ (w.heap.size ≤ s_.2.2) ∧ (w.heap.size ≤ s_.2.2) ∧ (gb333 ≠ s_.2.2) ∧ (s_.2.2 ≠ gb333) ∧ (gb343 ≠ s_.2.2) ∧ (s_.2.2 ≠ gb343) ∧ (gb348 ≠ s_.2.2) ∧ (s_.2.2 ≠ gb348) ∧ (Below w.heap.size w w')) ?_ ?_
     rotate_left
     ·intro hCont
      refine two_ (i := 2) (j := 7) (Ni := some 45) (Nj := some 9) (bm 10 7) (bm 10 131) rfl rfl rfl rfl (two_of HT_.out (by kernel_rfl)) (by decide) (by decide) (fun K hK => ?_) (fun K hK => ?_)
      ·skip
       refine gs Tryz.func65 #[.int .i64 (wrap64 (t337 - 53))] ?_
       with_reducible refine (whole_Of.calls (wrap64 (t337 - 53)) t349 t350 _ A12.out).mono ?_
       rintro e w29 ⟨v351, rfl, ho0, hb⟩
       refine ⟨_, rfl, ?_⟩
       have HO352 := Az (Kd.R_lower (Kd.R_new' (Kd.R_new' ho0 (Kd.R_lt (rk HO342))) (Kd.R_lt (rk HO347))) (below_size (bls HB)))
       replace HO342 := Az (Kd.R_elder' (rk HO342) (Kd.R_base ho0) hb)
       replace HO347 := Az (Kd.R_elder' (rk HO347) (Kd.R_base ho0) hb)
       replace BK333 := kb BK333 hb
       replace BK343 := kb BK343 hb
       replace BK348 := kb BK348 hb
       replace HB := Az (below_step (bls HB) hb)
       obtain ⟨Ao30, co30, eo30⟩ := Kd.R_slice HO352.out
       (first | subst eo30 | (injection eo30 with f1_ f2_ f3_; have f4_ := f1_.symm; have f5_ := f3_.symm; clear f1_ f2_ f3_; subst f4_; subst f5_))
       refine hK.out _ _ hd (fun hHeld => ?_)
       clear hK K
       refine nm ?_
       refine two_ (i := 3) (j := 7) (Ni := some 46) (Nj := some 9) (bm 10 15) (bm 10 135) rfl rfl rfl rfl (two_of HT_.out (by kernel_rfl)) (by decide) (by decide) (fun K hK => ?_) (fun K hK => ?_)
       ·skip
        refine gs Tryz.func98 #[.agg #[.bool t344, .slice Ao26 t345.length co26], .agg #[.bool t349, .slice Ao30 t350.length co30]] ?_
        with_reducible refine (whole_Pow.calls k t344 _ _ t345 t349 _ _ t350 t353 t354 t357 _ ?side1 (Kd.R_reads' HO347.out).2.1 ?side3 (Kd.R_reads' HO352.out).2.1 A13.out).mono ?_
        (case side1 => exact (Kd.R_reads' HO347.out).2.2)
        (case side3 => exact (Kd.R_reads' HO352.out).2.2)
        rintro e w31 ⟨v355, rfl, ho0, hb⟩
        refine ⟨_, rfl, ?_⟩
        have HO356 := Az (Kd.R_lower (Kd.R_new' (Kd.R_new' (Kd.R_new' ho0 (Kd.R_lt (rk HO342))) (Kd.R_lt (rk HO347))) (Kd.R_lt (rk HO352))) (below_size (bls HB)))
        replace HO342 := Az (Kd.R_elder' (rk HO342) (Kd.R_base ho0) hb)
        replace HO347 := Az (Kd.R_elder' (rk HO347) (Kd.R_base ho0) hb)
        replace HO352 := Az (Kd.R_elder' (rk HO352) (Kd.R_base ho0) hb)
        replace BK333 := kb BK333 hb
        replace BK343 := kb BK343 hb
        replace BK348 := kb BK348 hb
        replace HB := Az (below_step (bls HB) hb)
        refine hK.out _ _ hd (fun hHeld => ?_)
        clear hK K
        refine nm ?_
        refine pu 4 (some 42) (bm 10 31) HT_.out ?_
        refine pu 5 (some 47) (bm 10 63) HT_.out ?_
        refine pu 6 (some 48) (bm 10 127) HT_.out ?_
        refine on 7 (some 9) (bm 10 255) HT_.out (fun K hK => ?_)
        refine box_step ?hg (N := 9) ?hd (cs := #[.bool false, .slice none 0 0]) (t := 24) ?hr ?_; (case hd => rfl); (case hg => rfl); (case hr => first | (go_simp; done) | (go_simp; rfl))
        intro gb358 hg w32 hbox hb
        replace HO342 := Az (Kd.R_below (rk HO342) hb)
        replace HO347 := Az (Kd.R_below (rk HO347) hb)
        replace HO352 := Az (Kd.R_below (rk HO352) hb)
        replace HO356 := Az (Kd.R_below (rk HO356) hb)
        have BK358 := Az (hbox)
        have GW358 := gw (bls HB) hg
        have GE358 := gw (bls HB) hg
        replace HB := Az (below_step (bls HB) hb)
        have NB333_358 := nl BK333 hg
        have NB358_333 := ng BK333 hg
        replace BK333 := kb BK333 hb
        have NB343_358 := nl BK343 hg
        have NB358_343 := ng BK343 hg
        replace BK343 := kb BK343 hb
        have NB348_358 := nl BK348 hg
        have NB358_348 := ng BK348 hg
        replace BK348 := kb BK348 hb
        clear hb hbox hg
        refine hK.out _ _ hd (fun hHeld => ?_)
        clear hK K
        refine nm ?_
        exact norm_ (by simp only [putAll, Act.put, List.setIfInBounds_toArray, List.set_cons_zero, List.set_cons_succ]) (hCont (.slice Ao30 t350.length co30, v355, gb358) _ ⟨hHeld, (rt (Kd.R_mono HO342.out (fun _ hk => ⟨hk.1.1, ⟨hk.1.2, hk.2⟩⟩))), (rt (Kd.R_mono HO347.out (fun _ hk => ⟨hk.1.1, ⟨hk.1.2, hk.2⟩⟩))), (rt (Kd.R_mono HO352.out (fun _ hk => ⟨hk.1.1.2, ⟨hk.1.2, hk.2⟩⟩))), (rt (Kd.R_mono HO356.out (fun _ hk => ⟨hk.1.1.2, ⟨hk.1.2, hk.2⟩⟩))), (bk BK333), (bk BK343), (bk BK348), (bk BK358), GW358.out, GE358.out, NB333_358.out, NB358_333.out, NB343_358.out, NB358_343.out, NB348_358.out, NB358_348.out, (bls HB)⟩)
       ·skip
        refine box_step ?hg (N := 9) ?hd (cs := #[.bool false, .slice none 0 0]) (t := 24) ?hr ?_; (case hd => rfl); (case hg => rfl); (case hr => first | (go_simp; done) | (go_simp; rfl))
        intro gb358 hg w30 hbox hb
        replace HO342 := Az (Kd.R_below (rk HO342) hb)
        replace HO347 := Az (Kd.R_below (rk HO347) hb)
        replace HO352 := Az (Kd.R_below (rk HO352) hb)
        have BK358 := Az (hbox)
        have GW358 := gw (bls HB) hg
        have GE358 := gw (bls HB) hg
        replace HB := Az (below_step (bls HB) hb)
        have NB333_358 := nl BK333 hg
        have NB358_333 := ng BK333 hg
        replace BK333 := kb BK333 hb
        have NB343_358 := nl BK343 hg
        have NB358_343 := ng BK343 hg
        replace BK343 := kb BK343 hb
        have NB348_358 := nl BK348 hg
        have NB358_348 := ng BK348 hg
        replace BK348 := kb BK348 hb
        clear hb hbox hg
        obtain ⟨Ao31, co31, eo31⟩ := Kd.R_slice HO352.out
        (first | subst eo31 | (injection eo31 with f1_ f2_ f3_; have f4_ := f1_.symm; have f5_ := f3_.symm; clear f1_ f2_ f3_; subst f4_; subst f5_))
        refine hK.out _ _ hd (fun hHeld => ?_)
        clear hK K
        refine nm ?_
        refine on 3 (some 46) (bm 10 143) HT_.out (fun K hK => ?_)
        refine gs Tryz.func98 #[.agg #[.bool t344, .slice Ao26 t345.length co26], .agg #[.bool t349, .slice Ao31 t350.length co31]] ?_
        with_reducible refine (whole_Pow.calls k t344 _ _ t345 t349 _ _ t350 t353 t354 t357 _ ?side1 (Kd.R_reads' HO347.out).2.1 ?side3 (Kd.R_reads' HO352.out).2.1 A13.out).mono ?_
        (case side1 => exact (Kd.R_reads' HO347.out).2.2)
        (case side3 => exact (Kd.R_reads' HO352.out).2.2)
        rintro e w32 ⟨v355, rfl, ho0, hb⟩
        refine ⟨_, rfl, ?_⟩
        have HO356 := Az (Kd.R_lower (Kd.R_new' (Kd.R_new' (Kd.R_new' ho0 (Kd.R_lt (rk HO342))) (Kd.R_lt (rk HO347))) (Kd.R_lt (rk HO352))) (below_size (bls HB)))
        replace HO342 := Az (Kd.R_elder' (rk HO342) (Kd.R_base ho0) hb)
        replace HO347 := Az (Kd.R_elder' (rk HO347) (Kd.R_base ho0) hb)
        replace HO352 := Az (Kd.R_elder' (rk HO352) (Kd.R_base ho0) hb)
        replace BK333 := kb BK333 hb
        replace BK343 := kb BK343 hb
        replace BK348 := kb BK348 hb
        replace BK358 := kb BK358 hb
        replace HB := Az (below_step (bls HB) hb)
        refine hK.out _ _ hd (fun hHeld => ?_)
        clear hK K
        refine nm ?_
        refine pu 4 (some 42) (bm 10 159) HT_.out ?_
        refine pu 5 (some 47) (bm 10 191) HT_.out ?_
        refine pu 6 (some 48) (bm 10 255) HT_.out ?_
        exact norm_ (by simp only [putAll, Act.put, List.setIfInBounds_toArray, List.set_cons_zero, List.set_cons_succ]) (hCont (.slice Ao31 t350.length co31, v355, gb358) _ ⟨hHeld, (rt (Kd.R_mono HO342.out (fun _ hk => ⟨hk.1.1, ⟨hk.1.2, hk.2⟩⟩))), (rt (Kd.R_mono HO347.out (fun _ hk => ⟨hk.1.1, ⟨hk.1.2, hk.2⟩⟩))), (rt (Kd.R_mono HO352.out (fun _ hk => ⟨hk.1.1.2, ⟨hk.1.2, hk.2⟩⟩))), (rt (Kd.R_mono HO356.out (fun _ hk => ⟨hk.1.1.2, ⟨hk.1.2, hk.2⟩⟩))), (bk BK333), (bk BK343), (bk BK348), (bk BK358), GW358.out, GE358.out, NB333_358.out, NB358_333.out, NB343_358.out, NB358_343.out, NB348_358.out, NB358_348.out, (bls HB)⟩)
      ·skip
       refine box_step ?hg (N := 9) ?hd (cs := #[.bool false, .slice none 0 0]) (t := 24) ?hr ?_; (case hd => rfl); (case hg => rfl); (case hr => first | (go_simp; done) | (go_simp; rfl))
       intro gb358 hg w29 hbox hb
       replace HO342 := Az (Kd.R_below (rk HO342) hb)
       replace HO347 := Az (Kd.R_below (rk HO347) hb)
       have BK358 := Az (hbox)
       have GW358 := gw (bls HB) hg
       have GE358 := gw (bls HB) hg
       replace HB := Az (below_step (bls HB) hb)
       have NB333_358 := nl BK333 hg
       have NB358_333 := ng BK333 hg
       replace BK333 := kb BK333 hb
       have NB343_358 := nl BK343 hg
       have NB358_343 := ng BK343 hg
       replace BK343 := kb BK343 hb
       have NB348_358 := nl BK348 hg
       have NB358_348 := ng BK348 hg
       replace BK348 := kb BK348 hb
       clear hb hbox hg
       refine hK.out _ _ hd (fun hHeld => ?_)
       clear hK K
       refine nm ?_
       refine on 2 (some 45) (bm 10 135) HT_.out (fun K hK => ?_)
       refine gs Tryz.func65 #[.int .i64 (wrap64 (t337 - 53))] ?_
       with_reducible refine (whole_Of.calls (wrap64 (t337 - 53)) t349 t350 _ A12.out).mono ?_
       rintro e w30 ⟨v351, rfl, ho0, hb⟩
       refine ⟨_, rfl, ?_⟩
       have HO352 := Az (Kd.R_lower (Kd.R_new' (Kd.R_new' ho0 (Kd.R_lt (rk HO342))) (Kd.R_lt (rk HO347))) (below_size (bls HB)))
       replace HO342 := Az (Kd.R_elder' (rk HO342) (Kd.R_base ho0) hb)
       replace HO347 := Az (Kd.R_elder' (rk HO347) (Kd.R_base ho0) hb)
       replace BK333 := kb BK333 hb
       replace BK343 := kb BK343 hb
       replace BK348 := kb BK348 hb
       replace BK358 := kb BK358 hb
       replace HB := Az (below_step (bls HB) hb)
       obtain ⟨Ao31, co31, eo31⟩ := Kd.R_slice HO352.out
       (first | subst eo31 | (injection eo31 with f1_ f2_ f3_; have f4_ := f1_.symm; have f5_ := f3_.symm; clear f1_ f2_ f3_; subst f4_; subst f5_))
       refine hK.out _ _ hd (fun hHeld => ?_)
       clear hK K
       refine nm ?_
       refine on 3 (some 46) (bm 10 143) HT_.out (fun K hK => ?_)
       refine gs Tryz.func98 #[.agg #[.bool t344, .slice Ao26 t345.length co26], .agg #[.bool t349, .slice Ao31 t350.length co31]] ?_
       with_reducible refine (whole_Pow.calls k t344 _ _ t345 t349 _ _ t350 t353 t354 t357 _ ?side1 (Kd.R_reads' HO347.out).2.1 ?side3 (Kd.R_reads' HO352.out).2.1 A13.out).mono ?_
       (case side1 => exact (Kd.R_reads' HO347.out).2.2)
       (case side3 => exact (Kd.R_reads' HO352.out).2.2)
       rintro e w32 ⟨v355, rfl, ho0, hb⟩
       refine ⟨_, rfl, ?_⟩
       have HO356 := Az (Kd.R_lower (Kd.R_new' (Kd.R_new' (Kd.R_new' ho0 (Kd.R_lt (rk HO342))) (Kd.R_lt (rk HO347))) (Kd.R_lt (rk HO352))) (below_size (bls HB)))
       replace HO342 := Az (Kd.R_elder' (rk HO342) (Kd.R_base ho0) hb)
       replace HO347 := Az (Kd.R_elder' (rk HO347) (Kd.R_base ho0) hb)
       replace HO352 := Az (Kd.R_elder' (rk HO352) (Kd.R_base ho0) hb)
       replace BK333 := kb BK333 hb
       replace BK343 := kb BK343 hb
       replace BK348 := kb BK348 hb
       replace BK358 := kb BK358 hb
       replace HB := Az (below_step (bls HB) hb)
       refine hK.out _ _ hd (fun hHeld => ?_)
       clear hK K
       refine nm ?_
       refine pu 4 (some 42) (bm 10 159) HT_.out ?_
       refine pu 5 (some 47) (bm 10 191) HT_.out ?_
       refine pu 6 (some 48) (bm 10 255) HT_.out ?_
       exact norm_ (by simp only [putAll, Act.put, List.setIfInBounds_toArray, List.set_cons_zero, List.set_cons_succ]) (hCont (.slice Ao31 t350.length co31, v355, gb358) _ ⟨hHeld, (rt (Kd.R_mono HO342.out (fun _ hk => ⟨hk.1.1, ⟨hk.1.2, hk.2⟩⟩))), (rt (Kd.R_mono HO347.out (fun _ hk => ⟨hk.1.1, ⟨hk.1.2, hk.2⟩⟩))), (rt (Kd.R_mono HO352.out (fun _ hk => ⟨hk.1.1.2, ⟨hk.1.2, hk.2⟩⟩))), (rt (Kd.R_mono HO356.out (fun _ hk => ⟨hk.1.1.2, ⟨hk.1.2, hk.2⟩⟩))), (bk BK333), (bk BK343), (bk BK348), (bk BK358), GW358.out, GE358.out, NB333_358.out, NB358_333.out, NB343_358.out, NB358_343.out, NB348_358.out, NB358_348.out, (bls HB)⟩)
     rintro ⟨v351, v355, gb358⟩ w33 ⟨hS_, h0_, h1_, h2_, h3_, h4_, h5_, h6_, h7_, h8_, h9_, h10_, h11_, h12_, h13_, h14_, h15_, h16_⟩
     have n0_ : Aside0 (Kd.R (Kd.int .u64) 25 w33 w.heap.size (fun k_ => some k_ ≠ (.slice Ao26 t345.length co26 : Value).ownBlock ∧ some k_ ≠ (v351 : Value).ownBlock ∧ some k_ ≠ (v355 : Value).ownBlock) (.slice Ao20 t340.length co20) t340) := ⟨h0_⟩
     have n1_ : Aside0 (Kd.R (Kd.int .u64) 25 w33 w.heap.size (fun k_ => some k_ ≠ (.slice Ao20 t340.length co20 : Value).ownBlock ∧ some k_ ≠ (v351 : Value).ownBlock ∧ some k_ ≠ (v355 : Value).ownBlock) (.slice Ao26 t345.length co26) t345) := ⟨h1_⟩
     have n2_ : Aside0 (Kd.R (Kd.int .u64) 25 w33 w.heap.size (fun k_ => some k_ ≠ (.slice Ao20 t340.length co20 : Value).ownBlock ∧ some k_ ≠ (.slice Ao26 t345.length co26 : Value).ownBlock ∧ some k_ ≠ (v355 : Value).ownBlock) v351 t350) := ⟨h2_⟩
     have n3_ : Aside0 (Kd.R (Kd.int .u64) 25 w33 w.heap.size (fun k_ => some k_ ≠ (.slice Ao20 t340.length co20 : Value).ownBlock ∧ some k_ ≠ (.slice Ao26 t345.length co26 : Value).ownBlock ∧ some k_ ≠ (v351 : Value).ownBlock) v355 t354) := ⟨h3_⟩
     have n4_ : Aside0 (w33.heap[gb333]? = some (.cells #[.bool false, .slice none 0 0] 24 (0, 0))) := ⟨h4_⟩
     have n5_ : Aside0 (w33.heap[gb343]? = some (.cells #[.bool t339, .slice Ao20 t340.length co20] 24 (0, 0))) := ⟨h5_⟩
     have n6_ : Aside0 (w33.heap[gb348]? = some (.cells #[.bool t344, .slice Ao26 t345.length co26] 24 (0, 0))) := ⟨h6_⟩
     have n7_ : Aside0 (w33.heap[gb358]? = some (.cells #[.bool false, .slice none 0 0] 24 (0, 0))) := ⟨h7_⟩
     have n8_ : Aside0 (w.heap.size ≤ gb358) := ⟨h8_⟩
     have n9_ : Aside0 (w.heap.size ≤ gb358) := ⟨h9_⟩
     have n10_ : Aside0 (gb333 ≠ gb358) := ⟨h10_⟩
     have n11_ : Aside0 (gb358 ≠ gb333) := ⟨h11_⟩
     have n12_ : Aside0 (gb343 ≠ gb358) := ⟨h12_⟩
     have n13_ : Aside0 (gb358 ≠ gb343) := ⟨h13_⟩
     have n14_ : Aside0 (gb348 ≠ gb358) := ⟨h14_⟩
     have n15_ : Aside0 (gb358 ≠ gb348) := ⟨h15_⟩
     have n16_ : Aside0 (Below w.heap.size w w33) := ⟨h16_⟩
     clear HO342
     clear HO347
     clear BK333
     clear BK343
     clear BK348
     clear HB
     clear h0_ h1_ h2_ h3_ h4_ h5_ h6_ h7_ h8_ h9_ h10_ h11_ h12_ h13_ h14_ h15_ h16_
     have HO342 := n0_
     have HO347 := n1_
     have HO352 := n2_
     have HO356 := n3_
     have BK333 := n4_
     have BK343 := n5_
     have BK348 := n6_
     have BK358 := n7_
     have GW358 := n8_
     have GE358 := n9_
     have NB333_358 := n10_
     have NB358_333 := n11_
     have NB343_358 := n12_
     have NB358_343 := n13_
     have NB348_358 := n14_
     have NB358_348 := n15_
     have HB := n16_
     clear n0_ n1_ n2_ n3_ n4_ n5_ n6_ n7_ n8_ n9_ n10_ n11_ n12_ n13_ n14_ n15_ n16_
     have hHeld : w33.cell? ⟨gb348, 0, none⟩ = some (.bool t344) ∧ w33.cell? ⟨gb348, 1, none⟩ = some (.slice Ao26 t345.length co26) := hS_
     obtain ⟨Ao35, co35, eo35⟩ := Kd.R_slice HO356.out
     (first | subst eo35 | (injection eo35 with f1_ f2_ f3_; have f4_ := f1_.symm; have f5_ := f3_.symm; clear f1_ f2_ f3_; subst f4_; subst f5_))
     refine norm_ (a' := ?_) ?_ ?_
     rotate_left
     ·simp only [putAll, Act.put, List.setIfInBounds_toArray, List.set_cons_zero, List.set_cons_succ]
      rfl
     refine on 8 (none) (bm 10 511) HT_.out (fun K hK => ?_)
     have hs34 : w33.cell? ⟨gb358, 0, none⟩ = some (.bool false) := (blk_cell BK358.out 0).trans rfl
     have hfs34 := blk_frozen BK358.out 0
     have hns34_0 := NB333_358.out
     have hns34_1 := NB343_358.out
     have hns34_2 := NB348_358.out
     have hms34_0 := NB358_333.out
     have hms34_1 := NB358_343.out
     have hms34_2 := NB358_348.out
     have hs36 : w33.cell? ⟨gb358, 1, none⟩ = some (.slice none 0 0) := (blk_cell BK358.out 1).trans rfl
     have hfs36 := blk_frozen BK358.out 1
     have hns36_0 := NB333_358.out
     have hns36_1 := NB343_358.out
     have hns36_2 := NB348_358.out
     have hms36_0 := NB358_333.out
     have hms36_1 := NB358_343.out
     have hms36_2 := NB358_348.out
     refine skip_ (w1 := ?_) (by rfl) rfl ?_ ?_
     rotate_left
     ·go_simp
      rfl
     refine hK.out _ _ ⟨((cell_far (p := ⟨gb358, _, none⟩) NB348_358.out _).trans (((cell_far (p := ⟨gb358, _, none⟩) NB348_358.out _).trans (hHeld.1)))), ((cell_far (p := ⟨gb358, _, none⟩) NB348_358.out _).trans (((cell_far (p := ⟨gb358, _, none⟩) NB348_358.out _).trans (hHeld.2))))⟩ (fun hHeld => ?_)
     clear hK K
     refine pu 9 (some 10) (bm 10 1023) HT_.out ?_
     refine done_ (done_of HT_.out (by kernel_rfl)) ?_
     have hnb37 := NB343_358.out
     have hnc37 := NB358_343.out
     have hz38_1 := bz BK343
     have hnb39 := NB358_333.out
     have hnc39 := NB333_358.out
     have hnb40 := NB358_348.out
     have hnc40 := NB348_358.out
     have hz41_1 := bz BK358
     try go_wp2_with (first | (refine gl (some 52) Tryz.func97 #[.agg #[.bool t339, .slice Ao20 t340.length co20], .agg #[.bool t353, .slice Ao35 t354.length co35]] ?_; (with_reducible refine (whole_Mul.calls k t339 _ _ t340 t353 _ _ t354 t359 t360 t363 _ ?side1 ?side2 ?side3 ?side4 A14.out).mono ?_); (case side1 => refine (Kd.R_reads' (e := 25) (base := w.heap.size) (ok := fun k_ => (some k_ ≠ (.slice Ao26 t345.length co26 : Value).ownBlock ∧ (some k_ ≠ (v351 : Value).ownBlock ∧ some k_ ≠ (.slice Ao35 t354.length co35 : Value).ownBlock))) (n := t340.length) (c := co20) ?_).2.2; exact (rt ((Kd.R_mono (Kd.R_far (p := ⟨gb358, 1, none⟩) (Kd.R_far (p := ⟨gb358, 0, none⟩) (Kd.R_types HO342.out BK358.out (by decide)) (fun _ hk => hk.2) (.bool t353)) (fun _ hk => hk.2) (.slice Ao35 t354.length co35)) (fun _ h_ => h_.1))))); (case side2 => exact (Kd.R_reads' HO342.out).2.1); (case side3 => refine (Kd.R_reads' (e := 25) (base := w.heap.size) (ok := fun k_ => (some k_ ≠ (.slice Ao20 t340.length co20 : Value).ownBlock ∧ (some k_ ≠ (.slice Ao26 t345.length co26 : Value).ownBlock ∧ some k_ ≠ (v351 : Value).ownBlock))) (n := t354.length) (c := co35) ?_).2.2; exact (rt ((Kd.R_mono (Kd.R_far (p := ⟨gb358, 1, none⟩) (Kd.R_far (p := ⟨gb358, 0, none⟩) (Kd.R_types HO356.out BK358.out (by decide)) (fun _ hk => hk.2) (.bool t353)) (fun _ hk => hk.2) (.slice Ao35 t354.length co35)) (fun _ h_ => h_.1))))); (case side4 => exact (Kd.R_reads' HO356.out).2.1); rintro e w42 ⟨v361, rfl, ho0, hb⟩; refine ⟨_, rfl, ?_⟩; have HO362 := Az (Kd.R_lower (Kd.R_new' (Kd.R_new' (Kd.R_new' (Kd.R_new' ho0 (Kd.R_lt (rt ((Kd.R_mono (Kd.R_far (p := ⟨gb358, 1, none⟩) (Kd.R_far (p := ⟨gb358, 0, none⟩) (Kd.R_types HO342.out BK358.out (by decide)) (fun _ hk => hk.2) (.bool t353)) (fun _ hk => hk.2) (.slice Ao35 t354.length co35)) (fun _ h_ => h_.1)))))) (Kd.R_lt (rt ((Kd.R_mono (Kd.R_far (p := ⟨gb358, 1, none⟩) (Kd.R_far (p := ⟨gb358, 0, none⟩) (Kd.R_types HO347.out BK358.out (by decide)) (fun _ hk => hk.2) (.bool t353)) (fun _ hk => hk.2) (.slice Ao35 t354.length co35)) (fun _ h_ => h_.1)))))) (Kd.R_lt (rt ((Kd.R_mono (Kd.R_far (p := ⟨gb358, 1, none⟩) (Kd.R_far (p := ⟨gb358, 0, none⟩) (Kd.R_types HO352.out BK358.out (by decide)) (fun _ hk => hk.2) (.bool t353)) (fun _ hk => hk.2) (.slice Ao35 t354.length co35)) (fun _ h_ => h_.1)))))) (Kd.R_lt (rt ((Kd.R_mono (Kd.R_far (p := ⟨gb358, 1, none⟩) (Kd.R_far (p := ⟨gb358, 0, none⟩) (Kd.R_types HO356.out BK358.out (by decide)) (fun _ hk => hk.2) (.bool t353)) (fun _ hk => hk.2) (.slice Ao35 t354.length co35)) (fun _ h_ => h_.1)))))) (below_size (bls HB))); replace HO342 := Az (Kd.R_elder' (rt ((Kd.R_mono (Kd.R_far (p := ⟨gb358, 1, none⟩) (Kd.R_far (p := ⟨gb358, 0, none⟩) (Kd.R_types HO342.out BK358.out (by decide)) (fun _ hk => hk.2) (.bool t353)) (fun _ hk => hk.2) (.slice Ao35 t354.length co35)) (fun _ h_ => h_.1)))) (Kd.R_base ho0) hb); replace HO347 := Az (Kd.R_elder' (rt ((Kd.R_mono (Kd.R_far (p := ⟨gb358, 1, none⟩) (Kd.R_far (p := ⟨gb358, 0, none⟩) (Kd.R_types HO347.out BK358.out (by decide)) (fun _ hk => hk.2) (.bool t353)) (fun _ hk => hk.2) (.slice Ao35 t354.length co35)) (fun _ h_ => h_.1)))) (Kd.R_base ho0) hb); replace HO352 := Az (Kd.R_elder' (rt ((Kd.R_mono (Kd.R_far (p := ⟨gb358, 1, none⟩) (Kd.R_far (p := ⟨gb358, 0, none⟩) (Kd.R_types HO352.out BK358.out (by decide)) (fun _ hk => hk.2) (.bool t353)) (fun _ hk => hk.2) (.slice Ao35 t354.length co35)) (fun _ h_ => h_.1)))) (Kd.R_base ho0) hb); replace HO356 := Az (Kd.R_elder' (rt ((Kd.R_mono (Kd.R_far (p := ⟨gb358, 1, none⟩) (Kd.R_far (p := ⟨gb358, 0, none⟩) (Kd.R_types HO356.out BK358.out (by decide)) (fun _ hk => hk.2) (.bool t353)) (fun _ hk => hk.2) (.slice Ao35 t354.length co35)) (fun _ h_ => h_.1)))) (Kd.R_base ho0) hb); replace BK333 := Az (blk_below (g := gb333) (o := .cells #[.bool false, .slice none 0 0] 24 (0, 0)) (by refine blk_far ?_ NB333_358.out _; refine blk_far ?_ NB333_358.out _; exact BK333.out) hb); replace BK343 := Az (blk_below (g := gb343) (o := .cells #[.bool t339, .slice Ao20 t340.length co20] 24 (0, 0)) (by refine blk_far ?_ NB343_358.out _; refine blk_far ?_ NB343_358.out _; exact BK343.out) hb); replace BK348 := Az (blk_below (g := gb348) (o := .cells #[.bool t344, .slice Ao26 t345.length co26] 24 (0, 0)) (by refine blk_far ?_ NB348_358.out _; refine blk_far ?_ NB348_358.out _; exact BK348.out) hb); replace BK358 := Az (blk_below (g := gb358) (o := .cells #[.bool t353, .slice Ao35 t354.length co35] 24 (0, 0)) (by refine blk_put (cs := #[.bool t353, .slice none 0 0]) ?_ 1 _ rfl; refine blk_put (cs := #[.bool false, .slice none 0 0]) ?_ 0 _ rfl; exact BK358.out) hb); replace HB := Az (below_step (bls HB) hb); have hz43_1 := bz BK343; obtain ⟨Ao44, co44, eo44⟩ := Kd.R_slice HO362.out; subst eo44; have hz45_1 := bz BK333))
     refine bodyPost_ret (results_ct rfl _ _ gb333 24 #[.bool t359, .slice Ao44 t360.length co44] (0, 0) _ rfl (by refine blk_put (cs := #[.bool t359, .slice none 0 0]) ?_ 1 _ rfl; refine blk_put (cs := #[.bool false, .slice none 0 0]) ?_ 0 _ rfl; refine blk_far ?_ NB333_343.out _; refine blk_far ?_ NB333_343.out _; exact BK333.out) Tryz.underlying24 rfl (by kernel_rfl)) rfl ?_
     exact ⟨_, fe, rt (Kd.R_mono (Kd.R_far (p := ⟨gb333, 1, none⟩) (Kd.R_far (p := ⟨gb333, 0, none⟩) (Kd.R_far (p := ⟨gb343, 1, none⟩) (Kd.R_far (p := ⟨gb343, 0, none⟩) (Kd.R_types (Kd.R_types HO362.out BK343.out (by decide)) BK333.out (by decide)) (fun _ hk => hk.1.2) (.bool t359)) (fun _ hk => hk.1.2) (.slice Ao44 t360.length co44)) (fun _ hk => hk.2) (.bool t359)) (fun _ hk => hk.2) (.slice Ao44 t360.length co44)) (fun _ hk => trivial)), bls HB⟩
    ·rw [if_neg c11] at H
     have c11b0 : decide (0 ≤ (wrap64 (t337 - 53))) = false := decide_eq_false c11
     clear c11
     by_cases c46 : (wrap64 (t337 - 53)) < (-60)
     ·rw [if_pos c46] at H
      exact absurd H (by simp)
     ·rw [if_neg c46] at H
      have c46b0 := decide_eq_false c46
      clear c46
      obtain ⟨⟨t364, t365⟩, A47, H⟩ := bd H
      obtain ⟨⟨t368, t369, t372⟩, A48, H⟩ := bd H
      obtain ⟨⟨t374, t375, t378, t379, t382⟩, A49, H⟩ := bd H
      simp only [Option.some.injEq, Prod.mk.injEq] at H
      obtain ⟨rfl, rfl, rfl⟩ := H
      go_enter Tryz.func78, Tryz.ntmps78
      try go_wp2_with (first | (refine be 2 #[.bool false, .slice none 0 0] 24 ?_; intro gb333 hg w50 hbox hb; have BK333 := Az (hbox); have GW333 := gw (bl HB) hg; have GE333 := gw (bl HB) hg; replace HB := Az (below_step (bl HB) hb); clear hb hbox hg) | (refine gl (some 25) Tryz.func58 #[.float .f64 (Int.toNat a0), .int .i64 0] ?_; (with_reducible refine (math_IsInf.calls (Int.toNat a0) 0 false _ A3.out).mono ?_); rintro e w50 ⟨rfl, hb⟩; replace hb := dr hb; refine ⟨_, rfl, ?_⟩; replace BK333 := kb BK333 hb; replace HB := Az (below_step (bls HB) hb); clear hb; have hz333_ := bz BK333) | (refine gl (some 29) Tryz.func79 #[.float .f64 (Int.toNat a0)] ?_; (with_reducible refine (math_Trunc.calls (Int.toNat a0) t335 _ A5.out).mono ?_); rintro e w50 ⟨rfl, hb⟩; replace hb := dr hb; refine ⟨_, rfl, ?_⟩; replace BK333 := kb BK333 hb; replace HB := Az (below_step (bls HB) hb); clear hb; have hz333_ := bz BK333) | (refine gl (some 30) Tryz.func59 #[.float .f64 t335] ?_; (with_reducible refine (math_Frexp.calls t335 t336 t337 _ A6.out).mono ?_); rintro e w50 ⟨rfl, hb⟩; replace hb := dr hb; refine ⟨_, rfl, ?_⟩; replace BK333 := kb BK333 hb; replace HB := Az (below_step (bls HB) hb); clear hb; have hz333_ := bz BK333) | (refine gl (some 34) Tryz.func61 #[.float .f64 t336, .int .i64 53] ?_; (with_reducible refine (math_Ldexp.calls t336 53 t338 _ A7.out).mono ?_); rintro e w50 ⟨rfl, hb⟩; replace hb := dr hb; refine ⟨_, rfl, ?_⟩; replace BK333 := kb BK333 hb; replace HB := Az (below_step (bls HB) hb); clear hb; have hz333_ := bz BK333) | (refine gl (some 36) Tryz.func65 #[.int .i64 (f2i t338)] ?_; (with_reducible refine (whole_Of.calls (f2i t338) t339 t340 _ A9.out).mono ?_); rintro e w51 ⟨v341, rfl, ho0, hb⟩; refine ⟨_, rfl, ?_⟩; have HO342 := Az (Kd.R_lower ho0 (below_size (bls HB))); replace BK333 := kb BK333 hb; replace HB := Az (below_step (bls HB) hb)) | (refine be 7 #[.bool false, .slice none 0 0] 24 ?_; intro gb343 hg w52 hbox hb; replace HO342 := Az (Kd.R_below (rk HO342) hb); have BK343 := Az (hbox); have GW343 := gw (bls HB) hg; have GE343 := gw (bls HB) hg; replace HB := Az (below_step (bls HB) hb); have NB333_343 := nl BK333 hg; have NB343_333 := ng BK333 hg; replace BK333 := kb BK333 hb; clear hb hbox hg; have hnb53 := NB343_333.out; have hnc53 := NB333_343.out; have hz54_1 := bz BK343; obtain ⟨Ao55, co55, eo55⟩ := Kd.R_slice HO342.out; subst eo55) | (refine gl (some 37) Tryz.func65 #[.int .i64 2] ?_; (with_reducible refine (whole_Of.calls 2 t344 t345 _ A10.out).mono ?_); rintro e w56 ⟨v346, rfl, ho0, hb⟩; refine ⟨_, rfl, ?_⟩; have HO347 := Az (Kd.R_lower (Kd.R_new' ho0 (Kd.R_lt (rt ((Kd.R_mono (Kd.R_far (p := ⟨gb343, 1, none⟩) (Kd.R_far (p := ⟨gb343, 0, none⟩) (Kd.R_types HO342.out BK343.out (by decide)) (fun _ hk => hk.2) (.bool t339)) (fun _ hk => hk.2) (.slice Ao55 t340.length co55)) (fun _ h_ => h_.1)))))) (below_size (bls HB))); replace HO342 := Az (Kd.R_elder' (rt ((Kd.R_mono (Kd.R_far (p := ⟨gb343, 1, none⟩) (Kd.R_far (p := ⟨gb343, 0, none⟩) (Kd.R_types HO342.out BK343.out (by decide)) (fun _ hk => hk.2) (.bool t339)) (fun _ hk => hk.2) (.slice Ao55 t340.length co55)) (fun _ h_ => h_.1)))) (Kd.R_base ho0) hb); replace BK333 := Az (blk_below (g := gb333) (o := .cells #[.bool false, .slice none 0 0] 24 (0, 0)) (by refine blk_far ?_ NB333_343.out _; refine blk_far ?_ NB333_343.out _; exact BK333.out) hb); replace BK343 := Az (blk_below (g := gb343) (o := .cells #[.bool t339, .slice Ao55 t340.length co55] 24 (0, 0)) (by refine blk_put (cs := #[.bool t339, .slice none 0 0]) ?_ 1 _ rfl; refine blk_put (cs := #[.bool false, .slice none 0 0]) ?_ 0 _ rfl; exact BK343.out) hb); replace HB := Az (below_step (bls HB) hb)) | (refine be 8 #[.bool false, .slice none 0 0] 24 ?_; intro gb348 hg w57 hbox hb; replace HO342 := Az (Kd.R_below (rk HO342) hb); replace HO347 := Az (Kd.R_below (rk HO347) hb); have BK348 := Az (hbox); have GW348 := gw (bls HB) hg; have GE348 := gw (bls HB) hg; replace HB := Az (below_step (bls HB) hb); have NB333_348 := nl BK333 hg; have NB348_333 := ng BK333 hg; replace BK333 := kb BK333 hb; have NB343_348 := nl BK343 hg; have NB348_343 := ng BK343 hg; replace BK343 := kb BK343 hb; clear hb hbox hg; have hnb58 := NB348_333.out; have hnc58 := NB333_348.out; have hnb59 := NB348_343.out; have hnc59 := NB343_348.out; have hz60_1 := bz BK348; obtain ⟨Ao61, co61, eo61⟩ := Kd.R_slice HO347.out; subst eo61))
      have n_ : (fun W_ : World => Aside0 (Kd.R (Kd.int .u64) 25 W_ w.heap.size (fun k_ => some k_ ≠ (.slice Ao61 t345.length co61 : Value).ownBlock) (.slice Ao55 t340.length co55) t340) ∧ Aside0 (Kd.R (Kd.int .u64) 25 W_ w.heap.size (fun k_ => some k_ ≠ (.slice Ao55 t340.length co55 : Value).ownBlock) (.slice Ao61 t345.length co61) t345) ∧ Aside0 (W_.heap[gb333]? = some (.cells #[.bool false, .slice none 0 0] 24 (0, 0))) ∧ Aside0 (W_.heap[gb343]? = some (.cells #[.bool t339, .slice Ao55 t340.length co55] 24 (0, 0))) ∧ Aside0 (W_.heap[gb348]? = some (.cells #[.bool t344, .slice Ao61 t345.length co61] 24 (0, 0))) ∧ Aside0 (Below w.heap.size w W_)) ((w57.setCell ⟨gb348, 0, none⟩ (.bool t344)).setCell ⟨gb348, 1, none⟩ (.slice Ao61 t345.length co61)) := ⟨⟨rt (Kd.R_mono (Kd.R_far (p := ⟨gb348, 1, none⟩) (Kd.R_far (p := ⟨gb348, 0, none⟩) (Kd.R_types HO342.out BK348.out (by decide)) (fun _ hk => hk.2) (.bool t344)) (fun _ hk => hk.2) (.slice Ao61 t345.length co61)) (fun _ hk => hk.1.2))⟩, ⟨rt (Kd.R_mono (Kd.R_far (p := ⟨gb348, 1, none⟩) (Kd.R_far (p := ⟨gb348, 0, none⟩) (Kd.R_types HO347.out BK348.out (by decide)) (fun _ hk => hk.2) (.bool t344)) (fun _ hk => hk.2) (.slice Ao61 t345.length co61)) (fun _ hk => hk.1.2))⟩, ⟨by refine blk_far ?_ NB333_348.out _; refine blk_far ?_ NB333_348.out _; exact BK333.out⟩, ⟨by refine blk_far ?_ NB343_348.out _; refine blk_far ?_ NB343_348.out _; exact BK343.out⟩, ⟨by refine blk_put (cs := #[.bool t344, .slice none 0 0]) ?_ 1 _ rfl; refine blk_put (cs := #[.bool false, .slice none 0 0]) ?_ 0 _ rfl; exact BK348.out⟩, ⟨bls HB⟩⟩
      obtain ⟨n0_, n1_, n2_, n3_, n4_, n5_⟩ := n_
      generalize ((w57.setCell ⟨gb348, 0, none⟩ (.bool t344)).setCell ⟨gb348, 1, none⟩ (.slice Ao61 t345.length co61)) = w62 at n0_ n1_ n2_ n3_ n4_ n5_ ⊢
      have HO342 := n0_
      have HO347 := n1_
      have BK333 := n2_
      have BK343 := n3_
      have BK348 := n4_
      have HB := n5_
      clear n0_ n1_ n2_ n3_ n4_ n5_
      replace HO342 := Az (Kd.R_drew HO342.out)
      replace HO347 := Az (Kd.R_drew HO347.out)
      replace BK333 := Az (blk_drew BK333.out)
      replace BK343 := Az (blk_drew BK343.out)
      replace BK348 := Az (blk_drew BK348.out)
      replace HB := Az (below_drew1 HB.out)
      refine start_ (n := 11) (S := fun w' => w'.cell? ⟨gb348, 0, none⟩ = some (.bool t344) ∧ w'.cell? ⟨gb348, 1, none⟩ = some (.slice Ao61 t345.length co61)) (ds := []) (bm 11 0) (by kernel_rfl) rfl rfl ⟨(blk_cell BK348.out 0).trans rfl, (blk_cell BK348.out 1).trans rfl⟩ (fun hHeld => ?_); refine with_tabW real_Whole.tab16 real_Whole.bits16 (fun HT_ HW_ => ?_)
      generalize w62.drew = w63 at HO342 HO347 BK333 BK343 BK348 HB hHeld ⊢
      refine pu 1 (some 61) (bm 11 2) HT_.out ?_
      refine pu 2 (some 62) (bm 11 6) HT_.out ?_
      refine tk 0 (some 60) (bm 11 7) HT_.out HW_.out hHeld ?_
      refine join_ (σ := Value × Value × Nat) 2 (bm 11 511) (fun s_ => [(63, .agg #[.bool t364, s_.1]), (64, .tuple #[.agg #[.bool t368, s_.2.1], .int .i64 t372]), (11, .pointer (some ⟨s_.2.2, 0, none⟩)), (59, .tuple #[.agg #[.bool t368, s_.2.1], .int .i64 t372]), (65, .agg #[.bool t368, s_.2.1]), (66, .int .i64 t372)]) (fun s_ w' => (w'.cell? ⟨gb348, 0, none⟩ = some (.bool t344) ∧ w'.cell? ⟨gb348, 1, none⟩ = some (.slice Ao61 t345.length co61)) ∧ (Kd.R (Kd.int .u64) 25 w' w.heap.size (fun k_ => some k_ ≠ (.slice Ao61 t345.length co61 : Value).ownBlock ∧ some k_ ≠ (s_.1 : Value).ownBlock ∧ some k_ ≠ (s_.2.1 : Value).ownBlock) (.slice Ao55 t340.length co55) t340) ∧ (Kd.R (Kd.int .u64) 25 w' w.heap.size (fun k_ => some k_ ≠ (.slice Ao55 t340.length co55 : Value).ownBlock ∧ some k_ ≠ (s_.1 : Value).ownBlock ∧ some k_ ≠ (s_.2.1 : Value).ownBlock) (.slice Ao61 t345.length co61) t345) ∧ (Kd.R (Kd.int .u64) 25 w' w.heap.size (fun k_ => some k_ ≠ (.slice Ao55 t340.length co55 : Value).ownBlock ∧ some k_ ≠ (.slice Ao61 t345.length co61 : Value).ownBlock ∧ some k_ ≠ (s_.2.1 : Value).ownBlock) s_.1 t365) ∧ (Kd.R (Kd.int .u64) 25 w' w.heap.size (fun k_ => some k_ ≠ (.slice Ao55 t340.length co55 : Value).ownBlock ∧ some k_ ≠ (.slice Ao61 t345.length co61 : Value).ownBlock ∧ some k_ ≠ (s_.1 : Value).ownBlock) s_.2.1 t369) ∧ (w'.heap[gb333]? = some (.cells #[.bool false, .slice none 0 0] 24 (0, 0))) ∧ (w'.heap[gb343]? = some (.cells #[.bool t339, .slice Ao55 t340.length co55] 24 (0, 0))) ∧ (w'.heap[gb348]? = some (.cells #[.bool t344, .slice Ao61 t345.length co61] 24 (0, 0))) ∧ (w'.heap[s_.2.2]? = some (.cells #[.bool false, .slice none 0 0] 24 (0, 0))) ∧ (w.heap.size ≤ s_.2.2) ∧ (w.heap.size ≤ s_.2.2) ∧ (gb333 ≠ s_.2.2) ∧ (s_.2.2 ≠ gb333) ∧ (gb343 ≠ s_.2.2) ∧ (s_.2.2 ≠ gb343) ∧ (gb348 ≠ s_.2.2) ∧ (s_.2.2 ≠ gb348) ∧ (Below w.heap.size w w')) ?_ ?_
      rotate_left
      ·intro hCont
       refine two_ (i := 3) (j := 8) (Ni := some 63) (Nj := some 11) (bm 11 15) (bm 11 263) rfl rfl rfl rfl (two_of HT_.out (by kernel_rfl)) (by decide) (by decide) (fun K hK => ?_) (fun K hK => ?_)
       ·skip
        refine gs Tryz.func65 #[.int .i64 (wrap64 (-(wrap64 (t337 - 53))))] ?_
        with_reducible refine (whole_Of.calls (wrap64 (-(wrap64 (t337 - 53)))) t364 t365 _ A47.out).mono ?_
        rintro e w64 ⟨v366, rfl, ho0, hb⟩
        refine ⟨_, rfl, ?_⟩
        have HO367 := Az (Kd.R_lower (Kd.R_new' (Kd.R_new' ho0 (Kd.R_lt (rk HO342))) (Kd.R_lt (rk HO347))) (below_size (bls HB)))
        replace HO342 := Az (Kd.R_elder' (rk HO342) (Kd.R_base ho0) hb)
        replace HO347 := Az (Kd.R_elder' (rk HO347) (Kd.R_base ho0) hb)
        replace BK333 := kb BK333 hb
        replace BK343 := kb BK343 hb
        replace BK348 := kb BK348 hb
        replace HB := Az (below_step (bls HB) hb)
        obtain ⟨Ao65, co65, eo65⟩ := Kd.R_slice HO367.out
        (first | subst eo65 | (injection eo65 with f1_ f2_ f3_; have f4_ := f1_.symm; have f5_ := f3_.symm; clear f1_ f2_ f3_; subst f4_; subst f5_))
        refine hK.out _ _ hd (fun hHeld => ?_)
        clear hK K
        refine nm ?_
        refine two_ (i := 4) (j := 8) (Ni := some 64) (Nj := some 11) (bm 11 31) (bm 11 271) rfl rfl rfl rfl (two_of HT_.out (by kernel_rfl)) (by decide) (by decide) (fun K hK => ?_) (fun K hK => ?_)
        ·skip
         refine gs Tryz.func98 #[.agg #[.bool t344, .slice Ao61 t345.length co61], .agg #[.bool t364, .slice Ao65 t365.length co65]] ?_
         with_reducible refine (whole_Pow.calls k t344 _ _ t345 t364 _ _ t365 t368 t369 t372 _ ?side1 (Kd.R_reads' HO347.out).2.1 ?side3 (Kd.R_reads' HO367.out).2.1 A48.out).mono ?_
         (case side1 => exact (Kd.R_reads' HO347.out).2.2)
         (case side3 => exact (Kd.R_reads' HO367.out).2.2)
         rintro e w66 ⟨v370, rfl, ho0, hb⟩
         refine ⟨_, rfl, ?_⟩
         have HO371 := Az (Kd.R_lower (Kd.R_new' (Kd.R_new' (Kd.R_new' ho0 (Kd.R_lt (rk HO342))) (Kd.R_lt (rk HO347))) (Kd.R_lt (rk HO367))) (below_size (bls HB)))
         replace HO342 := Az (Kd.R_elder' (rk HO342) (Kd.R_base ho0) hb)
         replace HO347 := Az (Kd.R_elder' (rk HO347) (Kd.R_base ho0) hb)
         replace HO367 := Az (Kd.R_elder' (rk HO367) (Kd.R_base ho0) hb)
         replace BK333 := kb BK333 hb
         replace BK343 := kb BK343 hb
         replace BK348 := kb BK348 hb
         replace HB := Az (below_step (bls HB) hb)
         refine hK.out _ _ hd (fun hHeld => ?_)
         clear hK K
         refine nm ?_
         refine pu 5 (some 59) (bm 11 63) HT_.out ?_
         refine pu 6 (some 65) (bm 11 127) HT_.out ?_
         refine pu 7 (some 66) (bm 11 255) HT_.out ?_
         refine on 8 (some 11) (bm 11 511) HT_.out (fun K hK => ?_)
         refine box_step ?hg (N := 11) ?hd (cs := #[.bool false, .slice none 0 0]) (t := 24) ?hr ?_; (case hd => rfl); (case hg => rfl); (case hr => first | (go_simp; done) | (go_simp; rfl))
         intro gb373 hg w67 hbox hb
         replace HO342 := Az (Kd.R_below (rk HO342) hb)
         replace HO347 := Az (Kd.R_below (rk HO347) hb)
         replace HO367 := Az (Kd.R_below (rk HO367) hb)
         replace HO371 := Az (Kd.R_below (rk HO371) hb)
         have BK373 := Az (hbox)
         have GW373 := gw (bls HB) hg
         have GE373 := gw (bls HB) hg
         replace HB := Az (below_step (bls HB) hb)
         have NB333_373 := nl BK333 hg
         have NB373_333 := ng BK333 hg
         replace BK333 := kb BK333 hb
         have NB343_373 := nl BK343 hg
         have NB373_343 := ng BK343 hg
         replace BK343 := kb BK343 hb
         have NB348_373 := nl BK348 hg
         have NB373_348 := ng BK348 hg
         replace BK348 := kb BK348 hb
         clear hb hbox hg
         refine hK.out _ _ hd (fun hHeld => ?_)
         clear hK K
         refine nm ?_
         exact norm_ (by simp only [putAll, Act.put, List.setIfInBounds_toArray, List.set_cons_zero, List.set_cons_succ]) (hCont (.slice Ao65 t365.length co65, v370, gb373) _ ⟨hHeld, (rt (Kd.R_mono HO342.out (fun _ hk => ⟨hk.1.1, ⟨hk.1.2, hk.2⟩⟩))), (rt (Kd.R_mono HO347.out (fun _ hk => ⟨hk.1.1, ⟨hk.1.2, hk.2⟩⟩))), (rt (Kd.R_mono HO367.out (fun _ hk => ⟨hk.1.1.2, ⟨hk.1.2, hk.2⟩⟩))), (rt (Kd.R_mono HO371.out (fun _ hk => ⟨hk.1.1.2, ⟨hk.1.2, hk.2⟩⟩))), (bk BK333), (bk BK343), (bk BK348), (bk BK373), GW373.out, GE373.out, NB333_373.out, NB373_333.out, NB343_373.out, NB373_343.out, NB348_373.out, NB373_348.out, (bls HB)⟩)
        ·skip
         refine box_step ?hg (N := 11) ?hd (cs := #[.bool false, .slice none 0 0]) (t := 24) ?hr ?_; (case hd => rfl); (case hg => rfl); (case hr => first | (go_simp; done) | (go_simp; rfl))
         intro gb373 hg w65 hbox hb
         replace HO342 := Az (Kd.R_below (rk HO342) hb)
         replace HO347 := Az (Kd.R_below (rk HO347) hb)
         replace HO367 := Az (Kd.R_below (rk HO367) hb)
         have BK373 := Az (hbox)
         have GW373 := gw (bls HB) hg
         have GE373 := gw (bls HB) hg
         replace HB := Az (below_step (bls HB) hb)
         have NB333_373 := nl BK333 hg
         have NB373_333 := ng BK333 hg
         replace BK333 := kb BK333 hb
         have NB343_373 := nl BK343 hg
         have NB373_343 := ng BK343 hg
         replace BK343 := kb BK343 hb
         have NB348_373 := nl BK348 hg
         have NB373_348 := ng BK348 hg
         replace BK348 := kb BK348 hb
         clear hb hbox hg
         obtain ⟨Ao66, co66, eo66⟩ := Kd.R_slice HO367.out
         (first | subst eo66 | (injection eo66 with f1_ f2_ f3_; have f4_ := f1_.symm; have f5_ := f3_.symm; clear f1_ f2_ f3_; subst f4_; subst f5_))
         refine hK.out _ _ hd (fun hHeld => ?_)
         clear hK K
         refine nm ?_
         refine on 4 (some 64) (bm 11 287) HT_.out (fun K hK => ?_)
         refine gs Tryz.func98 #[.agg #[.bool t344, .slice Ao61 t345.length co61], .agg #[.bool t364, .slice Ao66 t365.length co66]] ?_
         with_reducible refine (whole_Pow.calls k t344 _ _ t345 t364 _ _ t365 t368 t369 t372 _ ?side1 (Kd.R_reads' HO347.out).2.1 ?side3 (Kd.R_reads' HO367.out).2.1 A48.out).mono ?_
         (case side1 => exact (Kd.R_reads' HO347.out).2.2)
         (case side3 => exact (Kd.R_reads' HO367.out).2.2)
         rintro e w67 ⟨v370, rfl, ho0, hb⟩
         refine ⟨_, rfl, ?_⟩
         have HO371 := Az (Kd.R_lower (Kd.R_new' (Kd.R_new' (Kd.R_new' ho0 (Kd.R_lt (rk HO342))) (Kd.R_lt (rk HO347))) (Kd.R_lt (rk HO367))) (below_size (bls HB)))
         replace HO342 := Az (Kd.R_elder' (rk HO342) (Kd.R_base ho0) hb)
         replace HO347 := Az (Kd.R_elder' (rk HO347) (Kd.R_base ho0) hb)
         replace HO367 := Az (Kd.R_elder' (rk HO367) (Kd.R_base ho0) hb)
         replace BK333 := kb BK333 hb
         replace BK343 := kb BK343 hb
         replace BK348 := kb BK348 hb
         replace BK373 := kb BK373 hb
         replace HB := Az (below_step (bls HB) hb)
         refine hK.out _ _ hd (fun hHeld => ?_)
         clear hK K
         refine nm ?_
         refine pu 5 (some 59) (bm 11 319) HT_.out ?_
         refine pu 6 (some 65) (bm 11 383) HT_.out ?_
         refine pu 7 (some 66) (bm 11 511) HT_.out ?_
         exact norm_ (by simp only [putAll, Act.put, List.setIfInBounds_toArray, List.set_cons_zero, List.set_cons_succ]) (hCont (.slice Ao66 t365.length co66, v370, gb373) _ ⟨hHeld, (rt (Kd.R_mono HO342.out (fun _ hk => ⟨hk.1.1, ⟨hk.1.2, hk.2⟩⟩))), (rt (Kd.R_mono HO347.out (fun _ hk => ⟨hk.1.1, ⟨hk.1.2, hk.2⟩⟩))), (rt (Kd.R_mono HO367.out (fun _ hk => ⟨hk.1.1.2, ⟨hk.1.2, hk.2⟩⟩))), (rt (Kd.R_mono HO371.out (fun _ hk => ⟨hk.1.1.2, ⟨hk.1.2, hk.2⟩⟩))), (bk BK333), (bk BK343), (bk BK348), (bk BK373), GW373.out, GE373.out, NB333_373.out, NB373_333.out, NB343_373.out, NB373_343.out, NB348_373.out, NB373_348.out, (bls HB)⟩)
       ·skip
        refine box_step ?hg (N := 11) ?hd (cs := #[.bool false, .slice none 0 0]) (t := 24) ?hr ?_; (case hd => rfl); (case hg => rfl); (case hr => first | (go_simp; done) | (go_simp; rfl))
        intro gb373 hg w64 hbox hb
        replace HO342 := Az (Kd.R_below (rk HO342) hb)
        replace HO347 := Az (Kd.R_below (rk HO347) hb)
        have BK373 := Az (hbox)
        have GW373 := gw (bls HB) hg
        have GE373 := gw (bls HB) hg
        replace HB := Az (below_step (bls HB) hb)
        have NB333_373 := nl BK333 hg
        have NB373_333 := ng BK333 hg
        replace BK333 := kb BK333 hb
        have NB343_373 := nl BK343 hg
        have NB373_343 := ng BK343 hg
        replace BK343 := kb BK343 hb
        have NB348_373 := nl BK348 hg
        have NB373_348 := ng BK348 hg
        replace BK348 := kb BK348 hb
        clear hb hbox hg
        refine hK.out _ _ hd (fun hHeld => ?_)
        clear hK K
        refine nm ?_
        refine on 3 (some 63) (bm 11 271) HT_.out (fun K hK => ?_)
        refine gs Tryz.func65 #[.int .i64 (wrap64 (-(wrap64 (t337 - 53))))] ?_
        with_reducible refine (whole_Of.calls (wrap64 (-(wrap64 (t337 - 53)))) t364 t365 _ A47.out).mono ?_
        rintro e w65 ⟨v366, rfl, ho0, hb⟩
        refine ⟨_, rfl, ?_⟩
        have HO367 := Az (Kd.R_lower (Kd.R_new' (Kd.R_new' ho0 (Kd.R_lt (rk HO342))) (Kd.R_lt (rk HO347))) (below_size (bls HB)))
        replace HO342 := Az (Kd.R_elder' (rk HO342) (Kd.R_base ho0) hb)
        replace HO347 := Az (Kd.R_elder' (rk HO347) (Kd.R_base ho0) hb)
        replace BK333 := kb BK333 hb
        replace BK343 := kb BK343 hb
        replace BK348 := kb BK348 hb
        replace BK373 := kb BK373 hb
        replace HB := Az (below_step (bls HB) hb)
        obtain ⟨Ao66, co66, eo66⟩ := Kd.R_slice HO367.out
        (first | subst eo66 | (injection eo66 with f1_ f2_ f3_; have f4_ := f1_.symm; have f5_ := f3_.symm; clear f1_ f2_ f3_; subst f4_; subst f5_))
        refine hK.out _ _ hd (fun hHeld => ?_)
        clear hK K
        refine nm ?_
        refine on 4 (some 64) (bm 11 287) HT_.out (fun K hK => ?_)
        refine gs Tryz.func98 #[.agg #[.bool t344, .slice Ao61 t345.length co61], .agg #[.bool t364, .slice Ao66 t365.length co66]] ?_
        with_reducible refine (whole_Pow.calls k t344 _ _ t345 t364 _ _ t365 t368 t369 t372 _ ?side1 (Kd.R_reads' HO347.out).2.1 ?side3 (Kd.R_reads' HO367.out).2.1 A48.out).mono ?_
        (case side1 => exact (Kd.R_reads' HO347.out).2.2)
        (case side3 => exact (Kd.R_reads' HO367.out).2.2)
        rintro e w67 ⟨v370, rfl, ho0, hb⟩
        refine ⟨_, rfl, ?_⟩
        have HO371 := Az (Kd.R_lower (Kd.R_new' (Kd.R_new' (Kd.R_new' ho0 (Kd.R_lt (rk HO342))) (Kd.R_lt (rk HO347))) (Kd.R_lt (rk HO367))) (below_size (bls HB)))
        replace HO342 := Az (Kd.R_elder' (rk HO342) (Kd.R_base ho0) hb)
        replace HO347 := Az (Kd.R_elder' (rk HO347) (Kd.R_base ho0) hb)
        replace HO367 := Az (Kd.R_elder' (rk HO367) (Kd.R_base ho0) hb)
        replace BK333 := kb BK333 hb
        replace BK343 := kb BK343 hb
        replace BK348 := kb BK348 hb
        replace BK373 := kb BK373 hb
        replace HB := Az (below_step (bls HB) hb)
        refine hK.out _ _ hd (fun hHeld => ?_)
        clear hK K
        refine nm ?_
        refine pu 5 (some 59) (bm 11 319) HT_.out ?_
        refine pu 6 (some 65) (bm 11 383) HT_.out ?_
        refine pu 7 (some 66) (bm 11 511) HT_.out ?_
        exact norm_ (by simp only [putAll, Act.put, List.setIfInBounds_toArray, List.set_cons_zero, List.set_cons_succ]) (hCont (.slice Ao66 t365.length co66, v370, gb373) _ ⟨hHeld, (rt (Kd.R_mono HO342.out (fun _ hk => ⟨hk.1.1, ⟨hk.1.2, hk.2⟩⟩))), (rt (Kd.R_mono HO347.out (fun _ hk => ⟨hk.1.1, ⟨hk.1.2, hk.2⟩⟩))), (rt (Kd.R_mono HO367.out (fun _ hk => ⟨hk.1.1.2, ⟨hk.1.2, hk.2⟩⟩))), (rt (Kd.R_mono HO371.out (fun _ hk => ⟨hk.1.1.2, ⟨hk.1.2, hk.2⟩⟩))), (bk BK333), (bk BK343), (bk BK348), (bk BK373), GW373.out, GE373.out, NB333_373.out, NB373_333.out, NB343_373.out, NB373_343.out, NB348_373.out, NB373_348.out, (bls HB)⟩)
      rintro ⟨v366, v370, gb373⟩ w68 ⟨hS_, h0_, h1_, h2_, h3_, h4_, h5_, h6_, h7_, h8_, h9_, h10_, h11_, h12_, h13_, h14_, h15_, h16_⟩
      have n0_ : Aside0 (Kd.R (Kd.int .u64) 25 w68 w.heap.size (fun k_ => some k_ ≠ (.slice Ao61 t345.length co61 : Value).ownBlock ∧ some k_ ≠ (v366 : Value).ownBlock ∧ some k_ ≠ (v370 : Value).ownBlock) (.slice Ao55 t340.length co55) t340) := ⟨h0_⟩
      have n1_ : Aside0 (Kd.R (Kd.int .u64) 25 w68 w.heap.size (fun k_ => some k_ ≠ (.slice Ao55 t340.length co55 : Value).ownBlock ∧ some k_ ≠ (v366 : Value).ownBlock ∧ some k_ ≠ (v370 : Value).ownBlock) (.slice Ao61 t345.length co61) t345) := ⟨h1_⟩
      have n2_ : Aside0 (Kd.R (Kd.int .u64) 25 w68 w.heap.size (fun k_ => some k_ ≠ (.slice Ao55 t340.length co55 : Value).ownBlock ∧ some k_ ≠ (.slice Ao61 t345.length co61 : Value).ownBlock ∧ some k_ ≠ (v370 : Value).ownBlock) v366 t365) := ⟨h2_⟩
      have n3_ : Aside0 (Kd.R (Kd.int .u64) 25 w68 w.heap.size (fun k_ => some k_ ≠ (.slice Ao55 t340.length co55 : Value).ownBlock ∧ some k_ ≠ (.slice Ao61 t345.length co61 : Value).ownBlock ∧ some k_ ≠ (v366 : Value).ownBlock) v370 t369) := ⟨h3_⟩
      have n4_ : Aside0 (w68.heap[gb333]? = some (.cells #[.bool false, .slice none 0 0] 24 (0, 0))) := ⟨h4_⟩
      have n5_ : Aside0 (w68.heap[gb343]? = some (.cells #[.bool t339, .slice Ao55 t340.length co55] 24 (0, 0))) := ⟨h5_⟩
      have n6_ : Aside0 (w68.heap[gb348]? = some (.cells #[.bool t344, .slice Ao61 t345.length co61] 24 (0, 0))) := ⟨h6_⟩
      have n7_ : Aside0 (w68.heap[gb373]? = some (.cells #[.bool false, .slice none 0 0] 24 (0, 0))) := ⟨h7_⟩
      have n8_ : Aside0 (w.heap.size ≤ gb373) := ⟨h8_⟩
      have n9_ : Aside0 (w.heap.size ≤ gb373) := ⟨h9_⟩
      have n10_ : Aside0 (gb333 ≠ gb373) := ⟨h10_⟩
      have n11_ : Aside0 (gb373 ≠ gb333) := ⟨h11_⟩
      have n12_ : Aside0 (gb343 ≠ gb373) := ⟨h12_⟩
      have n13_ : Aside0 (gb373 ≠ gb343) := ⟨h13_⟩
      have n14_ : Aside0 (gb348 ≠ gb373) := ⟨h14_⟩
      have n15_ : Aside0 (gb373 ≠ gb348) := ⟨h15_⟩
      have n16_ : Aside0 (Below w.heap.size w w68) := ⟨h16_⟩
      clear HO342
      clear HO347
      clear BK333
      clear BK343
      clear BK348
      clear HB
      clear h0_ h1_ h2_ h3_ h4_ h5_ h6_ h7_ h8_ h9_ h10_ h11_ h12_ h13_ h14_ h15_ h16_
      have HO342 := n0_
      have HO347 := n1_
      have HO367 := n2_
      have HO371 := n3_
      have BK333 := n4_
      have BK343 := n5_
      have BK348 := n6_
      have BK373 := n7_
      have GW373 := n8_
      have GE373 := n9_
      have NB333_373 := n10_
      have NB373_333 := n11_
      have NB343_373 := n12_
      have NB373_343 := n13_
      have NB348_373 := n14_
      have NB373_348 := n15_
      have HB := n16_
      clear n0_ n1_ n2_ n3_ n4_ n5_ n6_ n7_ n8_ n9_ n10_ n11_ n12_ n13_ n14_ n15_ n16_
      have hHeld : w68.cell? ⟨gb348, 0, none⟩ = some (.bool t344) ∧ w68.cell? ⟨gb348, 1, none⟩ = some (.slice Ao61 t345.length co61) := hS_
      obtain ⟨Ao70, co70, eo70⟩ := Kd.R_slice HO371.out
      (first | subst eo70 | (injection eo70 with f1_ f2_ f3_; have f4_ := f1_.symm; have f5_ := f3_.symm; clear f1_ f2_ f3_; subst f4_; subst f5_))
      refine norm_ (a' := ?_) ?_ ?_
      rotate_left
      ·simp only [putAll, Act.put, List.setIfInBounds_toArray, List.set_cons_zero, List.set_cons_succ]
       rfl
      refine on 9 (none) (bm 11 1023) HT_.out (fun K hK => ?_)
      have hs69 : w68.cell? ⟨gb373, 0, none⟩ = some (.bool false) := (blk_cell BK373.out 0).trans rfl
      have hfs69 := blk_frozen BK373.out 0
      have hns69_0 := NB333_373.out
      have hns69_1 := NB343_373.out
      have hns69_2 := NB348_373.out
      have hms69_0 := NB373_333.out
      have hms69_1 := NB373_343.out
      have hms69_2 := NB373_348.out
      have hs71 : w68.cell? ⟨gb373, 1, none⟩ = some (.slice none 0 0) := (blk_cell BK373.out 1).trans rfl
      have hfs71 := blk_frozen BK373.out 1
      have hns71_0 := NB333_373.out
      have hns71_1 := NB343_373.out
      have hns71_2 := NB348_373.out
      have hms71_0 := NB373_333.out
      have hms71_1 := NB373_343.out
      have hms71_2 := NB373_348.out
      refine skip_ (w1 := ?_) (by rfl) rfl ?_ ?_
      rotate_left
      ·go_simp
       rfl
      refine hK.out _ _ ⟨((cell_far (p := ⟨gb373, _, none⟩) NB348_373.out _).trans (((cell_far (p := ⟨gb373, _, none⟩) NB348_373.out _).trans (hHeld.1)))), ((cell_far (p := ⟨gb373, _, none⟩) NB348_373.out _).trans (((cell_far (p := ⟨gb373, _, none⟩) NB348_373.out _).trans (hHeld.2))))⟩ (fun hHeld => ?_)
      clear hK K
      refine pu 10 (some 12) (bm 11 2047) HT_.out ?_
      refine done_ (done_of HT_.out (by kernel_rfl)) ?_
      have hnb72 := NB343_373.out
      have hnc72 := NB373_343.out
      have hz73_1 := bz BK343
      have hnb74 := NB373_333.out
      have hnc74 := NB333_373.out
      have hnb75 := NB373_348.out
      have hnc75 := NB348_373.out
      have hz76_1 := bz BK373
      try go_wp2_with (first | (refine gl (some 70) Tryz.func99 #[.agg #[.bool t339, .slice Ao55 t340.length co55], .agg #[.bool t368, .slice Ao70 t369.length co70]] ?_; (with_reducible refine (whole_DivMod.calls k t339 _ _ t340 t368 _ _ t369 t374 t375 t378 t379 t382 _ ?side1 ?side2 ?side3 ?side4 A49.out).mono ?_); (case side1 => refine (Kd.R_reads' (e := 25) (base := w.heap.size) (ok := fun k_ => (some k_ ≠ (.slice Ao61 t345.length co61 : Value).ownBlock ∧ (some k_ ≠ (v366 : Value).ownBlock ∧ some k_ ≠ (.slice Ao70 t369.length co70 : Value).ownBlock))) (n := t340.length) (c := co55) ?_).2.2; exact (rt ((Kd.R_mono (Kd.R_far (p := ⟨gb373, 1, none⟩) (Kd.R_far (p := ⟨gb373, 0, none⟩) (Kd.R_types HO342.out BK373.out (by decide)) (fun _ hk => hk.2) (.bool t368)) (fun _ hk => hk.2) (.slice Ao70 t369.length co70)) (fun _ h_ => h_.1))))); (case side2 => exact (Kd.R_reads' HO342.out).2.1); (case side3 => refine (Kd.R_reads' (e := 25) (base := w.heap.size) (ok := fun k_ => (some k_ ≠ (.slice Ao55 t340.length co55 : Value).ownBlock ∧ (some k_ ≠ (.slice Ao61 t345.length co61 : Value).ownBlock ∧ some k_ ≠ (v366 : Value).ownBlock))) (n := t369.length) (c := co70) ?_).2.2; exact (rt ((Kd.R_mono (Kd.R_far (p := ⟨gb373, 1, none⟩) (Kd.R_far (p := ⟨gb373, 0, none⟩) (Kd.R_types HO371.out BK373.out (by decide)) (fun _ hk => hk.2) (.bool t368)) (fun _ hk => hk.2) (.slice Ao70 t369.length co70)) (fun _ h_ => h_.1))))); (case side4 => exact (Kd.R_reads' HO371.out).2.1); rintro e w77 ⟨v376, v380, rfl, ho0, ho1, hb⟩; refine ⟨_, rfl, ?_⟩; have HO377 := Az (Kd.R_lower (Kd.R_new' (Kd.R_new' (Kd.R_new' (Kd.R_new' ho0 (Kd.R_lt (rt ((Kd.R_mono (Kd.R_far (p := ⟨gb373, 1, none⟩) (Kd.R_far (p := ⟨gb373, 0, none⟩) (Kd.R_types HO342.out BK373.out (by decide)) (fun _ hk => hk.2) (.bool t368)) (fun _ hk => hk.2) (.slice Ao70 t369.length co70)) (fun _ h_ => h_.1)))))) (Kd.R_lt (rt ((Kd.R_mono (Kd.R_far (p := ⟨gb373, 1, none⟩) (Kd.R_far (p := ⟨gb373, 0, none⟩) (Kd.R_types HO347.out BK373.out (by decide)) (fun _ hk => hk.2) (.bool t368)) (fun _ hk => hk.2) (.slice Ao70 t369.length co70)) (fun _ h_ => h_.1)))))) (Kd.R_lt (rt ((Kd.R_mono (Kd.R_far (p := ⟨gb373, 1, none⟩) (Kd.R_far (p := ⟨gb373, 0, none⟩) (Kd.R_types HO367.out BK373.out (by decide)) (fun _ hk => hk.2) (.bool t368)) (fun _ hk => hk.2) (.slice Ao70 t369.length co70)) (fun _ h_ => h_.1)))))) (Kd.R_lt (rt ((Kd.R_mono (Kd.R_far (p := ⟨gb373, 1, none⟩) (Kd.R_far (p := ⟨gb373, 0, none⟩) (Kd.R_types HO371.out BK373.out (by decide)) (fun _ hk => hk.2) (.bool t368)) (fun _ hk => hk.2) (.slice Ao70 t369.length co70)) (fun _ h_ => h_.1)))))) (below_size (bls HB))); have HO381 := Az (Kd.R_lower (Kd.R_new' (Kd.R_new' (Kd.R_new' (Kd.R_new' ho1 (Kd.R_lt (rt ((Kd.R_mono (Kd.R_far (p := ⟨gb373, 1, none⟩) (Kd.R_far (p := ⟨gb373, 0, none⟩) (Kd.R_types HO342.out BK373.out (by decide)) (fun _ hk => hk.2) (.bool t368)) (fun _ hk => hk.2) (.slice Ao70 t369.length co70)) (fun _ h_ => h_.1)))))) (Kd.R_lt (rt ((Kd.R_mono (Kd.R_far (p := ⟨gb373, 1, none⟩) (Kd.R_far (p := ⟨gb373, 0, none⟩) (Kd.R_types HO347.out BK373.out (by decide)) (fun _ hk => hk.2) (.bool t368)) (fun _ hk => hk.2) (.slice Ao70 t369.length co70)) (fun _ h_ => h_.1)))))) (Kd.R_lt (rt ((Kd.R_mono (Kd.R_far (p := ⟨gb373, 1, none⟩) (Kd.R_far (p := ⟨gb373, 0, none⟩) (Kd.R_types HO367.out BK373.out (by decide)) (fun _ hk => hk.2) (.bool t368)) (fun _ hk => hk.2) (.slice Ao70 t369.length co70)) (fun _ h_ => h_.1)))))) (Kd.R_lt (rt ((Kd.R_mono (Kd.R_far (p := ⟨gb373, 1, none⟩) (Kd.R_far (p := ⟨gb373, 0, none⟩) (Kd.R_types HO371.out BK373.out (by decide)) (fun _ hk => hk.2) (.bool t368)) (fun _ hk => hk.2) (.slice Ao70 t369.length co70)) (fun _ h_ => h_.1)))))) (below_size (bls HB))); replace HO342 := Az (Kd.R_mono (Kd.R_told (Kd.R_told (Kd.R_old (rt ((Kd.R_mono (Kd.R_far (p := ⟨gb373, 1, none⟩) (Kd.R_far (p := ⟨gb373, 0, none⟩) (Kd.R_types HO342.out BK373.out (by decide)) (fun _ hk => hk.2) (.bool t368)) (fun _ hk => hk.2) (.slice Ao70 t369.length co70)) (fun _ h_ => h_.1)))) hb) (Kd.R_base ho0)) (Kd.R_base ho1)) (fun _ h_ => h_.1)); replace HO347 := Az (Kd.R_mono (Kd.R_told (Kd.R_told (Kd.R_old (rt ((Kd.R_mono (Kd.R_far (p := ⟨gb373, 1, none⟩) (Kd.R_far (p := ⟨gb373, 0, none⟩) (Kd.R_types HO347.out BK373.out (by decide)) (fun _ hk => hk.2) (.bool t368)) (fun _ hk => hk.2) (.slice Ao70 t369.length co70)) (fun _ h_ => h_.1)))) hb) (Kd.R_base ho0)) (Kd.R_base ho1)) (fun _ h_ => h_.1)); replace HO367 := Az (Kd.R_mono (Kd.R_told (Kd.R_told (Kd.R_old (rt ((Kd.R_mono (Kd.R_far (p := ⟨gb373, 1, none⟩) (Kd.R_far (p := ⟨gb373, 0, none⟩) (Kd.R_types HO367.out BK373.out (by decide)) (fun _ hk => hk.2) (.bool t368)) (fun _ hk => hk.2) (.slice Ao70 t369.length co70)) (fun _ h_ => h_.1)))) hb) (Kd.R_base ho0)) (Kd.R_base ho1)) (fun _ h_ => h_.1)); replace HO371 := Az (Kd.R_mono (Kd.R_told (Kd.R_told (Kd.R_old (rt ((Kd.R_mono (Kd.R_far (p := ⟨gb373, 1, none⟩) (Kd.R_far (p := ⟨gb373, 0, none⟩) (Kd.R_types HO371.out BK373.out (by decide)) (fun _ hk => hk.2) (.bool t368)) (fun _ hk => hk.2) (.slice Ao70 t369.length co70)) (fun _ h_ => h_.1)))) hb) (Kd.R_base ho0)) (Kd.R_base ho1)) (fun _ h_ => h_.1)); replace BK333 := Az (blk_below (g := gb333) (o := .cells #[.bool false, .slice none 0 0] 24 (0, 0)) (by refine blk_far ?_ NB333_373.out _; refine blk_far ?_ NB333_373.out _; exact BK333.out) hb); replace BK343 := Az (blk_below (g := gb343) (o := .cells #[.bool t339, .slice Ao55 t340.length co55] 24 (0, 0)) (by refine blk_far ?_ NB343_373.out _; refine blk_far ?_ NB343_373.out _; exact BK343.out) hb); replace BK348 := Az (blk_below (g := gb348) (o := .cells #[.bool t344, .slice Ao61 t345.length co61] 24 (0, 0)) (by refine blk_far ?_ NB348_373.out _; refine blk_far ?_ NB348_373.out _; exact BK348.out) hb); replace BK373 := Az (blk_below (g := gb373) (o := .cells #[.bool t368, .slice Ao70 t369.length co70] 24 (0, 0)) (by refine blk_put (cs := #[.bool t368, .slice none 0 0]) ?_ 1 _ rfl; refine blk_put (cs := #[.bool false, .slice none 0 0]) ?_ 0 _ rfl; exact BK373.out) hb); replace HB := Az (below_step (bls HB) hb)) | (refine be 13 #[.bool false, .slice none 0 0] 24 ?_; intro gb383 hg w78 hbox hb; replace HO342 := Az (Kd.R_below (rk HO342) hb); replace HO347 := Az (Kd.R_below (rk HO347) hb); replace HO367 := Az (Kd.R_below (rk HO367) hb); replace HO371 := Az (Kd.R_below (rk HO371) hb); replace HO377 := Az (Kd.R_below (rk HO377) hb); replace HO381 := Az (Kd.R_below (rk HO381) hb); have BK383 := Az (hbox); have GW383 := gw (bls HB) hg; have GE383 := gw (bls HB) hg; replace HB := Az (below_step (bls HB) hb); have NB333_383 := nl BK333 hg; have NB383_333 := ng BK333 hg; replace BK333 := kb BK333 hb; have NB343_383 := nl BK343 hg; have NB383_343 := ng BK343 hg; replace BK343 := kb BK343 hb; have NB348_383 := nl BK348 hg; have NB383_348 := ng BK348 hg; replace BK348 := kb BK348 hb; have NB373_383 := nl BK373 hg; have NB383_373 := ng BK373 hg; replace BK373 := kb BK373 hb; clear hb hbox hg) | (refine be 14 #[.bool false, .slice none 0 0] 24 ?_; intro gb384 hg w79 hbox hb; replace HO342 := Az (Kd.R_below (rk HO342) hb); replace HO347 := Az (Kd.R_below (rk HO347) hb); replace HO367 := Az (Kd.R_below (rk HO367) hb); replace HO371 := Az (Kd.R_below (rk HO371) hb); replace HO377 := Az (Kd.R_below (rk HO377) hb); replace HO381 := Az (Kd.R_below (rk HO381) hb); have BK384 := Az (hbox); have GW384 := gw (bls HB) hg; have GE384 := gw (bls HB) hg; replace HB := Az (below_step (bls HB) hb); have NB333_384 := nl BK333 hg; have NB384_333 := ng BK333 hg; replace BK333 := kb BK333 hb; have NB343_384 := nl BK343 hg; have NB384_343 := ng BK343 hg; replace BK343 := kb BK343 hb; have NB348_384 := nl BK348 hg; have NB384_348 := ng BK348 hg; replace BK348 := kb BK348 hb; have NB373_384 := nl BK373 hg; have NB384_373 := ng BK373 hg; replace BK373 := kb BK373 hb; have NB383_384 := nl BK383 hg; have NB384_383 := ng BK383 hg; replace BK383 := kb BK383 hb; clear hb hbox hg; have hnb80 := NB383_333.out; have hnc80 := NB333_383.out; have hnb81 := NB383_343.out; have hnc81 := NB343_383.out; have hnb82 := NB383_348.out; have hnc82 := NB348_383.out; have hnb83 := NB383_373.out; have hnc83 := NB373_383.out; have hnb84 := NB383_384.out; have hnc84 := NB384_383.out; have hz85_1 := bz BK383; obtain ⟨Ao86, co86, eo86⟩ := Kd.R_slice HO377.out; subst eo86; have hnb87 := NB384_333.out; have hnc87 := NB333_384.out; have hnb88 := NB384_343.out; have hnc88 := NB343_384.out; have hnb89 := NB384_348.out; have hnc89 := NB348_384.out; have hnb90 := NB384_373.out; have hnc90 := NB373_384.out; have hz91_1 := bz BK384; obtain ⟨Ao92, co92, eo92⟩ := Kd.R_slice HO381.out; subst eo92; have hz93_1 := bz BK333))
      refine bodyPost_ret (results_ct rfl _ _ gb333 24 #[.bool t374, .slice Ao86 t375.length co86] (0, 0) _ rfl (by refine blk_put (cs := #[.bool t374, .slice none 0 0]) ?_ 1 _ rfl; refine blk_put (cs := #[.bool false, .slice none 0 0]) ?_ 0 _ rfl; refine blk_far ?_ NB333_384.out _; refine blk_far ?_ NB333_384.out _; refine blk_far ?_ NB333_383.out _; refine blk_far ?_ NB333_383.out _; exact BK333.out) Tryz.underlying24 rfl (by kernel_rfl)) rfl ?_
      exact ⟨_, fe, rt (Kd.R_mono (Kd.R_far (p := ⟨gb333, 1, none⟩) (Kd.R_far (p := ⟨gb333, 0, none⟩) (Kd.R_far (p := ⟨gb384, 1, none⟩) (Kd.R_far (p := ⟨gb384, 0, none⟩) (Kd.R_far (p := ⟨gb383, 1, none⟩) (Kd.R_far (p := ⟨gb383, 0, none⟩) (Kd.R_types (Kd.R_types (Kd.R_types HO377.out BK383.out (by decide)) BK384.out (by decide)) BK333.out (by decide)) (fun _ hk => hk.1.1.2) (.bool t374)) (fun _ hk => hk.1.1.2) (.slice Ao86 t375.length co86)) (fun _ hk => hk.1.2) (.bool t378)) (fun _ hk => hk.1.2) (.slice Ao92 t379.length co92)) (fun _ hk => hk.2) (.bool t374)) (fun _ hk => hk.2) (.slice Ao86 t375.length co86)) (fun _ hk => trivial)), bls HB⟩
   ·rw [if_neg c8] at H
    exact absurd H (by simp)
def real_Cmp.f (a0 : Int) (a1 : Int) : Option (Int × Bool) := if (FloatKind.f64.format.order (Int.toNat a0) (Int.toNat a1) == some Ordering.lt) = true then (some ((-1), true)) else (if (FloatKind.f64.format.order (Int.toNat a0) (Int.toNat a1) == some Ordering.gt) = true then (some (1, true)) else (some (0, (FloatKind.f64.format.order (Int.toNat a0) (Int.toNat a1) == some Ordering.eq))))
set_option maxHeartbeats 8000000 in
set_option maxRecDepth 100000 in
theorem real_Cmp.calls (a0 : Int) (a1 : Int) (r1 : Int) (r2 : Bool) (w : World) (h : real_Cmp.f a0 a1 = some (r1, r2)) :
  Calls Tryz.prog 48 #[.int .u64 a0, .int .u64 a1] w fun e w' => e = .returned (.tuple #[.int .i64 r1, .bool r2]) ∧ Drawn0 w w' := by
 have H := h
 unfold real_Cmp.f at H
 clear h
 by_cases c3 : (FloatKind.f64.format.order (Int.toNat a0) (Int.toNat a1) == some Ordering.lt) = true
 ·rw [if_pos c3] at H
  have c3b0 : (FloatKind.f64.format.order (Int.toNat a0) (Int.toNat a1) == some Ordering.lt) = true := c3
  (try (have c3b1 : decide (FloatKind.f64.format.order (Int.toNat a0) (Int.toNat a1) = some Ordering.lt) = true := by simpa using c3))
  (try (have c3b2 : (FloatKind.f64.format.order (Int.toNat a0) (Int.toNat a1) == some Ordering.lt) = true := by simpa using c3))
  clear c3
  simp only [Option.some.injEq, Prod.mk.injEq] at H
  obtain ⟨rfl, rfl⟩ := H
  go_enter Tryz.func48, Tryz.ntmps48
  go_wp2
  go_ret2
  exact ⟨by first | rfl | (simp; done) | (simp [*]; done), by repeat (first | exact Drawn0.refl _ | apply Drawn0.step)⟩
 ·rw [if_neg c3] at H
  have c3b0 : (FloatKind.f64.format.order (Int.toNat a0) (Int.toNat a1) == some Ordering.lt) = false := by simpa using c3
  (try (have c3b1 : decide (FloatKind.f64.format.order (Int.toNat a0) (Int.toNat a1) = some Ordering.lt) = false := by simpa using c3))
  (try (have c3b2 : (FloatKind.f64.format.order (Int.toNat a0) (Int.toNat a1) == some Ordering.lt) = false := by simpa using c3))
  (try (have c3b3 : ¬ (FloatKind.f64.format.order (Int.toNat a0) (Int.toNat a1) = some Ordering.lt) := by simpa using c3))
  clear c3
  by_cases c4 : (FloatKind.f64.format.order (Int.toNat a0) (Int.toNat a1) == some Ordering.gt) = true
  ·rw [if_pos c4] at H
   have c4b0 : (FloatKind.f64.format.order (Int.toNat a0) (Int.toNat a1) == some Ordering.gt) = true := c4
   (try (have c4b1 : decide (FloatKind.f64.format.order (Int.toNat a0) (Int.toNat a1) = some Ordering.gt) = true := by simpa using c4))
   (try (have c4b2 : (FloatKind.f64.format.order (Int.toNat a0) (Int.toNat a1) == some Ordering.gt) = true := by simpa using c4))
   clear c4
   simp only [Option.some.injEq, Prod.mk.injEq] at H
   obtain ⟨rfl, rfl⟩ := H
   go_enter Tryz.func48, Tryz.ntmps48
   go_wp2
   go_ret2
   exact ⟨by first | rfl | (simp; done) | (simp [*]; done), by repeat (first | exact Drawn0.refl _ | apply Drawn0.step)⟩
  ·rw [if_neg c4] at H
   have c4b0 : (FloatKind.f64.format.order (Int.toNat a0) (Int.toNat a1) == some Ordering.gt) = false := by simpa using c4
   (try (have c4b1 : decide (FloatKind.f64.format.order (Int.toNat a0) (Int.toNat a1) = some Ordering.gt) = false := by simpa using c4))
   (try (have c4b2 : (FloatKind.f64.format.order (Int.toNat a0) (Int.toNat a1) == some Ordering.gt) = false := by simpa using c4))
   (try (have c4b3 : ¬ (FloatKind.f64.format.order (Int.toNat a0) (Int.toNat a1) = some Ordering.gt) := by simpa using c4))
   clear c4
   simp only [Option.some.injEq, Prod.mk.injEq] at H
   obtain ⟨rfl, rfl⟩ := H
   go_enter Tryz.func48, Tryz.ntmps48
   go_wp2
   go_ret2
   exact ⟨by first | rfl | (simp; done) | (simp [*]; done), by repeat (first | exact Drawn0.refl _ | apply Drawn0.step)⟩
def real_bare.f (a0 : Nat) : Option (Int) := if (FloatKind.f64.format.order a0 a0 != some Ordering.eq) = true then (some 9221120237041090560) else (some ((a0 : Nat) : Int))
set_option maxHeartbeats 8000000 in
set_option maxRecDepth 100000 in
theorem real_bare.calls (a0 : Nat) (r : Int) (w : World) (h : real_bare.f a0 = some r) :
  Calls Tryz.prog 52 #[.float .f64 a0] w fun e w' => e = .returned (.int .u64 r) ∧ Drawn0 w w' := by
 have H := h
 unfold real_bare.f at H
 clear h
 by_cases c2 : (FloatKind.f64.format.order a0 a0 != some Ordering.eq) = true
 ·rw [if_pos c2] at H
  have c2b0 : (FloatKind.f64.format.order a0 a0 != some Ordering.eq) = true := c2
  (try (have c2b1 : decide (FloatKind.f64.format.order a0 a0 = some Ordering.eq) = false := by simpa using c2))
  (try (have c2b2 : (FloatKind.f64.format.order a0 a0 == some Ordering.eq) = false := by simpa using c2))
  (try (have c2b3 : ¬ (FloatKind.f64.format.order a0 a0 = some Ordering.eq) := by simpa using c2))
  clear c2
  obtain rfl := Option.some.inj H
  go_enter Tryz.func52, Tryz.ntmps52
  go_wp2
  go_ret
  exact ⟨by first | rfl | (simp; done) | (simp [*]; done), by repeat (first | exact Drawn0.refl _ | apply Drawn0.step)⟩
 ·rw [if_neg c2] at H
  have c2b0 : (FloatKind.f64.format.order a0 a0 != some Ordering.eq) = false := by simpa using c2
  (try (have c2b1 : decide (FloatKind.f64.format.order a0 a0 = some Ordering.eq) = true := by simpa using c2))
  (try (have c2b2 : (FloatKind.f64.format.order a0 a0 == some Ordering.eq) = true := by simpa using c2))
  clear c2
  obtain rfl := Option.some.inj H
  go_enter Tryz.func52, Tryz.ntmps52
  go_wp2
  go_ret
  exact ⟨by first | rfl | (simp; done) | (simp [*]; done), by repeat (first | exact Drawn0.refl _ | apply Drawn0.step)⟩
def math_Copysign.f (a0 : Nat) (a1 : Nat) : Option (Nat) := some (Int.toNat (Go.bits .or .u64 (Go.bits .andNot .u64 ((a0 : Nat) : Int) 9223372036854775808) (Go.bits .and .u64 ((a1 : Nat) : Int) 9223372036854775808)))
set_option maxHeartbeats 8000000 in
set_option maxRecDepth 100000 in
theorem math_Copysign.calls (a0 : Nat) (a1 : Nat) (r : Nat) (w : World) (h : math_Copysign.f a0 a1 = some r) :
  Calls Tryz.prog 77 #[.float .f64 a0, .float .f64 a1] w fun e w' => e = .returned (.float .f64 r) ∧ Drawn0 w w' := by
 have H := h
 unfold math_Copysign.f at H
 clear h
 obtain rfl := Option.some.inj H
 go_enter Tryz.func77, Tryz.ntmps77
 go_wp2
 go_ret
 exact ⟨by first | rfl | (simp; done) | (simp [*]; done), by repeat (first | exact Drawn0.refl _ | apply Drawn0.step)⟩
def real_CmpBig.j0 : Nat → Int → Nat → Bool → Bool → List Int → Option (Int × Bool)
 | 0, _, _, _, _, _ => none
 | k + 1, x0, x6, x21, x386000, x386001 => if x21 = true then (some (0, false)) else ((math_IsInf.f x6 0).bind fun t387 => (if t387 = true then ((math_Copysign.f 4607182418800017408 x6).bind fun t388 => (if inI64 t388 = true then (some (f2i t388, true)) else (none))) else ((real_Whole.f k x0).bind fun bt389 => ((whole_Cmp.f k bt389.1 bt389.2.1 x386000 x386001).bind fun t395 => (if t395 = 0 then ((math_Trunc.f x6).bind fun t396 => ((real_bare.f t396).bind fun t397 => ((real_Cmp.f x0 t397).bind fun bt398 => (some (bt398.1, true))))) else (some (t395, true)))))))
def real_CmpBig.f (k : Nat) (a0 : Int) (a1_0 : Bool) (l1_1 : List Int) : Option (Int × Bool) := if (FloatKind.f64.format.order (Int.toNat a0) (Int.toNat a0) != some Ordering.eq) = true then (real_CmpBig.j0 k a0 (Int.toNat a0) true a1_0 l1_1) else ((whole_Good.f k a1_0 l1_1).bind fun t386 => (real_CmpBig.j0 k a0 (Int.toNat a0) (!t386) a1_0 l1_1))
theorem real_CmpBig.mono_l : ∀ k, (∀ y0 y1 y2 y3 y4, LeO (real_CmpBig.j0 k y0 y1 y2 y3 y4) (real_CmpBig.j0 (k + 1) y0 y1 y2 y3 y4))
 | 0 => fun _ _ _ _ _ r h => by simp [real_CmpBig.j0] at h
 | k + 1 => by
  have ih0 := real_CmpBig.mono_l k
  ·intro y0 y1 y2 y3 y4
   unfold real_CmpBig.j0
   repeat' first
   | (with_reducible exact ih0 _ _ _ _ _)
   | (with_reducible exact real_Whole.mono _ _)
   | (with_reducible exact whole_Cmp.mono _ _ _ _ _)
   | (with_reducible exact whole_Good.mono _ _ _)
   | (with_reducible exact LeO.refl _)
   | (with_reducible exact LeO.none _)
   | (with_reducible refine LeO.ite ?_ ?_)
   | (with_reducible refine LeO.bind ?_ (fun _ => ?_))
   | exact ih0 _ _ _ _ _
   | exact real_Whole.mono _ _
   | exact whole_Cmp.mono _ _ _ _ _
   | exact whole_Good.mono _ _ _
   | exact LeO.none _
   | refine LeO.ite ?_ ?_
   | refine LeO.bind ?_ (fun _ => ?_)
theorem real_CmpBig.mono : ∀ a0 a1 a2 k, LeO (real_CmpBig.f k a0 a1 a2) (real_CmpBig.f (k + 1) a0 a1 a2) := by
 intro a0 a1 a2 k
 have ih0 := real_CmpBig.mono_l k
 unfold real_CmpBig.f
 repeat' first
   | (with_reducible exact ih0 _ _ _ _ _)
   | (with_reducible exact real_Whole.mono _ _)
   | (with_reducible exact whole_Cmp.mono _ _ _ _ _)
   | (with_reducible exact whole_Good.mono _ _ _)
   | (with_reducible exact LeO.refl _)
   | (with_reducible exact LeO.none _)
   | (with_reducible refine LeO.ite ?_ ?_)
   | (with_reducible refine LeO.bind ?_ (fun _ => ?_))
   | exact ih0 _ _ _ _ _
   | exact real_Whole.mono _ _
   | exact whole_Cmp.mono _ _ _ _ _
   | exact whole_Good.mono _ _ _
   | exact LeO.none _
   | refine LeO.ite ?_ ?_
   | refine LeO.bind ?_ (fun _ => ?_)
set_option maxHeartbeats 8000000 in
set_option maxRecDepth 100000 in
theorem real_CmpBig.calls (k : Nat) (a0 : Int) (a1_0 : Bool) (A1_1 : Option Addr) (c1_1 : Nat) (l1_1 : List Int) (r1 : Int) (r2 : Bool) (w : World) (hr1_1 : Kd.C (Kd.int .u64) w A1_1 l1_1.length l1_1) (hc1_1 : l1_1.length ≤ c1_1) (h : real_CmpBig.f k a0 a1_0 l1_1 = some (r1, r2)) :
  Calls Tryz.prog 49 #[.int .u64 a0, .agg #[.bool a1_0, .slice A1_1 l1_1.length c1_1]] w fun e w' => e = .returned (.tuple #[.int .i64 r1, .bool r2]) ∧ Below w.heap.size w w' := by
 have hu24 := Tryz.underlying24
 have HR1_1 := Az hr1_1
 have HC1_1 := Az hc1_1
 clear hr1_1 hc1_1
 have HB := Az (Below.refl w.heap.size w)
 have H := h
 unfold real_CmpBig.f at H
 clear h
 have HC3 := Az H
 clear H
 go_enter Tryz.func49, Tryz.ntmps49
 go_upto_region 2 with (first | (refine be 3 #[.bool a1_0, .slice A1_1 l1_1.length c1_1] 24 ?_; intro gb385 hg w4 hbox hb; have BK385 := Az (hbox); have GW385 := gw (bl HB) hg; have GE385 := gw (bl HB) hg; replace HB := Az (below_step (bl HB) hb); clear hb hbox hg))
 (try simp only [Act.put, List.setIfInBounds_toArray, List.set_cons_zero, List.set_cons_succ])
 go_cut [21] (fun v21 wc => ∃ (kq : Nat) (x21_2 : Bool), v21 = .bool x21_2 ∧ Aside0 (real_CmpBig.j0 kq a0 (Int.toNat a0) x21_2 a1_0 l1_1 = some (r1, r2)) ∧ Aside0 (kq ≤ k) ∧ Aside0 (wc.heap[gb385]? = some (.cells #[.bool a1_0, (.slice A1_1 l1_1.length c1_1)] 24 (0, 0))) ∧ Aside0 (Below w.heap.size w wc))
 case first =>
  have H := HC3.out
  clear HC3
  by_cases c5 : (FloatKind.f64.format.order (Int.toNat a0) (Int.toNat a0) != some Ordering.eq) = true
  ·rw [if_pos c5] at H
   have c5b0 : (FloatKind.f64.format.order (Int.toNat a0) (Int.toNat a0) != some Ordering.eq) = true := c5
   (try (have c5b1 : decide (FloatKind.f64.format.order (Int.toNat a0) (Int.toNat a0) = some Ordering.eq) = false := by simpa using c5))
   (try (have c5b2 : (FloatKind.f64.format.order (Int.toNat a0) (Int.toNat a0) == some Ordering.eq) = false := by simpa using c5))
   (try (have c5b3 : ¬ (FloatKind.f64.format.order (Int.toNat a0) (Int.toNat a0) = some Ordering.eq) := by simpa using c5))
   clear c5
   (first | rw [c5b0] | (simp only [i64_w, i32_w]; rw [c5b0]) | skip)
   have H' := Az H
   clear H
   go_wp2
   go_meet
   case rel => exact ⟨_, (true), rs, H', ⟨le0⟩, ⟨bk BK385⟩, ⟨bls HB⟩⟩
  ·rw [if_neg c5] at H
   have c5b0 : (FloatKind.f64.format.order (Int.toNat a0) (Int.toNat a0) != some Ordering.eq) = false := by simpa using c5
   (try (have c5b1 : decide (FloatKind.f64.format.order (Int.toNat a0) (Int.toNat a0) = some Ordering.eq) = true := by simpa using c5))
   (try (have c5b2 : (FloatKind.f64.format.order (Int.toNat a0) (Int.toNat a0) == some Ordering.eq) = true := by simpa using c5))
   clear c5
   (first | rw [c5b0] | (simp only [i64_w, i32_w]; rw [c5b0]) | skip)
   obtain ⟨t386, A6, H⟩ := bd H
   have H' := Az H
   clear H
   have hz7_1 := bz BK385
   go_wp2_with (first | (go_at_call 47; (with_reducible refine (whole_Good.calls k a1_0 _ _ l1_1 t386 _ (ck HR1_1 HB) HC1_1.out A6.out).mono ?_); rintro e w8 ⟨rfl, hb⟩; replace BK385 := kb BK385 hb; replace HB := Az (below_step (bls HB) hb); (try clear hb)))
   go_meet
   case rel => exact ⟨_, (!t386), rs, H', ⟨le0⟩, ⟨bk BK385⟩, ⟨bls HB⟩⟩
 case rest =>
  clear HC3
  obtain ⟨kq, x21_2, rfl, HA, HJ2, BK385, HB⟩ := hcut
  cases kq with
  | zero => exact absurd HA.out (by simp [real_CmpBig.j0])
  | succ kj2 =>
   have H := HA.out
   clear HA
   simp only [real_CmpBig.j0] at H
   by_cases c9 : x21_2 = true
   ·subst c9
    rw [if_pos rfl] at H
    simp only [Option.some.injEq, Prod.mk.injEq] at H
    obtain ⟨rfl, rfl⟩ := H
    go_wp2
    go_ret2
    exact ⟨fe, bls HB⟩
   ·replace c9 := Bool.eq_false_iff.mpr c9
    subst c9
    rw [if_neg Bool.false_ne_true] at H
    obtain ⟨t387, A10, H⟩ := bd H
    by_cases c11 : t387 = true
    ·subst c11
     rw [if_pos rfl] at H
     obtain ⟨t388, A12, H⟩ := bd H
     by_cases c13 : inI64 t388 = true
     ·rw [if_pos c13] at H
      have c13b0 := eq_true c13
      have c13b1 := decide_eq_true c13
      clear c13
      simp only [Option.some.injEq, Prod.mk.injEq] at H
      obtain ⟨rfl, rfl⟩ := H
      go_wp2_with (first | (refine gl (some 23) Tryz.func58 #[.float .f64 (Int.toNat a0), .int .i64 0] ?_; (with_reducible refine (math_IsInf.calls (Int.toNat a0) 0 true _ A10.out).mono ?_); rintro e w' ⟨rfl, ⟨nd, rfl⟩⟩; refine ⟨_, rfl, ?_⟩) | (refine gl (some 25) Tryz.func77 #[.float .f64 4607182418800017408, .float .f64 (Int.toNat a0)] ?_; (with_reducible refine (math_Copysign.calls 4607182418800017408 (Int.toNat a0) t388 _ A12.out).mono ?_); rintro e w' ⟨rfl, ⟨nd, rfl⟩⟩; refine ⟨_, rfl, ?_⟩))
      go_ret2
      exact ⟨fe, bls HB⟩
     ·rw [if_neg c13] at H
      exact absurd H (by simp)
    ·replace c11 := Bool.eq_false_iff.mpr c11
     subst c11
     rw [if_neg Bool.false_ne_true] at H
     obtain ⟨⟨t389, t390, t393⟩, A14, H⟩ := bd H
     (try dsimp only at H)
     obtain ⟨t395, A15, H⟩ := bd H
     by_cases c16 : t395 = 0
     ·rw [if_pos c16] at H
      have c16b0 := beq_iff_eq.mpr c16
      have c16b1 := bne_eq_false_iff_eq.mpr c16
      clear c16
      obtain ⟨t396, A17, H⟩ := bd H
      obtain ⟨t397, A18, H⟩ := bd H
      obtain ⟨⟨t398, t399⟩, A19, H⟩ := bd H
      (try dsimp only at H)
      simp only [Option.some.injEq, Prod.mk.injEq] at H
      obtain ⟨rfl, rfl⟩ := H
      go_wp2_with (first | (refine gl (some 23) Tryz.func58 #[.float .f64 (Int.toNat a0), .int .i64 0] ?_; (with_reducible refine (math_IsInf.calls (Int.toNat a0) 0 false _ A10.out).mono ?_); rintro e wc ⟨rfl, hb⟩; replace hb := dr hb; refine ⟨_, rfl, ?_⟩; replace BK385 := kb BK385 hb; replace HB := Az (below_step (bls HB) hb); clear hb; have hz385_ := bz BK385) | (refine gl (some 29) Tryz.func78 #[.int .u64 a0] ?_; (with_reducible refine (real_Whole.calls kj2 a0 t389 t390 t393 _ A14.out).mono ?_); rintro e w20 ⟨v391, rfl, ho0, hb⟩; refine ⟨_, rfl, ?_⟩; have HO392 := Az (Kd.R_lower ho0 (below_size (bls HB))); replace BK385 := kb BK385 hb; replace HB := Az (below_step (bls HB) hb); (try clear hb); (try clear ho0)) | (refine be 7 #[.bool false, .slice none 0 0] 24 ?_; intro gb394 hg w21 hbox hb; replace HO392 := Az (Kd.R_below (rk HO392) hb); have BK394 := Az (hbox); have GW394 := gw (bls HB) hg; have GE394 := gw (bls HB) hg; replace HB := Az (below_step (bls HB) hb); have NB385_394 := nl BK385 hg; have NB394_385 := ng BK385 hg; replace BK385 := kb BK385 hb; clear hb hbox hg; have hnb22 := NB394_385.out; have hnc22 := NB385_394.out; have hz23_1 := bz BK394; obtain ⟨Ao24, co24, eo24⟩ := Kd.R_slice HO392.out; subst eo24; have hz25_1 := bz BK385) | (refine gl (some 34) Tryz.func29 #[.agg #[.bool t389, .slice Ao24 t390.length co24], .agg #[.bool a1_0, .slice A1_1 l1_1.length c1_1]] ?_; (with_reducible refine (whole_Cmp.calls kj2 t389 _ _ t390 a1_0 _ _ l1_1 t395 _ ?side1 ?side2 ?side3 ?side4 A15.out).mono ?_); (case side1 => refine (Kd.R_reads' (e := 25) (base := w.heap.size) (ok := fun k_ => True) (n := t390.length) (c := co24) ?_).2.2; exact (rt ((Kd.R_mono (Kd.R_far (p := ⟨gb394, 1, none⟩) (Kd.R_far (p := ⟨gb394, 0, none⟩) (Kd.R_types HO392.out BK394.out (by decide)) (fun _ hk => hk.2) (.bool t389)) (fun _ hk => hk.2) (.slice Ao24 t390.length co24)) (fun _ h_ => h_.1))))); (case side2 => exact (Kd.R_reads' HO392.out).2.1); (case side3 => exact Kd.C_below HR1_1.out (bls HB)); (case side4 => exact HC1_1.out); rintro e w26 ⟨rfl, hb⟩; refine ⟨_, rfl, ?_⟩; replace HO392 := Az (Kd.R_below (rt ((Kd.R_mono (Kd.R_far (p := ⟨gb394, 1, none⟩) (Kd.R_far (p := ⟨gb394, 0, none⟩) (Kd.R_types HO392.out BK394.out (by decide)) (fun _ hk => hk.2) (.bool t389)) (fun _ hk => hk.2) (.slice Ao24 t390.length co24)) (fun _ h_ => h_.1)))) hb); replace BK385 := Az (blk_below (g := gb385) (o := .cells #[.bool a1_0, .slice A1_1 l1_1.length c1_1] 24 (0, 0)) (by (with_reducible repeat (first | refine blk_drewN ?_ _ | refine blk_drew ?_ | refine blk_alloc ?_ _)); refine blk_far ?_ NB385_394.out _; (with_reducible repeat (first | refine blk_drewN ?_ _ | refine blk_drew ?_ | refine blk_alloc ?_ _)); refine blk_far ?_ NB385_394.out _; (with_reducible repeat (first | refine blk_drewN ?_ _ | refine blk_drew ?_ | refine blk_alloc ?_ _)); exact BK385.out) hb); replace BK394 := Az (blk_below (g := gb394) (o := .cells #[.bool t389, .slice Ao24 t390.length co24] 24 (0, 0)) (by (with_reducible repeat (first | refine blk_drewN ?_ _ | refine blk_drew ?_ | refine blk_alloc ?_ _)); refine blk_put (cs := #[.bool t389, .slice none 0 0]) ?_ 1 _ rfl; (with_reducible repeat (first | refine blk_drewN ?_ _ | refine blk_drew ?_ | refine blk_alloc ?_ _)); refine blk_put (cs := #[.bool false, .slice none 0 0]) ?_ 0 _ rfl; (with_reducible repeat (first | refine blk_drewN ?_ _ | refine blk_drew ?_ | refine blk_alloc ?_ _)); exact BK394.out) hb); replace HB := Az (below_step (bls HB) hb); (try clear hb); (try clear hk)) | (refine gl (some 41) Tryz.func79 #[.float .f64 (Int.toNat a0)] ?_; (with_reducible refine (math_Trunc.calls (Int.toNat a0) t396 _ A17.out).mono ?_); rintro e w' ⟨rfl, ⟨nd, rfl⟩⟩; refine ⟨_, rfl, ?_⟩) | (refine gl (some 42) Tryz.func52 #[.float .f64 t396] ?_; (with_reducible refine (real_bare.calls t396 t397 _ A18.out).mono ?_); rintro e w' ⟨rfl, ⟨nd, rfl⟩⟩; refine ⟨_, rfl, ?_⟩) | (refine gl (some 43) Tryz.func48 #[.int .u64 a0, .int .u64 t397] ?_; (with_reducible refine (real_Cmp.calls a0 t397 t398 t399 _ A19.out).mono ?_); rintro e w' ⟨rfl, ⟨nd, rfl⟩⟩; refine ⟨_, rfl, ?_⟩))
      go_ret2
      exact ⟨fe, bls HB⟩
     ·rw [if_neg c16] at H
      have c16b0 := beq_eq_false_iff_ne.mpr c16
      have c16b1 := bne_iff_ne.mpr c16
      simp only [Option.some.injEq, Prod.mk.injEq] at H
      obtain ⟨rfl, rfl⟩ := H
      go_wp2_with (first | (refine gl (some 23) Tryz.func58 #[.float .f64 (Int.toNat a0), .int .i64 0] ?_; (with_reducible refine (math_IsInf.calls (Int.toNat a0) 0 false _ A10.out).mono ?_); rintro e wc ⟨rfl, hb⟩; replace hb := dr hb; refine ⟨_, rfl, ?_⟩; replace BK385 := kb BK385 hb; replace HB := Az (below_step (bls HB) hb); clear hb; have hz385_ := bz BK385) | (refine gl (some 29) Tryz.func78 #[.int .u64 a0] ?_; (with_reducible refine (real_Whole.calls kj2 a0 t389 t390 t393 _ A14.out).mono ?_); rintro e w27 ⟨v391, rfl, ho0, hb⟩; refine ⟨_, rfl, ?_⟩; have HO392 := Az (Kd.R_lower ho0 (below_size (bls HB))); replace BK385 := kb BK385 hb; replace HB := Az (below_step (bls HB) hb); (try clear hb); (try clear hb2); (try clear hk); (try clear hi); (try clear ho0)) | (refine be 7 #[.bool false, .slice none 0 0] 24 ?_; intro gb394 hg w28 hbox hb; replace HO392 := Az (Kd.R_below (rk HO392) hb); have BK394 := Az (hbox); have GW394 := gw (bls HB) hg; have GE394 := gw (bls HB) hg; replace HB := Az (below_step (bls HB) hb); have NB385_394 := nl BK385 hg; have NB394_385 := ng BK385 hg; replace BK385 := kb BK385 hb; clear hb hbox hg; have hnb29 := NB394_385.out; have hnc29 := NB385_394.out; have hz30_1 := bz BK394; obtain ⟨Ao31, co31, eo31⟩ := Kd.R_slice HO392.out; subst eo31; have hz32_1 := bz BK385) | (refine gl (some 34) Tryz.func29 #[.agg #[.bool t389, .slice Ao31 t390.length co31], .agg #[.bool a1_0, .slice A1_1 l1_1.length c1_1]] ?_; (with_reducible refine (whole_Cmp.calls kj2 t389 _ _ t390 a1_0 _ _ l1_1 t395 _ ?side1 ?side2 ?side3 ?side4 A15.out).mono ?_); (case side1 => refine (Kd.R_reads' (e := 25) (base := w.heap.size) (ok := fun k_ => True) (n := t390.length) (c := co31) ?_).2.2; exact (rt ((Kd.R_mono (Kd.R_far (p := ⟨gb394, 1, none⟩) (Kd.R_far (p := ⟨gb394, 0, none⟩) (Kd.R_types HO392.out BK394.out (by decide)) (fun _ hk => hk.2) (.bool t389)) (fun _ hk => hk.2) (.slice Ao31 t390.length co31)) (fun _ h_ => h_.1))))); (case side2 => exact (Kd.R_reads' HO392.out).2.1); (case side3 => exact Kd.C_below HR1_1.out (bls HB)); (case side4 => exact HC1_1.out); rintro e w33 ⟨rfl, hb⟩; refine ⟨_, rfl, ?_⟩; replace HO392 := Az (Kd.R_below (rt ((Kd.R_mono (Kd.R_far (p := ⟨gb394, 1, none⟩) (Kd.R_far (p := ⟨gb394, 0, none⟩) (Kd.R_types HO392.out BK394.out (by decide)) (fun _ hk => hk.2) (.bool t389)) (fun _ hk => hk.2) (.slice Ao31 t390.length co31)) (fun _ h_ => h_.1)))) hb); replace BK385 := Az (blk_below (g := gb385) (o := .cells #[.bool a1_0, .slice A1_1 l1_1.length c1_1] 24 (0, 0)) (by (with_reducible repeat (first | refine blk_drewN ?_ _ | refine blk_drew ?_ | refine blk_alloc ?_ _)); refine blk_far ?_ NB385_394.out _; (with_reducible repeat (first | refine blk_drewN ?_ _ | refine blk_drew ?_ | refine blk_alloc ?_ _)); refine blk_far ?_ NB385_394.out _; (with_reducible repeat (first | refine blk_drewN ?_ _ | refine blk_drew ?_ | refine blk_alloc ?_ _)); exact BK385.out) hb); replace BK394 := Az (blk_below (g := gb394) (o := .cells #[.bool t389, .slice Ao31 t390.length co31] 24 (0, 0)) (by (with_reducible repeat (first | refine blk_drewN ?_ _ | refine blk_drew ?_ | refine blk_alloc ?_ _)); refine blk_put (cs := #[.bool t389, .slice none 0 0]) ?_ 1 _ rfl; (with_reducible repeat (first | refine blk_drewN ?_ _ | refine blk_drew ?_ | refine blk_alloc ?_ _)); refine blk_put (cs := #[.bool false, .slice none 0 0]) ?_ 0 _ rfl; (with_reducible repeat (first | refine blk_drewN ?_ _ | refine blk_drew ?_ | refine blk_alloc ?_ _)); exact BK394.out) hb); replace HB := Az (below_step (bls HB) hb); (try clear hb); (try clear hk)))
      go_ret2
      exact ⟨fe, bls HB⟩
def real_Hash.j0 : Nat → Nat → Int → Option (Int)
 | 0, _, _ => none
 | k + 1, x3, x4 => if (FloatKind.f64.format.order x3 x3 != some Ordering.eq) = true then (some 0) else ((math_IsInf.f x3 0).bind fun t435 => (if t435 = true then (some (wrap64 (x4 * 314159))) else ((math_Abs.f x3).bind fun t436 => ((math_Frexp.f t436).bind fun bt437 => ((math_Ldexp.f bt437.1 53).bind fun t439 => (if inU64 t439 = true then (if 0 ≤ (Int.tmod (wrap64 ((Int.tmod (wrap64 (bt437.2 - 53)) 31) + 31)) 31) then ((bits_Mul64.f (Int.tmod (f2i t439) 2147483647) (shl .u64 1 (Int.tmod (wrap64 ((Int.tmod (wrap64 (bt437.2 - 53)) 31) + 31)) 31))).bind fun bt440 => ((bits_Rem64.f k bt440.1 bt440.2 2147483647).bind fun t442 => (some (wrap64 (x4 * (wrap64 (t442))))))) else (none)) else (none)))))))
def real_Hash.f (k : Nat) (a0 : Int) : Option (Int) := if (FloatKind.f64.format.order (Int.toNat a0) 0 == some Ordering.lt) = true then (real_Hash.j0 k (Int.toNat a0) (-1)) else (real_Hash.j0 k (Int.toNat a0) 1)
theorem real_Hash.mono_l : ∀ k, (∀ y0 y1, LeO (real_Hash.j0 k y0 y1) (real_Hash.j0 (k + 1) y0 y1))
 | 0 => fun _ _ r h => by simp [real_Hash.j0] at h
 | k + 1 => by
  have ih0 := real_Hash.mono_l k
  ·intro y0 y1
   unfold real_Hash.j0
   repeat' first
   | (with_reducible exact ih0 _ _)
   | (with_reducible exact bits_Rem64.mono _ _ _ _)
   | (with_reducible exact LeO.refl _)
   | (with_reducible exact LeO.none _)
   | (with_reducible refine LeO.ite ?_ ?_)
   | (with_reducible refine LeO.bind ?_ (fun _ => ?_))
   | exact ih0 _ _
   | exact bits_Rem64.mono _ _ _ _
   | exact LeO.none _
   | refine LeO.ite ?_ ?_
   | refine LeO.bind ?_ (fun _ => ?_)
theorem real_Hash.mono : ∀ a0 k, LeO (real_Hash.f k a0) (real_Hash.f (k + 1) a0) := by
 intro a0 k
 have ih0 := real_Hash.mono_l k
 unfold real_Hash.f
 repeat' first
   | (with_reducible exact ih0 _ _)
   | (with_reducible exact bits_Rem64.mono _ _ _ _)
   | (with_reducible exact LeO.refl _)
   | (with_reducible exact LeO.none _)
   | (with_reducible refine LeO.ite ?_ ?_)
   | (with_reducible refine LeO.bind ?_ (fun _ => ?_))
   | exact ih0 _ _
   | exact bits_Rem64.mono _ _ _ _
   | exact LeO.none _
   | refine LeO.ite ?_ ?_
   | refine LeO.bind ?_ (fun _ => ?_)
set_option maxHeartbeats 8000000 in
set_option maxRecDepth 100000 in
theorem real_Hash.calls (k : Nat) (a0 : Int) (r : Int) (w : World) (h : real_Hash.f k a0 = some r) :
  Calls Tryz.prog 35 #[.int .u64 a0] w fun e w' => e = .returned (.int .i64 r) ∧ Drawn0 w w' := by
 have H := h
 unfold real_Hash.f at H
 clear h
 have HC2 := Az H
 clear H
 go_enter Tryz.func35, Tryz.ntmps35
 go_upto_if 13 with (fail)
 go_cut [4] (fun v4 wc => ∃ (kq : Nat) (x4_1 : Int), v4 = .int .i64 x4_1 ∧ Aside0 (real_Hash.j0 kq (Int.toNat a0) x4_1 = some r) ∧ Aside0 (kq ≤ k) ∧ Drawn0 w wc)
 case first =>
  have H := HC2.out
  clear HC2
  by_cases c3 : (FloatKind.f64.format.order (Int.toNat a0) 0 == some Ordering.lt) = true
  ·rw [if_pos c3] at H
   have c3b0 : (FloatKind.f64.format.order (Int.toNat a0) 0 == some Ordering.lt) = true := c3
   (try (have c3b1 : decide (FloatKind.f64.format.order (Int.toNat a0) 0 = some Ordering.lt) = true := by simpa using c3))
   (try (have c3b2 : (FloatKind.f64.format.order (Int.toNat a0) 0 == some Ordering.lt) = true := by simpa using c3))
   clear c3
   (first | rw [c3b0] | (simp only [i64_w, i32_w]; rw [c3b0]) | skip)
   have H' := Az H
   clear H
   go_wp2
   go_meet
   case rel => exact ⟨_, ((-1)), rs, H', ⟨le0⟩, by repeat (first | exact Drawn0.refl _ | apply Drawn0.step)⟩
  ·rw [if_neg c3] at H
   have c3b0 : (FloatKind.f64.format.order (Int.toNat a0) 0 == some Ordering.lt) = false := by simpa using c3
   (try (have c3b1 : decide (FloatKind.f64.format.order (Int.toNat a0) 0 = some Ordering.lt) = false := by simpa using c3))
   (try (have c3b2 : (FloatKind.f64.format.order (Int.toNat a0) 0 == some Ordering.lt) = false := by simpa using c3))
   (try (have c3b3 : ¬ (FloatKind.f64.format.order (Int.toNat a0) 0 = some Ordering.lt) := by simpa using c3))
   clear c3
   (first | rw [c3b0] | (simp only [i64_w, i32_w]; rw [c3b0]) | skip)
   have H' := Az H
   clear H
   go_wp2
   go_meet
   case rel => exact ⟨_, (1), rs, H', ⟨le0⟩, by repeat (first | exact Drawn0.refl _ | apply Drawn0.step)⟩
 case rest =>
  clear HC2
  obtain ⟨kq, x4_1, rfl, HA, HJ1, ⟨mc1, rfl⟩⟩ := hcut
  cases kq with
  | zero => exact absurd HA.out (by simp [real_Hash.j0])
  | succ kj1 =>
   have H := HA.out
   clear HA
   simp only [real_Hash.j0] at H
   by_cases c4 : (FloatKind.f64.format.order (Int.toNat a0) (Int.toNat a0) != some Ordering.eq) = true
   ·rw [if_pos c4] at H
    have c4b0 : (FloatKind.f64.format.order (Int.toNat a0) (Int.toNat a0) != some Ordering.eq) = true := c4
    (try (have c4b1 : decide (FloatKind.f64.format.order (Int.toNat a0) (Int.toNat a0) = some Ordering.eq) = false := by simpa using c4))
    (try (have c4b2 : (FloatKind.f64.format.order (Int.toNat a0) (Int.toNat a0) == some Ordering.eq) = false := by simpa using c4))
    (try (have c4b3 : ¬ (FloatKind.f64.format.order (Int.toNat a0) (Int.toNat a0) = some Ordering.eq) := by simpa using c4))
    clear c4
    obtain rfl := Option.some.inj H
    go_wp2
    go_ret
    exact ⟨by first | rfl | (simp; done) | (simp [*]; done), by repeat (first | exact Drawn0.refl _ | apply Drawn0.step)⟩
   ·rw [if_neg c4] at H
    have c4b0 : (FloatKind.f64.format.order (Int.toNat a0) (Int.toNat a0) != some Ordering.eq) = false := by simpa using c4
    (try (have c4b1 : decide (FloatKind.f64.format.order (Int.toNat a0) (Int.toNat a0) = some Ordering.eq) = true := by simpa using c4))
    (try (have c4b2 : (FloatKind.f64.format.order (Int.toNat a0) (Int.toNat a0) == some Ordering.eq) = true := by simpa using c4))
    clear c4
    obtain ⟨t435, A5, H⟩ := bd H
    by_cases c6 : t435 = true
    ·subst c6
     rw [if_pos rfl] at H
     obtain rfl := Option.some.inj H
     go_wp2_with (first | (refine gl (some 20) Tryz.func58 #[.float .f64 (Int.toNat a0), .int .i64 0] ?_; (with_reducible refine (math_IsInf.calls (Int.toNat a0) 0 true _ A5.out).mono ?_); rintro e w' ⟨rfl, ⟨nd, rfl⟩⟩; refine ⟨_, rfl, ?_⟩))
     go_ret
     exact ⟨by first | rfl | (simp; done) | (simp [*]; done), by repeat (first | exact Drawn0.refl _ | apply Drawn0.step)⟩
    ·replace c6 := Bool.eq_false_iff.mpr c6
     subst c6
     rw [if_neg Bool.false_ne_true] at H
     obtain ⟨t436, A7, H⟩ := bd H
     obtain ⟨⟨t437, t438⟩, A8, H⟩ := bd H
     (try dsimp only at H)
     obtain ⟨t439, A9, H⟩ := bd H
     by_cases c10 : inU64 t439 = true
     ·rw [if_pos c10] at H
      have c10b0 := eq_true c10
      have c10b1 := decide_eq_true c10
      clear c10
      obtain ⟨ji11, hji11⟩ : ∃ j_ : Int, (Int.tmod (wrap64 ((Int.tmod (wrap64 (t438 - 53)) 31) + 31)) 31) = j_ := ⟨_, rfl⟩
      replace H : (if 0 ≤ (ji11) then ((bits_Mul64.f (Int.tmod (f2i t439) 2147483647) (shl .u64 1 (ji11))).bind fun bt440 => ((bits_Rem64.f kj1 bt440.1 bt440.2 2147483647).bind fun t442 => (some (wrap64 (x4_1 * (wrap64 (t442))))))) else (none)) = some r := by first | (rw [hji11] at H; exact H) | (simp only [hji11] at H ⊢; exact H)
      (try rw [hji11] at A5)
      (try rw [hji11] at A7)
      (try rw [hji11] at A8)
      (try rw [hji11] at A9)
      by_cases c12 : 0 ≤ (ji11)
      ·rw [if_pos c12] at H
       have c12b0 := eq_true c12
       have c12b1 := decide_eq_true c12
       clear c12
       obtain ⟨ji13, hji13⟩ : ∃ j_ : Int, (shl .u64 1 (ji11)) = j_ := ⟨_, rfl⟩
       replace H : ((bits_Mul64.f (Int.tmod (f2i t439) 2147483647) (ji13)).bind fun bt440 => ((bits_Rem64.f kj1 bt440.1 bt440.2 2147483647).bind fun t442 => (some (wrap64 (x4_1 * (wrap64 (t442))))))) = some r := by first | (rw [hji13] at H; exact H) | (simp only [hji13] at H ⊢; exact H)
       (try rw [hji13] at A5)
       (try rw [hji13] at A7)
       (try rw [hji13] at A8)
       (try rw [hji13] at A9)
       have hji13_ : (IntKind.u64.wrap (1 * 2 ^ min (ji11).toNat 64)) = ji13 := hji13
       have hji13z : (ji11) ≤ 64 → (IntKind.u64.wrap (1 * 2 ^ (ji11).toNat)) = ji13 := shl_small hji13
       have hji13u : (IntKind.u64.wrap (2 ^ min (ji11).toNat 64)) = ji13 := by have h_ := hji13_; rw [Int.one_mul] at h_; exact h_
       have hji13v : (ji11) ≤ 64 → (IntKind.u64.wrap (2 ^ (ji11).toNat)) = ji13 := fun hle_ => by have h_ := hji13z hle_; rw [Int.one_mul] at h_; exact h_
       obtain ⟨⟨t440, t441⟩, A14, H⟩ := bd H
       (try dsimp only at H)
       obtain ⟨t442, A15, H⟩ := bd H
       obtain rfl := Option.some.inj H
       go_wp2_with (first | (refine gl (some 20) Tryz.func58 #[.float .f64 (Int.toNat a0), .int .i64 0] ?_; (with_reducible refine (math_IsInf.calls (Int.toNat a0) 0 false _ A5.out).mono ?_); rintro e w' ⟨rfl, ⟨nd, rfl⟩⟩; refine ⟨_, rfl, ?_⟩) | (refine gl (some 25) Tryz.func60 #[.float .f64 (Int.toNat a0)] ?_; (with_reducible refine (math_Abs.calls (Int.toNat a0) t436 _ A7.out).mono ?_); rintro e w' ⟨rfl, ⟨nd, rfl⟩⟩; refine ⟨_, rfl, ?_⟩) | (refine gl (some 26) Tryz.func59 #[.float .f64 t436] ?_; (with_reducible refine (math_Frexp.calls t436 t437 t438 _ A8.out).mono ?_); rintro e w' ⟨rfl, ⟨nd, rfl⟩⟩; refine ⟨_, rfl, ?_⟩) | (refine gl (some 30) Tryz.func61 #[.float .f64 t437, .int .i64 53] ?_; (with_reducible refine (math_Ldexp.calls t437 53 t439 _ A9.out).mono ?_); rintro e w' ⟨rfl, ⟨nd, rfl⟩⟩; refine ⟨_, rfl, ?_⟩) | ((with_reducible refine gate_callee (f := 62) rfl ?_); refine goesL_ (some 42) rfl rfl Tryz.func62 (by kernel_rfl) rfl #[.int .u64 (Int.tmod (f2i t439) 2147483647), .int .u64 ji13] rfl (by (try simp only [List.map_toArray, List.map_cons, List.map_nil]); first | done | (simp only [hji13]; rfl) | rfl | (simp only [List.length_drop, List.length_take]; rfl)) ?_; (with_reducible refine (bits_Mul64.calls (Int.tmod (f2i t439) 2147483647) ji13 t440 t441 _ A14.out).mono ?_); rintro e w' ⟨rfl, ⟨nd, rfl⟩⟩; refine ⟨_, rfl, ?_⟩) | (refine gl (some 48) Tryz.func63 #[.int .u64 t440, .int .u64 t441, .int .u64 2147483647] ?_; (with_reducible refine (bits_Rem64.calls kj1 t440 t441 2147483647 t442 _ A15.out).mono ?_); rintro e w' ⟨rfl, ⟨nd, rfl⟩⟩; refine ⟨_, rfl, ?_⟩))
       go_ret
       exact ⟨by first | rfl | (simp; done) | (simp only [← hji11, ← hji13] <;> (first | rfl | simp)) | (simp [*]; done), by repeat (first | exact Drawn0.refl _ | apply Drawn0.step)⟩
      ·rw [if_neg c12] at H
       exact absurd H (by simp)
     ·rw [if_neg c10] at H
      exact absurd H (by simp)
def real_HashBig.l0 : Nat → Int → Int → Bool → List Int → Option (Int)
 | 0, _, _, _, _ => none
 | k + 1, x3, x4, x444000, x444001 => if x4 ≥ 0 then ((bits_Mul64.f x3 1000000000000000000).bind fun bt445 => (if 0 ≤ x4 then (if x4 < (x444001.length : Int) then ((bits_Rem64.f k (IntKind.u64.wrap (bt445.1 + (add64c bt445.2 (rd x444001 x4)))) (add64s bt445.2 (rd x444001 x4)) 2147483647).bind fun t448 => (real_HashBig.l0 k t448 (wrap64 (x4 - 1)) x444000 x444001)) else (none)) else (none))) else (if x444000 = true then (some (wrap64 (-(wrap64 (x3))))) else (some (wrap64 (x3))))
def real_HashBig.f (k : Nat) (a0_0 : Bool) (l0_1 : List Int) : Option (Int) := (whole_Good.f k a0_0 l0_1).bind fun t444 => (if t444 = true then (real_HashBig.l0 k 0 (wrap64 ((l0_1.length : Int) - 1)) a0_0 l0_1) else (some 0))
theorem real_HashBig.mono_l : ∀ k, (∀ y0 y1 y2 y3, LeO (real_HashBig.l0 k y0 y1 y2 y3) (real_HashBig.l0 (k + 1) y0 y1 y2 y3))
 | 0 => fun _ _ _ _ r h => by simp [real_HashBig.l0] at h
 | k + 1 => by
  have ih0 := real_HashBig.mono_l k
  ·intro y0 y1 y2 y3
   unfold real_HashBig.l0
   repeat' first
   | (with_reducible exact ih0 _ _ _ _)
   | (with_reducible exact bits_Rem64.mono _ _ _ _)
   | (with_reducible exact whole_Good.mono _ _ _)
   | (with_reducible exact LeO.refl _)
   | (with_reducible exact LeO.none _)
   | (with_reducible refine LeO.ite ?_ ?_)
   | (with_reducible refine LeO.bind ?_ (fun _ => ?_))
   | exact ih0 _ _ _ _
   | exact bits_Rem64.mono _ _ _ _
   | exact whole_Good.mono _ _ _
   | exact LeO.none _
   | refine LeO.ite ?_ ?_
   | refine LeO.bind ?_ (fun _ => ?_)
theorem real_HashBig.mono : ∀ a0 a1 k, LeO (real_HashBig.f k a0 a1) (real_HashBig.f (k + 1) a0 a1) := by
 intro a0 a1 k
 have ih0 := real_HashBig.mono_l k
 unfold real_HashBig.f
 repeat' first
   | (with_reducible exact ih0 _ _ _ _)
   | (with_reducible exact bits_Rem64.mono _ _ _ _)
   | (with_reducible exact whole_Good.mono _ _ _)
   | (with_reducible exact LeO.refl _)
   | (with_reducible exact LeO.none _)
   | (with_reducible refine LeO.ite ?_ ?_)
   | (with_reducible refine LeO.bind ?_ (fun _ => ?_))
   | exact ih0 _ _ _ _
   | exact bits_Rem64.mono _ _ _ _
   | exact whole_Good.mono _ _ _
   | exact LeO.none _
   | refine LeO.ite ?_ ?_
   | refine LeO.bind ?_ (fun _ => ?_)
set_option maxHeartbeats 8000000 in
set_option maxRecDepth 100000 in
theorem real_HashBig.calls (k : Nat) (a0_0 : Bool) (A0_1 : Option Addr) (c0_1 : Nat) (l0_1 : List Int) (r : Int) (w : World) (hr0_1 : Kd.C (Kd.int .u64) w A0_1 l0_1.length l0_1) (hc0_1 : l0_1.length ≤ c0_1) (h : real_HashBig.f k a0_0 l0_1 = some r) :
  Calls Tryz.prog 36 #[.agg #[.bool a0_0, .slice A0_1 l0_1.length c0_1]] w fun e w' => e = .returned (.int .i64 r) ∧ Below w.heap.size w w' := by
 have hu24 := Tryz.underlying24
 have HR0_1 := Az hr0_1
 have HC0_1 := Az hc0_1
 clear hr0_1 hc0_1
 have HB := Az (Below.refl w.heap.size w)
 have H := h
 unfold real_HashBig.f at H
 clear h
 obtain ⟨t444, A2, H⟩ := bd H
 by_cases c3 : t444 = true
 ·subst c3
  rw [if_pos rfl] at H
  have H' := Az H
  clear H
  go_enter Tryz.func36, Tryz.ntmps36
  go_wp2_with (first | (refine be 1 #[.bool a0_0, .slice A0_1 l0_1.length c0_1] 24 ?_; intro gb443 hg w4 hbox hb; have BK443 := Az (hbox); have GW443 := gw (bl HB) hg; have GE443 := gw (bl HB) hg; replace HB := Az (below_step (bl HB) hb); clear hb hbox hg; have hz5_1 := bz BK443) | (refine gl (some 9) Tryz.func47 #[.agg #[.bool a0_0, .slice A0_1 l0_1.length c0_1]] ?_; (with_reducible refine (whole_Good.calls k a0_0 _ _ l0_1 true _ (ck HR0_1 HB) HC0_1.out A2.out).mono ?_); rintro e w6 ⟨rfl, hb⟩; refine ⟨_, rfl, ?_⟩; replace BK443 := kb BK443 hb; replace HB := Az (below_step (bls HB) hb); (try clear hb); have hz7_1 := bz BK443))
  go_loopg [3, 4] k (fun kq v3 v4 w' => ∃ (x3_1 : Int) (x4_1 : Int), v3 = .int .u64 x3_1 ∧ v4 = .int .i64 x4_1 ∧ Aside0 (real_HashBig.l0 kq x3_1 x4_1 a0_0 l0_1 = some r) ∧ Aside0 (kq ≤ k) ∧ Aside0 (w'.heap[gb443]? = some (.cells #[.bool a0_0, (.slice A0_1 l0_1.length c0_1)] 24 (0, 0))) ∧ Aside0 (Below w.heap.size w w'))
  case atStart => exact ⟨(0), (wrap64 ((l0_1.length : Int) - 1)), rs, rs, H', ⟨Nat.le_refl _⟩, ⟨bk BK443⟩, ⟨bls HB⟩⟩
  case round =>
   clear H'
   obtain ⟨x3_1, x4_1, rfl, rfl, HA, HK1, BK443, HB⟩ := hrel
   cases gk with
   | zero => exact absurd HA.out (by simp [real_HashBig.l0])
   | succ k1 =>
    have H := HA.out
    clear HA
    simp only [real_HashBig.l0] at H
    by_cases c8 : x4_1 ≥ 0
    ·rw [if_pos c8] at H
     have c8b0 : decide (0 ≤ x4_1) = true := decide_eq_true c8
     clear c8
     obtain ⟨⟨t445, t446⟩, A9, H⟩ := bd H
     (try dsimp only at H)
     by_cases c10 : 0 ≤ x4_1
     ·rw [if_pos c10] at H
      have c10b0 := decide_eq_true c10
      clear c10
      by_cases c11 : x4_1 < (l0_1.length : Int)
      ·rw [if_pos c11] at H
       have c11b0 := decide_eq_true c11
       clear c11
       obtain ⟨t448, A12, H⟩ := bd H
       have H' := Az H
       clear H
       go_wp2_with (first | (refine gl (some 21) Tryz.func62 #[.int .u64 x3_1, .int .u64 1000000000000000000] ?_; (with_reducible refine (bits_Mul64.calls x3_1 1000000000000000000 t445 t446 _ A9.out).mono ?_); rintro e w' ⟨rfl, ⟨nd, rfl⟩⟩; refine ⟨_, rfl, ?_⟩; have hz13_1 := bz BK443; have p447 : 0 ≤ (x4_1 : Int) := ode; have q447 : x4_1 < (l0_1.length : Int) := ode; obtain ⟨ad447, e447, hx447_0⟩ := Kd.at_int HR0_1.out x4_1 p447 q447; cases e447; replace hx447_0 := (HB.out.cell (World.block_lt_of_cell? w _ hx447_0)).trans hx447_0; replace p447 := eq_true p447; replace q447 := eq_true q447) | (refine gl (some 38) Tryz.func63 #[.int .u64 (IntKind.u64.wrap (t445 + (add64c t446 (rd l0_1 x4_1)))), .int .u64 (add64s t446 (rd l0_1 x4_1)), .int .u64 2147483647] ?_; (with_reducible refine (bits_Rem64.calls k1 (IntKind.u64.wrap (t445 + (add64c t446 (rd l0_1 x4_1)))) (add64s t446 (rd l0_1 x4_1)) 2147483647 t448 _ A12.out).mono ?_); rintro e w' ⟨rfl, ⟨nd, rfl⟩⟩; refine ⟨_, rfl, ?_⟩))
       go_roundg k1
       case measure => have := HK1.out; omega
       case rel => exact ⟨(t448), (wrap64 (x4_1 - 1)), rs, rs, H', ⟨by have := HK1.out; omega⟩, ⟨bk BK443⟩, ⟨bls HB⟩⟩
      ·rw [if_neg c11] at H
       exact absurd H (by simp)
     ·rw [if_neg c10] at H
      exact absurd H (by simp)
    ·rw [if_neg c8] at H
     have c8b0 : decide (0 ≤ x4_1) = false := decide_eq_false c8
     clear c8
     by_cases c14 : a0_0 = true
     ·subst c14
      rw [if_pos rfl] at H
      obtain rfl := Option.some.inj H
      have hz15_1 := bz BK443
      go_wp2
      go_ret
      exact ⟨fe, bls HB⟩
     ·replace c14 := Bool.eq_false_iff.mpr c14
      subst c14
      rw [if_neg Bool.false_ne_true] at H
      obtain rfl := Option.some.inj H
      have hz16_1 := bz BK443
      go_wp2
      go_ret
      exact ⟨fe, bls HB⟩
 ·replace c3 := Bool.eq_false_iff.mpr c3
  subst c3
  rw [if_neg Bool.false_ne_true] at H
  obtain rfl := Option.some.inj H
  go_enter Tryz.func36, Tryz.ntmps36
  go_wp2_with (first | (refine be 1 #[.bool a0_0, .slice A0_1 l0_1.length c0_1] 24 ?_; intro gb443 hg w17 hbox hb; have BK443 := Az (hbox); have GW443 := gw (bl HB) hg; have GE443 := gw (bl HB) hg; replace HB := Az (below_step (bl HB) hb); clear hb hbox hg; have hz18_1 := bz BK443) | (refine gl (some 9) Tryz.func47 #[.agg #[.bool a0_0, .slice A0_1 l0_1.length c0_1]] ?_; (with_reducible refine (whole_Good.calls k a0_0 _ _ l0_1 false _ (ck HR0_1 HB) HC0_1.out A2.out).mono ?_); rintro e w19 ⟨rfl, hb⟩; refine ⟨_, rfl, ?_⟩; replace BK443 := kb BK443 hb; replace HB := Az (below_step (bls HB) hb); (try clear hb)))
  go_ret
  exact ⟨fe, bls HB⟩
def plain_Good.j0 : Nat → Bool → Int → Bool → Bool → List Int → Int → ByteArray → List (S28) → Option (Bool)
 | 0, _, _, _, _, _, _, _, _ => none
 | k + 1, x3, x105000, x105001, x105002, x105003, x105004, x105005, x105006 => if x105000 = 0 then (if x105001 = true then (some false) else (if x3 = true then (if x105004 = 0 then (some (x105005.toList == ([] : List UInt8))) else (some false)) else (some false))) else (if x105000 = 1 then (if x3 = true then (if x105004 = 0 then (some (x105005.toList == ([] : List UInt8))) else (some false)) else (some false)) else (if x105000 = 2 then ((whole_Good.f k x105002 x105003).bind fun t105 => (if t105 = true then (if x105001 = true then (some false) else (if x105004 = 0 then (some (x105005.toList == ([] : List UInt8))) else (some false))) else (some false))) else (if x105000 = 3 then (if x3 = true then (if x105001 = true then (some false) else (some (x105005.toList == ([] : List UInt8)))) else (some false)) else (if x105000 = 4 then (if x3 = true then (if x105001 = true then (some false) else (if x105004 = 0 then (some (decide ((x105005.size : Int) ≤ 20000))) else (some false))) else (some false)) else (some false)))))
def plain_Good.f (k : Nat) (a0_0 : Int) (a0_1 : Bool) (a0_2 : Bool) (l0_3 : List Int) (a0_4 : Int) (a0_5 : ByteArray) (l0_6 : List (S28)) : Option (Bool) := if (l0_6.length : Int) > 0 then (some false) else (if a0_2 = true then (plain_Good.j0 k false a0_0 a0_1 a0_2 l0_3 a0_4 a0_5 l0_6) else (plain_Good.j0 k ((l0_3.length : Int) == 0) a0_0 a0_1 a0_2 l0_3 a0_4 a0_5 l0_6))
theorem plain_Good.mono_l : ∀ k, (∀ y0 y1 y2 y3 y4 y5 y6 y7, LeO (plain_Good.j0 k y0 y1 y2 y3 y4 y5 y6 y7) (plain_Good.j0 (k + 1) y0 y1 y2 y3 y4 y5 y6 y7))
 | 0 => fun _ _ _ _ _ _ _ _ r h => by simp [plain_Good.j0] at h
 | k + 1 => by
  have ih0 := plain_Good.mono_l k
  ·intro y0 y1 y2 y3 y4 y5 y6 y7
   unfold plain_Good.j0
   repeat' first
   | (with_reducible exact ih0 _ _ _ _ _ _ _ _)
   | (with_reducible exact whole_Good.mono _ _ _)
   | (with_reducible exact LeO.refl _)
   | (with_reducible exact LeO.none _)
   | (with_reducible refine LeO.ite ?_ ?_)
   | (with_reducible refine LeO.bind ?_ (fun _ => ?_))
   | exact ih0 _ _ _ _ _ _ _ _
   | exact whole_Good.mono _ _ _
   | exact LeO.none _
   | refine LeO.ite ?_ ?_
   | refine LeO.bind ?_ (fun _ => ?_)
theorem plain_Good.mono : ∀ a0 a1 a2 a3 a4 a5 a6 k, LeO (plain_Good.f k a0 a1 a2 a3 a4 a5 a6) (plain_Good.f (k + 1) a0 a1 a2 a3 a4 a5 a6) := by
 intro a0 a1 a2 a3 a4 a5 a6 k
 have ih0 := plain_Good.mono_l k
 unfold plain_Good.f
 repeat' first
   | (with_reducible exact ih0 _ _ _ _ _ _ _ _)
   | (with_reducible exact whole_Good.mono _ _ _)
   | (with_reducible exact LeO.refl _)
   | (with_reducible exact LeO.none _)
   | (with_reducible refine LeO.ite ?_ ?_)
   | (with_reducible refine LeO.bind ?_ (fun _ => ?_))
   | exact ih0 _ _ _ _ _ _ _ _
   | exact whole_Good.mono _ _ _
   | exact LeO.none _
   | refine LeO.ite ?_ ?_
   | refine LeO.bind ?_ (fun _ => ?_)
set_option maxHeartbeats 8000000 in
set_option maxRecDepth 100000 in
theorem plain_Good.calls (k : Nat) (a0_0 : Int) (a0_1 : Bool) (a0_2 : Bool) (A0_3 : Option Addr) (c0_3 : Nat) (l0_3 : List Int) (a0_4 : Int) (a0_5 : ByteArray) (A0_6 : Option Addr) (c0_6 : Nat) (l0_6 : List (S28)) (r : Bool) (w : World) (hr0_3 : Kd.C (Kd.int .u64) w A0_3 l0_3.length l0_3) (hc0_3 : l0_3.length ≤ c0_3) (hr0_6 : Kd.C k28 w A0_6 l0_6.length l0_6) (hc0_6 : l0_6.length ≤ c0_6) (h : plain_Good.f k a0_0 a0_1 a0_2 l0_3 a0_4 a0_5 l0_6 = some r) :
  Calls Tryz.prog 25 #[.agg #[.int .i64 a0_0, .bool a0_1, .bool a0_2, .slice A0_3 l0_3.length c0_3, .int .u64 a0_4, .string a0_5, .slice A0_6 l0_6.length c0_6]] w fun e w' => e = .returned (.bool r) ∧ Below w.heap.size w w' := by
 have hu28 := Tryz.underlying28
 have hu24 := Tryz.underlying24
 have HR0_3 := Az hr0_3
 have HC0_3 := Az hc0_3
 clear hr0_3 hc0_3
 have HR0_6 := Az hr0_6
 have HC0_6 := Az hc0_6
 clear hr0_6 hc0_6
 have HB := Az (Below.refl w.heap.size w)
 have H := h
 unfold plain_Good.f at H
 clear h
 by_cases c2 : (l0_6.length : Int) > 0
 ·rw [if_pos c2] at H
  have c2b0 : decide (0 < (l0_6.length : Int)) = true := decide_eq_true c2
  have c2b1 : decide (0 < l0_6.length) = true := decide_eq_true (by omega)
  clear c2
  obtain rfl := Option.some.inj H
  go_enter Tryz.func25, Tryz.ntmps25
  go_wp2_with (first | ((try (refine gate_guard (by rfl) ?_; dsimp only)); refine be 1 #[.int .i64 a0_0, .bool a0_1, .bool a0_2, .slice A0_3 l0_3.length c0_3, .int .u64 a0_4, .string a0_5, .slice A0_6 l0_6.length c0_6] 28 ?_; intro gb104 hg w3 hbox hb; have BK104 := Az (hbox); have GW104 := gw (bl HB) hg; have GE104 := gw (bl HB) hg; replace HB := Az (below_step (bl HB) hb); clear hb hbox hg; have hz4_1 := bz BK104))
  go_ret
  exact ⟨fe, bls HB⟩
 ·rw [if_neg c2] at H
  have c2b0 : decide (0 < (l0_6.length : Int)) = false := decide_eq_false c2
  have c2b1 : decide (0 < l0_6.length) = false := decide_eq_false (by omega)
  clear c2
  have HC5 := Az H
  clear H
  go_enter Tryz.func25, Tryz.ntmps25
  go_upto_region 3 with (first | ((try (refine gate_guard (by rfl) ?_; dsimp only)); refine be 1 #[.int .i64 a0_0, .bool a0_1, .bool a0_2, .slice A0_3 l0_3.length c0_3, .int .u64 a0_4, .string a0_5, .slice A0_6 l0_6.length c0_6] 28 ?_; intro gb104 hg w6 hbox hb; have BK104 := Az (hbox); have GW104 := gw (bl HB) hg; have GE104 := gw (bl HB) hg; replace HB := Az (below_step (bl HB) hb); clear hb hbox hg; have hz7_1 := bz BK104))
  (try simp only [Act.put, List.setIfInBounds_toArray, List.set_cons_zero, List.set_cons_succ])
  go_cut [3] (fun v3 wc => ∃ (kq : Nat) (x3_4 : Bool), v3 = .bool x3_4 ∧ Aside0 (plain_Good.j0 kq x3_4 a0_0 a0_1 a0_2 l0_3 a0_4 a0_5 l0_6 = some r) ∧ Aside0 (kq ≤ k) ∧ Aside0 (wc.heap[gb104]? = some (.cells #[.int .i64 a0_0, .bool a0_1, .bool a0_2, (.slice A0_3 l0_3.length c0_3), .int .u64 a0_4, .string a0_5, (.slice A0_6 l0_6.length c0_6)] 28 (0, 0))) ∧ Aside0 (Below w.heap.size w wc))
  case first =>
   have H := HC5.out
   clear HC5
   by_cases c8 : a0_2 = true
   ·subst c8
    rw [if_pos rfl] at H
    have H' := Az H
    clear H
    have hz9_1 := bz BK104
    go_wp2
    go_meet
    case rel => exact ⟨_, (false), rs, H', ⟨le0⟩, ⟨bk BK104⟩, ⟨bls HB⟩⟩
   ·replace c8 := Bool.eq_false_iff.mpr c8
    subst c8
    rw [if_neg Bool.false_ne_true] at H
    have H' := Az H
    clear H
    have hz10_1 := bz BK104
    go_wp2
    go_meet
    case rel => exact ⟨_, (((l0_3.length : Int) == 0)), rs, H', ⟨le0⟩, ⟨bk BK104⟩, ⟨bls HB⟩⟩
  case rest =>
   clear HC5
   obtain ⟨kq, x3_4, rfl, HA, HJ4, BK104, HB⟩ := hcut
   cases kq with
   | zero => exact absurd HA.out (by simp [plain_Good.j0])
   | succ kj4 =>
    have H := HA.out
    clear HA
    simp only [plain_Good.j0] at H
    by_cases c11 : a0_0 = 0
    ·rw [if_pos c11] at H
     have c11b0 := beq_iff_eq.mpr c11
     have c11b1 := bne_eq_false_iff_eq.mpr c11
     clear c11
     by_cases c12 : a0_1 = true
     ·subst c12
      rw [if_pos rfl] at H
      obtain rfl := Option.some.inj H
      have hz13_1 := bz BK104
      go_wp2
      go_ret
      exact ⟨fe, bls HB⟩
     ·replace c12 := Bool.eq_false_iff.mpr c12
      subst c12
      rw [if_neg Bool.false_ne_true] at H
      by_cases c14 : x3_4 = true
      ·subst c14
       rw [if_pos rfl] at H
       by_cases c15 : a0_4 = 0
       ·rw [if_pos c15] at H
        have c15b0 := beq_iff_eq.mpr c15
        have c15b1 := bne_eq_false_iff_eq.mpr c15
        clear c15
        obtain rfl := Option.some.inj H
        have hz16_1 := bz BK104
        go_wp2
        go_ret
        exact ⟨fe, bls HB⟩
       ·rw [if_neg c15] at H
        have c15b0 := beq_eq_false_iff_ne.mpr c15
        have c15b1 := bne_iff_ne.mpr c15
        obtain rfl := Option.some.inj H
        have hz17_1 := bz BK104
        go_wp2
        go_ret
        exact ⟨fe, bls HB⟩
      ·replace c14 := Bool.eq_false_iff.mpr c14
       subst c14
       rw [if_neg Bool.false_ne_true] at H
       obtain rfl := Option.some.inj H
       have hz18_1 := bz BK104
       go_wp2
       go_ret
       exact ⟨fe, bls HB⟩
    ·rw [if_neg c11] at H
     have c11b0 := beq_eq_false_iff_ne.mpr c11
     have c11b1 := bne_iff_ne.mpr c11
     by_cases c19 : a0_0 = 1
     ·rw [if_pos c19] at H
      have c19b0 := beq_iff_eq.mpr c19
      have c19b1 := bne_eq_false_iff_eq.mpr c19
      clear c19
      by_cases c20 : x3_4 = true
      ·subst c20
       rw [if_pos rfl] at H
       by_cases c21 : a0_4 = 0
       ·rw [if_pos c21] at H
        have c21b0 := beq_iff_eq.mpr c21
        have c21b1 := bne_eq_false_iff_eq.mpr c21
        clear c21
        obtain rfl := Option.some.inj H
        have hz22_1 := bz BK104
        go_wp2
        go_ret
        exact ⟨fe, bls HB⟩
       ·rw [if_neg c21] at H
        have c21b0 := beq_eq_false_iff_ne.mpr c21
        have c21b1 := bne_iff_ne.mpr c21
        obtain rfl := Option.some.inj H
        have hz23_1 := bz BK104
        go_wp2
        go_ret
        exact ⟨fe, bls HB⟩
      ·replace c20 := Bool.eq_false_iff.mpr c20
       subst c20
       rw [if_neg Bool.false_ne_true] at H
       obtain rfl := Option.some.inj H
       have hz24_1 := bz BK104
       go_wp2
       go_ret
       exact ⟨fe, bls HB⟩
     ·rw [if_neg c19] at H
      have c19b0 := beq_eq_false_iff_ne.mpr c19
      have c19b1 := bne_iff_ne.mpr c19
      by_cases c25 : a0_0 = 2
      ·rw [if_pos c25] at H
       have c25b0 := beq_iff_eq.mpr c25
       have c25b1 := bne_eq_false_iff_eq.mpr c25
       clear c25
       obtain ⟨t105, A26, H⟩ := bd H
       by_cases c27 : t105 = true
       ·subst c27
        rw [if_pos rfl] at H
        by_cases c28 : a0_1 = true
        ·subst c28
         rw [if_pos rfl] at H
         obtain rfl := Option.some.inj H
         have hz29_1 := bz BK104
         go_wp2_with (first | (refine gl (some 56) Tryz.func47 #[.agg #[.bool a0_2, .slice A0_3 l0_3.length c0_3]] ?_; (with_reducible refine (whole_Good.calls kj4 a0_2 _ _ l0_3 true _ (ck HR0_3 HB) HC0_3.out A26.out).mono ?_); rintro e w30 ⟨rfl, hb⟩; refine ⟨_, rfl, ?_⟩; replace BK104 := kb BK104 hb; replace HB := Az (below_step (bls HB) hb); (try clear hb); have hz31_1 := bz BK104))
         go_ret
         exact ⟨fe, bls HB⟩
        ·replace c28 := Bool.eq_false_iff.mpr c28
         subst c28
         rw [if_neg Bool.false_ne_true] at H
         by_cases c32 : a0_4 = 0
         ·rw [if_pos c32] at H
          have c32b0 := beq_iff_eq.mpr c32
          have c32b1 := bne_eq_false_iff_eq.mpr c32
          clear c32
          obtain rfl := Option.some.inj H
          have hz33_1 := bz BK104
          go_wp2_with (first | (refine gl (some 56) Tryz.func47 #[.agg #[.bool a0_2, .slice A0_3 l0_3.length c0_3]] ?_; (with_reducible refine (whole_Good.calls kj4 a0_2 _ _ l0_3 true _ (ck HR0_3 HB) HC0_3.out A26.out).mono ?_); rintro e w34 ⟨rfl, hb⟩; refine ⟨_, rfl, ?_⟩; replace BK104 := kb BK104 hb; replace HB := Az (below_step (bls HB) hb); (try clear hb); have hz35_1 := bz BK104))
          go_ret
          exact ⟨fe, bls HB⟩
         ·rw [if_neg c32] at H
          have c32b0 := beq_eq_false_iff_ne.mpr c32
          have c32b1 := bne_iff_ne.mpr c32
          obtain rfl := Option.some.inj H
          have hz36_1 := bz BK104
          go_wp2_with (first | (refine gl (some 56) Tryz.func47 #[.agg #[.bool a0_2, .slice A0_3 l0_3.length c0_3]] ?_; (with_reducible refine (whole_Good.calls kj4 a0_2 _ _ l0_3 true _ (ck HR0_3 HB) HC0_3.out A26.out).mono ?_); rintro e w37 ⟨rfl, hb⟩; refine ⟨_, rfl, ?_⟩; replace BK104 := kb BK104 hb; replace HB := Az (below_step (bls HB) hb); (try clear hb); (try clear hb2); (try clear hk); (try clear hi); have hz38_1 := bz BK104))
          go_ret
          exact ⟨fe, bls HB⟩
       ·replace c27 := Bool.eq_false_iff.mpr c27
        subst c27
        rw [if_neg Bool.false_ne_true] at H
        obtain rfl := Option.some.inj H
        have hz39_1 := bz BK104
        go_wp2_with (first | (refine gl (some 56) Tryz.func47 #[.agg #[.bool a0_2, .slice A0_3 l0_3.length c0_3]] ?_; (with_reducible refine (whole_Good.calls kj4 a0_2 _ _ l0_3 false _ (ck HR0_3 HB) HC0_3.out A26.out).mono ?_); rintro e w40 ⟨rfl, hb⟩; refine ⟨_, rfl, ?_⟩; replace BK104 := kb BK104 hb; replace HB := Az (below_step (bls HB) hb); (try clear hb); (try clear hb2); (try clear hk); (try clear hi)))
        go_ret
        exact ⟨fe, bls HB⟩
      ·rw [if_neg c25] at H
       have c25b0 := beq_eq_false_iff_ne.mpr c25
       have c25b1 := bne_iff_ne.mpr c25
       by_cases c41 : a0_0 = 3
       ·rw [if_pos c41] at H
        have c41b0 := beq_iff_eq.mpr c41
        have c41b1 := bne_eq_false_iff_eq.mpr c41
        clear c41
        by_cases c42 : x3_4 = true
        ·subst c42
         rw [if_pos rfl] at H
         by_cases c43 : a0_1 = true
         ·subst c43
          rw [if_pos rfl] at H
          obtain rfl := Option.some.inj H
          have hz44_1 := bz BK104
          go_wp2
          go_ret
          exact ⟨fe, bls HB⟩
         ·replace c43 := Bool.eq_false_iff.mpr c43
          subst c43
          rw [if_neg Bool.false_ne_true] at H
          obtain rfl := Option.some.inj H
          have hz45_1 := bz BK104
          go_wp2
          go_ret
          exact ⟨fe, bls HB⟩
        ·replace c42 := Bool.eq_false_iff.mpr c42
         subst c42
         rw [if_neg Bool.false_ne_true] at H
         obtain rfl := Option.some.inj H
         have hz46_1 := bz BK104
         go_wp2
         go_ret
         exact ⟨fe, bls HB⟩
       ·rw [if_neg c41] at H
        have c41b0 := beq_eq_false_iff_ne.mpr c41
        have c41b1 := bne_iff_ne.mpr c41
        by_cases c47 : a0_0 = 4
        ·rw [if_pos c47] at H
         have c47b0 := beq_iff_eq.mpr c47
         have c47b1 := bne_eq_false_iff_eq.mpr c47
         clear c47
         by_cases c48 : x3_4 = true
         ·subst c48
          rw [if_pos rfl] at H
          by_cases c49 : a0_1 = true
          ·subst c49
           rw [if_pos rfl] at H
           obtain rfl := Option.some.inj H
           have hz50_1 := bz BK104
           go_wp2
           go_ret
           exact ⟨fe, bls HB⟩
          ·replace c49 := Bool.eq_false_iff.mpr c49
           subst c49
           rw [if_neg Bool.false_ne_true] at H
           by_cases c51 : a0_4 = 0
           ·rw [if_pos c51] at H
            have c51b0 := beq_iff_eq.mpr c51
            have c51b1 := bne_eq_false_iff_eq.mpr c51
            clear c51
            obtain rfl := Option.some.inj H
            have hz52_1 := bz BK104
            go_wp2
            go_ret
            exact ⟨fe, bls HB⟩
           ·rw [if_neg c51] at H
            have c51b0 := beq_eq_false_iff_ne.mpr c51
            have c51b1 := bne_iff_ne.mpr c51
            obtain rfl := Option.some.inj H
            have hz53_1 := bz BK104
            go_wp2
            go_ret
            exact ⟨fe, bls HB⟩
         ·replace c48 := Bool.eq_false_iff.mpr c48
          subst c48
          rw [if_neg Bool.false_ne_true] at H
          obtain rfl := Option.some.inj H
          have hz54_1 := bz BK104
          go_wp2
          go_ret
          exact ⟨fe, bls HB⟩
        ·rw [if_neg c47] at H
         have c47b0 := beq_eq_false_iff_ne.mpr c47
         have c47b1 := bne_iff_ne.mpr c47
         obtain rfl := Option.some.inj H
         have hz55_1 := bz BK104
         go_wp2
         go_ret
         exact ⟨fe, bls HB⟩
def plain_count.f (a0_0 : Int) (a0_1 : Bool) (a0_2 : Bool) (l0_3 : List Int) (a0_4 : Int) (a0_5 : ByteArray) (l0_6 : List (S28)) : Option (Bool × List Int) := if a0_0 = 1 then (if a0_1 = true then ((whole_Of.f 1).bind fun bt134 => (some (bt134.1, bt134.2))) else (some (false, ([] : List Int)))) else (some (a0_2, l0_3))
set_option maxHeartbeats 8000000 in
set_option maxRecDepth 100000 in
theorem plain_count.calls (a0_0 : Int) (a0_1 : Bool) (a0_2 : Bool) (P0_3_ : Nat → Prop) (A0_3 : Option Addr) (c0_3 : Nat) (l0_3 : List Int) (a0_4 : Int) (a0_5 : ByteArray) (A0_6 : Option Addr) (c0_6 : Nat) (l0_6 : List (S28)) (r1 : Bool) (r2 : List Int) (w : World) (hs0_3 : Kd.V (Kd.int .u64) 25 w w.heap.size (fun k_ => P0_3_ k_) (.slice A0_3 l0_3.length c0_3) l0_3) (hr0_6 : Kd.C k28 w A0_6 l0_6.length l0_6) (hc0_6 : l0_6.length ≤ c0_6) (h : plain_count.f a0_0 a0_1 a0_2 l0_3 a0_4 a0_5 l0_6 = some (r1, r2)) :
  Calls Tryz.prog 37 #[.agg #[.int .i64 a0_0, .bool a0_1, .bool a0_2, .slice A0_3 l0_3.length c0_3, .int .u64 a0_4, .string a0_5, .slice A0_6 l0_6.length c0_6]] w fun e w' => ∃ v1_ : Value, e = .returned (.agg #[.bool r1, v1_]) ∧ Kd.V (Kd.int .u64) 25 w' w.heap.size (fun k_ => (P0_3_ k_ ∨ w.heap.size ≤ k_)) v1_ r2 ∧ Below w.heap.size w w' := by
 have hu28 := Tryz.underlying28
 have hu24 := Tryz.underlying24
 have HO0_3 := Az (show Kd.V (Kd.int .u64) 25 w w.heap.size (fun k_ => (P0_3_ k_ ∨ w.heap.size ≤ k_)) (.slice A0_3 l0_3.length c0_3) l0_3 from Kd.V_mono hs0_3 (fun k_ hk => .inl hk))
 have HR0_6 := Az hr0_6
 have HC0_6 := Az hc0_6
 clear hr0_6 hc0_6
 have HB := Az (Below.refl w.heap.size w)
 have H := h
 unfold plain_count.f at H
 clear h
 by_cases c2 : a0_0 = 1
 ·rw [if_pos c2] at H
  have c2b0 := beq_iff_eq.mpr c2
  have c2b1 := bne_eq_false_iff_eq.mpr c2
  clear c2
  by_cases c3 : a0_1 = true
  ·subst c3
   rw [if_pos rfl] at H
   obtain ⟨⟨t134, t135⟩, A4, H⟩ := bd H
   (try dsimp only at H)
   simp only [Option.some.injEq, Prod.mk.injEq] at H
   obtain ⟨rfl, rfl⟩ := H
   go_enter Tryz.func37, Tryz.ntmps37
   go_wp2_with (first | (refine be 1 #[.int .i64 a0_0, .bool true, .bool a0_2, .slice A0_3 l0_3.length c0_3, .int .u64 a0_4, .string a0_5, .slice A0_6 l0_6.length c0_6] 28 ?_; intro gb132 hg w5 hbox hb; replace HO0_3 := Az (Kd.V_below (Kd.V_elderB (vk HO0_3) gb132 (Nat.le_of_eq hg.symm)) hb); have BK132 := Az (hbox); have GW132 := gw (bl HB) hg; have GE132 := gw (bl HB) hg; replace HB := Az (below_step (bl HB) hb); clear hb hbox hg) | (refine be 2 #[.bool false, .slice none 0 0] 24 ?_; intro gb133 hg w6 hbox hb; replace HO0_3 := Az (Kd.V_below (Kd.V_elderB (vk HO0_3) gb133 (Nat.le_of_eq hg.symm)) hb); have BK133 := Az (hbox); have GW133 := gw (bls HB) hg; have GE133 := gw (bls HB) hg; replace HB := Az (below_step (bls HB) hb); have NB132_133 := nl BK132 hg; have NB133_132 := ng BK132 hg; replace BK132 := kb BK132 hb; clear hb hbox hg; have hnb7 := NB132_133.out; have hnc7 := NB133_132.out; have hz8_1 := bz BK132) | (refine gl (some 8) Tryz.func65 #[.int .i64 1] ?_; (with_reducible refine (whole_Of.calls 1 t134 t135 _ A4.out).mono ?_); rintro e w9 ⟨v136, rfl, ho0, hb⟩; refine ⟨_, rfl, ?_⟩; replace HO0_3 := Az (Kd.V_elder' (vk HO0_3) (Kd.R_base ho0) hb); have HO137 := Az (Kd.R_lower (Kd.R_newM (M := fun k_ => (w.heap.size ≤ k_)) ho0 (below_size (bls HB)) (fun k_ h_ => h_)) (below_size (bls HB))); replace BK132 := kb BK132 hb; replace BK133 := kb BK133 hb; replace HB := Az (below_step (bls HB) hb); (try clear hb); (try clear hk); (try clear ho0); have hz10_1 := bz BK133; obtain ⟨Ao11, co11, eo11⟩ := Kd.R_slice HO137.out; subst eo11))
   refine bodyPost_ret (results_cell_row rfl _ _ gb133 24 #[.bool t134, .slice Ao11 t135.length co11] (0, 0) _ rfl (by (with_reducible repeat (first | refine blk_drewN ?_ _ | refine blk_drew ?_ | refine blk_alloc ?_ _)); refine blk_put (cs := #[.bool t134, .slice none 0 0]) ?_ 1 _ rfl; (with_reducible repeat (first | refine blk_drewN ?_ _ | refine blk_drew ?_ | refine blk_alloc ?_ _)); refine blk_put (cs := #[.bool false, .slice none 0 0]) ?_ 0 _ rfl; (with_reducible repeat (first | refine blk_drewN ?_ _ | refine blk_drew ?_ | refine blk_alloc ?_ _)); exact BK133.out) Tryz.underlying24 rfl (by kernel_rfl)) rfl ?_
   exact ⟨_, fe, Kd.V_mono (Kd.R_V (rt (Kd.R_mono (Kd.R_far (p := ⟨gb133, 1, none⟩) (Kd.R_far (p := ⟨gb133, 0, none⟩) (Kd.R_types HO137.out BK133.out (by decide)) (fun _ hk => hk.2) (.bool t134)) (fun _ hk => hk.2) (.slice Ao11 t135.length co11)) (fun _ hk => hk.1.1)))) (fun k_ hk => by first | exact ⟨(.inr (hk.1)), hk.2⟩ | exact (.inr (hk))), bls HB⟩
  ·replace c3 := Bool.eq_false_iff.mpr c3
   subst c3
   rw [if_neg Bool.false_ne_true] at H
   simp only [Option.some.injEq, Prod.mk.injEq] at H
   obtain ⟨rfl, rfl⟩ := H
   go_enter Tryz.func37, Tryz.ntmps37
   go_wp2_with (first | (refine be 1 #[.int .i64 a0_0, .bool false, .bool a0_2, .slice A0_3 l0_3.length c0_3, .int .u64 a0_4, .string a0_5, .slice A0_6 l0_6.length c0_6] 28 ?_; intro gb132 hg w12 hbox hb; replace HO0_3 := Az (Kd.V_below (Kd.V_elderB (vk HO0_3) gb132 (Nat.le_of_eq hg.symm)) hb); have BK132 := Az (hbox); have GW132 := gw (bl HB) hg; have GE132 := gw (bl HB) hg; replace HB := Az (below_step (bl HB) hb); clear hb hbox hg) | (refine be 2 #[.bool false, .slice none 0 0] 24 ?_; intro gb133 hg w13 hbox hb; replace HO0_3 := Az (Kd.V_below (Kd.V_elderB (vk HO0_3) gb133 (Nat.le_of_eq hg.symm)) hb); have BK133 := Az (hbox); have GW133 := gw (bls HB) hg; have GE133 := gw (bls HB) hg; replace HB := Az (below_step (bls HB) hb); have NB132_133 := nl BK132 hg; have NB133_132 := ng BK132 hg; replace BK132 := kb BK132 hb; clear hb hbox hg; have hnb14 := NB132_133.out; have hnc14 := NB133_132.out; have hz15_1 := bz BK132; have hz16_2 := bz BK133))
   refine bodyPost_ret (results_cell_row rfl _ _ gb133 24 #[.bool false, .slice none 0 0] (0, 0) _ rfl (by (with_reducible repeat (first | refine blk_drewN ?_ _ | refine blk_drew ?_ | refine blk_alloc ?_ _)); refine blk_put (cs := #[.bool false, .slice none 0 0]) ?_ 1 _ rfl; (with_reducible repeat (first | refine blk_drewN ?_ _ | refine blk_drew ?_ | refine blk_alloc ?_ _)); refine blk_put (cs := #[.bool false, .slice none 0 0]) ?_ 0 _ rfl; (with_reducible repeat (first | refine blk_drewN ?_ _ | refine blk_drew ?_ | refine blk_alloc ?_ _)); exact BK133.out) Tryz.underlying24 rfl (by kernel_rfl)) rfl ?_
   exact ⟨_, fe, Kd.V_nil _ _ _ _ _, bls HB⟩
 ·rw [if_neg c2] at H
  have c2b0 := beq_eq_false_iff_ne.mpr c2
  have c2b1 := bne_iff_ne.mpr c2
  simp only [Option.some.injEq, Prod.mk.injEq] at H
  obtain ⟨rfl, rfl⟩ := H
  go_enter Tryz.func37, Tryz.ntmps37
  go_wp2_with (first | (refine be 1 #[.int .i64 a0_0, .bool a0_1, .bool a0_2, .slice A0_3 l0_3.length c0_3, .int .u64 a0_4, .string a0_5, .slice A0_6 l0_6.length c0_6] 28 ?_; intro gb132 hg w17 hbox hb; replace HO0_3 := Az (Kd.V_below (Kd.V_elderB (vk HO0_3) gb132 (Nat.le_of_eq hg.symm)) hb); have BK132 := Az (hbox); have GW132 := gw (bl HB) hg; have GE132 := gw (bl HB) hg; replace HB := Az (below_step (bl HB) hb); clear hb hbox hg) | (refine be 2 #[.bool false, .slice none 0 0] 24 ?_; intro gb133 hg w18 hbox hb; replace HO0_3 := Az (Kd.V_below (Kd.V_elderB (vk HO0_3) gb133 (Nat.le_of_eq hg.symm)) hb); have BK133 := Az (hbox); have GW133 := gw (bls HB) hg; have GE133 := gw (bls HB) hg; replace HB := Az (below_step (bls HB) hb); have NB132_133 := nl BK132 hg; have NB133_132 := ng BK132 hg; replace BK132 := kb BK132 hb; clear hb hbox hg; have hnb19 := NB132_133.out; have hnc19 := NB133_132.out; have hz20_1 := bz BK132; have hz21_2 := bz BK133))
  refine bodyPost_ret (results_cell_row rfl _ _ gb133 24 #[.bool a0_2, .slice A0_3 l0_3.length c0_3] (0, 0) _ rfl (by (with_reducible repeat (first | refine blk_drewN ?_ _ | refine blk_drew ?_ | refine blk_alloc ?_ _)); refine blk_put (cs := #[.bool a0_2, .slice none 0 0]) ?_ 1 _ rfl; (with_reducible repeat (first | refine blk_drewN ?_ _ | refine blk_drew ?_ | refine blk_alloc ?_ _)); refine blk_put (cs := #[.bool false, .slice none 0 0]) ?_ 0 _ rfl; (with_reducible repeat (first | refine blk_drewN ?_ _ | refine blk_drew ?_ | refine blk_alloc ?_ _)); exact BK133.out) Tryz.underlying24 rfl (by kernel_rfl)) rfl ?_
  exact ⟨_, fe, vt (Kd.V_mono (Kd.V_far (p := ⟨gb133, 1, none⟩) (Kd.V_far (p := ⟨gb133, 0, none⟩) (Kd.V_mono HO0_3.out (fun k_ hk => (⟨hk, hk.2⟩ : _ ∧ k_ ≠ gb133))) (fun _ hk => hk.2) (.bool a0_2)) (fun _ hk => hk.2) (.slice A0_3 l0_3.length c0_3)) (fun _ hk => hk.1.1.1)), bls HB⟩
def plain_Hash.f (k : Nat) (a0_0 : Int) (a0_1 : Bool) (a0_2 : Bool) (l0_3 : List Int) (a0_4 : Int) (a0_5 : ByteArray) (l0_6 : List (S28)) : Option (Int) := (plain_Good.f k a0_0 a0_1 a0_2 l0_3 a0_4 a0_5 l0_6).bind fun t450 => (if t450 = true then (if a0_0 = 0 then (some 1) else (if a0_0 = 3 then ((real_Hash.f k a0_4).bind fun t451 => (some t451)) else (if a0_0 = 4 then (some (strH a0_5.data.toList a0_5.size)) else ((plain_count.f a0_0 a0_1 a0_2 l0_3 a0_4 a0_5 l0_6).bind fun bt452 => ((real_HashBig.f k bt452.1 bt452.2).bind fun t456 => (some t456)))))) else (some 0))
theorem plain_Hash.mono : ∀ a0 a1 a2 a3 a4 a5 a6 k, LeO (plain_Hash.f k a0 a1 a2 a3 a4 a5 a6) (plain_Hash.f (k + 1) a0 a1 a2 a3 a4 a5 a6) := by
 intro a0 a1 a2 a3 a4 a5 a6 k
 unfold plain_Hash.f
 repeat' first
   | (with_reducible exact plain_Good.mono _ _ _ _ _ _ _ _)
   | (with_reducible exact real_Hash.mono _ _)
   | (with_reducible exact real_HashBig.mono _ _ _)
   | (with_reducible exact LeO.refl _)
   | (with_reducible exact LeO.none _)
   | (with_reducible refine LeO.ite ?_ ?_)
   | (with_reducible refine LeO.bind ?_ (fun _ => ?_))
   | exact plain_Good.mono _ _ _ _ _ _ _ _
   | exact real_Hash.mono _ _
   | exact real_HashBig.mono _ _ _
   | exact LeO.none _
   | refine LeO.ite ?_ ?_
   | refine LeO.bind ?_ (fun _ => ?_)
set_option maxHeartbeats 8000000 in
set_option maxRecDepth 100000 in
theorem plain_Hash.str (k : Nat) (a0_0 : Int) (a0_1 : Bool) (a0_2 : Bool) (A0_3 : Option Addr) (c0_3 : Nat) (l0_3 : List Int) (a0_4 : Int) (a0_5 : ByteArray) (A0_6 : Option Addr) (c0_6 : Nat) (l0_6 : List (S28)) (r : Int) (w : World) (HR0_3 : Aside0 (Kd.C (Kd.int .u64) w A0_3 l0_3.length l0_3)) (HC0_3 : Aside0 (l0_3.length ≤ c0_3)) (HR0_6 : Aside0 (Kd.C k28 w A0_6 l0_6.length l0_6)) (HC0_6 : Aside0 (l0_6.length ≤ c0_6))
  (A2 : Aside0 (plain_Good.f k a0_0 a0_1 a0_2 l0_3 a0_4 a0_5 l0_6 = some true)) (h4 : a0_0 = 4) (H : some (strH a0_5.data.toList a0_5.size) = some r) :
  Calls Tryz.prog 13 #[.agg #[.int .i64 a0_0, .bool a0_1, .bool a0_2, .slice A0_3 l0_3.length c0_3, .int .u64 a0_4, .string a0_5, .slice A0_6 l0_6.length c0_6]] w fun e w' => e = .returned (.int .i64 r) ∧ Below w.heap.size w w' := by
 have hsz : a0_5.size ≤ 20000 := by
  have hg := A2.out
  rw [h4] at hg
  unfold plain_Good.f at hg
  cases k with
  | zero => split at hg <;> (try split at hg) <;> simp_all [plain_Good.j0]
  | succ k =>
   have key : ∀ x3, plain_Good.j0 (k + 1) x3 4 a0_1 a0_2 l0_3 a0_4 a0_5 l0_6 = some true → a0_5.size ≤ 20000 := by
    intro x3 hj
    simp only [plain_Good.j0] at hj
    rw [if_neg (by decide), if_neg (by decide), if_neg (by decide), if_neg (by decide), if_pos trivial] at hj
    split at hj
    ·split at hj
     ·simp at hj
     ·split at hj
      ·have := Option.some.inj hj
       have := of_decide_eq_true this
       omega
      ·simp at hj
    ·simp at hj
   split at hg
   ·simp at hg
   ·split at hg
    ·exact key _ hg
    ·exact key _ hg
 subst h4
 have HB := Az (Below.refl w.heap.size w)
 obtain rfl := Option.some.inj H
 clear H
 have HS : Aside0 (a0_5.size ≤ 20000) := ⟨hsz⟩
 clear hsz
 have kb_ := fun W => print_bytes (P := Tryz.prog) 9 43 5 Tryz.underlying9 Tryz.underlying43 Tryz.underlying5 a0_5 W
 go_enter Tryz.func13, Tryz.ntmps13
 go_wp2_with (first | (refine be 1 #[.int .i64 4, .bool a0_1, .bool a0_2, .slice A0_3 l0_3.length c0_3, .int .u64 a0_4, .string a0_5, .slice A0_6 l0_6.length c0_6] 28 ?_; intro gb449 hg w5 hbox hb; have BK449 := Az (hbox); have GW449 := gw (bl HB) hg; replace HB := Az (below_step (bl HB) hb); clear hb hbox hg; have hz6_1 := bz BK449) | (refine gl (some 7) Tryz.func25 #[.agg #[.int .i64 4, .bool a0_1, .bool a0_2, .slice A0_3 l0_3.length c0_3, .int .u64 a0_4, .string a0_5, .slice A0_6 l0_6.length c0_6]] ?_; (with_reducible refine (plain_Good.calls k 4 a0_1 a0_2 _ _ l0_3 a0_4 a0_5 _ _ l0_6 true _ (ck HR0_3 HB) HC0_3.out (ck HR0_6 HB) HC0_6.out A2.out).mono ?_); rintro e w7 ⟨rfl, hb⟩; refine ⟨_, rfl, ?_⟩; replace BK449 := kb BK449 hb; replace HB := Az (below_step (bls HB) hb); (try clear hb); have hz8_1 := bz BK449))
 obtain ⟨W1, hW1⟩ : ∃ W1, W1 = Lib.bytesWorld w7 5 a0_5 := ⟨_, rfl⟩
 have HBW : Aside0 (Below w.heap.size w W1) := ⟨by rw [hW1]; exact bytes_below HB.out (below_size HB.out) 5 a0_5⟩
 have HC : Aside0 (∀ j, j < a0_5.size → W1.cell? ⟨w7.heap.size, j, none⟩ = some (.int .u8 (a0_5.data.toList.getD j 0).toNat)) := ⟨fun j hj => by rw [hW1]; exact Lib.bytesWorld_cell w7 5 a0_5 j hj⟩
 rw [← hW1]
 clear hW1 kb_ HB BK449 hz6_1 hz8_1
 generalize hn : a0_5.data.toList = L at *
 have HL : Aside0 (L.length = a0_5.size) := ⟨by rw [← hn]; simp⟩
 have HN : Aside0 (a0_5.data.toList = L) := ⟨hn⟩
 clear hn
 generalize hz : a0_5.size = n at *
 have HZ : Aside0 (a0_5.size = n) := ⟨hz⟩
 clear hz
 generalize w7.heap.size = g at *
 go_loop [3, 27] (fun h i => ∃ j : Nat, j ≤ n ∧ i = .int .i64 j ∧ h = .int .i64 (strH (L.take j) n)) (fun _ i => n - (intOf i).toNat)
 case atStart => exact ⟨0, Nat.zero_le _, rfl, rfl⟩
 case round =>
  obtain ⟨j, hj, rfl, rfl⟩ := hrel
  have hn2 := HS.out
  have bd := strH_bd (L.take j) n (by omega) (by omega)
  by_cases hlt : j < n
  ·have hx := HC.out j hlt
   have hs : Aside0 (strH (L.take (j + 1)) n = (31 * strH (L.take j) n + ((L.getD j 0).toNat : Int) + 1) % 2147483647) := ⟨strH_take L n j (by rw [HL.out]; exact hlt)⟩
   have c1 : (L.getD j 0).toNat ≤ 255 := by have := (L.getD j 0).toNat_lt; omega
   obtain ⟨b0, b1⟩ := bd
   generalize (L.getD j 0).toNat = cv at *
   generalize strH (L.take j) n = hv at *
   go_wp2
   go_round
   case rel => exact ⟨j + 1, by omega, by go_num, by rw [hs.out]⟩
   case measure => simp [intOf]; omega
  ·have hjn : j = n := by omega
   have HJ : Aside0 (strH (L.take j) n = strH L n) := ⟨by rw [List.take_of_length_le (by rw [HL.out]; omega)]⟩
   clear hjn
   go_wp2
   go_ret
   exact ⟨by rw [HN.out, HZ.out, HJ.out]; rfl, HBW.out⟩
set_option maxHeartbeats 8000000 in
set_option maxRecDepth 100000 in
theorem plain_Hash.calls (k : Nat) (a0_0 : Int) (a0_1 : Bool) (a0_2 : Bool) (A0_3 : Option Addr) (c0_3 : Nat) (l0_3 : List Int) (a0_4 : Int) (a0_5 : ByteArray) (A0_6 : Option Addr) (c0_6 : Nat) (l0_6 : List (S28)) (r : Int) (w : World) (hr0_3 : Kd.C (Kd.int .u64) w A0_3 l0_3.length l0_3) (hc0_3 : l0_3.length ≤ c0_3) (hr0_6 : Kd.C k28 w A0_6 l0_6.length l0_6) (hc0_6 : l0_6.length ≤ c0_6) (h : plain_Hash.f k a0_0 a0_1 a0_2 l0_3 a0_4 a0_5 l0_6 = some r) :
  Calls Tryz.prog 13 #[.agg #[.int .i64 a0_0, .bool a0_1, .bool a0_2, .slice A0_3 l0_3.length c0_3, .int .u64 a0_4, .string a0_5, .slice A0_6 l0_6.length c0_6]] w fun e w' => e = .returned (.int .i64 r) ∧ Below w.heap.size w w' := by
 have hu28 := Tryz.underlying28
 have HR0_3 := Az hr0_3
 have HC0_3 := Az hc0_3
 clear hr0_3 hc0_3
 have HR0_6 := Az hr0_6
 have HC0_6 := Az hc0_6
 clear hr0_6 hc0_6
 have HB := Az (Below.refl w.heap.size w)
 have H := h
 unfold plain_Hash.f at H
 clear h
 obtain ⟨t450, A2, H⟩ := bd H
 by_cases c3 : t450 = true
 ·subst c3
  rw [if_pos rfl] at H
  by_cases c4 : a0_0 = 0
  ·rw [if_pos c4] at H
   have c4b0 := beq_iff_eq.mpr c4
   have c4b1 := bne_eq_false_iff_eq.mpr c4
   clear c4
   obtain rfl := Option.some.inj H
   go_enter Tryz.func13, Tryz.ntmps13
   go_wp2_with (first | (refine be 1 #[.int .i64 a0_0, .bool a0_1, .bool a0_2, .slice A0_3 l0_3.length c0_3, .int .u64 a0_4, .string a0_5, .slice A0_6 l0_6.length c0_6] 28 ?_; intro gb449 hg w5 hbox hb; have BK449 := Az (hbox); have GW449 := gw (bl HB) hg; have GE449 := gw (bl HB) hg; replace HB := Az (below_step (bl HB) hb); clear hb hbox hg; have hz6_1 := bz BK449) | (refine gl (some 7) Tryz.func25 #[.agg #[.int .i64 a0_0, .bool a0_1, .bool a0_2, .slice A0_3 l0_3.length c0_3, .int .u64 a0_4, .string a0_5, .slice A0_6 l0_6.length c0_6]] ?_; (with_reducible refine (plain_Good.calls k a0_0 a0_1 a0_2 _ _ l0_3 a0_4 a0_5 _ _ l0_6 true _ (ck HR0_3 HB) HC0_3.out (ck HR0_6 HB) HC0_6.out A2.out).mono ?_); rintro e w7 ⟨rfl, hb⟩; refine ⟨_, rfl, ?_⟩; replace BK449 := kb BK449 hb; replace HB := Az (below_step (bls HB) hb); (try clear hb); have hz8_1 := bz BK449))
   go_ret
   exact ⟨fe, bls HB⟩
  ·rw [if_neg c4] at H
   have c4b0 := beq_eq_false_iff_ne.mpr c4
   have c4b1 := bne_iff_ne.mpr c4
   by_cases c9 : a0_0 = 3
   ·rw [if_pos c9] at H
    have c9b0 := beq_iff_eq.mpr c9
    have c9b1 := bne_eq_false_iff_eq.mpr c9
    clear c9
    obtain ⟨t451, A10, H⟩ := bd H
    obtain rfl := Option.some.inj H
    go_enter Tryz.func13, Tryz.ntmps13
    go_wp2_with (first | (refine be 1 #[.int .i64 a0_0, .bool a0_1, .bool a0_2, .slice A0_3 l0_3.length c0_3, .int .u64 a0_4, .string a0_5, .slice A0_6 l0_6.length c0_6] 28 ?_; intro gb449 hg w11 hbox hb; have BK449 := Az (hbox); have GW449 := gw (bl HB) hg; have GE449 := gw (bl HB) hg; replace HB := Az (below_step (bl HB) hb); clear hb hbox hg; have hz12_1 := bz BK449) | (refine gl (some 7) Tryz.func25 #[.agg #[.int .i64 a0_0, .bool a0_1, .bool a0_2, .slice A0_3 l0_3.length c0_3, .int .u64 a0_4, .string a0_5, .slice A0_6 l0_6.length c0_6]] ?_; (with_reducible refine (plain_Good.calls k a0_0 a0_1 a0_2 _ _ l0_3 a0_4 a0_5 _ _ l0_6 true _ (ck HR0_3 HB) HC0_3.out (ck HR0_6 HB) HC0_6.out A2.out).mono ?_); rintro e w13 ⟨rfl, hb⟩; refine ⟨_, rfl, ?_⟩; replace BK449 := kb BK449 hb; replace HB := Az (below_step (bls HB) hb); (try clear hb); have hz14_1 := bz BK449) | (refine gl (some 17) Tryz.func35 #[.int .u64 a0_4] ?_; (with_reducible refine (real_Hash.calls k a0_4 t451 _ A10.out).mono ?_); rintro e w' ⟨rfl, ⟨nd, rfl⟩⟩; refine ⟨_, rfl, ?_⟩))
    go_ret
    exact ⟨fe, bls HB⟩
   ·rw [if_neg c9] at H
    have c9b0 := beq_eq_false_iff_ne.mpr c9
    have c9b1 := bne_iff_ne.mpr c9
    by_cases c15 : a0_0 = 4
    ·rw [if_pos c15] at H
     have c15b0 := beq_iff_eq.mpr c15
     have c15b1 := bne_eq_false_iff_eq.mpr c15
     clear c15
     exact plain_Hash.str k a0_0 a0_1 a0_2 A0_3 c0_3 l0_3 a0_4 a0_5 A0_6 c0_6 l0_6 r w HR0_3 HC0_3 HR0_6 HC0_6 (by assumption) (eq_of_beq (by assumption)) H
    ·rw [if_neg c15] at H
     have c15b0 := beq_eq_false_iff_ne.mpr c15
     have c15b1 := bne_iff_ne.mpr c15
     obtain ⟨⟨t452, t453⟩, A16, H⟩ := bd H
     (try dsimp only at H)
     obtain ⟨t456, A17, H⟩ := bd H
     obtain rfl := Option.some.inj H
     go_enter Tryz.func13, Tryz.ntmps13
     go_wp2_with (first | (refine be 1 #[.int .i64 a0_0, .bool a0_1, .bool a0_2, .slice A0_3 l0_3.length c0_3, .int .u64 a0_4, .string a0_5, .slice A0_6 l0_6.length c0_6] 28 ?_; intro gb449 hg w18 hbox hb; have BK449 := Az (hbox); have GW449 := gw (bl HB) hg; have GE449 := gw (bl HB) hg; replace HB := Az (below_step (bl HB) hb); clear hb hbox hg; have hz19_1 := bz BK449) | (refine gl (some 7) Tryz.func25 #[.agg #[.int .i64 a0_0, .bool a0_1, .bool a0_2, .slice A0_3 l0_3.length c0_3, .int .u64 a0_4, .string a0_5, .slice A0_6 l0_6.length c0_6]] ?_; (with_reducible refine (plain_Good.calls k a0_0 a0_1 a0_2 _ _ l0_3 a0_4 a0_5 _ _ l0_6 true _ (ck HR0_3 HB) HC0_3.out (ck HR0_6 HB) HC0_6.out A2.out).mono ?_); rintro e w20 ⟨rfl, hb⟩; refine ⟨_, rfl, ?_⟩; replace BK449 := kb BK449 hb; replace HB := Az (below_step (bls HB) hb); (try clear hb); have hz21_1 := bz BK449) | (refine gl (some 41) Tryz.func37 #[.agg #[.int .i64 a0_0, .bool a0_1, .bool a0_2, .slice A0_3 l0_3.length c0_3, .int .u64 a0_4, .string a0_5, .slice A0_6 l0_6.length c0_6]] ?_; (with_reducible refine (plain_count.calls a0_0 a0_1 a0_2 (fun k_ => k_ < w.heap.size) _ _ l0_3 a0_4 a0_5 _ _ l0_6 t452 t453 _ ?side1 (ck HR0_6 HB) HC0_6.out A16.out).mono ?_); (case side1 => exact Kd.V_mk HC0_3.out (Kd.F_below (Kd.C_F (Kd.heap_int .u64) HR0_3.out) (bls HB))); rintro e w22 ⟨v454, rfl, ho0, hb⟩; refine ⟨_, rfl, ?_⟩; have HO455 := Az (Kd.V_lower (Kd.V_mono (ok' := fun k_ => k_ ≠ gb449) ho0 (fun k_ hk_ => Or.elim hk_ (fun hs_ => fun e_ => Nat.not_le.2 hs_ (by rw [e_]; exact GW449.out)) (fun hn_ => (Kd.freshB (g := gb449) (o := .cells #[.int .i64 a0_0, .bool a0_1, .bool a0_2, .slice A0_3 l0_3.length c0_3, .int .u64 a0_4, .string a0_5, .slice A0_6 l0_6.length c0_6] 28 (0, 0)) (bk BK449) k_ hn_)))) (below_size (bls HB))); replace BK449 := kb BK449 hb; replace HB := Az (below_step (bls HB) hb); (try clear hb); (try clear hb2); (try clear hk); (try clear hi); (try clear ho0); obtain ⟨Ao23, co23, eo23⟩ := Kd.V_slice HO455.out; subst eo23) | (refine gl (some 42) Tryz.func36 #[.agg #[.bool t452, .slice Ao23 t453.length co23]] ?_; (with_reducible refine (real_HashBig.calls k t452 _ _ t453 t456 _ ?side1 (Kd.V_reads' HO455.out).2.1 A17.out).mono ?_); (case side1 => repeat (first | exact (Kd.V_reads' HO455.out).2.2 | (with_reducible refine Kd.C_alloc ?_ _) | (with_reducible refine Kd.C_drewN ?_ _) | (with_reducible refine Kd.C_drew ?_))); rintro e w24 ⟨rfl, hb⟩; refine ⟨_, rfl, ?_⟩; replace HO455 := Az (Kd.V_below (vk HO455) hb); replace BK449 := kb BK449 hb; replace HB := Az (below_step (bls HB) hb); (try clear hb); (try clear hb2); (try clear hk); (try clear hi)))
     go_ret
     exact ⟨fe, bls HB⟩
 ·replace c3 := Bool.eq_false_iff.mpr c3
  subst c3
  rw [if_neg Bool.false_ne_true] at H
  obtain rfl := Option.some.inj H
  go_enter Tryz.func13, Tryz.ntmps13
  go_wp2_with (first | (refine be 1 #[.int .i64 a0_0, .bool a0_1, .bool a0_2, .slice A0_3 l0_3.length c0_3, .int .u64 a0_4, .string a0_5, .slice A0_6 l0_6.length c0_6] 28 ?_; intro gb449 hg w25 hbox hb; have BK449 := Az (hbox); have GW449 := gw (bl HB) hg; have GE449 := gw (bl HB) hg; replace HB := Az (below_step (bl HB) hb); clear hb hbox hg; have hz26_1 := bz BK449) | (refine gl (some 7) Tryz.func25 #[.agg #[.int .i64 a0_0, .bool a0_1, .bool a0_2, .slice A0_3 l0_3.length c0_3, .int .u64 a0_4, .string a0_5, .slice A0_6 l0_6.length c0_6]] ?_; (with_reducible refine (plain_Good.calls k a0_0 a0_1 a0_2 _ _ l0_3 a0_4 a0_5 _ _ l0_6 false _ (ck HR0_3 HB) HC0_3.out (ck HR0_6 HB) HC0_6.out A2.out).mono ?_); rintro e w27 ⟨rfl, hb⟩; refine ⟨_, rfl, ?_⟩; replace BK449 := kb BK449 hb; replace HB := Az (below_step (bls HB) hb); (try clear hb); (try clear hb2); (try clear hk); (try clear hi)))
  go_ret
  exact ⟨fe, bls HB⟩
def plain_number.f (a0_0 : Int) (a0_1 : Bool) (a0_2 : Bool) (l0_3 : List Int) (a0_4 : Int) (a0_5 : ByteArray) (l0_6 : List (S28)) : Option (Bool) := if a0_0 ≥ 1 then (some (decide (a0_0 ≤ 3))) else (some false)
set_option maxHeartbeats 8000000 in
set_option maxRecDepth 100000 in
theorem plain_number.calls (a0_0 : Int) (a0_1 : Bool) (a0_2 : Bool) (A0_3 : Option Addr) (c0_3 : Nat) (l0_3 : List Int) (a0_4 : Int) (a0_5 : ByteArray) (A0_6 : Option Addr) (c0_6 : Nat) (l0_6 : List (S28)) (r : Bool) (w : World) (hr0_3 : Kd.C (Kd.int .u64) w A0_3 l0_3.length l0_3) (hc0_3 : l0_3.length ≤ c0_3) (hr0_6 : Kd.C k28 w A0_6 l0_6.length l0_6) (hc0_6 : l0_6.length ≤ c0_6) (h : plain_number.f a0_0 a0_1 a0_2 l0_3 a0_4 a0_5 l0_6 = some r) :
  Calls Tryz.prog 26 #[.agg #[.int .i64 a0_0, .bool a0_1, .bool a0_2, .slice A0_3 l0_3.length c0_3, .int .u64 a0_4, .string a0_5, .slice A0_6 l0_6.length c0_6]] w fun e w' => e = .returned (.bool r) ∧ Below w.heap.size w w' := by
 have hu28 := Tryz.underlying28
 have HR0_3 := Az hr0_3
 have HC0_3 := Az hc0_3
 clear hr0_3 hc0_3
 have HR0_6 := Az hr0_6
 have HC0_6 := Az hc0_6
 clear hr0_6 hc0_6
 have HB := Az (Below.refl w.heap.size w)
 have H := h
 unfold plain_number.f at H
 clear h
 by_cases c2 : a0_0 ≥ 1
 ·rw [if_pos c2] at H
  have c2b0 : decide (1 ≤ a0_0) = true := decide_eq_true c2
  clear c2
  obtain rfl := Option.some.inj H
  go_enter Tryz.func26, Tryz.ntmps26
  go_wp2_with (first | (refine be 1 #[.int .i64 a0_0, .bool a0_1, .bool a0_2, .slice A0_3 l0_3.length c0_3, .int .u64 a0_4, .string a0_5, .slice A0_6 l0_6.length c0_6] 28 ?_; intro gb106 hg w3 hbox hb; have BK106 := Az (hbox); have GW106 := gw (bl HB) hg; have GE106 := gw (bl HB) hg; replace HB := Az (below_step (bl HB) hb); clear hb hbox hg; have hz4_1 := bz BK106))
  go_ret
  exact ⟨fe, bls HB⟩
 ·rw [if_neg c2] at H
  have c2b0 : decide (1 ≤ a0_0) = false := decide_eq_false c2
  clear c2
  obtain rfl := Option.some.inj H
  go_enter Tryz.func26, Tryz.ntmps26
  go_wp2_with (first | (refine be 1 #[.int .i64 a0_0, .bool a0_1, .bool a0_2, .slice A0_3 l0_3.length c0_3, .int .u64 a0_4, .string a0_5, .slice A0_6 l0_6.length c0_6] 28 ?_; intro gb106 hg w5 hbox hb; have BK106 := Az (hbox); have GW106 := gw (bl HB) hg; have GE106 := gw (bl HB) hg; replace HB := Az (below_step (bl HB) hb); clear hb hbox hg; have hz6_1 := bz BK106))
  go_ret
  exact ⟨fe, bls HB⟩
def plain_order.j0 : Nat → Bool → Int → Bool → Bool → List Int → Int → ByteArray → List (S28) → Int → Bool → Bool → List Int → Int → ByteArray → List (S28) → Option (Int × Bool)
 | 0, _, _, _, _, _, _, _, _, _, _, _, _, _, _, _ => none
 | k + 1, x8, x401000, x401001, x401002, x401003, x401004, x401005, x401006, x402000, x402001, x402002, x402003, x402004, x402005, x402006 => if x8 = true then ((real_Cmp.f x401004 x402004).bind fun bt402 => (some (bt402.1, bt402.2))) else (if x401000 = 3 then ((plain_count.f x402000 x402001 x402002 x402003 x402004 x402005 x402006).bind fun bt404 => ((real_CmpBig.f k x401004 bt404.1 bt404.2).bind fun bt408 => (some (bt408.1, bt408.2)))) else (if x402000 = 3 then ((plain_count.f x401000 x401001 x401002 x401003 x401004 x401005 x401006).bind fun bt410 => ((real_CmpBig.f k x402004 bt410.1 bt410.2).bind fun bt414 => (some (wrap64 (-bt414.1), bt414.2)))) else ((plain_count.f x401000 x401001 x401002 x401003 x401004 x401005 x401006).bind fun bt416 => ((plain_count.f x402000 x402001 x402002 x402003 x402004 x402005 x402006).bind fun bt420 => ((whole_Cmp.f k bt416.1 bt416.2 bt420.1 bt420.2).bind fun t424 => (some (t424, true)))))))
def plain_order.f (k : Nat) (a0_0 : Int) (a0_1 : Bool) (a0_2 : Bool) (l0_3 : List Int) (a0_4 : Int) (a0_5 : ByteArray) (l0_6 : List (S28)) (a1_0 : Int) (a1_1 : Bool) (a1_2 : Bool) (l1_3 : List Int) (a1_4 : Int) (a1_5 : ByteArray) (l1_6 : List (S28)) : Option (Int × Bool) := if a0_0 = 3 then (plain_order.j0 k (a1_0 == 3) a0_0 a0_1 a0_2 l0_3 a0_4 a0_5 l0_6 a1_0 a1_1 a1_2 l1_3 a1_4 a1_5 l1_6) else (plain_order.j0 k false a0_0 a0_1 a0_2 l0_3 a0_4 a0_5 l0_6 a1_0 a1_1 a1_2 l1_3 a1_4 a1_5 l1_6)
theorem plain_order.mono_l : ∀ k, (∀ y0 y1 y2 y3 y4 y5 y6 y7 y8 y9 y10 y11 y12 y13 y14, LeO (plain_order.j0 k y0 y1 y2 y3 y4 y5 y6 y7 y8 y9 y10 y11 y12 y13 y14) (plain_order.j0 (k + 1) y0 y1 y2 y3 y4 y5 y6 y7 y8 y9 y10 y11 y12 y13 y14))
 | 0 => fun _ _ _ _ _ _ _ _ _ _ _ _ _ _ _ r h => by simp [plain_order.j0] at h
 | k + 1 => by
  have ih0 := plain_order.mono_l k
  ·intro y0 y1 y2 y3 y4 y5 y6 y7 y8 y9 y10 y11 y12 y13 y14
   unfold plain_order.j0
   repeat' first
   | (with_reducible exact ih0 _ _ _ _ _ _ _ _ _ _ _ _ _ _ _)
   | (with_reducible exact real_CmpBig.mono _ _ _ _)
   | (with_reducible exact whole_Cmp.mono _ _ _ _ _)
   | (with_reducible exact LeO.refl _)
   | (with_reducible exact LeO.none _)
   | (with_reducible refine LeO.ite ?_ ?_)
   | (with_reducible refine LeO.bind ?_ (fun _ => ?_))
theorem plain_order.mono : ∀ a0 a1 a2 a3 a4 a5 a6 a7 a8 a9 a10 a11 a12 a13 k, LeO (plain_order.f k a0 a1 a2 a3 a4 a5 a6 a7 a8 a9 a10 a11 a12 a13) (plain_order.f (k + 1) a0 a1 a2 a3 a4 a5 a6 a7 a8 a9 a10 a11 a12 a13) := by
 intro a0 a1 a2 a3 a4 a5 a6 a7 a8 a9 a10 a11 a12 a13 k
 have ih0 := plain_order.mono_l k
 unfold plain_order.f
 repeat' first
   | (with_reducible exact ih0 _ _ _ _ _ _ _ _ _ _ _ _ _ _ _)
   | (with_reducible exact real_CmpBig.mono _ _ _ _)
   | (with_reducible exact whole_Cmp.mono _ _ _ _ _)
   | (with_reducible exact LeO.refl _)
   | (with_reducible exact LeO.none _)
   | (with_reducible refine LeO.ite ?_ ?_)
   | (with_reducible refine LeO.bind ?_ (fun _ => ?_))
def plain_order.T4 : Bool × List (List Nat × List Nat) := (true, [([], []), ([0], [0]), ([], []), ([2], [2]), ([1, 3, 3], [1, 3]), ([4], [4]), ([4], [4]), ([5, 4, 0, 1, 2, 3, 4, 5, 6], [5]), ([6, 7, 0, 1, 2, 3, 4, 5, 6, 7], [6])])
def plain_order.B4 : List Nat := [0, 1, 0, 4, 15, 31, 31, 127, 255]
theorem plain_order.tab4 : rtab .any (opsOf Tryz.f27 4) = plain_order.T4 := by kernel_rfl
theorem plain_order.bits4 : waitsOk plain_order.T4.2 plain_order.B4 = true := by kernel_rfl
def plain_order.T6 : Bool × List (List Nat × List Nat) := (true, [([], []), ([0], [0]), ([], []), ([2], [2]), ([1, 3, 3], [1, 3]), ([4], [4]), ([5], [5]), ([5], [5]), ([6, 4, 0, 1, 2, 3, 4, 5, 6], [6]), ([7, 8, 0, 1, 2, 3, 4, 5, 6, 7, 8], [7])])
def plain_order.B6 : List Nat := [0, 1, 0, 4, 15, 31, 63, 63, 127, 511]
theorem plain_order.tab6 : rtab .any (opsOf Tryz.f27 6) = plain_order.T6 := by kernel_rfl
theorem plain_order.bits6 : waitsOk plain_order.T6.2 plain_order.B6 = true := by kernel_rfl
set_option maxHeartbeats 8000000 in
set_option maxRecDepth 100000 in
theorem plain_order.calls (k : Nat) (a0_0 : Int) (a0_1 : Bool) (a0_2 : Bool) (A0_3 : Option Addr) (c0_3 : Nat) (l0_3 : List Int) (a0_4 : Int) (a0_5 : ByteArray) (A0_6 : Option Addr) (c0_6 : Nat) (l0_6 : List (S28)) (a1_0 : Int) (a1_1 : Bool) (a1_2 : Bool) (A1_3 : Option Addr) (c1_3 : Nat) (l1_3 : List Int) (a1_4 : Int) (a1_5 : ByteArray) (A1_6 : Option Addr) (c1_6 : Nat) (l1_6 : List (S28)) (r1 : Int) (r2 : Bool) (w : World) (hr0_3 : Kd.C (Kd.int .u64) w A0_3 l0_3.length l0_3) (hc0_3 : l0_3.length ≤ c0_3) (hr0_6 : Kd.C k28 w A0_6 l0_6.length l0_6) (hc0_6 : l0_6.length ≤ c0_6) (hr1_3 : Kd.C (Kd.int .u64) w A1_3 l1_3.length l1_3) (hc1_3 : l1_3.length ≤ c1_3) (hr1_6 : Kd.C k28 w A1_6 l1_6.length l1_6) (hc1_6 : l1_6.length ≤ c1_6) (h : plain_order.f k a0_0 a0_1 a0_2 l0_3 a0_4 a0_5 l0_6 a1_0 a1_1 a1_2 l1_3 a1_4 a1_5 l1_6 = some (r1, r2)) :
  Calls Tryz.prog 27 #[.agg #[.int .i64 a0_0, .bool a0_1, .bool a0_2, .slice A0_3 l0_3.length c0_3, .int .u64 a0_4, .string a0_5, .slice A0_6 l0_6.length c0_6], .agg #[.int .i64 a1_0, .bool a1_1, .bool a1_2, .slice A1_3 l1_3.length c1_3, .int .u64 a1_4, .string a1_5, .slice A1_6 l1_6.length c1_6]] w fun e w' => e = .returned (.tuple #[.int .i64 r1, .bool r2]) ∧ Below w.heap.size w w' := by
 have hu28 := Tryz.underlying28
 have HR0_3 := Az hr0_3
 have HC0_3 := Az hc0_3
 clear hr0_3 hc0_3
 have HR0_6 := Az hr0_6
 have HC0_6 := Az hc0_6
 clear hr0_6 hc0_6
 have HR1_3 := Az hr1_3
 have HC1_3 := Az hc1_3
 clear hr1_3 hc1_3
 have HR1_6 := Az hr1_6
 have HC1_6 := Az hc1_6
 clear hr1_6 hc1_6
 have HB := Az (Below.refl w.heap.size w)
 have H := h
 unfold plain_order.f at H
 clear h
 have HC3 := Az H
 clear H
 go_enter Tryz.func27, Tryz.ntmps27
 go_upto_region 1 with (first | (refine be 2 #[.int .i64 a0_0, .bool a0_1, .bool a0_2, .slice A0_3 l0_3.length c0_3, .int .u64 a0_4, .string a0_5, .slice A0_6 l0_6.length c0_6] 28 ?_; intro gb400 hg w4 hbox hb; have BK400 := Az (hbox); have GW400 := gw (bl HB) hg; have GE400 := gw (bl HB) hg; replace HB := Az (below_step (bl HB) hb); clear hb hbox hg) | (refine be 3 #[.int .i64 a1_0, .bool a1_1, .bool a1_2, .slice A1_3 l1_3.length c1_3, .int .u64 a1_4, .string a1_5, .slice A1_6 l1_6.length c1_6] 28 ?_; intro gb401 hg w5 hbox hb; have BK401 := Az (hbox); have GW401 := gw (bls HB) hg; have GE401 := gw (bls HB) hg; replace HB := Az (below_step (bls HB) hb); have NB400_401 := nl BK400 hg; have NB401_400 := ng BK400 hg; replace BK400 := kb BK400 hb; clear hb hbox hg))
 go_cut [8] (fun v8 wc => ∃ (kq : Nat) (x8_2 : Bool), v8 = .bool x8_2 ∧ Aside0 (plain_order.j0 kq x8_2 a0_0 a0_1 a0_2 l0_3 a0_4 a0_5 l0_6 a1_0 a1_1 a1_2 l1_3 a1_4 a1_5 l1_6 = some (r1, r2)) ∧ Aside0 (kq ≤ k) ∧ Aside0 (wc.heap[gb400]? = some (.cells #[.int .i64 a0_0, .bool a0_1, .bool a0_2, (.slice A0_3 l0_3.length c0_3), .int .u64 a0_4, .string a0_5, (.slice A0_6 l0_6.length c0_6)] 28 (0, 0))) ∧ Aside0 (wc.heap[gb401]? = some (.cells #[.int .i64 a1_0, .bool a1_1, .bool a1_2, (.slice A1_3 l1_3.length c1_3), .int .u64 a1_4, .string a1_5, (.slice A1_6 l1_6.length c1_6)] 28 (0, 0))) ∧ Aside0 (Below w.heap.size w wc))
 case first =>
  have H := HC3.out
  clear HC3
  by_cases c6 : a0_0 = 3
  ·rw [if_pos c6] at H
   have c6b0 := beq_iff_eq.mpr c6
   have c6b1 := bne_eq_false_iff_eq.mpr c6
   clear c6
   (first | rw [c6b0] | (simp only [i64_w, i32_w]; rw [c6b0]) | skip)
   have H' := Az H
   clear H
   have hnb7 := NB400_401.out
   have hnc7 := NB401_400.out
   have hz8_1 := bz BK400
   have hz9_2 := bz BK401
   go_wp2
   go_meet
   case rel => exact ⟨_, ((a1_0 == 3)), rs, H', ⟨le0⟩, ⟨bk BK400⟩, ⟨bk BK401⟩, ⟨bls HB⟩⟩
  ·rw [if_neg c6] at H
   have c6b0 := beq_eq_false_iff_ne.mpr c6
   have c6b1 := bne_iff_ne.mpr c6
   (first | rw [c6b0] | (simp only [i64_w, i32_w]; rw [c6b0]) | skip)
   have H' := Az H
   clear H
   have hnb10 := NB400_401.out
   have hnc10 := NB401_400.out
   have hz11_1 := bz BK400
   go_wp2
   go_meet
   case rel => exact ⟨_, (false), rs, H', ⟨le0⟩, ⟨bk BK400⟩, ⟨bk BK401⟩, ⟨bls HB⟩⟩
 case rest =>
  clear HC3
  obtain ⟨kq, x8_2, rfl, HA, HJ2, BK400, BK401, HB⟩ := hcut
  cases kq with
  | zero => exact absurd HA.out (by simp [plain_order.j0])
  | succ kj2 =>
   have H := HA.out
   clear HA
   simp only [plain_order.j0] at H
   by_cases c12 : x8_2 = true
   ·subst c12
    rw [if_pos rfl] at H
    obtain ⟨⟨t402, t403⟩, A13, H⟩ := bd H
    simp only [Option.some.injEq, Prod.mk.injEq] at H
    obtain ⟨rfl, rfl⟩ := H
    have hnb14 := NB400_401.out
    have hnc14 := NB401_400.out
    have hz15_1 := bz BK400
    have hz16_2 := bz BK401
    go_wp2_with (first | (refine gl (some 21) Tryz.func48 #[.int .u64 a0_4, .int .u64 a1_4] ?_; (with_reducible refine (real_Cmp.calls a0_4 a1_4 t402 t403 _ A13.out).mono ?_); rintro e w' ⟨rfl, ⟨nd, rfl⟩⟩; refine ⟨_, rfl, ?_⟩))
    go_ret2
    exact ⟨fe, bls HB⟩
   ·replace c12 := Bool.eq_false_iff.mpr c12
    subst c12
    rw [if_neg Bool.false_ne_true] at H
    by_cases c17 : a0_0 = 3
    ·rw [if_pos c17] at H
     have c17b0 := beq_iff_eq.mpr c17
     have c17b1 := bne_eq_false_iff_eq.mpr c17
     clear c17
     obtain ⟨⟨t404, t405⟩, A18, H⟩ := bd H
     obtain ⟨⟨t408, t409⟩, A19, H⟩ := bd H
     simp only [Option.some.injEq, Prod.mk.injEq] at H
     obtain ⟨rfl, rfl⟩ := H
     have hnb20 := NB400_401.out
     have hnc20 := NB401_400.out
     have hz21_1 := bz BK400
     try go_wp2
     replace BK400 := Az (blk_drew BK400.out)
     replace BK401 := Az (blk_drew BK401.out)
     replace HB := Az (below_drew1 HB.out)
     refine start_ (n := 9) (S := fun w' => w'.cell? ⟨gb400, 0, none⟩ = some (.int .i64 a0_0) ∧ w'.cell? ⟨gb400, 1, none⟩ = some (.bool a0_1) ∧ w'.cell? ⟨gb400, 2, none⟩ = some (.bool a0_2) ∧ w'.cell? ⟨gb400, 3, none⟩ = some (.slice A0_3 l0_3.length c0_3) ∧ w'.cell? ⟨gb400, 4, none⟩ = some (.int .u64 a0_4) ∧ w'.cell? ⟨gb400, 5, none⟩ = some (.string a0_5) ∧ w'.cell? ⟨gb400, 6, none⟩ = some (.slice A0_6 l0_6.length c0_6) ∧ w'.cell? ⟨gb401, 0, none⟩ = some (.int .i64 a1_0) ∧ w'.cell? ⟨gb401, 1, none⟩ = some (.bool a1_1) ∧ w'.cell? ⟨gb401, 2, none⟩ = some (.bool a1_2) ∧ w'.cell? ⟨gb401, 3, none⟩ = some (.slice A1_3 l1_3.length c1_3) ∧ w'.cell? ⟨gb401, 4, none⟩ = some (.int .u64 a1_4) ∧ w'.cell? ⟨gb401, 5, none⟩ = some (.string a1_5) ∧ w'.cell? ⟨gb401, 6, none⟩ = some (.slice A1_6 l1_6.length c1_6)) (ds := []) (bm 9 0) (by kernel_rfl) rfl rfl ⟨(blk_cell BK400.out 0).trans rfl, (blk_cell BK400.out 1).trans rfl, (blk_cell BK400.out 2).trans rfl, (blk_cell BK400.out 3).trans rfl, (blk_cell BK400.out 4).trans rfl, (blk_cell BK400.out 5).trans rfl, (blk_cell BK400.out 6).trans rfl, (blk_cell BK401.out 0).trans rfl, (blk_cell BK401.out 1).trans rfl, (blk_cell BK401.out 2).trans rfl, (blk_cell BK401.out 3).trans rfl, (blk_cell BK401.out 4).trans rfl, (blk_cell BK401.out 5).trans rfl, (blk_cell BK401.out 6).trans rfl⟩ (fun hHeld => ?_); refine with_tabW plain_order.tab4 plain_order.bits4 (fun HT_ HW_ => ?_)
     generalize wc.drew = w22 at BK400 BK401 HB hHeld ⊢
     refine pu 0 (some 28) (bm 9 1) HT_.out ?_
     refine tk 1 (some 29) (bm 9 3) HT_.out HW_.out hHeld ?_
     refine tk 2 (some 30) (bm 9 7) HT_.out HW_.out hHeld ?_
     refine on 3 (some 31) (bm 9 15) HT_.out (fun K hK => ?_)
     refine gs Tryz.func37 #[.agg #[.int .i64 a1_0, .bool a1_1, .bool a1_2, .slice A1_3 l1_3.length c1_3, .int .u64 a1_4, .string a1_5, .slice A1_6 l1_6.length c1_6]] ?_
     with_reducible refine (plain_count.calls a1_0 a1_1 a1_2 (fun k_ => k_ < w.heap.size) _ _ l1_3 a1_4 a1_5 _ _ l1_6 t404 t405 _ ?side1 (ck HR1_6 HB) HC1_6.out A18.out).mono ?_
     (case side1 => exact Kd.V_mk HC1_3.out (Kd.F_below (Kd.C_F (Kd.heap_int .u64) HR1_3.out) (bls HB)))
     rintro e w23 ⟨v406, rfl, ho0, hb⟩
     refine ⟨_, rfl, ?_⟩
     have HO407 := Az (Kd.V_lower (Kd.V_mono (ok' := fun k_ => k_ ≠ gb400 ∧ k_ ≠ gb401) ho0 (fun k_ hk_ => ⟨Or.elim hk_ (fun hs_ => fun e_ => Nat.not_le.2 hs_ (by rw [e_]; exact GW400.out)) (fun hn_ => (Kd.freshB (g := gb400) (o := .cells #[.int .i64 a0_0, .bool a0_1, .bool a0_2, .slice A0_3 l0_3.length c0_3, .int .u64 a0_4, .string a0_5, .slice A0_6 l0_6.length c0_6] 28 (0, 0)) (bk BK400) k_ hn_)), Or.elim hk_ (fun hs_ => fun e_ => Nat.not_le.2 hs_ (by rw [e_]; exact GW401.out)) (fun hn_ => (Kd.freshB (g := gb401) (o := .cells #[.int .i64 a1_0, .bool a1_1, .bool a1_2, .slice A1_3 l1_3.length c1_3, .int .u64 a1_4, .string a1_5, .slice A1_6 l1_6.length c1_6] 28 (0, 0)) (bk BK401) k_ hn_))⟩)) (below_size (bls HB)))
     replace BK400 := kb BK400 hb
     replace BK401 := kb BK401 hb
     replace HB := Az (below_step (bls HB) hb)
     obtain ⟨Ao24, co24, eo24⟩ := Kd.V_slice HO407.out
     (first | subst eo24 | (injection eo24 with f1_ f2_ f3_; have f4_ := f1_.symm; have f5_ := f3_.symm; clear f1_ f2_ f3_; subst f4_; subst f5_))
     refine hK.out _ _ hd (fun hHeld => ?_)
     clear hK K
     refine nm ?_
     refine on 4 (some 32) (bm 9 31) HT_.out (fun K hK => ?_)
     refine gs Tryz.func49 #[.int .u64 a0_4, .agg #[.bool t404, .slice Ao24 t405.length co24]] ?_
     with_reducible refine (real_CmpBig.calls kj2 a0_4 t404 _ _ t405 t408 t409 _ ?side1 (Kd.V_reads' HO407.out).2.1 A19.out).mono ?_
     (case side1 => exact (Kd.V_reads' HO407.out).2.2)
     rintro e w25 ⟨rfl, hb⟩
     refine ⟨_, rfl, ?_⟩
     replace HO407 := Az (Kd.V_below (vk HO407) hb)
     replace BK400 := kb BK400 hb
     replace BK401 := kb BK401 hb
     replace HB := Az (below_step (bls HB) hb)
     refine hK.out _ _ hd (fun hHeld => ?_)
     clear hK K
     refine nm ?_
     refine pu 5 (some 33) (bm 9 63) HT_.out ?_
     refine pu 6 (some 34) (bm 9 127) HT_.out ?_
     refine pu 7 (some 4) (bm 9 255) HT_.out ?_
     refine pu 8 (some 5) (bm 9 511) HT_.out ?_
     refine done_ (done_of HT_.out (by kernel_rfl)) ?_
     try go_wp2
     go_ret2
     exact ⟨fe, bls HB⟩
    ·rw [if_neg c17] at H
     have c17b0 := beq_eq_false_iff_ne.mpr c17
     have c17b1 := bne_iff_ne.mpr c17
     by_cases c26 : a1_0 = 3
     ·rw [if_pos c26] at H
      have c26b0 := beq_iff_eq.mpr c26
      have c26b1 := bne_eq_false_iff_eq.mpr c26
      clear c26
      obtain ⟨⟨t410, t411⟩, A27, H⟩ := bd H
      obtain ⟨⟨t414, t415⟩, A28, H⟩ := bd H
      simp only [Option.some.injEq, Prod.mk.injEq] at H
      obtain ⟨rfl, rfl⟩ := H
      have hnb29 := NB400_401.out
      have hnc29 := NB401_400.out
      have hz30_1 := bz BK400
      have hz31_2 := bz BK401
      try go_wp2
      replace BK400 := Az (blk_drew BK400.out)
      replace BK401 := Az (blk_drew BK401.out)
      replace HB := Az (below_drew1 HB.out)
      refine start_ (n := 10) (S := fun w' => w'.cell? ⟨gb401, 0, none⟩ = some (.int .i64 a1_0) ∧ w'.cell? ⟨gb401, 1, none⟩ = some (.bool a1_1) ∧ w'.cell? ⟨gb401, 2, none⟩ = some (.bool a1_2) ∧ w'.cell? ⟨gb401, 3, none⟩ = some (.slice A1_3 l1_3.length c1_3) ∧ w'.cell? ⟨gb401, 4, none⟩ = some (.int .u64 a1_4) ∧ w'.cell? ⟨gb401, 5, none⟩ = some (.string a1_5) ∧ w'.cell? ⟨gb401, 6, none⟩ = some (.slice A1_6 l1_6.length c1_6) ∧ w'.cell? ⟨gb400, 0, none⟩ = some (.int .i64 a0_0) ∧ w'.cell? ⟨gb400, 1, none⟩ = some (.bool a0_1) ∧ w'.cell? ⟨gb400, 2, none⟩ = some (.bool a0_2) ∧ w'.cell? ⟨gb400, 3, none⟩ = some (.slice A0_3 l0_3.length c0_3) ∧ w'.cell? ⟨gb400, 4, none⟩ = some (.int .u64 a0_4) ∧ w'.cell? ⟨gb400, 5, none⟩ = some (.string a0_5) ∧ w'.cell? ⟨gb400, 6, none⟩ = some (.slice A0_6 l0_6.length c0_6)) (ds := []) (bm 10 0) (by kernel_rfl) rfl rfl ⟨(blk_cell BK401.out 0).trans rfl, (blk_cell BK401.out 1).trans rfl, (blk_cell BK401.out 2).trans rfl, (blk_cell BK401.out 3).trans rfl, (blk_cell BK401.out 4).trans rfl, (blk_cell BK401.out 5).trans rfl, (blk_cell BK401.out 6).trans rfl, (blk_cell BK400.out 0).trans rfl, (blk_cell BK400.out 1).trans rfl, (blk_cell BK400.out 2).trans rfl, (blk_cell BK400.out 3).trans rfl, (blk_cell BK400.out 4).trans rfl, (blk_cell BK400.out 5).trans rfl, (blk_cell BK400.out 6).trans rfl⟩ (fun hHeld => ?_); refine with_tabW plain_order.tab6 plain_order.bits6 (fun HT_ HW_ => ?_)
      generalize wc.drew = w32 at BK400 BK401 HB hHeld ⊢
      refine pu 0 (some 40) (bm 10 1) HT_.out ?_
      refine tk 1 (some 41) (bm 10 3) HT_.out HW_.out hHeld ?_
      refine tk 2 (some 42) (bm 10 7) HT_.out HW_.out hHeld ?_
      refine on 3 (some 43) (bm 10 15) HT_.out (fun K hK => ?_)
      refine gs Tryz.func37 #[.agg #[.int .i64 a0_0, .bool a0_1, .bool a0_2, .slice A0_3 l0_3.length c0_3, .int .u64 a0_4, .string a0_5, .slice A0_6 l0_6.length c0_6]] ?_
      with_reducible refine (plain_count.calls a0_0 a0_1 a0_2 (fun k_ => k_ < w.heap.size) _ _ l0_3 a0_4 a0_5 _ _ l0_6 t410 t411 _ ?side1 (ck HR0_6 HB) HC0_6.out A27.out).mono ?_
      (case side1 => exact Kd.V_mk HC0_3.out (Kd.F_below (Kd.C_F (Kd.heap_int .u64) HR0_3.out) (bls HB)))
      rintro e w33 ⟨v412, rfl, ho0, hb⟩
      refine ⟨_, rfl, ?_⟩
      have HO413 := Az (Kd.V_lower (Kd.V_mono (ok' := fun k_ => k_ ≠ gb400 ∧ k_ ≠ gb401) ho0 (fun k_ hk_ => ⟨Or.elim hk_ (fun hs_ => fun e_ => Nat.not_le.2 hs_ (by rw [e_]; exact GW400.out)) (fun hn_ => (Kd.freshB (g := gb400) (o := .cells #[.int .i64 a0_0, .bool a0_1, .bool a0_2, .slice A0_3 l0_3.length c0_3, .int .u64 a0_4, .string a0_5, .slice A0_6 l0_6.length c0_6] 28 (0, 0)) (bk BK400) k_ hn_)), Or.elim hk_ (fun hs_ => fun e_ => Nat.not_le.2 hs_ (by rw [e_]; exact GW401.out)) (fun hn_ => (Kd.freshB (g := gb401) (o := .cells #[.int .i64 a1_0, .bool a1_1, .bool a1_2, .slice A1_3 l1_3.length c1_3, .int .u64 a1_4, .string a1_5, .slice A1_6 l1_6.length c1_6] 28 (0, 0)) (bk BK401) k_ hn_))⟩)) (below_size (bls HB)))
      replace BK400 := kb BK400 hb
      replace BK401 := kb BK401 hb
      replace HB := Az (below_step (bls HB) hb)
      obtain ⟨Ao34, co34, eo34⟩ := Kd.V_slice HO413.out
      (first | subst eo34 | (injection eo34 with f1_ f2_ f3_; have f4_ := f1_.symm; have f5_ := f3_.symm; clear f1_ f2_ f3_; subst f4_; subst f5_))
      refine hK.out _ _ hd (fun hHeld => ?_)
      clear hK K
      refine nm ?_
      refine on 4 (some 44) (bm 10 31) HT_.out (fun K hK => ?_)
      refine gs Tryz.func49 #[.int .u64 a1_4, .agg #[.bool t410, .slice Ao34 t411.length co34]] ?_
      with_reducible refine (real_CmpBig.calls kj2 a1_4 t410 _ _ t411 t414 t415 _ ?side1 (Kd.V_reads' HO413.out).2.1 A28.out).mono ?_
      (case side1 => exact (Kd.V_reads' HO413.out).2.2)
      rintro e w35 ⟨rfl, hb⟩
      refine ⟨_, rfl, ?_⟩
      replace HO413 := Az (Kd.V_below (vk HO413) hb)
      replace BK400 := kb BK400 hb
      replace BK401 := kb BK401 hb
      replace HB := Az (below_step (bls HB) hb)
      refine hK.out _ _ hd (fun hHeld => ?_)
      clear hK K
      refine nm ?_
      refine pu 5 (some 39) (bm 10 63) HT_.out ?_
      refine pu 6 (some 45) (bm 10 127) HT_.out ?_
      refine pu 7 (some 46) (bm 10 255) HT_.out ?_
      refine pu 8 (some 6) (bm 10 511) HT_.out ?_
      refine pu 9 (some 7) (bm 10 1023) HT_.out ?_
      refine done_ (done_of HT_.out (by kernel_rfl)) ?_
      try go_wp2
      go_ret2
      exact ⟨fe, bls HB⟩
     ·rw [if_neg c26] at H
      have c26b0 := beq_eq_false_iff_ne.mpr c26
      have c26b1 := bne_iff_ne.mpr c26
      obtain ⟨⟨t416, t417⟩, A36, H⟩ := bd H
      obtain ⟨⟨t420, t421⟩, A37, H⟩ := bd H
      obtain ⟨t424, A38, H⟩ := bd H
      simp only [Option.some.injEq, Prod.mk.injEq] at H
      obtain ⟨rfl, rfl⟩ := H
      have hnb39 := NB400_401.out
      have hnc39 := NB401_400.out
      have hz40_1 := bz BK400
      have hz41_2 := bz BK401
      try go_wp2
      replace BK400 := Az (blk_drew BK400.out)
      replace BK401 := Az (blk_drew BK401.out)
      replace HB := Az (below_drew1 HB.out)
      refine start_ (n := 7) (S := fun w' => w'.cell? ⟨gb400, 0, none⟩ = some (.int .i64 a0_0) ∧ w'.cell? ⟨gb400, 1, none⟩ = some (.bool a0_1) ∧ w'.cell? ⟨gb400, 2, none⟩ = some (.bool a0_2) ∧ w'.cell? ⟨gb400, 3, none⟩ = some (.slice A0_3 l0_3.length c0_3) ∧ w'.cell? ⟨gb400, 4, none⟩ = some (.int .u64 a0_4) ∧ w'.cell? ⟨gb400, 5, none⟩ = some (.string a0_5) ∧ w'.cell? ⟨gb400, 6, none⟩ = some (.slice A0_6 l0_6.length c0_6) ∧ w'.cell? ⟨gb401, 0, none⟩ = some (.int .i64 a1_0) ∧ w'.cell? ⟨gb401, 1, none⟩ = some (.bool a1_1) ∧ w'.cell? ⟨gb401, 2, none⟩ = some (.bool a1_2) ∧ w'.cell? ⟨gb401, 3, none⟩ = some (.slice A1_3 l1_3.length c1_3) ∧ w'.cell? ⟨gb401, 4, none⟩ = some (.int .u64 a1_4) ∧ w'.cell? ⟨gb401, 5, none⟩ = some (.string a1_5) ∧ w'.cell? ⟨gb401, 6, none⟩ = some (.slice A1_6 l1_6.length c1_6)) (ds := []) (bm 7 0) (by kernel_rfl) rfl rfl ⟨(blk_cell BK400.out 0).trans rfl, (blk_cell BK400.out 1).trans rfl, (blk_cell BK400.out 2).trans rfl, (blk_cell BK400.out 3).trans rfl, (blk_cell BK400.out 4).trans rfl, (blk_cell BK400.out 5).trans rfl, (blk_cell BK400.out 6).trans rfl, (blk_cell BK401.out 0).trans rfl, (blk_cell BK401.out 1).trans rfl, (blk_cell BK401.out 2).trans rfl, (blk_cell BK401.out 3).trans rfl, (blk_cell BK401.out 4).trans rfl, (blk_cell BK401.out 5).trans rfl, (blk_cell BK401.out 6).trans rfl⟩ (fun hHeld => ?_)
      generalize wc.drew = w42 at BK400 BK401 HB hHeld ⊢
      refine take_ (i := 0) (N := some 50) (v := ?_) (a' := ?_) (bm 7 1) rfl rfl (by kernel_rfl) (fun _ _ _ h => h) (Or.inl ⟨by rfl, ?_⟩) hHeld ?_ ?_
      rotate_left
      ·rintro w' ⟨s0, s1, s2, s3, s4, s5, s6, s7, s8, s9, s10, s11, s12, s13⟩
       go_simp
       with_reducible rfl
      rotate_left
      ·simp only [Act.put, List.setIfInBounds_toArray, List.set_cons_zero, List.set_cons_succ, i64_w, i32_w]
       rfl
      refine take_ (i := 2) (N := some 52) (v := ?_) (a' := ?_) (bm 7 5) rfl rfl (by kernel_rfl) (fun _ _ _ h => h) (Or.inl ⟨by rfl, ?_⟩) hHeld ?_ ?_
      rotate_left
      ·rintro w' ⟨s0, s1, s2, s3, s4, s5, s6, s7, s8, s9, s10, s11, s12, s13⟩
       go_simp
       with_reducible rfl
      rotate_left
      ·simp only [Act.put, List.setIfInBounds_toArray, List.set_cons_zero, List.set_cons_succ, i64_w, i32_w]
       rfl
      refine one_ (i := 1) (N := some 51) (bm 7 7) rfl rfl (by kernel_rfl) (by decide) (fun K hK => ?_)
      refine gs Tryz.func37 #[.agg #[.int .i64 a0_0, .bool a0_1, .bool a0_2, .slice A0_3 l0_3.length c0_3, .int .u64 a0_4, .string a0_5, .slice A0_6 l0_6.length c0_6]] ?_
      with_reducible refine (plain_count.calls a0_0 a0_1 a0_2 (fun k_ => k_ < w.heap.size) _ _ l0_3 a0_4 a0_5 _ _ l0_6 t416 t417 _ ?side1 (ck HR0_6 HB) HC0_6.out A36.out).mono ?_
      (case side1 => exact Kd.V_mk HC0_3.out (Kd.F_below (Kd.C_F (Kd.heap_int .u64) HR0_3.out) (bls HB)))
      rintro e w43 ⟨v418, rfl, ho0, hb⟩
      refine ⟨_, rfl, ?_⟩
      have HO419 := Az (Kd.V_lower (Kd.V_mono (ok' := fun k_ => k_ ≠ gb400 ∧ k_ ≠ gb401) ho0 (fun k_ hk_ => ⟨Or.elim hk_ (fun hs_ => fun e_ => Nat.not_le.2 hs_ (by rw [e_]; exact GW400.out)) (fun hn_ => (Kd.freshB (g := gb400) (o := .cells #[.int .i64 a0_0, .bool a0_1, .bool a0_2, .slice A0_3 l0_3.length c0_3, .int .u64 a0_4, .string a0_5, .slice A0_6 l0_6.length c0_6] 28 (0, 0)) (bk BK400) k_ hn_)), Or.elim hk_ (fun hs_ => fun e_ => Nat.not_le.2 hs_ (by rw [e_]; exact GW401.out)) (fun hn_ => (Kd.freshB (g := gb401) (o := .cells #[.int .i64 a1_0, .bool a1_1, .bool a1_2, .slice A1_3 l1_3.length c1_3, .int .u64 a1_4, .string a1_5, .slice A1_6 l1_6.length c1_6] 28 (0, 0)) (bk BK401) k_ hn_))⟩)) (below_size (bls HB)))
      replace BK400 := kb BK400 hb
      replace BK401 := kb BK401 hb
      replace HB := Az (below_step (bls HB) hb)
      refine hK.out _ _ hd (fun hHeld => ?_)
      clear hK K
      refine nm ?_
      refine one_ (i := 3) (N := some 53) (bm 7 15) rfl rfl (by kernel_rfl) (by decide) (fun K hK => ?_)
      refine gs Tryz.func37 #[.agg #[.int .i64 a1_0, .bool a1_1, .bool a1_2, .slice A1_3 l1_3.length c1_3, .int .u64 a1_4, .string a1_5, .slice A1_6 l1_6.length c1_6]] ?_
      with_reducible refine (plain_count.calls a1_0 a1_1 a1_2 (fun k_ => k_ < w.heap.size) _ _ l1_3 a1_4 a1_5 _ _ l1_6 t420 t421 _ ?side1 (ck HR1_6 HB) HC1_6.out A37.out).mono ?_
      (case side1 => exact Kd.V_mk HC1_3.out (Kd.F_below (Kd.C_F (Kd.heap_int .u64) HR1_3.out) (bls HB)))
      rintro e w44 ⟨v422, rfl, ho0, hb⟩
      refine ⟨_, rfl, ?_⟩
      replace HO419 := Az (Kd.V_below (vk HO419) hb)
      have HO423 := Az (Kd.V_lower (Kd.V_mono (ok' := fun k_ => k_ ≠ gb400 ∧ k_ ≠ gb401) ho0 (fun k_ hk_ => ⟨Or.elim hk_ (fun hs_ => fun e_ => Nat.not_le.2 hs_ (by rw [e_]; exact GW400.out)) (fun hn_ => (Kd.freshB (g := gb400) (o := .cells #[.int .i64 a0_0, .bool a0_1, .bool a0_2, .slice A0_3 l0_3.length c0_3, .int .u64 a0_4, .string a0_5, .slice A0_6 l0_6.length c0_6] 28 (0, 0)) (bk BK400) k_ hn_)), Or.elim hk_ (fun hs_ => fun e_ => Nat.not_le.2 hs_ (by rw [e_]; exact GW401.out)) (fun hn_ => (Kd.freshB (g := gb401) (o := .cells #[.int .i64 a1_0, .bool a1_1, .bool a1_2, .slice A1_3 l1_3.length c1_3, .int .u64 a1_4, .string a1_5, .slice A1_6 l1_6.length c1_6] 28 (0, 0)) (bk BK401) k_ hn_))⟩)) (below_size (bls HB)))
      replace BK400 := kb BK400 hb
      replace BK401 := kb BK401 hb
      replace HB := Az (below_step (bls HB) hb)
      obtain ⟨Ao45, co45, eo45⟩ := Kd.V_slice HO419.out
      (first | subst eo45 | (injection eo45 with f1_ f2_ f3_; have f4_ := f1_.symm; have f5_ := f3_.symm; clear f1_ f2_ f3_; subst f4_; subst f5_))
      obtain ⟨Ao46, co46, eo46⟩ := Kd.V_slice HO423.out
      (first | subst eo46 | (injection eo46 with f1_ f2_ f3_; have f4_ := f1_.symm; have f5_ := f3_.symm; clear f1_ f2_ f3_; subst f4_; subst f5_))
      refine hK.out _ _ hd (fun hHeld => ?_)
      clear hK K
      refine nm ?_
      refine one_ (i := 4) (N := some 54) (bm 7 31) rfl rfl (by kernel_rfl) (by decide) (fun K hK => ?_)
      refine gs Tryz.func29 #[.agg #[.bool t416, .slice Ao45 t417.length co45], .agg #[.bool t420, .slice Ao46 t421.length co46]] ?_
      with_reducible refine (whole_Cmp.calls kj2 t416 _ _ t417 t420 _ _ t421 t424 _ ?side1 (Kd.V_reads' HO419.out).2.1 ?side3 (Kd.V_reads' HO423.out).2.1 A38.out).mono ?_
      (case side1 => exact (Kd.V_reads' HO419.out).2.2)
      (case side3 => exact (Kd.V_reads' HO423.out).2.2)
      rintro e w47 ⟨rfl, hb⟩
      refine ⟨_, rfl, ?_⟩
      replace HO419 := Az (Kd.V_below (vk HO419) hb)
      replace HO423 := Az (Kd.V_below (vk HO423) hb)
      replace BK400 := kb BK400 hb
      replace BK401 := kb BK401 hb
      replace HB := Az (below_step (bls HB) hb)
      refine hK.out _ _ hd (fun hHeld => ?_)
      clear hK K
      refine nm ?_
      refine pure_ (i := 5) (N := some 4) (v := ?_) (a' := ?_) (bm 7 63) rfl rfl (by kernel_rfl) (fun _ _ _ h => h) (Or.inl ⟨by rfl, ?_⟩) ?_ ?_
      rotate_left
      ·intro w'
       go_simp
       with_reducible rfl
      rotate_left
      ·simp only [Act.put, List.setIfInBounds_toArray, List.set_cons_zero, List.set_cons_succ, i64_w, i32_w]
       rfl
      refine pure_ (i := 6) (N := some 5) (v := ?_) (a' := ?_) (bm 7 127) rfl rfl (by kernel_rfl) (fun _ _ _ h => h) (Or.inl ⟨by rfl, ?_⟩) ?_ ?_
      rotate_left
      ·intro w'
       go_simp
       with_reducible rfl
      rotate_left
      ·simp only [Act.put, List.setIfInBounds_toArray, List.set_cons_zero, List.set_cons_succ, i64_w, i32_w]
       rfl
      refine done_ (by kernel_rfl) ?_
      try go_wp2
      go_ret2
      exact ⟨fe, bls HB⟩
def plain_Equal.j0 : Nat → Bool → Int → Bool → Bool → List Int → Int → ByteArray → List (S28) → Int → Bool → Bool → List Int → Int → ByteArray → List (S28) → Option (Bool)
 | 0, _, _, _, _, _, _, _, _, _, _, _, _, _, _, _ => none
 | k + 1, x14, x426000, x426001, x426002, x426003, x426004, x426005, x426006, x427000, x427001, x427002, x427003, x427004, x427005, x427006 => if x14 = true then (some false) else ((plain_number.f x426000 x426001 x426002 x426003 x426004 x426005 x426006).bind fun t429 => (if t429 = true then ((plain_number.f x427000 x427001 x427002 x427003 x427004 x427005 x427006).bind fun t430 => (if t430 = true then ((plain_order.f k x426000 x426001 x426002 x426003 x426004 x426005 x426006 x427000 x427001 x427002 x427003 x427004 x427005 x427006).bind fun bt431 => (if bt431.2 = true then (some (bt431.1 == 0)) else (some false))) else (if x426000 = x427000 then (some (x426005.toList == x427005.toList)) else (some false)))) else (if x426000 = x427000 then (some (x426005.toList == x427005.toList)) else (some false))))
def plain_Equal.f (k : Nat) (a0_0 : Int) (a0_1 : Bool) (a0_2 : Bool) (l0_3 : List Int) (a0_4 : Int) (a0_5 : ByteArray) (l0_6 : List (S28)) (a1_0 : Int) (a1_1 : Bool) (a1_2 : Bool) (l1_3 : List Int) (a1_4 : Int) (a1_5 : ByteArray) (l1_6 : List (S28)) : Option (Bool) := (plain_Good.f k a0_0 a0_1 a0_2 l0_3 a0_4 a0_5 l0_6).bind fun t427 => (if t427 = true then ((plain_Good.f k a1_0 a1_1 a1_2 l1_3 a1_4 a1_5 l1_6).bind fun t428 => (plain_Equal.j0 k (!t428) a0_0 a0_1 a0_2 l0_3 a0_4 a0_5 l0_6 a1_0 a1_1 a1_2 l1_3 a1_4 a1_5 l1_6)) else (plain_Equal.j0 k true a0_0 a0_1 a0_2 l0_3 a0_4 a0_5 l0_6 a1_0 a1_1 a1_2 l1_3 a1_4 a1_5 l1_6))
theorem plain_Equal.mono_l : ∀ k, (∀ y0 y1 y2 y3 y4 y5 y6 y7 y8 y9 y10 y11 y12 y13 y14, LeO (plain_Equal.j0 k y0 y1 y2 y3 y4 y5 y6 y7 y8 y9 y10 y11 y12 y13 y14) (plain_Equal.j0 (k + 1) y0 y1 y2 y3 y4 y5 y6 y7 y8 y9 y10 y11 y12 y13 y14))
 | 0 => fun _ _ _ _ _ _ _ _ _ _ _ _ _ _ _ r h => by simp [plain_Equal.j0] at h
 | k + 1 => by
  have ih0 := plain_Equal.mono_l k
  ·intro y0 y1 y2 y3 y4 y5 y6 y7 y8 y9 y10 y11 y12 y13 y14
   unfold plain_Equal.j0
   repeat' first
   | (with_reducible exact ih0 _ _ _ _ _ _ _ _ _ _ _ _ _ _ _)
   | (with_reducible exact plain_Good.mono _ _ _ _ _ _ _ _)
   | (with_reducible exact plain_order.mono _ _ _ _ _ _ _ _ _ _ _ _ _ _ _)
   | (with_reducible exact LeO.refl _)
   | (with_reducible exact LeO.none _)
   | (with_reducible refine LeO.ite ?_ ?_)
   | (with_reducible refine LeO.bind ?_ (fun _ => ?_))
theorem plain_Equal.mono : ∀ a0 a1 a2 a3 a4 a5 a6 a7 a8 a9 a10 a11 a12 a13 k, LeO (plain_Equal.f k a0 a1 a2 a3 a4 a5 a6 a7 a8 a9 a10 a11 a12 a13) (plain_Equal.f (k + 1) a0 a1 a2 a3 a4 a5 a6 a7 a8 a9 a10 a11 a12 a13) := by
 intro a0 a1 a2 a3 a4 a5 a6 a7 a8 a9 a10 a11 a12 a13 k
 have ih0 := plain_Equal.mono_l k
 unfold plain_Equal.f
 repeat' first
   | (with_reducible exact ih0 _ _ _ _ _ _ _ _ _ _ _ _ _ _ _)
   | (with_reducible exact plain_Good.mono _ _ _ _ _ _ _ _)
   | (with_reducible exact plain_order.mono _ _ _ _ _ _ _ _ _ _ _ _ _ _ _)
   | (with_reducible exact LeO.refl _)
   | (with_reducible exact LeO.none _)
   | (with_reducible refine LeO.ite ?_ ?_)
   | (with_reducible refine LeO.bind ?_ (fun _ => ?_))
set_option maxHeartbeats 8000000 in
set_option maxRecDepth 100000 in
theorem plain_Equal.calls (k : Nat) (a0_0 : Int) (a0_1 : Bool) (a0_2 : Bool) (A0_3 : Option Addr) (c0_3 : Nat) (l0_3 : List Int) (a0_4 : Int) (a0_5 : ByteArray) (A0_6 : Option Addr) (c0_6 : Nat) (l0_6 : List (S28)) (a1_0 : Int) (a1_1 : Bool) (a1_2 : Bool) (A1_3 : Option Addr) (c1_3 : Nat) (l1_3 : List Int) (a1_4 : Int) (a1_5 : ByteArray) (A1_6 : Option Addr) (c1_6 : Nat) (l1_6 : List (S28)) (r : Bool) (w : World) (hr0_3 : Kd.C (Kd.int .u64) w A0_3 l0_3.length l0_3) (hc0_3 : l0_3.length ≤ c0_3) (hr0_6 : Kd.C k28 w A0_6 l0_6.length l0_6) (hc0_6 : l0_6.length ≤ c0_6) (hr1_3 : Kd.C (Kd.int .u64) w A1_3 l1_3.length l1_3) (hc1_3 : l1_3.length ≤ c1_3) (hr1_6 : Kd.C k28 w A1_6 l1_6.length l1_6) (hc1_6 : l1_6.length ≤ c1_6) (h : plain_Equal.f k a0_0 a0_1 a0_2 l0_3 a0_4 a0_5 l0_6 a1_0 a1_1 a1_2 l1_3 a1_4 a1_5 l1_6 = some r) :
  Calls Tryz.prog 8 #[.agg #[.int .i64 a0_0, .bool a0_1, .bool a0_2, .slice A0_3 l0_3.length c0_3, .int .u64 a0_4, .string a0_5, .slice A0_6 l0_6.length c0_6], .agg #[.int .i64 a1_0, .bool a1_1, .bool a1_2, .slice A1_3 l1_3.length c1_3, .int .u64 a1_4, .string a1_5, .slice A1_6 l1_6.length c1_6]] w fun e w' => e = .returned (.bool r) ∧ Below w.heap.size w w' := by
 have hu28 := Tryz.underlying28
 have HR0_3 := Az hr0_3
 have HC0_3 := Az hc0_3
 clear hr0_3 hc0_3
 have HR0_6 := Az hr0_6
 have HC0_6 := Az hc0_6
 clear hr0_6 hc0_6
 have HR1_3 := Az hr1_3
 have HC1_3 := Az hc1_3
 clear hr1_3 hc1_3
 have HR1_6 := Az hr1_6
 have HC1_6 := Az hc1_6
 clear hr1_6 hc1_6
 have HB := Az (Below.refl w.heap.size w)
 have H := h
 unfold plain_Equal.f at H
 clear h
 have HC3 := Az H
 clear H
 go_enter Tryz.func8, Tryz.ntmps8
 go_upto_region 1 with (first | (refine be 2 #[.int .i64 a0_0, .bool a0_1, .bool a0_2, .slice A0_3 l0_3.length c0_3, .int .u64 a0_4, .string a0_5, .slice A0_6 l0_6.length c0_6] 28 ?_; intro gb425 hg w4 hbox hb; have BK425 := Az (hbox); have GW425 := gw (bl HB) hg; have GE425 := gw (bl HB) hg; replace HB := Az (below_step (bl HB) hb); clear hb hbox hg) | (refine be 3 #[.int .i64 a1_0, .bool a1_1, .bool a1_2, .slice A1_3 l1_3.length c1_3, .int .u64 a1_4, .string a1_5, .slice A1_6 l1_6.length c1_6] 28 ?_; intro gb426 hg w5 hbox hb; have BK426 := Az (hbox); have GW426 := gw (bls HB) hg; have GE426 := gw (bls HB) hg; replace HB := Az (below_step (bls HB) hb); have NB425_426 := nl BK425 hg; have NB426_425 := ng BK425 hg; replace BK425 := kb BK425 hb; clear hb hbox hg))
 go_cut [14] (fun v14 wc => ∃ (kq : Nat) (x14_2 : Bool), v14 = .bool x14_2 ∧ Aside0 (plain_Equal.j0 kq x14_2 a0_0 a0_1 a0_2 l0_3 a0_4 a0_5 l0_6 a1_0 a1_1 a1_2 l1_3 a1_4 a1_5 l1_6 = some r) ∧ Aside0 (kq ≤ k) ∧ Aside0 (wc.heap[gb425]? = some (.cells #[.int .i64 a0_0, .bool a0_1, .bool a0_2, (.slice A0_3 l0_3.length c0_3), .int .u64 a0_4, .string a0_5, (.slice A0_6 l0_6.length c0_6)] 28 (0, 0))) ∧ Aside0 (wc.heap[gb426]? = some (.cells #[.int .i64 a1_0, .bool a1_1, .bool a1_2, (.slice A1_3 l1_3.length c1_3), .int .u64 a1_4, .string a1_5, (.slice A1_6 l1_6.length c1_6)] 28 (0, 0))) ∧ Aside0 (Below w.heap.size w wc))
 case first =>
  have H := HC3.out
  clear HC3
  obtain ⟨t427, A6, H⟩ := bd H
  by_cases c7 : t427 = true
  ·subst c7
   rw [if_pos rfl] at H
   obtain ⟨t428, A8, H⟩ := bd H
   have H' := Az H
   clear H
   have hnb9 := NB425_426.out
   have hnc9 := NB426_425.out
   have hz10_1 := bz BK425
   go_wp2_with (first | (refine gl (some 8) Tryz.func25 #[.agg #[.int .i64 a0_0, .bool a0_1, .bool a0_2, .slice A0_3 l0_3.length c0_3, .int .u64 a0_4, .string a0_5, .slice A0_6 l0_6.length c0_6]] ?_; (with_reducible refine (plain_Good.calls k a0_0 a0_1 a0_2 _ _ l0_3 a0_4 a0_5 _ _ l0_6 true _ (ck HR0_3 HB) HC0_3.out (ck HR0_6 HB) HC0_6.out A6.out).mono ?_); rintro e w11 ⟨rfl, hb⟩; refine ⟨_, rfl, ?_⟩; replace BK425 := kb BK425 hb; replace BK426 := kb BK426 hb; replace HB := Az (below_step (bls HB) hb); have hz12_1 := bz BK426) | (go_at_call 25; (with_reducible refine (plain_Good.calls k a1_0 a1_1 a1_2 _ _ l1_3 a1_4 a1_5 _ _ l1_6 t428 _ (ck HR1_3 HB) HC1_3.out (ck HR1_6 HB) HC1_6.out A8.out).mono ?_); rintro e w13 ⟨rfl, hb⟩; replace BK425 := kb BK425 hb; replace BK426 := kb BK426 hb; replace HB := Az (below_step (bls HB) hb)))
   go_meet
   case rel => exact ⟨_, (!t428), rs, H', ⟨le0⟩, ⟨bk BK425⟩, ⟨bk BK426⟩, ⟨bls HB⟩⟩
  ·replace c7 := Bool.eq_false_iff.mpr c7
   subst c7
   rw [if_neg Bool.false_ne_true] at H
   have H' := Az H
   clear H
   have hnb14 := NB425_426.out
   have hnc14 := NB426_425.out
   have hz15_1 := bz BK425
   go_wp2_with (first | (refine gl (some 8) Tryz.func25 #[.agg #[.int .i64 a0_0, .bool a0_1, .bool a0_2, .slice A0_3 l0_3.length c0_3, .int .u64 a0_4, .string a0_5, .slice A0_6 l0_6.length c0_6]] ?_; (with_reducible refine (plain_Good.calls k a0_0 a0_1 a0_2 _ _ l0_3 a0_4 a0_5 _ _ l0_6 false _ (ck HR0_3 HB) HC0_3.out (ck HR0_6 HB) HC0_6.out A6.out).mono ?_); rintro e w16 ⟨rfl, hb⟩; refine ⟨_, rfl, ?_⟩; replace BK425 := kb BK425 hb; replace BK426 := kb BK426 hb; replace HB := Az (below_step (bls HB) hb)))
   go_meet
   case rel => exact ⟨_, (true), rs, H', ⟨le0⟩, ⟨bk BK425⟩, ⟨bk BK426⟩, ⟨bls HB⟩⟩
 case rest =>
  clear HC3
  obtain ⟨kq, x14_2, rfl, HA, HJ2, BK425, BK426, HB⟩ := hcut
  cases kq with
  | zero => exact absurd HA.out (by simp [plain_Equal.j0])
  | succ kj2 =>
   have H := HA.out
   clear HA
   simp only [plain_Equal.j0] at H
   by_cases c17 : x14_2 = true
   ·subst c17
    rw [if_pos rfl] at H
    obtain rfl := Option.some.inj H
    go_wp2
    go_ret
    exact ⟨fe, bls HB⟩
   ·replace c17 := Bool.eq_false_iff.mpr c17
    subst c17
    rw [if_neg Bool.false_ne_true] at H
    obtain ⟨t429, A18, H⟩ := bd H
    by_cases c19 : t429 = true
    ·subst c19
     rw [if_pos rfl] at H
     obtain ⟨t430, A20, H⟩ := bd H
     by_cases c21 : t430 = true
     ·subst c21
      rw [if_pos rfl] at H
      obtain ⟨⟨t431, t432⟩, A22, H⟩ := bd H
      by_cases c23 : t432 = true
      ·subst c23
       rw [if_pos rfl] at H
       obtain rfl := Option.some.inj H
       have hnb24 := NB425_426.out
       have hnc24 := NB426_425.out
       have hz25_1 := bz BK425
       go_wp2_with (first | (refine gl (some 16) Tryz.func26 #[.agg #[.int .i64 a0_0, .bool a0_1, .bool a0_2, .slice A0_3 l0_3.length c0_3, .int .u64 a0_4, .string a0_5, .slice A0_6 l0_6.length c0_6]] ?_; (with_reducible refine (plain_number.calls a0_0 a0_1 a0_2 _ _ l0_3 a0_4 a0_5 _ _ l0_6 true _ (ck HR0_3 HB) HC0_3.out (ck HR0_6 HB) HC0_6.out A18.out).mono ?_); rintro e w26 ⟨rfl, hb⟩; refine ⟨_, rfl, ?_⟩; replace BK425 := kb BK425 hb; replace BK426 := kb BK426 hb; replace HB := Az (below_step (bls HB) hb); have hz27_1 := bz BK426) | (go_at_call 26; (with_reducible refine (plain_number.calls a1_0 a1_1 a1_2 _ _ l1_3 a1_4 a1_5 _ _ l1_6 true _ (ck HR1_3 HB) HC1_3.out (ck HR1_6 HB) HC1_6.out A20.out).mono ?_); rintro e w28 ⟨rfl, hb⟩; replace BK425 := kb BK425 hb; replace BK426 := kb BK426 hb; replace HB := Az (below_step (bls HB) hb); have hz29_1 := bz BK425; have hz30_2 := bz BK426) | (refine gl (some 24) Tryz.func27 #[.agg #[.int .i64 a0_0, .bool a0_1, .bool a0_2, .slice A0_3 l0_3.length c0_3, .int .u64 a0_4, .string a0_5, .slice A0_6 l0_6.length c0_6], .agg #[.int .i64 a1_0, .bool a1_1, .bool a1_2, .slice A1_3 l1_3.length c1_3, .int .u64 a1_4, .string a1_5, .slice A1_6 l1_6.length c1_6]] ?_; (with_reducible refine (plain_order.calls kj2 a0_0 a0_1 a0_2 _ _ l0_3 a0_4 a0_5 _ _ l0_6 a1_0 a1_1 a1_2 _ _ l1_3 a1_4 a1_5 _ _ l1_6 t431 true _ (ck HR0_3 HB) HC0_3.out (ck HR0_6 HB) HC0_6.out (ck HR1_3 HB) HC1_3.out (ck HR1_6 HB) HC1_6.out A22.out).mono ?_); rintro e w31 ⟨rfl, hb⟩; refine ⟨_, rfl, ?_⟩; replace BK425 := kb BK425 hb; replace BK426 := kb BK426 hb; replace HB := Az (below_step (bls HB) hb)))
       go_ret
       exact ⟨fe, bls HB⟩
      ·replace c23 := Bool.eq_false_iff.mpr c23
       subst c23
       rw [if_neg Bool.false_ne_true] at H
       obtain rfl := Option.some.inj H
       have hnb32 := NB425_426.out
       have hnc32 := NB426_425.out
       have hz33_1 := bz BK425
       go_wp2_with (first | (refine gl (some 16) Tryz.func26 #[.agg #[.int .i64 a0_0, .bool a0_1, .bool a0_2, .slice A0_3 l0_3.length c0_3, .int .u64 a0_4, .string a0_5, .slice A0_6 l0_6.length c0_6]] ?_; (with_reducible refine (plain_number.calls a0_0 a0_1 a0_2 _ _ l0_3 a0_4 a0_5 _ _ l0_6 true _ (ck HR0_3 HB) HC0_3.out (ck HR0_6 HB) HC0_6.out A18.out).mono ?_); rintro e w34 ⟨rfl, hb⟩; refine ⟨_, rfl, ?_⟩; replace BK425 := kb BK425 hb; replace BK426 := kb BK426 hb; replace HB := Az (below_step (bls HB) hb); have hz35_1 := bz BK426) | (go_at_call 26; (with_reducible refine (plain_number.calls a1_0 a1_1 a1_2 _ _ l1_3 a1_4 a1_5 _ _ l1_6 true _ (ck HR1_3 HB) HC1_3.out (ck HR1_6 HB) HC1_6.out A20.out).mono ?_); rintro e w36 ⟨rfl, hb⟩; replace BK425 := kb BK425 hb; replace BK426 := kb BK426 hb; replace HB := Az (below_step (bls HB) hb); have hz37_1 := bz BK425; have hz38_2 := bz BK426) | (refine gl (some 24) Tryz.func27 #[.agg #[.int .i64 a0_0, .bool a0_1, .bool a0_2, .slice A0_3 l0_3.length c0_3, .int .u64 a0_4, .string a0_5, .slice A0_6 l0_6.length c0_6], .agg #[.int .i64 a1_0, .bool a1_1, .bool a1_2, .slice A1_3 l1_3.length c1_3, .int .u64 a1_4, .string a1_5, .slice A1_6 l1_6.length c1_6]] ?_; (with_reducible refine (plain_order.calls kj2 a0_0 a0_1 a0_2 _ _ l0_3 a0_4 a0_5 _ _ l0_6 a1_0 a1_1 a1_2 _ _ l1_3 a1_4 a1_5 _ _ l1_6 t431 false _ (ck HR0_3 HB) HC0_3.out (ck HR0_6 HB) HC0_6.out (ck HR1_3 HB) HC1_3.out (ck HR1_6 HB) HC1_6.out A22.out).mono ?_); rintro e w39 ⟨rfl, hb⟩; refine ⟨_, rfl, ?_⟩; replace BK425 := kb BK425 hb; replace BK426 := kb BK426 hb; replace HB := Az (below_step (bls HB) hb)))
       go_ret
       exact ⟨fe, bls HB⟩
     ·replace c21 := Bool.eq_false_iff.mpr c21
      subst c21
      rw [if_neg Bool.false_ne_true] at H
      by_cases c40 : a0_0 = a1_0
      ·rw [if_pos c40] at H
       have c40b0 := beq_iff_eq.mpr c40
       have c40b1 := bne_eq_false_iff_eq.mpr c40
       clear c40
       obtain rfl := Option.some.inj H
       have hnb41 := NB425_426.out
       have hnc41 := NB426_425.out
       have hz42_1 := bz BK425
       go_wp2_with (first | (refine gl (some 16) Tryz.func26 #[.agg #[.int .i64 a0_0, .bool a0_1, .bool a0_2, .slice A0_3 l0_3.length c0_3, .int .u64 a0_4, .string a0_5, .slice A0_6 l0_6.length c0_6]] ?_; (with_reducible refine (plain_number.calls a0_0 a0_1 a0_2 _ _ l0_3 a0_4 a0_5 _ _ l0_6 true _ (ck HR0_3 HB) HC0_3.out (ck HR0_6 HB) HC0_6.out A18.out).mono ?_); rintro e w43 ⟨rfl, hb⟩; refine ⟨_, rfl, ?_⟩; replace BK425 := kb BK425 hb; replace BK426 := kb BK426 hb; replace HB := Az (below_step (bls HB) hb); have hz44_1 := bz BK426) | (go_at_call 26; (with_reducible refine (plain_number.calls a1_0 a1_1 a1_2 _ _ l1_3 a1_4 a1_5 _ _ l1_6 false _ (ck HR1_3 HB) HC1_3.out (ck HR1_6 HB) HC1_6.out A20.out).mono ?_); rintro e w45 ⟨rfl, hb⟩; replace BK425 := kb BK425 hb; replace BK426 := kb BK426 hb; replace HB := Az (below_step (bls HB) hb); have hz46_1 := bz BK425; have hz47_2 := bz BK426))
       go_ret
       exact ⟨fe, bls HB⟩
      ·rw [if_neg c40] at H
       have c40b0 := beq_eq_false_iff_ne.mpr c40
       have c40b1 := bne_iff_ne.mpr c40
       obtain rfl := Option.some.inj H
       have hnb48 := NB425_426.out
       have hnc48 := NB426_425.out
       have hz49_1 := bz BK425
       go_wp2_with (first | (refine gl (some 16) Tryz.func26 #[.agg #[.int .i64 a0_0, .bool a0_1, .bool a0_2, .slice A0_3 l0_3.length c0_3, .int .u64 a0_4, .string a0_5, .slice A0_6 l0_6.length c0_6]] ?_; (with_reducible refine (plain_number.calls a0_0 a0_1 a0_2 _ _ l0_3 a0_4 a0_5 _ _ l0_6 true _ (ck HR0_3 HB) HC0_3.out (ck HR0_6 HB) HC0_6.out A18.out).mono ?_); rintro e w50 ⟨rfl, hb⟩; refine ⟨_, rfl, ?_⟩; replace BK425 := kb BK425 hb; replace BK426 := kb BK426 hb; replace HB := Az (below_step (bls HB) hb); have hz51_1 := bz BK426) | (go_at_call 26; (with_reducible refine (plain_number.calls a1_0 a1_1 a1_2 _ _ l1_3 a1_4 a1_5 _ _ l1_6 false _ (ck HR1_3 HB) HC1_3.out (ck HR1_6 HB) HC1_6.out A20.out).mono ?_); rintro e w52 ⟨rfl, hb⟩; replace BK425 := kb BK425 hb; replace BK426 := kb BK426 hb; replace HB := Az (below_step (bls HB) hb); have hz53_1 := bz BK425; have hz54_2 := bz BK426))
       go_ret
       exact ⟨fe, bls HB⟩
    ·replace c19 := Bool.eq_false_iff.mpr c19
     subst c19
     rw [if_neg Bool.false_ne_true] at H
     by_cases c55 : a0_0 = a1_0
     ·rw [if_pos c55] at H
      have c55b0 := beq_iff_eq.mpr c55
      have c55b1 := bne_eq_false_iff_eq.mpr c55
      clear c55
      obtain rfl := Option.some.inj H
      have hnb56 := NB425_426.out
      have hnc56 := NB426_425.out
      have hz57_1 := bz BK425
      go_wp2_with (first | (refine gl (some 16) Tryz.func26 #[.agg #[.int .i64 a0_0, .bool a0_1, .bool a0_2, .slice A0_3 l0_3.length c0_3, .int .u64 a0_4, .string a0_5, .slice A0_6 l0_6.length c0_6]] ?_; (with_reducible refine (plain_number.calls a0_0 a0_1 a0_2 _ _ l0_3 a0_4 a0_5 _ _ l0_6 false _ (ck HR0_3 HB) HC0_3.out (ck HR0_6 HB) HC0_6.out A18.out).mono ?_); rintro e w58 ⟨rfl, hb⟩; refine ⟨_, rfl, ?_⟩; replace BK425 := kb BK425 hb; replace BK426 := kb BK426 hb; replace HB := Az (below_step (bls HB) hb); have hz59_1 := bz BK425; have hz60_2 := bz BK426))
      go_ret
      exact ⟨fe, bls HB⟩
     ·rw [if_neg c55] at H
      have c55b0 := beq_eq_false_iff_ne.mpr c55
      have c55b1 := bne_iff_ne.mpr c55
      obtain rfl := Option.some.inj H
      have hnb61 := NB425_426.out
      have hnc61 := NB426_425.out
      have hz62_1 := bz BK425
      go_wp2_with (first | (refine gl (some 16) Tryz.func26 #[.agg #[.int .i64 a0_0, .bool a0_1, .bool a0_2, .slice A0_3 l0_3.length c0_3, .int .u64 a0_4, .string a0_5, .slice A0_6 l0_6.length c0_6]] ?_; (with_reducible refine (plain_number.calls a0_0 a0_1 a0_2 _ _ l0_3 a0_4 a0_5 _ _ l0_6 false _ (ck HR0_3 HB) HC0_3.out (ck HR0_6 HB) HC0_6.out A18.out).mono ?_); rintro e w63 ⟨rfl, hb⟩; refine ⟨_, rfl, ?_⟩; replace BK425 := kb BK425 hb; replace BK426 := kb BK426 hb; replace HB := Az (below_step (bls HB) hb); have hz64_1 := bz BK425; have hz65_2 := bz BK426))
      go_ret
      exact ⟨fe, bls HB⟩
def strings_Compare.f (a0 : ByteArray) (a1 : ByteArray) : Option Int := some (Lib.compareBytes a0.data.toList a1.data.toList)
theorem strings_Compare.calls (a0 : ByteArray) (a1 : ByteArray) (r : Int) (w : World) (h : strings_Compare.f a0 a1 = some r) :
  Calls Tryz.prog 28 #[.string a0, .string a1] w fun e w' => e = .returned (.int .i64 r) ∧ Drawn0 w w' := by
 obtain rfl := Option.some.inj h
 refine (Tryz.strings_Compare a0 a1 w).mono ?_
 rintro e w' ⟨rfl, rfl⟩
 exact ⟨rfl, Drawn0.refl _⟩
mutual
def plain_Order.j0 : Nat → Bool → Int → Bool → Bool → List Int → Int → ByteArray → List (S28) → Int → Bool → Bool → List Int → Int → ByteArray → List (S28) → Option (Int × Bool × Int)
 | 0, _, _, _, _, _, _, _, _, _, _, _, _, _, _, _ => none
 | k + 1, x16, x687000, x687001, x687002, x687003, x687004, x687005, x687006, x688000, x688001, x688002, x688003, x688004, x688005, x688006 => if x16 = true then (some (0, false, 3)) else ((plain_number.f x687000 x687001 x687002 x687003 x687004 x687005 x687006).bind fun t690 => (if t690 = true then ((plain_number.f x688000 x688001 x688002 x688003 x688004 x688005 x688006).bind fun t691 => (plain_Order.j1 k t691 x687000 x687001 x687002 x687003 x687004 x687005 x687006 x688000 x688001 x688002 x688003 x688004 x688005 x688006)) else (plain_Order.j1 k false x687000 x687001 x687002 x687003 x687004 x687005 x687006 x688000 x688001 x688002 x688003 x688004 x688005 x688006)))
def plain_Order.j1 : Nat → Bool → Int → Bool → Bool → List Int → Int → ByteArray → List (S28) → Int → Bool → Bool → List Int → Int → ByteArray → List (S28) → Option (Int × Bool × Int)
 | 0, _, _, _, _, _, _, _, _, _, _, _, _, _, _, _ => none
 | k + 1, x22, x687000, x687001, x687002, x687003, x687004, x687005, x687006, x688000, x688001, x688002, x688003, x688004, x688005, x688006 => if x22 = true then ((plain_order.f k x687000 x687001 x687002 x687003 x687004 x687005 x687006 x688000 x688001 x688002 x688003 x688004 x688005 x688006).bind fun bt692 => (some (bt692.1, bt692.2, 0))) else (if x687000 = 4 then (if x688000 = 4 then ((strings_Compare.f x687005 x688005).bind fun t694 => (some (t694, true, 0))) else (some (0, false, 9))) else (some (0, false, 9)))
end
def plain_Order.f (k : Nat) (a0_0 : Int) (a0_1 : Bool) (a0_2 : Bool) (l0_3 : List Int) (a0_4 : Int) (a0_5 : ByteArray) (l0_6 : List (S28)) (a1_0 : Int) (a1_1 : Bool) (a1_2 : Bool) (l1_3 : List Int) (a1_4 : Int) (a1_5 : ByteArray) (l1_6 : List (S28)) : Option (Int × Bool × Int) := (plain_Good.f k a0_0 a0_1 a0_2 l0_3 a0_4 a0_5 l0_6).bind fun t688 => (if t688 = true then ((plain_Good.f k a1_0 a1_1 a1_2 l1_3 a1_4 a1_5 l1_6).bind fun t689 => (plain_Order.j0 k (!t689) a0_0 a0_1 a0_2 l0_3 a0_4 a0_5 l0_6 a1_0 a1_1 a1_2 l1_3 a1_4 a1_5 l1_6)) else (plain_Order.j0 k true a0_0 a0_1 a0_2 l0_3 a0_4 a0_5 l0_6 a1_0 a1_1 a1_2 l1_3 a1_4 a1_5 l1_6))
set_option maxHeartbeats 8000000 in
set_option maxRecDepth 100000 in
theorem plain_Order.calls (k : Nat) (a0_0 : Int) (a0_1 : Bool) (a0_2 : Bool) (A0_3 : Option Addr) (c0_3 : Nat) (l0_3 : List Int) (a0_4 : Int) (a0_5 : ByteArray) (A0_6 : Option Addr) (c0_6 : Nat) (l0_6 : List (S28)) (a1_0 : Int) (a1_1 : Bool) (a1_2 : Bool) (A1_3 : Option Addr) (c1_3 : Nat) (l1_3 : List Int) (a1_4 : Int) (a1_5 : ByteArray) (A1_6 : Option Addr) (c1_6 : Nat) (l1_6 : List (S28)) (r1 : Int) (r2 : Bool) (r3 : Int) (w : World) (hr0_3 : Kd.C (Kd.int .u64) w A0_3 l0_3.length l0_3) (hc0_3 : l0_3.length ≤ c0_3) (hr0_6 : Kd.C k28 w A0_6 l0_6.length l0_6) (hc0_6 : l0_6.length ≤ c0_6) (hr1_3 : Kd.C (Kd.int .u64) w A1_3 l1_3.length l1_3) (hc1_3 : l1_3.length ≤ c1_3) (hr1_6 : Kd.C k28 w A1_6 l1_6.length l1_6) (hc1_6 : l1_6.length ≤ c1_6) (h : plain_Order.f k a0_0 a0_1 a0_2 l0_3 a0_4 a0_5 l0_6 a1_0 a1_1 a1_2 l1_3 a1_4 a1_5 l1_6 = some (r1, r2, r3)) :
  Calls Tryz.prog 6 #[.agg #[.int .i64 a0_0, .bool a0_1, .bool a0_2, .slice A0_3 l0_3.length c0_3, .int .u64 a0_4, .string a0_5, .slice A0_6 l0_6.length c0_6], .agg #[.int .i64 a1_0, .bool a1_1, .bool a1_2, .slice A1_3 l1_3.length c1_3, .int .u64 a1_4, .string a1_5, .slice A1_6 l1_6.length c1_6]] w fun e w' => e = .returned (.tuple #[.int .i64 r1, .bool r2, .int .i64 r3]) ∧ Below w.heap.size w w' := by
 have hu28 := Tryz.underlying28
 have HR0_3 := Az hr0_3
 have HC0_3 := Az hc0_3
 clear hr0_3 hc0_3
 have HR0_6 := Az hr0_6
 have HC0_6 := Az hc0_6
 clear hr0_6 hc0_6
 have HR1_3 := Az hr1_3
 have HC1_3 := Az hc1_3
 clear hr1_3 hc1_3
 have HR1_6 := Az hr1_6
 have HC1_6 := Az hc1_6
 clear hr1_6 hc1_6
 have HB := Az (Below.refl w.heap.size w)
 have H := h
 unfold plain_Order.f at H
 clear h
 have HC3 := Az H
 clear H
 go_enter Tryz.func6, Tryz.ntmps6
 go_upto_region 1 with (first | (refine be 2 #[.int .i64 a0_0, .bool a0_1, .bool a0_2, .slice A0_3 l0_3.length c0_3, .int .u64 a0_4, .string a0_5, .slice A0_6 l0_6.length c0_6] 28 ?_; intro gb686 hg w4 hbox hb; have BK686 := Az (hbox); have GW686 := gw (bl HB) hg; have GE686 := gw (bl HB) hg; replace HB := Az (below_step (bl HB) hb); clear hb hbox hg) | (refine be 3 #[.int .i64 a1_0, .bool a1_1, .bool a1_2, .slice A1_3 l1_3.length c1_3, .int .u64 a1_4, .string a1_5, .slice A1_6 l1_6.length c1_6] 28 ?_; intro gb687 hg w5 hbox hb; have BK687 := Az (hbox); have GW687 := gw (bls HB) hg; have GE687 := gw (bls HB) hg; replace HB := Az (below_step (bls HB) hb); have NB686_687 := nl BK686 hg; have NB687_686 := ng BK686 hg; replace BK686 := kb BK686 hb; clear hb hbox hg))
 go_cut [16] (fun v16 wc => ∃ (kq : Nat) (x16_2 : Bool), v16 = .bool x16_2 ∧ Aside0 (plain_Order.j0 kq x16_2 a0_0 a0_1 a0_2 l0_3 a0_4 a0_5 l0_6 a1_0 a1_1 a1_2 l1_3 a1_4 a1_5 l1_6 = some (r1, r2, r3)) ∧ Aside0 (kq ≤ k) ∧ Aside0 (wc.heap[gb686]? = some (.cells #[.int .i64 a0_0, .bool a0_1, .bool a0_2, (.slice A0_3 l0_3.length c0_3), .int .u64 a0_4, .string a0_5, (.slice A0_6 l0_6.length c0_6)] 28 (0, 0))) ∧ Aside0 (wc.heap[gb687]? = some (.cells #[.int .i64 a1_0, .bool a1_1, .bool a1_2, (.slice A1_3 l1_3.length c1_3), .int .u64 a1_4, .string a1_5, (.slice A1_6 l1_6.length c1_6)] 28 (0, 0))) ∧ Aside0 (Below w.heap.size w wc))
 case first =>
  have H := HC3.out
  clear HC3
  obtain ⟨t688, A6, H⟩ := bd H
  by_cases c7 : t688 = true
  ·subst c7
   rw [if_pos rfl] at H
   obtain ⟨t689, A8, H⟩ := bd H
   have H' := Az H
   clear H
   have hnb9 := NB686_687.out
   have hnc9 := NB687_686.out
   have hz10_1 := bz BK686
   go_wp2_with (first | (refine gl (some 10) Tryz.func25 #[.agg #[.int .i64 a0_0, .bool a0_1, .bool a0_2, .slice A0_3 l0_3.length c0_3, .int .u64 a0_4, .string a0_5, .slice A0_6 l0_6.length c0_6]] ?_; (with_reducible refine (plain_Good.calls k a0_0 a0_1 a0_2 _ _ l0_3 a0_4 a0_5 _ _ l0_6 true _ (ck HR0_3 HB) HC0_3.out (ck HR0_6 HB) HC0_6.out A6.out).mono ?_); rintro e w11 ⟨rfl, hb⟩; refine ⟨_, rfl, ?_⟩; replace BK686 := kb BK686 hb; replace BK687 := kb BK687 hb; replace HB := Az (below_step (bls HB) hb); have hz12_1 := bz BK687) | (go_at_call 25; (with_reducible refine (plain_Good.calls k a1_0 a1_1 a1_2 _ _ l1_3 a1_4 a1_5 _ _ l1_6 t689 _ (ck HR1_3 HB) HC1_3.out (ck HR1_6 HB) HC1_6.out A8.out).mono ?_); rintro e w13 ⟨rfl, hb⟩; replace BK686 := kb BK686 hb; replace BK687 := kb BK687 hb; replace HB := Az (below_step (bls HB) hb)))
   go_meet
   case rel => exact ⟨_, (!t689), rs, H', ⟨le0⟩, ⟨bk BK686⟩, ⟨bk BK687⟩, ⟨bls HB⟩⟩
  ·replace c7 := Bool.eq_false_iff.mpr c7
   subst c7
   rw [if_neg Bool.false_ne_true] at H
   have H' := Az H
   clear H
   have hnb14 := NB686_687.out
   have hnc14 := NB687_686.out
   have hz15_1 := bz BK686
   go_wp2_with (first | (refine gl (some 10) Tryz.func25 #[.agg #[.int .i64 a0_0, .bool a0_1, .bool a0_2, .slice A0_3 l0_3.length c0_3, .int .u64 a0_4, .string a0_5, .slice A0_6 l0_6.length c0_6]] ?_; (with_reducible refine (plain_Good.calls k a0_0 a0_1 a0_2 _ _ l0_3 a0_4 a0_5 _ _ l0_6 false _ (ck HR0_3 HB) HC0_3.out (ck HR0_6 HB) HC0_6.out A6.out).mono ?_); rintro e w16 ⟨rfl, hb⟩; refine ⟨_, rfl, ?_⟩; replace BK686 := kb BK686 hb; replace BK687 := kb BK687 hb; replace HB := Az (below_step (bls HB) hb)))
   go_meet
   case rel => exact ⟨_, (true), rs, H', ⟨le0⟩, ⟨bk BK686⟩, ⟨bk BK687⟩, ⟨bls HB⟩⟩
 case rest =>
  clear HC3
  obtain ⟨kq, x16_2, rfl, HA, HJ2, BK686, BK687, HB⟩ := hcut
  cases kq with
  | zero => exact absurd HA.out (by simp [plain_Order.j0])
  | succ kj2 =>
   have H := HA.out
   clear HA
   simp only [plain_Order.j0] at H
   by_cases c17 : x16_2 = true
   ·subst c17
    rw [if_pos rfl] at H
    simp only [Option.some.injEq, Prod.mk.injEq] at H
    obtain ⟨rfl, rfl, rfl⟩ := H
    go_wp2
    go_ret3
    exact ⟨fe, bls HB⟩
   ·replace c17 := Bool.eq_false_iff.mpr c17
    subst c17
    rw [if_neg Bool.false_ne_true] at H
    have HC18 := Az H
    clear H
    go_upto_region 3 with (fail)
    go_cut [22] (fun v22 wc => ∃ (kq : Nat) (x22_17 : Bool), v22 = .bool x22_17 ∧ Aside0 (plain_Order.j1 kq x22_17 a0_0 a0_1 a0_2 l0_3 a0_4 a0_5 l0_6 a1_0 a1_1 a1_2 l1_3 a1_4 a1_5 l1_6 = some (r1, r2, r3)) ∧ Aside0 (kq ≤ kj2) ∧ Aside0 (wc.heap[gb686]? = some (.cells #[.int .i64 a0_0, .bool a0_1, .bool a0_2, (.slice A0_3 l0_3.length c0_3), .int .u64 a0_4, .string a0_5, (.slice A0_6 l0_6.length c0_6)] 28 (0, 0))) ∧ Aside0 (wc.heap[gb687]? = some (.cells #[.int .i64 a1_0, .bool a1_1, .bool a1_2, (.slice A1_3 l1_3.length c1_3), .int .u64 a1_4, .string a1_5, (.slice A1_6 l1_6.length c1_6)] 28 (0, 0))) ∧ Aside0 (Below w.heap.size w wc))
    case first =>
     have H := HC18.out
     clear HC18
     obtain ⟨t690, A19, H⟩ := bd H
     by_cases c20 : t690 = true
     ·subst c20
      rw [if_pos rfl] at H
      obtain ⟨t691, A21, H⟩ := bd H
      have H' := Az H
      clear H
      have hnb22 := NB686_687.out
      have hnc22 := NB687_686.out
      have hz23_1 := bz BK686
      go_wp2_with (first | (refine gl (some 18) Tryz.func26 #[.agg #[.int .i64 a0_0, .bool a0_1, .bool a0_2, .slice A0_3 l0_3.length c0_3, .int .u64 a0_4, .string a0_5, .slice A0_6 l0_6.length c0_6]] ?_; (with_reducible refine (plain_number.calls a0_0 a0_1 a0_2 _ _ l0_3 a0_4 a0_5 _ _ l0_6 true _ (ck HR0_3 HB) HC0_3.out (ck HR0_6 HB) HC0_6.out A19.out).mono ?_); rintro e w24 ⟨rfl, hb⟩; refine ⟨_, rfl, ?_⟩; replace BK686 := kb BK686 hb; replace BK687 := kb BK687 hb; replace HB := Az (below_step (bls HB) hb); have hz25_1 := bz BK687) | (go_at_call 26; (with_reducible refine (plain_number.calls a1_0 a1_1 a1_2 _ _ l1_3 a1_4 a1_5 _ _ l1_6 t691 _ (ck HR1_3 HB) HC1_3.out (ck HR1_6 HB) HC1_6.out A21.out).mono ?_); rintro e w26 ⟨rfl, hb⟩; replace BK686 := kb BK686 hb; replace BK687 := kb BK687 hb; replace HB := Az (below_step (bls HB) hb)))
      go_meet
      case rel => exact ⟨_, (t691), rs, H', ⟨le1 HJ2⟩, ⟨bk BK686⟩, ⟨bk BK687⟩, ⟨bls HB⟩⟩
     ·replace c20 := Bool.eq_false_iff.mpr c20
      subst c20
      rw [if_neg Bool.false_ne_true] at H
      have H' := Az H
      clear H
      have hnb27 := NB686_687.out
      have hnc27 := NB687_686.out
      have hz28_1 := bz BK686
      go_wp2_with (first | (refine gl (some 18) Tryz.func26 #[.agg #[.int .i64 a0_0, .bool a0_1, .bool a0_2, .slice A0_3 l0_3.length c0_3, .int .u64 a0_4, .string a0_5, .slice A0_6 l0_6.length c0_6]] ?_; (with_reducible refine (plain_number.calls a0_0 a0_1 a0_2 _ _ l0_3 a0_4 a0_5 _ _ l0_6 false _ (ck HR0_3 HB) HC0_3.out (ck HR0_6 HB) HC0_6.out A19.out).mono ?_); rintro e w29 ⟨rfl, hb⟩; refine ⟨_, rfl, ?_⟩; replace BK686 := kb BK686 hb; replace BK687 := kb BK687 hb; replace HB := Az (below_step (bls HB) hb)))
      go_meet
      case rel => exact ⟨_, (false), rs, H', ⟨le1 HJ2⟩, ⟨bk BK686⟩, ⟨bk BK687⟩, ⟨bls HB⟩⟩
    case rest =>
     clear HC18
     obtain ⟨kq, x22_17, rfl, HA, HJ17, BK686, BK687, HB⟩ := hcut
     cases kq with
     | zero => exact absurd HA.out (by simp [plain_Order.j1])
     | succ kj17 =>
      have H := HA.out
      clear HA
      simp only [plain_Order.j1] at H
      by_cases c30 : x22_17 = true
      ·subst c30
       rw [if_pos rfl] at H
       obtain ⟨⟨t692, t693⟩, A31, H⟩ := bd H
       simp only [Option.some.injEq, Prod.mk.injEq] at H
       obtain ⟨rfl, rfl, rfl⟩ := H
       have hnb32 := NB686_687.out
       have hnc32 := NB687_686.out
       have hz33_1 := bz BK686
       have hz34_2 := bz BK687
       go_wp2_with (first | (refine gl (some 26) Tryz.func27 #[.agg #[.int .i64 a0_0, .bool a0_1, .bool a0_2, .slice A0_3 l0_3.length c0_3, .int .u64 a0_4, .string a0_5, .slice A0_6 l0_6.length c0_6], .agg #[.int .i64 a1_0, .bool a1_1, .bool a1_2, .slice A1_3 l1_3.length c1_3, .int .u64 a1_4, .string a1_5, .slice A1_6 l1_6.length c1_6]] ?_; (with_reducible refine (plain_order.calls kj17 a0_0 a0_1 a0_2 _ _ l0_3 a0_4 a0_5 _ _ l0_6 a1_0 a1_1 a1_2 _ _ l1_3 a1_4 a1_5 _ _ l1_6 t692 t693 _ (ck HR0_3 HB) HC0_3.out (ck HR0_6 HB) HC0_6.out (ck HR1_3 HB) HC1_3.out (ck HR1_6 HB) HC1_6.out A31.out).mono ?_); rintro e w35 ⟨rfl, hb⟩; refine ⟨_, rfl, ?_⟩; replace BK686 := kb BK686 hb; replace BK687 := kb BK687 hb; replace HB := Az (below_step (bls HB) hb)))
       go_ret3
       exact ⟨fe, bls HB⟩
      ·replace c30 := Bool.eq_false_iff.mpr c30
       subst c30
       rw [if_neg Bool.false_ne_true] at H
       by_cases c36 : a0_0 = 4
       ·rw [if_pos c36] at H
        have c36b0 := beq_iff_eq.mpr c36
        have c36b1 := bne_eq_false_iff_eq.mpr c36
        clear c36
        by_cases c37 : a1_0 = 4
        ·rw [if_pos c37] at H
         have c37b0 := beq_iff_eq.mpr c37
         have c37b1 := bne_eq_false_iff_eq.mpr c37
         clear c37
         obtain ⟨t694, A38, H⟩ := bd H
         simp only [Option.some.injEq, Prod.mk.injEq] at H
         obtain ⟨rfl, rfl, rfl⟩ := H
         have hnb39 := NB686_687.out
         have hnc39 := NB687_686.out
         have hz40_1 := bz BK686
         have hz41_2 := bz BK687
         go_wp2_with (first | (refine gl (some 43) Tryz.func28 #[.string a0_5, .string a1_5] ?_; (with_reducible refine (strings_Compare.calls a0_5 a1_5 t694 _ A38.out).mono ?_); rintro e w' ⟨rfl, ⟨nd, rfl⟩⟩; refine ⟨_, rfl, ?_⟩))
         go_ret3
         exact ⟨fe, bls HB⟩
        ·rw [if_neg c37] at H
         have c37b0 := beq_eq_false_iff_ne.mpr c37
         have c37b1 := bne_iff_ne.mpr c37
         simp only [Option.some.injEq, Prod.mk.injEq] at H
         obtain ⟨rfl, rfl, rfl⟩ := H
         have hnb42 := NB686_687.out
         have hnc42 := NB687_686.out
         have hz43_1 := bz BK686
         have hz44_2 := bz BK687
         go_wp2
         go_ret3
         exact ⟨fe, bls HB⟩
       ·rw [if_neg c36] at H
        have c36b0 := beq_eq_false_iff_ne.mpr c36
        have c36b1 := bne_iff_ne.mpr c36
        simp only [Option.some.injEq, Prod.mk.injEq] at H
        obtain ⟨rfl, rfl, rfl⟩ := H
        have hnb45 := NB686_687.out
        have hnc45 := NB687_686.out
        have hz46_1 := bz BK686
        go_wp2
        go_ret3
        exact ⟨fe, bls HB⟩
def real_Neg.f (a0 : Int) : Option (Int) := (real_bare.f (Op.negFloat .f64 (Int.toNat a0))).bind fun t500 => (some t500)
set_option maxHeartbeats 8000000 in
set_option maxRecDepth 100000 in
theorem real_Neg.calls (a0 : Int) (r : Int) (w : World) (h : real_Neg.f a0 = some r) :
  Calls Tryz.prog 30 #[.int .u64 a0] w fun e w' => e = .returned (.int .u64 r) ∧ Drawn0 w w' := by
 have H := h
 unfold real_Neg.f at H
 clear h
 obtain ⟨t500, A2, H⟩ := bd H
 obtain rfl := Option.some.inj H
 go_enter Tryz.func30, Tryz.ntmps30
 go_wp2_with (first | (refine gl (some 6) Tryz.func52 #[.float .f64 (Op.negFloat .f64 (Int.toNat a0))] ?_; (with_reducible refine (real_bare.calls (Op.negFloat .f64 (Int.toNat a0)) t500 _ A2.out).mono ?_); rintro e w' ⟨rfl, ⟨nd, rfl⟩⟩; refine ⟨_, rfl, ?_⟩))
 go_ret
 exact ⟨by first | rfl | (simp; done) | (simp [*]; done), by repeat (first | exact Drawn0.refl _ | apply Drawn0.step)⟩
def plain_Same.j0 : Nat → Bool → Int → Bool → Bool → List Int → Int → ByteArray → List (S28) → Int → Bool → Bool → List Int → Int → ByteArray → List (S28) → Option (Bool)
 | 0, _, _, _, _, _, _, _, _, _, _, _, _, _, _, _ => none
 | k + 1, x19, x705000, x705001, x705002, x705003, x705004, x705005, x705006, x706000, x706001, x706002, x706003, x706004, x706005, x706006 => if x19 = true then (some false) else (if x705000 = 2 then ((whole_Cmp.f k x705002 x705003 x706002 x706003).bind fun t708 => (some (t708 == 0))) else (if x705000 = 3 then ((real_Neg.f x705004).bind fun t709 => ((real_Neg.f x706004).bind fun t710 => (some (t709 == t710)))) else (if (x705001 == x706001) = true then (some (x705005.toList == x706005.toList)) else (some false))))
def plain_Same.f (k : Nat) (a0_0 : Int) (a0_1 : Bool) (a0_2 : Bool) (l0_3 : List Int) (a0_4 : Int) (a0_5 : ByteArray) (l0_6 : List (S28)) (a1_0 : Int) (a1_1 : Bool) (a1_2 : Bool) (l1_3 : List Int) (a1_4 : Int) (a1_5 : ByteArray) (l1_6 : List (S28)) : Option (Bool) := (plain_Good.f k a0_0 a0_1 a0_2 l0_3 a0_4 a0_5 l0_6).bind fun t706 => (if t706 = true then ((plain_Good.f k a1_0 a1_1 a1_2 l1_3 a1_4 a1_5 l1_6).bind fun t707 => (if t707 = true then (plain_Same.j0 k (a0_0 != a1_0) a0_0 a0_1 a0_2 l0_3 a0_4 a0_5 l0_6 a1_0 a1_1 a1_2 l1_3 a1_4 a1_5 l1_6) else (plain_Same.j0 k true a0_0 a0_1 a0_2 l0_3 a0_4 a0_5 l0_6 a1_0 a1_1 a1_2 l1_3 a1_4 a1_5 l1_6))) else (plain_Same.j0 k true a0_0 a0_1 a0_2 l0_3 a0_4 a0_5 l0_6 a1_0 a1_1 a1_2 l1_3 a1_4 a1_5 l1_6))
set_option maxHeartbeats 8000000 in
set_option maxRecDepth 100000 in
theorem plain_Same.calls (k : Nat) (a0_0 : Int) (a0_1 : Bool) (a0_2 : Bool) (A0_3 : Option Addr) (c0_3 : Nat) (l0_3 : List Int) (a0_4 : Int) (a0_5 : ByteArray) (A0_6 : Option Addr) (c0_6 : Nat) (l0_6 : List (S28)) (a1_0 : Int) (a1_1 : Bool) (a1_2 : Bool) (A1_3 : Option Addr) (c1_3 : Nat) (l1_3 : List Int) (a1_4 : Int) (a1_5 : ByteArray) (A1_6 : Option Addr) (c1_6 : Nat) (l1_6 : List (S28)) (r : Bool) (w : World) (hr0_3 : Kd.C (Kd.int .u64) w A0_3 l0_3.length l0_3) (hc0_3 : l0_3.length ≤ c0_3) (hr0_6 : Kd.C k28 w A0_6 l0_6.length l0_6) (hc0_6 : l0_6.length ≤ c0_6) (hr1_3 : Kd.C (Kd.int .u64) w A1_3 l1_3.length l1_3) (hc1_3 : l1_3.length ≤ c1_3) (hr1_6 : Kd.C k28 w A1_6 l1_6.length l1_6) (hc1_6 : l1_6.length ≤ c1_6) (h : plain_Same.f k a0_0 a0_1 a0_2 l0_3 a0_4 a0_5 l0_6 a1_0 a1_1 a1_2 l1_3 a1_4 a1_5 l1_6 = some r) :
  Calls Tryz.prog 9 #[.agg #[.int .i64 a0_0, .bool a0_1, .bool a0_2, .slice A0_3 l0_3.length c0_3, .int .u64 a0_4, .string a0_5, .slice A0_6 l0_6.length c0_6], .agg #[.int .i64 a1_0, .bool a1_1, .bool a1_2, .slice A1_3 l1_3.length c1_3, .int .u64 a1_4, .string a1_5, .slice A1_6 l1_6.length c1_6]] w fun e w' => e = .returned (.bool r) ∧ Below w.heap.size w w' := by
 have hu28 := Tryz.underlying28
 have hu24 := Tryz.underlying24
 have HR0_3 := Az hr0_3
 have HC0_3 := Az hc0_3
 clear hr0_3 hc0_3
 have HR0_6 := Az hr0_6
 have HC0_6 := Az hc0_6
 clear hr0_6 hc0_6
 have HR1_3 := Az hr1_3
 have HC1_3 := Az hc1_3
 clear hr1_3 hc1_3
 have HR1_6 := Az hr1_6
 have HC1_6 := Az hc1_6
 clear hr1_6 hc1_6
 have HB := Az (Below.refl w.heap.size w)
 have H := h
 unfold plain_Same.f at H
 clear h
 have HC3 := Az H
 clear H
 go_enter Tryz.func9, Tryz.ntmps9
 go_upto_region 1 with (first | (refine be 2 #[.int .i64 a0_0, .bool a0_1, .bool a0_2, .slice A0_3 l0_3.length c0_3, .int .u64 a0_4, .string a0_5, .slice A0_6 l0_6.length c0_6] 28 ?_; intro gb704 hg w4 hbox hb; have BK704 := Az (hbox); have GW704 := gw (bl HB) hg; have GE704 := gw (bl HB) hg; replace HB := Az (below_step (bl HB) hb); clear hb hbox hg) | (refine be 3 #[.int .i64 a1_0, .bool a1_1, .bool a1_2, .slice A1_3 l1_3.length c1_3, .int .u64 a1_4, .string a1_5, .slice A1_6 l1_6.length c1_6] 28 ?_; intro gb705 hg w5 hbox hb; have BK705 := Az (hbox); have GW705 := gw (bls HB) hg; have GE705 := gw (bls HB) hg; replace HB := Az (below_step (bls HB) hb); have NB704_705 := nl BK704 hg; have NB705_704 := ng BK704 hg; replace BK704 := kb BK704 hb; clear hb hbox hg))
 repeat (go_quiet (first | (refine be 2 #[.int .i64 a0_0, .bool a0_1, .bool a0_2, .slice A0_3 l0_3.length c0_3, .int .u64 a0_4, .string a0_5, .slice A0_6 l0_6.length c0_6] 28 ?_; intro gb704 hg w4 hbox hb; have BK704 := Az (hbox); have GW704 := gw (bl HB) hg; have GE704 := gw (bl HB) hg; replace HB := Az (below_step (bl HB) hb); clear hb hbox hg) | (refine be 3 #[.int .i64 a1_0, .bool a1_1, .bool a1_2, .slice A1_3 l1_3.length c1_3, .int .u64 a1_4, .string a1_5, .slice A1_6 l1_6.length c1_6] 28 ?_; intro gb705 hg w5 hbox hb; have BK705 := Az (hbox); have GW705 := gw (bls HB) hg; have GE705 := gw (bls HB) hg; replace HB := Az (below_step (bls HB) hb); have NB704_705 := nl BK704 hg; have NB705_704 := ng BK704 hg; replace BK704 := kb BK704 hb; clear hb hbox hg)); go_upto_region 1 with (first | (refine be 2 #[.int .i64 a0_0, .bool a0_1, .bool a0_2, .slice A0_3 l0_3.length c0_3, .int .u64 a0_4, .string a0_5, .slice A0_6 l0_6.length c0_6] 28 ?_; intro gb704 hg w4 hbox hb; have BK704 := Az (hbox); have GW704 := gw (bl HB) hg; have GE704 := gw (bl HB) hg; replace HB := Az (below_step (bl HB) hb); clear hb hbox hg) | (refine be 3 #[.int .i64 a1_0, .bool a1_1, .bool a1_2, .slice A1_3 l1_3.length c1_3, .int .u64 a1_4, .string a1_5, .slice A1_6 l1_6.length c1_6] 28 ?_; intro gb705 hg w5 hbox hb; have BK705 := Az (hbox); have GW705 := gw (bls HB) hg; have GE705 := gw (bls HB) hg; replace HB := Az (below_step (bls HB) hb); have NB704_705 := nl BK704 hg; have NB705_704 := ng BK704 hg; replace BK704 := kb BK704 hb; clear hb hbox hg)))
 go_cut [19] (fun v19 wc => ∃ (kq : Nat) (x19_2 : Bool), v19 = .bool x19_2 ∧ Aside0 (plain_Same.j0 kq x19_2 a0_0 a0_1 a0_2 l0_3 a0_4 a0_5 l0_6 a1_0 a1_1 a1_2 l1_3 a1_4 a1_5 l1_6 = some r) ∧ Aside0 (kq ≤ k) ∧ Aside0 (wc.heap[gb704]? = some (.cells #[.int .i64 a0_0, .bool a0_1, .bool a0_2, (.slice A0_3 l0_3.length c0_3), .int .u64 a0_4, .string a0_5, (.slice A0_6 l0_6.length c0_6)] 28 (0, 0))) ∧ Aside0 (wc.heap[gb705]? = some (.cells #[.int .i64 a1_0, .bool a1_1, .bool a1_2, (.slice A1_3 l1_3.length c1_3), .int .u64 a1_4, .string a1_5, (.slice A1_6 l1_6.length c1_6)] 28 (0, 0))) ∧ Aside0 (Below w.heap.size w wc))
 case first =>
  have H := HC3.out
  clear HC3
  obtain ⟨t706, A6, H⟩ := bd H
  by_cases c7 : t706 = true
  ·subst c7
   rw [if_pos rfl] at H
   obtain ⟨t707, A8, H⟩ := bd H
   by_cases c9 : t707 = true
   ·subst c9
    rw [if_pos rfl] at H
    have H' := Az H
    clear H
    have hnb10 := NB704_705.out
    have hnc10 := NB705_704.out
    have hz11_1 := bz BK704
    go_wp2_with (first | (go_at_call 25; (with_reducible refine (plain_Good.calls k a0_0 a0_1 a0_2 _ _ l0_3 a0_4 a0_5 _ _ l0_6 true _ (ck HR0_3 HB) HC0_3.out (ck HR0_6 HB) HC0_6.out A6.out).mono ?_); rintro e w12 ⟨rfl, hb⟩; replace BK704 := kb BK704 hb; replace BK705 := kb BK705 hb; replace HB := Az (below_step (bls HB) hb); have hz13_1 := bz BK705) | (go_at_call 25; (with_reducible refine (plain_Good.calls k a1_0 a1_1 a1_2 _ _ l1_3 a1_4 a1_5 _ _ l1_6 true _ (ck HR1_3 HB) HC1_3.out (ck HR1_6 HB) HC1_6.out A8.out).mono ?_); rintro e w14 ⟨rfl, hb⟩; replace BK704 := kb BK704 hb; replace BK705 := kb BK705 hb; replace HB := Az (below_step (bls HB) hb); have hz15_1 := bz BK704; have hz16_2 := bz BK705))
    go_meet
    case rel => exact ⟨_, ((a0_0 != a1_0)), rs, H', ⟨le0⟩, ⟨bk BK704⟩, ⟨bk BK705⟩, ⟨bls HB⟩⟩
   ·replace c9 := Bool.eq_false_iff.mpr c9
    subst c9
    rw [if_neg Bool.false_ne_true] at H
    have H' := Az H
    clear H
    have hnb17 := NB704_705.out
    have hnc17 := NB705_704.out
    have hz18_1 := bz BK704
    go_wp2_with (first | (go_at_call 25; (with_reducible refine (plain_Good.calls k a0_0 a0_1 a0_2 _ _ l0_3 a0_4 a0_5 _ _ l0_6 true _ (ck HR0_3 HB) HC0_3.out (ck HR0_6 HB) HC0_6.out A6.out).mono ?_); rintro e w19 ⟨rfl, hb⟩; replace BK704 := kb BK704 hb; replace BK705 := kb BK705 hb; replace HB := Az (below_step (bls HB) hb); have hz20_1 := bz BK705) | (go_at_call 25; (with_reducible refine (plain_Good.calls k a1_0 a1_1 a1_2 _ _ l1_3 a1_4 a1_5 _ _ l1_6 false _ (ck HR1_3 HB) HC1_3.out (ck HR1_6 HB) HC1_6.out A8.out).mono ?_); rintro e w21 ⟨rfl, hb⟩; replace BK704 := kb BK704 hb; replace BK705 := kb BK705 hb; replace HB := Az (below_step (bls HB) hb)))
    go_meet
    case rel => exact ⟨_, (true), rs, H', ⟨le0⟩, ⟨bk BK704⟩, ⟨bk BK705⟩, ⟨bls HB⟩⟩
  ·replace c7 := Bool.eq_false_iff.mpr c7
   subst c7
   rw [if_neg Bool.false_ne_true] at H
   have H' := Az H
   clear H
   have hnb22 := NB704_705.out
   have hnc22 := NB705_704.out
   have hz23_1 := bz BK704
   go_wp2_with (first | (go_at_call 25; (with_reducible refine (plain_Good.calls k a0_0 a0_1 a0_2 _ _ l0_3 a0_4 a0_5 _ _ l0_6 false _ (ck HR0_3 HB) HC0_3.out (ck HR0_6 HB) HC0_6.out A6.out).mono ?_); rintro e w24 ⟨rfl, hb⟩; replace BK704 := kb BK704 hb; replace BK705 := kb BK705 hb; replace HB := Az (below_step (bls HB) hb)))
   go_meet
   case rel => exact ⟨_, (true), rs, H', ⟨le0⟩, ⟨bk BK704⟩, ⟨bk BK705⟩, ⟨bls HB⟩⟩
 case rest =>
  clear HC3
  obtain ⟨kq, x19_2, rfl, HA, HJ2, BK704, BK705, HB⟩ := hcut
  cases kq with
  | zero => exact absurd HA.out (by simp [plain_Same.j0])
  | succ kj2 =>
   have H := HA.out
   clear HA
   simp only [plain_Same.j0] at H
   by_cases c25 : x19_2 = true
   ·subst c25
    rw [if_pos rfl] at H
    obtain rfl := Option.some.inj H
    go_wp2
    repeat (go_quiet (fail); try go_wp2)
    go_ret
    exact ⟨fe, bls HB⟩
   ·replace c25 := Bool.eq_false_iff.mpr c25
    subst c25
    rw [if_neg Bool.false_ne_true] at H
    by_cases c26 : a0_0 = 2
    ·rw [if_pos c26] at H
     have c26b0 := beq_iff_eq.mpr c26
     have c26b1 := bne_eq_false_iff_eq.mpr c26
     clear c26
     obtain ⟨t708, A27, H⟩ := bd H
     obtain rfl := Option.some.inj H
     have hnb28 := NB704_705.out
     have hnc28 := NB705_704.out
     have hz29_1 := bz BK704
     have hz30_2 := bz BK705
     go_wp2_with (first | (go_at_call 29; (with_reducible refine (whole_Cmp.calls kj2 a0_2 _ _ l0_3 a1_2 _ _ l1_3 t708 _ (ck HR0_3 HB) HC0_3.out (ck HR1_3 HB) HC1_3.out A27.out).mono ?_); rintro e w31 ⟨rfl, hb⟩; replace BK704 := kb BK704 hb; replace BK705 := kb BK705 hb; replace HB := Az (below_step (bls HB) hb)))
     go_ret
     exact ⟨fe, bls HB⟩
    ·rw [if_neg c26] at H
     have c26b0 := beq_eq_false_iff_ne.mpr c26
     have c26b1 := bne_iff_ne.mpr c26
     by_cases c32 : a0_0 = 3
     ·rw [if_pos c32] at H
      have c32b0 := beq_iff_eq.mpr c32
      have c32b1 := bne_eq_false_iff_eq.mpr c32
      clear c32
      obtain ⟨t709, A33, H⟩ := bd H
      obtain ⟨t710, A34, H⟩ := bd H
      obtain rfl := Option.some.inj H
      have hnb35 := NB704_705.out
      have hnc35 := NB705_704.out
      have hz36_1 := bz BK704
      go_wp2_with (first | (go_at_call 30; (with_reducible refine (real_Neg.calls a0_4 t709 _ A33.out).mono ?_); rintro e w' ⟨rfl, ⟨nd, rfl⟩⟩; have hz37_1 := bz BK705) | (go_at_call 30; (with_reducible refine (real_Neg.calls a1_4 t710 _ A34.out).mono ?_); rintro e w' ⟨rfl, ⟨nd, rfl⟩⟩; (try first | exact ⟨rfl, _, World.drewN_drewN _ _ _⟩ | exact ⟨rfl, _, Eq.trans (World.drewN_drewN _ _ _) (congrArg (World.drewN _) (Nat.add_assoc _ _ _))⟩)))
      repeat (go_quiet (first | (go_at_call 30; (with_reducible refine (real_Neg.calls a0_4 t709 _ A33.out).mono ?_); rintro e w' ⟨rfl, ⟨nd, rfl⟩⟩; (try first | exact ⟨rfl, _, World.drewN_drewN _ _ _⟩ | exact ⟨rfl, _, Eq.trans (World.drewN_drewN _ _ _) (congrArg (World.drewN _) (Nat.add_assoc _ _ _))⟩); have hz37_1 := bz BK705) | (go_at_call 30; (with_reducible refine (real_Neg.calls a1_4 t710 _ A34.out).mono ?_); rintro e w' ⟨rfl, ⟨nd, rfl⟩⟩; (try first | exact ⟨rfl, _, World.drewN_drewN _ _ _⟩ | exact ⟨rfl, _, Eq.trans (World.drewN_drewN _ _ _) (congrArg (World.drewN _) (Nat.add_assoc _ _ _))⟩))); try go_wp2_with (first | (go_at_call 30; (with_reducible refine (real_Neg.calls a0_4 t709 _ A33.out).mono ?_); rintro e w' ⟨rfl, ⟨nd, rfl⟩⟩; (try first | exact ⟨rfl, _, World.drewN_drewN _ _ _⟩ | exact ⟨rfl, _, Eq.trans (World.drewN_drewN _ _ _) (congrArg (World.drewN _) (Nat.add_assoc _ _ _))⟩); have hz37_1 := bz BK705) | (go_at_call 30; (with_reducible refine (real_Neg.calls a1_4 t710 _ A34.out).mono ?_); rintro e w' ⟨rfl, ⟨nd, rfl⟩⟩; (try first | exact ⟨rfl, _, World.drewN_drewN _ _ _⟩ | exact ⟨rfl, _, Eq.trans (World.drewN_drewN _ _ _) (congrArg (World.drewN _) (Nat.add_assoc _ _ _))⟩))))
      go_ret
      exact ⟨fe, bls HB⟩
     ·rw [if_neg c32] at H
      have c32b0 := beq_eq_false_iff_ne.mpr c32
      have c32b1 := bne_iff_ne.mpr c32
      by_cases c38 : (a0_1 == a1_1) = true
      ·rw [if_pos c38] at H
       have c38b0 : (a0_1 == a1_1) = true := c38
       clear c38
       obtain rfl := Option.some.inj H
       have hnb39 := NB704_705.out
       have hnc39 := NB705_704.out
       have hz40_1 := bz BK704
       have hz41_2 := bz BK705
       go_wp2
       repeat (go_quiet (fail); try go_wp2)
       go_ret
       exact ⟨fe, bls HB⟩
      ·rw [if_neg c38] at H
       have c38b0 : (a0_1 == a1_1) = false := by simpa using c38
       clear c38
       obtain rfl := Option.some.inj H
       have hnb42 := NB704_705.out
       have hnc42 := NB705_704.out
       have hz43_1 := bz BK704
       have hz44_2 := bz BK705
       go_wp2
       repeat (go_quiet (fail); try go_wp2)
       go_ret
       exact ⟨fe, bls HB⟩
def plain_Truth.f (k : Nat) (a0_0 : Int) (a0_1 : Bool) (a0_2 : Bool) (l0_3 : List Int) (a0_4 : Int) (a0_5 : ByteArray) (l0_6 : List (S28)) : Option (Bool) := (plain_Good.f k a0_0 a0_1 a0_2 l0_3 a0_4 a0_5 l0_6).bind fun t917 => (if t917 = true then (if a0_0 = 1 then (some a0_1) else (if a0_0 = 2 then (some (decide (0 < l0_3.length))) else (if a0_0 = 3 then (some ((IntKind.u64.wrap (a0_4 * 2)) != 0)) else (some (a0_5.toList != ([] : List UInt8)))))) else (some false))
set_option maxHeartbeats 8000000 in
set_option maxRecDepth 100000 in
theorem plain_Truth.calls (k : Nat) (a0_0 : Int) (a0_1 : Bool) (a0_2 : Bool) (A0_3 : Option Addr) (c0_3 : Nat) (l0_3 : List Int) (a0_4 : Int) (a0_5 : ByteArray) (A0_6 : Option Addr) (c0_6 : Nat) (l0_6 : List (S28)) (r : Bool) (w : World) (hr0_3 : Kd.C (Kd.int .u64) w A0_3 l0_3.length l0_3) (hc0_3 : l0_3.length ≤ c0_3) (hr0_6 : Kd.C k28 w A0_6 l0_6.length l0_6) (hc0_6 : l0_6.length ≤ c0_6) (h : plain_Truth.f k a0_0 a0_1 a0_2 l0_3 a0_4 a0_5 l0_6 = some r) :
  Calls Tryz.prog 14 #[.agg #[.int .i64 a0_0, .bool a0_1, .bool a0_2, .slice A0_3 l0_3.length c0_3, .int .u64 a0_4, .string a0_5, .slice A0_6 l0_6.length c0_6]] w fun e w' => e = .returned (.bool r) ∧ Below w.heap.size w w' := by
 have hu28 := Tryz.underlying28
 have HR0_3 := Az hr0_3
 have HC0_3 := Az hc0_3
 clear hr0_3 hc0_3
 have HR0_6 := Az hr0_6
 have HC0_6 := Az hc0_6
 clear hr0_6 hc0_6
 have HB := Az (Below.refl w.heap.size w)
 have H := h
 unfold plain_Truth.f at H
 clear h
 obtain ⟨t917, A2, H⟩ := bd H
 by_cases c3 : t917 = true
 ·subst c3
  rw [if_pos rfl] at H
  by_cases c4 : a0_0 = 1
  ·rw [if_pos c4] at H
   have c4b0 := beq_iff_eq.mpr c4
   have c4b1 := bne_eq_false_iff_eq.mpr c4
   clear c4
   obtain rfl := Option.some.inj H
   go_enter Tryz.func14, Tryz.ntmps14
   go_wp2_with (first | (refine be 1 #[.int .i64 a0_0, .bool a0_1, .bool a0_2, .slice A0_3 l0_3.length c0_3, .int .u64 a0_4, .string a0_5, .slice A0_6 l0_6.length c0_6] 28 ?_; intro gb916 hg w5 hbox hb; have BK916 := Az (hbox); have GW916 := gw (bl HB) hg; have GE916 := gw (bl HB) hg; replace HB := Az (below_step (bl HB) hb); clear hb hbox hg; have hz6_1 := bz BK916) | (refine gl (some 4) Tryz.func25 #[.agg #[.int .i64 a0_0, .bool a0_1, .bool a0_2, .slice A0_3 l0_3.length c0_3, .int .u64 a0_4, .string a0_5, .slice A0_6 l0_6.length c0_6]] ?_; (with_reducible refine (plain_Good.calls k a0_0 a0_1 a0_2 _ _ l0_3 a0_4 a0_5 _ _ l0_6 true _ (ck HR0_3 HB) HC0_3.out (ck HR0_6 HB) HC0_6.out A2.out).mono ?_); rintro e w7 ⟨rfl, hb⟩; refine ⟨_, rfl, ?_⟩; replace BK916 := kb BK916 hb; replace HB := Az (below_step (bls HB) hb); (try clear hb); have hz8_1 := bz BK916))
   go_ret
   exact ⟨fe, bls HB⟩
  ·rw [if_neg c4] at H
   have c4b0 := beq_eq_false_iff_ne.mpr c4
   have c4b1 := bne_iff_ne.mpr c4
   by_cases c9 : a0_0 = 2
   ·rw [if_pos c9] at H
    have c9b0 := beq_iff_eq.mpr c9
    have c9b1 := bne_eq_false_iff_eq.mpr c9
    clear c9
    obtain rfl := Option.some.inj H
    go_enter Tryz.func14, Tryz.ntmps14
    go_wp2_with (first | (refine be 1 #[.int .i64 a0_0, .bool a0_1, .bool a0_2, .slice A0_3 l0_3.length c0_3, .int .u64 a0_4, .string a0_5, .slice A0_6 l0_6.length c0_6] 28 ?_; intro gb916 hg w10 hbox hb; have BK916 := Az (hbox); have GW916 := gw (bl HB) hg; have GE916 := gw (bl HB) hg; replace HB := Az (below_step (bl HB) hb); clear hb hbox hg; have hz11_1 := bz BK916) | (refine gl (some 4) Tryz.func25 #[.agg #[.int .i64 a0_0, .bool a0_1, .bool a0_2, .slice A0_3 l0_3.length c0_3, .int .u64 a0_4, .string a0_5, .slice A0_6 l0_6.length c0_6]] ?_; (with_reducible refine (plain_Good.calls k a0_0 a0_1 a0_2 _ _ l0_3 a0_4 a0_5 _ _ l0_6 true _ (ck HR0_3 HB) HC0_3.out (ck HR0_6 HB) HC0_6.out A2.out).mono ?_); rintro e w12 ⟨rfl, hb⟩; refine ⟨_, rfl, ?_⟩; replace BK916 := kb BK916 hb; replace HB := Az (below_step (bls HB) hb); (try clear hb); have hz13_1 := bz BK916))
    go_ret
    exact ⟨fe, bls HB⟩
   ·rw [if_neg c9] at H
    have c9b0 := beq_eq_false_iff_ne.mpr c9
    have c9b1 := bne_iff_ne.mpr c9
    by_cases c14 : a0_0 = 3
    ·rw [if_pos c14] at H
     have c14b0 := beq_iff_eq.mpr c14
     have c14b1 := bne_eq_false_iff_eq.mpr c14
     clear c14
     obtain rfl := Option.some.inj H
     go_enter Tryz.func14, Tryz.ntmps14
     go_wp2_with (first | (refine be 1 #[.int .i64 a0_0, .bool a0_1, .bool a0_2, .slice A0_3 l0_3.length c0_3, .int .u64 a0_4, .string a0_5, .slice A0_6 l0_6.length c0_6] 28 ?_; intro gb916 hg w15 hbox hb; have BK916 := Az (hbox); have GW916 := gw (bl HB) hg; have GE916 := gw (bl HB) hg; replace HB := Az (below_step (bl HB) hb); clear hb hbox hg; have hz16_1 := bz BK916) | (refine gl (some 4) Tryz.func25 #[.agg #[.int .i64 a0_0, .bool a0_1, .bool a0_2, .slice A0_3 l0_3.length c0_3, .int .u64 a0_4, .string a0_5, .slice A0_6 l0_6.length c0_6]] ?_; (with_reducible refine (plain_Good.calls k a0_0 a0_1 a0_2 _ _ l0_3 a0_4 a0_5 _ _ l0_6 true _ (ck HR0_3 HB) HC0_3.out (ck HR0_6 HB) HC0_6.out A2.out).mono ?_); rintro e w17 ⟨rfl, hb⟩; refine ⟨_, rfl, ?_⟩; replace BK916 := kb BK916 hb; replace HB := Az (below_step (bls HB) hb); (try clear hb); have hz18_1 := bz BK916))
     go_ret
     exact ⟨fe, bls HB⟩
    ·rw [if_neg c14] at H
     have c14b0 := beq_eq_false_iff_ne.mpr c14
     have c14b1 := bne_iff_ne.mpr c14
     obtain rfl := Option.some.inj H
     go_enter Tryz.func14, Tryz.ntmps14
     go_wp2_with (first | (refine be 1 #[.int .i64 a0_0, .bool a0_1, .bool a0_2, .slice A0_3 l0_3.length c0_3, .int .u64 a0_4, .string a0_5, .slice A0_6 l0_6.length c0_6] 28 ?_; intro gb916 hg w19 hbox hb; have BK916 := Az (hbox); have GW916 := gw (bl HB) hg; have GE916 := gw (bl HB) hg; replace HB := Az (below_step (bl HB) hb); clear hb hbox hg; have hz20_1 := bz BK916) | (refine gl (some 4) Tryz.func25 #[.agg #[.int .i64 a0_0, .bool a0_1, .bool a0_2, .slice A0_3 l0_3.length c0_3, .int .u64 a0_4, .string a0_5, .slice A0_6 l0_6.length c0_6]] ?_; (with_reducible refine (plain_Good.calls k a0_0 a0_1 a0_2 _ _ l0_3 a0_4 a0_5 _ _ l0_6 true _ (ck HR0_3 HB) HC0_3.out (ck HR0_6 HB) HC0_6.out A2.out).mono ?_); rintro e w21 ⟨rfl, hb⟩; refine ⟨_, rfl, ?_⟩; replace BK916 := kb BK916 hb; replace HB := Az (below_step (bls HB) hb); (try clear hb); have hz22_1 := bz BK916))
     go_ret
     exact ⟨fe, bls HB⟩
 ·replace c3 := Bool.eq_false_iff.mpr c3
  subst c3
  rw [if_neg Bool.false_ne_true] at H
  obtain rfl := Option.some.inj H
  go_enter Tryz.func14, Tryz.ntmps14
  go_wp2_with (first | (refine be 1 #[.int .i64 a0_0, .bool a0_1, .bool a0_2, .slice A0_3 l0_3.length c0_3, .int .u64 a0_4, .string a0_5, .slice A0_6 l0_6.length c0_6] 28 ?_; intro gb916 hg w23 hbox hb; have BK916 := Az (hbox); have GW916 := gw (bl HB) hg; have GE916 := gw (bl HB) hg; replace HB := Az (below_step (bl HB) hb); clear hb hbox hg; have hz24_1 := bz BK916) | (refine gl (some 4) Tryz.func25 #[.agg #[.int .i64 a0_0, .bool a0_1, .bool a0_2, .slice A0_3 l0_3.length c0_3, .int .u64 a0_4, .string a0_5, .slice A0_6 l0_6.length c0_6]] ?_; (with_reducible refine (plain_Good.calls k a0_0 a0_1 a0_2 _ _ l0_3 a0_4 a0_5 _ _ l0_6 false _ (ck HR0_3 HB) HC0_3.out (ck HR0_6 HB) HC0_6.out A2.out).mono ?_); rintro e w25 ⟨rfl, hb⟩; refine ⟨_, rfl, ?_⟩; replace BK916 := kb BK916 hb; replace HB := Az (below_step (bls HB) hb); (try clear hb)))
  go_ret
  exact ⟨fe, bls HB⟩
def screeref03_IsNaN.f (a0 : Int) : Option (Bool) := some (decide ((Go.bits .and .u64 a0 9223372036854775807) > 9218868437227405312))
set_option maxHeartbeats 8000000 in
set_option maxRecDepth 100000 in
theorem screeref03_IsNaN.calls (a0 : Int) (r : Bool) (w : World) (h : screeref03_IsNaN.f a0 = some r) :
  Calls Tryz.prog 16 #[.int .u64 a0] w fun e w' => e = .returned (.bool r) ∧ Drawn0 w w' := by
 have H := h
 unfold screeref03_IsNaN.f at H
 clear h
 obtain rfl := Option.some.inj H
 go_enter Tryz.func16, Tryz.ntmps16
 go_wp2
 go_ret
 exact ⟨by first | rfl | (simp; done) | (simp [*]; done), by repeat (first | exact Drawn0.refl _ | apply Drawn0.step)⟩
def whole_more.l0 : Nat → List Int → List Int → List Int → Int → Int → Int → Option (List Int)
 | 0, _, _, _, _, _, _ => none
 | k + 1, x0, x1, x5, x6, x21, x22 => if x22 < x21 then (if 0 ≤ x22 then (if x22 < (x0.length : Int) then (if x22 < (x1.length : Int) then (if x22 < (x5.length : Int) then (whole_more.l0 k x0 x1 (x5.set (x22 : Int).toNat (Int.tmod (IntKind.u64.wrap ((IntKind.u64.wrap ((rd x0 x22) + x6)) + (rd x1 x22))) 1000000000000000000)) (IntKind.u64.wrap (Int.tdiv (IntKind.u64.wrap ((IntKind.u64.wrap ((rd x0 x22) + x6)) + (rd x1 x22))) 1000000000000000000)) x21 (wrap64 (x22 + 1))) else (none)) else (if x22 < (x5.length : Int) then (whole_more.l0 k x0 x1 (x5.set (x22 : Int).toNat (Int.tmod (IntKind.u64.wrap ((rd x0 x22) + x6)) 1000000000000000000)) (IntKind.u64.wrap (Int.tdiv (IntKind.u64.wrap ((rd x0 x22) + x6)) 1000000000000000000)) x21 (wrap64 (x22 + 1))) else (none))) else (none)) else (none)) else (if 0 ≤ (x0.length : Int) then (if (x0.length : Int) < (x5.length : Int) then (some (x5.set ((x0.length : Int) : Int).toNat x6)) else (none)) else (none))
def whole_more.f (k : Nat) (l0 : List Int) (l1 : List Int) : Option (List Int) := if (l0.length : Int) < (l1.length : Int) then (none) else (if 0 ≤ (wrap64 ((l0.length : Int) + 1)) then (if (wrap64 ((l0.length : Int) + 1) : Int).toNat ≤ 35184372088832 then (whole_more.l0 k l0 l1 (List.replicate (wrap64 ((l0.length : Int) + 1) : Int).toNat 0) 0 (l0.length : Int) 0) else (none)) else (none))
theorem whole_more.mono_l : ∀ k, (∀ y0 y1 y2 y3 y4 y5, LeO (whole_more.l0 k y0 y1 y2 y3 y4 y5) (whole_more.l0 (k + 1) y0 y1 y2 y3 y4 y5))
 | 0 => fun _ _ _ _ _ _ r h => by simp [whole_more.l0] at h
 | k + 1 => by
  have ih0 := whole_more.mono_l k
  ·intro y0 y1 y2 y3 y4 y5
   unfold whole_more.l0
   repeat' first
   | (with_reducible exact ih0 _ _ _ _ _ _)
   | (with_reducible exact LeO.refl _)
   | (with_reducible exact LeO.none _)
   | (with_reducible refine LeO.ite ?_ ?_)
   | (with_reducible refine LeO.bind ?_ (fun _ => ?_))
theorem whole_more.mono : ∀ a0 a1 k, LeO (whole_more.f k a0 a1) (whole_more.f (k + 1) a0 a1) := by
 intro a0 a1 k
 have ih0 := whole_more.mono_l k
 unfold whole_more.f
 repeat' first
   | (with_reducible exact ih0 _ _ _ _ _ _)
   | (with_reducible exact LeO.refl _)
   | (with_reducible exact LeO.none _)
   | (with_reducible refine LeO.ite ?_ ?_)
   | (with_reducible refine LeO.bind ?_ (fun _ => ?_))
set_option maxHeartbeats 8000000 in
set_option maxRecDepth 100000 in
theorem whole_more.calls (k : Nat) (A0 : Option Addr) (c0 : Nat) (l0 : List Int) (A1 : Option Addr) (c1 : Nat) (l1 : List Int) (r : List Int) (w : World) (hr0 : Kd.C (Kd.int .u64) w A0 l0.length l0) (hc0 : l0.length ≤ c0) (hr1 : Kd.C (Kd.int .u64) w A1 l1.length l1) (hc1 : l1.length ≤ c1) (h : whole_more.f k l0 l1 = some r) :
  Calls Tryz.prog 127 #[.slice A0 l0.length c0, .slice A1 l1.length c1] w fun e w' => ∃ v0_ : Value, e = .returned (v0_) ∧ Kd.R (Kd.int .u64) 25 w' w.heap.size (fun _ => True) v0_ r ∧ Below w.heap.size w w' := by
 have HR0 := Az hr0
 have HC0 := Az hc0
 clear hr0 hc0
 have HR1 := Az hr1
 have HC1 := Az hc1
 clear hr1 hc1
 have HB := Az (Below.refl w.heap.size w)
 have H := h
 unfold whole_more.f at H
 clear h
 by_cases c3 : (l0.length : Int) < (l1.length : Int)
 ·rw [if_pos c3] at H
  exact absurd H (by simp)
 ·rw [if_neg c3] at H
  have c3b0 := decide_eq_false c3
  have c3b1 : decide (l0.length < l1.length) = false := decide_eq_false (fun h => c3 (Int.ofNat_lt.mpr h))
  clear c3
  obtain ⟨ji4, hji4⟩ : ∃ j_ : Int, (wrap64 ((l0.length : Int) + 1)) = j_ := ⟨_, rfl⟩
  replace H : (if 0 ≤ (ji4) then (if (ji4 : Int).toNat ≤ 35184372088832 then (whole_more.l0 k l0 l1 (List.replicate (ji4 : Int).toNat 0) 0 (l0.length : Int) 0) else (none)) else (none)) = some r := by first | (rw [hji4] at H; exact H) | (simp only [hji4] at H ⊢; exact H)
  have hji4w : (IntKind.i64.wrap ((l0.length : Int) + 1)) = ji4 := (i64_w _).trans hji4
  by_cases c5 : 0 ≤ (ji4)
  ·rw [if_pos c5] at H
   have c5b0 := eq_true c5
   have c5b1 := decide_eq_true c5
   clear c5
   by_cases c6 : (ji4 : Int).toNat ≤ 35184372088832
   ·rw [if_pos c6] at H
    have c6b0 := eq_true c6
    have c6b1 := decide_eq_true c6
    clear c6
    obtain ⟨y203, hy203⟩ : ∃ y_ : List Int, y_ = (List.replicate (ji4 : Int).toNat 0) := ⟨_, rfl⟩
    replace H : (whole_more.l0 k l0 l1 y203 0 (l0.length : Int) 0) = some r := by rw [hy203]; exact H
    have Ny203 := Az hy203
    clear hy203
    have H' := Az H
    clear H
    go_enter Tryz.func127, Tryz.ntmps127
    go_wp2_with (first | ((with_reducible refine gate_dst (N := 19) rfl ?_); refine Kd.R_make (Kd.int .u64) _ 25 rfl (N := 19) rfl 22 _ _ rfl ji4 rfl rfl Tryz.underlying22 (.int .u64 0) 8 info25 rfl (by decide) (by omega) 0 (ok := fun _ => True) (okp := fun _ => True) rfl (fun _ hk => hk) trivial (ode) (Nat.le_trans (Nat.mul_le_mul_right _ (ode : ji4.toNat ≤ 35184372088832)) (by omega)) (Below.refl _ _) (Nat.le_refl _) ?_; intro v204 w7 ho8 hb hg_ hnew_; clear hg_ hnew_; (first | rw [← Ny203.out] at ho8 | (simp only [Int.reduceToNat] at ho8; rw [← Ny203.out] at ho8)); have HO205 := Az (Kd.R_lower ho8 (below_size (bl HB))); replace HB := Az (below_step (bl HB) hb); clear hb ho8))
    go_loopg [6, 22] k (fun kq v6 v22 w' => ∃ (x5_1 : List Int) (x6_1 : Int) (x22_1 : Int), v6 = .int .u64 x6_1 ∧ v22 = .int .i64 x22_1 ∧ Aside0 (whole_more.l0 kq l0 l1 x5_1 x6_1 (l0.length : Int) x22_1 = some r) ∧ Aside0 (kq ≤ k) ∧ Aside0 (Kd.R (Kd.int .u64) 25 w' w.heap.size (fun _ => True) v204 x5_1) ∧ Aside0 (Below w.heap.size w w'))
    case atStart => exact ⟨(y203), (0), (0), rs, rs, H', ⟨Nat.le_refl _⟩, ⟨rk HO205⟩, ⟨bl HB⟩⟩
    case round =>
     clear H'
     obtain ⟨x5_1, x6_1, x22_1, rfl, rfl, HA, HK1, HO_5, HB⟩ := hrel
     cases gk with
     | zero => exact absurd HA.out (by simp [whole_more.l0])
     | succ k1 =>
      have H := HA.out
      clear HA
      simp only [whole_more.l0] at H
      by_cases c9 : x22_1 < (l0.length : Int)
      ·rw [if_pos c9] at H
       have c9b0 := decide_eq_true c9
       clear c9
       by_cases c10 : 0 ≤ x22_1
       ·rw [if_pos c10] at H
        have c10b0 := decide_eq_true c10
        clear c10
        by_cases c11 : x22_1 < (l0.length : Int)
        ·rw [if_pos c11] at H
         have c11b0 := decide_eq_true c11
         clear c11
         by_cases c12 : x22_1 < (l1.length : Int)
         ·rw [if_pos c12] at H
          have c12b0 := decide_eq_true c12
          clear c12
          by_cases c13 : x22_1 < (x5_1.length : Int)
          ·rw [if_pos c13] at H
           have c13b0 := decide_eq_true c13
           clear c13
           obtain ⟨y208, hy208⟩ : ∃ y_ : List Int, y_ = (x5_1.set (x22_1 : Int).toNat (Int.tmod (IntKind.u64.wrap ((IntKind.u64.wrap ((rd l0 x22_1) + x6_1)) + (rd l1 x22_1))) 1000000000000000000)) := ⟨_, rfl⟩
           replace H : (whole_more.l0 k1 l0 l1 y208 (IntKind.u64.wrap (Int.tdiv (IntKind.u64.wrap ((IntKind.u64.wrap ((rd l0 x22_1) + x6_1)) + (rd l1 x22_1))) 1000000000000000000)) (l0.length : Int) (wrap64 (x22_1 + 1))) = some r := by rw [hy208]; exact H
           have Ny208 := Az hy208
           clear hy208
           have H' := Az H
           clear H
           have p206 : 0 ≤ (x22_1 : Int) := ode
           have q206 : x22_1 < (l0.length : Int) := ode
           obtain ⟨ad206, e206, hx206_0⟩ := Kd.at_int HR0.out x22_1 p206 q206
           cases e206
           replace hx206_0 := (HB.out.cell (World.block_lt_of_cell? w _ hx206_0)).trans hx206_0
           replace p206 := eq_true p206
           replace q206 := eq_true q206
           have p207 : 0 ≤ (x22_1 : Int) := ode
           have q207 : x22_1 < (l1.length : Int) := ode
           obtain ⟨ad207, e207, hx207_0⟩ := Kd.at_int HR1.out x22_1 p207 q207
           cases e207
           replace hx207_0 := (HB.out.cell (World.block_lt_of_cell? w _ hx207_0)).trans hx207_0
           replace p207 := eq_true p207
           replace q207 := eq_true q207
           have p14 : 0 ≤ (x22_1 : Int) := ode
           have q14 : (x22_1 : Int) < ((x5_1.length : Int) : Int) := ode
           obtain ⟨go14, co14, eo14, gb14, gl14, cl14, HG14⟩ := Kd.R_form HO_5.out (by omega)
           (first | cases eo14 | (injection eo14 with ea_ en_ ec_; (first | subst ea_ | (injection ea_ with ea_; subst ea_)); subst ec_; clear en_))
           have GB14 := Az gb14
           have GG14 := Az HG14
           clear gb14 gl14 HG14
           obtain ⟨hx14_0, hf14_0⟩ := Kd.R_celln 0 HO_5.out (x22_1 : Int) p14 q14
           replace p14 := eq_true p14
           replace q14 := eq_true q14
           have HP15 := Kd.R_putg HO_5.out (x22_1 : Int) (Int.tmod (IntKind.u64.wrap ((IntKind.u64.wrap ((rd l0 x22_1) + x6_1)) + (rd l1 x22_1))) 1000000000000000000)
           go_wp2_with (first | ((with_reducible refine gate_store (t := 25) (p := 47) rfl ?_); refine store_event (t := 25) (p := 47) (v := ?vo_w16) (w1 := (wr.setCell ⟨go14, (x22_1 : Int).toNat, none⟩ (.int .u64 (Int.tmod (IntKind.u64.wrap ((IntKind.u64.wrap ((rd l0 x22_1) + x6_1)) + (rd l1 x22_1))) 1000000000000000000)))) ?hg ?ho ?hn ?hr ?_; (case ho => rfl); (case hg => rfl); (case hn => rfl); (case hr => first | (go_simp; done) | (go_simp; rfl)); intro w16 hw; have hg : wr.grownBy w16 (some go14) := (by rw [hw]; exact HP15.2); have hp_ : Kd.R (Kd.int .u64) 25 w16 w.heap.size (fun _ => True) (.slice (some ⟨go14, 0, none⟩) x5_1.length co14) y208 := (by rw [hw, Ny208.out]; exact HP15.1); clear HP15; replace HO_5 := Az (hp_); replace HB := Az ((by rw [hw]; exact below_set (HB.out) GB14.out : Below w.heap.size w w16)); clear hg hw hp_))
           go_roundg k1
           case measure => have := HK1.out; omega
           case rel => exact ⟨(y208), (IntKind.u64.wrap (Int.tdiv (IntKind.u64.wrap ((IntKind.u64.wrap ((rd l0 x22_1) + x6_1)) + (rd l1 x22_1))) 1000000000000000000)), (wrap64 (x22_1 + 1)), rs, rs, H', ⟨by have := HK1.out; omega⟩, ⟨rk HO_5⟩, ⟨bl HB⟩⟩
          ·rw [if_neg c13] at H
           exact absurd H (by simp)
         ·rw [if_neg c12] at H
          have c12b0 := decide_eq_false c12
          clear c12
          by_cases c17 : x22_1 < (x5_1.length : Int)
          ·rw [if_pos c17] at H
           have c17b0 := decide_eq_true c17
           clear c17
           obtain ⟨y209, hy209⟩ : ∃ y_ : List Int, y_ = (x5_1.set (x22_1 : Int).toNat (Int.tmod (IntKind.u64.wrap ((rd l0 x22_1) + x6_1)) 1000000000000000000)) := ⟨_, rfl⟩
           replace H : (whole_more.l0 k1 l0 l1 y209 (IntKind.u64.wrap (Int.tdiv (IntKind.u64.wrap ((rd l0 x22_1) + x6_1)) 1000000000000000000)) (l0.length : Int) (wrap64 (x22_1 + 1))) = some r := by rw [hy209]; exact H
           have Ny209 := Az hy209
           clear hy209
           have H' := Az H
           clear H
           have p206 : 0 ≤ (x22_1 : Int) := ode
           have q206 : x22_1 < (l0.length : Int) := ode
           obtain ⟨ad206, e206, hx206_0⟩ := Kd.at_int HR0.out x22_1 p206 q206
           cases e206
           replace hx206_0 := (HB.out.cell (World.block_lt_of_cell? w _ hx206_0)).trans hx206_0
           replace p206 := eq_true p206
           replace q206 := eq_true q206
           have p18 : 0 ≤ (x22_1 : Int) := ode
           have q18 : (x22_1 : Int) < ((x5_1.length : Int) : Int) := ode
           obtain ⟨go18, co18, eo18, gb18, gl18, cl18, HG18⟩ := Kd.R_form HO_5.out (by omega)
           (first | cases eo18 | (injection eo18 with ea_ en_ ec_; (first | subst ea_ | (injection ea_ with ea_; subst ea_)); subst ec_; clear en_))
           have GB18 := Az gb18
           have GG18 := Az HG18
           clear gb18 gl18 HG18
           obtain ⟨hx18_0, hf18_0⟩ := Kd.R_celln 0 HO_5.out (x22_1 : Int) p18 q18
           replace p18 := eq_true p18
           replace q18 := eq_true q18
           have HP19 := Kd.R_putg HO_5.out (x22_1 : Int) (Int.tmod (IntKind.u64.wrap ((rd l0 x22_1) + x6_1)) 1000000000000000000)
           go_wp2_with (first | ((with_reducible refine gate_store (t := 25) (p := 47) rfl ?_); refine store_event (t := 25) (p := 47) (v := ?vo_w20) (w1 := (wr.setCell ⟨go18, (x22_1 : Int).toNat, none⟩ (.int .u64 (Int.tmod (IntKind.u64.wrap ((rd l0 x22_1) + x6_1)) 1000000000000000000)))) ?hg ?ho ?hn ?hr ?_; (case ho => rfl); (case hg => rfl); (case hn => rfl); (case hr => first | (go_simp; done) | (go_simp; rfl)); intro w20 hw; have hg : wr.grownBy w20 (some go18) := (by rw [hw]; exact HP19.2); have hp_ : Kd.R (Kd.int .u64) 25 w20 w.heap.size (fun _ => True) (.slice (some ⟨go18, 0, none⟩) x5_1.length co18) y209 := (by rw [hw, Ny209.out]; exact HP19.1); clear HP19; replace HO_5 := Az (hp_); replace HB := Az ((by rw [hw]; exact below_set (HB.out) GB18.out : Below w.heap.size w w20)); clear hg hw hp_))
           go_roundg k1
           case measure => have := HK1.out; omega
           case rel => exact ⟨(y209), (IntKind.u64.wrap (Int.tdiv (IntKind.u64.wrap ((rd l0 x22_1) + x6_1)) 1000000000000000000)), (wrap64 (x22_1 + 1)), rs, rs, H', ⟨by have := HK1.out; omega⟩, ⟨rk HO_5⟩, ⟨bl HB⟩⟩
          ·rw [if_neg c17] at H
           exact absurd H (by simp)
        ·rw [if_neg c11] at H
         exact absurd H (by simp)
       ·rw [if_neg c10] at H
        exact absurd H (by simp)
      ·rw [if_neg c9] at H
       have c9b0 := decide_eq_false c9
       clear c9
       by_cases c21 : 0 ≤ (l0.length : Int)
       ·rw [if_pos c21] at H
        have c21b0 := decide_eq_true c21
        have c21b1 : decide (0 ≤ l0.length) = true := decide_eq_true (by omega)
        clear c21
        by_cases c22 : (l0.length : Int) < (x5_1.length : Int)
        ·rw [if_pos c22] at H
         have c22b0 := decide_eq_true c22
         have c22b1 : decide (l0.length < x5_1.length) = true := decide_eq_true (Int.ofNat_lt.mp c22)
         clear c22
         obtain ⟨y210, hy210⟩ : ∃ y_ : List Int, y_ = (x5_1.set ((l0.length : Int) : Int).toNat x6_1) := ⟨_, rfl⟩
         replace H : (some y210) = some r := by rw [hy210]; exact H
         have Ny210 := Az hy210
         clear hy210
         obtain rfl := Option.some.inj H
         have p23 : 0 ≤ ((l0.length : Int) : Int) := ode
         have q23 : ((l0.length : Int) : Int) < ((x5_1.length : Int) : Int) := ode
         obtain ⟨go23, co23, eo23, gb23, gl23, cl23, HG23⟩ := Kd.R_form HO_5.out (by omega)
         (first | cases eo23 | (injection eo23 with ea_ en_ ec_; (first | subst ea_ | (injection ea_ with ea_; subst ea_)); subst ec_; clear en_))
         have GB23 := Az gb23
         have GG23 := Az HG23
         clear gb23 gl23 HG23
         obtain ⟨hx23_0, hf23_0⟩ := Kd.R_celln 0 HO_5.out ((l0.length : Int) : Int) p23 q23
         (try simp only [Go.IntWalk.toNatUp] at hx23_0 hf23_0)
         replace p23 := eq_true p23
         replace q23 := eq_true q23
         have HP24 := Kd.R_putg HO_5.out ((l0.length : Int) : Int) x6_1
         go_wp2_with (first | ((with_reducible refine gate_store (t := 25) (p := 53) rfl ?_); refine store_event (t := 25) (p := 53) (v := ?vo_w25) (w1 := (wr.setCell ⟨go23, ((l0.length : Int) : Int).toNat, none⟩ (.int .u64 x6_1))) ?hg ?ho ?hn ?hr ?_; (case ho => rfl); (case hg => rfl); (case hn => rfl); (case hr => first | (go_simp; done) | (go_simp; rfl)); intro w25 hw; have hg : wr.grownBy w25 (some go23) := (by rw [hw]; exact HP24.2); have hp_ : Kd.R (Kd.int .u64) 25 w25 w.heap.size (fun _ => True) (.slice (some ⟨go23, 0, none⟩) x5_1.length co23) y210 := (by rw [hw, Ny210.out]; exact HP24.1); clear HP24; replace HO_5 := Az (hp_); replace HB := Az ((by rw [hw]; exact below_set (HB.out) GB23.out : Below w.heap.size w w25)); clear hg hw hp_))
         go_ret
         exact ⟨_, by first | rfl | (simp [errW_none, errW_some] <;> rfl) | (simp only [← hji4]; first | rfl | (simp [errW_none, errW_some] <;> rfl)) | (simp [*, errW_none, errW_some] <;> rfl), rk HO_5, bl HB⟩
        ·rw [if_neg c22] at H
         exact absurd H (by simp)
       ·rw [if_neg c21] at H
        exact absurd H (by simp)
   ·rw [if_neg c6] at H
    exact absurd H (by simp)
  ·rw [if_neg c5] at H
   exact absurd H (by simp)
def whole_Add.f (k : Nat) (a0_0 : Bool) (l0_1 : List Int) (a1_0 : Bool) (l1_1 : List Int) : Option (Bool × List Int × Int) := (whole_Good.f k a0_0 l0_1).bind fun t460 => (if t460 = true then ((whole_Good.f k a1_0 l1_1).bind fun t461 => (if t461 = true then (if (a0_0 == a1_0) = true then ((whole_more.f k l0_1 l1_1).bind fun t462 => ((whole_fits.f a0_0 t462).bind fun bt465 => (some (bt465.1, bt465.2.1, bt465.2.2)))) else (none)) else (none))) else (none))
theorem whole_Add.mono : ∀ a0 a1 a2 a3 k, LeO (whole_Add.f k a0 a1 a2 a3) (whole_Add.f (k + 1) a0 a1 a2 a3) := by
 intro a0 a1 a2 a3 k
 unfold whole_Add.f
 repeat' first
   | (with_reducible exact whole_Good.mono _ _ _)
   | (with_reducible exact whole_more.mono _ _ _)
   | (with_reducible exact LeO.refl _)
   | (with_reducible exact LeO.none _)
   | (with_reducible refine LeO.ite ?_ ?_)
   | (with_reducible refine LeO.bind ?_ (fun _ => ?_))
   | exact whole_Good.mono _ _ _
   | exact whole_more.mono _ _ _
   | exact LeO.none _
   | refine LeO.ite ?_ ?_
   | refine LeO.bind ?_ (fun _ => ?_)
def whole_Add.T4 : Bool × List (List Nat × List Nat) := (true, [([], []), ([0], [0]), ([], []), ([2], [2]), ([], []), ([4], [4]), ([3, 5], [3, 5]), ([1, 6, 6], [1, 6]), ([7], [7]), ([7], [7]), ([8, 7, 0, 1, 2, 3, 4, 5, 6, 7, 8, 9], [8]), ([9, 10, 0, 1, 2, 3, 4, 5, 6, 7, 8, 9, 10], [9])])
def whole_Add.B4 : List Nat := [0, 1, 0, 4, 0, 16, 60, 127, 255, 255, 1023, 2047]
theorem whole_Add.tab4 : rtab .any (opsOf Tryz.f95 4) = whole_Add.T4 := by kernel_rfl
theorem whole_Add.bits4 : waitsOk whole_Add.T4.2 whole_Add.B4 = true := by kernel_rfl
set_option maxHeartbeats 8000000 in
set_option maxRecDepth 100000 in
theorem whole_Add.calls (k : Nat) (a0_0 : Bool) (A0_1 : Option Addr) (c0_1 : Nat) (l0_1 : List Int) (a1_0 : Bool) (A1_1 : Option Addr) (c1_1 : Nat) (l1_1 : List Int) (r1 : Bool) (r2 : List Int) (r3 : Int) (w : World) (hr0_1 : Kd.C (Kd.int .u64) w A0_1 l0_1.length l0_1) (hc0_1 : l0_1.length ≤ c0_1) (hr1_1 : Kd.C (Kd.int .u64) w A1_1 l1_1.length l1_1) (hc1_1 : l1_1.length ≤ c1_1) (h : whole_Add.f k a0_0 l0_1 a1_0 l1_1 = some (r1, r2, r3)) :
  Calls Tryz.prog 95 #[.agg #[.bool a0_0, .slice A0_1 l0_1.length c0_1], .agg #[.bool a1_0, .slice A1_1 l1_1.length c1_1]] w fun e w' => ∃ v1_ : Value, e = .returned (.tuple #[.agg #[.bool r1, v1_], .int .i64 r3]) ∧ Kd.R (Kd.int .u64) 25 w' w.heap.size (fun _ => True) v1_ r2 ∧ Below w.heap.size w w' := by
 have hu24 := Tryz.underlying24
 have HR0_1 := Az hr0_1
 have HC0_1 := Az hc0_1
 clear hr0_1 hc0_1
 have HR1_1 := Az hr1_1
 have HC1_1 := Az hc1_1
 clear hr1_1 hc1_1
 have HB := Az (Below.refl w.heap.size w)
 have H := h
 unfold whole_Add.f at H
 clear h
 obtain ⟨t460, A3, H⟩ := bd H
 by_cases c4 : t460 = true
 ·subst c4
  rw [if_pos rfl] at H
  obtain ⟨t461, A5, H⟩ := bd H
  by_cases c6 : t461 = true
  ·subst c6
   rw [if_pos rfl] at H
   by_cases c7 : (a0_0 == a1_0) = true
   ·rw [if_pos c7] at H
    have c7b0 : (a0_0 == a1_0) = true := c7
    (try (have c7b1 : decide (a0_0 = a1_0) = true := by simpa using c7))
    (try (have c7b2 : (a0_0 == a1_0) = true := by simpa using c7))
    clear c7
    obtain ⟨t462, A8, H⟩ := bd H
    obtain ⟨⟨t465, t466, t469⟩, A9, H⟩ := bd H
    (try dsimp only at H)
    simp only [Option.some.injEq, Prod.mk.injEq] at H
    obtain ⟨rfl, rfl, rfl⟩ := H
    go_enter Tryz.func95, Tryz.ntmps95
    try go_wp2_with (first | (refine be 2 #[.bool a0_0, .slice A0_1 l0_1.length c0_1] 24 ?_; intro gb457 hg w10 hbox hb; have BK457 := Az (hbox); have GW457 := gw (bl HB) hg; have GE457 := gw (bl HB) hg; replace HB := Az (below_step (bl HB) hb); clear hb hbox hg) | (refine be 3 #[.bool a1_0, .slice A1_1 l1_1.length c1_1] 24 ?_; intro gb458 hg w11 hbox hb; have BK458 := Az (hbox); have GW458 := gw (bls HB) hg; have GE458 := gw (bls HB) hg; replace HB := Az (below_step (bls HB) hb); have NB457_458 := nl BK457 hg; have NB458_457 := ng BK457 hg; replace BK457 := kb BK457 hb; clear hb hbox hg) | (refine be 4 #[.bool false, .slice none 0 0] 24 ?_; intro gb459 hg w12 hbox hb; have BK459 := Az (hbox); have GW459 := gw (bls HB) hg; have GE459 := gw (bls HB) hg; replace HB := Az (below_step (bls HB) hb); have NB457_459 := nl BK457 hg; have NB459_457 := ng BK457 hg; replace BK457 := kb BK457 hb; have NB458_459 := nl BK458 hg; have NB459_458 := ng BK458 hg; replace BK458 := kb BK458 hb; clear hb hbox hg; have hnb13 := NB457_458.out; have hnc13 := NB458_457.out; have hnb14 := NB457_459.out; have hnc14 := NB459_457.out; have hz15_1 := bz BK457) | (refine gl (some 7) Tryz.func47 #[.agg #[.bool a0_0, .slice A0_1 l0_1.length c0_1]] ?_; (with_reducible refine (whole_Good.calls k a0_0 _ _ l0_1 true _ (ck HR0_1 HB) HC0_1.out A3.out).mono ?_); rintro e w16 ⟨rfl, hb⟩; refine ⟨_, rfl, ?_⟩; replace BK457 := kb BK457 hb; replace BK458 := kb BK458 hb; replace BK459 := kb BK459 hb; replace HB := Az (below_step (bls HB) hb); (try clear hb); have hnb17 := NB458_459.out; have hnc17 := NB459_458.out; have hz18_1 := bz BK458) | (go_at_call 47; (with_reducible refine (whole_Good.calls k a1_0 _ _ l1_1 true _ (ck HR1_1 HB) HC1_1.out A5.out).mono ?_); rintro e w19 ⟨rfl, hb⟩; replace BK457 := kb BK457 hb; replace BK458 := kb BK458 hb; replace BK459 := kb BK459 hb; replace HB := Az (below_step (bls HB) hb); (try clear hb); (try clear hb2); (try clear hk); (try clear hi); have hz20_1 := bz BK457; have hz21_2 := bz BK458))
    replace BK457 := Az (blk_drew BK457.out)
    replace BK458 := Az (blk_drew BK458.out)
    replace BK459 := Az (blk_drew BK459.out)
    replace HB := Az (below_drew1 HB.out)
    refine start_ (n := 12) (S := fun w' => w'.cell? ⟨gb457, 0, none⟩ = some (.bool a0_0) ∧ w'.cell? ⟨gb457, 1, none⟩ = some (.slice A0_1 l0_1.length c0_1) ∧ w'.cell? ⟨gb458, 0, none⟩ = some (.bool a1_0) ∧ w'.cell? ⟨gb458, 1, none⟩ = some (.slice A1_1 l1_1.length c1_1)) (ds := []) (bm 12 0) (by kernel_rfl) rfl rfl ⟨(blk_cell BK457.out 0).trans rfl, (blk_cell BK457.out 1).trans rfl, (blk_cell BK458.out 0).trans rfl, (blk_cell BK458.out 1).trans rfl⟩ (fun hHeld => ?_); refine with_tabW whole_Add.tab4 whole_Add.bits4 (fun HT_ HW_ => ?_)
    generalize w19.drew = w22 at BK457 BK458 BK459 HB hHeld ⊢
    refine pu 0 (some 20) (bm 12 1) HT_.out ?_
    refine pu 2 (some 22) (bm 12 5) HT_.out ?_
    refine pu 4 (some 24) (bm 12 21) HT_.out ?_
    refine tk 1 (some 21) (bm 12 23) HT_.out HW_.out hHeld ?_
    refine tk 3 (some 23) (bm 12 31) HT_.out HW_.out hHeld ?_
    refine tk 5 (some 25) (bm 12 63) HT_.out HW_.out hHeld ?_
    refine on 6 (some 26) (bm 12 127) HT_.out (fun K hK => ?_)
    refine gs Tryz.func127 #[.slice A0_1 l0_1.length c0_1, .slice A1_1 l1_1.length c1_1] ?_
    with_reducible refine (whole_more.calls k _ _ l0_1 _ _ l1_1 t462 _ (ck HR0_1 HB) HC0_1.out (ck HR1_1 HB) HC1_1.out A8.out).mono ?_
    rintro e w23 ⟨v463, rfl, ho0, hb⟩
    refine ⟨_, rfl, ?_⟩
    have HO464 := Az (Kd.R_lower ho0 (below_size (bls HB)))
    replace BK457 := kb BK457 hb
    replace BK458 := kb BK458 hb
    replace BK459 := kb BK459 hb
    replace HB := Az (below_step (bls HB) hb)
    (try clear hb)
    (try clear hb2)
    (try clear hk)
    (try clear hi)
    (try clear ho0)
    obtain ⟨Ao24, co24, eo24⟩ := Kd.R_slice HO464.out
    (first | subst eo24 | (injection eo24 with f1_ f2_ f3_; have f4_ := f1_.symm; have f5_ := f3_.symm; clear f1_ f2_ f3_; subst f4_; subst f5_))
    refine hK.out _ _ hd (fun hHeld => ?_)
    clear hK K
    refine nm ?_
    refine on 7 (some 27) (bm 12 255) HT_.out (fun K hK => ?_)
    refine gs Tryz.func126 #[.bool a0_0, .slice Ao24 t462.length co24] ?_
    with_reducible refine (whole_fits.calls a0_0 _ _ t462 t465 t466 t469 _ ?side1 (Kd.R_reads' HO464.out).2.1 A9.out).mono ?_
    (case side1 => repeat (first | exact (Kd.R_reads' HO464.out).2.2 | (with_reducible refine Kd.C_alloc ?_ _) | (with_reducible refine Kd.C_drewN ?_ _) | (with_reducible refine Kd.C_drew ?_)))
    rintro e w25 ⟨v467, rfl, ho0, hb⟩
    refine ⟨_, rfl, ?_⟩
    have HO468 := Az (Kd.R_lower (Kd.R_new' ho0 (Kd.R_lt (rk HO464))) (below_size (bls HB)))
    replace HO464 := Az (Kd.R_elder' (rk HO464) (Kd.R_base ho0) hb)
    replace BK457 := kb BK457 hb
    replace BK458 := kb BK458 hb
    replace BK459 := kb BK459 hb
    replace HB := Az (below_step (bls HB) hb)
    (try clear hb)
    (try clear hb2)
    (try clear hk)
    (try clear hi)
    (try clear ho0)
    obtain ⟨Ao27, co27, eo27⟩ := Kd.R_slice HO468.out
    (first | subst eo27 | (injection eo27 with f1_ f2_ f3_; have f4_ := f1_.symm; have f5_ := f3_.symm; clear f1_ f2_ f3_; subst f4_; subst f5_))
    refine hK.out _ _ hd (fun hHeld => ?_)
    clear hK K
    refine nm ?_
    refine pu 8 (some 28) (bm 12 511) HT_.out ?_
    refine pu 9 (some 29) (bm 12 1023) HT_.out ?_
    refine on 10 (none) (bm 12 2047) HT_.out (fun K hK => ?_)
    have hs26 : w25.cell? ⟨gb459, 0, none⟩ = some (.bool false) := (blk_cell BK459.out 0).trans rfl
    have hfs26 := blk_frozen BK459.out 0
    have hns26_0 := NB457_459.out
    have hns26_1 := NB458_459.out
    have hms26_0 := NB459_457.out
    have hms26_1 := NB459_458.out
    have hs28 : w25.cell? ⟨gb459, 1, none⟩ = some (.slice none 0 0) := (blk_cell BK459.out 1).trans rfl
    have hfs28 := blk_frozen BK459.out 1
    have hns28_0 := NB457_459.out
    have hns28_1 := NB458_459.out
    have hms28_0 := NB459_457.out
    have hms28_1 := NB459_458.out
    refine skip_ (w1 := ?_) (by rfl) rfl ?_ ?_
    rotate_left
    ·go_simp
     rfl
    refine hK.out _ _ ⟨((cell_far (p := ⟨gb459, _, none⟩) NB457_459.out _).trans (((cell_far (p := ⟨gb459, _, none⟩) NB457_459.out _).trans (hHeld.1)))), ((cell_far (p := ⟨gb459, _, none⟩) NB457_459.out _).trans (((cell_far (p := ⟨gb459, _, none⟩) NB457_459.out _).trans (hHeld.2.1)))), ((cell_far (p := ⟨gb459, _, none⟩) NB458_459.out _).trans (((cell_far (p := ⟨gb459, _, none⟩) NB458_459.out _).trans (hHeld.2.2.1)))), ((cell_far (p := ⟨gb459, _, none⟩) NB458_459.out _).trans (((cell_far (p := ⟨gb459, _, none⟩) NB458_459.out _).trans (hHeld.2.2.2))))⟩ (fun hHeld => ?_)
    clear hK K
    refine pu 11 (some 5) (bm 12 4095) HT_.out ?_
    refine done_ (done_of HT_.out (by kernel_rfl)) ?_
    try go_wp2
    refine bodyPost_ret (results_ct rfl _ _ gb459 24 #[.bool t465, .slice Ao27 t466.length co27] (0, 0) _ rfl (by (with_reducible repeat (first | refine blk_drewN ?_ _ | refine blk_drew ?_ | refine blk_alloc ?_ _)); refine blk_put (cs := #[.bool t465, .slice none 0 0]) ?_ 1 _ rfl; (with_reducible repeat (first | refine blk_drewN ?_ _ | refine blk_drew ?_ | refine blk_alloc ?_ _)); refine blk_put (cs := #[.bool false, .slice none 0 0]) ?_ 0 _ rfl; (with_reducible repeat (first | refine blk_drewN ?_ _ | refine blk_drew ?_ | refine blk_alloc ?_ _)); exact BK459.out) Tryz.underlying24 rfl (by kernel_rfl)) rfl ?_
    exact ⟨_, fe, rt (Kd.R_mono (Kd.R_far (p := ⟨gb459, 1, none⟩) (Kd.R_far (p := ⟨gb459, 0, none⟩) (Kd.R_types HO468.out BK459.out (by decide)) (fun _ hk => hk.2) (.bool t465)) (fun _ hk => hk.2) (.slice Ao27 t466.length co27)) (fun _ hk => trivial)), bls HB⟩
   ·rw [if_neg c7] at H
    exact absurd H (by simp)
  ·replace c6 := Bool.eq_false_iff.mpr c6
   subst c6
   rw [if_neg Bool.false_ne_true] at H
   exact absurd H (by simp)
 ·replace c4 := Bool.eq_false_iff.mpr c4
  subst c4
  rw [if_neg Bool.false_ne_true] at H
  exact absurd H (by simp)
def plain_wholes.f (k : Nat) (a0 : Int) (a1_0 : Bool) (l1_1 : List Int) (a2_0 : Bool) (l2_1 : List Int) : Option (Bool × List Int × Int) := if a0 = 1 then ((whole_Add.f k a1_0 l1_1 a2_0 l2_1).bind fun bt493 => (some (bt493.1, bt493.2.1, bt493.2.2))) else (none)
theorem plain_wholes.mono : ∀ a0 a1 a2 a3 a4 k, LeO (plain_wholes.f k a0 a1 a2 a3 a4) (plain_wholes.f (k + 1) a0 a1 a2 a3 a4) := by
 intro a0 a1 a2 a3 a4 k
 unfold plain_wholes.f
 repeat' first
   | (with_reducible exact whole_Add.mono _ _ _ _ _)
   | (with_reducible exact LeO.refl _)
   | (with_reducible exact LeO.none _)
   | (with_reducible refine LeO.ite ?_ ?_)
   | (with_reducible refine LeO.bind ?_ (fun _ => ?_))
   | exact whole_Add.mono _ _ _ _ _
   | exact LeO.none _
   | refine LeO.ite ?_ ?_
   | refine LeO.bind ?_ (fun _ => ?_)
set_option maxHeartbeats 8000000 in
set_option maxRecDepth 100000 in
theorem plain_wholes.calls (k : Nat) (a0 : Int) (a1_0 : Bool) (A1_1 : Option Addr) (c1_1 : Nat) (l1_1 : List Int) (a2_0 : Bool) (A2_1 : Option Addr) (c2_1 : Nat) (l2_1 : List Int) (r1 : Bool) (r2 : List Int) (r3 : Int) (w : World) (hr1_1 : Kd.C (Kd.int .u64) w A1_1 l1_1.length l1_1) (hc1_1 : l1_1.length ≤ c1_1) (hr2_1 : Kd.C (Kd.int .u64) w A2_1 l2_1.length l2_1) (hc2_1 : l2_1.length ≤ c2_1) (h : plain_wholes.f k a0 a1_0 l1_1 a2_0 l2_1 = some (r1, r2, r3)) :
  Calls Tryz.prog 66 #[.int .i64 a0, .agg #[.bool a1_0, .slice A1_1 l1_1.length c1_1], .agg #[.bool a2_0, .slice A2_1 l2_1.length c2_1]] w fun e w' => ∃ v1_ : Value, e = .returned (.tuple #[.agg #[.bool r1, v1_], .int .i64 r3]) ∧ Kd.R (Kd.int .u64) 25 w' w.heap.size (fun _ => True) v1_ r2 ∧ Below w.heap.size w w' := by
 have hu24 := Tryz.underlying24
 have HR1_1 := Az hr1_1
 have HC1_1 := Az hc1_1
 clear hr1_1 hc1_1
 have HR2_1 := Az hr2_1
 have HC2_1 := Az hc2_1
 clear hr2_1 hc2_1
 have HB := Az (Below.refl w.heap.size w)
 have H := h
 unfold plain_wholes.f at H
 clear h
 by_cases c4 : a0 = 1
 ·rw [if_pos c4] at H
  have c4b0 := beq_iff_eq.mpr c4
  have c4b1 := bne_eq_false_iff_eq.mpr c4
  clear c4
  obtain ⟨⟨t493, t494, t497⟩, A5, H⟩ := bd H
  (try dsimp only at H)
  simp only [Option.some.injEq, Prod.mk.injEq] at H
  obtain ⟨rfl, rfl, rfl⟩ := H
  go_enter Tryz.func66, Tryz.ntmps66
  go_wp2_with (first | (refine be 4 #[.bool a1_0, .slice A1_1 l1_1.length c1_1] 24 ?_; intro gb490 hg w6 hbox hb; have BK490 := Az (hbox); have GW490 := gw (bl HB) hg; have GE490 := gw (bl HB) hg; replace HB := Az (below_step (bl HB) hb); clear hb hbox hg) | (refine be 5 #[.bool a2_0, .slice A2_1 l2_1.length c2_1] 24 ?_; intro gb491 hg w7 hbox hb; have BK491 := Az (hbox); have GW491 := gw (bls HB) hg; have GE491 := gw (bls HB) hg; replace HB := Az (below_step (bls HB) hb); have NB490_491 := nl BK490 hg; have NB491_490 := ng BK490 hg; replace BK490 := kb BK490 hb; clear hb hbox hg) | (refine be 6 #[.bool false, .slice none 0 0] 24 ?_; intro gb492 hg w8 hbox hb; have BK492 := Az (hbox); have GW492 := gw (bls HB) hg; have GE492 := gw (bls HB) hg; replace HB := Az (below_step (bls HB) hb); have NB490_492 := nl BK490 hg; have NB492_490 := ng BK490 hg; replace BK490 := kb BK490 hb; have NB491_492 := nl BK491 hg; have NB492_491 := ng BK491 hg; replace BK491 := kb BK491 hb; clear hb hbox hg; have hnb9 := NB490_491.out; have hnc9 := NB491_490.out; have hnb10 := NB490_492.out; have hnc10 := NB492_490.out; have hz11_1 := bz BK490; have hnb12 := NB491_492.out; have hnc12 := NB492_491.out; have hz13_1 := bz BK491) | (refine gl (some 16) Tryz.func95 #[.agg #[.bool a1_0, .slice A1_1 l1_1.length c1_1], .agg #[.bool a2_0, .slice A2_1 l2_1.length c2_1]] ?_; (with_reducible refine (whole_Add.calls k a1_0 _ _ l1_1 a2_0 _ _ l2_1 t493 t494 t497 _ (ck HR1_1 HB) HC1_1.out (ck HR2_1 HB) HC2_1.out A5.out).mono ?_); rintro e w14 ⟨v495, rfl, ho0, hb⟩; refine ⟨_, rfl, ?_⟩; have HO496 := Az (Kd.R_lower ho0 (below_size (bls HB))); replace BK490 := kb BK490 hb; replace BK491 := kb BK491 hb; replace BK492 := kb BK492 hb; replace HB := Az (below_step (bls HB) hb); (try clear hb); (try clear ho0); have hz15_1 := bz BK492; obtain ⟨Ao16, co16, eo16⟩ := Kd.R_slice HO496.out; subst eo16))
  refine bodyPost_ret (results_ct rfl _ _ gb492 24 #[.bool t493, .slice Ao16 t494.length co16] (0, 0) _ rfl (by (with_reducible repeat (first | refine blk_drewN ?_ _ | refine blk_drew ?_ | refine blk_alloc ?_ _)); refine blk_put (cs := #[.bool t493, .slice none 0 0]) ?_ 1 _ rfl; (with_reducible repeat (first | refine blk_drewN ?_ _ | refine blk_drew ?_ | refine blk_alloc ?_ _)); refine blk_put (cs := #[.bool false, .slice none 0 0]) ?_ 0 _ rfl; (with_reducible repeat (first | refine blk_drewN ?_ _ | refine blk_drew ?_ | refine blk_alloc ?_ _)); exact BK492.out) Tryz.underlying24 rfl (by kernel_rfl)) rfl ?_
  exact ⟨_, fe, rt (Kd.R_mono (Kd.R_far (p := ⟨gb492, 1, none⟩) (Kd.R_far (p := ⟨gb492, 0, none⟩) (Kd.R_types HO496.out BK492.out (by decide)) (fun _ hk => hk.2) (.bool t493)) (fun _ hk => hk.2) (.slice Ao16 t494.length co16)) (fun _ hk => trivial)), bls HB⟩
 ·rw [if_neg c4] at H
  exact absurd H (by simp)
def plain_ofInt.f (a0_0 : Bool) (l0_1 : List Int) : Option (Int × Bool × Bool × List Int × Int × ByteArray × (List (S28))) := some (2, false, a0_0, l0_1, 0, (⟨#[]⟩ : ByteArray), ([] : List (S28)))
set_option maxHeartbeats 8000000 in
set_option maxRecDepth 100000 in
theorem plain_ofInt.calls (a0_0 : Bool) (P0_1_ : Nat → Prop) (A0_1 : Option Addr) (c0_1 : Nat) (l0_1 : List Int) (r1 : Int) (r2 : Bool) (r3 : Bool) (r4 : List Int) (r5 : Int) (r6 : ByteArray) (r7 : List (S28)) (w : World) (hs0_1 : Kd.V (Kd.int .u64) 25 w w.heap.size (fun k_ => P0_1_ k_) (.slice A0_1 l0_1.length c0_1) l0_1) (h : plain_ofInt.f a0_0 l0_1 = some (r1, r2, r3, r4, r5, r6, r7)) :
  Calls Tryz.prog 67 #[.agg #[.bool a0_0, .slice A0_1 l0_1.length c0_1]] w fun e w' => ∃ v3_ v6_ : Value, e = .returned (.agg #[.int .i64 r1, .bool r2, .bool r3, v3_, .int .u64 r5, .string r6, v6_]) ∧ Kd.V (Kd.int .u64) 25 w' w.heap.size (fun k_ => (P0_1_ k_ ∨ w.heap.size ≤ k_) ∧ some k_ ≠ (v6_ : Value).ownBlock) v3_ r4 ∧ Kd.R k28 28 w' w.heap.size (fun k_ => (w.heap.size ≤ k_)) v6_ r7 ∧ Below w.heap.size w w' := by
 have hu24 := Tryz.underlying24
 have hu28 := Tryz.underlying28
 have HO0_1 := Az (show Kd.V (Kd.int .u64) 25 w w.heap.size (fun k_ => (P0_1_ k_ ∨ w.heap.size ≤ k_)) (.slice A0_1 l0_1.length c0_1) l0_1 from Kd.V_mono hs0_1 (fun k_ hk => .inl hk))
 have HB := Az (Below.refl w.heap.size w)
 have H := h
 unfold plain_ofInt.f at H
 clear h
 simp only [Option.some.injEq, Prod.mk.injEq] at H
 obtain ⟨rfl, rfl, rfl, rfl, rfl, rfl, rfl⟩ := H
 go_enter Tryz.func67, Tryz.ntmps67
 go_wp2_with (first | (refine be 1 #[.bool a0_0, .slice A0_1 l0_1.length c0_1] 24 ?_; intro gb498 hg w2 hbox hb; replace HO0_1 := Az (Kd.V_below (Kd.V_elderB (vk HO0_1) gb498 (Nat.le_of_eq hg.symm)) hb); have BK498 := Az (hbox); have GW498 := gw (bl HB) hg; have GE498 := gw (bl HB) hg; replace HB := Az (below_step (bl HB) hb); clear hb hbox hg) | (refine be 2 #[.int .i64 0, .bool false, .bool false, .slice none 0 0, .int .u64 0, .string (⟨#[]⟩ : ByteArray), .slice none 0 0] 28 ?_; intro gb499 hg w3 hbox hb; replace HO0_1 := Az (Kd.V_below (Kd.V_elderB (vk HO0_1) gb499 (Nat.le_of_eq hg.symm)) hb); have BK499 := Az (hbox); have GW499 := gw (bls HB) hg; have GE499 := gw (bls HB) hg; replace HB := Az (below_step (bls HB) hb); have NB498_499 := nl BK498 hg; have NB499_498 := ng BK498 hg; replace BK498 := kb BK498 hb; clear hb hbox hg; have hnb4 := NB498_499.out; have hnc4 := NB499_498.out; have hz5_1 := bz BK498; have hz6_2 := bz BK499))
 refine bodyPost_ret (results_cell_row rfl _ _ gb499 28 #[.int .i64 2, .bool false, .bool a0_0, .slice A0_1 l0_1.length c0_1, .int .u64 0, .string (⟨#[]⟩ : ByteArray), .slice none 0 0] (0, 0) _ rfl (by (with_reducible repeat (first | refine blk_drewN ?_ _ | refine blk_drew ?_ | refine blk_alloc ?_ _)); refine blk_put (cs := #[.int .i64 2, .bool false, .bool a0_0, .slice A0_1 l0_1.length c0_1, .int .u64 0, .string (⟨#[]⟩ : ByteArray), .slice none 0 0]) ?_ 6 _ rfl; (with_reducible repeat (first | refine blk_drewN ?_ _ | refine blk_drew ?_ | refine blk_alloc ?_ _)); refine blk_put (cs := #[.int .i64 2, .bool false, .bool a0_0, .slice A0_1 l0_1.length c0_1, .int .u64 0, .string (⟨#[]⟩ : ByteArray), .slice none 0 0]) ?_ 5 _ rfl; (with_reducible repeat (first | refine blk_drewN ?_ _ | refine blk_drew ?_ | refine blk_alloc ?_ _)); refine blk_put (cs := #[.int .i64 2, .bool false, .bool a0_0, .slice A0_1 l0_1.length c0_1, .int .u64 0, .string (⟨#[]⟩ : ByteArray), .slice none 0 0]) ?_ 4 _ rfl; (with_reducible repeat (first | refine blk_drewN ?_ _ | refine blk_drew ?_ | refine blk_alloc ?_ _)); refine blk_put (cs := #[.int .i64 2, .bool false, .bool a0_0, .slice none 0 0, .int .u64 0, .string (⟨#[]⟩ : ByteArray), .slice none 0 0]) ?_ 3 _ rfl; (with_reducible repeat (first | refine blk_drewN ?_ _ | refine blk_drew ?_ | refine blk_alloc ?_ _)); refine blk_put (cs := #[.int .i64 2, .bool false, .bool false, .slice none 0 0, .int .u64 0, .string (⟨#[]⟩ : ByteArray), .slice none 0 0]) ?_ 2 _ rfl; (with_reducible repeat (first | refine blk_drewN ?_ _ | refine blk_drew ?_ | refine blk_alloc ?_ _)); refine blk_put (cs := #[.int .i64 2, .bool false, .bool false, .slice none 0 0, .int .u64 0, .string (⟨#[]⟩ : ByteArray), .slice none 0 0]) ?_ 1 _ rfl; (with_reducible repeat (first | refine blk_drewN ?_ _ | refine blk_drew ?_ | refine blk_alloc ?_ _)); refine blk_put (cs := #[.int .i64 0, .bool false, .bool false, .slice none 0 0, .int .u64 0, .string (⟨#[]⟩ : ByteArray), .slice none 0 0]) ?_ 0 _ rfl; (with_reducible repeat (first | refine blk_drewN ?_ _ | refine blk_drew ?_ | refine blk_alloc ?_ _)); exact BK499.out) Tryz.underlying28 rfl (by kernel_rfl)) rfl ?_
 exact ⟨_, _, fe, vt (Kd.V_mono (Kd.V_far (p := ⟨gb499, 6, none⟩) (Kd.V_far (p := ⟨gb499, 5, none⟩) (Kd.V_far (p := ⟨gb499, 4, none⟩) (Kd.V_far (p := ⟨gb499, 3, none⟩) (Kd.V_far (p := ⟨gb499, 2, none⟩) (Kd.V_far (p := ⟨gb499, 1, none⟩) (Kd.V_far (p := ⟨gb499, 0, none⟩) (Kd.V_mono HO0_1.out (fun k_ hk => (⟨hk, hk.2⟩ : _ ∧ k_ ≠ gb499))) (fun _ hk => hk.2) (.int .i64 2)) (fun _ hk => hk.2) (.bool false)) (fun _ hk => hk.2) (.bool a0_0)) (fun _ hk => hk.2) (.slice A0_1 l0_1.length c0_1)) (fun _ hk => hk.2) (.int .u64 0)) (fun _ hk => hk.2) (.string (⟨#[]⟩ : ByteArray))) (fun _ hk => hk.2) (.slice none 0 0)) (fun _ hk => ⟨hk.1.1.1, (by simp [Value.ownBlock])⟩)), by first | exact Kd.R_nil _ _ _ _ _ | exact Kd.N_nil _ _ _ _ _ | exact Kd.V_nil _ _ _ _ _ | exact Kd.Q_nil _ _ _ _ _ | exact Kd.S_nil _ _ _ _ _, bls HB⟩
end Go.Proofs.YtkenmmfplnheaaaGreatDoor.P
