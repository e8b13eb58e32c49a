/- The functions' forms and the proofs that the machine computes them: printed by a changed copy of the kit's printer, shortened by a program. -/
import Derived.Test.YtkenmmfplnheaaaGreatDoorWalk1
namespace Go.Proofs.YtkenmmfplnheaaaGreatDoor.P
open Go.Proofs.YtkenmmfplnheaaaGreatDoor.Giv
open Go.RowKit Go.Proofs.YtkenmmfplnheaaaGreatDoorW.PrintWords Go.Proofs.YtkenmmfplnheaaaGreatDoorW.PrintLast Go.Proofs.YtkenmmfplnheaaaGreatDoorW.PrintMore
attribute [local go_sem] max2_int min2_int max_two min_two max_three min_three max_four min_four   -- for this text's walks alone
set_option linter.unusedVariables false
set_option linter.unusedSimpArgs false
set_option maxHeartbeats 8000000
set_option maxRecDepth 100000
def o_DivMod.f (k : Nat) (a0_0 : Bool) (l0_1 : List Int) (a1_0 : Bool) (l1_1 : List Int) : Option (Bool × List Int × Bool × List Int × Int) := (o_Good.f k a0_0 l0_1).bind fun t315 => (if t315 = true then ((o_Good.f k a1_0 l1_1).bind fun t316 => (if t316 = true then (if (l1_1.length : Int) = 0 then (none) else ((o_divide.f k l0_1 l1_1).bind fun bt317 => ((o_form.f (a0_0 != a1_0) bt317.1).bind fun bt323 => ((o_form.f a0_0 bt317.2).bind fun bt327 => (if (bt327.2.length : Int) > 0 then (none) else (some (bt323.1, bt323.2, bt327.1, bt327.2, 0))))))) else (none))) else (none))
theorem o_DivMod.mono : ∀ a0 a1 a2 a3 k, LeO (o_DivMod.f k a0 a1 a2 a3) (o_DivMod.f (k + 1) a0 a1 a2 a3) := by
 intro a0 a1 a2 a3 k
 unfold o_DivMod.f
 repeat' first
   | exact o_Good.mono _ _ _
   | exact o_divide.mono _ _ _
   | exact LeO.refl _
   | exact LeO.none _
   | refine LeO.ite ?_ ?_
   | refine LeO.bind ?_ (fun _ => ?_)
def o_DivMod.T6 : Bool × List (List Nat × List Nat) := (true, [([], []), ([0], [0]), ([], []), ([2], [2]), ([1, 3], [1, 3]), ([], []), ([4, 5], [4, 5]), ([], []), ([7], [7]), ([], []), ([8, 9, 6], [8, 9]), ([], []), ([], []), ([11, 6, 10, 0, 1, 2, 3, 4, 5, 6, 11, 12], [6, 11]), ([12, 10, 13, 0, 1, 2, 3, 4, 5, 6, 7, 8, 9, 10, 11, 12, 13], [10, 12])])
def o_DivMod.B6 : List Nat := [0, 1, 0, 4, 15, 0, 63, 0, 128, 0, 1023, 0, 0, 8191, 16383]
theorem o_DivMod.tab6 : rtab .any (opsOf Tryz.f99 6) = o_DivMod.T6 := by kernel_rfl
theorem o_DivMod.bits6 : waitsOk o_DivMod.T6.2 o_DivMod.B6 = true := by kernel_rfl
theorem o_DivMod.calls (k : Nat) (a0_0 : Bool) (A0_1 : Option Addr) (c0_1 : Nat) (l0_1 : List Int) (a1_0 : Bool) (A1_1 : Option Addr) (c1_1 : Nat) (l1_1 : List Int) (r1 : Bool) (r2 : List Int) (r3 : Bool) (r4 : List Int) (r5 : Int) (w : World) (hr0_1 : Kd.C (Kd.int .u64) w A0_1 l0_1.length l0_1) (hc0_1 : l0_1.length ≤ c0_1) (hr1_1 : Kd.C (Kd.int .u64) w A1_1 l1_1.length l1_1) (hc1_1 : l1_1.length ≤ c1_1) (h : o_DivMod.f k a0_0 l0_1 a1_0 l1_1 = some (r1, r2, r3, r4, r5)) :
  Calls Tryz.prog 99 #[.agg #[.bool a0_0, .slice A0_1 l0_1.length c0_1], .agg #[.bool a1_0, .slice A1_1 l1_1.length c1_1]] w fun e w' => ∃ v1_ v3_ : Value, e = .returned (.tuple #[.agg #[.bool r1, v1_], .agg #[.bool r3, v3_], .int .i64 r5]) ∧ Kd.R (Kd.int .u64) 25 w' w.heap.size (fun k_ => some k_ ≠ (v3_ : Value).ownBlock) v1_ r2 ∧ Kd.R (Kd.int .u64) 25 w' w.heap.size (fun k_ => some k_ ≠ (v1_ : Value).ownBlock) v3_ r4 ∧ Below w.heap.size w w' := by
 have hu24 := Tryz.underlying24
 have HR0_1 := Az hr0_1
 have HC0_1 := Az hc0_1
 have HR1_1 := Az hr1_1
 have HC1_1 := Az hc1_1
 have HB := Az (Below.refl w.heap.size w)
 have H := h
 unfold o_DivMod.f at H
 obtain ⟨t315, A3, H⟩ := bd H
 by_cases c4 : t315 = true
 case neg =>
  replace c4 := Bool.eq_false_iff.mpr c4
  subst c4
  rw [if_neg Bool.false_ne_true] at H
  exact absurd H (by simp)
 subst c4
 rw [if_pos rfl] at H
 obtain ⟨t316, A5, H⟩ := bd H
 by_cases c6 : t316 = true
 case neg =>
  replace c6 := Bool.eq_false_iff.mpr c6
  subst c6
  rw [if_neg Bool.false_ne_true] at H
  exact absurd H (by simp)
 subst c6
 rw [if_pos rfl] at H
 by_cases c7 : (l1_1.length : Int) = 0
 ·rw [if_pos c7] at H
  exact absurd H (by simp)
 rw [if_neg c7] at H
 obtain ⟨⟨t317, t320⟩, A8, H⟩ := bd H
 obtain ⟨⟨t323, t324⟩, A9, H⟩ := bd H
 obtain ⟨⟨t327, t328⟩, A10, H⟩ := bd H
 by_cases c11 : (t328.length : Int) > 0
 ·rw [if_pos c11] at H
  exact absurd H (by simp)
 rw [if_neg c11] at H
 simp only [Option.some.injEq, Prod.mk.injEq] at H
 obtain ⟨rfl, rfl, rfl, rfl, rfl⟩ := H
 go_enter Tryz.func99, Tryz.ntmps99
 try go_wp2_with (first | (refine be 2 #[.bool a0_0, .slice A0_1 l0_1.length c0_1] 24 ?_; intro gb311 hg w12 hbox hb; have BK311 := Az (hbox); have GW311 := gw (bl HB) hg; replace HB := bs HB hb; clear hb hbox hg) | (refine be 3 #[.bool a1_0, .slice A1_1 l1_1.length c1_1] 24 ?_; intro gb312 hg w13 hbox hb; have BK312 := Az (hbox); have GW312 := gw (bls HB) hg; replace HB := bs HB hb; have NB311_312 := nl BK311 hg; have NB312_311 := ng BK311 hg; replace BK311 := kb BK311 hb; clear hb hbox hg) | (refine be 4 #[.bool false, .slice none 0 0] 24 ?_; intro gb313 hg w14 hbox hb; have BK313 := Az (hbox); have GW313 := gw (bls HB) hg; replace HB := bs HB hb; have NB311_313 := nl BK311 hg; have NB313_311 := ng BK311 hg; replace BK311 := kb BK311 hb; have NB312_313 := nl BK312 hg; have NB313_312 := ng BK312 hg; replace BK312 := kb BK312 hb; clear hb hbox hg) | (refine be 5 #[.bool false, .slice none 0 0] 24 ?_; intro gb314 hg w15 hbox hb; have BK314 := Az (hbox); have GW314 := gw (bls HB) hg; replace HB := bs HB hb; have NB311_314 := nl BK311 hg; have NB314_311 := ng BK311 hg; replace BK311 := kb BK311 hb; have NB312_314 := nl BK312 hg; have NB314_312 := ng BK312 hg; replace BK312 := kb BK312 hb; have NB313_314 := nl BK313 hg; have NB314_313 := ng BK313 hg; replace BK313 := kb BK313 hb; clear hb hbox hg; have hnb16 := NB311_312.out; have hnc16 := NB312_311.out; have hnb17 := NB311_313.out; have hnc17 := NB313_311.out; have hnb18 := NB311_314.out; have hnc18 := NB314_311.out; have hz19_1 := bz BK311) | (refine gl (some 12) Tryz.func47 #[.agg #[.bool a0_0, .slice A0_1 l0_1.length c0_1]] ?_; (with_reducible refine (o_Good.calls k a0_0 _ _ l0_1 true _ (ck HR0_1 HB) HC0_1.out A3.out).mono ?_); rintro e w20 ⟨rfl, hb⟩; refine ⟨_, rfl, ?_⟩; replace BK311 := kb BK311 hb; replace BK312 := kb BK312 hb; replace BK313 := kb BK313 hb; replace BK314 := kb BK314 hb; replace HB := bs HB hb; have hnb21 := NB312_313.out; have hnc21 := NB313_312.out; have hnb22 := NB312_314.out; have hnc22 := NB314_312.out; have hz23_1 := bz BK312) | (go_at_call 47; (with_reducible refine (o_Good.calls k a1_0 _ _ l1_1 true _ (ck HR1_1 HB) HC1_1.out A5.out).mono ?_); rintro e w24 ⟨rfl, hb⟩; replace BK311 := kb BK311 hb; replace BK312 := kb BK312 hb; replace BK313 := kb BK313 hb; replace BK314 := kb BK314 hb; replace HB := bs HB hb; have hz25_1 := bz BK312; have hz26_2 := bz BK311) | (refine gl (some 32) Tryz.func130 #[.slice A0_1 l0_1.length c0_1, .slice A1_1 l1_1.length c1_1] ?_; (with_reducible refine (o_divide.calls k (fun k_ => k_ < w.heap.size) _ _ l0_1 _ _ l1_1 t317 t320 _ ?side1 (ck HR1_1 HB) HC1_1.out A8.out).mono ?_); (case side1 => exact Kd.V_mk HC0_1.out (Kd.F_below (Kd.C_F (Kd.heap_int .u64) HR0_1.out) (bls HB))); rintro e w27 ⟨v318, v321, rfl, ho0, ho1, hb⟩; refine ⟨_, rfl, ?_⟩; have HO319 := Az (Kd.R_lower (Kd.R_mono (ok' := fun k_ => True) ho0 (fun _ hk_ => trivial)) (below_size (bls HB))); have HO322 := Az (Kd.V_lower (Kd.V_mono (ok' := fun k_ => some k_ ≠ (v318 : Value).ownBlock ∧ k_ ≠ gb311 ∧ k_ ≠ gb312 ∧ k_ ≠ gb313 ∧ k_ ≠ gb314) ho1 (fun k_ hk_ => ⟨hk_.2, Or.elim hk_.1 (fun hs_ => fun e_ => Nat.not_le.2 hs_ (by rw [e_]; exact GW311.out)) (fun hn_ => (Kd.freshB (g := gb311) (o := .cells #[.bool a0_0, .slice A0_1 l0_1.length c0_1] 24 (0, 0)) (bk BK311) k_ hn_)), Or.elim hk_.1 (fun hs_ => fun e_ => Nat.not_le.2 hs_ (by rw [e_]; exact GW312.out)) (fun hn_ => (Kd.freshB (g := gb312) (o := .cells #[.bool a1_0, .slice A1_1 l1_1.length c1_1] 24 (0, 0)) (bk BK312) k_ hn_)), Or.elim hk_.1 (fun hs_ => fun e_ => Nat.not_le.2 hs_ (by rw [e_]; exact GW313.out)) (fun hn_ => (Kd.freshB (g := gb313) (o := .cells #[.bool false, .slice none 0 0] 24 (0, 0)) (bk BK313) k_ hn_)), Or.elim hk_.1 (fun hs_ => fun e_ => Nat.not_le.2 hs_ (by rw [e_]; exact GW314.out)) (fun hn_ => (Kd.freshB (g := gb314) (o := .cells #[.bool false, .slice none 0 0] 24 (0, 0)) (bk BK314) k_ hn_))⟩)) (below_size (bls HB))); replace BK311 := kb BK311 hb; replace BK312 := kb BK312 hb; replace BK313 := kb BK313 hb; replace BK314 := kb BK314 hb; replace HB := bs HB hb; obtain ⟨Ao28, co28, eo28⟩ := Kd.R_slice HO319.out; subst eo28; obtain ⟨Ao29, co29, eo29⟩ := Kd.V_slice HO322.out; subst eo29))
 replace HO319 := Az (Kd.R_drew HO319.out)
 replace HO322 := Az (Kd.V_drew HO322.out)
 replace BK311 := Az (blk_drew BK311.out)
 replace BK312 := Az (blk_drew BK312.out)
 replace BK313 := Az (blk_drew BK313.out)
 replace BK314 := Az (blk_drew BK314.out)
 replace HB := Az (below_drew1 HB.out)
 refine start_ (n := 15) (S := fun w' => w'.cell? ⟨gb311, 0, none⟩ = some (.bool a0_0) ∧ w'.cell? ⟨gb311, 1, none⟩ = some (.slice A0_1 l0_1.length c0_1) ∧ w'.cell? ⟨gb312, 0, none⟩ = some (.bool a1_0) ∧ w'.cell? ⟨gb312, 1, none⟩ = some (.slice A1_1 l1_1.length c1_1)) (ds := []) (bm 15 0) (by kernel_rfl) rfl rfl ⟨(blk_cell BK311.out 0).trans rfl, (blk_cell BK311.out 1).trans rfl, (blk_cell BK312.out 0).trans rfl, (blk_cell BK312.out 1).trans rfl⟩ (fun hHeld => ?_); refine with_tabW o_DivMod.tab6 o_DivMod.bits6 (fun HT_ HW_ => ?_)
 generalize w27.drew = w30 at HO319 HO322 BK311 BK312 BK313 BK314 HB hHeld ⊢
 refine pu 0 (some 35) (bm 15 1) HT_.out ?_
 refine pu 2 (some 37) (bm 15 5) HT_.out ?_
 refine pu 5 (some 40) (bm 15 37) HT_.out ?_
 refine pu 7 (some 42) (bm 15 165) HT_.out ?_
 refine pu 9 (some 44) (bm 15 677) HT_.out ?_
 refine tk 1 (some 36) (bm 15 679) HT_.out HW_.out hHeld ?_
 refine tk 3 (some 38) (bm 15 687) HT_.out HW_.out hHeld ?_
 refine pu 4 (some 39) (bm 15 703) HT_.out ?_
 refine tk 8 (some 43) (bm 15 959) HT_.out HW_.out hHeld ?_
 refine join_ (σ := Value × Value × Nat × Nat) 2 (bm 15 8191) (fun s_ => [(41, .agg #[.bool t323, s_.1]), (45, .agg #[.bool t327, s_.2.1]), (9, .pointer (some ⟨s_.2.2.1, 0, none⟩)), (10, .pointer (some ⟨s_.2.2.2, 0, none⟩))]) (fun s_ w' => (w'.cell? ⟨gb311, 0, none⟩ = some (.bool a0_0) ∧ w'.cell? ⟨gb311, 1, none⟩ = some (.slice A0_1 l0_1.length c0_1) ∧ w'.cell? ⟨gb312, 0, none⟩ = some (.bool a1_0) ∧ w'.cell? ⟨gb312, 1, none⟩ = some (.slice A1_1 l1_1.length c1_1)) ∧ (Kd.R (Kd.int .u64) 25 w' w.heap.size (fun k_ => some k_ ≠ (s_.1 : Value).ownBlock ∧ some k_ ≠ (s_.2.1 : Value).ownBlock) (.slice Ao28 t317.length co28) t317) ∧ (Kd.V (Kd.int .u64) 25 w' w.heap.size (fun k_ => some k_ ≠ (.slice Ao28 t317.length co28 : Value).ownBlock ∧ some k_ ≠ (s_.1 : Value).ownBlock ∧ some k_ ≠ (s_.2.1 : Value).ownBlock ∧ k_ ≠ gb311 ∧ k_ ≠ gb312 ∧ k_ ≠ gb313 ∧ k_ ≠ gb314 ∧ k_ ≠ s_.2.2.1 ∧ k_ ≠ s_.2.2.2) (.slice Ao29 t320.length co29) t320) ∧ (Kd.R (Kd.int .u64) 25 w' w.heap.size (fun k_ => some k_ ≠ (.slice Ao28 t317.length co28 : Value).ownBlock ∧ some k_ ≠ (s_.2.1 : Value).ownBlock) s_.1 t324) ∧ (Kd.R (Kd.int .u64) 25 w' w.heap.size (fun k_ => some k_ ≠ (.slice Ao28 t317.length co28 : Value).ownBlock ∧ some k_ ≠ (s_.1 : Value).ownBlock) s_.2.1 t328) ∧ (w'.heap[gb311]? = some (.cells #[.bool a0_0, .slice A0_1 l0_1.length c0_1] 24 (0, 0))) ∧ (w'.heap[gb312]? = some (.cells #[.bool a1_0, .slice A1_1 l1_1.length c1_1] 24 (0, 0))) ∧ (w'.heap[gb313]? = some (.cells #[.bool false, .slice none 0 0] 24 (0, 0))) ∧ (w'.heap[gb314]? = some (.cells #[.bool false, .slice none 0 0] 24 (0, 0))) ∧ (w'.heap[s_.2.2.1]? = some (.cells #[.bool false, .slice none 0 0] 24 (0, 0))) ∧ (w'.heap[s_.2.2.2]? = some (.cells #[.bool false, .slice none 0 0] 24 (0, 0))) ∧ (w.heap.size ≤ s_.2.2.1) ∧ (w.heap.size ≤ s_.2.2.1) ∧ (gb311 ≠ s_.2.2.1) ∧ (s_.2.2.1 ≠ gb311) ∧ (gb312 ≠ s_.2.2.1) ∧ (s_.2.2.1 ≠ gb312) ∧ (gb313 ≠ s_.2.2.1) ∧ (s_.2.2.1 ≠ gb313) ∧ (gb314 ≠ s_.2.2.1) ∧ (s_.2.2.1 ≠ gb314) ∧ (s_.2.2.2 ≠ s_.2.2.1) ∧ (s_.2.2.1 ≠ s_.2.2.2) ∧ (w.heap.size ≤ s_.2.2.2) ∧ (w.heap.size ≤ s_.2.2.2) ∧ (gb311 ≠ s_.2.2.2) ∧ (s_.2.2.2 ≠ gb311) ∧ (gb312 ≠ s_.2.2.2) ∧ (s_.2.2.2 ≠ gb312) ∧ (gb313 ≠ s_.2.2.2) ∧ (s_.2.2.2 ≠ gb313) ∧ (gb314 ≠ s_.2.2.2) ∧ (s_.2.2.2 ≠ gb314) ∧ (Below w.heap.size w w')) ?_ ?_
 rotate_left
 ·intro hJ6_10_11_12
  refine join_ (σ := Value × Value × Nat) 3 (bm 15 4095) (fun s_ => [(41, .agg #[.bool t323, s_.1]), (45, .agg #[.bool t327, s_.2.1]), (9, .pointer (some ⟨s_.2.2, 0, none⟩))]) (fun s_ w' => (w'.cell? ⟨gb311, 0, none⟩ = some (.bool a0_0) ∧ w'.cell? ⟨gb311, 1, none⟩ = some (.slice A0_1 l0_1.length c0_1) ∧ w'.cell? ⟨gb312, 0, none⟩ = some (.bool a1_0) ∧ w'.cell? ⟨gb312, 1, none⟩ = some (.slice A1_1 l1_1.length c1_1)) ∧ (Kd.R (Kd.int .u64) 25 w' w.heap.size (fun k_ => some k_ ≠ (s_.1 : Value).ownBlock ∧ some k_ ≠ (s_.2.1 : Value).ownBlock) (.slice Ao28 t317.length co28) t317) ∧ (Kd.V (Kd.int .u64) 25 w' w.heap.size (fun k_ => some k_ ≠ (.slice Ao28 t317.length co28 : Value).ownBlock ∧ some k_ ≠ (s_.1 : Value).ownBlock ∧ some k_ ≠ (s_.2.1 : Value).ownBlock ∧ k_ ≠ gb311 ∧ k_ ≠ gb312 ∧ k_ ≠ gb313 ∧ k_ ≠ gb314 ∧ k_ ≠ s_.2.2) (.slice Ao29 t320.length co29) t320) ∧ (Kd.R (Kd.int .u64) 25 w' w.heap.size (fun k_ => some k_ ≠ (.slice Ao28 t317.length co28 : Value).ownBlock ∧ some k_ ≠ (s_.2.1 : Value).ownBlock) s_.1 t324) ∧ (Kd.R (Kd.int .u64) 25 w' w.heap.size (fun k_ => some k_ ≠ (.slice Ao28 t317.length co28 : Value).ownBlock ∧ some k_ ≠ (s_.1 : Value).ownBlock) s_.2.1 t328) ∧ (w'.heap[gb311]? = some (.cells #[.bool a0_0, .slice A0_1 l0_1.length c0_1] 24 (0, 0))) ∧ (w'.heap[gb312]? = some (.cells #[.bool a1_0, .slice A1_1 l1_1.length c1_1] 24 (0, 0))) ∧ (w'.heap[gb313]? = some (.cells #[.bool false, .slice none 0 0] 24 (0, 0))) ∧ (w'.heap[gb314]? = some (.cells #[.bool false, .slice none 0 0] 24 (0, 0))) ∧ (w'.heap[s_.2.2]? = some (.cells #[.bool false, .slice none 0 0] 24 (0, 0))) ∧ (w.heap.size ≤ s_.2.2) ∧ (w.heap.size ≤ s_.2.2) ∧ (gb311 ≠ s_.2.2) ∧ (s_.2.2 ≠ gb311) ∧ (gb312 ≠ s_.2.2) ∧ (s_.2.2 ≠ gb312) ∧ (gb313 ≠ s_.2.2) ∧ (s_.2.2 ≠ gb313) ∧ (gb314 ≠ s_.2.2) ∧ (s_.2.2 ≠ gb314) ∧ (Below w.heap.size w w')) ?_ ?_
  ·rintro ⟨v325, v329, gb331⟩ w34 ⟨hS_, h0_, h1_, h2_, h3_, h4_, h5_, h6_, h7_, h8_, h9_, h10_, h11_, h12_, h13_, h14_, h15_, h16_, h17_, h18_, h19_⟩
   dsimp only at h0_ h1_ h2_ h3_ h4_ h5_ h6_ h7_ h8_ h9_ h10_ h11_ h12_ h13_ h14_ h15_ h16_ h17_ h18_ h19_
   replace HO319 := Az h0_
   replace HO322 := Az h1_
   have HO326 := Az h2_
   have HO330 := Az h3_
   replace BK311 := Az h4_
   replace BK312 := Az h5_
   replace BK313 := Az h6_
   replace BK314 := Az h7_
   have BK331 := Az h8_
   have GW331 := Az h9_
   have GE331 := Az h10_
   have NB311_331 := Az h11_
   have NB331_311 := Az h12_
   have NB312_331 := Az h13_
   have NB331_312 := Az h14_
   have NB313_331 := Az h15_
   have NB331_313 := Az h16_
   have NB314_331 := Az h17_
   have NB331_314 := Az h18_
   replace HB := Az h19_
   have hHeld : w34.cell? ⟨gb311, 0, none⟩ = some (.bool a0_0) ∧ w34.cell? ⟨gb311, 1, none⟩ = some (.slice A0_1 l0_1.length c0_1) ∧ w34.cell? ⟨gb312, 0, none⟩ = some (.bool a1_0) ∧ w34.cell? ⟨gb312, 1, none⟩ = some (.slice A1_1 l1_1.length c1_1) := hS_
   refine norm_ (a' := ?_) ?_ ?_
   rotate_left
   ·simp only [putAll, Act.put, List.setIfInBounds_toArray, List.set_cons_zero, List.set_cons_succ]
    rfl
   refine on 12 (some 10) (bm 15 8191) HT_.out (fun K hK => ?_)
   refine box_step ?hg (N := 10) ?hd (cs := #[.bool false, .slice none 0 0]) (t := 24) ?hr ?_; (case hd => rfl); (case hg => rfl); (case hr => first | (go_simp; done) | (go_simp; rfl))
   intro gb332 hg w35 hbox hb
   replace HO319 := Az (Kd.R_below (rk HO319) hb)
   replace HO322 := Az (Kd.V_below (Kd.V_elderB (vk HO322) gb332 (Nat.le_of_eq hg.symm)) hb)
   replace HO326 := Az (Kd.R_below (rk HO326) hb)
   replace HO330 := Az (Kd.R_below (rk HO330) hb)
   have BK332 := Az (hbox)
   have GW332 := gw (bls HB) hg
   have GE332 := gw (bls HB) hg
   replace HB := bs HB hb
   have NB311_332 := nl BK311 hg
   have NB332_311 := ng BK311 hg
   replace BK311 := kb BK311 hb
   have NB312_332 := nl BK312 hg
   have NB332_312 := ng BK312 hg
   replace BK312 := kb BK312 hb
   have NB313_332 := nl BK313 hg
   have NB332_313 := ng BK313 hg
   replace BK313 := kb BK313 hb
   have NB314_332 := nl BK314 hg
   have NB332_314 := ng BK314 hg
   replace BK314 := kb BK314 hb
   have NB331_332 := nl BK331 hg
   have NB332_331 := ng BK331 hg
   replace BK331 := kb BK331 hb
   refine hK.out _ _ hd (fun hHeld => ?_)
   refine nm ?_
   exact nj (hJ6_10_11_12 (v325, v329, gb331, gb332) _ ⟨hHeld, (rk HO319), (vt (Kd.V_mono HO322.out (fun _ hk => ⟨hk.1.1, ⟨hk.1.2.1, ⟨hk.1.2.2.1, ⟨hk.1.2.2.2.1, ⟨hk.1.2.2.2.2.1, ⟨hk.1.2.2.2.2.2.1, ⟨hk.1.2.2.2.2.2.2.1, ⟨hk.1.2.2.2.2.2.2.2, hk.2⟩⟩⟩⟩⟩⟩⟩⟩))), (rk HO326), (rk HO330), (bk BK311), (bk BK312), (bk BK313), (bk BK314), (bk BK331), (bk BK332), GW331.out, GE331.out, NB311_331.out, NB331_311.out, NB312_331.out, NB331_312.out, NB313_331.out, NB331_313.out, NB314_331.out, NB331_314.out, NB332_331.out, NB331_332.out, GW332.out, GE332.out, NB311_332.out, NB332_311.out, NB312_332.out, NB332_312.out, NB313_332.out, NB332_313.out, NB314_332.out, NB332_314.out, (bls HB)⟩)
  intro hJ6_10_11
  refine join_ (σ := Value × Value × Nat) 3 (bm 15 6143) (fun s_ => [(41, .agg #[.bool t323, s_.1]), (45, .agg #[.bool t327, s_.2.1]), (10, .pointer (some ⟨s_.2.2, 0, none⟩))]) (fun s_ w' => (w'.cell? ⟨gb311, 0, none⟩ = some (.bool a0_0) ∧ w'.cell? ⟨gb311, 1, none⟩ = some (.slice A0_1 l0_1.length c0_1) ∧ w'.cell? ⟨gb312, 0, none⟩ = some (.bool a1_0) ∧ w'.cell? ⟨gb312, 1, none⟩ = some (.slice A1_1 l1_1.length c1_1)) ∧ (Kd.R (Kd.int .u64) 25 w' w.heap.size (fun k_ => some k_ ≠ (s_.1 : Value).ownBlock ∧ some k_ ≠ (s_.2.1 : Value).ownBlock) (.slice Ao28 t317.length co28) t317) ∧ (Kd.V (Kd.int .u64) 25 w' w.heap.size (fun k_ => some k_ ≠ (.slice Ao28 t317.length co28 : Value).ownBlock ∧ some k_ ≠ (s_.1 : Value).ownBlock ∧ some k_ ≠ (s_.2.1 : Value).ownBlock ∧ k_ ≠ gb311 ∧ k_ ≠ gb312 ∧ k_ ≠ gb313 ∧ k_ ≠ gb314 ∧ k_ ≠ s_.2.2) (.slice Ao29 t320.length co29) t320) ∧ (Kd.R (Kd.int .u64) 25 w' w.heap.size (fun k_ => some k_ ≠ (.slice Ao28 t317.length co28 : Value).ownBlock ∧ some k_ ≠ (s_.2.1 : Value).ownBlock) s_.1 t324) ∧ (Kd.R (Kd.int .u64) 25 w' w.heap.size (fun k_ => some k_ ≠ (.slice Ao28 t317.length co28 : Value).ownBlock ∧ some k_ ≠ (s_.1 : Value).ownBlock) s_.2.1 t328) ∧ (w'.heap[gb311]? = some (.cells #[.bool a0_0, .slice A0_1 l0_1.length c0_1] 24 (0, 0))) ∧ (w'.heap[gb312]? = some (.cells #[.bool a1_0, .slice A1_1 l1_1.length c1_1] 24 (0, 0))) ∧ (w'.heap[gb313]? = some (.cells #[.bool false, .slice none 0 0] 24 (0, 0))) ∧ (w'.heap[gb314]? = some (.cells #[.bool false, .slice none 0 0] 24 (0, 0))) ∧ (w'.heap[s_.2.2]? = some (.cells #[.bool false, .slice none 0 0] 24 (0, 0))) ∧ (w.heap.size ≤ s_.2.2) ∧ (w.heap.size ≤ s_.2.2) ∧ (gb311 ≠ s_.2.2) ∧ (s_.2.2 ≠ gb311) ∧ (gb312 ≠ s_.2.2) ∧ (s_.2.2 ≠ gb312) ∧ (gb313 ≠ s_.2.2) ∧ (s_.2.2 ≠ gb313) ∧ (gb314 ≠ s_.2.2) ∧ (s_.2.2 ≠ gb314) ∧ (Below w.heap.size w w')) ?_ ?_
  ·rintro ⟨v325, v329, gb332⟩ w34 ⟨hS_, h0_, h1_, h2_, h3_, h4_, h5_, h6_, h7_, h8_, h9_, h10_, h11_, h12_, h13_, h14_, h15_, h16_, h17_, h18_, h19_⟩
   dsimp only at h0_ h1_ h2_ h3_ h4_ h5_ h6_ h7_ h8_ h9_ h10_ h11_ h12_ h13_ h14_ h15_ h16_ h17_ h18_ h19_
   replace HO319 := Az h0_
   replace HO322 := Az h1_
   have HO326 := Az h2_
   have HO330 := Az h3_
   replace BK311 := Az h4_
   replace BK312 := Az h5_
   replace BK313 := Az h6_
   replace BK314 := Az h7_
   have BK332 := Az h8_
   have GW332 := Az h9_
   have GE332 := Az h10_
   have NB311_332 := Az h11_
   have NB332_311 := Az h12_
   have NB312_332 := Az h13_
   have NB332_312 := Az h14_
   have NB313_332 := Az h15_
   have NB332_313 := Az h16_
   have NB314_332 := Az h17_
   have NB332_314 := Az h18_
   replace HB := Az h19_
   have hHeld : w34.cell? ⟨gb311, 0, none⟩ = some (.bool a0_0) ∧ w34.cell? ⟨gb311, 1, none⟩ = some (.slice A0_1 l0_1.length c0_1) ∧ w34.cell? ⟨gb312, 0, none⟩ = some (.bool a1_0) ∧ w34.cell? ⟨gb312, 1, none⟩ = some (.slice A1_1 l1_1.length c1_1) := hS_
   refine norm_ (a' := ?_) ?_ ?_
   rotate_left
   ·simp only [putAll, Act.put, List.setIfInBounds_toArray, List.set_cons_zero, List.set_cons_succ]
    rfl
   refine on 11 (some 9) (bm 15 8191) HT_.out (fun K hK => ?_)
   refine box_step ?hg (N := 9) ?hd (cs := #[.bool false, .slice none 0 0]) (t := 24) ?hr ?_; (case hd => rfl); (case hg => rfl); (case hr => first | (go_simp; done) | (go_simp; rfl))
   intro gb331 hg w35 hbox hb
   replace HO319 := Az (Kd.R_below (rk HO319) hb)
   replace HO322 := Az (Kd.V_below (Kd.V_elderB (vk HO322) gb331 (Nat.le_of_eq hg.symm)) hb)
   replace HO326 := Az (Kd.R_below (rk HO326) hb)
   replace HO330 := Az (Kd.R_below (rk HO330) hb)
   have BK331 := Az (hbox)
   have GW331 := gw (bls HB) hg
   have GE331 := gw (bls HB) hg
   replace HB := bs HB hb
   have NB311_331 := nl BK311 hg
   have NB331_311 := ng BK311 hg
   replace BK311 := kb BK311 hb
   have NB312_331 := nl BK312 hg
   have NB331_312 := ng BK312 hg
   replace BK312 := kb BK312 hb
   have NB313_331 := nl BK313 hg
   have NB331_313 := ng BK313 hg
   replace BK313 := kb BK313 hb
   have NB314_331 := nl BK314 hg
   have NB331_314 := ng BK314 hg
   replace BK314 := kb BK314 hb
   have NB332_331 := nl BK332 hg
   have NB331_332 := ng BK332 hg
   replace BK332 := kb BK332 hb
   refine hK.out _ _ hd (fun hHeld => ?_)
   refine nm ?_
   exact nj (hJ6_10_11_12 (v325, v329, gb331, gb332) _ ⟨hHeld, (rk HO319), (vt (Kd.V_mono HO322.out (fun _ hk => ⟨hk.1.1, ⟨hk.1.2.1, ⟨hk.1.2.2.1, ⟨hk.1.2.2.2.1, ⟨hk.1.2.2.2.2.1, ⟨hk.1.2.2.2.2.2.1, ⟨hk.1.2.2.2.2.2.2.1, ⟨hk.2, hk.1.2.2.2.2.2.2.2⟩⟩⟩⟩⟩⟩⟩⟩))), (rk HO326), (rk HO330), (bk BK311), (bk BK312), (bk BK313), (bk BK314), (bk BK331), (bk BK332), GW331.out, GE331.out, NB311_331.out, NB331_311.out, NB312_331.out, NB331_312.out, NB313_331.out, NB331_313.out, NB314_331.out, NB331_314.out, NB332_331.out, NB331_332.out, GW332.out, GE332.out, NB311_332.out, NB332_311.out, NB312_332.out, NB332_312.out, NB313_332.out, NB332_313.out, NB314_332.out, NB332_314.out, (bls HB)⟩)
  intro hJ6_10_12
  refine join_ (σ := Value × Nat × Nat) 3 (bm 15 7167) (fun s_ => [(41, .agg #[.bool t323, s_.1]), (9, .pointer (some ⟨s_.2.1, 0, none⟩)), (10, .pointer (some ⟨s_.2.2, 0, none⟩))]) (fun s_ w' => (w'.cell? ⟨gb311, 0, none⟩ = some (.bool a0_0) ∧ w'.cell? ⟨gb311, 1, none⟩ = some (.slice A0_1 l0_1.length c0_1) ∧ w'.cell? ⟨gb312, 0, none⟩ = some (.bool a1_0) ∧ w'.cell? ⟨gb312, 1, none⟩ = some (.slice A1_1 l1_1.length c1_1)) ∧ (Kd.R (Kd.int .u64) 25 w' w.heap.size (fun k_ => some k_ ≠ (s_.1 : Value).ownBlock) (.slice Ao28 t317.length co28) t317) ∧ (Kd.V (Kd.int .u64) 25 w' w.heap.size (fun k_ => some k_ ≠ (.slice Ao28 t317.length co28 : Value).ownBlock ∧ some k_ ≠ (s_.1 : Value).ownBlock ∧ k_ ≠ gb311 ∧ k_ ≠ gb312 ∧ k_ ≠ gb313 ∧ k_ ≠ gb314 ∧ k_ ≠ s_.2.1 ∧ k_ ≠ s_.2.2) (.slice Ao29 t320.length co29) t320) ∧ (Kd.R (Kd.int .u64) 25 w' w.heap.size (fun k_ => some k_ ≠ (.slice Ao28 t317.length co28 : Value).ownBlock) s_.1 t324) ∧ (w'.heap[gb311]? = some (.cells #[.bool a0_0, .slice A0_1 l0_1.length c0_1] 24 (0, 0))) ∧ (w'.heap[gb312]? = some (.cells #[.bool a1_0, .slice A1_1 l1_1.length c1_1] 24 (0, 0))) ∧ (w'.heap[gb313]? = some (.cells #[.bool false, .slice none 0 0] 24 (0, 0))) ∧ (w'.heap[gb314]? = some (.cells #[.bool false, .slice none 0 0] 24 (0, 0))) ∧ (w'.heap[s_.2.1]? = some (.cells #[.bool false, .slice none 0 0] 24 (0, 0))) ∧ (w'.heap[s_.2.2]? = some (.cells #[.bool false, .slice none 0 0] 24 (0, 0))) ∧ (w.heap.size ≤ s_.2.1) ∧ (w.heap.size ≤ s_.2.1) ∧ (gb311 ≠ s_.2.1) ∧ (s_.2.1 ≠ gb311) ∧ (gb312 ≠ s_.2.1) ∧ (s_.2.1 ≠ gb312) ∧ (gb313 ≠ s_.2.1) ∧ (s_.2.1 ≠ gb313) ∧ (gb314 ≠ s_.2.1) ∧ (s_.2.1 ≠ gb314) ∧ (s_.2.2 ≠ s_.2.1) ∧ (s_.2.1 ≠ s_.2.2) ∧ (w.heap.size ≤ s_.2.2) ∧ (w.heap.size ≤ s_.2.2) ∧ (gb311 ≠ s_.2.2) ∧ (s_.2.2 ≠ gb311) ∧ (gb312 ≠ s_.2.2) ∧ (s_.2.2 ≠ gb312) ∧ (gb313 ≠ s_.2.2) ∧ (s_.2.2 ≠ gb313) ∧ (gb314 ≠ s_.2.2) ∧ (s_.2.2 ≠ gb314) ∧ (Below w.heap.size w w')) ?_ ?_
  ·rintro ⟨v325, gb331, gb332⟩ w34 ⟨hS_, h0_, h1_, h2_, h3_, h4_, h5_, h6_, h7_, h8_, h9_, h10_, h11_, h12_, h13_, h14_, h15_, h16_, h17_, h18_, h19_, h20_, h21_, h22_, h23_, h24_, h25_, h26_, h27_, h28_, h29_, h30_, h31_⟩
   dsimp only at h0_ h1_ h2_ h3_ h4_ h5_ h6_ h7_ h8_ h9_ h10_ h11_ h12_ h13_ h14_ h15_ h16_ h17_ h18_ h19_ h20_ h21_ h22_ h23_ h24_ h25_ h26_ h27_ h28_ h29_ h30_ h31_
   replace HO319 := Az h0_
   replace HO322 := Az h1_
   have HO326 := Az h2_
   replace BK311 := Az h3_
   replace BK312 := Az h4_
   replace BK313 := Az h5_
   replace BK314 := Az h6_
   have BK331 := Az h7_
   have BK332 := Az h8_
   have GW331 := Az h9_
   have GE331 := Az h10_
   have NB311_331 := Az h11_
   have NB331_311 := Az h12_
   have NB312_331 := Az h13_
   have NB331_312 := Az h14_
   have NB313_331 := Az h15_
   have NB331_313 := Az h16_
   have NB314_331 := Az h17_
   have NB331_314 := Az h18_
   have NB332_331 := Az h19_
   have NB331_332 := Az h20_
   have GW332 := Az h21_
   have GE332 := Az h22_
   have NB311_332 := Az h23_
   have NB332_311 := Az h24_
   have NB312_332 := Az h25_
   have NB332_312 := Az h26_
   have NB313_332 := Az h27_
   have NB332_313 := Az h28_
   have NB314_332 := Az h29_
   have NB332_314 := Az h30_
   replace HB := Az h31_
   have hHeld : w34.cell? ⟨gb311, 0, none⟩ = some (.bool a0_0) ∧ w34.cell? ⟨gb311, 1, none⟩ = some (.slice A0_1 l0_1.length c0_1) ∧ w34.cell? ⟨gb312, 0, none⟩ = some (.bool a1_0) ∧ w34.cell? ⟨gb312, 1, none⟩ = some (.slice A1_1 l1_1.length c1_1) := hS_
   refine norm_ (a' := ?_) ?_ ?_
   rotate_left
   ·simp only [putAll, Act.put, List.setIfInBounds_toArray, List.set_cons_zero, List.set_cons_succ]
    rfl
   refine on 10 (some 45) (bm 15 8191) HT_.out (fun K hK => ?_)
   refine gs Tryz.func94 #[.bool a0_0, .slice Ao29 t320.length co29] ?_
   with_reducible refine (o_form.calls a0_0 _ _ t320 t327 t328 _ ?side1 (Kd.V_reads' HO322.out).2.1 A10.out).mono ?_
   (case side1 => exact (Kd.V_reads' HO322.out).2.2)
   rintro e w35 ⟨v329, rfl, ho0, hb⟩
   refine ⟨_, rfl, ?_⟩
   replace HO322 := Az (Kd.V_elder' (vk HO322) (Kd.R_base ho0) hb)
   have HO330 := Az (Kd.R_lower (Kd.R_new' (Kd.R_new' ho0 (Kd.R_lt (rk HO319))) (Kd.R_lt (rk HO326))) (below_size (bls HB)))
   replace HO319 := Az (Kd.R_elder' (rk HO319) (Kd.R_base ho0) hb)
   replace HO326 := Az (Kd.R_elder' (rk HO326) (Kd.R_base ho0) hb)
   replace BK311 := kb BK311 hb
   replace BK312 := kb BK312 hb
   replace BK313 := kb BK313 hb
   replace BK314 := kb BK314 hb
   replace BK331 := kb BK331 hb
   replace BK332 := kb BK332 hb
   replace HB := bs HB hb
   refine hK.out _ _ hd (fun hHeld => ?_)
   refine nm ?_
   exact nj (hJ6_10_11_12 (v325, v329, gb331, gb332) _ ⟨hHeld, (rk HO319), (vt (Kd.V_mono HO322.out (fun _ hk => ⟨hk.1.1, ⟨hk.1.2.1, ⟨hk.2, ⟨hk.1.2.2.1, ⟨hk.1.2.2.2.1, ⟨hk.1.2.2.2.2.1, ⟨hk.1.2.2.2.2.2.1, ⟨hk.1.2.2.2.2.2.2.1, hk.1.2.2.2.2.2.2.2⟩⟩⟩⟩⟩⟩⟩⟩))), (rk HO326), (rt (Kd.R_mono HO330.out (fun _ hk => ⟨hk.1.2, hk.2⟩))), (bk BK311), (bk BK312), (bk BK313), (bk BK314), (bk BK331), (bk BK332), GW331.out, GE331.out, NB311_331.out, NB331_311.out, NB312_331.out, NB331_312.out, NB313_331.out, NB331_313.out, NB314_331.out, NB331_314.out, NB332_331.out, NB331_332.out, GW332.out, GE332.out, NB311_332.out, NB332_311.out, NB312_332.out, NB332_312.out, NB313_332.out, NB332_313.out, NB314_332.out, NB332_314.out, (bls HB)⟩)
  intro hJ6_11_12
  refine join_ (σ := Value × Value) 4 (bm 15 2047) (fun s_ => [(41, .agg #[.bool t323, s_.1]), (45, .agg #[.bool t327, s_.2])]) (fun s_ w' => (w'.cell? ⟨gb311, 0, none⟩ = some (.bool a0_0) ∧ w'.cell? ⟨gb311, 1, none⟩ = some (.slice A0_1 l0_1.length c0_1) ∧ w'.cell? ⟨gb312, 0, none⟩ = some (.bool a1_0) ∧ w'.cell? ⟨gb312, 1, none⟩ = some (.slice A1_1 l1_1.length c1_1)) ∧ (Kd.R (Kd.int .u64) 25 w' w.heap.size (fun k_ => some k_ ≠ (s_.1 : Value).ownBlock ∧ some k_ ≠ (s_.2 : Value).ownBlock) (.slice Ao28 t317.length co28) t317) ∧ (Kd.V (Kd.int .u64) 25 w' w.heap.size (fun k_ => some k_ ≠ (.slice Ao28 t317.length co28 : Value).ownBlock ∧ some k_ ≠ (s_.1 : Value).ownBlock ∧ some k_ ≠ (s_.2 : Value).ownBlock ∧ k_ ≠ gb311 ∧ k_ ≠ gb312 ∧ k_ ≠ gb313 ∧ k_ ≠ gb314) (.slice Ao29 t320.length co29) t320) ∧ (Kd.R (Kd.int .u64) 25 w' w.heap.size (fun k_ => some k_ ≠ (.slice Ao28 t317.length co28 : Value).ownBlock ∧ some k_ ≠ (s_.2 : Value).ownBlock) s_.1 t324) ∧ (Kd.R (Kd.int .u64) 25 w' w.heap.size (fun k_ => some k_ ≠ (.slice Ao28 t317.length co28 : Value).ownBlock ∧ some k_ ≠ (s_.1 : Value).ownBlock) s_.2 t328) ∧ (w'.heap[gb311]? = some (.cells #[.bool a0_0, .slice A0_1 l0_1.length c0_1] 24 (0, 0))) ∧ (w'.heap[gb312]? = some (.cells #[.bool a1_0, .slice A1_1 l1_1.length c1_1] 24 (0, 0))) ∧ (w'.heap[gb313]? = some (.cells #[.bool false, .slice none 0 0] 24 (0, 0))) ∧ (w'.heap[gb314]? = some (.cells #[.bool false, .slice none 0 0] 24 (0, 0))) ∧ (Below w.heap.size w w')) ?_ ?_
  ·rintro ⟨v325, v329⟩ w33 ⟨hS_, h0_, h1_, h2_, h3_, h4_, h5_, h6_, h7_, h8_⟩
   dsimp only at h0_ h1_ h2_ h3_ h4_ h5_ h6_ h7_ h8_
   replace HO319 := Az h0_
   replace HO322 := Az h1_
   have HO326 := Az h2_
   have HO330 := Az h3_
   replace BK311 := Az h4_
   replace BK312 := Az h5_
   replace BK313 := Az h6_
   replace BK314 := Az h7_
   replace HB := Az h8_
   have hHeld : w33.cell? ⟨gb311, 0, none⟩ = some (.bool a0_0) ∧ w33.cell? ⟨gb311, 1, none⟩ = some (.slice A0_1 l0_1.length c0_1) ∧ w33.cell? ⟨gb312, 0, none⟩ = some (.bool a1_0) ∧ w33.cell? ⟨gb312, 1, none⟩ = some (.slice A1_1 l1_1.length c1_1) := hS_
   refine norm_ (a' := ?_) ?_ ?_
   rotate_left
   ·simp only [putAll, Act.put, List.setIfInBounds_toArray, List.set_cons_zero, List.set_cons_succ]
    rfl
   refine two_ (i := 11) (j := 12) (Ni := some 9) (Nj := some 10) (bm 15 4095) (bm 15 6143) rfl rfl rfl rfl (two_of HT_.out (by kernel_rfl)) (by decide) (by decide) (fun K hK => ?_) (fun K hK => ?_)
   ·skip
    refine box_step ?hg (N := 9) ?hd (cs := #[.bool false, .slice none 0 0]) (t := 24) ?hr ?_; (case hd => rfl); (case hg => rfl); (case hr => first | (go_simp; done) | (go_simp; rfl))
    intro gb331 hg w34 hbox hb
    replace HO319 := Az (Kd.R_below (rk HO319) hb)
    replace HO322 := Az (Kd.V_below (Kd.V_elderB (vk HO322) gb331 (Nat.le_of_eq hg.symm)) hb)
    replace HO326 := Az (Kd.R_below (rk HO326) hb)
    replace HO330 := Az (Kd.R_below (rk HO330) hb)
    have BK331 := Az (hbox)
    have GW331 := gw (bls HB) hg
    have GE331 := gw (bls HB) hg
    replace HB := bs HB hb
    have NB311_331 := nl BK311 hg
    have NB331_311 := ng BK311 hg
    replace BK311 := kb BK311 hb
    have NB312_331 := nl BK312 hg
    have NB331_312 := ng BK312 hg
    replace BK312 := kb BK312 hb
    have NB313_331 := nl BK313 hg
    have NB331_313 := ng BK313 hg
    replace BK313 := kb BK313 hb
    have NB314_331 := nl BK314 hg
    have NB331_314 := ng BK314 hg
    replace BK314 := kb BK314 hb
    refine hK.out _ _ hd (fun hHeld => ?_)
    refine nm ?_
    exact nj (hJ6_10_11 (v325, v329, gb331) _ ⟨hHeld, (rk HO319), (vt (Kd.V_mono HO322.out (fun _ hk => ⟨hk.1.1, ⟨hk.1.2.1, ⟨hk.1.2.2.1, ⟨hk.1.2.2.2.1, ⟨hk.1.2.2.2.2.1, ⟨hk.1.2.2.2.2.2.1, ⟨hk.1.2.2.2.2.2.2, hk.2⟩⟩⟩⟩⟩⟩⟩))), (rk HO326), (rk HO330), (bk BK311), (bk BK312), (bk BK313), (bk BK314), (bk BK331), GW331.out, GE331.out, NB311_331.out, NB331_311.out, NB312_331.out, NB331_312.out, NB313_331.out, NB331_313.out, NB314_331.out, NB331_314.out, (bls HB)⟩)
   ·skip
    refine box_step ?hg (N := 10) ?hd (cs := #[.bool false, .slice none 0 0]) (t := 24) ?hr ?_; (case hd => rfl); (case hg => rfl); (case hr => first | (go_simp; done) | (go_simp; rfl))
    intro gb332 hg w34 hbox hb
    replace HO319 := Az (Kd.R_below (rk HO319) hb)
    replace HO322 := Az (Kd.V_below (Kd.V_elderB (vk HO322) gb332 (Nat.le_of_eq hg.symm)) hb)
    replace HO326 := Az (Kd.R_below (rk HO326) hb)
    replace HO330 := Az (Kd.R_below (rk HO330) hb)
    have BK332 := Az (hbox)
    have GW332 := gw (bls HB) hg
    have GE332 := gw (bls HB) hg
    replace HB := bs HB hb
    have NB311_332 := nl BK311 hg
    have NB332_311 := ng BK311 hg
    replace BK311 := kb BK311 hb
    have NB312_332 := nl BK312 hg
    have NB332_312 := ng BK312 hg
    replace BK312 := kb BK312 hb
    have NB313_332 := nl BK313 hg
    have NB332_313 := ng BK313 hg
    replace BK313 := kb BK313 hb
    have NB314_332 := nl BK314 hg
    have NB332_314 := ng BK314 hg
    replace BK314 := kb BK314 hb
    refine hK.out _ _ hd (fun hHeld => ?_)
    refine nm ?_
    exact nj (hJ6_10_12 (v325, v329, gb332) _ ⟨hHeld, (rk HO319), (vt (Kd.V_mono HO322.out (fun _ hk => ⟨hk.1.1, ⟨hk.1.2.1, ⟨hk.1.2.2.1, ⟨hk.1.2.2.2.1, ⟨hk.1.2.2.2.2.1, ⟨hk.1.2.2.2.2.2.1, ⟨hk.1.2.2.2.2.2.2, hk.2⟩⟩⟩⟩⟩⟩⟩))), (rk HO326), (rk HO330), (bk BK311), (bk BK312), (bk BK313), (bk BK314), (bk BK332), GW332.out, GE332.out, NB311_332.out, NB332_311.out, NB312_332.out, NB332_312.out, NB313_332.out, NB332_313.out, NB314_332.out, NB332_314.out, (bls HB)⟩)
  intro hJ6_10
  refine join_ (σ := Value × Nat) 4 (bm 15 3071) (fun s_ => [(41, .agg #[.bool t323, s_.1]), (9, .pointer (some ⟨s_.2, 0, none⟩))]) (fun s_ w' => (w'.cell? ⟨gb311, 0, none⟩ = some (.bool a0_0) ∧ w'.cell? ⟨gb311, 1, none⟩ = some (.slice A0_1 l0_1.length c0_1) ∧ w'.cell? ⟨gb312, 0, none⟩ = some (.bool a1_0) ∧ w'.cell? ⟨gb312, 1, none⟩ = some (.slice A1_1 l1_1.length c1_1)) ∧ (Kd.R (Kd.int .u64) 25 w' w.heap.size (fun k_ => some k_ ≠ (s_.1 : Value).ownBlock) (.slice Ao28 t317.length co28) t317) ∧ (Kd.V (Kd.int .u64) 25 w' w.heap.size (fun k_ => some k_ ≠ (.slice Ao28 t317.length co28 : Value).ownBlock ∧ some k_ ≠ (s_.1 : Value).ownBlock ∧ k_ ≠ gb311 ∧ k_ ≠ gb312 ∧ k_ ≠ gb313 ∧ k_ ≠ gb314 ∧ k_ ≠ s_.2) (.slice Ao29 t320.length co29) t320) ∧ (Kd.R (Kd.int .u64) 25 w' w.heap.size (fun k_ => some k_ ≠ (.slice Ao28 t317.length co28 : Value).ownBlock) s_.1 t324) ∧ (w'.heap[gb311]? = some (.cells #[.bool a0_0, .slice A0_1 l0_1.length c0_1] 24 (0, 0))) ∧ (w'.heap[gb312]? = some (.cells #[.bool a1_0, .slice A1_1 l1_1.length c1_1] 24 (0, 0))) ∧ (w'.heap[gb313]? = some (.cells #[.bool false, .slice none 0 0] 24 (0, 0))) ∧ (w'.heap[gb314]? = some (.cells #[.bool false, .slice none 0 0] 24 (0, 0))) ∧ (w'.heap[s_.2]? = some (.cells #[.bool false, .slice none 0 0] 24 (0, 0))) ∧ (w.heap.size ≤ s_.2) ∧ (w.heap.size ≤ s_.2) ∧ (gb311 ≠ s_.2) ∧ (s_.2 ≠ gb311) ∧ (gb312 ≠ s_.2) ∧ (s_.2 ≠ gb312) ∧ (gb313 ≠ s_.2) ∧ (s_.2 ≠ gb313) ∧ (gb314 ≠ s_.2) ∧ (s_.2 ≠ gb314) ∧ (Below w.heap.size w w')) ?_ ?_
  ·rintro ⟨v325, gb331⟩ w33 ⟨hS_, h0_, h1_, h2_, h3_, h4_, h5_, h6_, h7_, h8_, h9_, h10_, h11_, h12_, h13_, h14_, h15_, h16_, h17_, h18_⟩
   dsimp only at h0_ h1_ h2_ h3_ h4_ h5_ h6_ h7_ h8_ h9_ h10_ h11_ h12_ h13_ h14_ h15_ h16_ h17_ h18_
   replace HO319 := Az h0_
   replace HO322 := Az h1_
   have HO326 := Az h2_
   replace BK311 := Az h3_
   replace BK312 := Az h4_
   replace BK313 := Az h5_
   replace BK314 := Az h6_
   have BK331 := Az h7_
   have GW331 := Az h8_
   have GE331 := Az h9_
   have NB311_331 := Az h10_
   have NB331_311 := Az h11_
   have NB312_331 := Az h12_
   have NB331_312 := Az h13_
   have NB313_331 := Az h14_
   have NB331_313 := Az h15_
   have NB314_331 := Az h16_
   have NB331_314 := Az h17_
   replace HB := Az h18_
   have hHeld : w33.cell? ⟨gb311, 0, none⟩ = some (.bool a0_0) ∧ w33.cell? ⟨gb311, 1, none⟩ = some (.slice A0_1 l0_1.length c0_1) ∧ w33.cell? ⟨gb312, 0, none⟩ = some (.bool a1_0) ∧ w33.cell? ⟨gb312, 1, none⟩ = some (.slice A1_1 l1_1.length c1_1) := hS_
   refine norm_ (a' := ?_) ?_ ?_
   rotate_left
   ·simp only [putAll, Act.put, List.setIfInBounds_toArray, List.set_cons_zero, List.set_cons_succ]
    rfl
   refine two_ (i := 10) (j := 12) (Ni := some 45) (Nj := some 10) (bm 15 4095) (bm 15 7167) rfl rfl rfl rfl (two_of HT_.out (by kernel_rfl)) (by decide) (by decide) (fun K hK => ?_) (fun K hK => ?_)
   ·skip
    refine gs Tryz.func94 #[.bool a0_0, .slice Ao29 t320.length co29] ?_
    with_reducible refine (o_form.calls a0_0 _ _ t320 t327 t328 _ ?side1 (Kd.V_reads' HO322.out).2.1 A10.out).mono ?_
    (case side1 => exact (Kd.V_reads' HO322.out).2.2)
    rintro e w34 ⟨v329, rfl, ho0, hb⟩
    refine ⟨_, rfl, ?_⟩
    replace HO322 := Az (Kd.V_elder' (vk HO322) (Kd.R_base ho0) hb)
    have HO330 := Az (Kd.R_lower (Kd.R_new' (Kd.R_new' ho0 (Kd.R_lt (rk HO319))) (Kd.R_lt (rk HO326))) (below_size (bls HB)))
    replace HO319 := Az (Kd.R_elder' (rk HO319) (Kd.R_base ho0) hb)
    replace HO326 := Az (Kd.R_elder' (rk HO326) (Kd.R_base ho0) hb)
    replace BK311 := kb BK311 hb
    replace BK312 := kb BK312 hb
    replace BK313 := kb BK313 hb
    replace BK314 := kb BK314 hb
    replace BK331 := kb BK331 hb
    replace HB := bs HB hb
    refine hK.out _ _ hd (fun hHeld => ?_)
    refine nm ?_
    exact nj (hJ6_10_11 (v325, v329, gb331) _ ⟨hHeld, (rk HO319), (vt (Kd.V_mono HO322.out (fun _ hk => ⟨hk.1.1, ⟨hk.1.2.1, ⟨hk.2, ⟨hk.1.2.2.1, ⟨hk.1.2.2.2.1, ⟨hk.1.2.2.2.2.1, ⟨hk.1.2.2.2.2.2.1, hk.1.2.2.2.2.2.2⟩⟩⟩⟩⟩⟩⟩))), (rk HO326), (rt (Kd.R_mono HO330.out (fun _ hk => ⟨hk.1.2, hk.2⟩))), (bk BK311), (bk BK312), (bk BK313), (bk BK314), (bk BK331), GW331.out, GE331.out, NB311_331.out, NB331_311.out, NB312_331.out, NB331_312.out, NB313_331.out, NB331_313.out, NB314_331.out, NB331_314.out, (bls HB)⟩)
   ·skip
    refine box_step ?hg (N := 10) ?hd (cs := #[.bool false, .slice none 0 0]) (t := 24) ?hr ?_; (case hd => rfl); (case hg => rfl); (case hr => first | (go_simp; done) | (go_simp; rfl))
    intro gb332 hg w34 hbox hb
    replace HO319 := Az (Kd.R_below (rk HO319) hb)
    replace HO322 := Az (Kd.V_below (Kd.V_elderB (vk HO322) gb332 (Nat.le_of_eq hg.symm)) hb)
    replace HO326 := Az (Kd.R_below (rk HO326) hb)
    have BK332 := Az (hbox)
    have GW332 := gw (bls HB) hg
    have GE332 := gw (bls HB) hg
    replace HB := bs HB hb
    have NB311_332 := nl BK311 hg
    have NB332_311 := ng BK311 hg
    replace BK311 := kb BK311 hb
    have NB312_332 := nl BK312 hg
    have NB332_312 := ng BK312 hg
    replace BK312 := kb BK312 hb
    have NB313_332 := nl BK313 hg
    have NB332_313 := ng BK313 hg
    replace BK313 := kb BK313 hb
    have NB314_332 := nl BK314 hg
    have NB332_314 := ng BK314 hg
    replace BK314 := kb BK314 hb
    have NB331_332 := nl BK331 hg
    have NB332_331 := ng BK331 hg
    replace BK331 := kb BK331 hb
    refine hK.out _ _ hd (fun hHeld => ?_)
    refine nm ?_
    exact nj (hJ6_11_12 (v325, gb331, gb332) _ ⟨hHeld, (rk HO319), (vt (Kd.V_mono HO322.out (fun _ hk => ⟨hk.1.1, ⟨hk.1.2.1, ⟨hk.1.2.2.1, ⟨hk.1.2.2.2.1, ⟨hk.1.2.2.2.2.1, ⟨hk.1.2.2.2.2.2.1, ⟨hk.1.2.2.2.2.2.2, hk.2⟩⟩⟩⟩⟩⟩⟩))), (rk HO326), (bk BK311), (bk BK312), (bk BK313), (bk BK314), (bk BK331), (bk BK332), GW331.out, GE331.out, NB311_331.out, NB331_311.out, NB312_331.out, NB331_312.out, NB313_331.out, NB331_313.out, NB314_331.out, NB331_314.out, NB332_331.out, NB331_332.out, GW332.out, GE332.out, NB311_332.out, NB332_311.out, NB312_332.out, NB332_312.out, NB313_332.out, NB332_313.out, NB314_332.out, NB332_314.out, (bls HB)⟩)
  intro hJ6_11
  refine join_ (σ := Value × Nat) 4 (bm 15 5119) (fun s_ => [(41, .agg #[.bool t323, s_.1]), (10, .pointer (some ⟨s_.2, 0, none⟩))]) (fun s_ w' => (w'.cell? ⟨gb311, 0, none⟩ = some (.bool a0_0) ∧ w'.cell? ⟨gb311, 1, none⟩ = some (.slice A0_1 l0_1.length c0_1) ∧ w'.cell? ⟨gb312, 0, none⟩ = some (.bool a1_0) ∧ w'.cell? ⟨gb312, 1, none⟩ = some (.slice A1_1 l1_1.length c1_1)) ∧ (Kd.R (Kd.int .u64) 25 w' w.heap.size (fun k_ => some k_ ≠ (s_.1 : Value).ownBlock) (.slice Ao28 t317.length co28) t317) ∧ (Kd.V (Kd.int .u64) 25 w' w.heap.size (fun k_ => some k_ ≠ (.slice Ao28 t317.length co28 : Value).ownBlock ∧ some k_ ≠ (s_.1 : Value).ownBlock ∧ k_ ≠ gb311 ∧ k_ ≠ gb312 ∧ k_ ≠ gb313 ∧ k_ ≠ gb314 ∧ k_ ≠ s_.2) (.slice Ao29 t320.length co29) t320) ∧ (Kd.R (Kd.int .u64) 25 w' w.heap.size (fun k_ => some k_ ≠ (.slice Ao28 t317.length co28 : Value).ownBlock) s_.1 t324) ∧ (w'.heap[gb311]? = some (.cells #[.bool a0_0, .slice A0_1 l0_1.length c0_1] 24 (0, 0))) ∧ (w'.heap[gb312]? = some (.cells #[.bool a1_0, .slice A1_1 l1_1.length c1_1] 24 (0, 0))) ∧ (w'.heap[gb313]? = some (.cells #[.bool false, .slice none 0 0] 24 (0, 0))) ∧ (w'.heap[gb314]? = some (.cells #[.bool false, .slice none 0 0] 24 (0, 0))) ∧ (w'.heap[s_.2]? = some (.cells #[.bool false, .slice none 0 0] 24 (0, 0))) ∧ (w.heap.size ≤ s_.2) ∧ (w.heap.size ≤ s_.2) ∧ (gb311 ≠ s_.2) ∧ (s_.2 ≠ gb311) ∧ (gb312 ≠ s_.2) ∧ (s_.2 ≠ gb312) ∧ (gb313 ≠ s_.2) ∧ (s_.2 ≠ gb313) ∧ (gb314 ≠ s_.2) ∧ (s_.2 ≠ gb314) ∧ (Below w.heap.size w w')) ?_ ?_
  ·rintro ⟨v325, gb332⟩ w33 ⟨hS_, h0_, h1_, h2_, h3_, h4_, h5_, h6_, h7_, h8_, h9_, h10_, h11_, h12_, h13_, h14_, h15_, h16_, h17_, h18_⟩
   dsimp only at h0_ h1_ h2_ h3_ h4_ h5_ h6_ h7_ h8_ h9_ h10_ h11_ h12_ h13_ h14_ h15_ h16_ h17_ h18_
   replace HO319 := Az h0_
   replace HO322 := Az h1_
   have HO326 := Az h2_
   replace BK311 := Az h3_
   replace BK312 := Az h4_
   replace BK313 := Az h5_
   replace BK314 := Az h6_
   have BK332 := Az h7_
   have GW332 := Az h8_
   have GE332 := Az h9_
   have NB311_332 := Az h10_
   have NB332_311 := Az h11_
   have NB312_332 := Az h12_
   have NB332_312 := Az h13_
   have NB313_332 := Az h14_
   have NB332_313 := Az h15_
   have NB314_332 := Az h16_
   have NB332_314 := Az h17_
   replace HB := Az h18_
   have hHeld : w33.cell? ⟨gb311, 0, none⟩ = some (.bool a0_0) ∧ w33.cell? ⟨gb311, 1, none⟩ = some (.slice A0_1 l0_1.length c0_1) ∧ w33.cell? ⟨gb312, 0, none⟩ = some (.bool a1_0) ∧ w33.cell? ⟨gb312, 1, none⟩ = some (.slice A1_1 l1_1.length c1_1) := hS_
   refine norm_ (a' := ?_) ?_ ?_
   rotate_left
   ·simp only [putAll, Act.put, List.setIfInBounds_toArray, List.set_cons_zero, List.set_cons_succ]
    rfl
   refine two_ (i := 10) (j := 11) (Ni := some 45) (Nj := some 9) (bm 15 6143) (bm 15 7167) rfl rfl rfl rfl (two_of HT_.out (by kernel_rfl)) (by decide) (by decide) (fun K hK => ?_) (fun K hK => ?_)
   ·skip
    refine gs Tryz.func94 #[.bool a0_0, .slice Ao29 t320.length co29] ?_
    with_reducible refine (o_form.calls a0_0 _ _ t320 t327 t328 _ ?side1 (Kd.V_reads' HO322.out).2.1 A10.out).mono ?_
    (case side1 => exact (Kd.V_reads' HO322.out).2.2)
    rintro e w34 ⟨v329, rfl, ho0, hb⟩
    refine ⟨_, rfl, ?_⟩
    replace HO322 := Az (Kd.V_elder' (vk HO322) (Kd.R_base ho0) hb)
    have HO330 := Az (Kd.R_lower (Kd.R_new' (Kd.R_new' ho0 (Kd.R_lt (rk HO319))) (Kd.R_lt (rk HO326))) (below_size (bls HB)))
    replace HO319 := Az (Kd.R_elder' (rk HO319) (Kd.R_base ho0) hb)
    replace HO326 := Az (Kd.R_elder' (rk HO326) (Kd.R_base ho0) hb)
    replace BK311 := kb BK311 hb
    replace BK312 := kb BK312 hb
    replace BK313 := kb BK313 hb
    replace BK314 := kb BK314 hb
    replace BK332 := kb BK332 hb
    replace HB := bs HB hb
    refine hK.out _ _ hd (fun hHeld => ?_)
    refine nm ?_
    exact nj (hJ6_10_12 (v325, v329, gb332) _ ⟨hHeld, (rk HO319), (vt (Kd.V_mono HO322.out (fun _ hk => ⟨hk.1.1, ⟨hk.1.2.1, ⟨hk.2, ⟨hk.1.2.2.1, ⟨hk.1.2.2.2.1, ⟨hk.1.2.2.2.2.1, ⟨hk.1.2.2.2.2.2.1, hk.1.2.2.2.2.2.2⟩⟩⟩⟩⟩⟩⟩))), (rk HO326), (rt (Kd.R_mono HO330.out (fun _ hk => ⟨hk.1.2, hk.2⟩))), (bk BK311), (bk BK312), (bk BK313), (bk BK314), (bk BK332), GW332.out, GE332.out, NB311_332.out, NB332_311.out, NB312_332.out, NB332_312.out, NB313_332.out, NB332_313.out, NB314_332.out, NB332_314.out, (bls HB)⟩)
   ·skip
    refine box_step ?hg (N := 9) ?hd (cs := #[.bool false, .slice none 0 0]) (t := 24) ?hr ?_; (case hd => rfl); (case hg => rfl); (case hr => first | (go_simp; done) | (go_simp; rfl))
    intro gb331 hg w34 hbox hb
    replace HO319 := Az (Kd.R_below (rk HO319) hb)
    replace HO322 := Az (Kd.V_below (Kd.V_elderB (vk HO322) gb331 (Nat.le_of_eq hg.symm)) hb)
    replace HO326 := Az (Kd.R_below (rk HO326) hb)
    have BK331 := Az (hbox)
    have GW331 := gw (bls HB) hg
    have GE331 := gw (bls HB) hg
    replace HB := bs HB hb
    have NB311_331 := nl BK311 hg
    have NB331_311 := ng BK311 hg
    replace BK311 := kb BK311 hb
    have NB312_331 := nl BK312 hg
    have NB331_312 := ng BK312 hg
    replace BK312 := kb BK312 hb
    have NB313_331 := nl BK313 hg
    have NB331_313 := ng BK313 hg
    replace BK313 := kb BK313 hb
    have NB314_331 := nl BK314 hg
    have NB331_314 := ng BK314 hg
    replace BK314 := kb BK314 hb
    have NB332_331 := nl BK332 hg
    have NB331_332 := ng BK332 hg
    replace BK332 := kb BK332 hb
    refine hK.out _ _ hd (fun hHeld => ?_)
    refine nm ?_
    exact nj (hJ6_11_12 (v325, gb331, gb332) _ ⟨hHeld, (rk HO319), (vt (Kd.V_mono HO322.out (fun _ hk => ⟨hk.1.1, ⟨hk.1.2.1, ⟨hk.1.2.2.1, ⟨hk.1.2.2.2.1, ⟨hk.1.2.2.2.2.1, ⟨hk.1.2.2.2.2.2.1, ⟨hk.2, hk.1.2.2.2.2.2.2⟩⟩⟩⟩⟩⟩⟩))), (rk HO326), (bk BK311), (bk BK312), (bk BK313), (bk BK314), (bk BK331), (bk BK332), GW331.out, GE331.out, NB311_331.out, NB331_311.out, NB312_331.out, NB331_312.out, NB313_331.out, NB331_313.out, NB314_331.out, NB331_314.out, NB332_331.out, NB331_332.out, GW332.out, GE332.out, NB311_332.out, NB332_311.out, NB312_332.out, NB332_312.out, NB313_332.out, NB332_313.out, NB314_332.out, NB332_314.out, (bls HB)⟩)
  intro hJ6_12
  refine join_ (σ := Nat × Nat) 4 (bm 15 7103) (fun s_ => [(9, .pointer (some ⟨s_.1, 0, none⟩)), (10, .pointer (some ⟨s_.2, 0, none⟩))]) (fun s_ w' => (w'.cell? ⟨gb311, 0, none⟩ = some (.bool a0_0) ∧ w'.cell? ⟨gb311, 1, none⟩ = some (.slice A0_1 l0_1.length c0_1) ∧ w'.cell? ⟨gb312, 0, none⟩ = some (.bool a1_0) ∧ w'.cell? ⟨gb312, 1, none⟩ = some (.slice A1_1 l1_1.length c1_1)) ∧ (Kd.R (Kd.int .u64) 25 w' w.heap.size (fun _ => True) (.slice Ao28 t317.length co28) t317) ∧ (Kd.V (Kd.int .u64) 25 w' w.heap.size (fun k_ => some k_ ≠ (.slice Ao28 t317.length co28 : Value).ownBlock ∧ k_ ≠ gb311 ∧ k_ ≠ gb312 ∧ k_ ≠ gb313 ∧ k_ ≠ gb314 ∧ k_ ≠ s_.1 ∧ k_ ≠ s_.2) (.slice Ao29 t320.length co29) t320) ∧ (w'.heap[gb311]? = some (.cells #[.bool a0_0, .slice A0_1 l0_1.length c0_1] 24 (0, 0))) ∧ (w'.heap[gb312]? = some (.cells #[.bool a1_0, .slice A1_1 l1_1.length c1_1] 24 (0, 0))) ∧ (w'.heap[gb313]? = some (.cells #[.bool false, .slice none 0 0] 24 (0, 0))) ∧ (w'.heap[gb314]? = some (.cells #[.bool false, .slice none 0 0] 24 (0, 0))) ∧ (w'.heap[s_.1]? = some (.cells #[.bool false, .slice none 0 0] 24 (0, 0))) ∧ (w'.heap[s_.2]? = some (.cells #[.bool false, .slice none 0 0] 24 (0, 0))) ∧ (w.heap.size ≤ s_.1) ∧ (w.heap.size ≤ s_.1) ∧ (gb311 ≠ s_.1) ∧ (s_.1 ≠ gb311) ∧ (gb312 ≠ s_.1) ∧ (s_.1 ≠ gb312) ∧ (gb313 ≠ s_.1) ∧ (s_.1 ≠ gb313) ∧ (gb314 ≠ s_.1) ∧ (s_.1 ≠ gb314) ∧ (s_.2 ≠ s_.1) ∧ (s_.1 ≠ s_.2) ∧ (w.heap.size ≤ s_.2) ∧ (w.heap.size ≤ s_.2) ∧ (gb311 ≠ s_.2) ∧ (s_.2 ≠ gb311) ∧ (gb312 ≠ s_.2) ∧ (s_.2 ≠ gb312) ∧ (gb313 ≠ s_.2) ∧ (s_.2 ≠ gb313) ∧ (gb314 ≠ s_.2) ∧ (s_.2 ≠ gb314) ∧ (Below w.heap.size w w')) ?_ ?_
  ·rintro ⟨gb331, gb332⟩ w33 ⟨hS_, h0_, h1_, h2_, h3_, h4_, h5_, h6_, h7_, h8_, h9_, h10_, h11_, h12_, h13_, h14_, h15_, h16_, h17_, h18_, h19_, h20_, h21_, h22_, h23_, h24_, h25_, h26_, h27_, h28_, h29_, h30_⟩
   dsimp only at h0_ h1_ h2_ h3_ h4_ h5_ h6_ h7_ h8_ h9_ h10_ h11_ h12_ h13_ h14_ h15_ h16_ h17_ h18_ h19_ h20_ h21_ h22_ h23_ h24_ h25_ h26_ h27_ h28_ h29_ h30_
   replace HO319 := Az h0_
   replace HO322 := Az h1_
   replace BK311 := Az h2_
   replace BK312 := Az h3_
   replace BK313 := Az h4_
   replace BK314 := Az h5_
   have BK331 := Az h6_
   have BK332 := Az h7_
   have GW331 := Az h8_
   have GE331 := Az h9_
   have NB311_331 := Az h10_
   have NB331_311 := Az h11_
   have NB312_331 := Az h12_
   have NB331_312 := Az h13_
   have NB313_331 := Az h14_
   have NB331_313 := Az h15_
   have NB314_331 := Az h16_
   have NB331_314 := Az h17_
   have NB332_331 := Az h18_
   have NB331_332 := Az h19_
   have GW332 := Az h20_
   have GE332 := Az h21_
   have NB311_332 := Az h22_
   have NB332_311 := Az h23_
   have NB312_332 := Az h24_
   have NB332_312 := Az h25_
   have NB313_332 := Az h26_
   have NB332_313 := Az h27_
   have NB314_332 := Az h28_
   have NB332_314 := Az h29_
   replace HB := Az h30_
   have hHeld : w33.cell? ⟨gb311, 0, none⟩ = some (.bool a0_0) ∧ w33.cell? ⟨gb311, 1, none⟩ = some (.slice A0_1 l0_1.length c0_1) ∧ w33.cell? ⟨gb312, 0, none⟩ = some (.bool a1_0) ∧ w33.cell? ⟨gb312, 1, none⟩ = some (.slice A1_1 l1_1.length c1_1) := hS_
   refine norm_ (a' := ?_) ?_ ?_
   rotate_left
   ·simp only [putAll, Act.put, List.setIfInBounds_toArray, List.set_cons_zero, List.set_cons_succ]
    rfl
   refine on 6 (some 41) (bm 15 7167) HT_.out (fun K hK => ?_)
   refine gs Tryz.func94 #[.bool (a0_0 != a1_0), .slice Ao28 t317.length co28] ?_
   with_reducible refine (o_form.calls (a0_0 != a1_0) _ _ t317 t323 t324 _ ?side1 (Kd.R_reads' HO319.out).2.1 A9.out).mono ?_
   (case side1 => exact (Kd.R_reads' HO319.out).2.2)
   rintro e w34 ⟨v325, rfl, ho0, hb⟩
   refine ⟨_, rfl, ?_⟩
   replace HO322 := Az (Kd.V_elder' (vk HO322) (Kd.R_base ho0) hb)
   have HO326 := Az (Kd.R_lower (Kd.R_new' ho0 (Kd.R_lt (rk HO319))) (below_size (bls HB)))
   replace HO319 := Az (Kd.R_elder' (rk HO319) (Kd.R_base ho0) hb)
   replace BK311 := kb BK311 hb
   replace BK312 := kb BK312 hb
   replace BK313 := kb BK313 hb
   replace BK314 := kb BK314 hb
   replace BK331 := kb BK331 hb
   replace BK332 := kb BK332 hb
   replace HB := bs HB hb
   refine hK.out _ _ hd (fun hHeld => ?_)
   refine nm ?_
   exact nj (hJ6_11_12 (v325, gb331, gb332) _ ⟨hHeld, (rt (Kd.R_mono HO319.out (fun _ hk => hk.2))), (vt (Kd.V_mono HO322.out (fun _ hk => ⟨hk.1.1, ⟨hk.2, ⟨hk.1.2.1, ⟨hk.1.2.2.1, ⟨hk.1.2.2.2.1, ⟨hk.1.2.2.2.2.1, ⟨hk.1.2.2.2.2.2.1, hk.1.2.2.2.2.2.2⟩⟩⟩⟩⟩⟩⟩))), (rt (Kd.R_mono HO326.out (fun _ hk => hk.2))), (bk BK311), (bk BK312), (bk BK313), (bk BK314), (bk BK331), (bk BK332), GW331.out, GE331.out, NB311_331.out, NB331_311.out, NB312_331.out, NB331_312.out, NB313_331.out, NB331_313.out, NB314_331.out, NB331_314.out, NB332_331.out, NB331_332.out, GW332.out, GE332.out, NB311_332.out, NB332_311.out, NB312_332.out, NB332_312.out, NB313_332.out, NB332_313.out, NB314_332.out, NB332_314.out, (bls HB)⟩)
  intro hJ11_12
  refine join_ (σ := Value) 5 (bm 15 1023) (fun s_ => [(41, .agg #[.bool t323, s_])]) (fun s_ w' => (w'.cell? ⟨gb311, 0, none⟩ = some (.bool a0_0) ∧ w'.cell? ⟨gb311, 1, none⟩ = some (.slice A0_1 l0_1.length c0_1) ∧ w'.cell? ⟨gb312, 0, none⟩ = some (.bool a1_0) ∧ w'.cell? ⟨gb312, 1, none⟩ = some (.slice A1_1 l1_1.length c1_1)) ∧ (Kd.R (Kd.int .u64) 25 w' w.heap.size (fun k_ => some k_ ≠ (s_ : Value).ownBlock) (.slice Ao28 t317.length co28) t317) ∧ (Kd.V (Kd.int .u64) 25 w' w.heap.size (fun k_ => some k_ ≠ (.slice Ao28 t317.length co28 : Value).ownBlock ∧ some k_ ≠ (s_ : Value).ownBlock ∧ k_ ≠ gb311 ∧ k_ ≠ gb312 ∧ k_ ≠ gb313 ∧ k_ ≠ gb314) (.slice Ao29 t320.length co29) t320) ∧ (Kd.R (Kd.int .u64) 25 w' w.heap.size (fun k_ => some k_ ≠ (.slice Ao28 t317.length co28 : Value).ownBlock) s_ t324) ∧ (w'.heap[gb311]? = some (.cells #[.bool a0_0, .slice A0_1 l0_1.length c0_1] 24 (0, 0))) ∧ (w'.heap[gb312]? = some (.cells #[.bool a1_0, .slice A1_1 l1_1.length c1_1] 24 (0, 0))) ∧ (w'.heap[gb313]? = some (.cells #[.bool false, .slice none 0 0] 24 (0, 0))) ∧ (w'.heap[gb314]? = some (.cells #[.bool false, .slice none 0 0] 24 (0, 0))) ∧ (Below w.heap.size w w')) ?_ ?_
  ·rintro v325 w32 ⟨hS_, h0_, h1_, h2_, h3_, h4_, h5_, h6_, h7_⟩
   replace HO319 := Az h0_
   replace HO322 := Az h1_
   have HO326 := Az h2_
   replace BK311 := Az h3_
   replace BK312 := Az h4_
   replace BK313 := Az h5_
   replace BK314 := Az h6_
   replace HB := Az h7_
   have hHeld : w32.cell? ⟨gb311, 0, none⟩ = some (.bool a0_0) ∧ w32.cell? ⟨gb311, 1, none⟩ = some (.slice A0_1 l0_1.length c0_1) ∧ w32.cell? ⟨gb312, 0, none⟩ = some (.bool a1_0) ∧ w32.cell? ⟨gb312, 1, none⟩ = some (.slice A1_1 l1_1.length c1_1) := hS_
   refine norm_ (a' := ?_) ?_ ?_
   rotate_left
   ·simp only [putAll, Act.put, List.setIfInBounds_toArray, List.set_cons_zero, List.set_cons_succ]
    rfl
   refine three_ (i := 10) (j := 11) (k := 12) (Ni := some 45) (Nj := some 9) (Nk := some 10) (bm 15 2047) (bm 15 3071) (bm 15 5119) rfl rfl rfl rfl rfl rfl (three_of HT_.out (by kernel_rfl)) (by decide) (by decide) (by decide) (fun K hK => ?_) (fun K hK => ?_) (fun K hK => ?_)
   ·skip
    refine gs Tryz.func94 #[.bool a0_0, .slice Ao29 t320.length co29] ?_
    with_reducible refine (o_form.calls a0_0 _ _ t320 t327 t328 _ ?side1 (Kd.V_reads' HO322.out).2.1 A10.out).mono ?_
    (case side1 => exact (Kd.V_reads' HO322.out).2.2)
    rintro e w33 ⟨v329, rfl, ho0, hb⟩
    refine ⟨_, rfl, ?_⟩
    replace HO322 := Az (Kd.V_elder' (vk HO322) (Kd.R_base ho0) hb)
    have HO330 := Az (Kd.R_lower (Kd.R_new' (Kd.R_new' ho0 (Kd.R_lt (rk HO319))) (Kd.R_lt (rk HO326))) (below_size (bls HB)))
    replace HO319 := Az (Kd.R_elder' (rk HO319) (Kd.R_base ho0) hb)
    replace HO326 := Az (Kd.R_elder' (rk HO326) (Kd.R_base ho0) hb)
    replace BK311 := kb BK311 hb
    replace BK312 := kb BK312 hb
    replace BK313 := kb BK313 hb
    replace BK314 := kb BK314 hb
    replace HB := bs HB hb
    refine hK.out _ _ hd (fun hHeld => ?_)
    refine nm ?_
    exact nj (hJ6_10 (v325, v329) _ ⟨hHeld, (rk HO319), (vt (Kd.V_mono HO322.out (fun _ hk => ⟨hk.1.1, ⟨hk.1.2.1, ⟨hk.2, ⟨hk.1.2.2.1, ⟨hk.1.2.2.2.1, ⟨hk.1.2.2.2.2.1, hk.1.2.2.2.2.2⟩⟩⟩⟩⟩⟩))), (rk HO326), (rt (Kd.R_mono HO330.out (fun _ hk => ⟨hk.1.2, hk.2⟩))), (bk BK311), (bk BK312), (bk BK313), (bk BK314), (bls HB)⟩)
   ·skip
    refine box_step ?hg (N := 9) ?hd (cs := #[.bool false, .slice none 0 0]) (t := 24) ?hr ?_; (case hd => rfl); (case hg => rfl); (case hr => first | (go_simp; done) | (go_simp; rfl))
    intro gb331 hg w33 hbox hb
    replace HO319 := Az (Kd.R_below (rk HO319) hb)
    replace HO322 := Az (Kd.V_below (Kd.V_elderB (vk HO322) gb331 (Nat.le_of_eq hg.symm)) hb)
    replace HO326 := Az (Kd.R_below (rk HO326) hb)
    have BK331 := Az (hbox)
    have GW331 := gw (bls HB) hg
    have GE331 := gw (bls HB) hg
    replace HB := bs HB hb
    have NB311_331 := nl BK311 hg
    have NB331_311 := ng BK311 hg
    replace BK311 := kb BK311 hb
    have NB312_331 := nl BK312 hg
    have NB331_312 := ng BK312 hg
    replace BK312 := kb BK312 hb
    have NB313_331 := nl BK313 hg
    have NB331_313 := ng BK313 hg
    replace BK313 := kb BK313 hb
    have NB314_331 := nl BK314 hg
    have NB331_314 := ng BK314 hg
    replace BK314 := kb BK314 hb
    refine hK.out _ _ hd (fun hHeld => ?_)
    refine nm ?_
    exact nj (hJ6_11 (v325, gb331) _ ⟨hHeld, (rk HO319), (vt (Kd.V_mono HO322.out (fun _ hk => ⟨hk.1.1, ⟨hk.1.2.1, ⟨hk.1.2.2.1, ⟨hk.1.2.2.2.1, ⟨hk.1.2.2.2.2.1, ⟨hk.1.2.2.2.2.2, hk.2⟩⟩⟩⟩⟩⟩))), (rk HO326), (bk BK311), (bk BK312), (bk BK313), (bk BK314), (bk BK331), GW331.out, GE331.out, NB311_331.out, NB331_311.out, NB312_331.out, NB331_312.out, NB313_331.out, NB331_313.out, NB314_331.out, NB331_314.out, (bls HB)⟩)
   ·skip
    refine box_step ?hg (N := 10) ?hd (cs := #[.bool false, .slice none 0 0]) (t := 24) ?hr ?_; (case hd => rfl); (case hg => rfl); (case hr => first | (go_simp; done) | (go_simp; rfl))
    intro gb332 hg w33 hbox hb
    replace HO319 := Az (Kd.R_below (rk HO319) hb)
    replace HO322 := Az (Kd.V_below (Kd.V_elderB (vk HO322) gb332 (Nat.le_of_eq hg.symm)) hb)
    replace HO326 := Az (Kd.R_below (rk HO326) hb)
    have BK332 := Az (hbox)
    have GW332 := gw (bls HB) hg
    have GE332 := gw (bls HB) hg
    replace HB := bs HB hb
    have NB311_332 := nl BK311 hg
    have NB332_311 := ng BK311 hg
    replace BK311 := kb BK311 hb
    have NB312_332 := nl BK312 hg
    have NB332_312 := ng BK312 hg
    replace BK312 := kb BK312 hb
    have NB313_332 := nl BK313 hg
    have NB332_313 := ng BK313 hg
    replace BK313 := kb BK313 hb
    have NB314_332 := nl BK314 hg
    have NB332_314 := ng BK314 hg
    replace BK314 := kb BK314 hb
    refine hK.out _ _ hd (fun hHeld => ?_)
    refine nm ?_
    exact nj (hJ6_12 (v325, gb332) _ ⟨hHeld, (rk HO319), (vt (Kd.V_mono HO322.out (fun _ hk => ⟨hk.1.1, ⟨hk.1.2.1, ⟨hk.1.2.2.1, ⟨hk.1.2.2.2.1, ⟨hk.1.2.2.2.2.1, ⟨hk.1.2.2.2.2.2, hk.2⟩⟩⟩⟩⟩⟩))), (rk HO326), (bk BK311), (bk BK312), (bk BK313), (bk BK314), (bk BK332), GW332.out, GE332.out, NB311_332.out, NB332_311.out, NB312_332.out, NB332_312.out, NB313_332.out, NB332_313.out, NB314_332.out, NB332_314.out, (bls HB)⟩)
  intro hJ6
  refine join_ (σ := Nat) 5 (bm 15 3007) (fun s_ => [(9, .pointer (some ⟨s_, 0, none⟩))]) (fun s_ w' => (w'.cell? ⟨gb311, 0, none⟩ = some (.bool a0_0) ∧ w'.cell? ⟨gb311, 1, none⟩ = some (.slice A0_1 l0_1.length c0_1) ∧ w'.cell? ⟨gb312, 0, none⟩ = some (.bool a1_0) ∧ w'.cell? ⟨gb312, 1, none⟩ = some (.slice A1_1 l1_1.length c1_1)) ∧ (Kd.R (Kd.int .u64) 25 w' w.heap.size (fun _ => True) (.slice Ao28 t317.length co28) t317) ∧ (Kd.V (Kd.int .u64) 25 w' w.heap.size (fun k_ => some k_ ≠ (.slice Ao28 t317.length co28 : Value).ownBlock ∧ k_ ≠ gb311 ∧ k_ ≠ gb312 ∧ k_ ≠ gb313 ∧ k_ ≠ gb314 ∧ k_ ≠ s_) (.slice Ao29 t320.length co29) t320) ∧ (w'.heap[gb311]? = some (.cells #[.bool a0_0, .slice A0_1 l0_1.length c0_1] 24 (0, 0))) ∧ (w'.heap[gb312]? = some (.cells #[.bool a1_0, .slice A1_1 l1_1.length c1_1] 24 (0, 0))) ∧ (w'.heap[gb313]? = some (.cells #[.bool false, .slice none 0 0] 24 (0, 0))) ∧ (w'.heap[gb314]? = some (.cells #[.bool false, .slice none 0 0] 24 (0, 0))) ∧ (w'.heap[s_]? = some (.cells #[.bool false, .slice none 0 0] 24 (0, 0))) ∧ (w.heap.size ≤ s_) ∧ (w.heap.size ≤ s_) ∧ (gb311 ≠ s_) ∧ (s_ ≠ gb311) ∧ (gb312 ≠ s_) ∧ (s_ ≠ gb312) ∧ (gb313 ≠ s_) ∧ (s_ ≠ gb313) ∧ (gb314 ≠ s_) ∧ (s_ ≠ gb314) ∧ (Below w.heap.size w w')) ?_ ?_
  ·rintro gb331 w32 ⟨hS_, h0_, h1_, h2_, h3_, h4_, h5_, h6_, h7_, h8_, h9_, h10_, h11_, h12_, h13_, h14_, h15_, h16_, h17_⟩
   replace HO319 := Az h0_
   replace HO322 := Az h1_
   replace BK311 := Az h2_
   replace BK312 := Az h3_
   replace BK313 := Az h4_
   replace BK314 := Az h5_
   have BK331 := Az h6_
   have GW331 := Az h7_
   have GE331 := Az h8_
   have NB311_331 := Az h9_
   have NB331_311 := Az h10_
   have NB312_331 := Az h11_
   have NB331_312 := Az h12_
   have NB313_331 := Az h13_
   have NB331_313 := Az h14_
   have NB314_331 := Az h15_
   have NB331_314 := Az h16_
   replace HB := Az h17_
   have hHeld : w32.cell? ⟨gb311, 0, none⟩ = some (.bool a0_0) ∧ w32.cell? ⟨gb311, 1, none⟩ = some (.slice A0_1 l0_1.length c0_1) ∧ w32.cell? ⟨gb312, 0, none⟩ = some (.bool a1_0) ∧ w32.cell? ⟨gb312, 1, none⟩ = some (.slice A1_1 l1_1.length c1_1) := hS_
   refine norm_ (a' := ?_) ?_ ?_
   rotate_left
   ·simp only [putAll, Act.put, List.setIfInBounds_toArray, List.set_cons_zero, List.set_cons_succ]
    rfl
   refine two_ (i := 6) (j := 12) (Ni := some 41) (Nj := some 10) (bm 15 3071) (bm 15 7103) rfl rfl rfl rfl (two_of HT_.out (by kernel_rfl)) (by decide) (by decide) (fun K hK => ?_) (fun K hK => ?_)
   ·skip
    refine gs Tryz.func94 #[.bool (a0_0 != a1_0), .slice Ao28 t317.length co28] ?_
    with_reducible refine (o_form.calls (a0_0 != a1_0) _ _ t317 t323 t324 _ ?side1 (Kd.R_reads' HO319.out).2.1 A9.out).mono ?_
    (case side1 => exact (Kd.R_reads' HO319.out).2.2)
    rintro e w33 ⟨v325, rfl, ho0, hb⟩
    refine ⟨_, rfl, ?_⟩
    replace HO322 := Az (Kd.V_elder' (vk HO322) (Kd.R_base ho0) hb)
    have HO326 := Az (Kd.R_lower (Kd.R_new' ho0 (Kd.R_lt (rk HO319))) (below_size (bls HB)))
    replace HO319 := Az (Kd.R_elder' (rk HO319) (Kd.R_base ho0) hb)
    replace BK311 := kb BK311 hb
    replace BK312 := kb BK312 hb
    replace BK313 := kb BK313 hb
    replace BK314 := kb BK314 hb
    replace BK331 := kb BK331 hb
    replace HB := bs HB hb
    refine hK.out _ _ hd (fun hHeld => ?_)
    refine nm ?_
    exact nj (hJ6_11 (v325, gb331) _ ⟨hHeld, (rt (Kd.R_mono HO319.out (fun _ hk => hk.2))), (vt (Kd.V_mono HO322.out (fun _ hk => ⟨hk.1.1, ⟨hk.2, ⟨hk.1.2.1, ⟨hk.1.2.2.1, ⟨hk.1.2.2.2.1, ⟨hk.1.2.2.2.2.1, hk.1.2.2.2.2.2⟩⟩⟩⟩⟩⟩))), (rt (Kd.R_mono HO326.out (fun _ hk => hk.2))), (bk BK311), (bk BK312), (bk BK313), (bk BK314), (bk BK331), GW331.out, GE331.out, NB311_331.out, NB331_311.out, NB312_331.out, NB331_312.out, NB313_331.out, NB331_313.out, NB314_331.out, NB331_314.out, (bls HB)⟩)
   ·skip
    refine box_step ?hg (N := 10) ?hd (cs := #[.bool false, .slice none 0 0]) (t := 24) ?hr ?_; (case hd => rfl); (case hg => rfl); (case hr => first | (go_simp; done) | (go_simp; rfl))
    intro gb332 hg w33 hbox hb
    replace HO319 := Az (Kd.R_below (rk HO319) hb)
    replace HO322 := Az (Kd.V_below (Kd.V_elderB (vk HO322) gb332 (Nat.le_of_eq hg.symm)) hb)
    have BK332 := Az (hbox)
    have GW332 := gw (bls HB) hg
    have GE332 := gw (bls HB) hg
    replace HB := bs HB hb
    have NB311_332 := nl BK311 hg
    have NB332_311 := ng BK311 hg
    replace BK311 := kb BK311 hb
    have NB312_332 := nl BK312 hg
    have NB332_312 := ng BK312 hg
    replace BK312 := kb BK312 hb
    have NB313_332 := nl BK313 hg
    have NB332_313 := ng BK313 hg
    replace BK313 := kb BK313 hb
    have NB314_332 := nl BK314 hg
    have NB332_314 := ng BK314 hg
    replace BK314 := kb BK314 hb
    have NB331_332 := nl BK331 hg
    have NB332_331 := ng BK331 hg
    replace BK331 := kb BK331 hb
    refine hK.out _ _ hd (fun hHeld => ?_)
    refine nm ?_
    exact nj (hJ11_12 (gb331, gb332) _ ⟨hHeld, (rk HO319), (vt (Kd.V_mono HO322.out (fun _ hk => ⟨hk.1.1, ⟨hk.1.2.1, ⟨hk.1.2.2.1, ⟨hk.1.2.2.2.1, ⟨hk.1.2.2.2.2.1, ⟨hk.1.2.2.2.2.2, hk.2⟩⟩⟩⟩⟩⟩))), (bk BK311), (bk BK312), (bk BK313), (bk BK314), (bk BK331), (bk BK332), GW331.out, GE331.out, NB311_331.out, NB331_311.out, NB312_331.out, NB331_312.out, NB313_331.out, NB331_313.out, NB314_331.out, NB331_314.out, NB332_331.out, NB331_332.out, GW332.out, GE332.out, NB311_332.out, NB332_311.out, NB312_332.out, NB332_312.out, NB313_332.out, NB332_313.out, NB314_332.out, NB332_314.out, (bls HB)⟩)
  intro hJ11
  refine join_ (σ := Nat) 5 (bm 15 5055) (fun s_ => [(10, .pointer (some ⟨s_, 0, none⟩))]) (fun s_ w' => (w'.cell? ⟨gb311, 0, none⟩ = some (.bool a0_0) ∧ w'.cell? ⟨gb311, 1, none⟩ = some (.slice A0_1 l0_1.length c0_1) ∧ w'.cell? ⟨gb312, 0, none⟩ = some (.bool a1_0) ∧ w'.cell? ⟨gb312, 1, none⟩ = some (.slice A1_1 l1_1.length c1_1)) ∧ (Kd.R (Kd.int .u64) 25 w' w.heap.size (fun _ => True) (.slice Ao28 t317.length co28) t317) ∧ (Kd.V (Kd.int .u64) 25 w' w.heap.size (fun k_ => some k_ ≠ (.slice Ao28 t317.length co28 : Value).ownBlock ∧ k_ ≠ gb311 ∧ k_ ≠ gb312 ∧ k_ ≠ gb313 ∧ k_ ≠ gb314 ∧ k_ ≠ s_) (.slice Ao29 t320.length co29) t320) ∧ (w'.heap[gb311]? = some (.cells #[.bool a0_0, .slice A0_1 l0_1.length c0_1] 24 (0, 0))) ∧ (w'.heap[gb312]? = some (.cells #[.bool a1_0, .slice A1_1 l1_1.length c1_1] 24 (0, 0))) ∧ (w'.heap[gb313]? = some (.cells #[.bool false, .slice none 0 0] 24 (0, 0))) ∧ (w'.heap[gb314]? = some (.cells #[.bool false, .slice none 0 0] 24 (0, 0))) ∧ (w'.heap[s_]? = some (.cells #[.bool false, .slice none 0 0] 24 (0, 0))) ∧ (w.heap.size ≤ s_) ∧ (w.heap.size ≤ s_) ∧ (gb311 ≠ s_) ∧ (s_ ≠ gb311) ∧ (gb312 ≠ s_) ∧ (s_ ≠ gb312) ∧ (gb313 ≠ s_) ∧ (s_ ≠ gb313) ∧ (gb314 ≠ s_) ∧ (s_ ≠ gb314) ∧ (Below w.heap.size w w')) ?_ ?_
  ·rintro gb332 w32 ⟨hS_, h0_, h1_, h2_, h3_, h4_, h5_, h6_, h7_, h8_, h9_, h10_, h11_, h12_, h13_, h14_, h15_, h16_, h17_⟩
   replace HO319 := Az h0_
   replace HO322 := Az h1_
   replace BK311 := Az h2_
   replace BK312 := Az h3_
   replace BK313 := Az h4_
   replace BK314 := Az h5_
   have BK332 := Az h6_
   have GW332 := Az h7_
   have GE332 := Az h8_
   have NB311_332 := Az h9_
   have NB332_311 := Az h10_
   have NB312_332 := Az h11_
   have NB332_312 := Az h12_
   have NB313_332 := Az h13_
   have NB332_313 := Az h14_
   have NB314_332 := Az h15_
   have NB332_314 := Az h16_
   replace HB := Az h17_
   have hHeld : w32.cell? ⟨gb311, 0, none⟩ = some (.bool a0_0) ∧ w32.cell? ⟨gb311, 1, none⟩ = some (.slice A0_1 l0_1.length c0_1) ∧ w32.cell? ⟨gb312, 0, none⟩ = some (.bool a1_0) ∧ w32.cell? ⟨gb312, 1, none⟩ = some (.slice A1_1 l1_1.length c1_1) := hS_
   refine norm_ (a' := ?_) ?_ ?_
   rotate_left
   ·simp only [putAll, Act.put, List.setIfInBounds_toArray, List.set_cons_zero, List.set_cons_succ]
    rfl
   refine two_ (i := 6) (j := 11) (Ni := some 41) (Nj := some 9) (bm 15 5119) (bm 15 7103) rfl rfl rfl rfl (two_of HT_.out (by kernel_rfl)) (by decide) (by decide) (fun K hK => ?_) (fun K hK => ?_)
   ·skip
    refine gs Tryz.func94 #[.bool (a0_0 != a1_0), .slice Ao28 t317.length co28] ?_
    with_reducible refine (o_form.calls (a0_0 != a1_0) _ _ t317 t323 t324 _ ?side1 (Kd.R_reads' HO319.out).2.1 A9.out).mono ?_
    (case side1 => exact (Kd.R_reads' HO319.out).2.2)
    rintro e w33 ⟨v325, rfl, ho0, hb⟩
    refine ⟨_, rfl, ?_⟩
    replace HO322 := Az (Kd.V_elder' (vk HO322) (Kd.R_base ho0) hb)
    have HO326 := Az (Kd.R_lower (Kd.R_new' ho0 (Kd.R_lt (rk HO319))) (below_size (bls HB)))
    replace HO319 := Az (Kd.R_elder' (rk HO319) (Kd.R_base ho0) hb)
    replace BK311 := kb BK311 hb
    replace BK312 := kb BK312 hb
    replace BK313 := kb BK313 hb
    replace BK314 := kb BK314 hb
    replace BK332 := kb BK332 hb
    replace HB := bs HB hb
    refine hK.out _ _ hd (fun hHeld => ?_)
    refine nm ?_
    exact nj (hJ6_12 (v325, gb332) _ ⟨hHeld, (rt (Kd.R_mono HO319.out (fun _ hk => hk.2))), (vt (Kd.V_mono HO322.out (fun _ hk => ⟨hk.1.1, ⟨hk.2, ⟨hk.1.2.1, ⟨hk.1.2.2.1, ⟨hk.1.2.2.2.1, ⟨hk.1.2.2.2.2.1, hk.1.2.2.2.2.2⟩⟩⟩⟩⟩⟩))), (rt (Kd.R_mono HO326.out (fun _ hk => hk.2))), (bk BK311), (bk BK312), (bk BK313), (bk BK314), (bk BK332), GW332.out, GE332.out, NB311_332.out, NB332_311.out, NB312_332.out, NB332_312.out, NB313_332.out, NB332_313.out, NB314_332.out, NB332_314.out, (bls HB)⟩)
   ·skip
    refine box_step ?hg (N := 9) ?hd (cs := #[.bool false, .slice none 0 0]) (t := 24) ?hr ?_; (case hd => rfl); (case hg => rfl); (case hr => first | (go_simp; done) | (go_simp; rfl))
    intro gb331 hg w33 hbox hb
    replace HO319 := Az (Kd.R_below (rk HO319) hb)
    replace HO322 := Az (Kd.V_below (Kd.V_elderB (vk HO322) gb331 (Nat.le_of_eq hg.symm)) hb)
    have BK331 := Az (hbox)
    have GW331 := gw (bls HB) hg
    have GE331 := gw (bls HB) hg
    replace HB := bs HB hb
    have NB311_331 := nl BK311 hg
    have NB331_311 := ng BK311 hg
    replace BK311 := kb BK311 hb
    have NB312_331 := nl BK312 hg
    have NB331_312 := ng BK312 hg
    replace BK312 := kb BK312 hb
    have NB313_331 := nl BK313 hg
    have NB331_313 := ng BK313 hg
    replace BK313 := kb BK313 hb
    have NB314_331 := nl BK314 hg
    have NB331_314 := ng BK314 hg
    replace BK314 := kb BK314 hb
    have NB332_331 := nl BK332 hg
    have NB331_332 := ng BK332 hg
    replace BK332 := kb BK332 hb
    refine hK.out _ _ hd (fun hHeld => ?_)
    refine nm ?_
    exact nj (hJ11_12 (gb331, gb332) _ ⟨hHeld, (rk HO319), (vt (Kd.V_mono HO322.out (fun _ hk => ⟨hk.1.1, ⟨hk.1.2.1, ⟨hk.1.2.2.1, ⟨hk.1.2.2.2.1, ⟨hk.1.2.2.2.2.1, ⟨hk.2, hk.1.2.2.2.2.2⟩⟩⟩⟩⟩⟩))), (bk BK311), (bk BK312), (bk BK313), (bk BK314), (bk BK331), (bk BK332), GW331.out, GE331.out, NB311_331.out, NB331_311.out, NB312_331.out, NB331_312.out, NB313_331.out, NB331_313.out, NB314_331.out, NB331_314.out, NB332_331.out, NB331_332.out, GW332.out, GE332.out, NB311_332.out, NB332_311.out, NB312_332.out, NB332_312.out, NB313_332.out, NB332_313.out, NB314_332.out, NB332_314.out, (bls HB)⟩)
  intro hJ12
  refine three_ (i := 6) (j := 11) (k := 12) (Ni := some 41) (Nj := some 9) (Nk := some 10) (bm 15 1023) (bm 15 3007) (bm 15 5055) rfl rfl rfl rfl rfl rfl (three_of HT_.out (by kernel_rfl)) (by decide) (by decide) (by decide) (fun K hK => ?_) (fun K hK => ?_) (fun K hK => ?_)
  ·skip
   refine gs Tryz.func94 #[.bool (a0_0 != a1_0), .slice Ao28 t317.length co28] ?_
   with_reducible refine (o_form.calls (a0_0 != a1_0) _ _ t317 t323 t324 _ ?side1 (Kd.R_reads' HO319.out).2.1 A9.out).mono ?_
   (case side1 => exact (Kd.R_reads' HO319.out).2.2)
   rintro e w31 ⟨v325, rfl, ho0, hb⟩
   refine ⟨_, rfl, ?_⟩
   replace HO322 := Az (Kd.V_elder' (vk HO322) (Kd.R_base ho0) hb)
   have HO326 := Az (Kd.R_lower (Kd.R_new' ho0 (Kd.R_lt (rk HO319))) (below_size (bls HB)))
   replace HO319 := Az (Kd.R_elder' (rk HO319) (Kd.R_base ho0) hb)
   replace BK311 := kb BK311 hb
   replace BK312 := kb BK312 hb
   replace BK313 := kb BK313 hb
   replace BK314 := kb BK314 hb
   replace HB := bs HB hb
   refine hK.out _ _ hd (fun hHeld => ?_)
   refine nm ?_
   exact nj (hJ6 (v325) _ ⟨hHeld, (rt (Kd.R_mono HO319.out (fun _ hk => hk.2))), (vt (Kd.V_mono HO322.out (fun _ hk => ⟨hk.1.1, ⟨hk.2, ⟨hk.1.2.1, ⟨hk.1.2.2.1, ⟨hk.1.2.2.2.1, hk.1.2.2.2.2⟩⟩⟩⟩⟩))), (rt (Kd.R_mono HO326.out (fun _ hk => hk.2))), (bk BK311), (bk BK312), (bk BK313), (bk BK314), (bls HB)⟩)
  ·skip
   refine box_step ?hg (N := 9) ?hd (cs := #[.bool false, .slice none 0 0]) (t := 24) ?hr ?_; (case hd => rfl); (case hg => rfl); (case hr => first | (go_simp; done) | (go_simp; rfl))
   intro gb331 hg w31 hbox hb
   replace HO319 := Az (Kd.R_below (rk HO319) hb)
   replace HO322 := Az (Kd.V_below (Kd.V_elderB (vk HO322) gb331 (Nat.le_of_eq hg.symm)) hb)
   have BK331 := Az (hbox)
   have GW331 := gw (bls HB) hg
   have GE331 := gw (bls HB) hg
   replace HB := bs HB hb
   have NB311_331 := nl BK311 hg
   have NB331_311 := ng BK311 hg
   replace BK311 := kb BK311 hb
   have NB312_331 := nl BK312 hg
   have NB331_312 := ng BK312 hg
   replace BK312 := kb BK312 hb
   have NB313_331 := nl BK313 hg
   have NB331_313 := ng BK313 hg
   replace BK313 := kb BK313 hb
   have NB314_331 := nl BK314 hg
   have NB331_314 := ng BK314 hg
   replace BK314 := kb BK314 hb
   refine hK.out _ _ hd (fun hHeld => ?_)
   refine nm ?_
   exact nj (hJ11 (gb331) _ ⟨hHeld, (rk HO319), (vt (Kd.V_mono HO322.out (fun _ hk => ⟨hk.1.1, ⟨hk.1.2.1, ⟨hk.1.2.2.1, ⟨hk.1.2.2.2.1, ⟨hk.1.2.2.2.2, hk.2⟩⟩⟩⟩⟩))), (bk BK311), (bk BK312), (bk BK313), (bk BK314), (bk BK331), GW331.out, GE331.out, NB311_331.out, NB331_311.out, NB312_331.out, NB331_312.out, NB313_331.out, NB331_313.out, NB314_331.out, NB331_314.out, (bls HB)⟩)
  ·skip
   refine box_step ?hg (N := 10) ?hd (cs := #[.bool false, .slice none 0 0]) (t := 24) ?hr ?_; (case hd => rfl); (case hg => rfl); (case hr => first | (go_simp; done) | (go_simp; rfl))
   intro gb332 hg w31 hbox hb
   replace HO319 := Az (Kd.R_below (rk HO319) hb)
   replace HO322 := Az (Kd.V_below (Kd.V_elderB (vk HO322) gb332 (Nat.le_of_eq hg.symm)) hb)
   have BK332 := Az (hbox)
   have GW332 := gw (bls HB) hg
   have GE332 := gw (bls HB) hg
   replace HB := bs HB hb
   have NB311_332 := nl BK311 hg
   have NB332_311 := ng BK311 hg
   replace BK311 := kb BK311 hb
   have NB312_332 := nl BK312 hg
   have NB332_312 := ng BK312 hg
   replace BK312 := kb BK312 hb
   have NB313_332 := nl BK313 hg
   have NB332_313 := ng BK313 hg
   replace BK313 := kb BK313 hb
   have NB314_332 := nl BK314 hg
   have NB332_314 := ng BK314 hg
   replace BK314 := kb BK314 hb
   refine hK.out _ _ hd (fun hHeld => ?_)
   refine nm ?_
   exact nj (hJ12 (gb332) _ ⟨hHeld, (rk HO319), (vt (Kd.V_mono HO322.out (fun _ hk => ⟨hk.1.1, ⟨hk.1.2.1, ⟨hk.1.2.2.1, ⟨hk.1.2.2.2.1, ⟨hk.1.2.2.2.2, hk.2⟩⟩⟩⟩⟩))), (bk BK311), (bk BK312), (bk BK313), (bk BK314), (bk BK332), GW332.out, GE332.out, NB311_332.out, NB332_311.out, NB312_332.out, NB332_312.out, NB313_332.out, NB332_313.out, NB314_332.out, NB332_314.out, (bls HB)⟩)
 rintro ⟨v325, v329, gb331, gb332⟩ w35 ⟨hS_, h0_, h1_, h2_, h3_, h4_, h5_, h6_, h7_, h8_, h9_, h10_, h11_, h12_, h13_, h14_, h15_, h16_, h17_, h18_, h19_, h20_, h21_, h22_, h23_, h24_, h25_, h26_, h27_, h28_, h29_, h30_, h31_, h32_⟩
 dsimp only at h0_ h1_ h2_ h3_ h4_ h5_ h6_ h7_ h8_ h9_ h10_ h11_ h12_ h13_ h14_ h15_ h16_ h17_ h18_ h19_ h20_ h21_ h22_ h23_ h24_ h25_ h26_ h27_ h28_ h29_ h30_ h31_ h32_
 replace HO319 := Az h0_
 replace HO322 := Az h1_
 have HO326 := Az h2_
 have HO330 := Az h3_
 replace BK311 := Az h4_
 replace BK312 := Az h5_
 replace BK313 := Az h6_
 replace BK314 := Az h7_
 have BK331 := Az h8_
 have BK332 := Az h9_
 have GW331 := Az h10_
 have GE331 := Az h11_
 have NB311_331 := Az h12_
 have NB331_311 := Az h13_
 have NB312_331 := Az h14_
 have NB331_312 := Az h15_
 have NB313_331 := Az h16_
 have NB331_313 := Az h17_
 have NB314_331 := Az h18_
 have NB331_314 := Az h19_
 have NB332_331 := Az h20_
 have NB331_332 := Az h21_
 have GW332 := Az h22_
 have GE332 := Az h23_
 have NB311_332 := Az h24_
 have NB332_311 := Az h25_
 have NB312_332 := Az h26_
 have NB332_312 := Az h27_
 have NB313_332 := Az h28_
 have NB332_313 := Az h29_
 have NB314_332 := Az h30_
 have NB332_314 := Az h31_
 replace HB := Az h32_
 have hHeld : w35.cell? ⟨gb311, 0, none⟩ = some (.bool a0_0) ∧ w35.cell? ⟨gb311, 1, none⟩ = some (.slice A0_1 l0_1.length c0_1) ∧ w35.cell? ⟨gb312, 0, none⟩ = some (.bool a1_0) ∧ w35.cell? ⟨gb312, 1, none⟩ = some (.slice A1_1 l1_1.length c1_1) := hS_
 obtain ⟨Ao37, co37, eo37⟩ := Kd.R_slice HO326.out
 (first | subst eo37 | (injection eo37 with f1_ f2_ f3_; have f4_ := f1_.symm; have f5_ := f3_.symm; clear f1_ f2_ f3_; subst f4_; subst f5_))
 obtain ⟨Ao40, co40, eo40⟩ := Kd.R_slice HO330.out
 (first | subst eo40 | (injection eo40 with f1_ f2_ f3_; have f4_ := f1_.symm; have f5_ := f3_.symm; clear f1_ f2_ f3_; subst f4_; subst f5_))
 refine norm_ (a' := ?_) ?_ ?_
 rotate_left
 ·simp only [putAll, Act.put, List.setIfInBounds_toArray, List.set_cons_zero, List.set_cons_succ]
  rfl
 refine on 13 (none) (bm 15 16383) HT_.out (fun K hK => ?_)
 have hs36 : w35.cell? ⟨gb331, 0, none⟩ = some (.bool false) := (blk_cell BK331.out 0).trans rfl
 have hfs36 := blk_frozen BK331.out 0
 have hns36_0 := NB311_331.out
 have hns36_1 := NB312_331.out
 have hns36_2 := NB313_331.out
 have hns36_3 := NB314_331.out
 have hns36_5 := NB332_331.out
 have hms36_0 := NB331_311.out
 have hms36_1 := NB331_312.out
 have hms36_2 := NB331_313.out
 have hms36_3 := NB331_314.out
 have hms36_5 := NB331_332.out
 have hs38 : w35.cell? ⟨gb331, 1, none⟩ = some (.slice none 0 0) := (blk_cell BK331.out 1).trans rfl
 have hfs38 := blk_frozen BK331.out 1
 have hns38_0 := NB311_331.out
 have hns38_1 := NB312_331.out
 have hns38_2 := NB313_331.out
 have hns38_3 := NB314_331.out
 have hns38_5 := NB332_331.out
 have hms38_0 := NB331_311.out
 have hms38_1 := NB331_312.out
 have hms38_2 := NB331_313.out
 have hms38_3 := NB331_314.out
 have hms38_5 := NB331_332.out
 refine skip_ (w1 := ?_) (by rfl) rfl ?_ ?_
 rotate_left
 ·go_simp
  rfl
 refine hK.out _ _ ⟨((cell_far (p := ⟨gb331, _, none⟩) NB311_331.out _).trans (((cell_far (p := ⟨gb331, _, none⟩) NB311_331.out _).trans (hHeld.1)))), ((cell_far (p := ⟨gb331, _, none⟩) NB311_331.out _).trans (((cell_far (p := ⟨gb331, _, none⟩) NB311_331.out _).trans (hHeld.2.1)))), ((cell_far (p := ⟨gb331, _, none⟩) NB312_331.out _).trans (((cell_far (p := ⟨gb331, _, none⟩) NB312_331.out _).trans (hHeld.2.2.1)))), ((cell_far (p := ⟨gb331, _, none⟩) NB312_331.out _).trans (((cell_far (p := ⟨gb331, _, none⟩) NB312_331.out _).trans (hHeld.2.2.2))))⟩ (fun hHeld => ?_)
 refine on 14 (none) (bm 15 32767) HT_.out (fun K hK => ?_)
 have hs39 : w35.cell? ⟨gb332, 0, none⟩ = some (.bool false) := (blk_cell BK332.out 0).trans rfl
 have hfs39 := blk_frozen BK332.out 0
 have hns39_0 := NB311_332.out
 have hns39_1 := NB312_332.out
 have hns39_2 := NB313_332.out
 have hns39_3 := NB314_332.out
 have hns39_4 := NB331_332.out
 have hms39_0 := NB332_311.out
 have hms39_1 := NB332_312.out
 have hms39_2 := NB332_313.out
 have hms39_3 := NB332_314.out
 have hms39_4 := NB332_331.out
 have hs41 : w35.cell? ⟨gb332, 1, none⟩ = some (.slice none 0 0) := (blk_cell BK332.out 1).trans rfl
 have hfs41 := blk_frozen BK332.out 1
 have hns41_0 := NB311_332.out
 have hns41_1 := NB312_332.out
 have hns41_2 := NB313_332.out
 have hns41_3 := NB314_332.out
 have hns41_4 := NB331_332.out
 have hms41_0 := NB332_311.out
 have hms41_1 := NB332_312.out
 have hms41_2 := NB332_313.out
 have hms41_3 := NB332_314.out
 have hms41_4 := NB332_331.out
 refine skip_ (w1 := ?_) (by rfl) rfl ?_ ?_
 rotate_left
 ·go_simp
  rfl
 refine hK.out _ _ ⟨((cell_far (p := ⟨gb332, _, none⟩) NB311_332.out _).trans (((cell_far (p := ⟨gb332, _, none⟩) NB311_332.out _).trans (hHeld.1)))), ((cell_far (p := ⟨gb332, _, none⟩) NB311_332.out _).trans (((cell_far (p := ⟨gb332, _, none⟩) NB311_332.out _).trans (hHeld.2.1)))), ((cell_far (p := ⟨gb332, _, none⟩) NB312_332.out _).trans (((cell_far (p := ⟨gb332, _, none⟩) NB312_332.out _).trans (hHeld.2.2.1)))), ((cell_far (p := ⟨gb332, _, none⟩) NB312_332.out _).trans (((cell_far (p := ⟨gb332, _, none⟩) NB312_332.out _).trans (hHeld.2.2.2))))⟩ (fun hHeld => ?_)
 refine done_ (done_of HT_.out (by kernel_rfl)) ?_
 have hnb42 := NB332_311.out
 have hnc42 := NB311_332.out
 have hnb43 := NB332_312.out
 have hnc43 := NB312_332.out
 have hnb44 := NB332_313.out
 have hnc44 := NB313_332.out
 have hnb45 := NB332_314.out
 have hnc45 := NB314_332.out
 have hnb46 := NB332_331.out
 have hnc46 := NB331_332.out
 have hz47_1 := bz BK332
 try go_wp2
 have n_ : (fun W_ : World => Aside0 (Kd.R (Kd.int .u64) 25 W_ w.heap.size (fun k_ => some k_ ≠ (.slice Ao37 t324.length co37 : Value).ownBlock ∧ some k_ ≠ (.slice Ao40 t328.length co40 : Value).ownBlock) (.slice Ao28 t317.length co28) t317) ∧ Aside0 (Kd.V (Kd.int .u64) 25 W_ w.heap.size (fun k_ => some k_ ≠ (.slice Ao28 t317.length co28 : Value).ownBlock ∧ some k_ ≠ (.slice Ao37 t324.length co37 : Value).ownBlock ∧ some k_ ≠ (.slice Ao40 t328.length co40 : Value).ownBlock ∧ k_ ≠ gb311 ∧ k_ ≠ gb312 ∧ k_ ≠ gb313 ∧ k_ ≠ gb314 ∧ k_ ≠ gb331 ∧ k_ ≠ gb332) (.slice Ao29 t320.length co29) t320) ∧ Aside0 (Kd.R (Kd.int .u64) 25 W_ w.heap.size (fun k_ => some k_ ≠ (.slice Ao28 t317.length co28 : Value).ownBlock ∧ some k_ ≠ (.slice Ao40 t328.length co40 : Value).ownBlock) (.slice Ao37 t324.length co37) t324) ∧ Aside0 (Kd.R (Kd.int .u64) 25 W_ w.heap.size (fun k_ => some k_ ≠ (.slice Ao28 t317.length co28 : Value).ownBlock ∧ some k_ ≠ (.slice Ao37 t324.length co37 : Value).ownBlock) (.slice Ao40 t328.length co40) t328) ∧ Aside0 (W_.heap[gb311]? = some (.cells #[.bool a0_0, .slice A0_1 l0_1.length c0_1] 24 (0, 0))) ∧ Aside0 (W_.heap[gb312]? = some (.cells #[.bool a1_0, .slice A1_1 l1_1.length c1_1] 24 (0, 0))) ∧ Aside0 (W_.heap[gb313]? = some (.cells #[.bool false, .slice none 0 0] 24 (0, 0))) ∧ Aside0 (W_.heap[gb314]? = some (.cells #[.bool false, .slice none 0 0] 24 (0, 0))) ∧ Aside0 (W_.heap[gb331]? = some (.cells #[.bool t323, .slice Ao37 t324.length co37] 24 (0, 0))) ∧ Aside0 (W_.heap[gb332]? = some (.cells #[.bool t327, .slice Ao40 t328.length co40] 24 (0, 0))) ∧ Aside0 (Below w.heap.size w W_)) ((((w35.setCell ⟨gb331, 0, none⟩ (.bool t323)).setCell ⟨gb331, 1, none⟩ (.slice Ao37 t324.length co37)).setCell ⟨gb332, 0, none⟩ (.bool t327)).setCell ⟨gb332, 1, none⟩ (.slice Ao40 t328.length co40)) := ⟨⟨rt (Kd.R_mono (Kd.R_far (p := ⟨gb332, 1, none⟩) (Kd.R_far (p := ⟨gb332, 0, none⟩) (Kd.R_far (p := ⟨gb331, 1, none⟩) (Kd.R_far (p := ⟨gb331, 0, none⟩) (Kd.R_types (Kd.R_types HO319.out BK331.out (by decide)) BK332.out (by decide)) (fun _ hk => hk.1.2) (.bool t323)) (fun _ hk => hk.1.2) (.slice Ao37 t324.length co37)) (fun _ hk => hk.2) (.bool t327)) (fun _ hk => hk.2) (.slice Ao40 t328.length co40)) (fun _ hk => ⟨hk.1.1.1, hk.1.1.2⟩))⟩, ⟨vt (Kd.V_mono (Kd.V_far (p := ⟨gb332, 1, none⟩) (Kd.V_far (p := ⟨gb332, 0, none⟩) (Kd.V_far (p := ⟨gb331, 1, none⟩) (Kd.V_far (p := ⟨gb331, 0, none⟩) (Kd.V_mono (Kd.V_mono HO322.out (fun k_ hk => (⟨hk, hk.2.2.2.2.2.2.2.1⟩ : _ ∧ k_ ≠ gb331))) (fun k_ hk => (⟨hk, hk.1.2.2.2.2.2.2.2.2⟩ : _ ∧ k_ ≠ gb332))) (fun _ hk => hk.1.2) (.bool t323)) (fun _ hk => hk.1.2) (.slice Ao37 t324.length co37)) (fun _ hk => hk.2) (.bool t327)) (fun _ hk => hk.2) (.slice Ao40 t328.length co40)) (fun _ hk => ⟨hk.1.1.1, ⟨hk.1.1.2.1, ⟨hk.1.1.2.2.1, ⟨hk.1.1.2.2.2.1, ⟨hk.1.1.2.2.2.2.1, ⟨hk.1.1.2.2.2.2.2.1, ⟨hk.1.1.2.2.2.2.2.2.1, ⟨hk.1.1.2.2.2.2.2.2.2.1, hk.1.1.2.2.2.2.2.2.2.2⟩⟩⟩⟩⟩⟩⟩⟩))⟩, ⟨rt (Kd.R_mono (Kd.R_far (p := ⟨gb332, 1, none⟩) (Kd.R_far (p := ⟨gb332, 0, none⟩) (Kd.R_far (p := ⟨gb331, 1, none⟩) (Kd.R_far (p := ⟨gb331, 0, none⟩) (Kd.R_types (Kd.R_types HO326.out BK331.out (by decide)) BK332.out (by decide)) (fun _ hk => hk.1.2) (.bool t323)) (fun _ hk => hk.1.2) (.slice Ao37 t324.length co37)) (fun _ hk => hk.2) (.bool t327)) (fun _ hk => hk.2) (.slice Ao40 t328.length co40)) (fun _ hk => ⟨hk.1.1.1, hk.1.1.2⟩))⟩, ⟨rt (Kd.R_mono (Kd.R_far (p := ⟨gb332, 1, none⟩) (Kd.R_far (p := ⟨gb332, 0, none⟩) (Kd.R_far (p := ⟨gb331, 1, none⟩) (Kd.R_far (p := ⟨gb331, 0, none⟩) (Kd.R_types (Kd.R_types HO330.out BK331.out (by decide)) BK332.out (by decide)) (fun _ hk => hk.1.2) (.bool t323)) (fun _ hk => hk.1.2) (.slice Ao37 t324.length co37)) (fun _ hk => hk.2) (.bool t327)) (fun _ hk => hk.2) (.slice Ao40 t328.length co40)) (fun _ hk => ⟨hk.1.1.1, hk.1.1.2⟩))⟩, ⟨by refine blk_far ?_ NB311_332.out _; refine blk_far ?_ NB311_332.out _; refine blk_far ?_ NB311_331.out _; refine blk_far ?_ NB311_331.out _; exact BK311.out⟩, ⟨by refine blk_far ?_ NB312_332.out _; refine blk_far ?_ NB312_332.out _; refine blk_far ?_ NB312_331.out _; refine blk_far ?_ NB312_331.out _; exact BK312.out⟩, ⟨by refine blk_far ?_ NB313_332.out _; refine blk_far ?_ NB313_332.out _; refine blk_far ?_ NB313_331.out _; refine blk_far ?_ NB313_331.out _; exact BK313.out⟩, ⟨by refine blk_far ?_ NB314_332.out _; refine blk_far ?_ NB314_332.out _; refine blk_far ?_ NB314_331.out _; refine blk_far ?_ NB314_331.out _; exact BK314.out⟩, ⟨by refine blk_far ?_ NB331_332.out _; refine blk_far ?_ NB331_332.out _; refine blk_put (cs := #[.bool t323, .slice none 0 0]) ?_ 1 _ rfl; refine blk_put (cs := #[.bool false, .slice none 0 0]) ?_ 0 _ rfl; exact BK331.out⟩, ⟨by refine blk_put (cs := #[.bool t327, .slice none 0 0]) ?_ 1 _ rfl; refine blk_put (cs := #[.bool false, .slice none 0 0]) ?_ 0 _ rfl; refine blk_far ?_ NB332_331.out _; refine blk_far ?_ NB332_331.out _; exact BK332.out⟩, ⟨bls HB⟩⟩
 obtain ⟨n0_, n1_, n2_, n3_, n4_, n5_, n6_, n7_, n8_, n9_, n10_⟩ := n_
 generalize ((((w35.setCell ⟨gb331, 0, none⟩ (.bool t323)).setCell ⟨gb331, 1, none⟩ (.slice Ao37 t324.length co37)).setCell ⟨gb332, 0, none⟩ (.bool t327)).setCell ⟨gb332, 1, none⟩ (.slice Ao40 t328.length co40)) = w48 at n0_ n1_ n2_ n3_ n4_ n5_ n6_ n7_ n8_ n9_ n10_ ⊢
 have HO319 := n0_
 have HO322 := n1_
 have HO326 := n2_
 have HO330 := n3_
 have BK311 := n4_
 have BK312 := n5_
 have BK313 := n6_
 have BK314 := n7_
 have BK331 := n8_
 have BK332 := n9_
 have HB := n10_
 replace HO319 := Az (Kd.R_drew HO319.out)
 replace HO322 := Az (Kd.V_drew HO322.out)
 replace HO326 := Az (Kd.R_drew HO326.out)
 replace HO330 := Az (Kd.R_drew HO330.out)
 replace BK311 := Az (blk_drew BK311.out)
 replace BK312 := Az (blk_drew BK312.out)
 replace BK313 := Az (blk_drew BK313.out)
 replace BK314 := Az (blk_drew BK314.out)
 replace BK331 := Az (blk_drew BK331.out)
 replace BK332 := Az (blk_drew BK332.out)
 replace HB := Az (below_drew1 HB.out)
 refine start_ (n := 5) (S := fun w' => w'.cell? ⟨gb331, 0, none⟩ = some (.bool t323) ∧ w'.cell? ⟨gb331, 1, none⟩ = some (.slice Ao37 t324.length co37) ∧ w'.cell? ⟨gb332, 0, none⟩ = some (.bool t327) ∧ w'.cell? ⟨gb332, 1, none⟩ = some (.slice Ao40 t328.length co40)) (ds := []) (bm 5 0) (by kernel_rfl) rfl rfl ⟨(blk_cell BK331.out 0).trans rfl, (blk_cell BK331.out 1).trans rfl, (blk_cell BK332.out 0).trans rfl, (blk_cell BK332.out 1).trans rfl⟩ (fun hHeld => ?_)
 generalize w48.drew = w49 at HO319 HO322 HO326 HO330 BK311 BK312 BK313 BK314 BK331 BK332 HB hHeld ⊢
 refine take_ (i := 0) (N := some 70) (v := ?_) (a' := ?_) (bm 5 1) rfl rfl (by kernel_rfl) (fun _ _ _ h => h) (Or.inl ⟨by rfl, ?_⟩) hHeld ?_ ?_
 rotate_left
 ·rintro w' ⟨s0, s1, s2, s3⟩
  go_simp
  with_reducible rfl
 rotate_left
 ·simp only [Act.put, List.setIfInBounds_toArray, List.set_cons_zero, List.set_cons_succ, i64_w, i32_w]
  rfl
 refine take_ (i := 1) (N := some 71) (v := ?_) (a' := ?_) (bm 5 3) rfl rfl (by kernel_rfl) (fun _ _ _ h => h) (Or.inl ⟨by rfl, ?_⟩) hHeld ?_ ?_
 rotate_left
 ·rintro w' ⟨s0, s1, s2, s3⟩
  go_simp
  with_reducible rfl
 rotate_left
 ·simp only [Act.put, List.setIfInBounds_toArray, List.set_cons_zero, List.set_cons_succ, i64_w, i32_w]
  rfl
 refine one_ (i := 2) (N := none) (bm 5 7) rfl rfl (by kernel_rfl) (by decide) (fun K hK => ?_)
 have hs50 : w49.cell? ⟨gb313, 0, none⟩ = some (.bool false) := (blk_cell BK313.out 0).trans rfl
 have hfs50 := blk_frozen BK313.out 0
 have hns50_0 := NB311_313.out
 have hns50_1 := NB312_313.out
 have hns50_3 := NB314_313.out
 have hns50_4 := NB331_313.out
 have hns50_5 := NB332_313.out
 have hms50_0 := NB313_311.out
 have hms50_1 := NB313_312.out
 have hms50_3 := NB313_314.out
 have hms50_4 := NB313_331.out
 have hms50_5 := NB313_332.out
 have hs51 : w49.cell? ⟨gb313, 1, none⟩ = some (.slice none 0 0) := (blk_cell BK313.out 1).trans rfl
 have hfs51 := blk_frozen BK313.out 1
 have hns51_0 := NB311_313.out
 have hns51_1 := NB312_313.out
 have hns51_3 := NB314_313.out
 have hns51_4 := NB331_313.out
 have hns51_5 := NB332_313.out
 have hms51_0 := NB313_311.out
 have hms51_1 := NB313_312.out
 have hms51_3 := NB313_314.out
 have hms51_4 := NB313_331.out
 have hms51_5 := NB313_332.out
 refine skip_ (w1 := ?_) (by rfl) rfl ?_ ?_
 rotate_left
 ·go_simp
  rfl
 refine hK.out _ _ ⟨((cell_far (p := ⟨gb313, _, none⟩) NB331_313.out _).trans (((cell_far (p := ⟨gb313, _, none⟩) NB331_313.out _).trans (hHeld.1)))), ((cell_far (p := ⟨gb313, _, none⟩) NB331_313.out _).trans (((cell_far (p := ⟨gb313, _, none⟩) NB331_313.out _).trans (hHeld.2.1)))), ((cell_far (p := ⟨gb313, _, none⟩) NB332_313.out _).trans (((cell_far (p := ⟨gb313, _, none⟩) NB332_313.out _).trans (hHeld.2.2.1)))), ((cell_far (p := ⟨gb313, _, none⟩) NB332_313.out _).trans (((cell_far (p := ⟨gb313, _, none⟩) NB332_313.out _).trans (hHeld.2.2.2))))⟩ (fun hHeld => ?_)
 refine one_ (i := 3) (N := none) (bm 5 15) rfl rfl (by kernel_rfl) (by decide) (fun K hK => ?_)
 have hs52 : w49.cell? ⟨gb314, 0, none⟩ = some (.bool false) := (blk_cell BK314.out 0).trans rfl
 have hfs52 := blk_frozen BK314.out 0
 have hns52_0 := NB311_314.out
 have hns52_1 := NB312_314.out
 have hns52_2 := NB313_314.out
 have hns52_4 := NB331_314.out
 have hns52_5 := NB332_314.out
 have hms52_0 := NB314_311.out
 have hms52_1 := NB314_312.out
 have hms52_2 := NB314_313.out
 have hms52_4 := NB314_331.out
 have hms52_5 := NB314_332.out
 have hs53 : w49.cell? ⟨gb314, 1, none⟩ = some (.slice none 0 0) := (blk_cell BK314.out 1).trans rfl
 have hfs53 := blk_frozen BK314.out 1
 have hns53_0 := NB311_314.out
 have hns53_1 := NB312_314.out
 have hns53_2 := NB313_314.out
 have hns53_4 := NB331_314.out
 have hns53_5 := NB332_314.out
 have hms53_0 := NB314_311.out
 have hms53_1 := NB314_312.out
 have hms53_2 := NB314_313.out
 have hms53_4 := NB314_331.out
 have hms53_5 := NB314_332.out
 refine skip_ (w1 := ?_) (by rfl) rfl ?_ ?_
 rotate_left
 ·go_simp
  rfl
 refine hK.out _ _ ⟨((cell_far (p := ⟨gb314, _, none⟩) NB331_314.out _).trans (((cell_far (p := ⟨gb314, _, none⟩) NB331_314.out _).trans (hHeld.1)))), ((cell_far (p := ⟨gb314, _, none⟩) NB331_314.out _).trans (((cell_far (p := ⟨gb314, _, none⟩) NB331_314.out _).trans (hHeld.2.1)))), ((cell_far (p := ⟨gb314, _, none⟩) NB332_314.out _).trans (((cell_far (p := ⟨gb314, _, none⟩) NB332_314.out _).trans (hHeld.2.2.1)))), ((cell_far (p := ⟨gb314, _, none⟩) NB332_314.out _).trans (((cell_far (p := ⟨gb314, _, none⟩) NB332_314.out _).trans (hHeld.2.2.2))))⟩ (fun hHeld => ?_)
 refine pure_ (i := 4) (N := some 6) (v := ?_) (a' := ?_) (bm 5 31) rfl rfl (by kernel_rfl) (fun _ _ _ h => h) (Or.inl ⟨by rfl, ?_⟩) ?_ ?_
 rotate_left
 ·intro w'
  go_simp
  with_reducible rfl
 rotate_left
 ·simp only [Act.put, List.setIfInBounds_toArray, List.set_cons_zero, List.set_cons_succ, i64_w, i32_w]
  rfl
 refine done_ (by kernel_rfl) ?_
 try go_wp2
 refine bodyPost_ret (results_list (rs := [.cell 4 24, .cell 5 24, .tmp 6]) rfl (by simp) (.cell gb313 24 #[.bool t323, .slice Ao37 t324.length co37] (0, 0) _ rfl (by refine blk_far ?_ NB313_314.out _; refine blk_far ?_ NB313_314.out _; refine blk_put (cs := #[.bool t323, .slice none 0 0]) ?_ 1 _ rfl; refine blk_put (cs := #[.bool false, .slice none 0 0]) ?_ 0 _ rfl; exact BK313.out) Tryz.underlying24 rfl (by kernel_rfl) (.cell gb314 24 #[.bool t327, .slice Ao40 t328.length co40] (0, 0) _ rfl (by refine blk_put (cs := #[.bool t327, .slice none 0 0]) ?_ 1 _ rfl; refine blk_put (cs := #[.bool false, .slice none 0 0]) ?_ 0 _ rfl; refine blk_far ?_ NB314_313.out _; refine blk_far ?_ NB314_313.out _; exact BK314.out) Tryz.underlying24 rfl (by kernel_rfl) (.tmp .nil)))) rfl ?_
 exact ⟨_, _, fe, rt (Kd.R_mono (Kd.R_far (p := ⟨gb314, 1, none⟩) (Kd.R_far (p := ⟨gb314, 0, none⟩) (Kd.R_far (p := ⟨gb313, 1, none⟩) (Kd.R_far (p := ⟨gb313, 0, none⟩) (Kd.R_types (Kd.R_types HO326.out BK313.out (by decide)) BK314.out (by decide)) (fun _ hk => hk.1.2) (.bool t323)) (fun _ hk => hk.1.2) (.slice Ao37 t324.length co37)) (fun _ hk => hk.2) (.bool t327)) (fun _ hk => hk.2) (.slice Ao40 t328.length co40)) (fun _ hk => hk.1.1.2)), rt (Kd.R_mono (Kd.R_far (p := ⟨gb314, 1, none⟩) (Kd.R_far (p := ⟨gb314, 0, none⟩) (Kd.R_far (p := ⟨gb313, 1, none⟩) (Kd.R_far (p := ⟨gb313, 0, none⟩) (Kd.R_types (Kd.R_types HO330.out BK313.out (by decide)) BK314.out (by decide)) (fun _ hk => hk.1.2) (.bool t323)) (fun _ hk => hk.1.2) (.slice Ao37 t324.length co37)) (fun _ hk => hk.2) (.bool t327)) (fun _ hk => hk.2) (.slice Ao40 t328.length co40)) (fun _ hk => hk.1.1.2)), bls HB⟩
def m_Abs.f (a0 : Nat) : Option (Nat) := some (Int.toNat (Go.bits .andNot .u64 ((a0 : Nat) : Int) 9223372036854775808))
theorem m_Abs.calls (a0 r : Nat) (w : World) (h : m_Abs.f a0 = some r) :
  Calls Tryz.prog 60 #[.float .f64 a0] w fun e w' => e = .returned (.float .f64 r) ∧ Drawn0 w w' := by
 have H := h
 unfold m_Abs.f at H
 clear h
 obtain rfl := Option.some.inj H
 go_enter Tryz.func60, Tryz.ntmps60
 go_wp2
 go_ret
 exact ⟨by first | rfl | (simp; done) | (simp [*]; done), by repeat (first | exact Drawn0.refl _ | apply Drawn0.step)⟩
def m_IsInf.f (a0 : Nat) (a1 : Int) : Option (Bool) := if a1 = 0 then ((m_Abs.f a0).bind fun t138 => (some (FloatKind.f64.format.order t138 9218868437227405311 == some Ordering.gt))) else (none)
theorem m_IsInf.calls (a0 : Nat) (a1 : Int) (r : Bool) (w : World) (h : m_IsInf.f a0 a1 = some r) :
  Calls Tryz.prog 58 #[.float .f64 a0, .int .i64 a1] w fun e w' => e = .returned (.bool r) ∧ Drawn0 w w' := by
 have H := h
 unfold m_IsInf.f at H
 clear h
 by_cases c3 : a1 = 0
 ·rw [if_pos c3] at H
  have c3b0 := beq_iff_eq.mpr c3
  have c3b1 := bne_eq_false_iff_eq.mpr c3
  clear c3
  obtain ⟨t138, A4, H⟩ := bd H
  obtain rfl := Option.some.inj H
  go_enter Tryz.func58, Tryz.ntmps58
  go_wp2_with (first | (refine gl (some 8) Tryz.func60 #[.float .f64 a0] ?_; (with_reducible refine (m_Abs.calls a0 t138 _ A4.out).mono ?_); rintro e w' ⟨rfl, ⟨nd, rfl⟩⟩; refine ⟨_, rfl, ?_⟩))
  go_ret
  exact ⟨by first | rfl | (simp; done) | (simp [*]; done), by repeat (first | exact Drawn0.refl _ | apply Drawn0.step)⟩
 ·rw [if_neg c3] at H
  exact absurd H (by simp)
def m_IsNaN.f (a0 : Nat) : Option (Bool) := some (FloatKind.f64.format.order a0 a0 != some Ordering.eq)
theorem m_IsNaN.calls (a0 : Nat) (r : Bool) (w : World) (h : m_IsNaN.f a0 = some r) :
  Calls Tryz.prog 122 #[.float .f64 a0] w fun e w' => e = .returned (.bool r) ∧ Drawn0 w w' := by
 have H := h
 unfold m_IsNaN.f at H
 clear h
 obtain rfl := Option.some.inj H
 go_enter Tryz.func122, Tryz.ntmps122
 go_wp2
 go_ret
 exact ⟨by first | rfl | (simp; done) | (simp [*]; done), by repeat (first | exact Drawn0.refl _ | apply Drawn0.step)⟩
def m_normalize.f (a0 : Nat) : Option (Nat × Int) := (m_Abs.f a0).bind fun t139 => (if (FloatKind.f64.format.order t139 4503599627370496 == some Ordering.lt) = true then (if okMul a0 4841369599423283200 = true then (some (fMul a0 4841369599423283200, (-52))) else (none)) else (some (a0, 0)))
theorem m_normalize.calls (a0 r1 : Nat) (r2 : Int) (w : World) (h : m_normalize.f a0 = some (r1, r2)) :
  Calls Tryz.prog 123 #[.float .f64 a0] w fun e w' => e = .returned (.tuple #[.float .f64 r1, .int .i64 r2]) ∧ Drawn0 w w' := by
 have H := h
 unfold m_normalize.f at H
 clear h
 obtain ⟨t139, A2, H⟩ := bd H
 by_cases c3 : (FloatKind.f64.format.order t139 4503599627370496 == some Ordering.lt) = true
 case neg =>
  rw [if_neg c3] at H
  have c3b0 : (FloatKind.f64.format.order t139 4503599627370496 == some Ordering.lt) = false := by simpa using c3
  (try (have c3b1 : decide (FloatKind.f64.format.order t139 4503599627370496 = some Ordering.lt) = false := by simpa using c3))
  (try (have c3b2 : (FloatKind.f64.format.order t139 4503599627370496 == some Ordering.lt) = false := by simpa using c3))
  (try (have c3b3 : ¬ (FloatKind.f64.format.order t139 4503599627370496 = some Ordering.lt) := by simpa using c3))
  clear c3
  simp only [Option.some.injEq, Prod.mk.injEq] at H
  obtain ⟨rfl, rfl⟩ := H
  go_enter Tryz.func123, Tryz.ntmps123
  go_wp2_with (first | (refine gl (some 5) Tryz.func60 #[.float .f64 a0] ?_; (with_reducible refine (m_Abs.calls a0 t139 _ A2.out).mono ?_); rintro e w' ⟨rfl, ⟨nd, rfl⟩⟩; refine ⟨_, rfl, ?_⟩))
  go_ret2
  exact ⟨by first | rfl | (simp; done) | (simp [*]; done), by repeat (first | exact Drawn0.refl _ | apply Drawn0.step)⟩
 rw [if_pos c3] at H
 have c3b0 : (FloatKind.f64.format.order t139 4503599627370496 == some Ordering.lt) = true := c3
 (try (have c3b1 : decide (FloatKind.f64.format.order t139 4503599627370496 = some Ordering.lt) = true := by simpa using c3))
 (try (have c3b2 : (FloatKind.f64.format.order t139 4503599627370496 == some Ordering.lt) = true := by simpa using c3))
 clear c3
 by_cases c4 : okMul a0 4841369599423283200 = true
 case neg =>
  rw [if_neg c4] at H
  exact absurd H (by simp)
 rw [if_pos c4] at H
 have c4b0 := eq_true c4
 have c4b1 := decide_eq_true c4
 clear c4
 simp only [Option.some.injEq, Prod.mk.injEq] at H
 obtain ⟨rfl, rfl⟩ := H
 go_enter Tryz.func123, Tryz.ntmps123
 go_wp2_with (first | (refine gl (some 5) Tryz.func60 #[.float .f64 a0] ?_; (with_reducible refine (m_Abs.calls a0 t139 _ A2.out).mono ?_); rintro e w' ⟨rfl, ⟨nd, rfl⟩⟩; refine ⟨_, rfl, ?_⟩))
 go_ret2
 exact ⟨by first | rfl | (simp; done) | (simp [*]; done), by repeat (first | exact Drawn0.refl _ | apply Drawn0.step)⟩
def m_frexp.f (a0 : Nat) : Option (Nat × Int) := if (FloatKind.f64.format.order a0 0 == some Ordering.eq) = true then (some (a0, 0)) else ((m_IsInf.f a0 0).bind fun t140 => (if t140 = true then (none) else ((m_IsNaN.f a0).bind fun t141 => (if t141 = true then (none) else ((m_normalize.f a0).bind fun bt142 => (some (Int.toNat (Go.bits .or .u64 (Go.bits .andNot .u64 ((bt142.1 : Nat) : Int) 9218868437227405312) 4602678819172646912), wrap64 (bt142.2 + (wrap64 ((wrap64 ((wrap64 (Go.bits .and .u64 (((bt142.1 : Nat) : Int) / 4503599627370496) 2047)) - 1023)) + 1))))))))))
theorem m_frexp.calls (a0 r1 : Nat) (r2 : Int) (w : World) (h : m_frexp.f a0 = some (r1, r2)) :
  Calls Tryz.prog 90 #[.float .f64 a0] w fun e w' => e = .returned (.tuple #[.float .f64 r1, .int .i64 r2]) ∧ Drawn0 w w' := by
 have H := h
 unfold m_frexp.f at H
 clear h
 by_cases c2 : (FloatKind.f64.format.order a0 0 == some Ordering.eq) = true
 ·rw [if_pos c2] at H
  have c2b0 : (FloatKind.f64.format.order a0 0 == some Ordering.eq) = true := c2
  (try (have c2b1 : decide (FloatKind.f64.format.order a0 0 = some Ordering.eq) = true := by simpa using c2))
  (try (have c2b2 : (FloatKind.f64.format.order a0 0 == some Ordering.eq) = true := by simpa using c2))
  clear c2
  simp only [Option.some.injEq, Prod.mk.injEq] at H
  obtain ⟨rfl, rfl⟩ := H
  go_enter Tryz.func90, Tryz.ntmps90
  go_wp2
  go_ret2
  exact ⟨by first | rfl | (simp; done) | (simp [*]; done), by repeat (first | exact Drawn0.refl _ | apply Drawn0.step)⟩
 rw [if_neg c2] at H
 have c2b0 : (FloatKind.f64.format.order a0 0 == some Ordering.eq) = false := by simpa using c2
 (try (have c2b1 : decide (FloatKind.f64.format.order a0 0 = some Ordering.eq) = false := by simpa using c2))
 (try (have c2b2 : (FloatKind.f64.format.order a0 0 == some Ordering.eq) = false := by simpa using c2))
 (try (have c2b3 : ¬ (FloatKind.f64.format.order a0 0 = some Ordering.eq) := by simpa using c2))
 clear c2
 obtain ⟨t140, A3, H⟩ := bd H
 by_cases c4 : t140 = true
 ·subst c4
  rw [if_pos rfl] at H
  exact absurd H (by simp)
 replace c4 := Bool.eq_false_iff.mpr c4
 subst c4
 rw [if_neg Bool.false_ne_true] at H
 obtain ⟨t141, A5, H⟩ := bd H
 by_cases c6 : t141 = true
 ·subst c6
  rw [if_pos rfl] at H
  exact absurd H (by simp)
 replace c6 := Bool.eq_false_iff.mpr c6
 subst c6
 rw [if_neg Bool.false_ne_true] at H
 obtain ⟨⟨t142, t143⟩, A7, H⟩ := bd H
 (try dsimp only at H)
 simp only [Option.some.injEq, Prod.mk.injEq] at H
 obtain ⟨rfl, rfl⟩ := H
 go_enter Tryz.func90, Tryz.ntmps90
 go_wp2_with (first | (refine gl (some 11) Tryz.func58 #[.float .f64 a0, .int .i64 0] ?_; (with_reducible refine (m_IsInf.calls a0 0 false _ A3.out).mono ?_); rintro e w' ⟨rfl, ⟨nd, rfl⟩⟩; refine ⟨_, rfl, ?_⟩) | (go_at_call 122; (with_reducible refine (m_IsNaN.calls a0 false _ A5.out).mono ?_); rintro e w' ⟨rfl, ⟨nd, rfl⟩⟩) | (refine gl (some 19) Tryz.func123 #[.float .f64 a0] ?_; (with_reducible refine (m_normalize.calls a0 t142 t143 _ A7.out).mono ?_); rintro e w' ⟨rfl, ⟨nd, rfl⟩⟩; refine ⟨_, rfl, ?_⟩))
 go_ret2
 exact ⟨by first | rfl | (simp; done) | (simp [*]; done), by repeat (first | exact Drawn0.refl _ | apply Drawn0.step)⟩
def m_Frexp.f (a0 : Nat) : Option (Nat × Int) := (m_frexp.f a0).bind fun bt144 => (some (bt144.1, bt144.2))
theorem m_Frexp.calls (a0 r1 : Nat) (r2 : Int) (w : World) (h : m_Frexp.f a0 = some (r1, r2)) :
  Calls Tryz.prog 59 #[.float .f64 a0] w fun e w' => e = .returned (.tuple #[.float .f64 r1, .int .i64 r2]) ∧ Drawn0 w w' := by
 have H := h
 unfold m_Frexp.f at H
 clear h
 obtain ⟨⟨t144, t145⟩, A2, H⟩ := bd H
 (try dsimp only at H)
 simp only [Option.some.injEq, Prod.mk.injEq] at H
 obtain ⟨rfl, rfl⟩ := H
 go_enter Tryz.func59, Tryz.ntmps59
 go_wp2_with (first | (refine gl (some 9) Tryz.func90 #[.float .f64 a0] ?_; (with_reducible refine (m_frexp.calls a0 t144 t145 _ A2.out).mono ?_); rintro e w' ⟨rfl, ⟨nd, rfl⟩⟩; refine ⟨_, rfl, ?_⟩))
 go_ret2
 exact ⟨by first | rfl | (simp; done) | (simp [*]; done), by repeat (first | exact Drawn0.refl _ | apply Drawn0.step)⟩
def m_ldexp.f (a0 : Nat) (a1 : Int) : Option (Nat) := if (FloatKind.f64.format.order a0 0 == some Ordering.eq) = true then (some a0) else ((m_IsInf.f a0 0).bind fun t146 => (if t146 = true then (none) else ((m_IsNaN.f a0).bind fun t147 => (if t147 = true then (none) else ((m_normalize.f a0).bind fun bt148 => (if (wrap64 ((wrap64 (a1 + bt148.2)) + (wrap64 ((Go.bits .and .i64 (wrap64 (((bt148.1 : Nat) : Int) / 4503599627370496)) 2047) - 1023)))) < (-1075) then (none) else (if (wrap64 ((wrap64 (a1 + bt148.2)) + (wrap64 ((Go.bits .and .i64 (wrap64 (((bt148.1 : Nat) : Int) / 4503599627370496)) 2047) - 1023)))) > 1023 then (none) else (if (wrap64 ((wrap64 (a1 + bt148.2)) + (wrap64 ((Go.bits .and .i64 (wrap64 (((bt148.1 : Nat) : Int) / 4503599627370496)) 2047) - 1023)))) < (-1022) then (none) else (if okMul 4607182418800017408 (Int.toNat (Go.bits .or .u64 (Go.bits .andNot .u64 ((bt148.1 : Nat) : Int) 9218868437227405312) (IntKind.u64.wrap ((IntKind.u64.wrap (wrap64 ((wrap64 ((wrap64 (a1 + bt148.2)) + (wrap64 ((Go.bits .and .i64 (wrap64 (((bt148.1 : Nat) : Int) / 4503599627370496)) 2047) - 1023)))) + 1023))) * 4503599627370496)))) = true then (some (fMul 4607182418800017408 (Int.toNat (Go.bits .or .u64 (Go.bits .andNot .u64 ((bt148.1 : Nat) : Int) 9218868437227405312) (IntKind.u64.wrap ((IntKind.u64.wrap (wrap64 ((wrap64 ((wrap64 (a1 + bt148.2)) + (wrap64 ((Go.bits .and .i64 (wrap64 (((bt148.1 : Nat) : Int) / 4503599627370496)) 2047) - 1023)))) + 1023))) * 4503599627370496)))))) else (none))))))))))
theorem m_ldexp.calls (a0 : Nat) (a1 : Int) (r : Nat) (w : World) (h : m_ldexp.f a0 a1 = some r) :
  Calls Tryz.prog 92 #[.float .f64 a0, .int .i64 a1] w fun e w' => e = .returned (.float .f64 r) ∧ Drawn0 w w' := by
 have H := h
 unfold m_ldexp.f at H
 clear h
 by_cases c3 : (FloatKind.f64.format.order a0 0 == some Ordering.eq) = true
 ·rw [if_pos c3] at H
  have c3b0 : (FloatKind.f64.format.order a0 0 == some Ordering.eq) = true := c3
  (try (have c3b1 : decide (FloatKind.f64.format.order a0 0 = some Ordering.eq) = true := by simpa using c3))
  (try (have c3b2 : (FloatKind.f64.format.order a0 0 == some Ordering.eq) = true := by simpa using c3))
  clear c3
  obtain rfl := Option.some.inj H
  go_enter Tryz.func92, Tryz.ntmps92
  go_wp2
  go_ret
  exact ⟨by first | rfl | (simp; done) | (simp [*]; done), by repeat (first | exact Drawn0.refl _ | apply Drawn0.step)⟩
 rw [if_neg c3] at H
 have c3b0 : (FloatKind.f64.format.order a0 0 == some Ordering.eq) = false := by simpa using c3
 (try (have c3b1 : decide (FloatKind.f64.format.order a0 0 = some Ordering.eq) = false := by simpa using c3))
 (try (have c3b2 : (FloatKind.f64.format.order a0 0 == some Ordering.eq) = false := by simpa using c3))
 (try (have c3b3 : ¬ (FloatKind.f64.format.order a0 0 = some Ordering.eq) := by simpa using c3))
 clear c3
 obtain ⟨t146, A4, H⟩ := bd H
 by_cases c5 : t146 = true
 ·subst c5
  rw [if_pos rfl] at H
  exact absurd H (by simp)
 replace c5 := Bool.eq_false_iff.mpr c5
 subst c5
 rw [if_neg Bool.false_ne_true] at H
 obtain ⟨t147, A6, H⟩ := bd H
 by_cases c7 : t147 = true
 ·subst c7
  rw [if_pos rfl] at H
  exact absurd H (by simp)
 replace c7 := Bool.eq_false_iff.mpr c7
 subst c7
 rw [if_neg Bool.false_ne_true] at H
 obtain ⟨⟨t148, t149⟩, A8, H⟩ := bd H
 (try dsimp only at H)
 by_cases c9 : (wrap64 ((wrap64 (a1 + t149)) + (wrap64 ((Go.bits .and .i64 (wrap64 (((t148 : Nat) : Int) / 4503599627370496)) 2047) - 1023)))) < (-1075)
 ·rw [if_pos c9] at H
  exact absurd H (by simp)
 rw [if_neg c9] at H
 have c9b0 := decide_eq_false c9
 clear c9
 by_cases c10 : (wrap64 ((wrap64 (a1 + t149)) + (wrap64 ((Go.bits .and .i64 (wrap64 (((t148 : Nat) : Int) / 4503599627370496)) 2047) - 1023)))) > 1023
 ·rw [if_pos c10] at H
  exact absurd H (by simp)
 rw [if_neg c10] at H
 have c10b0 : decide (1023 < (wrap64 ((wrap64 (a1 + t149)) + (wrap64 ((Go.bits .and .i64 (wrap64 (((t148 : Nat) : Int) / 4503599627370496)) 2047) - 1023))))) = false := decide_eq_false c10
 clear c10
 by_cases c11 : (wrap64 ((wrap64 (a1 + t149)) + (wrap64 ((Go.bits .and .i64 (wrap64 (((t148 : Nat) : Int) / 4503599627370496)) 2047) - 1023)))) < (-1022)
 ·rw [if_pos c11] at H
  exact absurd H (by simp)
 rw [if_neg c11] at H
 have c11b0 := decide_eq_false c11
 clear c11
 by_cases c12 : okMul 4607182418800017408 (Int.toNat (Go.bits .or .u64 (Go.bits .andNot .u64 ((t148 : Nat) : Int) 9218868437227405312) (IntKind.u64.wrap ((IntKind.u64.wrap (wrap64 ((wrap64 ((wrap64 (a1 + t149)) + (wrap64 ((Go.bits .and .i64 (wrap64 (((t148 : Nat) : Int) / 4503599627370496)) 2047) - 1023)))) + 1023))) * 4503599627370496)))) = true
 case neg =>
  rw [if_neg c12] at H
  exact absurd H (by simp)
 rw [if_pos c12] at H
 have c12b0 := eq_true c12
 have c12b1 := decide_eq_true c12
 obtain rfl := Option.some.inj H
 go_enter Tryz.func92, Tryz.ntmps92
 go_wp2_with (first | (refine gl (some 14) Tryz.func58 #[.float .f64 a0, .int .i64 0] ?_; (with_reducible refine (m_IsInf.calls a0 0 false _ A4.out).mono ?_); rintro e w' ⟨rfl, ⟨nd, rfl⟩⟩; refine ⟨_, rfl, ?_⟩) | (go_at_call 122; (with_reducible refine (m_IsNaN.calls a0 false _ A6.out).mono ?_); rintro e w' ⟨rfl, ⟨nd, rfl⟩⟩) | (refine gl (some 22) Tryz.func123 #[.float .f64 a0] ?_; (with_reducible refine (m_normalize.calls a0 t148 t149 _ A8.out).mono ?_); rintro e w' ⟨rfl, ⟨nd, rfl⟩⟩; refine ⟨_, rfl, ?_⟩))
 go_ret
 exact ⟨by first | rfl | (simp; done) | (simp [*]; done), by repeat (first | exact Drawn0.refl _ | apply Drawn0.step)⟩
def m_Ldexp.f (a0 : Nat) (a1 : Int) : Option (Nat) := (m_ldexp.f a0 a1).bind fun t150 => (some t150)
theorem m_Ldexp.calls (a0 : Nat) (a1 : Int) (r : Nat) (w : World) (h : m_Ldexp.f a0 a1 = some r) :
  Calls Tryz.prog 61 #[.float .f64 a0, .int .i64 a1] w fun e w' => e = .returned (.float .f64 r) ∧ Drawn0 w w' := by
 have H := h
 unfold m_Ldexp.f at H
 clear h
 obtain ⟨t150, A3, H⟩ := bd H
 obtain rfl := Option.some.inj H
 go_enter Tryz.func61, Tryz.ntmps61
 go_wp2_with (first | (refine gl (some 10) Tryz.func92 #[.float .f64 a0, .int .i64 a1] ?_; (with_reducible refine (m_ldexp.calls a0 a1 t150 _ A3.out).mono ?_); rintro e w' ⟨rfl, ⟨nd, rfl⟩⟩; refine ⟨_, rfl, ?_⟩))
 go_ret
 exact ⟨by first | rfl | (simp; done) | (simp [*]; done), by repeat (first | exact Drawn0.refl _ | apply Drawn0.step)⟩
def m_Trunc.f (a0 : Nat) : Option (Nat) := if isNum a0 = true then (some (fTrunc a0)) else (none)
theorem m_Trunc.calls (a0 r : Nat) (w : World) (h : m_Trunc.f a0 = some r) :
  Calls Tryz.prog 79 #[.float .f64 a0] w fun e w' => e = .returned (.float .f64 r) ∧ Drawn0 w w' := by
 have H := h
 unfold m_Trunc.f at H
 clear h
 by_cases c2 : isNum a0 = true
 ·rw [if_pos c2] at H
  have c2b0 := eq_true c2
  have c2b1 := decide_eq_true c2
  clear c2
  obtain rfl := Option.some.inj H
  go_enter Tryz.func79, Tryz.ntmps79
  go_wp2
  go_ret
  exact ⟨by first | rfl | (simp; done) | (simp [*]; done), by repeat (first | exact Drawn0.refl _ | apply Drawn0.step)⟩
 ·rw [if_neg c2] at H
  exact absurd H (by simp)
def e_Whole.f (k : Nat) (a0 : Int) : Option (Bool × List Int × Int) := if (FloatKind.f64.format.order (Int.toNat a0) (Int.toNat a0) != some Ordering.eq) = true then (none) else ((m_IsInf.f (Int.toNat a0) 0).bind fun t334 => (if t334 = true then (none) else ((m_Trunc.f (Int.toNat a0)).bind fun t335 => ((m_Frexp.f t335).bind fun bt336 => ((m_Ldexp.f bt336.1 53).bind fun t338 => (if inI64 t338 = true then ((o_Of.f (f2i t338)).bind fun bt339 => ((o_Of.f 2).bind fun bt344 => (if (wrap64 (bt336.2 - 53)) ≥ 0 then ((o_Of.f (wrap64 (bt336.2 - 53))).bind fun bt349 => ((o_Pow.f k bt344.1 bt344.2 bt349.1 bt349.2).bind fun bt353 => ((o_Mul.f k bt339.1 bt339.2 bt353.1 bt353.2.1).bind fun bt359 => (some (bt359.1, bt359.2.1, 0))))) else (if (wrap64 (bt336.2 - 53)) < (-60) then (none) else ((o_Of.f (wrap64 (-(wrap64 (bt336.2 - 53))))).bind fun bt364 => ((o_Pow.f k bt344.1 bt344.2 bt364.1 bt364.2).bind fun bt368 => ((o_DivMod.f k bt339.1 bt339.2 bt368.1 bt368.2.1).bind fun bt374 => (some (bt374.1, bt374.2.1, 0))))))))) else (none)))))))
theorem e_Whole.mono : ∀ a0 k, LeO (e_Whole.f k a0) (e_Whole.f (k + 1) a0) := by
 intro a0 k
 unfold e_Whole.f
 repeat' first
   | exact o_DivMod.mono _ _ _ _ _
   | exact o_Mul.mono _ _ _ _ _
   | exact o_Pow.mono _ _ _ _ _
   | exact LeO.refl _
   | exact LeO.none _
   | refine LeO.ite ?_ ?_
   | refine LeO.bind ?_ (fun _ => ?_)
def e_Whole.T11 : Bool × List (List Nat × List Nat) := (true, [([], []), ([], []), ([1], [1]), ([0, 2, 2], [0, 2]), ([3], [3]), ([4], [4]), ([4], [4]), ([], []), ([7, 5, 3, 0, 1, 2, 3, 4, 5, 7], [5, 7]), ([6, 8, 0, 1, 2, 3, 4, 5, 6, 7, 8], [6])])
def e_Whole.B11 : List Nat := [0, 0, 2, 7, 15, 31, 31, 0, 191, 511]
theorem e_Whole.tab11 : rtab .any (opsOf Tryz.f78 11) = e_Whole.T11 := by kernel_rfl
theorem e_Whole.bits11 : waitsOk e_Whole.T11.2 e_Whole.B11 = true := by kernel_rfl
def e_Whole.T16 : Bool × List (List Nat × List Nat) := (true, [([], []), ([], []), ([1], [1]), ([2], [2]), ([0, 3, 3], [0, 3]), ([4], [4]), ([5], [5]), ([5], [5]), ([], []), ([8, 6, 4, 0, 1, 2, 3, 4, 5, 6, 8], [6, 8]), ([7, 9, 0, 1, 2, 3, 4, 5, 6, 7, 8, 9], [7])])
def e_Whole.B16 : List Nat := [0, 0, 2, 6, 15, 31, 63, 63, 0, 383, 1023]
theorem e_Whole.tab16 : rtab .any (opsOf Tryz.f78 16) = e_Whole.T16 := by kernel_rfl
theorem e_Whole.bits16 : waitsOk e_Whole.T16.2 e_Whole.B16 = true := by kernel_rfl
theorem e_Whole.calls (k : Nat) (a0 : Int) (r1 : Bool) (r2 : List Int) (r3 : Int) (w : World) (h : e_Whole.f k a0 = some (r1, r2, r3)) :
  Calls Tryz.prog 78 #[.int .u64 a0] w fun e w' => ∃ v1_ : Value, e = .returned (.tuple #[.agg #[.bool r1, v1_], .int .i64 r3]) ∧ Kd.R (Kd.int .u64) 25 w' w.heap.size (fun _ => True) v1_ r2 ∧ Below w.heap.size w w' := by
 have hu24 := Tryz.underlying24
 have HB := Az (Below.refl w.heap.size w)
 have H := h
 unfold e_Whole.f at H
 by_cases c2 : (FloatKind.f64.format.order (Int.toNat a0) (Int.toNat a0) != some Ordering.eq) = true
 ·rw [if_pos c2] at H
  exact absurd H (by simp)
 rw [if_neg c2] at H
 obtain ⟨t334, A3, H⟩ := bd H
 by_cases c4 : t334 = true
 ·subst c4
  rw [if_pos rfl] at H
  exact absurd H (by simp)
 replace c4 := Bool.eq_false_iff.mpr c4
 subst c4
 rw [if_neg Bool.false_ne_true] at H
 obtain ⟨t335, A5, H⟩ := bd H
 obtain ⟨⟨t336, t337⟩, A6, H⟩ := bd H
 obtain ⟨t338, A7, H⟩ := bd H
 by_cases c8 : inI64 t338 = true
 case neg =>
  rw [if_neg c8] at H
  exact absurd H (by simp)
 rw [if_pos c8] at H
 obtain ⟨⟨t339, t340⟩, A9, H⟩ := bd H
 obtain ⟨⟨t344, t345⟩, A10, H⟩ := bd H
 by_cases c11 : (wrap64 (t337 - 53)) ≥ 0
 ·rw [if_pos c11] at H
  obtain ⟨⟨t349, t350⟩, A12, H⟩ := bd H
  obtain ⟨⟨t353, t354, t357⟩, A13, H⟩ := bd H
  obtain ⟨⟨t359, t360, t363⟩, A14, H⟩ := bd H
  simp only [Option.some.injEq, Prod.mk.injEq] at H
  obtain ⟨rfl, rfl, rfl⟩ := H
  go_enter Tryz.func78, Tryz.ntmps78
  try go_wp2_with (first | (refine be 2 #[.bool false, .slice none 0 0] 24 ?_; intro gb333 hg w15 hbox hb; have BK333 := Az (hbox); have GW333 := gw (bl HB) hg; replace HB := bs HB hb; clear hb hbox hg) | (refine gl (some 25) Tryz.func58 #[.float .f64 (Int.toNat a0), .int .i64 0] ?_; (with_reducible refine (m_IsInf.calls (Int.toNat a0) 0 false _ A3.out).mono ?_); rintro e w15 ⟨rfl, hb⟩; replace hb := dr hb; refine ⟨_, rfl, ?_⟩; replace BK333 := kb BK333 hb; replace HB := bs HB hb; clear hb; have hz333_ := bz BK333) | (refine gl (some 29) Tryz.func79 #[.float .f64 (Int.toNat a0)] ?_; (with_reducible refine (m_Trunc.calls (Int.toNat a0) t335 _ A5.out).mono ?_); rintro e w15 ⟨rfl, hb⟩; replace hb := dr hb; refine ⟨_, rfl, ?_⟩; replace BK333 := kb BK333 hb; replace HB := bs HB hb; clear hb; have hz333_ := bz BK333) | (refine gl (some 30) Tryz.func59 #[.float .f64 t335] ?_; (with_reducible refine (m_Frexp.calls t335 t336 t337 _ A6.out).mono ?_); rintro e w15 ⟨rfl, hb⟩; replace hb := dr hb; refine ⟨_, rfl, ?_⟩; replace BK333 := kb BK333 hb; replace HB := bs HB hb; clear hb; have hz333_ := bz BK333) | (refine gl (some 34) Tryz.func61 #[.float .f64 t336, .int .i64 53] ?_; (with_reducible refine (m_Ldexp.calls t336 53 t338 _ A7.out).mono ?_); rintro e w15 ⟨rfl, hb⟩; replace hb := dr hb; refine ⟨_, rfl, ?_⟩; replace BK333 := kb BK333 hb; replace HB := bs HB hb; clear hb; have hz333_ := bz BK333) | (refine gl (some 36) Tryz.func65 #[.int .i64 (f2i t338)] ?_; (with_reducible refine (o_Of.calls (f2i t338) t339 t340 _ A9.out).mono ?_); rintro e w16 ⟨v341, rfl, ho0, hb⟩; refine ⟨_, rfl, ?_⟩; have HO342 := Az (Kd.R_lower ho0 (below_size (bls HB))); replace BK333 := kb BK333 hb; replace HB := bs HB hb) | (refine be 7 #[.bool false, .slice none 0 0] 24 ?_; intro gb343 hg w17 hbox hb; replace HO342 := Az (Kd.R_below (rk HO342) hb); have BK343 := Az (hbox); have GW343 := gw (bls HB) hg; replace HB := bs HB hb; have NB333_343 := nl BK333 hg; have NB343_333 := ng BK333 hg; replace BK333 := kb BK333 hb; clear hb hbox hg; have hnb18 := NB343_333.out; have hnc18 := NB333_343.out; have hz19_1 := bz BK343; obtain ⟨Ao20, co20, eo20⟩ := Kd.R_slice HO342.out; subst eo20) | (refine gl (some 37) Tryz.func65 #[.int .i64 2] ?_; (with_reducible refine (o_Of.calls 2 t344 t345 _ A10.out).mono ?_); rintro e w21 ⟨v346, rfl, ho0, hb⟩; refine ⟨_, rfl, ?_⟩; have HO347 := Az (Kd.R_lower (Kd.R_new' ho0 (Kd.R_lt (rt ((Kd.R_mono (Kd.R_far (p := ⟨gb343, 1, none⟩) (Kd.R_far (p := ⟨gb343, 0, none⟩) (Kd.R_types HO342.out BK343.out (by decide)) (fun _ hk => hk.2) (.bool t339)) (fun _ hk => hk.2) (.slice Ao20 t340.length co20)) (fun _ h_ => h_.1)))))) (below_size (bls HB))); replace HO342 := Az (Kd.R_elder' (rt ((Kd.R_mono (Kd.R_far (p := ⟨gb343, 1, none⟩) (Kd.R_far (p := ⟨gb343, 0, none⟩) (Kd.R_types HO342.out BK343.out (by decide)) (fun _ hk => hk.2) (.bool t339)) (fun _ hk => hk.2) (.slice Ao20 t340.length co20)) (fun _ h_ => h_.1)))) (Kd.R_base ho0) hb); replace BK333 := Az (blk_below (g := gb333) (o := .cells #[.bool false, .slice none 0 0] 24 (0, 0)) (by refine blk_far ?_ NB333_343.out _; refine blk_far ?_ NB333_343.out _; exact BK333.out) hb); replace BK343 := Az (blk_below (g := gb343) (o := .cells #[.bool t339, .slice Ao20 t340.length co20] 24 (0, 0)) (by refine blk_put (cs := #[.bool t339, .slice none 0 0]) ?_ 1 _ rfl; refine blk_put (cs := #[.bool false, .slice none 0 0]) ?_ 0 _ rfl; exact BK343.out) hb); replace HB := bs HB hb) | (refine be 8 #[.bool false, .slice none 0 0] 24 ?_; intro gb348 hg w22 hbox hb; replace HO342 := Az (Kd.R_below (rk HO342) hb); replace HO347 := Az (Kd.R_below (rk HO347) hb); have BK348 := Az (hbox); have GW348 := gw (bls HB) hg; replace HB := bs HB hb; have NB333_348 := nl BK333 hg; have NB348_333 := ng BK333 hg; replace BK333 := kb BK333 hb; have NB343_348 := nl BK343 hg; have NB348_343 := ng BK343 hg; replace BK343 := kb BK343 hb; clear hb hbox hg; have hnb23 := NB348_333.out; have hnc23 := NB333_348.out; have hnb24 := NB348_343.out; have hnc24 := NB343_348.out; have hz25_1 := bz BK348; obtain ⟨Ao26, co26, eo26⟩ := Kd.R_slice HO347.out; subst eo26))
  have n_ : (fun W_ : World => Aside0 (Kd.R (Kd.int .u64) 25 W_ w.heap.size (fun k_ => some k_ ≠ (.slice Ao26 t345.length co26 : Value).ownBlock) (.slice Ao20 t340.length co20) t340) ∧ Aside0 (Kd.R (Kd.int .u64) 25 W_ w.heap.size (fun k_ => some k_ ≠ (.slice Ao20 t340.length co20 : Value).ownBlock) (.slice Ao26 t345.length co26) t345) ∧ Aside0 (W_.heap[gb333]? = some (.cells #[.bool false, .slice none 0 0] 24 (0, 0))) ∧ Aside0 (W_.heap[gb343]? = some (.cells #[.bool t339, .slice Ao20 t340.length co20] 24 (0, 0))) ∧ Aside0 (W_.heap[gb348]? = some (.cells #[.bool t344, .slice Ao26 t345.length co26] 24 (0, 0))) ∧ Aside0 (Below w.heap.size w W_)) ((w22.setCell ⟨gb348, 0, none⟩ (.bool t344)).setCell ⟨gb348, 1, none⟩ (.slice Ao26 t345.length co26)) := ⟨⟨rt (Kd.R_mono (Kd.R_far (p := ⟨gb348, 1, none⟩) (Kd.R_far (p := ⟨gb348, 0, none⟩) (Kd.R_types HO342.out BK348.out (by decide)) (fun _ hk => hk.2) (.bool t344)) (fun _ hk => hk.2) (.slice Ao26 t345.length co26)) (fun _ hk => hk.1.2))⟩, ⟨rt (Kd.R_mono (Kd.R_far (p := ⟨gb348, 1, none⟩) (Kd.R_far (p := ⟨gb348, 0, none⟩) (Kd.R_types HO347.out BK348.out (by decide)) (fun _ hk => hk.2) (.bool t344)) (fun _ hk => hk.2) (.slice Ao26 t345.length co26)) (fun _ hk => hk.1.2))⟩, ⟨by refine blk_far ?_ NB333_348.out _; refine blk_far ?_ NB333_348.out _; exact BK333.out⟩, ⟨by refine blk_far ?_ NB343_348.out _; refine blk_far ?_ NB343_348.out _; exact BK343.out⟩, ⟨by refine blk_put (cs := #[.bool t344, .slice none 0 0]) ?_ 1 _ rfl; refine blk_put (cs := #[.bool false, .slice none 0 0]) ?_ 0 _ rfl; exact BK348.out⟩, ⟨bls HB⟩⟩
  obtain ⟨n0_, n1_, n2_, n3_, n4_, n5_⟩ := n_
  generalize ((w22.setCell ⟨gb348, 0, none⟩ (.bool t344)).setCell ⟨gb348, 1, none⟩ (.slice Ao26 t345.length co26)) = w27 at n0_ n1_ n2_ n3_ n4_ n5_ ⊢
  have HO342 := n0_
  have HO347 := n1_
  have BK333 := n2_
  have BK343 := n3_
  have BK348 := n4_
  have HB := n5_
  replace HO342 := Az (Kd.R_drew HO342.out)
  replace HO347 := Az (Kd.R_drew HO347.out)
  replace BK333 := Az (blk_drew BK333.out)
  replace BK343 := Az (blk_drew BK343.out)
  replace BK348 := Az (blk_drew BK348.out)
  replace HB := Az (below_drew1 HB.out)
  refine start_ (n := 10) (S := fun w' => w'.cell? ⟨gb348, 0, none⟩ = some (.bool t344) ∧ w'.cell? ⟨gb348, 1, none⟩ = some (.slice Ao26 t345.length co26)) (ds := []) (bm 10 0) (by kernel_rfl) rfl rfl ⟨(blk_cell BK348.out 0).trans rfl, (blk_cell BK348.out 1).trans rfl⟩ (fun hHeld => ?_); refine with_tabW e_Whole.tab11 e_Whole.bits11 (fun HT_ HW_ => ?_)
  generalize w27.drew = w28 at HO342 HO347 BK333 BK343 BK348 HB hHeld ⊢
  refine pu 1 (some 44) (bm 10 2) HT_.out ?_
  refine tk 0 (some 43) (bm 10 3) HT_.out HW_.out hHeld ?_
  refine join_ (σ := Value × Value × Nat) 2 (bm 10 255) (fun s_ => [(45, .agg #[.bool t349, s_.1]), (46, .tuple #[.agg #[.bool t353, s_.2.1], .int .i64 t357]), (9, .pointer (some ⟨s_.2.2, 0, none⟩)), (42, .tuple #[.agg #[.bool t353, s_.2.1], .int .i64 t357]), (47, .agg #[.bool t353, s_.2.1]), (48, .int .i64 t357)]) (fun s_ w' => (w'.cell? ⟨gb348, 0, none⟩ = some (.bool t344) ∧ w'.cell? ⟨gb348, 1, none⟩ = some (.slice Ao26 t345.length co26)) ∧ (Kd.R (Kd.int .u64) 25 w' w.heap.size (fun k_ => some k_ ≠ (.slice Ao26 t345.length co26 : Value).ownBlock ∧ some k_ ≠ (s_.1 : Value).ownBlock ∧ some k_ ≠ (s_.2.1 : Value).ownBlock) (.slice Ao20 t340.length co20) t340) ∧ (Kd.R (Kd.int .u64) 25 w' w.heap.size (fun k_ => some k_ ≠ (.slice Ao20 t340.length co20 : Value).ownBlock ∧ some k_ ≠ (s_.1 : Value).ownBlock ∧ some k_ ≠ (s_.2.1 : Value).ownBlock) (.slice Ao26 t345.length co26) t345) ∧ (Kd.R (Kd.int .u64) 25 w' w.heap.size (fun k_ => some k_ ≠ (.slice Ao20 t340.length co20 : Value).ownBlock ∧ some k_ ≠ (.slice Ao26 t345.length co26 : Value).ownBlock ∧ some k_ ≠ (s_.2.1 : Value).ownBlock) s_.1 t350) ∧ (Kd.R (Kd.int .u64) 25 w' w.heap.size (fun k_ => some k_ ≠ (.slice Ao20 t340.length co20 : Value).ownBlock ∧ some k_ ≠ (.slice Ao26 t345.length co26 : Value).ownBlock ∧ some k_ ≠ (s_.1 : Value).ownBlock) s_.2.1 t354) ∧ (w'.heap[gb333]? = some (.cells #[.bool false, .slice none 0 0] 24 (0, 0))) ∧ (w'.heap[gb343]? = some (.cells #[.bool t339, .slice Ao20 t340.length co20] 24 (0, 0))) ∧ (w'.heap[gb348]? = some (.cells #[.bool t344, .slice Ao26 t345.length co26] 24 (0, 0))) ∧ (w'.heap[s_.2.2]? = some (.cells #[.bool false, .slice none 0 0] 24 (0, 0))) ∧ (w.heap.size ≤ s_.2.2) ∧ (w.heap.size ≤ s_.2.2) ∧ (gb333 ≠ s_.2.2) ∧ (s_.2.2 ≠ gb333) ∧ (gb343 ≠ s_.2.2) ∧ (s_.2.2 ≠ gb343) ∧ (gb348 ≠ s_.2.2) ∧ (s_.2.2 ≠ gb348) ∧ (Below w.heap.size w w')) ?_ ?_
  rotate_left
  ·intro hCont
   refine two_ (i := 2) (j := 7) (Ni := some 45) (Nj := some 9) (bm 10 7) (bm 10 131) rfl rfl rfl rfl (two_of HT_.out (by kernel_rfl)) (by decide) (by decide) (fun K hK => ?_) (fun K hK => ?_)
   ·skip
    refine gs Tryz.func65 #[.int .i64 (wrap64 (t337 - 53))] ?_
    with_reducible refine (o_Of.calls (wrap64 (t337 - 53)) t349 t350 _ A12.out).mono ?_
    rintro e w29 ⟨v351, rfl, ho0, hb⟩
    refine ⟨_, rfl, ?_⟩
    have HO352 := Az (Kd.R_lower (Kd.R_new' (Kd.R_new' ho0 (Kd.R_lt (rk HO342))) (Kd.R_lt (rk HO347))) (below_size (bls HB)))
    replace HO342 := Az (Kd.R_elder' (rk HO342) (Kd.R_base ho0) hb)
    replace HO347 := Az (Kd.R_elder' (rk HO347) (Kd.R_base ho0) hb)
    replace BK333 := kb BK333 hb
    replace BK343 := kb BK343 hb
    replace BK348 := kb BK348 hb
    replace HB := bs HB hb
    obtain ⟨Ao30, co30, eo30⟩ := Kd.R_slice HO352.out
    (first | subst eo30 | (injection eo30 with f1_ f2_ f3_; have f4_ := f1_.symm; have f5_ := f3_.symm; clear f1_ f2_ f3_; subst f4_; subst f5_))
    refine hK.out _ _ hd (fun hHeld => ?_)
    refine nm ?_
    refine two_ (i := 3) (j := 7) (Ni := some 46) (Nj := some 9) (bm 10 15) (bm 10 135) rfl rfl rfl rfl (two_of HT_.out (by kernel_rfl)) (by decide) (by decide) (fun K hK => ?_) (fun K hK => ?_)
    ·skip
     refine gs Tryz.func98 #[.agg #[.bool t344, .slice Ao26 t345.length co26], .agg #[.bool t349, .slice Ao30 t350.length co30]] ?_
     with_reducible refine (o_Pow.calls k t344 _ _ t345 t349 _ _ t350 t353 t354 t357 _ ?side1 (Kd.R_reads' HO347.out).2.1 ?side3 (Kd.R_reads' HO352.out).2.1 A13.out).mono ?_
     (case side1 => exact (Kd.R_reads' HO347.out).2.2)
     (case side3 => exact (Kd.R_reads' HO352.out).2.2)
     rintro e w31 ⟨v355, rfl, ho0, hb⟩
     refine ⟨_, rfl, ?_⟩
     have HO356 := Az (Kd.R_lower (Kd.R_new' (Kd.R_new' (Kd.R_new' ho0 (Kd.R_lt (rk HO342))) (Kd.R_lt (rk HO347))) (Kd.R_lt (rk HO352))) (below_size (bls HB)))
     replace HO342 := Az (Kd.R_elder' (rk HO342) (Kd.R_base ho0) hb)
     replace HO347 := Az (Kd.R_elder' (rk HO347) (Kd.R_base ho0) hb)
     replace HO352 := Az (Kd.R_elder' (rk HO352) (Kd.R_base ho0) hb)
     replace BK333 := kb BK333 hb
     replace BK343 := kb BK343 hb
     replace BK348 := kb BK348 hb
     replace HB := bs HB hb
     refine hK.out _ _ hd (fun hHeld => ?_)
     refine nm ?_
     refine pu 4 (some 42) (bm 10 31) HT_.out ?_
     refine pu 5 (some 47) (bm 10 63) HT_.out ?_
     refine pu 6 (some 48) (bm 10 127) HT_.out ?_
     refine on 7 (some 9) (bm 10 255) HT_.out (fun K hK => ?_)
     refine box_step ?hg (N := 9) ?hd (cs := #[.bool false, .slice none 0 0]) (t := 24) ?hr ?_; (case hd => rfl); (case hg => rfl); (case hr => first | (go_simp; done) | (go_simp; rfl))
     intro gb358 hg w32 hbox hb
     replace HO342 := Az (Kd.R_below (rk HO342) hb)
     replace HO347 := Az (Kd.R_below (rk HO347) hb)
     replace HO352 := Az (Kd.R_below (rk HO352) hb)
     replace HO356 := Az (Kd.R_below (rk HO356) hb)
     have BK358 := Az (hbox)
     have GW358 := gw (bls HB) hg
     have GE358 := gw (bls HB) hg
     replace HB := bs HB hb
     have NB333_358 := nl BK333 hg
     have NB358_333 := ng BK333 hg
     replace BK333 := kb BK333 hb
     have NB343_358 := nl BK343 hg
     have NB358_343 := ng BK343 hg
     replace BK343 := kb BK343 hb
     have NB348_358 := nl BK348 hg
     have NB358_348 := ng BK348 hg
     replace BK348 := kb BK348 hb
     refine hK.out _ _ hd (fun hHeld => ?_)
     refine nm ?_
     exact norm_ (by simp only [putAll, Act.put, List.setIfInBounds_toArray, List.set_cons_zero, List.set_cons_succ]) (hCont (.slice Ao30 t350.length co30, v355, gb358) _ ⟨hHeld, (rt (Kd.R_mono HO342.out (fun _ hk => ⟨hk.1.1, ⟨hk.1.2, hk.2⟩⟩))), (rt (Kd.R_mono HO347.out (fun _ hk => ⟨hk.1.1, ⟨hk.1.2, hk.2⟩⟩))), (rt (Kd.R_mono HO352.out (fun _ hk => ⟨hk.1.1.2, ⟨hk.1.2, hk.2⟩⟩))), (rt (Kd.R_mono HO356.out (fun _ hk => ⟨hk.1.1.2, ⟨hk.1.2, hk.2⟩⟩))), (bk BK333), (bk BK343), (bk BK348), (bk BK358), GW358.out, GE358.out, NB333_358.out, NB358_333.out, NB343_358.out, NB358_343.out, NB348_358.out, NB358_348.out, (bls HB)⟩)
    ·skip
     refine box_step ?hg (N := 9) ?hd (cs := #[.bool false, .slice none 0 0]) (t := 24) ?hr ?_; (case hd => rfl); (case hg => rfl); (case hr => first | (go_simp; done) | (go_simp; rfl))
     intro gb358 hg w30 hbox hb
     replace HO342 := Az (Kd.R_below (rk HO342) hb)
     replace HO347 := Az (Kd.R_below (rk HO347) hb)
     replace HO352 := Az (Kd.R_below (rk HO352) hb)
     have BK358 := Az (hbox)
     have GW358 := gw (bls HB) hg
     have GE358 := gw (bls HB) hg
     replace HB := bs HB hb
     have NB333_358 := nl BK333 hg
     have NB358_333 := ng BK333 hg
     replace BK333 := kb BK333 hb
     have NB343_358 := nl BK343 hg
     have NB358_343 := ng BK343 hg
     replace BK343 := kb BK343 hb
     have NB348_358 := nl BK348 hg
     have NB358_348 := ng BK348 hg
     replace BK348 := kb BK348 hb
     obtain ⟨Ao31, co31, eo31⟩ := Kd.R_slice HO352.out
     (first | subst eo31 | (injection eo31 with f1_ f2_ f3_; have f4_ := f1_.symm; have f5_ := f3_.symm; clear f1_ f2_ f3_; subst f4_; subst f5_))
     refine hK.out _ _ hd (fun hHeld => ?_)
     refine nm ?_
     refine on 3 (some 46) (bm 10 143) HT_.out (fun K hK => ?_)
     refine gs Tryz.func98 #[.agg #[.bool t344, .slice Ao26 t345.length co26], .agg #[.bool t349, .slice Ao31 t350.length co31]] ?_
     with_reducible refine (o_Pow.calls k t344 _ _ t345 t349 _ _ t350 t353 t354 t357 _ ?side1 (Kd.R_reads' HO347.out).2.1 ?side3 (Kd.R_reads' HO352.out).2.1 A13.out).mono ?_
     (case side1 => exact (Kd.R_reads' HO347.out).2.2)
     (case side3 => exact (Kd.R_reads' HO352.out).2.2)
     rintro e w32 ⟨v355, rfl, ho0, hb⟩
     refine ⟨_, rfl, ?_⟩
     have HO356 := Az (Kd.R_lower (Kd.R_new' (Kd.R_new' (Kd.R_new' ho0 (Kd.R_lt (rk HO342))) (Kd.R_lt (rk HO347))) (Kd.R_lt (rk HO352))) (below_size (bls HB)))
     replace HO342 := Az (Kd.R_elder' (rk HO342) (Kd.R_base ho0) hb)
     replace HO347 := Az (Kd.R_elder' (rk HO347) (Kd.R_base ho0) hb)
     replace HO352 := Az (Kd.R_elder' (rk HO352) (Kd.R_base ho0) hb)
     replace BK333 := kb BK333 hb
     replace BK343 := kb BK343 hb
     replace BK348 := kb BK348 hb
     replace BK358 := kb BK358 hb
     replace HB := bs HB hb
     refine hK.out _ _ hd (fun hHeld => ?_)
     refine nm ?_
     refine pu 4 (some 42) (bm 10 159) HT_.out ?_
     refine pu 5 (some 47) (bm 10 191) HT_.out ?_
     refine pu 6 (some 48) (bm 10 255) HT_.out ?_
     exact norm_ (by simp only [putAll, Act.put, List.setIfInBounds_toArray, List.set_cons_zero, List.set_cons_succ]) (hCont (.slice Ao31 t350.length co31, v355, gb358) _ ⟨hHeld, (rt (Kd.R_mono HO342.out (fun _ hk => ⟨hk.1.1, ⟨hk.1.2, hk.2⟩⟩))), (rt (Kd.R_mono HO347.out (fun _ hk => ⟨hk.1.1, ⟨hk.1.2, hk.2⟩⟩))), (rt (Kd.R_mono HO352.out (fun _ hk => ⟨hk.1.1.2, ⟨hk.1.2, hk.2⟩⟩))), (rt (Kd.R_mono HO356.out (fun _ hk => ⟨hk.1.1.2, ⟨hk.1.2, hk.2⟩⟩))), (bk BK333), (bk BK343), (bk BK348), (bk BK358), GW358.out, GE358.out, NB333_358.out, NB358_333.out, NB343_358.out, NB358_343.out, NB348_358.out, NB358_348.out, (bls HB)⟩)
   ·skip
    refine box_step ?hg (N := 9) ?hd (cs := #[.bool false, .slice none 0 0]) (t := 24) ?hr ?_; (case hd => rfl); (case hg => rfl); (case hr => first | (go_simp; done) | (go_simp; rfl))
    intro gb358 hg w29 hbox hb
    replace HO342 := Az (Kd.R_below (rk HO342) hb)
    replace HO347 := Az (Kd.R_below (rk HO347) hb)
    have BK358 := Az (hbox)
    have GW358 := gw (bls HB) hg
    have GE358 := gw (bls HB) hg
    replace HB := bs HB hb
    have NB333_358 := nl BK333 hg
    have NB358_333 := ng BK333 hg
    replace BK333 := kb BK333 hb
    have NB343_358 := nl BK343 hg
    have NB358_343 := ng BK343 hg
    replace BK343 := kb BK343 hb
    have NB348_358 := nl BK348 hg
    have NB358_348 := ng BK348 hg
    replace BK348 := kb BK348 hb
    refine hK.out _ _ hd (fun hHeld => ?_)
    refine nm ?_
    refine on 2 (some 45) (bm 10 135) HT_.out (fun K hK => ?_)
    refine gs Tryz.func65 #[.int .i64 (wrap64 (t337 - 53))] ?_
    with_reducible refine (o_Of.calls (wrap64 (t337 - 53)) t349 t350 _ A12.out).mono ?_
    rintro e w30 ⟨v351, rfl, ho0, hb⟩
    refine ⟨_, rfl, ?_⟩
    have HO352 := Az (Kd.R_lower (Kd.R_new' (Kd.R_new' ho0 (Kd.R_lt (rk HO342))) (Kd.R_lt (rk HO347))) (below_size (bls HB)))
    replace HO342 := Az (Kd.R_elder' (rk HO342) (Kd.R_base ho0) hb)
    replace HO347 := Az (Kd.R_elder' (rk HO347) (Kd.R_base ho0) hb)
    replace BK333 := kb BK333 hb
    replace BK343 := kb BK343 hb
    replace BK348 := kb BK348 hb
    replace BK358 := kb BK358 hb
    replace HB := bs HB hb
    obtain ⟨Ao31, co31, eo31⟩ := Kd.R_slice HO352.out
    (first | subst eo31 | (injection eo31 with f1_ f2_ f3_; have f4_ := f1_.symm; have f5_ := f3_.symm; clear f1_ f2_ f3_; subst f4_; subst f5_))
    refine hK.out _ _ hd (fun hHeld => ?_)
    refine nm ?_
    refine on 3 (some 46) (bm 10 143) HT_.out (fun K hK => ?_)
    refine gs Tryz.func98 #[.agg #[.bool t344, .slice Ao26 t345.length co26], .agg #[.bool t349, .slice Ao31 t350.length co31]] ?_
    with_reducible refine (o_Pow.calls k t344 _ _ t345 t349 _ _ t350 t353 t354 t357 _ ?side1 (Kd.R_reads' HO347.out).2.1 ?side3 (Kd.R_reads' HO352.out).2.1 A13.out).mono ?_
    (case side1 => exact (Kd.R_reads' HO347.out).2.2)
    (case side3 => exact (Kd.R_reads' HO352.out).2.2)
    rintro e w32 ⟨v355, rfl, ho0, hb⟩
    refine ⟨_, rfl, ?_⟩
    have HO356 := Az (Kd.R_lower (Kd.R_new' (Kd.R_new' (Kd.R_new' ho0 (Kd.R_lt (rk HO342))) (Kd.R_lt (rk HO347))) (Kd.R_lt (rk HO352))) (below_size (bls HB)))
    replace HO342 := Az (Kd.R_elder' (rk HO342) (Kd.R_base ho0) hb)
    replace HO347 := Az (Kd.R_elder' (rk HO347) (Kd.R_base ho0) hb)
    replace HO352 := Az (Kd.R_elder' (rk HO352) (Kd.R_base ho0) hb)
    replace BK333 := kb BK333 hb
    replace BK343 := kb BK343 hb
    replace BK348 := kb BK348 hb
    replace BK358 := kb BK358 hb
    replace HB := bs HB hb
    refine hK.out _ _ hd (fun hHeld => ?_)
    refine nm ?_
    refine pu 4 (some 42) (bm 10 159) HT_.out ?_
    refine pu 5 (some 47) (bm 10 191) HT_.out ?_
    refine pu 6 (some 48) (bm 10 255) HT_.out ?_
    exact norm_ (by simp only [putAll, Act.put, List.setIfInBounds_toArray, List.set_cons_zero, List.set_cons_succ]) (hCont (.slice Ao31 t350.length co31, v355, gb358) _ ⟨hHeld, (rt (Kd.R_mono HO342.out (fun _ hk => ⟨hk.1.1, ⟨hk.1.2, hk.2⟩⟩))), (rt (Kd.R_mono HO347.out (fun _ hk => ⟨hk.1.1, ⟨hk.1.2, hk.2⟩⟩))), (rt (Kd.R_mono HO352.out (fun _ hk => ⟨hk.1.1.2, ⟨hk.1.2, hk.2⟩⟩))), (rt (Kd.R_mono HO356.out (fun _ hk => ⟨hk.1.1.2, ⟨hk.1.2, hk.2⟩⟩))), (bk BK333), (bk BK343), (bk BK348), (bk BK358), GW358.out, GE358.out, NB333_358.out, NB358_333.out, NB343_358.out, NB358_343.out, NB348_358.out, NB358_348.out, (bls HB)⟩)
  rintro ⟨v351, v355, gb358⟩ w33 ⟨hS_, h0_, h1_, h2_, h3_, h4_, h5_, h6_, h7_, h8_, h9_, h10_, h11_, h12_, h13_, h14_, h15_, h16_⟩
  dsimp only at h0_ h1_ h2_ h3_ h4_ h5_ h6_ h7_ h8_ h9_ h10_ h11_ h12_ h13_ h14_ h15_ h16_
  replace HO342 := Az h0_
  replace HO347 := Az h1_
  have HO352 := Az h2_
  have HO356 := Az h3_
  replace BK333 := Az h4_
  replace BK343 := Az h5_
  replace BK348 := Az h6_
  have BK358 := Az h7_
  have GW358 := Az h8_
  have GE358 := Az h9_
  have NB333_358 := Az h10_
  have NB358_333 := Az h11_
  have NB343_358 := Az h12_
  have NB358_343 := Az h13_
  have NB348_358 := Az h14_
  have NB358_348 := Az h15_
  replace HB := Az h16_
  have hHeld : w33.cell? ⟨gb348, 0, none⟩ = some (.bool t344) ∧ w33.cell? ⟨gb348, 1, none⟩ = some (.slice Ao26 t345.length co26) := hS_
  obtain ⟨Ao35, co35, eo35⟩ := Kd.R_slice HO356.out
  (first | subst eo35 | (injection eo35 with f1_ f2_ f3_; have f4_ := f1_.symm; have f5_ := f3_.symm; clear f1_ f2_ f3_; subst f4_; subst f5_))
  refine norm_ (a' := ?_) ?_ ?_
  rotate_left
  ·simp only [putAll, Act.put, List.setIfInBounds_toArray, List.set_cons_zero, List.set_cons_succ]
   rfl
  refine on 8 (none) (bm 10 511) HT_.out (fun K hK => ?_)
  have hs34 : w33.cell? ⟨gb358, 0, none⟩ = some (.bool false) := (blk_cell BK358.out 0).trans rfl
  have hfs34 := blk_frozen BK358.out 0
  have hns34_0 := NB333_358.out
  have hns34_1 := NB343_358.out
  have hns34_2 := NB348_358.out
  have hms34_0 := NB358_333.out
  have hms34_1 := NB358_343.out
  have hms34_2 := NB358_348.out
  have hs36 : w33.cell? ⟨gb358, 1, none⟩ = some (.slice none 0 0) := (blk_cell BK358.out 1).trans rfl
  have hfs36 := blk_frozen BK358.out 1
  have hns36_0 := NB333_358.out
  have hns36_1 := NB343_358.out
  have hns36_2 := NB348_358.out
  have hms36_0 := NB358_333.out
  have hms36_1 := NB358_343.out
  have hms36_2 := NB358_348.out
  refine skip_ (w1 := ?_) (by rfl) rfl ?_ ?_
  rotate_left
  ·go_simp
   rfl
  refine hK.out _ _ ⟨((cell_far (p := ⟨gb358, _, none⟩) NB348_358.out _).trans (((cell_far (p := ⟨gb358, _, none⟩) NB348_358.out _).trans (hHeld.1)))), ((cell_far (p := ⟨gb358, _, none⟩) NB348_358.out _).trans (((cell_far (p := ⟨gb358, _, none⟩) NB348_358.out _).trans (hHeld.2))))⟩ (fun hHeld => ?_)
  refine pu 9 (some 10) (bm 10 1023) HT_.out ?_
  refine done_ (done_of HT_.out (by kernel_rfl)) ?_
  have hnb37 := NB343_358.out
  have hnc37 := NB358_343.out
  have hz38_1 := bz BK343
  have hnb39 := NB358_333.out
  have hnc39 := NB333_358.out
  have hnb40 := NB358_348.out
  have hnc40 := NB348_358.out
  have hz41_1 := bz BK358
  try go_wp2_with (first | (refine gl (some 52) Tryz.func97 #[.agg #[.bool t339, .slice Ao20 t340.length co20], .agg #[.bool t353, .slice Ao35 t354.length co35]] ?_; (with_reducible refine (o_Mul.calls k t339 _ _ t340 t353 _ _ t354 t359 t360 t363 _ ?side1 ?side2 ?side3 ?side4 A14.out).mono ?_); (case side1 => refine (Kd.R_reads' (e := 25) (base := w.heap.size) (ok := fun k_ => (some k_ ≠ (.slice Ao26 t345.length co26 : Value).ownBlock ∧ (some k_ ≠ (v351 : Value).ownBlock ∧ some k_ ≠ (.slice Ao35 t354.length co35 : Value).ownBlock))) (n := t340.length) (c := co20) ?_).2.2; exact (rt ((Kd.R_mono (Kd.R_far (p := ⟨gb358, 1, none⟩) (Kd.R_far (p := ⟨gb358, 0, none⟩) (Kd.R_types HO342.out BK358.out (by decide)) (fun _ hk => hk.2) (.bool t353)) (fun _ hk => hk.2) (.slice Ao35 t354.length co35)) (fun _ h_ => h_.1))))); (case side2 => exact (Kd.R_reads' HO342.out).2.1); (case side3 => refine (Kd.R_reads' (e := 25) (base := w.heap.size) (ok := fun k_ => (some k_ ≠ (.slice Ao20 t340.length co20 : Value).ownBlock ∧ (some k_ ≠ (.slice Ao26 t345.length co26 : Value).ownBlock ∧ some k_ ≠ (v351 : Value).ownBlock))) (n := t354.length) (c := co35) ?_).2.2; exact (rt ((Kd.R_mono (Kd.R_far (p := ⟨gb358, 1, none⟩) (Kd.R_far (p := ⟨gb358, 0, none⟩) (Kd.R_types HO356.out BK358.out (by decide)) (fun _ hk => hk.2) (.bool t353)) (fun _ hk => hk.2) (.slice Ao35 t354.length co35)) (fun _ h_ => h_.1))))); (case side4 => exact (Kd.R_reads' HO356.out).2.1); rintro e w42 ⟨v361, rfl, ho0, hb⟩; refine ⟨_, rfl, ?_⟩; have HO362 := Az (Kd.R_lower (Kd.R_new' (Kd.R_new' (Kd.R_new' (Kd.R_new' ho0 (Kd.R_lt (rt ((Kd.R_mono (Kd.R_far (p := ⟨gb358, 1, none⟩) (Kd.R_far (p := ⟨gb358, 0, none⟩) (Kd.R_types HO342.out BK358.out (by decide)) (fun _ hk => hk.2) (.bool t353)) (fun _ hk => hk.2) (.slice Ao35 t354.length co35)) (fun _ h_ => h_.1)))))) (Kd.R_lt (rt ((Kd.R_mono (Kd.R_far (p := ⟨gb358, 1, none⟩) (Kd.R_far (p := ⟨gb358, 0, none⟩) (Kd.R_types HO347.out BK358.out (by decide)) (fun _ hk => hk.2) (.bool t353)) (fun _ hk => hk.2) (.slice Ao35 t354.length co35)) (fun _ h_ => h_.1)))))) (Kd.R_lt (rt ((Kd.R_mono (Kd.R_far (p := ⟨gb358, 1, none⟩) (Kd.R_far (p := ⟨gb358, 0, none⟩) (Kd.R_types HO352.out BK358.out (by decide)) (fun _ hk => hk.2) (.bool t353)) (fun _ hk => hk.2) (.slice Ao35 t354.length co35)) (fun _ h_ => h_.1)))))) (Kd.R_lt (rt ((Kd.R_mono (Kd.R_far (p := ⟨gb358, 1, none⟩) (Kd.R_far (p := ⟨gb358, 0, none⟩) (Kd.R_types HO356.out BK358.out (by decide)) (fun _ hk => hk.2) (.bool t353)) (fun _ hk => hk.2) (.slice Ao35 t354.length co35)) (fun _ h_ => h_.1)))))) (below_size (bls HB))); replace HO342 := Az (Kd.R_elder' (rt ((Kd.R_mono (Kd.R_far (p := ⟨gb358, 1, none⟩) (Kd.R_far (p := ⟨gb358, 0, none⟩) (Kd.R_types HO342.out BK358.out (by decide)) (fun _ hk => hk.2) (.bool t353)) (fun _ hk => hk.2) (.slice Ao35 t354.length co35)) (fun _ h_ => h_.1)))) (Kd.R_base ho0) hb); replace HO347 := Az (Kd.R_elder' (rt ((Kd.R_mono (Kd.R_far (p := ⟨gb358, 1, none⟩) (Kd.R_far (p := ⟨gb358, 0, none⟩) (Kd.R_types HO347.out BK358.out (by decide)) (fun _ hk => hk.2) (.bool t353)) (fun _ hk => hk.2) (.slice Ao35 t354.length co35)) (fun _ h_ => h_.1)))) (Kd.R_base ho0) hb); replace HO352 := Az (Kd.R_elder' (rt ((Kd.R_mono (Kd.R_far (p := ⟨gb358, 1, none⟩) (Kd.R_far (p := ⟨gb358, 0, none⟩) (Kd.R_types HO352.out BK358.out (by decide)) (fun _ hk => hk.2) (.bool t353)) (fun _ hk => hk.2) (.slice Ao35 t354.length co35)) (fun _ h_ => h_.1)))) (Kd.R_base ho0) hb); replace HO356 := Az (Kd.R_elder' (rt ((Kd.R_mono (Kd.R_far (p := ⟨gb358, 1, none⟩) (Kd.R_far (p := ⟨gb358, 0, none⟩) (Kd.R_types HO356.out BK358.out (by decide)) (fun _ hk => hk.2) (.bool t353)) (fun _ hk => hk.2) (.slice Ao35 t354.length co35)) (fun _ h_ => h_.1)))) (Kd.R_base ho0) hb); replace BK333 := Az (blk_below (g := gb333) (o := .cells #[.bool false, .slice none 0 0] 24 (0, 0)) (by refine blk_far ?_ NB333_358.out _; refine blk_far ?_ NB333_358.out _; exact BK333.out) hb); replace BK343 := Az (blk_below (g := gb343) (o := .cells #[.bool t339, .slice Ao20 t340.length co20] 24 (0, 0)) (by refine blk_far ?_ NB343_358.out _; refine blk_far ?_ NB343_358.out _; exact BK343.out) hb); replace BK348 := Az (blk_below (g := gb348) (o := .cells #[.bool t344, .slice Ao26 t345.length co26] 24 (0, 0)) (by refine blk_far ?_ NB348_358.out _; refine blk_far ?_ NB348_358.out _; exact BK348.out) hb); replace BK358 := Az (blk_below (g := gb358) (o := .cells #[.bool t353, .slice Ao35 t354.length co35] 24 (0, 0)) (by refine blk_put (cs := #[.bool t353, .slice none 0 0]) ?_ 1 _ rfl; refine blk_put (cs := #[.bool false, .slice none 0 0]) ?_ 0 _ rfl; exact BK358.out) hb); replace HB := bs HB hb; have hz43_1 := bz BK343; obtain ⟨Ao44, co44, eo44⟩ := Kd.R_slice HO362.out; subst eo44; have hz45_1 := bz BK333))
  refine bodyPost_ret (results_ct rfl _ _ gb333 24 #[.bool t359, .slice Ao44 t360.length co44] (0, 0) _ rfl (by refine blk_put (cs := #[.bool t359, .slice none 0 0]) ?_ 1 _ rfl; refine blk_put (cs := #[.bool false, .slice none 0 0]) ?_ 0 _ rfl; refine blk_far ?_ NB333_343.out _; refine blk_far ?_ NB333_343.out _; exact BK333.out) Tryz.underlying24 rfl (by kernel_rfl)) rfl ?_
  exact ⟨_, fe, rt (Kd.R_mono (Kd.R_far (p := ⟨gb333, 1, none⟩) (Kd.R_far (p := ⟨gb333, 0, none⟩) (Kd.R_far (p := ⟨gb343, 1, none⟩) (Kd.R_far (p := ⟨gb343, 0, none⟩) (Kd.R_types (Kd.R_types HO362.out BK343.out (by decide)) BK333.out (by decide)) (fun _ hk => hk.1.2) (.bool t359)) (fun _ hk => hk.1.2) (.slice Ao44 t360.length co44)) (fun _ hk => hk.2) (.bool t359)) (fun _ hk => hk.2) (.slice Ao44 t360.length co44)) (fun _ hk => trivial)), bls HB⟩
 rw [if_neg c11] at H
 by_cases c46 : (wrap64 (t337 - 53)) < (-60)
 ·rw [if_pos c46] at H
  exact absurd H (by simp)
 rw [if_neg c46] at H
 obtain ⟨⟨t364, t365⟩, A47, H⟩ := bd H
 obtain ⟨⟨t368, t369, t372⟩, A48, H⟩ := bd H
 obtain ⟨⟨t374, t375, t378, t379, t382⟩, A49, H⟩ := bd H
 simp only [Option.some.injEq, Prod.mk.injEq] at H
 obtain ⟨rfl, rfl, rfl⟩ := H
 go_enter Tryz.func78, Tryz.ntmps78
 try go_wp2_with (first | (refine be 2 #[.bool false, .slice none 0 0] 24 ?_; intro gb333 hg w50 hbox hb; have BK333 := Az (hbox); have GW333 := gw (bl HB) hg; replace HB := bs HB hb; clear hb hbox hg) | (refine gl (some 25) Tryz.func58 #[.float .f64 (Int.toNat a0), .int .i64 0] ?_; (with_reducible refine (m_IsInf.calls (Int.toNat a0) 0 false _ A3.out).mono ?_); rintro e w50 ⟨rfl, hb⟩; replace hb := dr hb; refine ⟨_, rfl, ?_⟩; replace BK333 := kb BK333 hb; replace HB := bs HB hb; clear hb; have hz333_ := bz BK333) | (refine gl (some 29) Tryz.func79 #[.float .f64 (Int.toNat a0)] ?_; (with_reducible refine (m_Trunc.calls (Int.toNat a0) t335 _ A5.out).mono ?_); rintro e w50 ⟨rfl, hb⟩; replace hb := dr hb; refine ⟨_, rfl, ?_⟩; replace BK333 := kb BK333 hb; replace HB := bs HB hb; clear hb; have hz333_ := bz BK333) | (refine gl (some 30) Tryz.func59 #[.float .f64 t335] ?_; (with_reducible refine (m_Frexp.calls t335 t336 t337 _ A6.out).mono ?_); rintro e w50 ⟨rfl, hb⟩; replace hb := dr hb; refine ⟨_, rfl, ?_⟩; replace BK333 := kb BK333 hb; replace HB := bs HB hb; clear hb; have hz333_ := bz BK333) | (refine gl (some 34) Tryz.func61 #[.float .f64 t336, .int .i64 53] ?_; (with_reducible refine (m_Ldexp.calls t336 53 t338 _ A7.out).mono ?_); rintro e w50 ⟨rfl, hb⟩; replace hb := dr hb; refine ⟨_, rfl, ?_⟩; replace BK333 := kb BK333 hb; replace HB := bs HB hb; clear hb; have hz333_ := bz BK333) | (refine gl (some 36) Tryz.func65 #[.int .i64 (f2i t338)] ?_; (with_reducible refine (o_Of.calls (f2i t338) t339 t340 _ A9.out).mono ?_); rintro e w51 ⟨v341, rfl, ho0, hb⟩; refine ⟨_, rfl, ?_⟩; have HO342 := Az (Kd.R_lower ho0 (below_size (bls HB))); replace BK333 := kb BK333 hb; replace HB := bs HB hb) | (refine be 7 #[.bool false, .slice none 0 0] 24 ?_; intro gb343 hg w52 hbox hb; replace HO342 := Az (Kd.R_below (rk HO342) hb); have BK343 := Az (hbox); have GW343 := gw (bls HB) hg; replace HB := bs HB hb; have NB333_343 := nl BK333 hg; have NB343_333 := ng BK333 hg; replace BK333 := kb BK333 hb; clear hb hbox hg; have hnb53 := NB343_333.out; have hnc53 := NB333_343.out; have hz54_1 := bz BK343; obtain ⟨Ao55, co55, eo55⟩ := Kd.R_slice HO342.out; subst eo55) | (refine gl (some 37) Tryz.func65 #[.int .i64 2] ?_; (with_reducible refine (o_Of.calls 2 t344 t345 _ A10.out).mono ?_); rintro e w56 ⟨v346, rfl, ho0, hb⟩; refine ⟨_, rfl, ?_⟩; have HO347 := Az (Kd.R_lower (Kd.R_new' ho0 (Kd.R_lt (rt ((Kd.R_mono (Kd.R_far (p := ⟨gb343, 1, none⟩) (Kd.R_far (p := ⟨gb343, 0, none⟩) (Kd.R_types HO342.out BK343.out (by decide)) (fun _ hk => hk.2) (.bool t339)) (fun _ hk => hk.2) (.slice Ao55 t340.length co55)) (fun _ h_ => h_.1)))))) (below_size (bls HB))); replace HO342 := Az (Kd.R_elder' (rt ((Kd.R_mono (Kd.R_far (p := ⟨gb343, 1, none⟩) (Kd.R_far (p := ⟨gb343, 0, none⟩) (Kd.R_types HO342.out BK343.out (by decide)) (fun _ hk => hk.2) (.bool t339)) (fun _ hk => hk.2) (.slice Ao55 t340.length co55)) (fun _ h_ => h_.1)))) (Kd.R_base ho0) hb); replace BK333 := Az (blk_below (g := gb333) (o := .cells #[.bool false, .slice none 0 0] 24 (0, 0)) (by refine blk_far ?_ NB333_343.out _; refine blk_far ?_ NB333_343.out _; exact BK333.out) hb); replace BK343 := Az (blk_below (g := gb343) (o := .cells #[.bool t339, .slice Ao55 t340.length co55] 24 (0, 0)) (by refine blk_put (cs := #[.bool t339, .slice none 0 0]) ?_ 1 _ rfl; refine blk_put (cs := #[.bool false, .slice none 0 0]) ?_ 0 _ rfl; exact BK343.out) hb); replace HB := bs HB hb) | (refine be 8 #[.bool false, .slice none 0 0] 24 ?_; intro gb348 hg w57 hbox hb; replace HO342 := Az (Kd.R_below (rk HO342) hb); replace HO347 := Az (Kd.R_below (rk HO347) hb); have BK348 := Az (hbox); have GW348 := gw (bls HB) hg; replace HB := bs HB hb; have NB333_348 := nl BK333 hg; have NB348_333 := ng BK333 hg; replace BK333 := kb BK333 hb; have NB343_348 := nl BK343 hg; have NB348_343 := ng BK343 hg; replace BK343 := kb BK343 hb; clear hb hbox hg; have hnb58 := NB348_333.out; have hnc58 := NB333_348.out; have hnb59 := NB348_343.out; have hnc59 := NB343_348.out; have hz60_1 := bz BK348; obtain ⟨Ao61, co61, eo61⟩ := Kd.R_slice HO347.out; subst eo61))
 have n_ : (fun W_ : World => Aside0 (Kd.R (Kd.int .u64) 25 W_ w.heap.size (fun k_ => some k_ ≠ (.slice Ao61 t345.length co61 : Value).ownBlock) (.slice Ao55 t340.length co55) t340) ∧ Aside0 (Kd.R (Kd.int .u64) 25 W_ w.heap.size (fun k_ => some k_ ≠ (.slice Ao55 t340.length co55 : Value).ownBlock) (.slice Ao61 t345.length co61) t345) ∧ Aside0 (W_.heap[gb333]? = some (.cells #[.bool false, .slice none 0 0] 24 (0, 0))) ∧ Aside0 (W_.heap[gb343]? = some (.cells #[.bool t339, .slice Ao55 t340.length co55] 24 (0, 0))) ∧ Aside0 (W_.heap[gb348]? = some (.cells #[.bool t344, .slice Ao61 t345.length co61] 24 (0, 0))) ∧ Aside0 (Below w.heap.size w W_)) ((w57.setCell ⟨gb348, 0, none⟩ (.bool t344)).setCell ⟨gb348, 1, none⟩ (.slice Ao61 t345.length co61)) := ⟨⟨rt (Kd.R_mono (Kd.R_far (p := ⟨gb348, 1, none⟩) (Kd.R_far (p := ⟨gb348, 0, none⟩) (Kd.R_types HO342.out BK348.out (by decide)) (fun _ hk => hk.2) (.bool t344)) (fun _ hk => hk.2) (.slice Ao61 t345.length co61)) (fun _ hk => hk.1.2))⟩, ⟨rt (Kd.R_mono (Kd.R_far (p := ⟨gb348, 1, none⟩) (Kd.R_far (p := ⟨gb348, 0, none⟩) (Kd.R_types HO347.out BK348.out (by decide)) (fun _ hk => hk.2) (.bool t344)) (fun _ hk => hk.2) (.slice Ao61 t345.length co61)) (fun _ hk => hk.1.2))⟩, ⟨by refine blk_far ?_ NB333_348.out _; refine blk_far ?_ NB333_348.out _; exact BK333.out⟩, ⟨by refine blk_far ?_ NB343_348.out _; refine blk_far ?_ NB343_348.out _; exact BK343.out⟩, ⟨by refine blk_put (cs := #[.bool t344, .slice none 0 0]) ?_ 1 _ rfl; refine blk_put (cs := #[.bool false, .slice none 0 0]) ?_ 0 _ rfl; exact BK348.out⟩, ⟨bls HB⟩⟩
 obtain ⟨n0_, n1_, n2_, n3_, n4_, n5_⟩ := n_
 generalize ((w57.setCell ⟨gb348, 0, none⟩ (.bool t344)).setCell ⟨gb348, 1, none⟩ (.slice Ao61 t345.length co61)) = w62 at n0_ n1_ n2_ n3_ n4_ n5_ ⊢
 have HO342 := n0_
 have HO347 := n1_
 have BK333 := n2_
 have BK343 := n3_
 have BK348 := n4_
 have HB := n5_
 replace HO342 := Az (Kd.R_drew HO342.out)
 replace HO347 := Az (Kd.R_drew HO347.out)
 replace BK333 := Az (blk_drew BK333.out)
 replace BK343 := Az (blk_drew BK343.out)
 replace BK348 := Az (blk_drew BK348.out)
 replace HB := Az (below_drew1 HB.out)
 refine start_ (n := 11) (S := fun w' => w'.cell? ⟨gb348, 0, none⟩ = some (.bool t344) ∧ w'.cell? ⟨gb348, 1, none⟩ = some (.slice Ao61 t345.length co61)) (ds := []) (bm 11 0) (by kernel_rfl) rfl rfl ⟨(blk_cell BK348.out 0).trans rfl, (blk_cell BK348.out 1).trans rfl⟩ (fun hHeld => ?_); refine with_tabW e_Whole.tab16 e_Whole.bits16 (fun HT_ HW_ => ?_)
 generalize w62.drew = w63 at HO342 HO347 BK333 BK343 BK348 HB hHeld ⊢
 refine pu 1 (some 61) (bm 11 2) HT_.out ?_
 refine pu 2 (some 62) (bm 11 6) HT_.out ?_
 refine tk 0 (some 60) (bm 11 7) HT_.out HW_.out hHeld ?_
 refine join_ (σ := Value × Value × Nat) 2 (bm 11 511) (fun s_ => [(63, .agg #[.bool t364, s_.1]), (64, .tuple #[.agg #[.bool t368, s_.2.1], .int .i64 t372]), (11, .pointer (some ⟨s_.2.2, 0, none⟩)), (59, .tuple #[.agg #[.bool t368, s_.2.1], .int .i64 t372]), (65, .agg #[.bool t368, s_.2.1]), (66, .int .i64 t372)]) (fun s_ w' => (w'.cell? ⟨gb348, 0, none⟩ = some (.bool t344) ∧ w'.cell? ⟨gb348, 1, none⟩ = some (.slice Ao61 t345.length co61)) ∧ (Kd.R (Kd.int .u64) 25 w' w.heap.size (fun k_ => some k_ ≠ (.slice Ao61 t345.length co61 : Value).ownBlock ∧ some k_ ≠ (s_.1 : Value).ownBlock ∧ some k_ ≠ (s_.2.1 : Value).ownBlock) (.slice Ao55 t340.length co55) t340) ∧ (Kd.R (Kd.int .u64) 25 w' w.heap.size (fun k_ => some k_ ≠ (.slice Ao55 t340.length co55 : Value).ownBlock ∧ some k_ ≠ (s_.1 : Value).ownBlock ∧ some k_ ≠ (s_.2.1 : Value).ownBlock) (.slice Ao61 t345.length co61) t345) ∧ (Kd.R (Kd.int .u64) 25 w' w.heap.size (fun k_ => some k_ ≠ (.slice Ao55 t340.length co55 : Value).ownBlock ∧ some k_ ≠ (.slice Ao61 t345.length co61 : Value).ownBlock ∧ some k_ ≠ (s_.2.1 : Value).ownBlock) s_.1 t365) ∧ (Kd.R (Kd.int .u64) 25 w' w.heap.size (fun k_ => some k_ ≠ (.slice Ao55 t340.length co55 : Value).ownBlock ∧ some k_ ≠ (.slice Ao61 t345.length co61 : Value).ownBlock ∧ some k_ ≠ (s_.1 : Value).ownBlock) s_.2.1 t369) ∧ (w'.heap[gb333]? = some (.cells #[.bool false, .slice none 0 0] 24 (0, 0))) ∧ (w'.heap[gb343]? = some (.cells #[.bool t339, .slice Ao55 t340.length co55] 24 (0, 0))) ∧ (w'.heap[gb348]? = some (.cells #[.bool t344, .slice Ao61 t345.length co61] 24 (0, 0))) ∧ (w'.heap[s_.2.2]? = some (.cells #[.bool false, .slice none 0 0] 24 (0, 0))) ∧ (w.heap.size ≤ s_.2.2) ∧ (w.heap.size ≤ s_.2.2) ∧ (gb333 ≠ s_.2.2) ∧ (s_.2.2 ≠ gb333) ∧ (gb343 ≠ s_.2.2) ∧ (s_.2.2 ≠ gb343) ∧ (gb348 ≠ s_.2.2) ∧ (s_.2.2 ≠ gb348) ∧ (Below w.heap.size w w')) ?_ ?_
 rotate_left
 ·intro hCont
  refine two_ (i := 3) (j := 8) (Ni := some 63) (Nj := some 11) (bm 11 15) (bm 11 263) rfl rfl rfl rfl (two_of HT_.out (by kernel_rfl)) (by decide) (by decide) (fun K hK => ?_) (fun K hK => ?_)
  ·skip
   refine gs Tryz.func65 #[.int .i64 (wrap64 (-(wrap64 (t337 - 53))))] ?_
   with_reducible refine (o_Of.calls (wrap64 (-(wrap64 (t337 - 53)))) t364 t365 _ A47.out).mono ?_
   rintro e w64 ⟨v366, rfl, ho0, hb⟩
   refine ⟨_, rfl, ?_⟩
   have HO367 := Az (Kd.R_lower (Kd.R_new' (Kd.R_new' ho0 (Kd.R_lt (rk HO342))) (Kd.R_lt (rk HO347))) (below_size (bls HB)))
   replace HO342 := Az (Kd.R_elder' (rk HO342) (Kd.R_base ho0) hb)
   replace HO347 := Az (Kd.R_elder' (rk HO347) (Kd.R_base ho0) hb)
   replace BK333 := kb BK333 hb
   replace BK343 := kb BK343 hb
   replace BK348 := kb BK348 hb
   replace HB := bs HB hb
   obtain ⟨Ao65, co65, eo65⟩ := Kd.R_slice HO367.out
   (first | subst eo65 | (injection eo65 with f1_ f2_ f3_; have f4_ := f1_.symm; have f5_ := f3_.symm; clear f1_ f2_ f3_; subst f4_; subst f5_))
   refine hK.out _ _ hd (fun hHeld => ?_)
   refine nm ?_
   refine two_ (i := 4) (j := 8) (Ni := some 64) (Nj := some 11) (bm 11 31) (bm 11 271) rfl rfl rfl rfl (two_of HT_.out (by kernel_rfl)) (by decide) (by decide) (fun K hK => ?_) (fun K hK => ?_)
   ·skip
    refine gs Tryz.func98 #[.agg #[.bool t344, .slice Ao61 t345.length co61], .agg #[.bool t364, .slice Ao65 t365.length co65]] ?_
    with_reducible refine (o_Pow.calls k t344 _ _ t345 t364 _ _ t365 t368 t369 t372 _ ?side1 (Kd.R_reads' HO347.out).2.1 ?side3 (Kd.R_reads' HO367.out).2.1 A48.out).mono ?_
    (case side1 => exact (Kd.R_reads' HO347.out).2.2)
    (case side3 => exact (Kd.R_reads' HO367.out).2.2)
    rintro e w66 ⟨v370, rfl, ho0, hb⟩
    refine ⟨_, rfl, ?_⟩
    have HO371 := Az (Kd.R_lower (Kd.R_new' (Kd.R_new' (Kd.R_new' ho0 (Kd.R_lt (rk HO342))) (Kd.R_lt (rk HO347))) (Kd.R_lt (rk HO367))) (below_size (bls HB)))
    replace HO342 := Az (Kd.R_elder' (rk HO342) (Kd.R_base ho0) hb)
    replace HO347 := Az (Kd.R_elder' (rk HO347) (Kd.R_base ho0) hb)
    replace HO367 := Az (Kd.R_elder' (rk HO367) (Kd.R_base ho0) hb)
    replace BK333 := kb BK333 hb
    replace BK343 := kb BK343 hb
    replace BK348 := kb BK348 hb
    replace HB := bs HB hb
    refine hK.out _ _ hd (fun hHeld => ?_)
    refine nm ?_
    refine pu 5 (some 59) (bm 11 63) HT_.out ?_
    refine pu 6 (some 65) (bm 11 127) HT_.out ?_
    refine pu 7 (some 66) (bm 11 255) HT_.out ?_
    refine on 8 (some 11) (bm 11 511) HT_.out (fun K hK => ?_)
    refine box_step ?hg (N := 11) ?hd (cs := #[.bool false, .slice none 0 0]) (t := 24) ?hr ?_; (case hd => rfl); (case hg => rfl); (case hr => first | (go_simp; done) | (go_simp; rfl))
    intro gb373 hg w67 hbox hb
    replace HO342 := Az (Kd.R_below (rk HO342) hb)
    replace HO347 := Az (Kd.R_below (rk HO347) hb)
    replace HO367 := Az (Kd.R_below (rk HO367) hb)
    replace HO371 := Az (Kd.R_below (rk HO371) hb)
    have BK373 := Az (hbox)
    have GW373 := gw (bls HB) hg
    have GE373 := gw (bls HB) hg
    replace HB := bs HB hb
    have NB333_373 := nl BK333 hg
    have NB373_333 := ng BK333 hg
    replace BK333 := kb BK333 hb
    have NB343_373 := nl BK343 hg
    have NB373_343 := ng BK343 hg
    replace BK343 := kb BK343 hb
    have NB348_373 := nl BK348 hg
    have NB373_348 := ng BK348 hg
    replace BK348 := kb BK348 hb
    refine hK.out _ _ hd (fun hHeld => ?_)
    refine nm ?_
    exact norm_ (by simp only [putAll, Act.put, List.setIfInBounds_toArray, List.set_cons_zero, List.set_cons_succ]) (hCont (.slice Ao65 t365.length co65, v370, gb373) _ ⟨hHeld, (rt (Kd.R_mono HO342.out (fun _ hk => ⟨hk.1.1, ⟨hk.1.2, hk.2⟩⟩))), (rt (Kd.R_mono HO347.out (fun _ hk => ⟨hk.1.1, ⟨hk.1.2, hk.2⟩⟩))), (rt (Kd.R_mono HO367.out (fun _ hk => ⟨hk.1.1.2, ⟨hk.1.2, hk.2⟩⟩))), (rt (Kd.R_mono HO371.out (fun _ hk => ⟨hk.1.1.2, ⟨hk.1.2, hk.2⟩⟩))), (bk BK333), (bk BK343), (bk BK348), (bk BK373), GW373.out, GE373.out, NB333_373.out, NB373_333.out, NB343_373.out, NB373_343.out, NB348_373.out, NB373_348.out, (bls HB)⟩)
   ·skip
    refine box_step ?hg (N := 11) ?hd (cs := #[.bool false, .slice none 0 0]) (t := 24) ?hr ?_; (case hd => rfl); (case hg => rfl); (case hr => first | (go_simp; done) | (go_simp; rfl))
    intro gb373 hg w65 hbox hb
    replace HO342 := Az (Kd.R_below (rk HO342) hb)
    replace HO347 := Az (Kd.R_below (rk HO347) hb)
    replace HO367 := Az (Kd.R_below (rk HO367) hb)
    have BK373 := Az (hbox)
    have GW373 := gw (bls HB) hg
    have GE373 := gw (bls HB) hg
    replace HB := bs HB hb
    have NB333_373 := nl BK333 hg
    have NB373_333 := ng BK333 hg
    replace BK333 := kb BK333 hb
    have NB343_373 := nl BK343 hg
    have NB373_343 := ng BK343 hg
    replace BK343 := kb BK343 hb
    have NB348_373 := nl BK348 hg
    have NB373_348 := ng BK348 hg
    replace BK348 := kb BK348 hb
    obtain ⟨Ao66, co66, eo66⟩ := Kd.R_slice HO367.out
    (first | subst eo66 | (injection eo66 with f1_ f2_ f3_; have f4_ := f1_.symm; have f5_ := f3_.symm; clear f1_ f2_ f3_; subst f4_; subst f5_))
    refine hK.out _ _ hd (fun hHeld => ?_)
    refine nm ?_
    refine on 4 (some 64) (bm 11 287) HT_.out (fun K hK => ?_)
    refine gs Tryz.func98 #[.agg #[.bool t344, .slice Ao61 t345.length co61], .agg #[.bool t364, .slice Ao66 t365.length co66]] ?_
    with_reducible refine (o_Pow.calls k t344 _ _ t345 t364 _ _ t365 t368 t369 t372 _ ?side1 (Kd.R_reads' HO347.out).2.1 ?side3 (Kd.R_reads' HO367.out).2.1 A48.out).mono ?_
    (case side1 => exact (Kd.R_reads' HO347.out).2.2)
    (case side3 => exact (Kd.R_reads' HO367.out).2.2)
    rintro e w67 ⟨v370, rfl, ho0, hb⟩
    refine ⟨_, rfl, ?_⟩
    have HO371 := Az (Kd.R_lower (Kd.R_new' (Kd.R_new' (Kd.R_new' ho0 (Kd.R_lt (rk HO342))) (Kd.R_lt (rk HO347))) (Kd.R_lt (rk HO367))) (below_size (bls HB)))
    replace HO342 := Az (Kd.R_elder' (rk HO342) (Kd.R_base ho0) hb)
    replace HO347 := Az (Kd.R_elder' (rk HO347) (Kd.R_base ho0) hb)
    replace HO367 := Az (Kd.R_elder' (rk HO367) (Kd.R_base ho0) hb)
    replace BK333 := kb BK333 hb
    replace BK343 := kb BK343 hb
    replace BK348 := kb BK348 hb
    replace BK373 := kb BK373 hb
    replace HB := bs HB hb
    refine hK.out _ _ hd (fun hHeld => ?_)
    refine nm ?_
    refine pu 5 (some 59) (bm 11 319) HT_.out ?_
    refine pu 6 (some 65) (bm 11 383) HT_.out ?_
    refine pu 7 (some 66) (bm 11 511) HT_.out ?_
    exact norm_ (by simp only [putAll, Act.put, List.setIfInBounds_toArray, List.set_cons_zero, List.set_cons_succ]) (hCont (.slice Ao66 t365.length co66, v370, gb373) _ ⟨hHeld, (rt (Kd.R_mono HO342.out (fun _ hk => ⟨hk.1.1, ⟨hk.1.2, hk.2⟩⟩))), (rt (Kd.R_mono HO347.out (fun _ hk => ⟨hk.1.1, ⟨hk.1.2, hk.2⟩⟩))), (rt (Kd.R_mono HO367.out (fun _ hk => ⟨hk.1.1.2, ⟨hk.1.2, hk.2⟩⟩))), (rt (Kd.R_mono HO371.out (fun _ hk => ⟨hk.1.1.2, ⟨hk.1.2, hk.2⟩⟩))), (bk BK333), (bk BK343), (bk BK348), (bk BK373), GW373.out, GE373.out, NB333_373.out, NB373_333.out, NB343_373.out, NB373_343.out, NB348_373.out, NB373_348.out, (bls HB)⟩)
  ·skip
   refine box_step ?hg (N := 11) ?hd (cs := #[.bool false, .slice none 0 0]) (t := 24) ?hr ?_; (case hd => rfl); (case hg => rfl); (case hr => first | (go_simp; done) | (go_simp; rfl))
   intro gb373 hg w64 hbox hb
   replace HO342 := Az (Kd.R_below (rk HO342) hb)
   replace HO347 := Az (Kd.R_below (rk HO347) hb)
   have BK373 := Az (hbox)
   have GW373 := gw (bls HB) hg
   have GE373 := gw (bls HB) hg
   replace HB := bs HB hb
   have NB333_373 := nl BK333 hg
   have NB373_333 := ng BK333 hg
   replace BK333 := kb BK333 hb
   have NB343_373 := nl BK343 hg
   have NB373_343 := ng BK343 hg
   replace BK343 := kb BK343 hb
   have NB348_373 := nl BK348 hg
   have NB373_348 := ng BK348 hg
   replace BK348 := kb BK348 hb
   refine hK.out _ _ hd (fun hHeld => ?_)
   refine nm ?_
   refine on 3 (some 63) (bm 11 271) HT_.out (fun K hK => ?_)
   refine gs Tryz.func65 #[.int .i64 (wrap64 (-(wrap64 (t337 - 53))))] ?_
   with_reducible refine (o_Of.calls (wrap64 (-(wrap64 (t337 - 53)))) t364 t365 _ A47.out).mono ?_
   rintro e w65 ⟨v366, rfl, ho0, hb⟩
   refine ⟨_, rfl, ?_⟩
   have HO367 := Az (Kd.R_lower (Kd.R_new' (Kd.R_new' ho0 (Kd.R_lt (rk HO342))) (Kd.R_lt (rk HO347))) (below_size (bls HB)))
   replace HO342 := Az (Kd.R_elder' (rk HO342) (Kd.R_base ho0) hb)
   replace HO347 := Az (Kd.R_elder' (rk HO347) (Kd.R_base ho0) hb)
   replace BK333 := kb BK333 hb
   replace BK343 := kb BK343 hb
   replace BK348 := kb BK348 hb
   replace BK373 := kb BK373 hb
   replace HB := bs HB hb
   obtain ⟨Ao66, co66, eo66⟩ := Kd.R_slice HO367.out
   (first | subst eo66 | (injection eo66 with f1_ f2_ f3_; have f4_ := f1_.symm; have f5_ := f3_.symm; clear f1_ f2_ f3_; subst f4_; subst f5_))
   refine hK.out _ _ hd (fun hHeld => ?_)
   refine nm ?_
   refine on 4 (some 64) (bm 11 287) HT_.out (fun K hK => ?_)
   refine gs Tryz.func98 #[.agg #[.bool t344, .slice Ao61 t345.length co61], .agg #[.bool t364, .slice Ao66 t365.length co66]] ?_
   with_reducible refine (o_Pow.calls k t344 _ _ t345 t364 _ _ t365 t368 t369 t372 _ ?side1 (Kd.R_reads' HO347.out).2.1 ?side3 (Kd.R_reads' HO367.out).2.1 A48.out).mono ?_
   (case side1 => exact (Kd.R_reads' HO347.out).2.2)
   (case side3 => exact (Kd.R_reads' HO367.out).2.2)
   rintro e w67 ⟨v370, rfl, ho0, hb⟩
   refine ⟨_, rfl, ?_⟩
   have HO371 := Az (Kd.R_lower (Kd.R_new' (Kd.R_new' (Kd.R_new' ho0 (Kd.R_lt (rk HO342))) (Kd.R_lt (rk HO347))) (Kd.R_lt (rk HO367))) (below_size (bls HB)))
   replace HO342 := Az (Kd.R_elder' (rk HO342) (Kd.R_base ho0) hb)
   replace HO347 := Az (Kd.R_elder' (rk HO347) (Kd.R_base ho0) hb)
   replace HO367 := Az (Kd.R_elder' (rk HO367) (Kd.R_base ho0) hb)
   replace BK333 := kb BK333 hb
   replace BK343 := kb BK343 hb
   replace BK348 := kb BK348 hb
   replace BK373 := kb BK373 hb
   replace HB := bs HB hb
   refine hK.out _ _ hd (fun hHeld => ?_)
   refine nm ?_
   refine pu 5 (some 59) (bm 11 319) HT_.out ?_
   refine pu 6 (some 65) (bm 11 383) HT_.out ?_
   refine pu 7 (some 66) (bm 11 511) HT_.out ?_
   exact norm_ (by simp only [putAll, Act.put, List.setIfInBounds_toArray, List.set_cons_zero, List.set_cons_succ]) (hCont (.slice Ao66 t365.length co66, v370, gb373) _ ⟨hHeld, (rt (Kd.R_mono HO342.out (fun _ hk => ⟨hk.1.1, ⟨hk.1.2, hk.2⟩⟩))), (rt (Kd.R_mono HO347.out (fun _ hk => ⟨hk.1.1, ⟨hk.1.2, hk.2⟩⟩))), (rt (Kd.R_mono HO367.out (fun _ hk => ⟨hk.1.1.2, ⟨hk.1.2, hk.2⟩⟩))), (rt (Kd.R_mono HO371.out (fun _ hk => ⟨hk.1.1.2, ⟨hk.1.2, hk.2⟩⟩))), (bk BK333), (bk BK343), (bk BK348), (bk BK373), GW373.out, GE373.out, NB333_373.out, NB373_333.out, NB343_373.out, NB373_343.out, NB348_373.out, NB373_348.out, (bls HB)⟩)
 rintro ⟨v366, v370, gb373⟩ w68 ⟨hS_, h0_, h1_, h2_, h3_, h4_, h5_, h6_, h7_, h8_, h9_, h10_, h11_, h12_, h13_, h14_, h15_, h16_⟩
 dsimp only at h0_ h1_ h2_ h3_ h4_ h5_ h6_ h7_ h8_ h9_ h10_ h11_ h12_ h13_ h14_ h15_ h16_
 replace HO342 := Az h0_
 replace HO347 := Az h1_
 have HO367 := Az h2_
 have HO371 := Az h3_
 replace BK333 := Az h4_
 replace BK343 := Az h5_
 replace BK348 := Az h6_
 have BK373 := Az h7_
 have GW373 := Az h8_
 have GE373 := Az h9_
 have NB333_373 := Az h10_
 have NB373_333 := Az h11_
 have NB343_373 := Az h12_
 have NB373_343 := Az h13_
 have NB348_373 := Az h14_
 have NB373_348 := Az h15_
 replace HB := Az h16_
 have hHeld : w68.cell? ⟨gb348, 0, none⟩ = some (.bool t344) ∧ w68.cell? ⟨gb348, 1, none⟩ = some (.slice Ao61 t345.length co61) := hS_
 obtain ⟨Ao70, co70, eo70⟩ := Kd.R_slice HO371.out
 (first | subst eo70 | (injection eo70 with f1_ f2_ f3_; have f4_ := f1_.symm; have f5_ := f3_.symm; clear f1_ f2_ f3_; subst f4_; subst f5_))
 refine norm_ (a' := ?_) ?_ ?_
 rotate_left
 ·simp only [putAll, Act.put, List.setIfInBounds_toArray, List.set_cons_zero, List.set_cons_succ]
  rfl
 refine on 9 (none) (bm 11 1023) HT_.out (fun K hK => ?_)
 have hs69 : w68.cell? ⟨gb373, 0, none⟩ = some (.bool false) := (blk_cell BK373.out 0).trans rfl
 have hfs69 := blk_frozen BK373.out 0
 have hns69_0 := NB333_373.out
 have hns69_1 := NB343_373.out
 have hns69_2 := NB348_373.out
 have hms69_0 := NB373_333.out
 have hms69_1 := NB373_343.out
 have hms69_2 := NB373_348.out
 have hs71 : w68.cell? ⟨gb373, 1, none⟩ = some (.slice none 0 0) := (blk_cell BK373.out 1).trans rfl
 have hfs71 := blk_frozen BK373.out 1
 have hns71_0 := NB333_373.out
 have hns71_1 := NB343_373.out
 have hns71_2 := NB348_373.out
 have hms71_0 := NB373_333.out
 have hms71_1 := NB373_343.out
 have hms71_2 := NB373_348.out
 refine skip_ (w1 := ?_) (by rfl) rfl ?_ ?_
 rotate_left
 ·go_simp
  rfl
 refine hK.out _ _ ⟨((cell_far (p := ⟨gb373, _, none⟩) NB348_373.out _).trans (((cell_far (p := ⟨gb373, _, none⟩) NB348_373.out _).trans (hHeld.1)))), ((cell_far (p := ⟨gb373, _, none⟩) NB348_373.out _).trans (((cell_far (p := ⟨gb373, _, none⟩) NB348_373.out _).trans (hHeld.2))))⟩ (fun hHeld => ?_)
 refine pu 10 (some 12) (bm 11 2047) HT_.out ?_
 refine done_ (done_of HT_.out (by kernel_rfl)) ?_
 have hnb72 := NB343_373.out
 have hnc72 := NB373_343.out
 have hz73_1 := bz BK343
 have hnb74 := NB373_333.out
 have hnc74 := NB333_373.out
 have hnb75 := NB373_348.out
 have hnc75 := NB348_373.out
 have hz76_1 := bz BK373
 try go_wp2_with (first | (refine gl (some 70) Tryz.func99 #[.agg #[.bool t339, .slice Ao55 t340.length co55], .agg #[.bool t368, .slice Ao70 t369.length co70]] ?_; (with_reducible refine (o_DivMod.calls k t339 _ _ t340 t368 _ _ t369 t374 t375 t378 t379 t382 _ ?side1 ?side2 ?side3 ?side4 A49.out).mono ?_); (case side1 => refine (Kd.R_reads' (e := 25) (base := w.heap.size) (ok := fun k_ => (some k_ ≠ (.slice Ao61 t345.length co61 : Value).ownBlock ∧ (some k_ ≠ (v366 : Value).ownBlock ∧ some k_ ≠ (.slice Ao70 t369.length co70 : Value).ownBlock))) (n := t340.length) (c := co55) ?_).2.2; exact (rt ((Kd.R_mono (Kd.R_far (p := ⟨gb373, 1, none⟩) (Kd.R_far (p := ⟨gb373, 0, none⟩) (Kd.R_types HO342.out BK373.out (by decide)) (fun _ hk => hk.2) (.bool t368)) (fun _ hk => hk.2) (.slice Ao70 t369.length co70)) (fun _ h_ => h_.1))))); (case side2 => exact (Kd.R_reads' HO342.out).2.1); (case side3 => refine (Kd.R_reads' (e := 25) (base := w.heap.size) (ok := fun k_ => (some k_ ≠ (.slice Ao55 t340.length co55 : Value).ownBlock ∧ (some k_ ≠ (.slice Ao61 t345.length co61 : Value).ownBlock ∧ some k_ ≠ (v366 : Value).ownBlock))) (n := t369.length) (c := co70) ?_).2.2; exact (rt ((Kd.R_mono (Kd.R_far (p := ⟨gb373, 1, none⟩) (Kd.R_far (p := ⟨gb373, 0, none⟩) (Kd.R_types HO371.out BK373.out (by decide)) (fun _ hk => hk.2) (.bool t368)) (fun _ hk => hk.2) (.slice Ao70 t369.length co70)) (fun _ h_ => h_.1))))); (case side4 => exact (Kd.R_reads' HO371.out).2.1); rintro e w77 ⟨v376, v380, rfl, ho0, ho1, hb⟩; refine ⟨_, rfl, ?_⟩; have HO377 := Az (Kd.R_lower (Kd.R_new' (Kd.R_new' (Kd.R_new' (Kd.R_new' ho0 (Kd.R_lt (rt ((Kd.R_mono (Kd.R_far (p := ⟨gb373, 1, none⟩) (Kd.R_far (p := ⟨gb373, 0, none⟩) (Kd.R_types HO342.out BK373.out (by decide)) (fun _ hk => hk.2) (.bool t368)) (fun _ hk => hk.2) (.slice Ao70 t369.length co70)) (fun _ h_ => h_.1)))))) (Kd.R_lt (rt ((Kd.R_mono (Kd.R_far (p := ⟨gb373, 1, none⟩) (Kd.R_far (p := ⟨gb373, 0, none⟩) (Kd.R_types HO347.out BK373.out (by decide)) (fun _ hk => hk.2) (.bool t368)) (fun _ hk => hk.2) (.slice Ao70 t369.length co70)) (fun _ h_ => h_.1)))))) (Kd.R_lt (rt ((Kd.R_mono (Kd.R_far (p := ⟨gb373, 1, none⟩) (Kd.R_far (p := ⟨gb373, 0, none⟩) (Kd.R_types HO367.out BK373.out (by decide)) (fun _ hk => hk.2) (.bool t368)) (fun _ hk => hk.2) (.slice Ao70 t369.length co70)) (fun _ h_ => h_.1)))))) (Kd.R_lt (rt ((Kd.R_mono (Kd.R_far (p := ⟨gb373, 1, none⟩) (Kd.R_far (p := ⟨gb373, 0, none⟩) (Kd.R_types HO371.out BK373.out (by decide)) (fun _ hk => hk.2) (.bool t368)) (fun _ hk => hk.2) (.slice Ao70 t369.length co70)) (fun _ h_ => h_.1)))))) (below_size (bls HB))); have HO381 := Az (Kd.R_lower (Kd.R_new' (Kd.R_new' (Kd.R_new' (Kd.R_new' ho1 (Kd.R_lt (rt ((Kd.R_mono (Kd.R_far (p := ⟨gb373, 1, none⟩) (Kd.R_far (p := ⟨gb373, 0, none⟩) (Kd.R_types HO342.out BK373.out (by decide)) (fun _ hk => hk.2) (.bool t368)) (fun _ hk => hk.2) (.slice Ao70 t369.length co70)) (fun _ h_ => h_.1)))))) (Kd.R_lt (rt ((Kd.R_mono (Kd.R_far (p := ⟨gb373, 1, none⟩) (Kd.R_far (p := ⟨gb373, 0, none⟩) (Kd.R_types HO347.out BK373.out (by decide)) (fun _ hk => hk.2) (.bool t368)) (fun _ hk => hk.2) (.slice Ao70 t369.length co70)) (fun _ h_ => h_.1)))))) (Kd.R_lt (rt ((Kd.R_mono (Kd.R_far (p := ⟨gb373, 1, none⟩) (Kd.R_far (p := ⟨gb373, 0, none⟩) (Kd.R_types HO367.out BK373.out (by decide)) (fun _ hk => hk.2) (.bool t368)) (fun _ hk => hk.2) (.slice Ao70 t369.length co70)) (fun _ h_ => h_.1)))))) (Kd.R_lt (rt ((Kd.R_mono (Kd.R_far (p := ⟨gb373, 1, none⟩) (Kd.R_far (p := ⟨gb373, 0, none⟩) (Kd.R_types HO371.out BK373.out (by decide)) (fun _ hk => hk.2) (.bool t368)) (fun _ hk => hk.2) (.slice Ao70 t369.length co70)) (fun _ h_ => h_.1)))))) (below_size (bls HB))); replace HO342 := Az (Kd.R_mono (Kd.R_told (Kd.R_told (Kd.R_old (rt ((Kd.R_mono (Kd.R_far (p := ⟨gb373, 1, none⟩) (Kd.R_far (p := ⟨gb373, 0, none⟩) (Kd.R_types HO342.out BK373.out (by decide)) (fun _ hk => hk.2) (.bool t368)) (fun _ hk => hk.2) (.slice Ao70 t369.length co70)) (fun _ h_ => h_.1)))) hb) (Kd.R_base ho0)) (Kd.R_base ho1)) (fun _ h_ => h_.1)); replace HO347 := Az (Kd.R_mono (Kd.R_told (Kd.R_told (Kd.R_old (rt ((Kd.R_mono (Kd.R_far (p := ⟨gb373, 1, none⟩) (Kd.R_far (p := ⟨gb373, 0, none⟩) (Kd.R_types HO347.out BK373.out (by decide)) (fun _ hk => hk.2) (.bool t368)) (fun _ hk => hk.2) (.slice Ao70 t369.length co70)) (fun _ h_ => h_.1)))) hb) (Kd.R_base ho0)) (Kd.R_base ho1)) (fun _ h_ => h_.1)); replace HO367 := Az (Kd.R_mono (Kd.R_told (Kd.R_told (Kd.R_old (rt ((Kd.R_mono (Kd.R_far (p := ⟨gb373, 1, none⟩) (Kd.R_far (p := ⟨gb373, 0, none⟩) (Kd.R_types HO367.out BK373.out (by decide)) (fun _ hk => hk.2) (.bool t368)) (fun _ hk => hk.2) (.slice Ao70 t369.length co70)) (fun _ h_ => h_.1)))) hb) (Kd.R_base ho0)) (Kd.R_base ho1)) (fun _ h_ => h_.1)); replace HO371 := Az (Kd.R_mono (Kd.R_told (Kd.R_told (Kd.R_old (rt ((Kd.R_mono (Kd.R_far (p := ⟨gb373, 1, none⟩) (Kd.R_far (p := ⟨gb373, 0, none⟩) (Kd.R_types HO371.out BK373.out (by decide)) (fun _ hk => hk.2) (.bool t368)) (fun _ hk => hk.2) (.slice Ao70 t369.length co70)) (fun _ h_ => h_.1)))) hb) (Kd.R_base ho0)) (Kd.R_base ho1)) (fun _ h_ => h_.1)); replace BK333 := Az (blk_below (g := gb333) (o := .cells #[.bool false, .slice none 0 0] 24 (0, 0)) (by refine blk_far ?_ NB333_373.out _; refine blk_far ?_ NB333_373.out _; exact BK333.out) hb); replace BK343 := Az (blk_below (g := gb343) (o := .cells #[.bool t339, .slice Ao55 t340.length co55] 24 (0, 0)) (by refine blk_far ?_ NB343_373.out _; refine blk_far ?_ NB343_373.out _; exact BK343.out) hb); replace BK348 := Az (blk_below (g := gb348) (o := .cells #[.bool t344, .slice Ao61 t345.length co61] 24 (0, 0)) (by refine blk_far ?_ NB348_373.out _; refine blk_far ?_ NB348_373.out _; exact BK348.out) hb); replace BK373 := Az (blk_below (g := gb373) (o := .cells #[.bool t368, .slice Ao70 t369.length co70] 24 (0, 0)) (by refine blk_put (cs := #[.bool t368, .slice none 0 0]) ?_ 1 _ rfl; refine blk_put (cs := #[.bool false, .slice none 0 0]) ?_ 0 _ rfl; exact BK373.out) hb); replace HB := bs HB hb) | (refine be 13 #[.bool false, .slice none 0 0] 24 ?_; intro gb383 hg w78 hbox hb; replace HO342 := Az (Kd.R_below (rk HO342) hb); replace HO347 := Az (Kd.R_below (rk HO347) hb); replace HO367 := Az (Kd.R_below (rk HO367) hb); replace HO371 := Az (Kd.R_below (rk HO371) hb); replace HO377 := Az (Kd.R_below (rk HO377) hb); replace HO381 := Az (Kd.R_below (rk HO381) hb); have BK383 := Az (hbox); have GW383 := gw (bls HB) hg; replace HB := bs HB hb; have NB333_383 := nl BK333 hg; have NB383_333 := ng BK333 hg; replace BK333 := kb BK333 hb; have NB343_383 := nl BK343 hg; have NB383_343 := ng BK343 hg; replace BK343 := kb BK343 hb; have NB348_383 := nl BK348 hg; have NB383_348 := ng BK348 hg; replace BK348 := kb BK348 hb; have NB373_383 := nl BK373 hg; have NB383_373 := ng BK373 hg; replace BK373 := kb BK373 hb; clear hb hbox hg) | (refine be 14 #[.bool false, .slice none 0 0] 24 ?_; intro gb384 hg w79 hbox hb; replace HO342 := Az (Kd.R_below (rk HO342) hb); replace HO347 := Az (Kd.R_below (rk HO347) hb); replace HO367 := Az (Kd.R_below (rk HO367) hb); replace HO371 := Az (Kd.R_below (rk HO371) hb); replace HO377 := Az (Kd.R_below (rk HO377) hb); replace HO381 := Az (Kd.R_below (rk HO381) hb); have BK384 := Az (hbox); have GW384 := gw (bls HB) hg; replace HB := bs HB hb; have NB333_384 := nl BK333 hg; have NB384_333 := ng BK333 hg; replace BK333 := kb BK333 hb; have NB343_384 := nl BK343 hg; have NB384_343 := ng BK343 hg; replace BK343 := kb BK343 hb; have NB348_384 := nl BK348 hg; have NB384_348 := ng BK348 hg; replace BK348 := kb BK348 hb; have NB373_384 := nl BK373 hg; have NB384_373 := ng BK373 hg; replace BK373 := kb BK373 hb; have NB383_384 := nl BK383 hg; have NB384_383 := ng BK383 hg; replace BK383 := kb BK383 hb; clear hb hbox hg; have hnb80 := NB383_333.out; have hnc80 := NB333_383.out; have hnb81 := NB383_343.out; have hnc81 := NB343_383.out; have hnb82 := NB383_348.out; have hnc82 := NB348_383.out; have hnb83 := NB383_373.out; have hnc83 := NB373_383.out; have hnb84 := NB383_384.out; have hnc84 := NB384_383.out; have hz85_1 := bz BK383; obtain ⟨Ao86, co86, eo86⟩ := Kd.R_slice HO377.out; subst eo86; have hnb87 := NB384_333.out; have hnc87 := NB333_384.out; have hnb88 := NB384_343.out; have hnc88 := NB343_384.out; have hnb89 := NB384_348.out; have hnc89 := NB348_384.out; have hnb90 := NB384_373.out; have hnc90 := NB373_384.out; have hz91_1 := bz BK384; obtain ⟨Ao92, co92, eo92⟩ := Kd.R_slice HO381.out; subst eo92; have hz93_1 := bz BK333))
 refine bodyPost_ret (results_ct rfl _ _ gb333 24 #[.bool t374, .slice Ao86 t375.length co86] (0, 0) _ rfl (by refine blk_put (cs := #[.bool t374, .slice none 0 0]) ?_ 1 _ rfl; refine blk_put (cs := #[.bool false, .slice none 0 0]) ?_ 0 _ rfl; refine blk_far ?_ NB333_384.out _; refine blk_far ?_ NB333_384.out _; refine blk_far ?_ NB333_383.out _; refine blk_far ?_ NB333_383.out _; exact BK333.out) Tryz.underlying24 rfl (by kernel_rfl)) rfl ?_
 exact ⟨_, fe, rt (Kd.R_mono (Kd.R_far (p := ⟨gb333, 1, none⟩) (Kd.R_far (p := ⟨gb333, 0, none⟩) (Kd.R_far (p := ⟨gb384, 1, none⟩) (Kd.R_far (p := ⟨gb384, 0, none⟩) (Kd.R_far (p := ⟨gb383, 1, none⟩) (Kd.R_far (p := ⟨gb383, 0, none⟩) (Kd.R_types (Kd.R_types (Kd.R_types HO377.out BK383.out (by decide)) BK384.out (by decide)) BK333.out (by decide)) (fun _ hk => hk.1.1.2) (.bool t374)) (fun _ hk => hk.1.1.2) (.slice Ao86 t375.length co86)) (fun _ hk => hk.1.2) (.bool t378)) (fun _ hk => hk.1.2) (.slice Ao92 t379.length co92)) (fun _ hk => hk.2) (.bool t374)) (fun _ hk => hk.2) (.slice Ao86 t375.length co86)) (fun _ hk => trivial)), bls HB⟩
def e_Cmp.f (a0 a1 : Int) : Option (Int × Bool) := if (FloatKind.f64.format.order (Int.toNat a0) (Int.toNat a1) == some Ordering.lt) = true then (some ((-1), true)) else (if (FloatKind.f64.format.order (Int.toNat a0) (Int.toNat a1) == some Ordering.gt) = true then (some (1, true)) else (some (0, (FloatKind.f64.format.order (Int.toNat a0) (Int.toNat a1) == some Ordering.eq))))
theorem e_Cmp.calls (a0 a1 r1 : Int) (r2 : Bool) (w : World) (h : e_Cmp.f a0 a1 = some (r1, r2)) :
  Calls Tryz.prog 48 #[.int .u64 a0, .int .u64 a1] w fun e w' => e = .returned (.tuple #[.int .i64 r1, .bool r2]) ∧ Drawn0 w w' := by
 have H := h
 unfold e_Cmp.f at H
 clear h
 by_cases c3 : (FloatKind.f64.format.order (Int.toNat a0) (Int.toNat a1) == some Ordering.lt) = true
 ·rw [if_pos c3] at H
  have c3b0 : (FloatKind.f64.format.order (Int.toNat a0) (Int.toNat a1) == some Ordering.lt) = true := c3
  (try (have c3b1 : decide (FloatKind.f64.format.order (Int.toNat a0) (Int.toNat a1) = some Ordering.lt) = true := by simpa using c3))
  (try (have c3b2 : (FloatKind.f64.format.order (Int.toNat a0) (Int.toNat a1) == some Ordering.lt) = true := by simpa using c3))
  clear c3
  simp only [Option.some.injEq, Prod.mk.injEq] at H
  obtain ⟨rfl, rfl⟩ := H
  go_enter Tryz.func48, Tryz.ntmps48
  go_wp2
  go_ret2
  exact ⟨by first | rfl | (simp; done) | (simp [*]; done), by repeat (first | exact Drawn0.refl _ | apply Drawn0.step)⟩
 rw [if_neg c3] at H
 have c3b0 : (FloatKind.f64.format.order (Int.toNat a0) (Int.toNat a1) == some Ordering.lt) = false := by simpa using c3
 (try (have c3b1 : decide (FloatKind.f64.format.order (Int.toNat a0) (Int.toNat a1) = some Ordering.lt) = false := by simpa using c3))
 (try (have c3b2 : (FloatKind.f64.format.order (Int.toNat a0) (Int.toNat a1) == some Ordering.lt) = false := by simpa using c3))
 (try (have c3b3 : ¬ (FloatKind.f64.format.order (Int.toNat a0) (Int.toNat a1) = some Ordering.lt) := by simpa using c3))
 clear c3
 by_cases c4 : (FloatKind.f64.format.order (Int.toNat a0) (Int.toNat a1) == some Ordering.gt) = true
 ·rw [if_pos c4] at H
  have c4b0 : (FloatKind.f64.format.order (Int.toNat a0) (Int.toNat a1) == some Ordering.gt) = true := c4
  (try (have c4b1 : decide (FloatKind.f64.format.order (Int.toNat a0) (Int.toNat a1) = some Ordering.gt) = true := by simpa using c4))
  (try (have c4b2 : (FloatKind.f64.format.order (Int.toNat a0) (Int.toNat a1) == some Ordering.gt) = true := by simpa using c4))
  clear c4
  simp only [Option.some.injEq, Prod.mk.injEq] at H
  obtain ⟨rfl, rfl⟩ := H
  go_enter Tryz.func48, Tryz.ntmps48
  go_wp2
  go_ret2
  exact ⟨by first | rfl | (simp; done) | (simp [*]; done), by repeat (first | exact Drawn0.refl _ | apply Drawn0.step)⟩
 rw [if_neg c4] at H
 have c4b0 : (FloatKind.f64.format.order (Int.toNat a0) (Int.toNat a1) == some Ordering.gt) = false := by simpa using c4
 (try (have c4b1 : decide (FloatKind.f64.format.order (Int.toNat a0) (Int.toNat a1) = some Ordering.gt) = false := by simpa using c4))
 (try (have c4b2 : (FloatKind.f64.format.order (Int.toNat a0) (Int.toNat a1) == some Ordering.gt) = false := by simpa using c4))
 (try (have c4b3 : ¬ (FloatKind.f64.format.order (Int.toNat a0) (Int.toNat a1) = some Ordering.gt) := by simpa using c4))
 clear c4
 simp only [Option.some.injEq, Prod.mk.injEq] at H
 obtain ⟨rfl, rfl⟩ := H
 go_enter Tryz.func48, Tryz.ntmps48
 go_wp2
 go_ret2
 exact ⟨by first | rfl | (simp; done) | (simp [*]; done), by repeat (first | exact Drawn0.refl _ | apply Drawn0.step)⟩
def e_bare.f (a0 : Nat) : Option (Int) := if (FloatKind.f64.format.order a0 a0 != some Ordering.eq) = true then (some 9221120237041090560) else (some ((a0 : Nat) : Int))
theorem e_bare.calls (a0 : Nat) (r : Int) (w : World) (h : e_bare.f a0 = some r) :
  Calls Tryz.prog 52 #[.float .f64 a0] w fun e w' => e = .returned (.int .u64 r) ∧ Drawn0 w w' := by
 have H := h
 unfold e_bare.f at H
 clear h
 by_cases c2 : (FloatKind.f64.format.order a0 a0 != some Ordering.eq) = true
 ·rw [if_pos c2] at H
  have c2b0 : (FloatKind.f64.format.order a0 a0 != some Ordering.eq) = true := c2
  (try (have c2b1 : decide (FloatKind.f64.format.order a0 a0 = some Ordering.eq) = false := by simpa using c2))
  (try (have c2b2 : (FloatKind.f64.format.order a0 a0 == some Ordering.eq) = false := by simpa using c2))
  (try (have c2b3 : ¬ (FloatKind.f64.format.order a0 a0 = some Ordering.eq) := by simpa using c2))
  clear c2
  obtain rfl := Option.some.inj H
  go_enter Tryz.func52, Tryz.ntmps52
  go_wp2
  go_ret
  exact ⟨by first | rfl | (simp; done) | (simp [*]; done), by repeat (first | exact Drawn0.refl _ | apply Drawn0.step)⟩
 ·rw [if_neg c2] at H
  have c2b0 : (FloatKind.f64.format.order a0 a0 != some Ordering.eq) = false := by simpa using c2
  (try (have c2b1 : decide (FloatKind.f64.format.order a0 a0 = some Ordering.eq) = true := by simpa using c2))
  (try (have c2b2 : (FloatKind.f64.format.order a0 a0 == some Ordering.eq) = true := by simpa using c2))
  clear c2
  obtain rfl := Option.some.inj H
  go_enter Tryz.func52, Tryz.ntmps52
  go_wp2
  go_ret
  exact ⟨by first | rfl | (simp; done) | (simp [*]; done), by repeat (first | exact Drawn0.refl _ | apply Drawn0.step)⟩
def m_Copysign.f (a0 a1 : Nat) : Option (Nat) := some (Int.toNat (Go.bits .or .u64 (Go.bits .andNot .u64 ((a0 : Nat) : Int) 9223372036854775808) (Go.bits .and .u64 ((a1 : Nat) : Int) 9223372036854775808)))
theorem m_Copysign.calls (a0 a1 r : Nat) (w : World) (h : m_Copysign.f a0 a1 = some r) :
  Calls Tryz.prog 77 #[.float .f64 a0, .float .f64 a1] w fun e w' => e = .returned (.float .f64 r) ∧ Drawn0 w w' := by
 have H := h
 unfold m_Copysign.f at H
 clear h
 obtain rfl := Option.some.inj H
 go_enter Tryz.func77, Tryz.ntmps77
 go_wp2
 go_ret
 exact ⟨by first | rfl | (simp; done) | (simp [*]; done), by repeat (first | exact Drawn0.refl _ | apply Drawn0.step)⟩
def e_CmpBig.j0 : Nat → Int → Nat → Bool → Bool → List Int → Option (Int × Bool)
 | 0, _, _, _, _, _ => none
 | k + 1, x0, x6, x21, x386000, x386001 => if x21 = true then (some (0, false)) else ((m_IsInf.f x6 0).bind fun t387 => (if t387 = true then ((m_Copysign.f 4607182418800017408 x6).bind fun t388 => (if inI64 t388 = true then (some (f2i t388, true)) else (none))) else ((e_Whole.f k x0).bind fun bt389 => ((o_Cmp.f k bt389.1 bt389.2.1 x386000 x386001).bind fun t395 => (if t395 = 0 then ((m_Trunc.f x6).bind fun t396 => ((e_bare.f t396).bind fun t397 => ((e_Cmp.f x0 t397).bind fun bt398 => (some (bt398.1, true))))) else (some (t395, true)))))))
def e_CmpBig.f (k : Nat) (a0 : Int) (a1_0 : Bool) (l1_1 : List Int) : Option (Int × Bool) := if (FloatKind.f64.format.order (Int.toNat a0) (Int.toNat a0) != some Ordering.eq) = true then (e_CmpBig.j0 k a0 (Int.toNat a0) true a1_0 l1_1) else ((o_Good.f k a1_0 l1_1).bind fun t386 => (e_CmpBig.j0 k a0 (Int.toNat a0) (!t386) a1_0 l1_1))
theorem e_CmpBig.mono_l : ∀ k, (∀ y0 y1 y2 y3 y4, LeO (e_CmpBig.j0 k y0 y1 y2 y3 y4) (e_CmpBig.j0 (k + 1) y0 y1 y2 y3 y4))
 | 0 => fun _ _ _ _ _ r h => by simp [e_CmpBig.j0] at h
 | k + 1 => by
  have ih0 := e_CmpBig.mono_l k
  ·intro y0 y1 y2 y3 y4
   unfold e_CmpBig.j0
   repeat' first
   | exact ih0 _ _ _ _ _
   | exact e_Whole.mono _ _
   | exact o_Cmp.mono _ _ _ _ _
   | exact o_Good.mono _ _ _
   | exact LeO.refl _
   | exact LeO.none _
   | refine LeO.ite ?_ ?_
   | refine LeO.bind ?_ (fun _ => ?_)
theorem e_CmpBig.mono : ∀ a0 a1 a2 k, LeO (e_CmpBig.f k a0 a1 a2) (e_CmpBig.f (k + 1) a0 a1 a2) := by
 intro a0 a1 a2 k
 have ih0 := e_CmpBig.mono_l k
 unfold e_CmpBig.f
 repeat' first
   | exact ih0 _ _ _ _ _
   | exact e_Whole.mono _ _
   | exact o_Cmp.mono _ _ _ _ _
   | exact o_Good.mono _ _ _
   | exact LeO.refl _
   | exact LeO.none _
   | refine LeO.ite ?_ ?_
   | refine LeO.bind ?_ (fun _ => ?_)
theorem e_CmpBig.calls (k : Nat) (a0 : Int) (a1_0 : Bool) (A1_1 : Option Addr) (c1_1 : Nat) (l1_1 : List Int) (r1 : Int) (r2 : Bool) (w : World) (hr1_1 : Kd.C (Kd.int .u64) w A1_1 l1_1.length l1_1) (hc1_1 : l1_1.length ≤ c1_1) (h : e_CmpBig.f k a0 a1_0 l1_1 = some (r1, r2)) :
  Calls Tryz.prog 49 #[.int .u64 a0, .agg #[.bool a1_0, .slice A1_1 l1_1.length c1_1]] w fun e w' => e = .returned (.tuple #[.int .i64 r1, .bool r2]) ∧ Below w.heap.size w w' := by
 have hu24 := Tryz.underlying24
 have HR1_1 := Az hr1_1
 have HC1_1 := Az hc1_1
 clear hr1_1 hc1_1
 have HB := Az (Below.refl w.heap.size w)
 have H := h
 unfold e_CmpBig.f at H
 clear h
 have HC3 := Az H
 clear H
 go_enter Tryz.func49, Tryz.ntmps49
 go_upto_region 2 with (first | (refine be 3 #[.bool a1_0, .slice A1_1 l1_1.length c1_1] 24 ?_; intro gb385 hg w4 hbox hb; have BK385 := Az (hbox); have GW385 := gw (bl HB) hg; have GE385 := gw (bl HB) hg; replace HB := bs HB hb; clear hb hbox hg))
 (try simp only [Act.put, List.setIfInBounds_toArray, List.set_cons_zero, List.set_cons_succ])
 go_cut [21] (fun v21 wc => ∃ (kq : Nat) (x21_2 : Bool), v21 = .bool x21_2 ∧ Aside0 (e_CmpBig.j0 kq a0 (Int.toNat a0) x21_2 a1_0 l1_1 = some (r1, r2)) ∧ Aside0 (kq ≤ k) ∧ Aside0 (wc.heap[gb385]? = some (.cells #[.bool a1_0, (.slice A1_1 l1_1.length c1_1)] 24 (0, 0))) ∧ Aside0 (Below w.heap.size w wc))
 case first =>
  have H := HC3.out
  clear HC3
  by_cases c5 : (FloatKind.f64.format.order (Int.toNat a0) (Int.toNat a0) != some Ordering.eq) = true
  ·rw [if_pos c5] at H
   have c5b0 : (FloatKind.f64.format.order (Int.toNat a0) (Int.toNat a0) != some Ordering.eq) = true := c5
   (try (have c5b1 : decide (FloatKind.f64.format.order (Int.toNat a0) (Int.toNat a0) = some Ordering.eq) = false := by simpa using c5))
   (try (have c5b2 : (FloatKind.f64.format.order (Int.toNat a0) (Int.toNat a0) == some Ordering.eq) = false := by simpa using c5))
   (try (have c5b3 : ¬ (FloatKind.f64.format.order (Int.toNat a0) (Int.toNat a0) = some Ordering.eq) := by simpa using c5))
   clear c5
   (first | rw [c5b0] | (simp only [i64_w, i32_w]; rw [c5b0]) | skip)
   have H' := Az H
   clear H
   go_wp2
   go_meet
   case rel => exact ⟨_, (true), rs, H', ⟨le0⟩, ⟨bk BK385⟩, ⟨bls HB⟩⟩
  rw [if_neg c5] at H
  have c5b0 : (FloatKind.f64.format.order (Int.toNat a0) (Int.toNat a0) != some Ordering.eq) = false := by simpa using c5
  (try (have c5b1 : decide (FloatKind.f64.format.order (Int.toNat a0) (Int.toNat a0) = some Ordering.eq) = true := by simpa using c5))
  (try (have c5b2 : (FloatKind.f64.format.order (Int.toNat a0) (Int.toNat a0) == some Ordering.eq) = true := by simpa using c5))
  clear c5
  (first | rw [c5b0] | (simp only [i64_w, i32_w]; rw [c5b0]) | skip)
  obtain ⟨t386, A6, H⟩ := bd H
  have H' := Az H
  clear H
  have hz7_1 := bz BK385
  go_wp2_with (first | (go_at_call 47; (with_reducible refine (o_Good.calls k a1_0 _ _ l1_1 t386 _ (ck HR1_1 HB) HC1_1.out A6.out).mono ?_); rintro e w8 ⟨rfl, hb⟩; replace BK385 := kb BK385 hb; replace HB := bs HB hb))
  go_meet
  case rel => exact ⟨_, (!t386), rs, H', ⟨le0⟩, ⟨bk BK385⟩, ⟨bls HB⟩⟩
 case rest =>
  clear HC3
  obtain ⟨kq, x21_2, rfl, HA, HJ2, BK385, HB⟩ := hcut
  cases kq with
  | zero => exact absurd HA.out (by simp [e_CmpBig.j0])
  | succ kj2 =>
   have H := HA.out
   clear HA
   simp only [e_CmpBig.j0] at H
   by_cases c9 : x21_2 = true
   ·subst c9
    rw [if_pos rfl] at H
    simp only [Option.some.injEq, Prod.mk.injEq] at H
    obtain ⟨rfl, rfl⟩ := H
    go_wp2
    go_ret2
    exact ⟨fe, bls HB⟩
   replace c9 := Bool.eq_false_iff.mpr c9
   subst c9
   rw [if_neg Bool.false_ne_true] at H
   obtain ⟨t387, A10, H⟩ := bd H
   by_cases c11 : t387 = true
   ·subst c11
    rw [if_pos rfl] at H
    obtain ⟨t388, A12, H⟩ := bd H
    by_cases c13 : inI64 t388 = true
    case neg =>
     rw [if_neg c13] at H
     exact absurd H (by simp)
    rw [if_pos c13] at H
    have c13b0 := eq_true c13
    have c13b1 := decide_eq_true c13
    clear c13
    simp only [Option.some.injEq, Prod.mk.injEq] at H
    obtain ⟨rfl, rfl⟩ := H
    go_wp2_with (first | (refine gl (some 23) Tryz.func58 #[.float .f64 (Int.toNat a0), .int .i64 0] ?_; (with_reducible refine (m_IsInf.calls (Int.toNat a0) 0 true _ A10.out).mono ?_); rintro e w' ⟨rfl, ⟨nd, rfl⟩⟩; refine ⟨_, rfl, ?_⟩) | (refine gl (some 25) Tryz.func77 #[.float .f64 4607182418800017408, .float .f64 (Int.toNat a0)] ?_; (with_reducible refine (m_Copysign.calls 4607182418800017408 (Int.toNat a0) t388 _ A12.out).mono ?_); rintro e w' ⟨rfl, ⟨nd, rfl⟩⟩; refine ⟨_, rfl, ?_⟩))
    go_ret2
    exact ⟨fe, bls HB⟩
   replace c11 := Bool.eq_false_iff.mpr c11
   subst c11
   rw [if_neg Bool.false_ne_true] at H
   obtain ⟨⟨t389, t390, t393⟩, A14, H⟩ := bd H
   (try dsimp only at H)
   obtain ⟨t395, A15, H⟩ := bd H
   by_cases c16 : t395 = 0
   case neg =>
    rw [if_neg c16] at H
    have c16b0 := beq_eq_false_iff_ne.mpr c16
    have c16b1 := bne_iff_ne.mpr c16
    simp only [Option.some.injEq, Prod.mk.injEq] at H
    obtain ⟨rfl, rfl⟩ := H
    go_wp2_with (first | (refine gl (some 23) Tryz.func58 #[.float .f64 (Int.toNat a0), .int .i64 0] ?_; (with_reducible refine (m_IsInf.calls (Int.toNat a0) 0 false _ A10.out).mono ?_); rintro e wc ⟨rfl, hb⟩; replace hb := dr hb; refine ⟨_, rfl, ?_⟩; replace BK385 := kb BK385 hb; replace HB := bs HB hb; clear hb; have hz385_ := bz BK385) | (refine gl (some 29) Tryz.func78 #[.int .u64 a0] ?_; (with_reducible refine (e_Whole.calls kj2 a0 t389 t390 t393 _ A14.out).mono ?_); rintro e w27 ⟨v391, rfl, ho0, hb⟩; refine ⟨_, rfl, ?_⟩; have HO392 := Az (Kd.R_lower ho0 (below_size (bls HB))); replace BK385 := kb BK385 hb; replace HB := bs HB hb) | (refine be 7 #[.bool false, .slice none 0 0] 24 ?_; intro gb394 hg w28 hbox hb; replace HO392 := Az (Kd.R_below (rk HO392) hb); have BK394 := Az (hbox); have GW394 := gw (bls HB) hg; have GE394 := gw (bls HB) hg; replace HB := bs HB hb; have NB385_394 := nl BK385 hg; have NB394_385 := ng BK385 hg; replace BK385 := kb BK385 hb; clear hb hbox hg; have hnb29 := NB394_385.out; have hnc29 := NB385_394.out; have hz30_1 := bz BK394; obtain ⟨Ao31, co31, eo31⟩ := Kd.R_slice HO392.out; subst eo31; have hz32_1 := bz BK385) | (refine gl (some 34) Tryz.func29 #[.agg #[.bool t389, .slice Ao31 t390.length co31], .agg #[.bool a1_0, .slice A1_1 l1_1.length c1_1]] ?_; (with_reducible refine (o_Cmp.calls kj2 t389 _ _ t390 a1_0 _ _ l1_1 t395 _ ?side1 ?side2 ?side3 ?side4 A15.out).mono ?_); (case side1 => refine (Kd.R_reads' (e := 25) (base := w.heap.size) (ok := fun k_ => True) (n := t390.length) (c := co31) ?_).2.2; exact (rt ((Kd.R_mono (Kd.R_far (p := ⟨gb394, 1, none⟩) (Kd.R_far (p := ⟨gb394, 0, none⟩) (Kd.R_types HO392.out BK394.out (by decide)) (fun _ hk => hk.2) (.bool t389)) (fun _ hk => hk.2) (.slice Ao31 t390.length co31)) (fun _ h_ => h_.1))))); (case side2 => exact (Kd.R_reads' HO392.out).2.1); (case side3 => exact Kd.C_below HR1_1.out (bls HB)); (case side4 => exact HC1_1.out); rintro e w33 ⟨rfl, hb⟩; refine ⟨_, rfl, ?_⟩; replace HO392 := Az (Kd.R_below (rt ((Kd.R_mono (Kd.R_far (p := ⟨gb394, 1, none⟩) (Kd.R_far (p := ⟨gb394, 0, none⟩) (Kd.R_types HO392.out BK394.out (by decide)) (fun _ hk => hk.2) (.bool t389)) (fun _ hk => hk.2) (.slice Ao31 t390.length co31)) (fun _ h_ => h_.1)))) hb); replace BK385 := Az (blk_below (g := gb385) (o := .cells #[.bool a1_0, .slice A1_1 l1_1.length c1_1] 24 (0, 0)) (by refine blk_far ?_ NB385_394.out _; refine blk_far ?_ NB385_394.out _; exact BK385.out) hb); replace BK394 := Az (blk_below (g := gb394) (o := .cells #[.bool t389, .slice Ao31 t390.length co31] 24 (0, 0)) (by refine blk_put (cs := #[.bool t389, .slice none 0 0]) ?_ 1 _ rfl; refine blk_put (cs := #[.bool false, .slice none 0 0]) ?_ 0 _ rfl; exact BK394.out) hb); replace HB := bs HB hb))
    go_ret2
    exact ⟨fe, bls HB⟩
   rw [if_pos c16] at H
   have c16b0 := beq_iff_eq.mpr c16
   have c16b1 := bne_eq_false_iff_eq.mpr c16
   clear c16
   obtain ⟨t396, A17, H⟩ := bd H
   obtain ⟨t397, A18, H⟩ := bd H
   obtain ⟨⟨t398, t399⟩, A19, H⟩ := bd H
   (try dsimp only at H)
   simp only [Option.some.injEq, Prod.mk.injEq] at H
   obtain ⟨rfl, rfl⟩ := H
   go_wp2_with (first | (refine gl (some 23) Tryz.func58 #[.float .f64 (Int.toNat a0), .int .i64 0] ?_; (with_reducible refine (m_IsInf.calls (Int.toNat a0) 0 false _ A10.out).mono ?_); rintro e wc ⟨rfl, hb⟩; replace hb := dr hb; refine ⟨_, rfl, ?_⟩; replace BK385 := kb BK385 hb; replace HB := bs HB hb; clear hb; have hz385_ := bz BK385) | (refine gl (some 29) Tryz.func78 #[.int .u64 a0] ?_; (with_reducible refine (e_Whole.calls kj2 a0 t389 t390 t393 _ A14.out).mono ?_); rintro e w20 ⟨v391, rfl, ho0, hb⟩; refine ⟨_, rfl, ?_⟩; have HO392 := Az (Kd.R_lower ho0 (below_size (bls HB))); replace BK385 := kb BK385 hb; replace HB := bs HB hb) | (refine be 7 #[.bool false, .slice none 0 0] 24 ?_; intro gb394 hg w21 hbox hb; replace HO392 := Az (Kd.R_below (rk HO392) hb); have BK394 := Az (hbox); have GW394 := gw (bls HB) hg; have GE394 := gw (bls HB) hg; replace HB := bs HB hb; have NB385_394 := nl BK385 hg; have NB394_385 := ng BK385 hg; replace BK385 := kb BK385 hb; clear hb hbox hg; have hnb22 := NB394_385.out; have hnc22 := NB385_394.out; have hz23_1 := bz BK394; obtain ⟨Ao24, co24, eo24⟩ := Kd.R_slice HO392.out; subst eo24; have hz25_1 := bz BK385) | (refine gl (some 34) Tryz.func29 #[.agg #[.bool t389, .slice Ao24 t390.length co24], .agg #[.bool a1_0, .slice A1_1 l1_1.length c1_1]] ?_; (with_reducible refine (o_Cmp.calls kj2 t389 _ _ t390 a1_0 _ _ l1_1 t395 _ ?side1 ?side2 ?side3 ?side4 A15.out).mono ?_); (case side1 => refine (Kd.R_reads' (e := 25) (base := w.heap.size) (ok := fun k_ => True) (n := t390.length) (c := co24) ?_).2.2; exact (rt ((Kd.R_mono (Kd.R_far (p := ⟨gb394, 1, none⟩) (Kd.R_far (p := ⟨gb394, 0, none⟩) (Kd.R_types HO392.out BK394.out (by decide)) (fun _ hk => hk.2) (.bool t389)) (fun _ hk => hk.2) (.slice Ao24 t390.length co24)) (fun _ h_ => h_.1))))); (case side2 => exact (Kd.R_reads' HO392.out).2.1); (case side3 => exact Kd.C_below HR1_1.out (bls HB)); (case side4 => exact HC1_1.out); rintro e w26 ⟨rfl, hb⟩; refine ⟨_, rfl, ?_⟩; replace HO392 := Az (Kd.R_below (rt ((Kd.R_mono (Kd.R_far (p := ⟨gb394, 1, none⟩) (Kd.R_far (p := ⟨gb394, 0, none⟩) (Kd.R_types HO392.out BK394.out (by decide)) (fun _ hk => hk.2) (.bool t389)) (fun _ hk => hk.2) (.slice Ao24 t390.length co24)) (fun _ h_ => h_.1)))) hb); replace BK385 := Az (blk_below (g := gb385) (o := .cells #[.bool a1_0, .slice A1_1 l1_1.length c1_1] 24 (0, 0)) (by refine blk_far ?_ NB385_394.out _; refine blk_far ?_ NB385_394.out _; exact BK385.out) hb); replace BK394 := Az (blk_below (g := gb394) (o := .cells #[.bool t389, .slice Ao24 t390.length co24] 24 (0, 0)) (by refine blk_put (cs := #[.bool t389, .slice none 0 0]) ?_ 1 _ rfl; refine blk_put (cs := #[.bool false, .slice none 0 0]) ?_ 0 _ rfl; exact BK394.out) hb); replace HB := bs HB hb) | (refine gl (some 41) Tryz.func79 #[.float .f64 (Int.toNat a0)] ?_; (with_reducible refine (m_Trunc.calls (Int.toNat a0) t396 _ A17.out).mono ?_); rintro e w' ⟨rfl, ⟨nd, rfl⟩⟩; refine ⟨_, rfl, ?_⟩) | (refine gl (some 42) Tryz.func52 #[.float .f64 t396] ?_; (with_reducible refine (e_bare.calls t396 t397 _ A18.out).mono ?_); rintro e w' ⟨rfl, ⟨nd, rfl⟩⟩; refine ⟨_, rfl, ?_⟩) | (refine gl (some 43) Tryz.func48 #[.int .u64 a0, .int .u64 t397] ?_; (with_reducible refine (e_Cmp.calls a0 t397 t398 t399 _ A19.out).mono ?_); rintro e w' ⟨rfl, ⟨nd, rfl⟩⟩; refine ⟨_, rfl, ?_⟩))
   go_ret2
   exact ⟨fe, bls HB⟩
def e_Hash.j0 : Nat → Nat → Int → Option (Int)
 | 0, _, _ => none
 | k + 1, x3, x4 => if (FloatKind.f64.format.order x3 x3 != some Ordering.eq) = true then (some 0) else ((m_IsInf.f x3 0).bind fun t435 => (if t435 = true then (some (wrap64 (x4 * 314159))) else ((m_Abs.f x3).bind fun t436 => ((m_Frexp.f t436).bind fun bt437 => ((m_Ldexp.f bt437.1 53).bind fun t439 => (if inU64 t439 = true then (if 0 ≤ (Int.tmod (wrap64 ((Int.tmod (wrap64 (bt437.2 - 53)) 31) + 31)) 31) then ((bits_Mul64.f (Int.tmod (f2i t439) 2147483647) (shl .u64 1 (Int.tmod (wrap64 ((Int.tmod (wrap64 (bt437.2 - 53)) 31) + 31)) 31))).bind fun bt440 => ((bits_Rem64.f k bt440.1 bt440.2 2147483647).bind fun t442 => (some (wrap64 (x4 * (wrap64 (t442))))))) else (none)) else (none)))))))
def e_Hash.f (k : Nat) (a0 : Int) : Option (Int) := if (FloatKind.f64.format.order (Int.toNat a0) 0 == some Ordering.lt) = true then (e_Hash.j0 k (Int.toNat a0) (-1)) else (e_Hash.j0 k (Int.toNat a0) 1)
theorem e_Hash.mono_l : ∀ k, (∀ y0 y1, LeO (e_Hash.j0 k y0 y1) (e_Hash.j0 (k + 1) y0 y1))
 | 0 => fun _ _ r h => by simp [e_Hash.j0] at h
 | k + 1 => by
  have ih0 := e_Hash.mono_l k
  ·intro y0 y1
   unfold e_Hash.j0
   repeat' first
   | exact ih0 _ _
   | exact bits_Rem64.mono _ _ _ _
   | exact LeO.refl _
   | exact LeO.none _
   | refine LeO.ite ?_ ?_
   | refine LeO.bind ?_ (fun _ => ?_)
theorem e_Hash.mono : ∀ a0 k, LeO (e_Hash.f k a0) (e_Hash.f (k + 1) a0) := by
 intro a0 k
 have ih0 := e_Hash.mono_l k
 unfold e_Hash.f
 repeat' first
   | exact ih0 _ _
   | exact bits_Rem64.mono _ _ _ _
   | exact LeO.refl _
   | exact LeO.none _
   | refine LeO.ite ?_ ?_
   | refine LeO.bind ?_ (fun _ => ?_)
theorem e_Hash.calls (k : Nat) (a0 r : Int) (w : World) (h : e_Hash.f k a0 = some r) :
  Calls Tryz.prog 35 #[.int .u64 a0] w fun e w' => e = .returned (.int .i64 r) ∧ Drawn0 w w' := by
 have H := h
 unfold e_Hash.f at H
 clear h
 have HC2 := Az H
 clear H
 go_enter Tryz.func35, Tryz.ntmps35
 go_upto_if 13 with (fail)
 go_cut [4] (fun v4 wc => ∃ (kq : Nat) (x4_1 : Int), v4 = .int .i64 x4_1 ∧ Aside0 (e_Hash.j0 kq (Int.toNat a0) x4_1 = some r) ∧ Aside0 (kq ≤ k) ∧ Drawn0 w wc)
 case first =>
  have H := HC2.out
  clear HC2
  by_cases c3 : (FloatKind.f64.format.order (Int.toNat a0) 0 == some Ordering.lt) = true
  ·rw [if_pos c3] at H
   have c3b0 : (FloatKind.f64.format.order (Int.toNat a0) 0 == some Ordering.lt) = true := c3
   (try (have c3b1 : decide (FloatKind.f64.format.order (Int.toNat a0) 0 = some Ordering.lt) = true := by simpa using c3))
   (try (have c3b2 : (FloatKind.f64.format.order (Int.toNat a0) 0 == some Ordering.lt) = true := by simpa using c3))
   clear c3
   (first | rw [c3b0] | (simp only [i64_w, i32_w]; rw [c3b0]) | skip)
   have H' := Az H
   clear H
   go_wp2
   go_meet
   case rel => exact ⟨_, ((-1)), rs, H', ⟨le0⟩, by repeat (first | exact Drawn0.refl _ | apply Drawn0.step)⟩
  rw [if_neg c3] at H
  have c3b0 : (FloatKind.f64.format.order (Int.toNat a0) 0 == some Ordering.lt) = false := by simpa using c3
  (try (have c3b1 : decide (FloatKind.f64.format.order (Int.toNat a0) 0 = some Ordering.lt) = false := by simpa using c3))
  (try (have c3b2 : (FloatKind.f64.format.order (Int.toNat a0) 0 == some Ordering.lt) = false := by simpa using c3))
  (try (have c3b3 : ¬ (FloatKind.f64.format.order (Int.toNat a0) 0 = some Ordering.lt) := by simpa using c3))
  clear c3
  (first | rw [c3b0] | (simp only [i64_w, i32_w]; rw [c3b0]) | skip)
  have H' := Az H
  clear H
  go_wp2
  go_meet
  case rel => exact ⟨_, (1), rs, H', ⟨le0⟩, by repeat (first | exact Drawn0.refl _ | apply Drawn0.step)⟩
 case rest =>
  clear HC2
  obtain ⟨kq, x4_1, rfl, HA, HJ1, ⟨mc1, rfl⟩⟩ := hcut
  cases kq with
  | zero => exact absurd HA.out (by simp [e_Hash.j0])
  | succ kj1 =>
   have H := HA.out
   clear HA
   simp only [e_Hash.j0] at H
   by_cases c4 : (FloatKind.f64.format.order (Int.toNat a0) (Int.toNat a0) != some Ordering.eq) = true
   ·rw [if_pos c4] at H
    have c4b0 : (FloatKind.f64.format.order (Int.toNat a0) (Int.toNat a0) != some Ordering.eq) = true := c4
    (try (have c4b1 : decide (FloatKind.f64.format.order (Int.toNat a0) (Int.toNat a0) = some Ordering.eq) = false := by simpa using c4))
    (try (have c4b2 : (FloatKind.f64.format.order (Int.toNat a0) (Int.toNat a0) == some Ordering.eq) = false := by simpa using c4))
    (try (have c4b3 : ¬ (FloatKind.f64.format.order (Int.toNat a0) (Int.toNat a0) = some Ordering.eq) := by simpa using c4))
    clear c4
    obtain rfl := Option.some.inj H
    go_wp2
    go_ret
    exact ⟨by first | rfl | (simp; done) | (simp [*]; done), by repeat (first | exact Drawn0.refl _ | apply Drawn0.step)⟩
   rw [if_neg c4] at H
   have c4b0 : (FloatKind.f64.format.order (Int.toNat a0) (Int.toNat a0) != some Ordering.eq) = false := by simpa using c4
   (try (have c4b1 : decide (FloatKind.f64.format.order (Int.toNat a0) (Int.toNat a0) = some Ordering.eq) = true := by simpa using c4))
   (try (have c4b2 : (FloatKind.f64.format.order (Int.toNat a0) (Int.toNat a0) == some Ordering.eq) = true := by simpa using c4))
   clear c4
   obtain ⟨t435, A5, H⟩ := bd H
   by_cases c6 : t435 = true
   ·subst c6
    rw [if_pos rfl] at H
    obtain rfl := Option.some.inj H
    go_wp2_with (first | (refine gl (some 20) Tryz.func58 #[.float .f64 (Int.toNat a0), .int .i64 0] ?_; (with_reducible refine (m_IsInf.calls (Int.toNat a0) 0 true _ A5.out).mono ?_); rintro e w' ⟨rfl, ⟨nd, rfl⟩⟩; refine ⟨_, rfl, ?_⟩))
    go_ret
    exact ⟨by first | rfl | (simp; done) | (simp [*]; done), by repeat (first | exact Drawn0.refl _ | apply Drawn0.step)⟩
   replace c6 := Bool.eq_false_iff.mpr c6
   subst c6
   rw [if_neg Bool.false_ne_true] at H
   obtain ⟨t436, A7, H⟩ := bd H
   obtain ⟨⟨t437, t438⟩, A8, H⟩ := bd H
   (try dsimp only at H)
   obtain ⟨t439, A9, H⟩ := bd H
   by_cases c10 : inU64 t439 = true
   case neg =>
    rw [if_neg c10] at H
    exact absurd H (by simp)
   rw [if_pos c10] at H
   have c10b0 := eq_true c10
   have c10b1 := decide_eq_true c10
   clear c10
   obtain ⟨ji11, hji11⟩ : ∃ j_ : Int, (Int.tmod (wrap64 ((Int.tmod (wrap64 (t438 - 53)) 31) + 31)) 31) = j_ := ⟨_, rfl⟩
   replace H : (if 0 ≤ (ji11) then ((bits_Mul64.f (Int.tmod (f2i t439) 2147483647) (shl .u64 1 (ji11))).bind fun bt440 => ((bits_Rem64.f kj1 bt440.1 bt440.2 2147483647).bind fun t442 => (some (wrap64 (x4_1 * (wrap64 (t442))))))) else (none)) = some r := by first | (rw [hji11] at H; exact H) | (simp only [hji11] at H ⊢; exact H)
   (try rw [hji11] at A5)
   (try rw [hji11] at A7)
   (try rw [hji11] at A8)
   (try rw [hji11] at A9)
   by_cases c12 : 0 ≤ (ji11)
   case neg =>
    rw [if_neg c12] at H
    exact absurd H (by simp)
   rw [if_pos c12] at H
   have c12b0 := eq_true c12
   have c12b1 := decide_eq_true c12
   clear c12
   obtain ⟨ji13, hji13⟩ : ∃ j_ : Int, (shl .u64 1 (ji11)) = j_ := ⟨_, rfl⟩
   replace H : ((bits_Mul64.f (Int.tmod (f2i t439) 2147483647) (ji13)).bind fun bt440 => ((bits_Rem64.f kj1 bt440.1 bt440.2 2147483647).bind fun t442 => (some (wrap64 (x4_1 * (wrap64 (t442))))))) = some r := by first | (rw [hji13] at H; exact H) | (simp only [hji13] at H ⊢; exact H)
   (try rw [hji13] at A5)
   (try rw [hji13] at A7)
   (try rw [hji13] at A8)
   (try rw [hji13] at A9)
   have hji13_ : (IntKind.u64.wrap (1 * 2 ^ min (ji11).toNat 64)) = ji13 := hji13
   have hji13z : (ji11) ≤ 64 → (IntKind.u64.wrap (1 * 2 ^ (ji11).toNat)) = ji13 := shl_small hji13
   have hji13u : (IntKind.u64.wrap (2 ^ min (ji11).toNat 64)) = ji13 := by have h_ := hji13_; rw [Int.one_mul] at h_; exact h_
   have hji13v : (ji11) ≤ 64 → (IntKind.u64.wrap (2 ^ (ji11).toNat)) = ji13 := fun hle_ => by have h_ := hji13z hle_; rw [Int.one_mul] at h_; exact h_
   obtain ⟨⟨t440, t441⟩, A14, H⟩ := bd H
   (try dsimp only at H)
   obtain ⟨t442, A15, H⟩ := bd H
   obtain rfl := Option.some.inj H
   go_wp2_with (first | (refine gl (some 20) Tryz.func58 #[.float .f64 (Int.toNat a0), .int .i64 0] ?_; (with_reducible refine (m_IsInf.calls (Int.toNat a0) 0 false _ A5.out).mono ?_); rintro e w' ⟨rfl, ⟨nd, rfl⟩⟩; refine ⟨_, rfl, ?_⟩) | (refine gl (some 25) Tryz.func60 #[.float .f64 (Int.toNat a0)] ?_; (with_reducible refine (m_Abs.calls (Int.toNat a0) t436 _ A7.out).mono ?_); rintro e w' ⟨rfl, ⟨nd, rfl⟩⟩; refine ⟨_, rfl, ?_⟩) | (refine gl (some 26) Tryz.func59 #[.float .f64 t436] ?_; (with_reducible refine (m_Frexp.calls t436 t437 t438 _ A8.out).mono ?_); rintro e w' ⟨rfl, ⟨nd, rfl⟩⟩; refine ⟨_, rfl, ?_⟩) | (refine gl (some 30) Tryz.func61 #[.float .f64 t437, .int .i64 53] ?_; (with_reducible refine (m_Ldexp.calls t437 53 t439 _ A9.out).mono ?_); rintro e w' ⟨rfl, ⟨nd, rfl⟩⟩; refine ⟨_, rfl, ?_⟩) | ((with_reducible refine gate_callee (f := 62) rfl ?_); refine goesL_ (some 42) rfl rfl Tryz.func62 (by kernel_rfl) rfl #[.int .u64 (Int.tmod (f2i t439) 2147483647), .int .u64 ji13] rfl (by (try simp only [List.map_toArray, List.map_cons, List.map_nil]); first | done | (simp only [hji13]; rfl) | rfl | (simp only [List.length_drop, List.length_take]; rfl)) ?_; (with_reducible refine (bits_Mul64.calls (Int.tmod (f2i t439) 2147483647) ji13 t440 t441 _ A14.out).mono ?_); rintro e w' ⟨rfl, ⟨nd, rfl⟩⟩; refine ⟨_, rfl, ?_⟩) | (refine gl (some 48) Tryz.func63 #[.int .u64 t440, .int .u64 t441, .int .u64 2147483647] ?_; (with_reducible refine (bits_Rem64.calls kj1 t440 t441 2147483647 t442 _ A15.out).mono ?_); rintro e w' ⟨rfl, ⟨nd, rfl⟩⟩; refine ⟨_, rfl, ?_⟩))
   go_ret
   exact ⟨by first | rfl | (simp; done) | (simp only [← hji11, ← hji13] <;> (first | rfl | simp)) | (simp [*]; done), by repeat (first | exact Drawn0.refl _ | apply Drawn0.step)⟩
def e_HashBig.l0 : Nat → Int → Int → Bool → List Int → Option (Int)
 | 0, _, _, _, _ => none
 | k + 1, x3, x4, x444000, x444001 => if x4 ≥ 0 then ((bits_Mul64.f x3 1000000000000000000).bind fun bt445 => (if 0 ≤ x4 then (if x4 < (x444001.length : Int) then ((bits_Rem64.f k (IntKind.u64.wrap (bt445.1 + (add64c bt445.2 (rd x444001 x4)))) (add64s bt445.2 (rd x444001 x4)) 2147483647).bind fun t448 => (e_HashBig.l0 k t448 (wrap64 (x4 - 1)) x444000 x444001)) else (none)) else (none))) else (if x444000 = true then (some (wrap64 (-(wrap64 (x3))))) else (some (wrap64 (x3))))
def e_HashBig.f (k : Nat) (a0_0 : Bool) (l0_1 : List Int) : Option (Int) := (o_Good.f k a0_0 l0_1).bind fun t444 => (if t444 = true then (e_HashBig.l0 k 0 (wrap64 ((l0_1.length : Int) - 1)) a0_0 l0_1) else (some 0))
theorem e_HashBig.mono_l : ∀ k, (∀ y0 y1 y2 y3, LeO (e_HashBig.l0 k y0 y1 y2 y3) (e_HashBig.l0 (k + 1) y0 y1 y2 y3))
 | 0 => fun _ _ _ _ r h => by simp [e_HashBig.l0] at h
 | k + 1 => by
  have ih0 := e_HashBig.mono_l k
  ·intro y0 y1 y2 y3
   unfold e_HashBig.l0
   repeat' first
   | exact ih0 _ _ _ _
   | exact bits_Rem64.mono _ _ _ _
   | exact o_Good.mono _ _ _
   | exact LeO.refl _
   | exact LeO.none _
   | refine LeO.ite ?_ ?_
   | refine LeO.bind ?_ (fun _ => ?_)
theorem e_HashBig.mono : ∀ a0 a1 k, LeO (e_HashBig.f k a0 a1) (e_HashBig.f (k + 1) a0 a1) := by
 intro a0 a1 k
 have ih0 := e_HashBig.mono_l k
 unfold e_HashBig.f
 repeat' first
   | exact ih0 _ _ _ _
   | exact bits_Rem64.mono _ _ _ _
   | exact o_Good.mono _ _ _
   | exact LeO.refl _
   | exact LeO.none _
   | refine LeO.ite ?_ ?_
   | refine LeO.bind ?_ (fun _ => ?_)
theorem e_HashBig.calls (k : Nat) (a0_0 : Bool) (A0_1 : Option Addr) (c0_1 : Nat) (l0_1 : List Int) (r : Int) (w : World) (hr0_1 : Kd.C (Kd.int .u64) w A0_1 l0_1.length l0_1) (hc0_1 : l0_1.length ≤ c0_1) (h : e_HashBig.f k a0_0 l0_1 = some r) :
  Calls Tryz.prog 36 #[.agg #[.bool a0_0, .slice A0_1 l0_1.length c0_1]] w fun e w' => e = .returned (.int .i64 r) ∧ Below w.heap.size w w' := by
 have hu24 := Tryz.underlying24
 have HR0_1 := Az hr0_1
 have HC0_1 := Az hc0_1
 clear hr0_1 hc0_1
 have HB := Az (Below.refl w.heap.size w)
 have H := h
 unfold e_HashBig.f at H
 clear h
 obtain ⟨t444, A2, H⟩ := bd H
 by_cases c3 : t444 = true
 case neg =>
  replace c3 := Bool.eq_false_iff.mpr c3
  subst c3
  rw [if_neg Bool.false_ne_true] at H
  obtain rfl := Option.some.inj H
  go_enter Tryz.func36, Tryz.ntmps36
  go_wp2_with (first | (refine be 1 #[.bool a0_0, .slice A0_1 l0_1.length c0_1] 24 ?_; intro gb443 hg w17 hbox hb; have BK443 := Az (hbox); have GW443 := gw (bl HB) hg; have GE443 := gw (bl HB) hg; replace HB := bs HB hb; clear hb hbox hg; have hz18_1 := bz BK443) | (refine gl (some 9) Tryz.func47 #[.agg #[.bool a0_0, .slice A0_1 l0_1.length c0_1]] ?_; (with_reducible refine (o_Good.calls k a0_0 _ _ l0_1 false _ (ck HR0_1 HB) HC0_1.out A2.out).mono ?_); rintro e w19 ⟨rfl, hb⟩; refine ⟨_, rfl, ?_⟩; replace BK443 := kb BK443 hb; replace HB := bs HB hb))
  go_ret
  exact ⟨fe, bls HB⟩
 subst c3
 rw [if_pos rfl] at H
 have H' := Az H
 clear H
 go_enter Tryz.func36, Tryz.ntmps36
 go_wp2_with (first | (refine be 1 #[.bool a0_0, .slice A0_1 l0_1.length c0_1] 24 ?_; intro gb443 hg w4 hbox hb; have BK443 := Az (hbox); have GW443 := gw (bl HB) hg; have GE443 := gw (bl HB) hg; replace HB := bs HB hb; clear hb hbox hg; have hz5_1 := bz BK443) | (refine gl (some 9) Tryz.func47 #[.agg #[.bool a0_0, .slice A0_1 l0_1.length c0_1]] ?_; (with_reducible refine (o_Good.calls k a0_0 _ _ l0_1 true _ (ck HR0_1 HB) HC0_1.out A2.out).mono ?_); rintro e w6 ⟨rfl, hb⟩; refine ⟨_, rfl, ?_⟩; replace BK443 := kb BK443 hb; replace HB := bs HB hb; have hz7_1 := bz BK443))
 go_loopg [3, 4] k (fun kq v3 v4 w' => ∃ (x3_1 : Int) (x4_1 : Int), v3 = .int .u64 x3_1 ∧ v4 = .int .i64 x4_1 ∧ Aside0 (e_HashBig.l0 kq x3_1 x4_1 a0_0 l0_1 = some r) ∧ Aside0 (kq ≤ k) ∧ Aside0 (w'.heap[gb443]? = some (.cells #[.bool a0_0, (.slice A0_1 l0_1.length c0_1)] 24 (0, 0))) ∧ Aside0 (Below w.heap.size w w'))
 case atStart => exact ⟨(0), (wrap64 ((l0_1.length : Int) - 1)), rs, rs, H', ⟨Nat.le_refl _⟩, ⟨bk BK443⟩, ⟨bls HB⟩⟩
 case round =>
  clear H'
  obtain ⟨x3_1, x4_1, rfl, rfl, HA, HK1, BK443, HB⟩ := hrel
  cases gk with
  | zero => exact absurd HA.out (by simp [e_HashBig.l0])
  | succ k1 =>
   have H := HA.out
   clear HA
   simp only [e_HashBig.l0] at H
   by_cases c8 : x4_1 ≥ 0
   case neg =>
    rw [if_neg c8] at H
    have c8b0 : decide (0 ≤ x4_1) = false := decide_eq_false c8
    clear c8
    by_cases c14 : a0_0 = true
    ·subst c14
     rw [if_pos rfl] at H
     obtain rfl := Option.some.inj H
     have hz15_1 := bz BK443
     go_wp2
     go_ret
     exact ⟨fe, bls HB⟩
    replace c14 := Bool.eq_false_iff.mpr c14
    subst c14
    rw [if_neg Bool.false_ne_true] at H
    obtain rfl := Option.some.inj H
    have hz16_1 := bz BK443
    go_wp2
    go_ret
    exact ⟨fe, bls HB⟩
   rw [if_pos c8] at H
   have c8b0 : decide (0 ≤ x4_1) = true := decide_eq_true c8
   clear c8
   obtain ⟨⟨t445, t446⟩, A9, H⟩ := bd H
   (try dsimp only at H)
   by_cases c10 : 0 ≤ x4_1
   case neg =>
    rw [if_neg c10] at H
    exact absurd H (by simp)
   rw [if_pos c10] at H
   have c10b0 := decide_eq_true c10
   clear c10
   by_cases c11 : x4_1 < (l0_1.length : Int)
   case neg =>
    rw [if_neg c11] at H
    exact absurd H (by simp)
   rw [if_pos c11] at H
   have c11b0 := decide_eq_true c11
   clear c11
   obtain ⟨t448, A12, H⟩ := bd H
   have H' := Az H
   clear H
   go_wp2_with (first | (refine gl (some 21) Tryz.func62 #[.int .u64 x3_1, .int .u64 1000000000000000000] ?_; (with_reducible refine (bits_Mul64.calls x3_1 1000000000000000000 t445 t446 _ A9.out).mono ?_); rintro e w' ⟨rfl, ⟨nd, rfl⟩⟩; refine ⟨_, rfl, ?_⟩; have hz13_1 := bz BK443; have p447 : 0 ≤ (x4_1 : Int) := ode; have q447 : x4_1 < (l0_1.length : Int) := ode; obtain ⟨ad447, e447, hx447_0⟩ := Kd.at_int HR0_1.out x4_1 p447 q447; cases e447; replace hx447_0 := (HB.out.cell (World.block_lt_of_cell? w _ hx447_0)).trans hx447_0; replace p447 := eq_true p447; replace q447 := eq_true q447) | (refine gl (some 38) Tryz.func63 #[.int .u64 (IntKind.u64.wrap (t445 + (add64c t446 (rd l0_1 x4_1)))), .int .u64 (add64s t446 (rd l0_1 x4_1)), .int .u64 2147483647] ?_; (with_reducible refine (bits_Rem64.calls k1 (IntKind.u64.wrap (t445 + (add64c t446 (rd l0_1 x4_1)))) (add64s t446 (rd l0_1 x4_1)) 2147483647 t448 _ A12.out).mono ?_); rintro e w' ⟨rfl, ⟨nd, rfl⟩⟩; refine ⟨_, rfl, ?_⟩))
   go_roundg k1
   case measure => have := HK1.out; omega
   case rel => exact ⟨(t448), (wrap64 (x4_1 - 1)), rs, rs, H', ⟨by have := HK1.out; omega⟩, ⟨bk BK443⟩, ⟨bls HB⟩⟩
def p_Good.j0 : Nat → Bool → Int → Bool → Bool → List Int → Int → ByteArray → List (S28) → Option (Bool)
 | 0, _, _, _, _, _, _, _, _ => none
 | k + 1, x3, x105000, x105001, x105002, x105003, x105004, x105005, x105006 => if x105000 = 0 then (if x105001 = true then (some false) else (if x3 = true then (if x105004 = 0 then (some (x105005.toList == ([] : List UInt8))) else (some false)) else (some false))) else (if x105000 = 1 then (if x3 = true then (if x105004 = 0 then (some (x105005.toList == ([] : List UInt8))) else (some false)) else (some false)) else (if x105000 = 2 then ((o_Good.f k x105002 x105003).bind fun t105 => (if t105 = true then (if x105001 = true then (some false) else (if x105004 = 0 then (some (x105005.toList == ([] : List UInt8))) else (some false))) else (some false))) else (if x105000 = 3 then (if x3 = true then (if x105001 = true then (some false) else (some (x105005.toList == ([] : List UInt8)))) else (some false)) else (if x105000 = 4 then (if x3 = true then (if x105001 = true then (some false) else (if x105004 = 0 then (some (decide ((x105005.size : Int) ≤ 20000))) else (some false))) else (some false)) else (some false)))))
def p_Good.f (k : Nat) (a0_0 : Int) (a0_1 a0_2 : Bool) (l0_3 : List Int) (a0_4 : Int) (a0_5 : ByteArray) (l0_6 : List (S28)) : Option (Bool) := if (l0_6.length : Int) > 0 then (some false) else (if a0_2 = true then (p_Good.j0 k false a0_0 a0_1 a0_2 l0_3 a0_4 a0_5 l0_6) else (p_Good.j0 k ((l0_3.length : Int) == 0) a0_0 a0_1 a0_2 l0_3 a0_4 a0_5 l0_6))
theorem p_Good.mono_l : ∀ k, (∀ y0 y1 y2 y3 y4 y5 y6 y7, LeO (p_Good.j0 k y0 y1 y2 y3 y4 y5 y6 y7) (p_Good.j0 (k + 1) y0 y1 y2 y3 y4 y5 y6 y7))
 | 0 => fun _ _ _ _ _ _ _ _ r h => by simp [p_Good.j0] at h
 | k + 1 => by
  have ih0 := p_Good.mono_l k
  ·intro y0 y1 y2 y3 y4 y5 y6 y7
   unfold p_Good.j0
   repeat' first
   | exact ih0 _ _ _ _ _ _ _ _
   | exact o_Good.mono _ _ _
   | exact LeO.refl _
   | exact LeO.none _
   | refine LeO.ite ?_ ?_
   | refine LeO.bind ?_ (fun _ => ?_)
theorem p_Good.mono : ∀ a0 a1 a2 a3 a4 a5 a6 k, LeO (p_Good.f k a0 a1 a2 a3 a4 a5 a6) (p_Good.f (k + 1) a0 a1 a2 a3 a4 a5 a6) := by
 intro a0 a1 a2 a3 a4 a5 a6 k
 have ih0 := p_Good.mono_l k
 unfold p_Good.f
 repeat' first
   | exact ih0 _ _ _ _ _ _ _ _
   | exact o_Good.mono _ _ _
   | exact LeO.refl _
   | exact LeO.none _
   | refine LeO.ite ?_ ?_
   | refine LeO.bind ?_ (fun _ => ?_)
theorem p_Good.calls (k : Nat) (a0_0 : Int) (a0_1 a0_2 : Bool) (A0_3 : Option Addr) (c0_3 : Nat) (l0_3 : List Int) (a0_4 : Int) (a0_5 : ByteArray) (A0_6 : Option Addr) (c0_6 : Nat) (l0_6 : List (S28)) (r : Bool) (w : World) (hr0_3 : Kd.C (Kd.int .u64) w A0_3 l0_3.length l0_3) (hc0_3 : l0_3.length ≤ c0_3) (hr0_6 : Kd.C k28 w A0_6 l0_6.length l0_6) (hc0_6 : l0_6.length ≤ c0_6) (h : p_Good.f k a0_0 a0_1 a0_2 l0_3 a0_4 a0_5 l0_6 = some r) :
  Calls Tryz.prog 25 #[.agg #[.int .i64 a0_0, .bool a0_1, .bool a0_2, .slice A0_3 l0_3.length c0_3, .int .u64 a0_4, .string a0_5, .slice A0_6 l0_6.length c0_6]] w fun e w' => e = .returned (.bool r) ∧ Below w.heap.size w w' := by
 have hu28 := Tryz.underlying28
 have hu24 := Tryz.underlying24
 have HR0_3 := Az hr0_3
 have HC0_3 := Az hc0_3
 have HR0_6 := Az hr0_6
 have HC0_6 := Az hc0_6
 have HB := Az (Below.refl w.heap.size w)
 have H := h
 unfold p_Good.f at H
 by_cases c2 : (l0_6.length : Int) > 0
 ·rw [if_pos c2] at H
  obtain rfl := Option.some.inj H
  go_enter Tryz.func25, Tryz.ntmps25
  go_wp2_with (first | ((try (refine gate_guard (by rfl) ?_; dsimp only)); refine be 1 #[.int .i64 a0_0, .bool a0_1, .bool a0_2, .slice A0_3 l0_3.length c0_3, .int .u64 a0_4, .string a0_5, .slice A0_6 l0_6.length c0_6] 28 ?_; intro gb104 hg w3 hbox hb; have BK104 := Az (hbox); have GW104 := gw (bl HB) hg; have GE104 := gw (bl HB) hg; replace HB := bs HB hb; clear hb hbox hg; have hz4_1 := bz BK104))
  go_ret
  exact ⟨fe, bls HB⟩
 rw [if_neg c2] at H
 have HC5 := Az H
 go_enter Tryz.func25, Tryz.ntmps25
 go_upto_region 3 with (first | ((try (refine gate_guard (by rfl) ?_; dsimp only)); refine be 1 #[.int .i64 a0_0, .bool a0_1, .bool a0_2, .slice A0_3 l0_3.length c0_3, .int .u64 a0_4, .string a0_5, .slice A0_6 l0_6.length c0_6] 28 ?_; intro gb104 hg w6 hbox hb; have BK104 := Az (hbox); have GW104 := gw (bl HB) hg; have GE104 := gw (bl HB) hg; replace HB := bs HB hb; clear hb hbox hg; have hz7_1 := bz BK104))
 (try simp only [Act.put, List.setIfInBounds_toArray, List.set_cons_zero, List.set_cons_succ])
 go_cut [3] (fun v3 wc => ∃ (kq : Nat) (x3_4 : Bool), v3 = .bool x3_4 ∧ Aside0 (p_Good.j0 kq x3_4 a0_0 a0_1 a0_2 l0_3 a0_4 a0_5 l0_6 = some r) ∧ Aside0 (kq ≤ k) ∧ Aside0 (wc.heap[gb104]? = some (.cells #[.int .i64 a0_0, .bool a0_1, .bool a0_2, (.slice A0_3 l0_3.length c0_3), .int .u64 a0_4, .string a0_5, (.slice A0_6 l0_6.length c0_6)] 28 (0, 0))) ∧ Aside0 (Below w.heap.size w wc))
 case first =>
  have H := HC5.out
  by_cases c8 : a0_2 = true
  ·subst c8
   rw [if_pos rfl] at H
   have H' := Az H
   have hz9_1 := bz BK104
   go_wp2
   go_meet
   case rel => exact ⟨_, (false), rs, H', ⟨le0⟩, ⟨bk BK104⟩, ⟨bls HB⟩⟩
  replace c8 := Bool.eq_false_iff.mpr c8
  subst c8
  rw [if_neg Bool.false_ne_true] at H
  have H' := Az H
  have hz10_1 := bz BK104
  go_wp2
  go_meet
  case rel => exact ⟨_, (((l0_3.length : Int) == 0)), rs, H', ⟨le0⟩, ⟨bk BK104⟩, ⟨bls HB⟩⟩
 case rest =>
  obtain ⟨kq, x3_4, rfl, HA, HJ4, BK104, HB⟩ := hcut
  cases kq with
  | zero => exact absurd HA.out (by simp [p_Good.j0])
  | succ kj4 =>
   have H := HA.out
   simp only [p_Good.j0] at H
   by_cases c11 : a0_0 = 0
   ·rw [if_pos c11] at H
    by_cases c12 : a0_1 = true
    ·subst c12
     rw [if_pos rfl] at H
     obtain rfl := Option.some.inj H
     have hz13_1 := bz BK104
     go_wp2
     go_ret
     exact ⟨fe, bls HB⟩
    replace c12 := Bool.eq_false_iff.mpr c12
    subst c12
    rw [if_neg Bool.false_ne_true] at H
    by_cases c14 : x3_4 = true
    case neg =>
     replace c14 := Bool.eq_false_iff.mpr c14
     subst c14
     rw [if_neg Bool.false_ne_true] at H
     obtain rfl := Option.some.inj H
     have hz18_1 := bz BK104
     go_wp2
     go_ret
     exact ⟨fe, bls HB⟩
    subst c14
    rw [if_pos rfl] at H
    by_cases c15 : a0_4 = 0
    case neg =>
     rw [if_neg c15] at H
     obtain rfl := Option.some.inj H
     have hz17_1 := bz BK104
     go_wp2
     go_ret
     exact ⟨fe, bls HB⟩
    rw [if_pos c15] at H
    obtain rfl := Option.some.inj H
    have hz16_1 := bz BK104
    go_wp2
    go_ret
    exact ⟨fe, bls HB⟩
   rw [if_neg c11] at H
   by_cases c19 : a0_0 = 1
   ·rw [if_pos c19] at H
    by_cases c20 : x3_4 = true
    case neg =>
     replace c20 := Bool.eq_false_iff.mpr c20
     subst c20
     rw [if_neg Bool.false_ne_true] at H
     obtain rfl := Option.some.inj H
     have hz24_1 := bz BK104
     go_wp2
     go_ret
     exact ⟨fe, bls HB⟩
    subst c20
    rw [if_pos rfl] at H
    by_cases c21 : a0_4 = 0
    case neg =>
     rw [if_neg c21] at H
     obtain rfl := Option.some.inj H
     have hz23_1 := bz BK104
     go_wp2
     go_ret
     exact ⟨fe, bls HB⟩
    rw [if_pos c21] at H
    obtain rfl := Option.some.inj H
    have hz22_1 := bz BK104
    go_wp2
    go_ret
    exact ⟨fe, bls HB⟩
   rw [if_neg c19] at H
   by_cases c25 : a0_0 = 2
   ·rw [if_pos c25] at H
    obtain ⟨t105, A26, H⟩ := bd H
    by_cases c27 : t105 = true
    case neg =>
     replace c27 := Bool.eq_false_iff.mpr c27
     subst c27
     rw [if_neg Bool.false_ne_true] at H
     obtain rfl := Option.some.inj H
     have hz39_1 := bz BK104
     go_wp2_with (first | (refine gl (some 56) Tryz.func47 #[.agg #[.bool a0_2, .slice A0_3 l0_3.length c0_3]] ?_; (with_reducible refine (o_Good.calls kj4 a0_2 _ _ l0_3 false _ (ck HR0_3 HB) HC0_3.out A26.out).mono ?_); rintro e w40 ⟨rfl, hb⟩; refine ⟨_, rfl, ?_⟩; replace BK104 := kb BK104 hb; replace HB := bs HB hb))
     go_ret
     exact ⟨fe, bls HB⟩
    subst c27
    rw [if_pos rfl] at H
    by_cases c28 : a0_1 = true
    ·subst c28
     rw [if_pos rfl] at H
     obtain rfl := Option.some.inj H
     have hz29_1 := bz BK104
     go_wp2_with (first | (refine gl (some 56) Tryz.func47 #[.agg #[.bool a0_2, .slice A0_3 l0_3.length c0_3]] ?_; (with_reducible refine (o_Good.calls kj4 a0_2 _ _ l0_3 true _ (ck HR0_3 HB) HC0_3.out A26.out).mono ?_); rintro e w30 ⟨rfl, hb⟩; refine ⟨_, rfl, ?_⟩; replace BK104 := kb BK104 hb; replace HB := bs HB hb; have hz31_1 := bz BK104))
     go_ret
     exact ⟨fe, bls HB⟩
    replace c28 := Bool.eq_false_iff.mpr c28
    subst c28
    rw [if_neg Bool.false_ne_true] at H
    by_cases c32 : a0_4 = 0
    case neg =>
     rw [if_neg c32] at H
     obtain rfl := Option.some.inj H
     have hz36_1 := bz BK104
     go_wp2_with (first | (refine gl (some 56) Tryz.func47 #[.agg #[.bool a0_2, .slice A0_3 l0_3.length c0_3]] ?_; (with_reducible refine (o_Good.calls kj4 a0_2 _ _ l0_3 true _ (ck HR0_3 HB) HC0_3.out A26.out).mono ?_); rintro e w37 ⟨rfl, hb⟩; refine ⟨_, rfl, ?_⟩; replace BK104 := kb BK104 hb; replace HB := bs HB hb; have hz38_1 := bz BK104))
     go_ret
     exact ⟨fe, bls HB⟩
    rw [if_pos c32] at H
    obtain rfl := Option.some.inj H
    have hz33_1 := bz BK104
    go_wp2_with (first | (refine gl (some 56) Tryz.func47 #[.agg #[.bool a0_2, .slice A0_3 l0_3.length c0_3]] ?_; (with_reducible refine (o_Good.calls kj4 a0_2 _ _ l0_3 true _ (ck HR0_3 HB) HC0_3.out A26.out).mono ?_); rintro e w34 ⟨rfl, hb⟩; refine ⟨_, rfl, ?_⟩; replace BK104 := kb BK104 hb; replace HB := bs HB hb; have hz35_1 := bz BK104))
    go_ret
    exact ⟨fe, bls HB⟩
   rw [if_neg c25] at H
   by_cases c41 : a0_0 = 3
   ·rw [if_pos c41] at H
    by_cases c42 : x3_4 = true
    case neg =>
     replace c42 := Bool.eq_false_iff.mpr c42
     subst c42
     rw [if_neg Bool.false_ne_true] at H
     obtain rfl := Option.some.inj H
     have hz46_1 := bz BK104
     go_wp2
     go_ret
     exact ⟨fe, bls HB⟩
    subst c42
    rw [if_pos rfl] at H
    by_cases c43 : a0_1 = true
    ·subst c43
     rw [if_pos rfl] at H
     obtain rfl := Option.some.inj H
     have hz44_1 := bz BK104
     go_wp2
     go_ret
     exact ⟨fe, bls HB⟩
    replace c43 := Bool.eq_false_iff.mpr c43
    subst c43
    rw [if_neg Bool.false_ne_true] at H
    obtain rfl := Option.some.inj H
    have hz45_1 := bz BK104
    go_wp2
    go_ret
    exact ⟨fe, bls HB⟩
   rw [if_neg c41] at H
   by_cases c47 : a0_0 = 4
   case neg =>
    rw [if_neg c47] at H
    obtain rfl := Option.some.inj H
    have hz55_1 := bz BK104
    go_wp2
    go_ret
    exact ⟨fe, bls HB⟩
   rw [if_pos c47] at H
   by_cases c48 : x3_4 = true
   case neg =>
    replace c48 := Bool.eq_false_iff.mpr c48
    subst c48
    rw [if_neg Bool.false_ne_true] at H
    obtain rfl := Option.some.inj H
    have hz54_1 := bz BK104
    go_wp2
    go_ret
    exact ⟨fe, bls HB⟩
   subst c48
   rw [if_pos rfl] at H
   by_cases c49 : a0_1 = true
   ·subst c49
    rw [if_pos rfl] at H
    obtain rfl := Option.some.inj H
    have hz50_1 := bz BK104
    go_wp2
    go_ret
    exact ⟨fe, bls HB⟩
   replace c49 := Bool.eq_false_iff.mpr c49
   subst c49
   rw [if_neg Bool.false_ne_true] at H
   by_cases c51 : a0_4 = 0
   case neg =>
    rw [if_neg c51] at H
    obtain rfl := Option.some.inj H
    have hz53_1 := bz BK104
    go_wp2
    go_ret
    exact ⟨fe, bls HB⟩
   rw [if_pos c51] at H
   obtain rfl := Option.some.inj H
   have hz52_1 := bz BK104
   go_wp2
   go_ret
   exact ⟨fe, bls HB⟩
def p_count.f (a0_0 : Int) (a0_1 a0_2 : Bool) (l0_3 : List Int) (a0_4 : Int) (a0_5 : ByteArray) (l0_6 : List (S28)) : Option (Bool × List Int) := if a0_0 = 1 then (if a0_1 = true then ((o_Of.f 1).bind fun bt134 => (some (bt134.1, bt134.2))) else (some (false, ([] : List Int)))) else (some (a0_2, l0_3))
theorem p_count.calls (a0_0 : Int) (a0_1 a0_2 : Bool) (P0_3_ : Nat → Prop) (A0_3 : Option Addr) (c0_3 : Nat) (l0_3 : List Int) (a0_4 : Int) (a0_5 : ByteArray) (A0_6 : Option Addr) (c0_6 : Nat) (l0_6 : List (S28)) (r1 : Bool) (r2 : List Int) (w : World) (hs0_3 : Kd.V (Kd.int .u64) 25 w w.heap.size (fun k_ => P0_3_ k_) (.slice A0_3 l0_3.length c0_3) l0_3) (hr0_6 : Kd.C k28 w A0_6 l0_6.length l0_6) (hc0_6 : l0_6.length ≤ c0_6) (h : p_count.f a0_0 a0_1 a0_2 l0_3 a0_4 a0_5 l0_6 = some (r1, r2)) :
  Calls Tryz.prog 37 #[.agg #[.int .i64 a0_0, .bool a0_1, .bool a0_2, .slice A0_3 l0_3.length c0_3, .int .u64 a0_4, .string a0_5, .slice A0_6 l0_6.length c0_6]] w fun e w' => ∃ v1_ : Value, e = .returned (.agg #[.bool r1, v1_]) ∧ Kd.V (Kd.int .u64) 25 w' w.heap.size (fun k_ => (P0_3_ k_ ∨ w.heap.size ≤ k_)) v1_ r2 ∧ Below w.heap.size w w' := by
 have hu28 := Tryz.underlying28
 have hu24 := Tryz.underlying24
 have HO0_3 := Az (show Kd.V (Kd.int .u64) 25 w w.heap.size (fun k_ => (P0_3_ k_ ∨ w.heap.size ≤ k_)) (.slice A0_3 l0_3.length c0_3) l0_3 from Kd.V_mono hs0_3 (fun k_ hk => .inl hk))
 have HR0_6 := Az hr0_6
 have HC0_6 := Az hc0_6
 clear hr0_6 hc0_6
 have HB := Az (Below.refl w.heap.size w)
 have H := h
 unfold p_count.f at H
 clear h
 by_cases c2 : a0_0 = 1
 case neg =>
  rw [if_neg c2] at H
  have c2b0 := beq_eq_false_iff_ne.mpr c2
  have c2b1 := bne_iff_ne.mpr c2
  simp only [Option.some.injEq, Prod.mk.injEq] at H
  obtain ⟨rfl, rfl⟩ := H
  go_enter Tryz.func37, Tryz.ntmps37
  go_wp2_with (first | (refine be 1 #[.int .i64 a0_0, .bool a0_1, .bool a0_2, .slice A0_3 l0_3.length c0_3, .int .u64 a0_4, .string a0_5, .slice A0_6 l0_6.length c0_6] 28 ?_; intro gb132 hg w17 hbox hb; replace HO0_3 := Az (Kd.V_below (Kd.V_elderB (vk HO0_3) gb132 (Nat.le_of_eq hg.symm)) hb); have BK132 := Az (hbox); have GW132 := gw (bl HB) hg; have GE132 := gw (bl HB) hg; replace HB := bs HB hb; clear hb hbox hg) | (refine be 2 #[.bool false, .slice none 0 0] 24 ?_; intro gb133 hg w18 hbox hb; replace HO0_3 := Az (Kd.V_below (Kd.V_elderB (vk HO0_3) gb133 (Nat.le_of_eq hg.symm)) hb); have BK133 := Az (hbox); have GW133 := gw (bls HB) hg; have GE133 := gw (bls HB) hg; replace HB := bs HB hb; have NB132_133 := nl BK132 hg; have NB133_132 := ng BK132 hg; replace BK132 := kb BK132 hb; clear hb hbox hg; have hnb19 := NB132_133.out; have hnc19 := NB133_132.out; have hz20_1 := bz BK132; have hz21_2 := bz BK133))
  refine bodyPost_ret (results_cell_row rfl _ _ gb133 24 #[.bool a0_2, .slice A0_3 l0_3.length c0_3] (0, 0) _ rfl (by refine blk_put (cs := #[.bool a0_2, .slice none 0 0]) ?_ 1 _ rfl; refine blk_put (cs := #[.bool false, .slice none 0 0]) ?_ 0 _ rfl; exact BK133.out) Tryz.underlying24 rfl (by kernel_rfl)) rfl ?_
  exact ⟨_, fe, vt (Kd.V_mono (Kd.V_far (p := ⟨gb133, 1, none⟩) (Kd.V_far (p := ⟨gb133, 0, none⟩) (Kd.V_mono HO0_3.out (fun k_ hk => (⟨hk, hk.2⟩ : _ ∧ k_ ≠ gb133))) (fun _ hk => hk.2) (.bool a0_2)) (fun _ hk => hk.2) (.slice A0_3 l0_3.length c0_3)) (fun _ hk => hk.1.1.1)), bls HB⟩
 rw [if_pos c2] at H
 have c2b0 := beq_iff_eq.mpr c2
 have c2b1 := bne_eq_false_iff_eq.mpr c2
 clear c2
 by_cases c3 : a0_1 = true
 case neg =>
  replace c3 := Bool.eq_false_iff.mpr c3
  subst c3
  rw [if_neg Bool.false_ne_true] at H
  simp only [Option.some.injEq, Prod.mk.injEq] at H
  obtain ⟨rfl, rfl⟩ := H
  go_enter Tryz.func37, Tryz.ntmps37
  go_wp2_with (first | (refine be 1 #[.int .i64 a0_0, .bool false, .bool a0_2, .slice A0_3 l0_3.length c0_3, .int .u64 a0_4, .string a0_5, .slice A0_6 l0_6.length c0_6] 28 ?_; intro gb132 hg w12 hbox hb; replace HO0_3 := Az (Kd.V_below (Kd.V_elderB (vk HO0_3) gb132 (Nat.le_of_eq hg.symm)) hb); have BK132 := Az (hbox); have GW132 := gw (bl HB) hg; have GE132 := gw (bl HB) hg; replace HB := bs HB hb; clear hb hbox hg) | (refine be 2 #[.bool false, .slice none 0 0] 24 ?_; intro gb133 hg w13 hbox hb; replace HO0_3 := Az (Kd.V_below (Kd.V_elderB (vk HO0_3) gb133 (Nat.le_of_eq hg.symm)) hb); have BK133 := Az (hbox); have GW133 := gw (bls HB) hg; have GE133 := gw (bls HB) hg; replace HB := bs HB hb; have NB132_133 := nl BK132 hg; have NB133_132 := ng BK132 hg; replace BK132 := kb BK132 hb; clear hb hbox hg; have hnb14 := NB132_133.out; have hnc14 := NB133_132.out; have hz15_1 := bz BK132; have hz16_2 := bz BK133))
  refine bodyPost_ret (results_cell_row rfl _ _ gb133 24 #[.bool false, .slice none 0 0] (0, 0) _ rfl (by refine blk_put (cs := #[.bool false, .slice none 0 0]) ?_ 1 _ rfl; refine blk_put (cs := #[.bool false, .slice none 0 0]) ?_ 0 _ rfl; exact BK133.out) Tryz.underlying24 rfl (by kernel_rfl)) rfl ?_
  exact ⟨_, fe, Kd.V_nil _ _ _ _ _, bls HB⟩
 subst c3
 rw [if_pos rfl] at H
 obtain ⟨⟨t134, t135⟩, A4, H⟩ := bd H
 (try dsimp only at H)
 simp only [Option.some.injEq, Prod.mk.injEq] at H
 obtain ⟨rfl, rfl⟩ := H
 go_enter Tryz.func37, Tryz.ntmps37
 go_wp2_with (first | (refine be 1 #[.int .i64 a0_0, .bool true, .bool a0_2, .slice A0_3 l0_3.length c0_3, .int .u64 a0_4, .string a0_5, .slice A0_6 l0_6.length c0_6] 28 ?_; intro gb132 hg w5 hbox hb; replace HO0_3 := Az (Kd.V_below (Kd.V_elderB (vk HO0_3) gb132 (Nat.le_of_eq hg.symm)) hb); have BK132 := Az (hbox); have GW132 := gw (bl HB) hg; have GE132 := gw (bl HB) hg; replace HB := bs HB hb; clear hb hbox hg) | (refine be 2 #[.bool false, .slice none 0 0] 24 ?_; intro gb133 hg w6 hbox hb; replace HO0_3 := Az (Kd.V_below (Kd.V_elderB (vk HO0_3) gb133 (Nat.le_of_eq hg.symm)) hb); have BK133 := Az (hbox); have GW133 := gw (bls HB) hg; have GE133 := gw (bls HB) hg; replace HB := bs HB hb; have NB132_133 := nl BK132 hg; have NB133_132 := ng BK132 hg; replace BK132 := kb BK132 hb; clear hb hbox hg; have hnb7 := NB132_133.out; have hnc7 := NB133_132.out; have hz8_1 := bz BK132) | (refine gl (some 8) Tryz.func65 #[.int .i64 1] ?_; (with_reducible refine (o_Of.calls 1 t134 t135 _ A4.out).mono ?_); rintro e w9 ⟨v136, rfl, ho0, hb⟩; refine ⟨_, rfl, ?_⟩; replace HO0_3 := Az (Kd.V_elder' (vk HO0_3) (Kd.R_base ho0) hb); have HO137 := Az (Kd.R_lower (Kd.R_newM (M := fun k_ => (w.heap.size ≤ k_)) ho0 (below_size (bls HB)) (fun k_ h_ => h_)) (below_size (bls HB))); replace BK132 := kb BK132 hb; replace BK133 := kb BK133 hb; replace HB := bs HB hb; have hz10_1 := bz BK133; obtain ⟨Ao11, co11, eo11⟩ := Kd.R_slice HO137.out; subst eo11))
 refine bodyPost_ret (results_cell_row rfl _ _ gb133 24 #[.bool t134, .slice Ao11 t135.length co11] (0, 0) _ rfl (by refine blk_put (cs := #[.bool t134, .slice none 0 0]) ?_ 1 _ rfl; refine blk_put (cs := #[.bool false, .slice none 0 0]) ?_ 0 _ rfl; exact BK133.out) Tryz.underlying24 rfl (by kernel_rfl)) rfl ?_
 exact ⟨_, fe, Kd.V_mono (Kd.R_V (rt (Kd.R_mono (Kd.R_far (p := ⟨gb133, 1, none⟩) (Kd.R_far (p := ⟨gb133, 0, none⟩) (Kd.R_types HO137.out BK133.out (by decide)) (fun _ hk => hk.2) (.bool t134)) (fun _ hk => hk.2) (.slice Ao11 t135.length co11)) (fun _ hk => hk.1.1)))) (fun k_ hk => by first | exact ⟨(.inr (hk.1)), hk.2⟩ | exact (.inr (hk))), bls HB⟩
def p_Hash.f (k : Nat) (a0_0 : Int) (a0_1 a0_2 : Bool) (l0_3 : List Int) (a0_4 : Int) (a0_5 : ByteArray) (l0_6 : List (S28)) : Option (Int) := (p_Good.f k a0_0 a0_1 a0_2 l0_3 a0_4 a0_5 l0_6).bind fun t450 => (if t450 = true then (if a0_0 = 0 then (some 1) else (if a0_0 = 3 then ((e_Hash.f k a0_4).bind fun t451 => (some t451)) else (if a0_0 = 4 then (some (strH a0_5.data.toList a0_5.size)) else ((p_count.f a0_0 a0_1 a0_2 l0_3 a0_4 a0_5 l0_6).bind fun bt452 => ((e_HashBig.f k bt452.1 bt452.2).bind fun t456 => (some t456)))))) else (some 0))
theorem p_Hash.mono : ∀ a0 a1 a2 a3 a4 a5 a6 k, LeO (p_Hash.f k a0 a1 a2 a3 a4 a5 a6) (p_Hash.f (k + 1) a0 a1 a2 a3 a4 a5 a6) := by
 intro a0 a1 a2 a3 a4 a5 a6 k
 unfold p_Hash.f
 repeat' first
   | exact p_Good.mono _ _ _ _ _ _ _ _
   | exact e_Hash.mono _ _
   | exact e_HashBig.mono _ _ _
   | exact LeO.refl _
   | exact LeO.none _
   | refine LeO.ite ?_ ?_
   | refine LeO.bind ?_ (fun _ => ?_)
theorem p_Hash.str (k : Nat) (a0_0 : Int) (a0_1 a0_2 : Bool) (A0_3 : Option Addr) (c0_3 : Nat) (l0_3 : List Int) (a0_4 : Int) (a0_5 : ByteArray) (A0_6 : Option Addr) (c0_6 : Nat) (l0_6 : List (S28)) (r : Int) (w : World) (HR0_3 : Aside0 (Kd.C (Kd.int .u64) w A0_3 l0_3.length l0_3)) (HC0_3 : Aside0 (l0_3.length ≤ c0_3)) (HR0_6 : Aside0 (Kd.C k28 w A0_6 l0_6.length l0_6)) (HC0_6 : Aside0 (l0_6.length ≤ c0_6))
  (A2 : Aside0 (p_Good.f k a0_0 a0_1 a0_2 l0_3 a0_4 a0_5 l0_6 = some true)) (h4 : a0_0 = 4) (H : some (strH a0_5.data.toList a0_5.size) = some r) :
  Calls Tryz.prog 13 #[.agg #[.int .i64 a0_0, .bool a0_1, .bool a0_2, .slice A0_3 l0_3.length c0_3, .int .u64 a0_4, .string a0_5, .slice A0_6 l0_6.length c0_6]] w fun e w' => e = .returned (.int .i64 r) ∧ Below w.heap.size w w' := by
 have hsz : a0_5.size ≤ 20000 := by
  have hg := A2.out
  rw [h4] at hg
  unfold p_Good.f at hg
  cases k with
  | zero => split at hg <;> (try split at hg) <;> simp_all [p_Good.j0]
  | succ k =>
   have key : ∀ x3, p_Good.j0 (k + 1) x3 4 a0_1 a0_2 l0_3 a0_4 a0_5 l0_6 = some true → a0_5.size ≤ 20000 := by
    intro x3 hj
    simp only [p_Good.j0] at hj
    rw [if_neg (by decide), if_neg (by decide), if_neg (by decide), if_neg (by decide), if_pos trivial] at hj
    split at hj
    ·split at hj
     ·simp at hj
     ·split at hj
      ·have := Option.some.inj hj
       have := of_decide_eq_true this
       omega
      ·simp at hj
    ·simp at hj
   split at hg
   ·simp at hg
   ·split at hg
    ·exact key _ hg
    ·exact key _ hg
 subst h4
 have HB := Az (Below.refl w.heap.size w)
 obtain rfl := Option.some.inj H
 clear H
 have HS : Aside0 (a0_5.size ≤ 20000) := ⟨hsz⟩
 clear hsz
 have kb_ := fun W => print_bytes (P := Tryz.prog) 9 43 5 Tryz.underlying9 Tryz.underlying43 Tryz.underlying5 a0_5 W
 go_enter Tryz.func13, Tryz.ntmps13
 go_wp2_with (first | (refine be 1 #[.int .i64 4, .bool a0_1, .bool a0_2, .slice A0_3 l0_3.length c0_3, .int .u64 a0_4, .string a0_5, .slice A0_6 l0_6.length c0_6] 28 ?_; intro gb449 hg w5 hbox hb; have BK449 := Az (hbox); have GW449 := gw (bl HB) hg; replace HB := bs HB hb; clear hb hbox hg; have hz6_1 := bz BK449) | (refine gl (some 7) Tryz.func25 #[.agg #[.int .i64 4, .bool a0_1, .bool a0_2, .slice A0_3 l0_3.length c0_3, .int .u64 a0_4, .string a0_5, .slice A0_6 l0_6.length c0_6]] ?_; (with_reducible refine (p_Good.calls k 4 a0_1 a0_2 _ _ l0_3 a0_4 a0_5 _ _ l0_6 true _ (ck HR0_3 HB) HC0_3.out (ck HR0_6 HB) HC0_6.out A2.out).mono ?_); rintro e w7 ⟨rfl, hb⟩; refine ⟨_, rfl, ?_⟩; replace BK449 := kb BK449 hb; replace HB := bs HB hb; have hz8_1 := bz BK449))
 obtain ⟨W1, hW1⟩ : ∃ W1, W1 = Lib.bytesWorld w7 5 a0_5 := ⟨_, rfl⟩
 have HBW : Aside0 (Below w.heap.size w W1) := ⟨by rw [hW1]; exact bytes_below HB.out (below_size HB.out) 5 a0_5⟩
 have HC : Aside0 (∀ j, j < a0_5.size → W1.cell? ⟨w7.heap.size, j, none⟩ = some (.int .u8 (a0_5.data.toList.getD j 0).toNat)) := ⟨fun j hj => by rw [hW1]; exact Lib.bytesWorld_cell w7 5 a0_5 j hj⟩
 rw [← hW1]
 clear hW1 kb_ HB BK449 hz6_1 hz8_1
 generalize hn : a0_5.data.toList = L at *
 have HL : Aside0 (L.length = a0_5.size) := ⟨by rw [← hn]; simp⟩
 have HN : Aside0 (a0_5.data.toList = L) := ⟨hn⟩
 clear hn
 generalize hz : a0_5.size = n at *
 have HZ : Aside0 (a0_5.size = n) := ⟨hz⟩
 clear hz
 generalize w7.heap.size = g at *
 go_loop [3, 27] (fun h i => ∃ j : Nat, j ≤ n ∧ i = .int .i64 j ∧ h = .int .i64 (strH (L.take j) n)) (fun _ i => n - (intOf i).toNat)
 case atStart => exact ⟨0, Nat.zero_le _, rfl, rfl⟩
 case round =>
  obtain ⟨j, hj, rfl, rfl⟩ := hrel
  have hn2 := HS.out
  have bd := strH_bd (L.take j) n (by omega) (by omega)
  by_cases hlt : j < n
  case neg =>
   have hjn : j = n := by omega
   have HJ : Aside0 (strH (L.take j) n = strH L n) := ⟨by rw [List.take_of_length_le (by rw [HL.out]; omega)]⟩
   clear hjn
   go_wp2
   go_ret
   exact ⟨by rw [HN.out, HZ.out, HJ.out]; rfl, HBW.out⟩
  have hx := HC.out j hlt
  have hs : Aside0 (strH (L.take (j + 1)) n = (31 * strH (L.take j) n + ((L.getD j 0).toNat : Int) + 1) % 2147483647) := ⟨strH_take L n j (by rw [HL.out]; exact hlt)⟩
  have c1 : (L.getD j 0).toNat ≤ 255 := by have := (L.getD j 0).toNat_lt; omega
  obtain ⟨b0, b1⟩ := bd
  generalize (L.getD j 0).toNat = cv at *
  generalize strH (L.take j) n = hv at *
  go_wp2
  go_round
  case rel => exact ⟨j + 1, by omega, by go_num, by rw [hs.out]⟩
  case measure => simp [intOf]; omega
theorem p_Hash.calls (k : Nat) (a0_0 : Int) (a0_1 a0_2 : Bool) (A0_3 : Option Addr) (c0_3 : Nat) (l0_3 : List Int) (a0_4 : Int) (a0_5 : ByteArray) (A0_6 : Option Addr) (c0_6 : Nat) (l0_6 : List (S28)) (r : Int) (w : World) (hr0_3 : Kd.C (Kd.int .u64) w A0_3 l0_3.length l0_3) (hc0_3 : l0_3.length ≤ c0_3) (hr0_6 : Kd.C k28 w A0_6 l0_6.length l0_6) (hc0_6 : l0_6.length ≤ c0_6) (h : p_Hash.f k a0_0 a0_1 a0_2 l0_3 a0_4 a0_5 l0_6 = some r) :
  Calls Tryz.prog 13 #[.agg #[.int .i64 a0_0, .bool a0_1, .bool a0_2, .slice A0_3 l0_3.length c0_3, .int .u64 a0_4, .string a0_5, .slice A0_6 l0_6.length c0_6]] w fun e w' => e = .returned (.int .i64 r) ∧ Below w.heap.size w w' := by
 have hu28 := Tryz.underlying28
 have HR0_3 := Az hr0_3
 have HC0_3 := Az hc0_3
 clear hr0_3 hc0_3
 have HR0_6 := Az hr0_6
 have HC0_6 := Az hc0_6
 clear hr0_6 hc0_6
 have HB := Az (Below.refl w.heap.size w)
 have H := h
 unfold p_Hash.f at H
 clear h
 obtain ⟨t450, A2, H⟩ := bd H
 by_cases c3 : t450 = true
 case neg =>
  replace c3 := Bool.eq_false_iff.mpr c3
  subst c3
  rw [if_neg Bool.false_ne_true] at H
  obtain rfl := Option.some.inj H
  go_enter Tryz.func13, Tryz.ntmps13
  go_wp2_with (first | (refine be 1 #[.int .i64 a0_0, .bool a0_1, .bool a0_2, .slice A0_3 l0_3.length c0_3, .int .u64 a0_4, .string a0_5, .slice A0_6 l0_6.length c0_6] 28 ?_; intro gb449 hg w25 hbox hb; have BK449 := Az (hbox); have GW449 := gw (bl HB) hg; have GE449 := gw (bl HB) hg; replace HB := bs HB hb; clear hb hbox hg; have hz26_1 := bz BK449) | (refine gl (some 7) Tryz.func25 #[.agg #[.int .i64 a0_0, .bool a0_1, .bool a0_2, .slice A0_3 l0_3.length c0_3, .int .u64 a0_4, .string a0_5, .slice A0_6 l0_6.length c0_6]] ?_; (with_reducible refine (p_Good.calls k a0_0 a0_1 a0_2 _ _ l0_3 a0_4 a0_5 _ _ l0_6 false _ (ck HR0_3 HB) HC0_3.out (ck HR0_6 HB) HC0_6.out A2.out).mono ?_); rintro e w27 ⟨rfl, hb⟩; refine ⟨_, rfl, ?_⟩; replace BK449 := kb BK449 hb; replace HB := bs HB hb))
  go_ret
  exact ⟨fe, bls HB⟩
 subst c3
 rw [if_pos rfl] at H
 by_cases c4 : a0_0 = 0
 ·rw [if_pos c4] at H
  have c4b0 := beq_iff_eq.mpr c4
  have c4b1 := bne_eq_false_iff_eq.mpr c4
  clear c4
  obtain rfl := Option.some.inj H
  go_enter Tryz.func13, Tryz.ntmps13
  go_wp2_with (first | (refine be 1 #[.int .i64 a0_0, .bool a0_1, .bool a0_2, .slice A0_3 l0_3.length c0_3, .int .u64 a0_4, .string a0_5, .slice A0_6 l0_6.length c0_6] 28 ?_; intro gb449 hg w5 hbox hb; have BK449 := Az (hbox); have GW449 := gw (bl HB) hg; have GE449 := gw (bl HB) hg; replace HB := bs HB hb; clear hb hbox hg; have hz6_1 := bz BK449) | (refine gl (some 7) Tryz.func25 #[.agg #[.int .i64 a0_0, .bool a0_1, .bool a0_2, .slice A0_3 l0_3.length c0_3, .int .u64 a0_4, .string a0_5, .slice A0_6 l0_6.length c0_6]] ?_; (with_reducible refine (p_Good.calls k a0_0 a0_1 a0_2 _ _ l0_3 a0_4 a0_5 _ _ l0_6 true _ (ck HR0_3 HB) HC0_3.out (ck HR0_6 HB) HC0_6.out A2.out).mono ?_); rintro e w7 ⟨rfl, hb⟩; refine ⟨_, rfl, ?_⟩; replace BK449 := kb BK449 hb; replace HB := bs HB hb; have hz8_1 := bz BK449))
  go_ret
  exact ⟨fe, bls HB⟩
 rw [if_neg c4] at H
 have c4b0 := beq_eq_false_iff_ne.mpr c4
 have c4b1 := bne_iff_ne.mpr c4
 by_cases c9 : a0_0 = 3
 ·rw [if_pos c9] at H
  have c9b0 := beq_iff_eq.mpr c9
  have c9b1 := bne_eq_false_iff_eq.mpr c9
  clear c9
  obtain ⟨t451, A10, H⟩ := bd H
  obtain rfl := Option.some.inj H
  go_enter Tryz.func13, Tryz.ntmps13
  go_wp2_with (first | (refine be 1 #[.int .i64 a0_0, .bool a0_1, .bool a0_2, .slice A0_3 l0_3.length c0_3, .int .u64 a0_4, .string a0_5, .slice A0_6 l0_6.length c0_6] 28 ?_; intro gb449 hg w11 hbox hb; have BK449 := Az (hbox); have GW449 := gw (bl HB) hg; have GE449 := gw (bl HB) hg; replace HB := bs HB hb; clear hb hbox hg; have hz12_1 := bz BK449) | (refine gl (some 7) Tryz.func25 #[.agg #[.int .i64 a0_0, .bool a0_1, .bool a0_2, .slice A0_3 l0_3.length c0_3, .int .u64 a0_4, .string a0_5, .slice A0_6 l0_6.length c0_6]] ?_; (with_reducible refine (p_Good.calls k a0_0 a0_1 a0_2 _ _ l0_3 a0_4 a0_5 _ _ l0_6 true _ (ck HR0_3 HB) HC0_3.out (ck HR0_6 HB) HC0_6.out A2.out).mono ?_); rintro e w13 ⟨rfl, hb⟩; refine ⟨_, rfl, ?_⟩; replace BK449 := kb BK449 hb; replace HB := bs HB hb; have hz14_1 := bz BK449) | (refine gl (some 17) Tryz.func35 #[.int .u64 a0_4] ?_; (with_reducible refine (e_Hash.calls k a0_4 t451 _ A10.out).mono ?_); rintro e w' ⟨rfl, ⟨nd, rfl⟩⟩; refine ⟨_, rfl, ?_⟩))
  go_ret
  exact ⟨fe, bls HB⟩
 rw [if_neg c9] at H
 have c9b0 := beq_eq_false_iff_ne.mpr c9
 have c9b1 := bne_iff_ne.mpr c9
 by_cases c15 : a0_0 = 4
 ·rw [if_pos c15] at H
  have c15b0 := beq_iff_eq.mpr c15
  have c15b1 := bne_eq_false_iff_eq.mpr c15
  clear c15
  exact p_Hash.str k a0_0 a0_1 a0_2 A0_3 c0_3 l0_3 a0_4 a0_5 A0_6 c0_6 l0_6 r w HR0_3 HC0_3 HR0_6 HC0_6 (by assumption) (eq_of_beq (by assumption)) H
 rw [if_neg c15] at H
 have c15b0 := beq_eq_false_iff_ne.mpr c15
 have c15b1 := bne_iff_ne.mpr c15
 obtain ⟨⟨t452, t453⟩, A16, H⟩ := bd H
 (try dsimp only at H)
 obtain ⟨t456, A17, H⟩ := bd H
 obtain rfl := Option.some.inj H
 go_enter Tryz.func13, Tryz.ntmps13
 go_wp2_with (first | (refine be 1 #[.int .i64 a0_0, .bool a0_1, .bool a0_2, .slice A0_3 l0_3.length c0_3, .int .u64 a0_4, .string a0_5, .slice A0_6 l0_6.length c0_6] 28 ?_; intro gb449 hg w18 hbox hb; have BK449 := Az (hbox); have GW449 := gw (bl HB) hg; have GE449 := gw (bl HB) hg; replace HB := bs HB hb; clear hb hbox hg; have hz19_1 := bz BK449) | (refine gl (some 7) Tryz.func25 #[.agg #[.int .i64 a0_0, .bool a0_1, .bool a0_2, .slice A0_3 l0_3.length c0_3, .int .u64 a0_4, .string a0_5, .slice A0_6 l0_6.length c0_6]] ?_; (with_reducible refine (p_Good.calls k a0_0 a0_1 a0_2 _ _ l0_3 a0_4 a0_5 _ _ l0_6 true _ (ck HR0_3 HB) HC0_3.out (ck HR0_6 HB) HC0_6.out A2.out).mono ?_); rintro e w20 ⟨rfl, hb⟩; refine ⟨_, rfl, ?_⟩; replace BK449 := kb BK449 hb; replace HB := bs HB hb; have hz21_1 := bz BK449) | (refine gl (some 41) Tryz.func37 #[.agg #[.int .i64 a0_0, .bool a0_1, .bool a0_2, .slice A0_3 l0_3.length c0_3, .int .u64 a0_4, .string a0_5, .slice A0_6 l0_6.length c0_6]] ?_; (with_reducible refine (p_count.calls a0_0 a0_1 a0_2 (fun k_ => k_ < w.heap.size) _ _ l0_3 a0_4 a0_5 _ _ l0_6 t452 t453 _ ?side1 (ck HR0_6 HB) HC0_6.out A16.out).mono ?_); (case side1 => exact Kd.V_mk HC0_3.out (Kd.F_below (Kd.C_F (Kd.heap_int .u64) HR0_3.out) (bls HB))); rintro e w22 ⟨v454, rfl, ho0, hb⟩; refine ⟨_, rfl, ?_⟩; have HO455 := Az (Kd.V_lower (Kd.V_mono (ok' := fun k_ => k_ ≠ gb449) ho0 (fun k_ hk_ => Or.elim hk_ (fun hs_ => fun e_ => Nat.not_le.2 hs_ (by rw [e_]; exact GW449.out)) (fun hn_ => (Kd.freshB (g := gb449) (o := .cells #[.int .i64 a0_0, .bool a0_1, .bool a0_2, .slice A0_3 l0_3.length c0_3, .int .u64 a0_4, .string a0_5, .slice A0_6 l0_6.length c0_6] 28 (0, 0)) (bk BK449) k_ hn_)))) (below_size (bls HB))); replace BK449 := kb BK449 hb; replace HB := bs HB hb; obtain ⟨Ao23, co23, eo23⟩ := Kd.V_slice HO455.out; subst eo23) | (refine gl (some 42) Tryz.func36 #[.agg #[.bool t452, .slice Ao23 t453.length co23]] ?_; (with_reducible refine (e_HashBig.calls k t452 _ _ t453 t456 _ ?side1 (Kd.V_reads' HO455.out).2.1 A17.out).mono ?_); (case side1 => exact (Kd.V_reads' HO455.out).2.2); rintro e w24 ⟨rfl, hb⟩; refine ⟨_, rfl, ?_⟩; replace HO455 := Az (Kd.V_below (vk HO455) hb); replace BK449 := kb BK449 hb; replace HB := bs HB hb))
 go_ret
 exact ⟨fe, bls HB⟩
def p_number.f (a0_0 : Int) (a0_1 a0_2 : Bool) (l0_3 : List Int) (a0_4 : Int) (a0_5 : ByteArray) (l0_6 : List (S28)) : Option (Bool) := if a0_0 ≥ 1 then (some (decide (a0_0 ≤ 3))) else (some false)
theorem p_number.calls (a0_0 : Int) (a0_1 a0_2 : Bool) (A0_3 : Option Addr) (c0_3 : Nat) (l0_3 : List Int) (a0_4 : Int) (a0_5 : ByteArray) (A0_6 : Option Addr) (c0_6 : Nat) (l0_6 : List (S28)) (r : Bool) (w : World) (hr0_3 : Kd.C (Kd.int .u64) w A0_3 l0_3.length l0_3) (hc0_3 : l0_3.length ≤ c0_3) (hr0_6 : Kd.C k28 w A0_6 l0_6.length l0_6) (hc0_6 : l0_6.length ≤ c0_6) (h : p_number.f a0_0 a0_1 a0_2 l0_3 a0_4 a0_5 l0_6 = some r) :
  Calls Tryz.prog 26 #[.agg #[.int .i64 a0_0, .bool a0_1, .bool a0_2, .slice A0_3 l0_3.length c0_3, .int .u64 a0_4, .string a0_5, .slice A0_6 l0_6.length c0_6]] w fun e w' => e = .returned (.bool r) ∧ Below w.heap.size w w' := by
 have hu28 := Tryz.underlying28
 have HR0_3 := Az hr0_3
 have HC0_3 := Az hc0_3
 clear hr0_3 hc0_3
 have HR0_6 := Az hr0_6
 have HC0_6 := Az hc0_6
 clear hr0_6 hc0_6
 have HB := Az (Below.refl w.heap.size w)
 have H := h
 unfold p_number.f at H
 clear h
 by_cases c2 : a0_0 ≥ 1
 ·rw [if_pos c2] at H
  have c2b0 : decide (1 ≤ a0_0) = true := decide_eq_true c2
  clear c2
  obtain rfl := Option.some.inj H
  go_enter Tryz.func26, Tryz.ntmps26
  go_wp2_with (first | (refine be 1 #[.int .i64 a0_0, .bool a0_1, .bool a0_2, .slice A0_3 l0_3.length c0_3, .int .u64 a0_4, .string a0_5, .slice A0_6 l0_6.length c0_6] 28 ?_; intro gb106 hg w3 hbox hb; have BK106 := Az (hbox); have GW106 := gw (bl HB) hg; have GE106 := gw (bl HB) hg; replace HB := bs HB hb; clear hb hbox hg; have hz4_1 := bz BK106))
  go_ret
  exact ⟨fe, bls HB⟩
 rw [if_neg c2] at H
 have c2b0 : decide (1 ≤ a0_0) = false := decide_eq_false c2
 clear c2
 obtain rfl := Option.some.inj H
 go_enter Tryz.func26, Tryz.ntmps26
 go_wp2_with (first | (refine be 1 #[.int .i64 a0_0, .bool a0_1, .bool a0_2, .slice A0_3 l0_3.length c0_3, .int .u64 a0_4, .string a0_5, .slice A0_6 l0_6.length c0_6] 28 ?_; intro gb106 hg w5 hbox hb; have BK106 := Az (hbox); have GW106 := gw (bl HB) hg; have GE106 := gw (bl HB) hg; replace HB := bs HB hb; clear hb hbox hg; have hz6_1 := bz BK106))
 go_ret
 exact ⟨fe, bls HB⟩
def p_order.j0 : Nat → Bool → Int → Bool → Bool → List Int → Int → ByteArray → List (S28) → Int → Bool → Bool → List Int → Int → ByteArray → List (S28) → Option (Int × Bool)
 | 0, _, _, _, _, _, _, _, _, _, _, _, _, _, _, _ => none
 | k + 1, x8, x401000, x401001, x401002, x401003, x401004, x401005, x401006, x402000, x402001, x402002, x402003, x402004, x402005, x402006 => if x8 = true then ((e_Cmp.f x401004 x402004).bind fun bt402 => (some (bt402.1, bt402.2))) else (if x401000 = 3 then ((p_count.f x402000 x402001 x402002 x402003 x402004 x402005 x402006).bind fun bt404 => ((e_CmpBig.f k x401004 bt404.1 bt404.2).bind fun bt408 => (some (bt408.1, bt408.2)))) else (if x402000 = 3 then ((p_count.f x401000 x401001 x401002 x401003 x401004 x401005 x401006).bind fun bt410 => ((e_CmpBig.f k x402004 bt410.1 bt410.2).bind fun bt414 => (some (wrap64 (-bt414.1), bt414.2)))) else ((p_count.f x401000 x401001 x401002 x401003 x401004 x401005 x401006).bind fun bt416 => ((p_count.f x402000 x402001 x402002 x402003 x402004 x402005 x402006).bind fun bt420 => ((o_Cmp.f k bt416.1 bt416.2 bt420.1 bt420.2).bind fun t424 => (some (t424, true)))))))
def p_order.f (k : Nat) (a0_0 : Int) (a0_1 a0_2 : Bool) (l0_3 : List Int) (a0_4 : Int) (a0_5 : ByteArray) (l0_6 : List (S28)) (a1_0 : Int) (a1_1 a1_2 : Bool) (l1_3 : List Int) (a1_4 : Int) (a1_5 : ByteArray) (l1_6 : List (S28)) : Option (Int × Bool) := if a0_0 = 3 then (p_order.j0 k (a1_0 == 3) a0_0 a0_1 a0_2 l0_3 a0_4 a0_5 l0_6 a1_0 a1_1 a1_2 l1_3 a1_4 a1_5 l1_6) else (p_order.j0 k false a0_0 a0_1 a0_2 l0_3 a0_4 a0_5 l0_6 a1_0 a1_1 a1_2 l1_3 a1_4 a1_5 l1_6)
theorem p_order.mono_l : ∀ k, (∀ y0 y1 y2 y3 y4 y5 y6 y7 y8 y9 y10 y11 y12 y13 y14, LeO (p_order.j0 k y0 y1 y2 y3 y4 y5 y6 y7 y8 y9 y10 y11 y12 y13 y14) (p_order.j0 (k + 1) y0 y1 y2 y3 y4 y5 y6 y7 y8 y9 y10 y11 y12 y13 y14))
 | 0 => fun _ _ _ _ _ _ _ _ _ _ _ _ _ _ _ r h => by simp [p_order.j0] at h
 | k + 1 => by
  have ih0 := p_order.mono_l k
  ·intro y0 y1 y2 y3 y4 y5 y6 y7 y8 y9 y10 y11 y12 y13 y14
   unfold p_order.j0
   repeat' first
   | exact ih0 _ _ _ _ _ _ _ _ _ _ _ _ _ _ _
   | exact e_CmpBig.mono _ _ _ _
   | exact o_Cmp.mono _ _ _ _ _
   | exact LeO.refl _
   | exact LeO.none _
   | refine LeO.ite ?_ ?_
   | refine LeO.bind ?_ (fun _ => ?_)
theorem p_order.mono : ∀ a0 a1 a2 a3 a4 a5 a6 a7 a8 a9 a10 a11 a12 a13 k, LeO (p_order.f k a0 a1 a2 a3 a4 a5 a6 a7 a8 a9 a10 a11 a12 a13) (p_order.f (k + 1) a0 a1 a2 a3 a4 a5 a6 a7 a8 a9 a10 a11 a12 a13) := by
 intro a0 a1 a2 a3 a4 a5 a6 a7 a8 a9 a10 a11 a12 a13 k
 have ih0 := p_order.mono_l k
 unfold p_order.f
 repeat' first
   | exact ih0 _ _ _ _ _ _ _ _ _ _ _ _ _ _ _
   | exact e_CmpBig.mono _ _ _ _
   | exact o_Cmp.mono _ _ _ _ _
   | exact LeO.refl _
   | exact LeO.none _
   | refine LeO.ite ?_ ?_
   | refine LeO.bind ?_ (fun _ => ?_)
def p_order.T4 : Bool × List (List Nat × List Nat) := (true, [([], []), ([0], [0]), ([], []), ([2], [2]), ([1, 3, 3], [1, 3]), ([4], [4]), ([4], [4]), ([5, 4, 0, 1, 2, 3, 4, 5, 6], [5]), ([6, 7, 0, 1, 2, 3, 4, 5, 6, 7], [6])])
def p_order.B4 : List Nat := [0, 1, 0, 4, 15, 31, 31, 127, 255]
theorem p_order.tab4 : rtab .any (opsOf Tryz.f27 4) = p_order.T4 := by kernel_rfl
theorem p_order.bits4 : waitsOk p_order.T4.2 p_order.B4 = true := by kernel_rfl
def p_order.T6 : Bool × List (List Nat × List Nat) := (true, [([], []), ([0], [0]), ([], []), ([2], [2]), ([1, 3, 3], [1, 3]), ([4], [4]), ([5], [5]), ([5], [5]), ([6, 4, 0, 1, 2, 3, 4, 5, 6], [6]), ([7, 8, 0, 1, 2, 3, 4, 5, 6, 7, 8], [7])])
def p_order.B6 : List Nat := [0, 1, 0, 4, 15, 31, 63, 63, 127, 511]
theorem p_order.tab6 : rtab .any (opsOf Tryz.f27 6) = p_order.T6 := by kernel_rfl
theorem p_order.bits6 : waitsOk p_order.T6.2 p_order.B6 = true := by kernel_rfl
theorem p_order.calls (k : Nat) (a0_0 : Int) (a0_1 a0_2 : Bool) (A0_3 : Option Addr) (c0_3 : Nat) (l0_3 : List Int) (a0_4 : Int) (a0_5 : ByteArray) (A0_6 : Option Addr) (c0_6 : Nat) (l0_6 : List (S28)) (a1_0 : Int) (a1_1 a1_2 : Bool) (A1_3 : Option Addr) (c1_3 : Nat) (l1_3 : List Int) (a1_4 : Int) (a1_5 : ByteArray) (A1_6 : Option Addr) (c1_6 : Nat) (l1_6 : List (S28)) (r1 : Int) (r2 : Bool) (w : World) (hr0_3 : Kd.C (Kd.int .u64) w A0_3 l0_3.length l0_3) (hc0_3 : l0_3.length ≤ c0_3) (hr0_6 : Kd.C k28 w A0_6 l0_6.length l0_6) (hc0_6 : l0_6.length ≤ c0_6) (hr1_3 : Kd.C (Kd.int .u64) w A1_3 l1_3.length l1_3) (hc1_3 : l1_3.length ≤ c1_3) (hr1_6 : Kd.C k28 w A1_6 l1_6.length l1_6) (hc1_6 : l1_6.length ≤ c1_6) (h : p_order.f k a0_0 a0_1 a0_2 l0_3 a0_4 a0_5 l0_6 a1_0 a1_1 a1_2 l1_3 a1_4 a1_5 l1_6 = some (r1, r2)) :
  Calls Tryz.prog 27 #[.agg #[.int .i64 a0_0, .bool a0_1, .bool a0_2, .slice A0_3 l0_3.length c0_3, .int .u64 a0_4, .string a0_5, .slice A0_6 l0_6.length c0_6], .agg #[.int .i64 a1_0, .bool a1_1, .bool a1_2, .slice A1_3 l1_3.length c1_3, .int .u64 a1_4, .string a1_5, .slice A1_6 l1_6.length c1_6]] w fun e w' => e = .returned (.tuple #[.int .i64 r1, .bool r2]) ∧ Below w.heap.size w w' := by
 have hu28 := Tryz.underlying28
 have HR0_3 := Az hr0_3
 have HC0_3 := Az hc0_3
 clear hr0_3 hc0_3
 have HR0_6 := Az hr0_6
 have HC0_6 := Az hc0_6
 clear hr0_6 hc0_6
 have HR1_3 := Az hr1_3
 have HC1_3 := Az hc1_3
 clear hr1_3 hc1_3
 have HR1_6 := Az hr1_6
 have HC1_6 := Az hc1_6
 clear hr1_6 hc1_6
 have HB := Az (Below.refl w.heap.size w)
 have H := h
 unfold p_order.f at H
 clear h
 have HC3 := Az H
 clear H
 go_enter Tryz.func27, Tryz.ntmps27
 go_upto_region 1 with (first | (refine be 2 #[.int .i64 a0_0, .bool a0_1, .bool a0_2, .slice A0_3 l0_3.length c0_3, .int .u64 a0_4, .string a0_5, .slice A0_6 l0_6.length c0_6] 28 ?_; intro gb400 hg w4 hbox hb; have BK400 := Az (hbox); have GW400 := gw (bl HB) hg; have GE400 := gw (bl HB) hg; replace HB := bs HB hb; clear hb hbox hg) | (refine be 3 #[.int .i64 a1_0, .bool a1_1, .bool a1_2, .slice A1_3 l1_3.length c1_3, .int .u64 a1_4, .string a1_5, .slice A1_6 l1_6.length c1_6] 28 ?_; intro gb401 hg w5 hbox hb; have BK401 := Az (hbox); have GW401 := gw (bls HB) hg; have GE401 := gw (bls HB) hg; replace HB := bs HB hb; have NB400_401 := nl BK400 hg; have NB401_400 := ng BK400 hg; replace BK400 := kb BK400 hb; clear hb hbox hg))
 go_cut [8] (fun v8 wc => ∃ (kq : Nat) (x8_2 : Bool), v8 = .bool x8_2 ∧ Aside0 (p_order.j0 kq x8_2 a0_0 a0_1 a0_2 l0_3 a0_4 a0_5 l0_6 a1_0 a1_1 a1_2 l1_3 a1_4 a1_5 l1_6 = some (r1, r2)) ∧ Aside0 (kq ≤ k) ∧ Aside0 (wc.heap[gb400]? = some (.cells #[.int .i64 a0_0, .bool a0_1, .bool a0_2, (.slice A0_3 l0_3.length c0_3), .int .u64 a0_4, .string a0_5, (.slice A0_6 l0_6.length c0_6)] 28 (0, 0))) ∧ Aside0 (wc.heap[gb401]? = some (.cells #[.int .i64 a1_0, .bool a1_1, .bool a1_2, (.slice A1_3 l1_3.length c1_3), .int .u64 a1_4, .string a1_5, (.slice A1_6 l1_6.length c1_6)] 28 (0, 0))) ∧ Aside0 (Below w.heap.size w wc))
 case first =>
  have H := HC3.out
  clear HC3
  by_cases c6 : a0_0 = 3
  case neg =>
   rw [if_neg c6] at H
   have c6b0 := beq_eq_false_iff_ne.mpr c6
   have c6b1 := bne_iff_ne.mpr c6
   (first | rw [c6b0] | (simp only [i64_w, i32_w]; rw [c6b0]) | skip)
   have H' := Az H
   clear H
   have hnb10 := NB400_401.out
   have hnc10 := NB401_400.out
   have hz11_1 := bz BK400
   go_wp2
   go_meet
   case rel => exact ⟨_, (false), rs, H', ⟨le0⟩, ⟨bk BK400⟩, ⟨bk BK401⟩, ⟨bls HB⟩⟩
  rw [if_pos c6] at H
  have c6b0 := beq_iff_eq.mpr c6
  have c6b1 := bne_eq_false_iff_eq.mpr c6
  clear c6
  (first | rw [c6b0] | (simp only [i64_w, i32_w]; rw [c6b0]) | skip)
  have H' := Az H
  clear H
  have hnb7 := NB400_401.out
  have hnc7 := NB401_400.out
  have hz8_1 := bz BK400
  have hz9_2 := bz BK401
  go_wp2
  go_meet
  case rel => exact ⟨_, ((a1_0 == 3)), rs, H', ⟨le0⟩, ⟨bk BK400⟩, ⟨bk BK401⟩, ⟨bls HB⟩⟩
 case rest =>
  clear HC3
  obtain ⟨kq, x8_2, rfl, HA, HJ2, BK400, BK401, HB⟩ := hcut
  cases kq with
  | zero => exact absurd HA.out (by simp [p_order.j0])
  | succ kj2 =>
   have H := HA.out
   clear HA
   simp only [p_order.j0] at H
   by_cases c12 : x8_2 = true
   ·subst c12
    rw [if_pos rfl] at H
    obtain ⟨⟨t402, t403⟩, A13, H⟩ := bd H
    simp only [Option.some.injEq, Prod.mk.injEq] at H
    obtain ⟨rfl, rfl⟩ := H
    have hnb14 := NB400_401.out
    have hnc14 := NB401_400.out
    have hz15_1 := bz BK400
    have hz16_2 := bz BK401
    go_wp2_with (first | (refine gl (some 21) Tryz.func48 #[.int .u64 a0_4, .int .u64 a1_4] ?_; (with_reducible refine (e_Cmp.calls a0_4 a1_4 t402 t403 _ A13.out).mono ?_); rintro e w' ⟨rfl, ⟨nd, rfl⟩⟩; refine ⟨_, rfl, ?_⟩))
    go_ret2
    exact ⟨fe, bls HB⟩
   replace c12 := Bool.eq_false_iff.mpr c12
   subst c12
   rw [if_neg Bool.false_ne_true] at H
   by_cases c17 : a0_0 = 3
   ·rw [if_pos c17] at H
    have c17b0 := beq_iff_eq.mpr c17
    have c17b1 := bne_eq_false_iff_eq.mpr c17
    clear c17
    obtain ⟨⟨t404, t405⟩, A18, H⟩ := bd H
    obtain ⟨⟨t408, t409⟩, A19, H⟩ := bd H
    simp only [Option.some.injEq, Prod.mk.injEq] at H
    obtain ⟨rfl, rfl⟩ := H
    have hnb20 := NB400_401.out
    have hnc20 := NB401_400.out
    have hz21_1 := bz BK400
    try go_wp2
    replace BK400 := Az (blk_drew BK400.out)
    replace BK401 := Az (blk_drew BK401.out)
    replace HB := Az (below_drew1 HB.out)
    refine start_ (n := 9) (S := fun w' => w'.cell? ⟨gb400, 0, none⟩ = some (.int .i64 a0_0) ∧ w'.cell? ⟨gb400, 1, none⟩ = some (.bool a0_1) ∧ w'.cell? ⟨gb400, 2, none⟩ = some (.bool a0_2) ∧ w'.cell? ⟨gb400, 3, none⟩ = some (.slice A0_3 l0_3.length c0_3) ∧ w'.cell? ⟨gb400, 4, none⟩ = some (.int .u64 a0_4) ∧ w'.cell? ⟨gb400, 5, none⟩ = some (.string a0_5) ∧ w'.cell? ⟨gb400, 6, none⟩ = some (.slice A0_6 l0_6.length c0_6) ∧ w'.cell? ⟨gb401, 0, none⟩ = some (.int .i64 a1_0) ∧ w'.cell? ⟨gb401, 1, none⟩ = some (.bool a1_1) ∧ w'.cell? ⟨gb401, 2, none⟩ = some (.bool a1_2) ∧ w'.cell? ⟨gb401, 3, none⟩ = some (.slice A1_3 l1_3.length c1_3) ∧ w'.cell? ⟨gb401, 4, none⟩ = some (.int .u64 a1_4) ∧ w'.cell? ⟨gb401, 5, none⟩ = some (.string a1_5) ∧ w'.cell? ⟨gb401, 6, none⟩ = some (.slice A1_6 l1_6.length c1_6)) (ds := []) (bm 9 0) (by kernel_rfl) rfl rfl ⟨(blk_cell BK400.out 0).trans rfl, (blk_cell BK400.out 1).trans rfl, (blk_cell BK400.out 2).trans rfl, (blk_cell BK400.out 3).trans rfl, (blk_cell BK400.out 4).trans rfl, (blk_cell BK400.out 5).trans rfl, (blk_cell BK400.out 6).trans rfl, (blk_cell BK401.out 0).trans rfl, (blk_cell BK401.out 1).trans rfl, (blk_cell BK401.out 2).trans rfl, (blk_cell BK401.out 3).trans rfl, (blk_cell BK401.out 4).trans rfl, (blk_cell BK401.out 5).trans rfl, (blk_cell BK401.out 6).trans rfl⟩ (fun hHeld => ?_); refine with_tabW p_order.tab4 p_order.bits4 (fun HT_ HW_ => ?_)
    generalize wc.drew = w22 at BK400 BK401 HB hHeld ⊢
    refine pu 0 (some 28) (bm 9 1) HT_.out ?_
    refine tk 1 (some 29) (bm 9 3) HT_.out HW_.out hHeld ?_
    refine tk 2 (some 30) (bm 9 7) HT_.out HW_.out hHeld ?_
    refine on 3 (some 31) (bm 9 15) HT_.out (fun K hK => ?_)
    refine gs Tryz.func37 #[.agg #[.int .i64 a1_0, .bool a1_1, .bool a1_2, .slice A1_3 l1_3.length c1_3, .int .u64 a1_4, .string a1_5, .slice A1_6 l1_6.length c1_6]] ?_
    with_reducible refine (p_count.calls a1_0 a1_1 a1_2 (fun k_ => k_ < w.heap.size) _ _ l1_3 a1_4 a1_5 _ _ l1_6 t404 t405 _ ?side1 (ck HR1_6 HB) HC1_6.out A18.out).mono ?_
    (case side1 => exact Kd.V_mk HC1_3.out (Kd.F_below (Kd.C_F (Kd.heap_int .u64) HR1_3.out) (bls HB)))
    rintro e w23 ⟨v406, rfl, ho0, hb⟩
    refine ⟨_, rfl, ?_⟩
    have HO407 := Az (Kd.V_lower (Kd.V_mono (ok' := fun k_ => k_ ≠ gb400 ∧ k_ ≠ gb401) ho0 (fun k_ hk_ => ⟨Or.elim hk_ (fun hs_ => fun e_ => Nat.not_le.2 hs_ (by rw [e_]; exact GW400.out)) (fun hn_ => (Kd.freshB (g := gb400) (o := .cells #[.int .i64 a0_0, .bool a0_1, .bool a0_2, .slice A0_3 l0_3.length c0_3, .int .u64 a0_4, .string a0_5, .slice A0_6 l0_6.length c0_6] 28 (0, 0)) (bk BK400) k_ hn_)), Or.elim hk_ (fun hs_ => fun e_ => Nat.not_le.2 hs_ (by rw [e_]; exact GW401.out)) (fun hn_ => (Kd.freshB (g := gb401) (o := .cells #[.int .i64 a1_0, .bool a1_1, .bool a1_2, .slice A1_3 l1_3.length c1_3, .int .u64 a1_4, .string a1_5, .slice A1_6 l1_6.length c1_6] 28 (0, 0)) (bk BK401) k_ hn_))⟩)) (below_size (bls HB)))
    replace BK400 := kb BK400 hb
    replace BK401 := kb BK401 hb
    replace HB := bs HB hb
    obtain ⟨Ao24, co24, eo24⟩ := Kd.V_slice HO407.out
    (first | subst eo24 | (injection eo24 with f1_ f2_ f3_; have f4_ := f1_.symm; have f5_ := f3_.symm; clear f1_ f2_ f3_; subst f4_; subst f5_))
    refine hK.out _ _ hd (fun hHeld => ?_)
    clear hK K
    refine nm ?_
    refine on 4 (some 32) (bm 9 31) HT_.out (fun K hK => ?_)
    refine gs Tryz.func49 #[.int .u64 a0_4, .agg #[.bool t404, .slice Ao24 t405.length co24]] ?_
    with_reducible refine (e_CmpBig.calls kj2 a0_4 t404 _ _ t405 t408 t409 _ ?side1 (Kd.V_reads' HO407.out).2.1 A19.out).mono ?_
    (case side1 => exact (Kd.V_reads' HO407.out).2.2)
    rintro e w25 ⟨rfl, hb⟩
    refine ⟨_, rfl, ?_⟩
    replace HO407 := Az (Kd.V_below (vk HO407) hb)
    replace BK400 := kb BK400 hb
    replace BK401 := kb BK401 hb
    replace HB := bs HB hb
    refine hK.out _ _ hd (fun hHeld => ?_)
    clear hK K
    refine nm ?_
    refine pu 5 (some 33) (bm 9 63) HT_.out ?_
    refine pu 6 (some 34) (bm 9 127) HT_.out ?_
    refine pu 7 (some 4) (bm 9 255) HT_.out ?_
    refine pu 8 (some 5) (bm 9 511) HT_.out ?_
    refine done_ (done_of HT_.out (by kernel_rfl)) ?_
    try go_wp2
    go_ret2
    exact ⟨fe, bls HB⟩
   rw [if_neg c17] at H
   have c17b0 := beq_eq_false_iff_ne.mpr c17
   have c17b1 := bne_iff_ne.mpr c17
   by_cases c26 : a1_0 = 3
   ·rw [if_pos c26] at H
    have c26b0 := beq_iff_eq.mpr c26
    have c26b1 := bne_eq_false_iff_eq.mpr c26
    clear c26
    obtain ⟨⟨t410, t411⟩, A27, H⟩ := bd H
    obtain ⟨⟨t414, t415⟩, A28, H⟩ := bd H
    simp only [Option.some.injEq, Prod.mk.injEq] at H
    obtain ⟨rfl, rfl⟩ := H
    have hnb29 := NB400_401.out
    have hnc29 := NB401_400.out
    have hz30_1 := bz BK400
    have hz31_2 := bz BK401
    try go_wp2
    replace BK400 := Az (blk_drew BK400.out)
    replace BK401 := Az (blk_drew BK401.out)
    replace HB := Az (below_drew1 HB.out)
    refine start_ (n := 10) (S := fun w' => w'.cell? ⟨gb401, 0, none⟩ = some (.int .i64 a1_0) ∧ w'.cell? ⟨gb401, 1, none⟩ = some (.bool a1_1) ∧ w'.cell? ⟨gb401, 2, none⟩ = some (.bool a1_2) ∧ w'.cell? ⟨gb401, 3, none⟩ = some (.slice A1_3 l1_3.length c1_3) ∧ w'.cell? ⟨gb401, 4, none⟩ = some (.int .u64 a1_4) ∧ w'.cell? ⟨gb401, 5, none⟩ = some (.string a1_5) ∧ w'.cell? ⟨gb401, 6, none⟩ = some (.slice A1_6 l1_6.length c1_6) ∧ w'.cell? ⟨gb400, 0, none⟩ = some (.int .i64 a0_0) ∧ w'.cell? ⟨gb400, 1, none⟩ = some (.bool a0_1) ∧ w'.cell? ⟨gb400, 2, none⟩ = some (.bool a0_2) ∧ w'.cell? ⟨gb400, 3, none⟩ = some (.slice A0_3 l0_3.length c0_3) ∧ w'.cell? ⟨gb400, 4, none⟩ = some (.int .u64 a0_4) ∧ w'.cell? ⟨gb400, 5, none⟩ = some (.string a0_5) ∧ w'.cell? ⟨gb400, 6, none⟩ = some (.slice A0_6 l0_6.length c0_6)) (ds := []) (bm 10 0) (by kernel_rfl) rfl rfl ⟨(blk_cell BK401.out 0).trans rfl, (blk_cell BK401.out 1).trans rfl, (blk_cell BK401.out 2).trans rfl, (blk_cell BK401.out 3).trans rfl, (blk_cell BK401.out 4).trans rfl, (blk_cell BK401.out 5).trans rfl, (blk_cell BK401.out 6).trans rfl, (blk_cell BK400.out 0).trans rfl, (blk_cell BK400.out 1).trans rfl, (blk_cell BK400.out 2).trans rfl, (blk_cell BK400.out 3).trans rfl, (blk_cell BK400.out 4).trans rfl, (blk_cell BK400.out 5).trans rfl, (blk_cell BK400.out 6).trans rfl⟩ (fun hHeld => ?_); refine with_tabW p_order.tab6 p_order.bits6 (fun HT_ HW_ => ?_)
    generalize wc.drew = w32 at BK400 BK401 HB hHeld ⊢
    refine pu 0 (some 40) (bm 10 1) HT_.out ?_
    refine tk 1 (some 41) (bm 10 3) HT_.out HW_.out hHeld ?_
    refine tk 2 (some 42) (bm 10 7) HT_.out HW_.out hHeld ?_
    refine on 3 (some 43) (bm 10 15) HT_.out (fun K hK => ?_)
    refine gs Tryz.func37 #[.agg #[.int .i64 a0_0, .bool a0_1, .bool a0_2, .slice A0_3 l0_3.length c0_3, .int .u64 a0_4, .string a0_5, .slice A0_6 l0_6.length c0_6]] ?_
    with_reducible refine (p_count.calls a0_0 a0_1 a0_2 (fun k_ => k_ < w.heap.size) _ _ l0_3 a0_4 a0_5 _ _ l0_6 t410 t411 _ ?side1 (ck HR0_6 HB) HC0_6.out A27.out).mono ?_
    (case side1 => exact Kd.V_mk HC0_3.out (Kd.F_below (Kd.C_F (Kd.heap_int .u64) HR0_3.out) (bls HB)))
    rintro e w33 ⟨v412, rfl, ho0, hb⟩
    refine ⟨_, rfl, ?_⟩
    have HO413 := Az (Kd.V_lower (Kd.V_mono (ok' := fun k_ => k_ ≠ gb400 ∧ k_ ≠ gb401) ho0 (fun k_ hk_ => ⟨Or.elim hk_ (fun hs_ => fun e_ => Nat.not_le.2 hs_ (by rw [e_]; exact GW400.out)) (fun hn_ => (Kd.freshB (g := gb400) (o := .cells #[.int .i64 a0_0, .bool a0_1, .bool a0_2, .slice A0_3 l0_3.length c0_3, .int .u64 a0_4, .string a0_5, .slice A0_6 l0_6.length c0_6] 28 (0, 0)) (bk BK400) k_ hn_)), Or.elim hk_ (fun hs_ => fun e_ => Nat.not_le.2 hs_ (by rw [e_]; exact GW401.out)) (fun hn_ => (Kd.freshB (g := gb401) (o := .cells #[.int .i64 a1_0, .bool a1_1, .bool a1_2, .slice A1_3 l1_3.length c1_3, .int .u64 a1_4, .string a1_5, .slice A1_6 l1_6.length c1_6] 28 (0, 0)) (bk BK401) k_ hn_))⟩)) (below_size (bls HB)))
    replace BK400 := kb BK400 hb
    replace BK401 := kb BK401 hb
    replace HB := bs HB hb
    obtain ⟨Ao34, co34, eo34⟩ := Kd.V_slice HO413.out
    (first | subst eo34 | (injection eo34 with f1_ f2_ f3_; have f4_ := f1_.symm; have f5_ := f3_.symm; clear f1_ f2_ f3_; subst f4_; subst f5_))
    refine hK.out _ _ hd (fun hHeld => ?_)
    clear hK K
    refine nm ?_
    refine on 4 (some 44) (bm 10 31) HT_.out (fun K hK => ?_)
    refine gs Tryz.func49 #[.int .u64 a1_4, .agg #[.bool t410, .slice Ao34 t411.length co34]] ?_
    with_reducible refine (e_CmpBig.calls kj2 a1_4 t410 _ _ t411 t414 t415 _ ?side1 (Kd.V_reads' HO413.out).2.1 A28.out).mono ?_
    (case side1 => exact (Kd.V_reads' HO413.out).2.2)
    rintro e w35 ⟨rfl, hb⟩
    refine ⟨_, rfl, ?_⟩
    replace HO413 := Az (Kd.V_below (vk HO413) hb)
    replace BK400 := kb BK400 hb
    replace BK401 := kb BK401 hb
    replace HB := bs HB hb
    refine hK.out _ _ hd (fun hHeld => ?_)
    clear hK K
    refine nm ?_
    refine pu 5 (some 39) (bm 10 63) HT_.out ?_
    refine pu 6 (some 45) (bm 10 127) HT_.out ?_
    refine pu 7 (some 46) (bm 10 255) HT_.out ?_
    refine pu 8 (some 6) (bm 10 511) HT_.out ?_
    refine pu 9 (some 7) (bm 10 1023) HT_.out ?_
    refine done_ (done_of HT_.out (by kernel_rfl)) ?_
    try go_wp2
    go_ret2
    exact ⟨fe, bls HB⟩
   rw [if_neg c26] at H
   have c26b0 := beq_eq_false_iff_ne.mpr c26
   have c26b1 := bne_iff_ne.mpr c26
   obtain ⟨⟨t416, t417⟩, A36, H⟩ := bd H
   obtain ⟨⟨t420, t421⟩, A37, H⟩ := bd H
   obtain ⟨t424, A38, H⟩ := bd H
   simp only [Option.some.injEq, Prod.mk.injEq] at H
   obtain ⟨rfl, rfl⟩ := H
   have hnb39 := NB400_401.out
   have hnc39 := NB401_400.out
   have hz40_1 := bz BK400
   have hz41_2 := bz BK401
   try go_wp2
   replace BK400 := Az (blk_drew BK400.out)
   replace BK401 := Az (blk_drew BK401.out)
   replace HB := Az (below_drew1 HB.out)
   refine start_ (n := 7) (S := fun w' => w'.cell? ⟨gb400, 0, none⟩ = some (.int .i64 a0_0) ∧ w'.cell? ⟨gb400, 1, none⟩ = some (.bool a0_1) ∧ w'.cell? ⟨gb400, 2, none⟩ = some (.bool a0_2) ∧ w'.cell? ⟨gb400, 3, none⟩ = some (.slice A0_3 l0_3.length c0_3) ∧ w'.cell? ⟨gb400, 4, none⟩ = some (.int .u64 a0_4) ∧ w'.cell? ⟨gb400, 5, none⟩ = some (.string a0_5) ∧ w'.cell? ⟨gb400, 6, none⟩ = some (.slice A0_6 l0_6.length c0_6) ∧ w'.cell? ⟨gb401, 0, none⟩ = some (.int .i64 a1_0) ∧ w'.cell? ⟨gb401, 1, none⟩ = some (.bool a1_1) ∧ w'.cell? ⟨gb401, 2, none⟩ = some (.bool a1_2) ∧ w'.cell? ⟨gb401, 3, none⟩ = some (.slice A1_3 l1_3.length c1_3) ∧ w'.cell? ⟨gb401, 4, none⟩ = some (.int .u64 a1_4) ∧ w'.cell? ⟨gb401, 5, none⟩ = some (.string a1_5) ∧ w'.cell? ⟨gb401, 6, none⟩ = some (.slice A1_6 l1_6.length c1_6)) (ds := []) (bm 7 0) (by kernel_rfl) rfl rfl ⟨(blk_cell BK400.out 0).trans rfl, (blk_cell BK400.out 1).trans rfl, (blk_cell BK400.out 2).trans rfl, (blk_cell BK400.out 3).trans rfl, (blk_cell BK400.out 4).trans rfl, (blk_cell BK400.out 5).trans rfl, (blk_cell BK400.out 6).trans rfl, (blk_cell BK401.out 0).trans rfl, (blk_cell BK401.out 1).trans rfl, (blk_cell BK401.out 2).trans rfl, (blk_cell BK401.out 3).trans rfl, (blk_cell BK401.out 4).trans rfl, (blk_cell BK401.out 5).trans rfl, (blk_cell BK401.out 6).trans rfl⟩ (fun hHeld => ?_)
   generalize wc.drew = w42 at BK400 BK401 HB hHeld ⊢
   refine take_ (i := 0) (N := some 50) (v := ?_) (a' := ?_) (bm 7 1) rfl rfl (by kernel_rfl) (fun _ _ _ h => h) (Or.inl ⟨by rfl, ?_⟩) hHeld ?_ ?_
   rotate_left
   ·rintro w' ⟨s0, s1, s2, s3, s4, s5, s6, s7, s8, s9, s10, s11, s12, s13⟩
    go_simp
    with_reducible rfl
   rotate_left
   ·simp only [Act.put, List.setIfInBounds_toArray, List.set_cons_zero, List.set_cons_succ, i64_w, i32_w]
    rfl
   refine take_ (i := 2) (N := some 52) (v := ?_) (a' := ?_) (bm 7 5) rfl rfl (by kernel_rfl) (fun _ _ _ h => h) (Or.inl ⟨by rfl, ?_⟩) hHeld ?_ ?_
   rotate_left
   ·rintro w' ⟨s0, s1, s2, s3, s4, s5, s6, s7, s8, s9, s10, s11, s12, s13⟩
    go_simp
    with_reducible rfl
   rotate_left
   ·simp only [Act.put, List.setIfInBounds_toArray, List.set_cons_zero, List.set_cons_succ, i64_w, i32_w]
    rfl
   refine one_ (i := 1) (N := some 51) (bm 7 7) rfl rfl (by kernel_rfl) (by decide) (fun K hK => ?_)
   refine gs Tryz.func37 #[.agg #[.int .i64 a0_0, .bool a0_1, .bool a0_2, .slice A0_3 l0_3.length c0_3, .int .u64 a0_4, .string a0_5, .slice A0_6 l0_6.length c0_6]] ?_
   with_reducible refine (p_count.calls a0_0 a0_1 a0_2 (fun k_ => k_ < w.heap.size) _ _ l0_3 a0_4 a0_5 _ _ l0_6 t416 t417 _ ?side1 (ck HR0_6 HB) HC0_6.out A36.out).mono ?_
   (case side1 => exact Kd.V_mk HC0_3.out (Kd.F_below (Kd.C_F (Kd.heap_int .u64) HR0_3.out) (bls HB)))
   rintro e w43 ⟨v418, rfl, ho0, hb⟩
   refine ⟨_, rfl, ?_⟩
   have HO419 := Az (Kd.V_lower (Kd.V_mono (ok' := fun k_ => k_ ≠ gb400 ∧ k_ ≠ gb401) ho0 (fun k_ hk_ => ⟨Or.elim hk_ (fun hs_ => fun e_ => Nat.not_le.2 hs_ (by rw [e_]; exact GW400.out)) (fun hn_ => (Kd.freshB (g := gb400) (o := .cells #[.int .i64 a0_0, .bool a0_1, .bool a0_2, .slice A0_3 l0_3.length c0_3, .int .u64 a0_4, .string a0_5, .slice A0_6 l0_6.length c0_6] 28 (0, 0)) (bk BK400) k_ hn_)), Or.elim hk_ (fun hs_ => fun e_ => Nat.not_le.2 hs_ (by rw [e_]; exact GW401.out)) (fun hn_ => (Kd.freshB (g := gb401) (o := .cells #[.int .i64 a1_0, .bool a1_1, .bool a1_2, .slice A1_3 l1_3.length c1_3, .int .u64 a1_4, .string a1_5, .slice A1_6 l1_6.length c1_6] 28 (0, 0)) (bk BK401) k_ hn_))⟩)) (below_size (bls HB)))
   replace BK400 := kb BK400 hb
   replace BK401 := kb BK401 hb
   replace HB := bs HB hb
   refine hK.out _ _ hd (fun hHeld => ?_)
   clear hK K
   refine nm ?_
   refine one_ (i := 3) (N := some 53) (bm 7 15) rfl rfl (by kernel_rfl) (by decide) (fun K hK => ?_)
   refine gs Tryz.func37 #[.agg #[.int .i64 a1_0, .bool a1_1, .bool a1_2, .slice A1_3 l1_3.length c1_3, .int .u64 a1_4, .string a1_5, .slice A1_6 l1_6.length c1_6]] ?_
   with_reducible refine (p_count.calls a1_0 a1_1 a1_2 (fun k_ => k_ < w.heap.size) _ _ l1_3 a1_4 a1_5 _ _ l1_6 t420 t421 _ ?side1 (ck HR1_6 HB) HC1_6.out A37.out).mono ?_
   (case side1 => exact Kd.V_mk HC1_3.out (Kd.F_below (Kd.C_F (Kd.heap_int .u64) HR1_3.out) (bls HB)))
   rintro e w44 ⟨v422, rfl, ho0, hb⟩
   refine ⟨_, rfl, ?_⟩
   replace HO419 := Az (Kd.V_below (vk HO419) hb)
   have HO423 := Az (Kd.V_lower (Kd.V_mono (ok' := fun k_ => k_ ≠ gb400 ∧ k_ ≠ gb401) ho0 (fun k_ hk_ => ⟨Or.elim hk_ (fun hs_ => fun e_ => Nat.not_le.2 hs_ (by rw [e_]; exact GW400.out)) (fun hn_ => (Kd.freshB (g := gb400) (o := .cells #[.int .i64 a0_0, .bool a0_1, .bool a0_2, .slice A0_3 l0_3.length c0_3, .int .u64 a0_4, .string a0_5, .slice A0_6 l0_6.length c0_6] 28 (0, 0)) (bk BK400) k_ hn_)), Or.elim hk_ (fun hs_ => fun e_ => Nat.not_le.2 hs_ (by rw [e_]; exact GW401.out)) (fun hn_ => (Kd.freshB (g := gb401) (o := .cells #[.int .i64 a1_0, .bool a1_1, .bool a1_2, .slice A1_3 l1_3.length c1_3, .int .u64 a1_4, .string a1_5, .slice A1_6 l1_6.length c1_6] 28 (0, 0)) (bk BK401) k_ hn_))⟩)) (below_size (bls HB)))
   replace BK400 := kb BK400 hb
   replace BK401 := kb BK401 hb
   replace HB := bs HB hb
   obtain ⟨Ao45, co45, eo45⟩ := Kd.V_slice HO419.out
   (first | subst eo45 | (injection eo45 with f1_ f2_ f3_; have f4_ := f1_.symm; have f5_ := f3_.symm; clear f1_ f2_ f3_; subst f4_; subst f5_))
   obtain ⟨Ao46, co46, eo46⟩ := Kd.V_slice HO423.out
   (first | subst eo46 | (injection eo46 with f1_ f2_ f3_; have f4_ := f1_.symm; have f5_ := f3_.symm; clear f1_ f2_ f3_; subst f4_; subst f5_))
   refine hK.out _ _ hd (fun hHeld => ?_)
   clear hK K
   refine nm ?_
   refine one_ (i := 4) (N := some 54) (bm 7 31) rfl rfl (by kernel_rfl) (by decide) (fun K hK => ?_)
   refine gs Tryz.func29 #[.agg #[.bool t416, .slice Ao45 t417.length co45], .agg #[.bool t420, .slice Ao46 t421.length co46]] ?_
   with_reducible refine (o_Cmp.calls kj2 t416 _ _ t417 t420 _ _ t421 t424 _ ?side1 (Kd.V_reads' HO419.out).2.1 ?side3 (Kd.V_reads' HO423.out).2.1 A38.out).mono ?_
   (case side1 => exact (Kd.V_reads' HO419.out).2.2)
   (case side3 => exact (Kd.V_reads' HO423.out).2.2)
   rintro e w47 ⟨rfl, hb⟩
   refine ⟨_, rfl, ?_⟩
   replace HO419 := Az (Kd.V_below (vk HO419) hb)
   replace HO423 := Az (Kd.V_below (vk HO423) hb)
   replace BK400 := kb BK400 hb
   replace BK401 := kb BK401 hb
   replace HB := bs HB hb
   refine hK.out _ _ hd (fun hHeld => ?_)
   clear hK K
   refine nm ?_
   refine pure_ (i := 5) (N := some 4) (v := ?_) (a' := ?_) (bm 7 63) rfl rfl (by kernel_rfl) (fun _ _ _ h => h) (Or.inl ⟨by rfl, ?_⟩) ?_ ?_
   rotate_left
   ·intro w'
    go_simp
    with_reducible rfl
   rotate_left
   ·simp only [Act.put, List.setIfInBounds_toArray, List.set_cons_zero, List.set_cons_succ, i64_w, i32_w]
    rfl
   refine pure_ (i := 6) (N := some 5) (v := ?_) (a' := ?_) (bm 7 127) rfl rfl (by kernel_rfl) (fun _ _ _ h => h) (Or.inl ⟨by rfl, ?_⟩) ?_ ?_
   rotate_left
   ·intro w'
    go_simp
    with_reducible rfl
   rotate_left
   ·simp only [Act.put, List.setIfInBounds_toArray, List.set_cons_zero, List.set_cons_succ, i64_w, i32_w]
    rfl
   refine done_ (by kernel_rfl) ?_
   try go_wp2
   go_ret2
   exact ⟨fe, bls HB⟩
end Go.Proofs.YtkenmmfplnheaaaGreatDoor.P
