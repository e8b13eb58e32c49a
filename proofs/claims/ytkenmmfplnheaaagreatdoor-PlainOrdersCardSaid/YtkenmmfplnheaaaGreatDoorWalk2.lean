/- The functions' forms and the proofs that the machine computes them: printed by a changed copy of the kit's printer, shortened by a program. -/
import Derived.Test.YtkenmmfplnheaaaGreatDoorWalk1
namespace Go.Proofs.YtkenmmfplnheaaaGreatDoor.P
open Go.Proofs.YtkenmmfplnheaaaGreatDoor.Giv
open Go.RowKit Go.Proofs.YtkenmmfplnheaaaGreatDoorW.PrintWords Go.Proofs.YtkenmmfplnheaaaGreatDoorW.PrintLast Go.Proofs.YtkenmmfplnheaaaGreatDoorW.PrintMore
attribute [local go_sem] max2_int min2_int max_two min_two max_three min_three max_four min_four   -- for this text's walks alone
set_option linter.unusedVariables false
set_option linter.unusedSimpArgs false
set_option maxHeartbeats 8000000
set_option maxRecDepth 100000
def o_DivMod.f (k : Nat) (a0_0 : Bool) (l0_1 : List Int) (a1_0 : Bool) (l1_1 : List Int) : Option (Bool × List Int × Bool × List Int × Int) := (o_Good.f k a0_0 l0_1).bind fun t315 => (if t315 = true then ((o_Good.f k a1_0 l1_1).bind fun t316 => (if t316 = true then (if (l1_1.length : Int) = 0 then (none) else ((o_divide.f k l0_1 l1_1).bind fun bt317 => ((o_form.f (a0_0 != a1_0) bt317.1).bind fun bt323 => ((o_form.f a0_0 bt317.2).bind fun bt327 => (if (bt327.2.length : Int) > 0 then (none) else (some (bt323.1, bt323.2, bt327.1, bt327.2, 0))))))) else (none))) else (none))
theorem o_DivMod.mono : ∀ a0 a1 a2 a3 k, LeO (o_DivMod.f k a0 a1 a2 a3) (o_DivMod.f (k + 1) a0 a1 a2 a3) := by
 intro a0 a1 a2 a3 k
 unfold o_DivMod.f
 repeat' first
   | exact o_Good.mono _ _ _
   | exact o_divide.mono _ _ _
   | exact LeO.refl _
   | exact LeO.none _
   | refine LeO.ite ?_ ?_
   | refine LeO.bind ?_ (fun _ => ?_)
def o_DivMod.T6 : Bool × List (List Nat × List Nat) := (true, [([], []), ([0], [0]), ([], []), ([2], [2]), ([1, 3], [1, 3]), ([], []), ([4, 5], [4, 5]), ([], []), ([7], [7]), ([], []), ([8, 9, 6], [8, 9]), ([], []), ([], []), ([11, 6, 10, 0, 1, 2, 3, 4, 5, 6, 11, 12], [6, 11]), ([12, 10, 13, 0, 1, 2, 3, 4, 5, 6, 7, 8, 9, 10, 11, 12, 13], [10, 12])])
def o_DivMod.B6 : List Nat := [0, 1, 0, 4, 15, 0, 63, 0, 128, 0, 1023, 0, 0, 8191, 16383]
theorem o_DivMod.tab6 : rtab .any (opsOf Tryz.f99 6) = o_DivMod.T6 := by kernel_rfl
theorem o_DivMod.bits6 : waitsOk o_DivMod.T6.2 o_DivMod.B6 = true := by kernel_rfl
theorem o_DivMod.calls (k : Nat) (a0_0 : Bool) (A0_1 : Option Addr) (c0_1 : Nat) (l0_1 : List Int) (a1_0 : Bool) (A1_1 : Option Addr) (c1_1 : Nat) (l1_1 : List Int) (r1 : Bool) (r2 : List Int) (r3 : Bool) (r4 : List Int) (r5 : Int) (w : World) (hr0_1 : Kd.C (Kd.int .u64) w A0_1 l0_1.length l0_1) (hc0_1 : l0_1.length ≤ c0_1) (hr1_1 : Kd.C (Kd.int .u64) w A1_1 l1_1.length l1_1) (hc1_1 : l1_1.length ≤ c1_1) (h : o_DivMod.f k a0_0 l0_1 a1_0 l1_1 = some (r1, r2, r3, r4, r5)) :
  Calls Tryz.prog 99 #[.agg #[.bool a0_0, .slice A0_1 l0_1.length c0_1], .agg #[.bool a1_0, .slice A1_1 l1_1.length c1_1]] w fun e w' => ∃ v1_ v3_ : Value, e = .returned (.tuple #[.agg #[.bool r1, v1_], .agg #[.bool r3, v3_], .int .i64 r5]) ∧ Kd.R (Kd.int .u64) 25 w' w.heap.size (fun k_ => some k_ ≠ (v3_ : Value).ownBlock) v1_ r2 ∧ Kd.R (Kd.int .u64) 25 w' w.heap.size (fun k_ => some k_ ≠ (v1_ : Value).ownBlock) v3_ r4 ∧ Below w.heap.size w w' := by
 have hu24 := Tryz.underlying24
 have HR0_1 := Az hr0_1
 have HC0_1 := Az hc0_1
 have HR1_1 := Az hr1_1
 have HC1_1 := Az hc1_1
 have HB := Az (Below.refl w.heap.size w)
 have H := h
 unfold o_DivMod.f at H
 obtain ⟨t315, A3, H⟩ := bd H
 by_cases c4 : t315 = true
 case neg =>
  replace c4 := Bool.eq_false_iff.mpr c4
  subst c4
  rw [if_neg Bool.false_ne_true] at H
  exact absurd H (by simp)
 subst c4
 rw [if_pos rfl] at H
 obtain ⟨t316, A5, H⟩ := bd H
 by_cases c6 : t316 = true
 case neg =>
  replace c6 := Bool.eq_false_iff.mpr c6
  subst c6
  rw [if_neg Bool.false_ne_true] at H
  exact absurd H (by simp)
 subst c6
 rw [if_pos rfl] at H
 by_cases c7 : (l1_1.length : Int) = 0
 ·rw [if_pos c7] at H
  exact absurd H (by simp)
 rw [if_neg c7] at H
 obtain ⟨⟨t317, t320⟩, A8, H⟩ := bd H
 obtain ⟨⟨t323, t324⟩, A9, H⟩ := bd H
 obtain ⟨⟨t327, t328⟩, A10, H⟩ := bd H
 by_cases c11 : (t328.length : Int) > 0
 ·rw [if_pos c11] at H
  exact absurd H (by simp)
 rw [if_neg c11] at H
 simp only [Option.some.injEq, Prod.mk.injEq] at H
 obtain ⟨rfl, rfl, rfl, rfl, rfl⟩ := H
 go_enter Tryz.func99, Tryz.ntmps99
 try go_wp2_with (first | (refine be 2 #[.bool a0_0, .slice A0_1 l0_1.length c0_1] 24 ?_; intro gb311 hg w12 hbox hb; have BK311 := Az (hbox); have GW311 := gw (bl HB) hg; replace HB := bs HB hb; clear hb hbox hg) | (refine be 3 #[.bool a1_0, .slice A1_1 l1_1.length c1_1] 24 ?_; intro gb312 hg w13 hbox hb; have BK312 := Az (hbox); have GW312 := gw (bls HB) hg; replace HB := bs HB hb; have NB311_312 := nl BK311 hg; have NB312_311 := ng BK311 hg; replace BK311 := kb BK311 hb; clear hb hbox hg) | (refine be 4 #[.bool false, .slice none 0 0] 24 ?_; intro gb313 hg w14 hbox hb; have BK313 := Az (hbox); have GW313 := gw (bls HB) hg; replace HB := bs HB hb; have NB311_313 := nl BK311 hg; have NB313_311 := ng BK311 hg; replace BK311 := kb BK311 hb; have NB312_313 := nl BK312 hg; have NB313_312 := ng BK312 hg; replace BK312 := kb BK312 hb; clear hb hbox hg) | (refine be 5 #[.bool false, .slice none 0 0] 24 ?_; intro gb314 hg w15 hbox hb; have BK314 := Az (hbox); have GW314 := gw (bls HB) hg; replace HB := bs HB hb; have NB311_314 := nl BK311 hg; have NB314_311 := ng BK311 hg; replace BK311 := kb BK311 hb; have NB312_314 := nl BK312 hg; have NB314_312 := ng BK312 hg; replace BK312 := kb BK312 hb; have NB313_314 := nl BK313 hg; have NB314_313 := ng BK313 hg; replace BK313 := kb BK313 hb; clear hb hbox hg; have hnb16 := NB311_312.out; have hnc16 := NB312_311.out; have hnb17 := NB311_313.out; have hnc17 := NB313_311.out; have hnb18 := NB311_314.out; have hnc18 := NB314_311.out; have hz19_1 := bz BK311) | (refine gl (some 12) Tryz.func47 #[.agg #[.bool a0_0, .slice A0_1 l0_1.length c0_1]] ?_; (with_reducible refine (o_Good.calls k a0_0 _ _ l0_1 true _ (ck HR0_1 HB) HC0_1.out A3.out).mono ?_); rintro e w20 ⟨rfl, hb⟩; refine ⟨_, rfl, ?_⟩; replace BK311 := kb BK311 hb; replace BK312 := kb BK312 hb; replace BK313 := kb BK313 hb; replace BK314 := kb BK314 hb; replace HB := bs HB hb; have hnb21 := NB312_313.out; have hnc21 := NB313_312.out; have hnb22 := NB312_314.out; have hnc22 := NB314_312.out; have hz23_1 := bz BK312) | (go_at_call 47; (with_reducible refine (o_Good.calls k a1_0 _ _ l1_1 true _ (ck HR1_1 HB) HC1_1.out A5.out).mono ?_); rintro e w24 ⟨rfl, hb⟩; replace BK311 := kb BK311 hb; replace BK312 := kb BK312 hb; replace BK313 := kb BK313 hb; replace BK314 := kb BK314 hb; replace HB := bs HB hb; have hz25_1 := bz BK312; have hz26_2 := bz BK311) | (refine gl (some 32) Tryz.func130 #[.slice A0_1 l0_1.length c0_1, .slice A1_1 l1_1.length c1_1] ?_; (with_reducible refine (o_divide.calls k (fun k_ => k_ < w.heap.size) _ _ l0_1 _ _ l1_1 t317 t320 _ ?side1 (ck HR1_1 HB) HC1_1.out A8.out).mono ?_); (case side1 => exact Kd.V_mk HC0_1.out (Kd.F_below (Kd.C_F (Kd.heap_int .u64) HR0_1.out) (bls HB))); rintro e w27 ⟨v318, v321, rfl, ho0, ho1, hb⟩; refine ⟨_, rfl, ?_⟩; have HO319 := Az (Kd.R_lower (Kd.R_mono (ok' := fun k_ => True) ho0 (fun _ hk_ => trivial)) (below_size (bls HB))); have HO322 := Az (Kd.V_lower (Kd.V_mono (ok' := fun k_ => some k_ ≠ (v318 : Value).ownBlock ∧ k_ ≠ gb311 ∧ k_ ≠ gb312 ∧ k_ ≠ gb313 ∧ k_ ≠ gb314) ho1 (fun k_ hk_ => ⟨hk_.2, Or.elim hk_.1 (fun hs_ => fun e_ => Nat.not_le.2 hs_ (by rw [e_]; exact GW311.out)) (fun hn_ => (Kd.freshB (g := gb311) (o := .cells #[.bool a0_0, .slice A0_1 l0_1.length c0_1] 24 (0, 0)) (bk BK311) k_ hn_)), Or.elim hk_.1 (fun hs_ => fun e_ => Nat.not_le.2 hs_ (by rw [e_]; exact GW312.out)) (fun hn_ => (Kd.freshB (g := gb312) (o := .cells #[.bool a1_0, .slice A1_1 l1_1.length c1_1] 24 (0, 0)) (bk BK312) k_ hn_)), Or.elim hk_.1 (fun hs_ => fun e_ => Nat.not_le.2 hs_ (by rw [e_]; exact GW313.out)) (fun hn_ => (Kd.freshB (g := gb313) (o := .cells #[.bool false, .slice none 0 0] 24 (0, 0)) (bk BK313) k_ hn_)), Or.elim hk_.1 (fun hs_ => fun e_ => Nat.not_le.2 hs_ (by rw [e_]; exact GW314.out)) (fun hn_ => (Kd.freshB (g := gb314) (o := .cells #[.bool false, .slice none 0 0] 24 (0, 0)) (bk BK314) k_ hn_))⟩)) (below_size (bls HB))); replace BK311 := kb BK311 hb; replace BK312 := kb BK312 hb; replace BK313 := kb BK313 hb; replace BK314 := kb BK314 hb; replace HB := bs HB hb; obtain ⟨Ao28, co28, eo28⟩ := Kd.R_slice HO319.out; subst eo28; obtain ⟨Ao29, co29, eo29⟩ := Kd.V_slice HO322.out; subst eo29))
 replace HO319 := Az (Kd.R_drew HO319.out)
 replace HO322 := Az (Kd.V_drew HO322.out)
 replace BK311 := Az (blk_drew BK311.out)
 replace BK312 := Az (blk_drew BK312.out)
 replace BK313 := Az (blk_drew BK313.out)
 replace BK314 := Az (blk_drew BK314.out)
 replace HB := Az (below_drew1 HB.out)
 refine start_ (n := 15) (S := fun w' => w'.cell? ⟨gb311, 0, none⟩ = some (.bool a0_0) ∧ w'.cell? ⟨gb311, 1, none⟩ = some (.slice A0_1 l0_1.length c0_1) ∧ w'.cell? ⟨gb312, 0, none⟩ = some (.bool a1_0) ∧ w'.cell? ⟨gb312, 1, none⟩ = some (.slice A1_1 l1_1.length c1_1)) (ds := []) (bm 15 0) (by kernel_rfl) rfl rfl ⟨(blk_cell BK311.out 0).trans rfl, (blk_cell BK311.out 1).trans rfl, (blk_cell BK312.out 0).trans rfl, (blk_cell BK312.out 1).trans rfl⟩ (fun hHeld => ?_); refine with_tabW o_DivMod.tab6 o_DivMod.bits6 (fun HT_ HW_ => ?_)
 generalize w27.drew = w30 at HO319 HO322 BK311 BK312 BK313 BK314 HB hHeld ⊢
 refine pu 0 (some 35) (bm 15 1) HT_.out ?_
 refine pu 2 (some 37) (bm 15 5) HT_.out ?_
 refine pu 5 (some 40) (bm 15 37) HT_.out ?_
 refine pu 7 (some 42) (bm 15 165) HT_.out ?_
 refine pu 9 (some 44) (bm 15 677) HT_.out ?_
 refine tk 1 (some 36) (bm 15 679) HT_.out HW_.out hHeld ?_
 refine tk 3 (some 38) (bm 15 687) HT_.out HW_.out hHeld ?_
 refine pu 4 (some 39) (bm 15 703) HT_.out ?_
 refine tk 8 (some 43) (bm 15 959) HT_.out HW_.out hHeld ?_
 refine join_ (σ := Value × Value × Nat × Nat) 2 (bm 15 8191) (fun s_ => [(41, .agg #[.bool t323, s_.1]), (45, .agg #[.bool t327, s_.2.1]), (9, .pointer (some ⟨s_.2.2.1, 0, none⟩)), (10, .pointer (some ⟨s_.2.2.2, 0, none⟩))]) (fun s_ w' => (w'.cell? ⟨gb311, 0, none⟩ = some (.bool a0_0) ∧ w'.cell? ⟨gb311, 1, none⟩ = some (.slice A0_1 l0_1.length c0_1) ∧ w'.cell? ⟨gb312, 0, none⟩ = some (.bool a1_0) ∧ w'.cell? ⟨gb312, 1, none⟩ = some (.slice A1_1 l1_1.length c1_1)) ∧ (Kd.R (Kd.int .u64) 25 w' w.heap.size (fun k_ => some k_ ≠ (s_.1 : Value).ownBlock ∧ some k_ ≠ (s_.2.1 : Value).ownBlock) (.slice Ao28 t317.length co28) t317) ∧ (Kd.V (Kd.int .u64) 25 w' w.heap.size (fun k_ => some k_ ≠ (.slice Ao28 t317.length co28 : Value).ownBlock ∧ some k_ ≠ (s_.1 : Value).ownBlock ∧ some k_ ≠ (s_.2.1 : Value).ownBlock ∧ k_ ≠ gb311 ∧ k_ ≠ gb312 ∧ k_ ≠ gb313 ∧ k_ ≠ gb314 ∧ k_ ≠ s_.2.2.1 ∧ k_ ≠ s_.2.2.2) (.slice Ao29 t320.length co29) t320) ∧ (Kd.R (Kd.int .u64) 25 w' w.heap.size (fun k_ => some k_ ≠ (.slice Ao28 t317.length co28 : Value).ownBlock ∧ some k_ ≠ (s_.2.1 : Value).ownBlock) s_.1 t324) ∧ (Kd.R (Kd.int .u64) 25 w' w.heap.size (fun k_ => some k_ ≠ (.slice Ao28 t317.length co28 : Value).ownBlock ∧ some k_ ≠ (s_.1 : Value).ownBlock) s_.2.1 t328) ∧ (w'.heap[gb311]? = some (.cells #[.bool a0_0, .slice A0_1 l0_1.length c0_1] 24 (0, 0))) ∧ (w'.heap[gb312]? = some (.cells #[.bool a1_0, .slice A1_1 l1_1.length c1_1] 24 (0, 0))) ∧ (w'.heap[gb313]? = some (.cells #[.bool false, .slice none 0 0] 24 (0, 0))) ∧ (w'.heap[gb314]? = some (.cells #[.bool false, .slice none 0 0] 24 (0, 0))) ∧ (w'.heap[s_.2.2.1]? = some (.cells #[.bool false, .slice none 0 0] 24 (0, 0))) ∧ (w'.heap[s_.2.2.2]? = some (.cells #[.bool false, .slice none 0 0] 24 (0, 0))) ∧ (w.heap.size ≤ s_.2.2.1) ∧ (w.heap.size ≤ s_.2.2.1) ∧ (gb311 ≠ s_.2.2.1) ∧ (s_.2.2.1 ≠ gb311) ∧ (gb312 ≠ s_.2.2.1) ∧ (s_.2.2.1 ≠ gb312) ∧ (gb313 ≠ s_.2.2.1) ∧ (s_.2.2.1 ≠ gb313) ∧ (gb314 ≠ s_.2.2.1) ∧ (s_.2.2.1 ≠ gb314) ∧ (s_.2.2.2 ≠ s_.2.2.1) ∧ (s_.2.2.1 ≠ s_.2.2.2) ∧ (w.heap.size ≤ s_.2.2.2) ∧ (w.heap.size ≤ s_.2.2.2) ∧ (gb311 ≠ s_.2.2.2) ∧ (s_.2.2.2 ≠ gb311) ∧ (gb312 ≠ s_.2.2.2) ∧ (s_.2.2.2 ≠ gb312) ∧ (gb313 ≠ s_.2.2.2) ∧ (s_.2.2.2 ≠ gb313) ∧ (gb314 ≠ s_.2.2.2) ∧ (s_.2.2.2 ≠ gb314) ∧ (Below w.heap.size w w')) ?_ ?_
 rotate_left
 ·intro hJ6_10_11_12
  refine join_ (σ := Value × Value × Nat) 3 (bm 15 4095) (fun s_ => [(41, .agg #[.bool t323, s_.1]), (45, .agg #[.bool t327, s_.2.1]), (9, .pointer (some ⟨s_.2.2, 0, none⟩))]) (fun s_ w' => (w'.cell? ⟨gb311, 0, none⟩ = some (.bool a0_0) ∧ w'.cell? ⟨gb311, 1, none⟩ = some (.slice A0_1 l0_1.length c0_1) ∧ w'.cell? ⟨gb312, 0, none⟩ = some (.bool a1_0) ∧ w'.cell? ⟨gb312, 1, none⟩ = some (.slice A1_1 l1_1.length c1_1)) ∧ (Kd.R (Kd.int .u64) 25 w' w.heap.size (fun k_ => some k_ ≠ (s_.1 : Value).ownBlock ∧ some k_ ≠ (s_.2.1 : Value).ownBlock) (.slice Ao28 t317.length co28) t317) ∧ (Kd.V (Kd.int .u64) 25 w' w.heap.size (fun k_ => some k_ ≠ (.slice Ao28 t317.length co28 : Value).ownBlock ∧ some k_ ≠ (s_.1 : Value).ownBlock ∧ some k_ ≠ (s_.2.1 : Value).ownBlock ∧ k_ ≠ gb311 ∧ k_ ≠ gb312 ∧ k_ ≠ gb313 ∧ k_ ≠ gb314 ∧ k_ ≠ s_.2.2) (.slice Ao29 t320.length co29) t320) ∧ (Kd.R (Kd.int .u64) 25 w' w.heap.size (fun k_ => some k_ ≠ (.slice Ao28 t317.length co28 : Value).ownBlock ∧ some k_ ≠ (s_.2.1 : Value).ownBlock) s_.1 t324) ∧ (Kd.R (Kd.int .u64) 25 w' w.heap.size (fun k_ => some k_ ≠ (.slice Ao28 t317.length co28 : Value).ownBlock ∧ some k_ ≠ (s_.1 : Value).ownBlock) s_.2.1 t328) ∧ (w'.heap[gb311]? = some (.cells #[.bool a0_0, .slice A0_1 l0_1.length c0_1] 24 (0, 0))) ∧ (w'.heap[gb312]? = some (.cells #[.bool a1_0, .slice A1_1 l1_1.length c1_1] 24 (0, 0))) ∧ (w'.heap[gb313]? = some (.cells #[.bool false, .slice none 0 0] 24 (0, 0))) ∧ (w'.heap[gb314]? = some (.cells #[.bool false, .slice none 0 0] 24 (0, 0))) ∧ (w'.heap[s_.2.2]? = some (.cells #[.bool false, .slice none 0 0] 24 (0, 0))) ∧ (w.heap.size ≤ s_.2.2) ∧ (w.heap.size ≤ s_.2.2) ∧ (gb311 ≠ s_.2.2) ∧ (s_.2.2 ≠ gb311) ∧ (gb312 ≠ s_.2.2) ∧ (s_.2.2 ≠ gb312) ∧ (gb313 ≠ s_.2.2) ∧ (s_.2.2 ≠ gb313) ∧ (gb314 ≠ s_.2.2) ∧ (s_.2.2 ≠ gb314) ∧ (Below w.heap.size w w')) ?_ ?_
  ·rintro ⟨v325, v329, gb331⟩ w34 ⟨hS_, h0_, h1_, h2_, h3_, h4_, h5_, h6_, h7_, h8_, h9_, h10_, h11_, h12_, h13_, h14_, h15_, h16_, h17_, h18_, h19_⟩
   dsimp only at h0_ h1_ h2_ h3_ h4_ h5_ h6_ h7_ h8_ h9_ h10_ h11_ h12_ h13_ h14_ h15_ h16_ h17_ h18_ h19_
   replace HO319 := Az h0_
   replace HO322 := Az h1_
   have HO326 := Az h2_
   have HO330 := Az h3_
   replace BK311 := Az h4_
   replace BK312 := Az h5_
   replace BK313 := Az h6_
   replace BK314 := Az h7_
   have BK331 := Az h8_
   have GW331 := Az h9_
   have GE331 := Az h10_
   have NB311_331 := Az h11_
   have NB331_311 := Az h12_
   have NB312_331 := Az h13_
   have NB331_312 := Az h14_
   have NB313_331 := Az h15_
   have NB331_313 := Az h16_
   have NB314_331 := Az h17_
   have NB331_314 := Az h18_
   replace HB := Az h19_
   have hHeld : w34.cell? ⟨gb311, 0, none⟩ = some (.bool a0_0) ∧ w34.cell? ⟨gb311, 1, none⟩ = some (.slice A0_1 l0_1.length c0_1) ∧ w34.cell? ⟨gb312, 0, none⟩ = some (.bool a1_0) ∧ w34.cell? ⟨gb312, 1, none⟩ = some (.slice A1_1 l1_1.length c1_1) := hS_
   refine norm_ (a' := ?_) ?_ ?_
   rotate_left
   ·simp only [putAll, Act.put, List.setIfInBounds_toArray, List.set_cons_zero, List.set_cons_succ]
    rfl
   refine on 12 (some 10) (bm 15 8191) HT_.out (fun K hK => ?_)
   refine box_step ?hg (N := 10) ?hd (cs := #[.bool false, .slice none 0 0]) (t := 24) ?hr ?_; (case hd => rfl); (case hg => rfl); (case hr => first | (go_simp; done) | (go_simp; rfl))
   intro gb332 hg w35 hbox hb
   replace HO319 := Az (Kd.R_below (rk HO319) hb)
   replace HO322 := Az (Kd.V_below (Kd.V_elderB (vk HO322) gb332 (Nat.le_of_eq hg.symm)) hb)
   replace HO326 := Az (Kd.R_below (rk HO326) hb)
   replace HO330 := Az (Kd.R_below (rk HO330) hb)
   have BK332 := Az (hbox)
   have GW332 := gw (bls HB) hg
   have GE332 := gw (bls HB) hg
   replace HB := bs HB hb
   have NB311_332 := nl BK311 hg
   have NB332_311 := ng BK311 hg
   replace BK311 := kb BK311 hb
   have NB312_332 := nl BK312 hg
   have NB332_312 := ng BK312 hg
   replace BK312 := kb BK312 hb
   have NB313_332 := nl BK313 hg
   have NB332_313 := ng BK313 hg
   replace BK313 := kb BK313 hb
   have NB314_332 := nl BK314 hg
   have NB332_314 := ng BK314 hg
   replace BK314 := kb BK314 hb
   have NB331_332 := nl BK331 hg
   have NB332_331 := ng BK331 hg
   replace BK331 := kb BK331 hb
   refine hK.out _ _ hd (fun hHeld => ?_)
   refine nm ?_
   exact nj (hJ6_10_11_12 (v325, v329, gb331, gb332) _ ⟨hHeld, (rk HO319), (vt (Kd.V_mono HO322.out (fun _ hk => ⟨hk.1.1, ⟨hk.1.2.1, ⟨hk.1.2.2.1, ⟨hk.1.2.2.2.1, ⟨hk.1.2.2.2.2.1, ⟨hk.1.2.2.2.2.2.1, ⟨hk.1.2.2.2.2.2.2.1, ⟨hk.1.2.2.2.2.2.2.2, hk.2⟩⟩⟩⟩⟩⟩⟩⟩))), (rk HO326), (rk HO330), (bk BK311), (bk BK312), (bk BK313), (bk BK314), (bk BK331), (bk BK332), GW331.out, GE331.out, NB311_331.out, NB331_311.out, NB312_331.out, NB331_312.out, NB313_331.out, NB331_313.out, NB314_331.out, NB331_314.out, NB332_331.out, NB331_332.out, GW332.out, GE332.out, NB311_332.out, NB332_311.out, NB312_332.out, NB332_312.out, NB313_332.out, NB332_313.out, NB314_332.out, NB332_314.out, (bls HB)⟩)
  intro hJ6_10_11
  refine join_ (σ := Value × Value × Nat) 3 (bm 15 6143) (fun s_ => [(41, .agg #[.bool t323, s_.1]), (45, .agg #[.bool t327, s_.2.1]), (10, .pointer (some ⟨s_.2.2, 0, none⟩))]) (fun s_ w' => (w'.cell? ⟨gb311, 0, none⟩ = some (.bool a0_0) ∧ w'.cell? ⟨gb311, 1, none⟩ = some (.slice A0_1 l0_1.length c0_1) ∧ w'.cell? ⟨gb312, 0, none⟩ = some (.bool a1_0) ∧ w'.cell? ⟨gb312, 1, none⟩ = some (.slice A1_1 l1_1.length c1_1)) ∧ (Kd.R (Kd.int .u64) 25 w' w.heap.size (fun k_ => some k_ ≠ (s_.1 : Value).ownBlock ∧ some k_ ≠ (s_.2.1 : Value).ownBlock) (.slice Ao28 t317.length co28) t317) ∧ (Kd.V (Kd.int .u64) 25 w' w.heap.size (fun k_ => some k_ ≠ (.slice Ao28 t317.length co28 : Value).ownBlock ∧ some k_ ≠ (s_.1 : Value).ownBlock ∧ some k_ ≠ (s_.2.1 : Value).ownBlock ∧ k_ ≠ gb311 ∧ k_ ≠ gb312 ∧ k_ ≠ gb313 ∧ k_ ≠ gb314 ∧ k_ ≠ s_.2.2) (.slice Ao29 t320.length co29) t320) ∧ (Kd.R (Kd.int .u64) 25 w' w.heap.size (fun k_ => some k_ ≠ (.slice Ao28 t317.length co28 : Value).ownBlock ∧ some k_ ≠ (s_.2.1 : Value).ownBlock) s_.1 t324) ∧ (Kd.R (Kd.int .u64) 25 w' w.heap.size (fun k_ => some k_ ≠ (.slice Ao28 t317.length co28 : Value).ownBlock ∧ some k_ ≠ (s_.1 : Value).ownBlock) s_.2.1 t328) ∧ (w'.heap[gb311]? = some (.cells #[.bool a0_0, .slice A0_1 l0_1.length c0_1] 24 (0, 0))) ∧ (w'.heap[gb312]? = some (.cells #[.bool a1_0, .slice A1_1 l1_1.length c1_1] 24 (0, 0))) ∧ (w'.heap[gb313]? = some (.cells #[.bool false, .slice none 0 0] 24 (0, 0))) ∧ (w'.heap[gb314]? = some (.cells #[.bool false, .slice none 0 0] 24 (0, 0))) ∧ (w'.heap[s_.2.2]? = some (.cells #[.bool false, .slice none 0 0] 24 (0, 0))) ∧ (w.heap.size ≤ s_.2.2) ∧ (w.heap.size ≤ s_.2.2) ∧ (gb311 ≠ s_.2.2) ∧ (s_.2.2 ≠ gb311) ∧ (gb312 ≠ s_.2.2) ∧ (s_.2.2 ≠ gb312) ∧ (gb313 ≠ s_.2.2) ∧ (s_.2.2 ≠ gb313) ∧ (gb314 ≠ s_.2.2) ∧ (s_.2.2 ≠ gb314) ∧ (Below w.heap.size w w')) ?_ ?_
  ·rintro ⟨v325, v329, gb332⟩ w34 ⟨hS_, h0_, h1_, h2_, h3_, h4_, h5_, h6_, h7_, h8_, h9_, h10_, h11_, h12_, h13_, h14_, h15_, h16_, h17_, h18_, h19_⟩
   dsimp only at h0_ h1_ h2_ h3_ h4_ h5_ h6_ h7_ h8_ h9_ h10_ h11_ h12_ h13_ h14_ h15_ h16_ h17_ h18_ h19_
   replace HO319 := Az h0_
   replace HO322 := Az h1_
   have HO326 := Az h2_
   have HO330 := Az h3_
   replace BK311 := Az h4_
   replace BK312 := Az h5_
   replace BK313 := Az h6_
   replace BK314 := Az h7_
   have BK332 := Az h8_
   have GW332 := Az h9_
   have GE332 := Az h10_
   have NB311_332 := Az h11_
   have NB332_311 := Az h12_
   have NB312_332 := Az h13_
   have NB332_312 := Az h14_
   have NB313_332 := Az h15_
   have NB332_313 := Az h16_
   have NB314_332 := Az h17_
   have NB332_314 := Az h18_
   replace HB := Az h19_
   have hHeld : w34.cell? ⟨gb311, 0, none⟩ = some (.bool a0_0) ∧ w34.cell? ⟨gb311, 1, none⟩ = some (.slice A0_1 l0_1.length c0_1) ∧ w34.cell? ⟨gb312, 0, none⟩ = some (.bool a1_0) ∧ w34.cell? ⟨gb312, 1, none⟩ = some (.slice A1_1 l1_1.length c1_1) := hS_
   refine norm_ (a' := ?_) ?_ ?_
   rotate_left
   ·simp only [putAll, Act.put, List.setIfInBounds_toArray, List.set_cons_zero, List.set_cons_succ]
    rfl
   refine on 11 (some 9) (bm 15 8191) HT_.out (fun K hK => ?_)
   refine box_step ?hg (N := 9) ?hd (cs := #[.bool false, .slice none 0 0]) (t := 24) ?hr ?_; (case hd => rfl); (case hg => rfl); (case hr => first | (go_simp; done) | (go_simp; rfl))
   intro gb331 hg w35 hbox hb
   replace HO319 := Az (Kd.R_below (rk HO319) hb)
   replace HO322 := Az (Kd.V_below (Kd.V_elderB (vk HO322) gb331 (Nat.le_of_eq hg.symm)) hb)
   replace HO326 := Az (Kd.R_below (rk HO326) hb)
   replace HO330 := Az (Kd.R_below (rk HO330) hb)
   have BK331 := Az (hbox)
   have GW331 := gw (bls HB) hg
   have GE331 := gw (bls HB) hg
   replace HB := bs HB hb
   have NB311_331 := nl BK311 hg
   have NB331_311 := ng BK311 hg
   replace BK311 := kb BK311 hb
   have NB312_331 := nl BK312 hg
   have NB331_312 := ng BK312 hg
   replace BK312 := kb BK312 hb
   have NB313_331 := nl BK313 hg
   have NB331_313 := ng BK313 hg
   replace BK313 := kb BK313 hb
   have NB314_331 := nl BK314 hg
   have NB331_314 := ng BK314 hg
   replace BK314 := kb BK314 hb
   have NB332_331 := nl BK332 hg
   have NB331_332 := ng BK332 hg
   replace BK332 := kb BK332 hb
   refine hK.out _ _ hd (fun hHeld => ?_)
   refine nm ?_
   exact nj (hJ6_10_11_12 (v325, v329, gb331, gb332) _ ⟨hHeld, (rk HO319), (vt (Kd.V_mono HO322.out (fun _ hk => ⟨hk.1.1, ⟨hk.1.2.1, ⟨hk.1.2.2.1, ⟨hk.1.2.2.2.1, ⟨hk.1.2.2.2.2.1, ⟨hk.1.2.2.2.2.2.1, ⟨hk.1.2.2.2.2.2.2.1, ⟨hk.2, hk.1.2.2.2.2.2.2.2⟩⟩⟩⟩⟩⟩⟩⟩))), (rk HO326), (rk HO330), (bk BK311), (bk BK312), (bk BK313), (bk BK314), (bk BK331), (bk BK332), GW331.out, GE331.out, NB311_331.out, NB331_311.out, NB312_331.out, NB331_312.out, NB313_331.out, NB331_313.out, NB314_331.out, NB331_314.out, NB332_331.out, NB331_332.out, GW332.out, GE332.out, NB311_332.out, NB332_311.out, NB312_332.out, NB332_312.out, NB313_332.out, NB332_313.out, NB314_332.out, NB332_314.out, (bls HB)⟩)
  intro hJ6_10_12
  refine join_ (σ := Value × Nat × Nat) 3 (bm 15 7167) (fun s_ => [(41, .agg #[.bool t323, s_.1]), (9, .pointer (some ⟨s_.2.1, 0, none⟩)), (10, .pointer (some ⟨s_.2.2, 0, none⟩))]) (fun s_ w' => (w'.cell? ⟨gb311, 0, none⟩ = some (.bool a0_0) ∧ w'.cell? ⟨gb311, 1, none⟩ = some (.slice A0_1 l0_1.length c0_1) ∧ w'.cell? ⟨gb312, 0, none⟩ = some (.bool a1_0) ∧ w'.cell? ⟨gb312, 1, none⟩ = some (.slice A1_1 l1_1.length c1_1)) ∧ (Kd.R (Kd.int .u64) 25 w' w.heap.size (fun k_ => some k_ ≠ (s_.1 : Value).ownBlock) (.slice Ao28 t317.length co28) t317) ∧ (Kd.V (Kd.int .u64) 25 w' w.heap.size (fun k_ => some k_ ≠ (.slice Ao28 t317.length co28 : Value).ownBlock ∧ some k_ ≠ (s_.1 : Value).ownBlock ∧ k_ ≠ gb311 ∧ k_ ≠ gb312 ∧ k_ ≠ gb313 ∧ k_ ≠ gb314 ∧ k_ ≠ s_.2.1 ∧ k_ ≠ s_.2.2) (.slice Ao29 t320.length co29) t320) ∧ (Kd.R (Kd.int .u64) 25 w' w.heap.size (fun k_ => some k_ ≠ (.slice Ao28 t317.length co28 : Value).ownBlock) s_.1 t324) ∧ (w'.heap[gb311]? = some (.cells #[.bool a0_0, .slice A0_1 l0_1.length c0_1] 24 (0, 0))) ∧ (w'.heap[gb312]? = some (.cells #[.bool a1_0, .slice A1_1 l1_1.length c1_1] 24 (0, 0))) ∧ (w'.heap[gb313]? = some (.cells #[.bool false, .slice none 0 0] 24 (0, 0))) ∧ (w'.heap[gb314]? = some (.cells #[.bool false, .slice none 0 0] 24 (0, 0))) ∧ (w'.heap[s_.2.1]? = some (.cells #[.bool false, .slice none 0 0] 24 (0, 0))) ∧ (w'.heap[s_.2.2]? = some (.cells #[.bool false, .slice none 0 0] 24 (0, 0))) ∧ (w.heap.size ≤ s_.2.1) ∧ (w.heap.size ≤ s_.2.1) ∧ (gb311 ≠ s_.2.1) ∧ (s_.2.1 ≠ gb311) ∧ (gb312 ≠ s_.2.1) ∧ (s_.2.1 ≠ gb312) ∧ (gb313 ≠ s_.2.1) ∧ (s_.2.1 ≠ gb313) ∧ (gb314 ≠ s_.2.1) ∧ (s_.2.1 ≠ gb314) ∧ (s_.2.2 ≠ s_.2.1) ∧ (s_.2.1 ≠ s_.2.2) ∧ (w.heap.size ≤ s_.2.2) ∧ (w.heap.size ≤ s_.2.2) ∧ (gb311 ≠ s_.2.2) ∧ (s_.2.2 ≠ gb311) ∧ (gb312 ≠ s_.2.2) ∧ (s_.2.2 ≠ gb312) ∧ (gb313 ≠ s_.2.2) ∧ (s_.2.2 ≠ gb313) ∧ (gb314 ≠ s_.2.2) ∧ (s_.2.2 ≠ gb314) ∧ (Below w.heap.size w w')) ?_ ?_
  ·rintro ⟨v325, gb331, gb332⟩ w34 ⟨hS_, h0_, h1_, h2_, h3_, h4_, h5_, h6_, h7_, h8_, h9_, h10_, h11_, h12_, h13_, h14_, h15_, h16_, h17_, h18_, h19_, h20_, h21_, h22_, h23_, h24_, h25_, h26_, h27_, h28_, h29_, h30_, h31_⟩
   dsimp only at h0_ h1_ h2_ h3_ h4_ h5_ h6_ h7_ h8_ h9_ h10_ h11_ h12_ h13_ h14_ h15_ h16_ h17_ h18_ h19_ h20_ h21_ h22_ h23_ h24_ h25_ h26_ h27_ h28_ h29_ h30_ h31_
   replace HO319 := Az h0_
   replace HO322 := Az h1_
   have HO326 := Az h2_
   replace BK311 := Az h3_
   replace BK312 := Az h4_
   replace BK313 := Az h5_
   replace BK314 := Az h6_
   have BK331 := Az h7_
   have BK332 := Az h8_
   have GW331 := Az h9_
   have GE331 := Az h10_
   have NB311_331 := Az h11_
   have NB331_311 := Az h12_
   have NB312_331 := Az h13_
   have NB331_312 := Az h14_
   have NB313_331 := Az h15_
   have NB331_313 := Az h16_
   have NB314_331 := Az h17_
   have NB331_314 := Az h18_
   have NB332_331 := Az h19_
   have NB331_332 := Az h20_
   have GW332 := Az h21_
   have GE332 := Az h22_
   have NB311_332 := Az h23_
   have NB332_311 := Az h24_
   have NB312_332 := Az h25_
   have NB332_312 := Az h26_
   have NB313_332 := Az h27_
   have NB332_313 := Az h28_
   have NB314_332 := Az h29_
   have NB332_314 := Az h30_
   replace HB := Az h31_
   have hHeld : w34.cell? ⟨gb311, 0, none⟩ = some (.bool a0_0) ∧ w34.cell? ⟨gb311, 1, none⟩ = some (.slice A0_1 l0_1.length c0_1) ∧ w34.cell? ⟨gb312, 0, none⟩ = some (.bool a1_0) ∧ w34.cell? ⟨gb312, 1, none⟩ = some (.slice A1_1 l1_1.length c1_1) := hS_
   refine norm_ (a' := ?_) ?_ ?_
   rotate_left
   ·simp only [putAll, Act.put, List.setIfInBounds_toArray, List.set_cons_zero, List.set_cons_succ]
    rfl
   refine on 10 (some 45) (bm 15 8191) HT_.out (fun K hK => ?_)
   refine gs Tryz.func94 #[.bool a0_0, .slice Ao29 t320.length co29] ?_
   with_reducible refine (o_form.calls a0_0 _ _ t320 t327 t328 _ ?side1 (Kd.V_reads' HO322.out).2.1 A10.out).mono ?_
   (case side1 => exact (Kd.V_reads' HO322.out).2.2)
   rintro e w35 ⟨v329, rfl, ho0, hb⟩
   refine ⟨_, rfl, ?_⟩
   replace HO322 := Az (Kd.V_elder' (vk HO322) (Kd.R_base ho0) hb)
   have HO330 := Az (Kd.R_lower (Kd.R_new' (Kd.R_new' ho0 (Kd.R_lt (rk HO319))) (Kd.R_lt (rk HO326))) (below_size (bls HB)))
   replace HO319 := Az (Kd.R_elder' (rk HO319) (Kd.R_base ho0) hb)
   replace HO326 := Az (Kd.R_elder' (rk HO326) (Kd.R_base ho0) hb)
   replace BK311 := kb BK311 hb
   replace BK312 := kb BK312 hb
   replace BK313 := kb BK313 hb
   replace BK314 := kb BK314 hb
   replace BK331 := kb BK331 hb
   replace BK332 := kb BK332 hb
   replace HB := bs HB hb
   refine hK.out _ _ hd (fun hHeld => ?_)
   refine nm ?_
   exact nj (hJ6_10_11_12 (v325, v329, gb331, gb332) _ ⟨hHeld, (rk HO319), (vt (Kd.V_mono HO322.out (fun _ hk => ⟨hk.1.1, ⟨hk.1.2.1, ⟨hk.2, ⟨hk.1.2.2.1, ⟨hk.1.2.2.2.1, ⟨hk.1.2.2.2.2.1, ⟨hk.1.2.2.2.2.2.1, ⟨hk.1.2.2.2.2.2.2.1, hk.1.2.2.2.2.2.2.2⟩⟩⟩⟩⟩⟩⟩⟩))), (rk HO326), (rt (Kd.R_mono HO330.out (fun _ hk => ⟨hk.1.2, hk.2⟩))), (bk BK311), (bk BK312), (bk BK313), (bk BK314), (bk BK331), (bk BK332), GW331.out, GE331.out, NB311_331.out, NB331_311.out, NB312_331.out, NB331_312.out, NB313_331.out, NB331_313.out, NB314_331.out, NB331_314.out, NB332_331.out, NB331_332.out, GW332.out, GE332.out, NB311_332.out, NB332_311.out, NB312_332.out, NB332_312.out, NB313_332.out, NB332_313.out, NB314_332.out, NB332_314.out, (bls HB)⟩)
  intro hJ6_11_12
  refine join_ (σ := Value × Value) 4 (bm 15 2047) (fun s_ => [(41, .agg #[.bool t323, s_.1]), (45, .agg #[.bool t327, s_.2])]) (fun s_ w' => (w'.cell? ⟨gb311, 0, none⟩ = some (.bool a0_0) ∧ w'.cell? ⟨gb311, 1, none⟩ = some (.slice A0_1 l0_1.length c0_1) ∧ w'.cell? ⟨gb312, 0, none⟩ = some (.bool a1_0) ∧ w'.cell? ⟨gb312, 1, none⟩ = some (.slice A1_1 l1_1.length c1_1)) ∧ (Kd.R (Kd.int .u64) 25 w' w.heap.size (fun k_ => some k_ ≠ (s_.1 : Value).ownBlock ∧ some k_ ≠ (s_.2 : Value).ownBlock) (.slice Ao28 t317.length co28) t317) ∧ (Kd.V (Kd.int .u64) 25 w' w.heap.size (fun k_ => some k_ ≠ (.slice Ao28 t317.length co28 : Value).ownBlock ∧ some k_ ≠ (s_.1 : Value).ownBlock ∧ some k_ ≠ (s_.2 : Value).ownBlock ∧ k_ ≠ gb311 ∧ k_ ≠ gb312 ∧ k_ ≠ gb313 ∧ k_ ≠ gb314) (.slice Ao29 t320.length co29) t320) ∧ (Kd.R (Kd.int .u64) 25 w' w.heap.size (fun k_ => some k_ ≠ (.slice Ao28 t317.length co28 : Value).ownBlock ∧ some k_ ≠ (s_.2 : Value).ownBlock) s_.1 t324) ∧ (Kd.R (Kd.int .u64) 25 w' w.heap.size (fun k_ => some k_ ≠ (.slice Ao28 t317.length co28 : Value).ownBlock ∧ some k_ ≠ (s_.1 : Value).ownBlock) s_.2 t328) ∧ (w'.heap[gb311]? = some (.cells #[.bool a0_0, .slice A0_1 l0_1.length c0_1] 24 (0, 0))) ∧ (w'.heap[gb312]? = some (.cells #[.bool a1_0, .slice A1_1 l1_1.length c1_1] 24 (0, 0))) ∧ (w'.heap[gb313]? = some (.cells #[.bool false, .slice none 0 0] 24 (0, 0))) ∧ (w'.heap[gb314]? = some (.cells #[.bool false, .slice none 0 0] 24 (0, 0))) ∧ (Below w.heap.size w w')) ?_ ?_
  ·rintro ⟨v325, v329⟩ w33 ⟨hS_, h0_, h1_, h2_, h3_, h4_, h5_, h6_, h7_, h8_⟩
   dsimp only at h0_ h1_ h2_ h3_ h4_ h5_ h6_ h7_ h8_
   replace HO319 := Az h0_
   replace HO322 := Az h1_
   have HO326 := Az h2_
   have HO330 := Az h3_
   replace BK311 := Az h4_
   replace BK312 := Az h5_
   replace BK313 := Az h6_
   replace BK314 := Az h7_
   replace HB := Az h8_
   have hHeld : w33.cell? ⟨gb311, 0, none⟩ = some (.bool a0_0) ∧ w33.cell? ⟨gb311, 1, none⟩ = some (.slice A0_1 l0_1.length c0_1) ∧ w33.cell? ⟨gb312, 0, none⟩ = some (.bool a1_0) ∧ w33.cell? ⟨gb312, 1, none⟩ = some (.slice A1_1 l1_1.length c1_1) := hS_
   refine norm_ (a' := ?_) ?_ ?_
   rotate_left
   ·simp only [putAll, Act.put, List.setIfInBounds_toArray, List.set_cons_zero, List.set_cons_succ]
    rfl
   refine two_ (i := 11) (j := 12) (Ni := some 9) (Nj := some 10) (bm 15 4095) (bm 15 6143) rfl rfl rfl rfl (two_of HT_.out (by kernel_rfl)) (by decide) (by decide) (fun K hK => ?_) (fun K hK => ?_)
   ·skip
    refine box_step ?hg (N := 9) ?hd (cs := #[.bool false, .slice none 0 0]) (t := 24) ?hr ?_; (case hd => rfl); (case hg => rfl); (case hr => first | (go_simp; done) | (go_simp; rfl))
    intro gb331 hg w34 hbox hb
    replace HO319 := Az (Kd.R_below (rk HO319) hb)
    replace HO322 := Az (Kd.V_below (Kd.V_elderB (vk HO322) gb331 (Nat.le_of_eq hg.symm)) hb)
    replace HO326 := Az (Kd.R_below (rk HO326) hb)
    replace HO330 := Az (Kd.R_below (rk HO330) hb)
    have BK331 := Az (hbox)
    have GW331 := gw (bls HB) hg
    have GE331 := gw (bls HB) hg
    replace HB := bs HB hb
    have NB311_331 := nl BK311 hg
    have NB331_311 := ng BK311 hg
    replace BK311 := kb BK311 hb
    have NB312_331 := nl BK312 hg
    have NB331_312 := ng BK312 hg
    replace BK312 := kb BK312 hb
    have NB313_331 := nl BK313 hg
    have NB331_313 := ng BK313 hg
    replace BK313 := kb BK313 hb
    have NB314_331 := nl BK314 hg
    have NB331_314 := ng BK314 hg
    replace BK314 := kb BK314 hb
    refine hK.out _ _ hd (fun hHeld => ?_)
    refine nm ?_
    exact nj (hJ6_10_11 (v325, v329, gb331) _ ⟨hHeld, (rk HO319), (vt (Kd.V_mono HO322.out (fun _ hk => ⟨hk.1.1, ⟨hk.1.2.1, ⟨hk.1.2.2.1, ⟨hk.1.2.2.2.1, ⟨hk.1.2.2.2.2.1, ⟨hk.1.2.2.2.2.2.1, ⟨hk.1.2.2.2.2.2.2, hk.2⟩⟩⟩⟩⟩⟩⟩))), (rk HO326), (rk HO330), (bk BK311), (bk BK312), (bk BK313), (bk BK314), (bk BK331), GW331.out, GE331.out, NB311_331.out, NB331_311.out, NB312_331.out, NB331_312.out, NB313_331.out, NB331_313.out, NB314_331.out, NB331_314.out, (bls HB)⟩)
   ·skip
    refine box_step ?hg (N := 10) ?hd (cs := #[.bool false, .slice none 0 0]) (t := 24) ?hr ?_; (case hd => rfl); (case hg => rfl); (case hr => first | (go_simp; done) | (go_simp; rfl))
    intro gb332 hg w34 hbox hb
    replace HO319 := Az (Kd.R_below (rk HO319) hb)
    replace HO322 := Az (Kd.V_below (Kd.V_elderB (vk HO322) gb332 (Nat.le_of_eq hg.symm)) hb)
    replace HO326 := Az (Kd.R_below (rk HO326) hb)
    replace HO330 := Az (Kd.R_below (rk HO330) hb)
    have BK332 := Az (hbox)
    have GW332 := gw (bls HB) hg
    have GE332 := gw (bls HB) hg
    replace HB := bs HB hb
    have NB311_332 := nl BK311 hg
    have NB332_311 := ng BK311 hg
    replace BK311 := kb BK311 hb
    have NB312_332 := nl BK312 hg
    have NB332_312 := ng BK312 hg
    replace BK312 := kb BK312 hb
    have NB313_332 := nl BK313 hg
    have NB332_313 := ng BK313 hg
    replace BK313 := kb BK313 hb
    have NB314_332 := nl BK314 hg
    have NB332_314 := ng BK314 hg
    replace BK314 := kb BK314 hb
    refine hK.out _ _ hd (fun hHeld => ?_)
    refine nm ?_
    exact nj (hJ6_10_12 (v325, v329, gb332) _ ⟨hHeld, (rk HO319), (vt (Kd.V_mono HO322.out (fun _ hk => ⟨hk.1.1, ⟨hk.1.2.1, ⟨hk.1.2.2.1, ⟨hk.1.2.2.2.1, ⟨hk.1.2.2.2.2.1, ⟨hk.1.2.2.2.2.2.1, ⟨hk.1.2.2.2.2.2.2, hk.2⟩⟩⟩⟩⟩⟩⟩))), (rk HO326), (rk HO330), (bk BK311), (bk BK312), (bk BK313), (bk BK314), (bk BK332), GW332.out, GE332.out, NB311_332.out, NB332_311.out, NB312_332.out, NB332_312.out, NB313_332.out, NB332_313.out, NB314_332.out, NB332_314.out, (bls HB)⟩)
  intro hJ6_10
  refine join_ (σ := Value × Nat) 4 (bm 15 3071) (fun s_ => [(41, .agg #[.bool t323, s_.1]), (9, .pointer (some ⟨s_.2, 0, none⟩))]) (fun s_ w' => (w'.cell? ⟨gb311, 0, none⟩ = some (.bool a0_0) ∧ w'.cell? ⟨gb311, 1, none⟩ = some (.slice A0_1 l0_1.length c0_1) ∧ w'.cell? ⟨gb312, 0, none⟩ = some (.bool a1_0) ∧ w'.cell? ⟨gb312, 1, none⟩ = some (.slice A1_1 l1_1.length c1_1)) ∧ (Kd.R (Kd.int .u64) 25 w' w.heap.size (fun k_ => some k_ ≠ (s_.1 : Value).ownBlock) (.slice Ao28 t317.length co28) t317) ∧ (Kd.V (Kd.int .u64) 25 w' w.heap.size (fun k_ => some k_ ≠ (.slice Ao28 t317.length co28 : Value).ownBlock ∧ some k_ ≠ (s_.1 : Value).ownBlock ∧ k_ ≠ gb311 ∧ k_ ≠ gb312 ∧ k_ ≠ gb313 ∧ k_ ≠ gb314 ∧ k_ ≠ s_.2) (.slice Ao29 t320.length co29) t320) ∧ (Kd.R (Kd.int .u64) 25 w' w.heap.size (fun k_ => some k_ ≠ (.slice Ao28 t317.length co28 : Value).ownBlock) s_.1 t324) ∧ (w'.heap[gb311]? = some (.cells #[.bool a0_0, .slice A0_1 l0_1.length c0_1] 24 (0, 0))) ∧ (w'.heap[gb312]? = some (.cells #[.bool a1_0, .slice A1_1 l1_1.length c1_1] 24 (0, 0))) ∧ (w'.heap[gb313]? = some (.cells #[.bool false, .slice none 0 0] 24 (0, 0))) ∧ (w'.heap[gb314]? = some (.cells #[.bool false, .slice none 0 0] 24 (0, 0))) ∧ (w'.heap[s_.2]? = some (.cells #[.bool false, .slice none 0 0] 24 (0, 0))) ∧ (w.heap.size ≤ s_.2) ∧ (w.heap.size ≤ s_.2) ∧ (gb311 ≠ s_.2) ∧ (s_.2 ≠ gb311) ∧ (gb312 ≠ s_.2) ∧ (s_.2 ≠ gb312) ∧ (gb313 ≠ s_.2) ∧ (s_.2 ≠ gb313) ∧ (gb314 ≠ s_.2) ∧ (s_.2 ≠ gb314) ∧ (Below w.heap.size w w')) ?_ ?_
  ·rintro ⟨v325, gb331⟩ w33 ⟨hS_, h0_, h1_, h2_, h3_, h4_, h5_, h6_, h7_, h8_, h9_, h10_, h11_, h12_, h13_, h14_, h15_, h16_, h17_, h18_⟩
   dsimp only at h0_ h1_ h2_ h3_ h4_ h5_ h6_ h7_ h8_ h9_ h10_ h11_ h12_ h13_ h14_ h15_ h16_ h17_ h18_
   replace HO319 := Az h0_
   replace HO322 := Az h1_
   have HO326 := Az h2_
   replace BK311 := Az h3_
   replace BK312 := Az h4_
   replace BK313 := Az h5_
   replace BK314 := Az h6_
   have BK331 := Az h7_
   have GW331 := Az h8_
   have GE331 := Az h9_
   have NB311_331 := Az h10_
   have NB331_311 := Az h11_
   have NB312_331 := Az h12_
   have NB331_312 := Az h13_
   have NB313_331 := Az h14_
   have NB331_313 := Az h15_
   have NB314_331 := Az h16_
   have NB331_314 := Az h17_
   replace HB := Az h18_
   have hHeld : w33.cell? ⟨gb311, 0, none⟩ = some (.bool a0_0) ∧ w33.cell? ⟨gb311, 1, none⟩ = some (.slice A0_1 l0_1.length c0_1) ∧ w33.cell? ⟨gb312, 0, none⟩ = some (.bool a1_0) ∧ w33.cell? ⟨gb312, 1, none⟩ = some (.slice A1_1 l1_1.length c1_1) := hS_
   refine norm_ (a' := ?_) ?_ ?_
   rotate_left
   ·simp only [putAll, Act.put, List.setIfInBounds_toArray, List.set_cons_zero, List.set_cons_succ]
    rfl
   refine two_ (i := 10) (j := 12) (Ni := some 45) (Nj := some 10) (bm 15 4095) (bm 15 7167) rfl rfl rfl rfl (two_of HT_.out (by kernel_rfl)) (by decide) (by decide) (fun K hK => ?_) (fun K hK => ?_)
   ·skip
    refine gs Tryz.func94 #[.bool a0_0, .slice Ao29 t320.length co29] ?_
    with_reducible refine (o_form.calls a0_0 _ _ t320 t327 t328 _ ?side1 (Kd.V_reads' HO322.out).2.1 A10.out).mono ?_
    (case side1 => exact (Kd.V_reads' HO322.out).2.2)
    rintro e w34 ⟨v329, rfl, ho0, hb⟩
    refine ⟨_, rfl, ?_⟩
    replace HO322 := Az (Kd.V_elder' (vk HO322) (Kd.R_base ho0) hb)
    have HO330 := Az (Kd.R_lower (Kd.R_new' (Kd.R_new' ho0 (Kd.R_lt (rk HO319))) (Kd.R_lt (rk HO326))) (below_size (bls HB)))
    replace HO319 := Az (Kd.R_elder' (rk HO319) (Kd.R_base ho0) hb)
    replace HO326 := Az (Kd.R_elder' (rk HO326) (Kd.R_base ho0) hb)
    replace BK311 := kb BK311 hb
    replace BK312 := kb BK312 hb
    replace BK313 := kb BK313 hb
    replace BK314 := kb BK314 hb
    replace BK331 := kb BK331 hb
    replace HB := bs HB hb
    refine hK.out _ _ hd (fun hHeld => ?_)
    refine nm ?_
    exact nj (hJ6_10_11 (v325, v329, gb331) _ ⟨hHeld, (rk HO319), (vt (Kd.V_mono HO322.out (fun _ hk => ⟨hk.1.1, ⟨hk.1.2.1, ⟨hk.2, ⟨hk.1.2.2.1, ⟨hk.1.2.2.2.1, ⟨hk.1.2.2.2.2.1, ⟨hk.1.2.2.2.2.2.1, hk.1.2.2.2.2.2.2⟩⟩⟩⟩⟩⟩⟩))), (rk HO326), (rt (Kd.R_mono HO330.out (fun _ hk => ⟨hk.1.2, hk.2⟩))), (bk BK311), (bk BK312), (bk BK313), (bk BK314), (bk BK331), GW331.out, GE331.out, NB311_331.out, NB331_311.out, NB312_331.out, NB331_312.out, NB313_331.out, NB331_313.out, NB314_331.out, NB331_314.out, (bls HB)⟩)
   ·skip
    refine box_step ?hg (N := 10) ?hd (cs := #[.bool false, .slice none 0 0]) (t := 24) ?hr ?_; (case hd => rfl); (case hg => rfl); (case hr => first | (go_simp; done) | (go_simp; rfl))
    intro gb332 hg w34 hbox hb
    replace HO319 := Az (Kd.R_below (rk HO319) hb)
    replace HO322 := Az (Kd.V_below (Kd.V_elderB (vk HO322) gb332 (Nat.le_of_eq hg.symm)) hb)
    replace HO326 := Az (Kd.R_below (rk HO326) hb)
    have BK332 := Az (hbox)
    have GW332 := gw (bls HB) hg
    have GE332 := gw (bls HB) hg
    replace HB := bs HB hb
    have NB311_332 := nl BK311 hg
    have NB332_311 := ng BK311 hg
    replace BK311 := kb BK311 hb
    have NB312_332 := nl BK312 hg
    have NB332_312 := ng BK312 hg
    replace BK312 := kb BK312 hb
    have NB313_332 := nl BK313 hg
    have NB332_313 := ng BK313 hg
    replace BK313 := kb BK313 hb
    have NB314_332 := nl BK314 hg
    have NB332_314 := ng BK314 hg
    replace BK314 := kb BK314 hb
    have NB331_332 := nl BK331 hg
    have NB332_331 := ng BK331 hg
    replace BK331 := kb BK331 hb
    refine hK.out _ _ hd (fun hHeld => ?_)
    refine nm ?_
    exact nj (hJ6_11_12 (v325, gb331, gb332) _ ⟨hHeld, (rk HO319), (vt (Kd.V_mono HO322.out (fun _ hk => ⟨hk.1.1, ⟨hk.1.2.1, ⟨hk.1.2.2.1, ⟨hk.1.2.2.2.1, ⟨hk.1.2.2.2.2.1, ⟨hk.1.2.2.2.2.2.1, ⟨hk.1.2.2.2.2.2.2, hk.2⟩⟩⟩⟩⟩⟩⟩))), (rk HO326), (bk BK311), (bk BK312), (bk BK313), (bk BK314), (bk BK331), (bk BK332), GW331.out, GE331.out, NB311_331.out, NB331_311.out, NB312_331.out, NB331_312.out, NB313_331.out, NB331_313.out, NB314_331.out, NB331_314.out, NB332_331.out, NB331_332.out, GW332.out, GE332.out, NB311_332.out, NB332_311.out, NB312_332.out, NB332_312.out, NB313_332.out, NB332_313.out, NB314_332.out, NB332_314.out, (bls HB)⟩)
  intro hJ6_11
  refine join_ (σ := Value × Nat) 4 (bm 15 5119) (fun s_ => [(41, .agg #[.bool t323, s_.1]), (10, .pointer (some ⟨s_.2, 0, none⟩))]) (fun s_ w' => (w'.cell? ⟨gb311, 0, none⟩ = some (.bool a0_0) ∧ w'.cell? ⟨gb311, 1, none⟩ = some (.slice A0_1 l0_1.length c0_1) ∧ w'.cell? ⟨gb312, 0, none⟩ = some (.bool a1_0) ∧ w'.cell? ⟨gb312, 1, none⟩ = some (.slice A1_1 l1_1.length c1_1)) ∧ (Kd.R (Kd.int .u64) 25 w' w.heap.size (fun k_ => some k_ ≠ (s_.1 : Value).ownBlock) (.slice Ao28 t317.length co28) t317) ∧ (Kd.V (Kd.int .u64) 25 w' w.heap.size (fun k_ => some k_ ≠ (.slice Ao28 t317.length co28 : Value).ownBlock ∧ some k_ ≠ (s_.1 : Value).ownBlock ∧ k_ ≠ gb311 ∧ k_ ≠ gb312 ∧ k_ ≠ gb313 ∧ k_ ≠ gb314 ∧ k_ ≠ s_.2) (.slice Ao29 t320.length co29) t320) ∧ (Kd.R (Kd.int .u64) 25 w' w.heap.size (fun k_ => some k_ ≠ (.slice Ao28 t317.length co28 : Value).ownBlock) s_.1 t324) ∧ (w'.heap[gb311]? = some (.cells #[.bool a0_0, .slice A0_1 l0_1.length c0_1] 24 (0, 0))) ∧ (w'.heap[gb312]? = some (.cells #[.bool a1_0, .slice A1_1 l1_1.length c1_1] 24 (0, 0))) ∧ (w'.heap[gb313]? = some (.cells #[.bool false, .slice none 0 0] 24 (0, 0))) ∧ (w'.heap[gb314]? = some (.cells #[.bool false, .slice none 0 0] 24 (0, 0))) ∧ (w'.heap[s_.2]? = some (.cells #[.bool false, .slice none 0 0] 24 (0, 0))) ∧ (w.heap.size ≤ s_.2) ∧ (w.heap.size ≤ s_.2) ∧ (gb311 ≠ s_.2) ∧ (s_.2 ≠ gb311) ∧ (gb312 ≠ s_.2) ∧ (s_.2 ≠ gb312) ∧ (gb313 ≠ s_.2) ∧ (s_.2 ≠ gb313) ∧ (gb314 ≠ s_.2) ∧ (s_.2 ≠ gb314) ∧ (Below w.heap.size w w')) ?_ ?_
  ·rintro ⟨v325, gb332⟩ w33 ⟨hS_, h0_, h1_, h2_, h3_, h4_, h5_, h6_, h7_, h8_, h9_, h10_, h11_, h12_, h13_, h14_, h15_, h16_, h17_, h18_⟩
   dsimp only at h0_ h1_ h2_ h3_ h4_ h5_ h6_ h7_ h8_ h9_ h10_ h11_ h12_ h13_ h14_ h15_ h16_ h17_ h18_
   replace HO319 := Az h0_
   replace HO322 := Az h1_
   have HO326 := Az h2_
   replace BK311 := Az h3_
   replace BK312 := Az h4_
   replace BK313 := Az h5_
   replace BK314 := Az h6_
   have BK332 := Az h7_
   have GW332 := Az h8_
   have GE332 := Az h9_
   have NB311_332 := Az h10_
   have NB332_311 := Az h11_
   have NB312_332 := Az h12_
   have NB332_312 := Az h13_
   have NB313_332 := Az h14_
   have NB332_313 := Az h15_
   have NB314_332 := Az h16_
   have NB332_314 := Az h17_
   replace HB := Az h18_
   have hHeld : w33.cell? ⟨gb311, 0, none⟩ = some (.bool a0_0) ∧ w33.cell? ⟨gb311, 1, none⟩ = some (.slice A0_1 l0_1.length c0_1) ∧ w33.cell? ⟨gb312, 0, none⟩ = some (.bool a1_0) ∧ w33.cell? ⟨gb312, 1, none⟩ = some (.slice A1_1 l1_1.length c1_1) := hS_
   refine norm_ (a' := ?_) ?_ ?_
   rotate_left
   ·simp only [putAll, Act.put, List.setIfInBounds_toArray, List.set_cons_zero, List.set_cons_succ]
    rfl
   refine two_ (i := 10) (j := 11) (Ni := some 45) (Nj := some 9) (bm 15 6143) (bm 15 7167) rfl rfl rfl rfl (two_of HT_.out (by kernel_rfl)) (by decide) (by decide) (fun K hK => ?_) (fun K hK => ?_)
   ·skip
    refine gs Tryz.func94 #[.bool a0_0, .slice Ao29 t320.length co29] ?_
    with_reducible refine (o_form.calls a0_0 _ _ t320 t327 t328 _ ?side1 (Kd.V_reads' HO322.out).2.1 A10.out).mono ?_
    (case side1 => exact (Kd.V_reads' HO322.out).2.2)
    rintro e w34 ⟨v329, rfl, ho0, hb⟩
    refine ⟨_, rfl, ?_⟩
    replace HO322 := Az (Kd.V_elder' (vk HO322) (Kd.R_base ho0) hb)
    have HO330 := Az (Kd.R_lower (Kd.R_new' (Kd.R_new' ho0 (Kd.R_lt (rk HO319))) (Kd.R_lt (rk HO326))) (below_size (bls HB)))
    replace HO319 := Az (Kd.R_elder' (rk HO319) (Kd.R_base ho0) hb)
    replace HO326 := Az (Kd.R_elder' (rk HO326) (Kd.R_base ho0) hb)
    replace BK311 := kb BK311 hb
    replace BK312 := kb BK312 hb
    replace BK313 := kb BK313 hb
    replace BK314 := kb BK314 hb
    replace BK332 := kb BK332 hb
    replace HB := bs HB hb
    refine hK.out _ _ hd (fun hHeld => ?_)
    refine nm ?_
    exact nj (hJ6_10_12 (v325, v329, gb332) _ ⟨hHeld, (rk HO319), (vt (Kd.V_mono HO322.out (fun _ hk => ⟨hk.1.1, ⟨hk.1.2.1, ⟨hk.2, ⟨hk.1.2.2.1, ⟨hk.1.2.2.2.1, ⟨hk.1.2.2.2.2.1, ⟨hk.1.2.2.2.2.2.1, hk.1.2.2.2.2.2.2⟩⟩⟩⟩⟩⟩⟩))), (rk HO326), (rt (Kd.R_mono HO330.out (fun _ hk => ⟨hk.1.2, hk.2⟩))), (bk BK311), (bk BK312), (bk BK313), (bk BK314), (bk BK332), GW332.out, GE332.out, NB311_332.out, NB332_311.out, NB312_332.out, NB332_312.out, NB313_332.out, NB332_313.out, NB314_332.out, NB332_314.out, (bls HB)⟩)
   ·skip
    refine box_step ?hg (N := 9) ?hd (cs := #[.bool false, .slice none 0 0]) (t := 24) ?hr ?_; (case hd => rfl); (case hg => rfl); (case hr => first | (go_simp; done) | (go_simp; rfl))
    intro gb331 hg w34 hbox hb
    replace HO319 := Az (Kd.R_below (rk HO319) hb)
    replace HO322 := Az (Kd.V_below (Kd.V_elderB (vk HO322) gb331 (Nat.le_of_eq hg.symm)) hb)
    replace HO326 := Az (Kd.R_below (rk HO326) hb)
    have BK331 := Az (hbox)
    have GW331 := gw (bls HB) hg
    have GE331 := gw (bls HB) hg
    replace HB := bs HB hb
    have NB311_331 := nl BK311 hg
    have NB331_311 := ng BK311 hg
    replace BK311 := kb BK311 hb
    have NB312_331 := nl BK312 hg
    have NB331_312 := ng BK312 hg
    replace BK312 := kb BK312 hb
    have NB313_331 := nl BK313 hg
    have NB331_313 := ng BK313 hg
    replace BK313 := kb BK313 hb
    have NB314_331 := nl BK314 hg
    have NB331_314 := ng BK314 hg
    replace BK314 := kb BK314 hb
    have NB332_331 := nl BK332 hg
    have NB331_332 := ng BK332 hg
    replace BK332 := kb BK332 hb
    refine hK.out _ _ hd (fun hHeld => ?_)
    refine nm ?_
    exact nj (hJ6_11_12 (v325, gb331, gb332) _ ⟨hHeld, (rk HO319), (vt (Kd.V_mono HO322.out (fun _ hk => ⟨hk.1.1, ⟨hk.1.2.1, ⟨hk.1.2.2.1, ⟨hk.1.2.2.2.1, ⟨hk.1.2.2.2.2.1, ⟨hk.1.2.2.2.2.2.1, ⟨hk.2, hk.1.2.2.2.2.2.2⟩⟩⟩⟩⟩⟩⟩))), (rk HO326), (bk BK311), (bk BK312), (bk BK313), (bk BK314), (bk BK331), (bk BK332), GW331.out, GE331.out, NB311_331.out, NB331_311.out, NB312_331.out, NB331_312.out, NB313_331.out, NB331_313.out, NB314_331.out, NB331_314.out, NB332_331.out, NB331_332.out, GW332.out, GE332.out, NB311_332.out, NB332_311.out, NB312_332.out, NB332_312.out, NB313_332.out, NB332_313.out, NB314_332.out, NB332_314.out, (bls HB)⟩)
  intro hJ6_12
  refine join_ (σ := Nat × Nat) 4 (bm 15 7103) (fun s_ => [(9, .pointer (some ⟨s_.1, 0, none⟩)), (10, .pointer (some ⟨s_.2, 0, none⟩))]) (fun s_ w' => (w'.cell? ⟨gb311, 0, none⟩ = some (.bool a0_0) ∧ w'.cell? ⟨gb311, 1, none⟩ = some (.slice A0_1 l0_1.length c0_1) ∧ w'.cell? ⟨gb312, 0, none⟩ = some (.bool a1_0) ∧ w'.cell? ⟨gb312, 1, none⟩ = some (.slice A1_1 l1_1.length c1_1)) ∧ (Kd.R (Kd.int .u64) 25 w' w.heap.size (fun _ => True) (.slice Ao28 t317.length co28) t317) ∧ (Kd.V (Kd.int .u64) 25 w' w.heap.size (fun k_ => some k_ ≠ (.slice Ao28 t317.length co28 : Value).ownBlock ∧ k_ ≠ gb311 ∧ k_ ≠ gb312 ∧ k_ ≠ gb313 ∧ k_ ≠ gb314 ∧ k_ ≠ s_.1 ∧ k_ ≠ s_.2) (.slice Ao29 t320.length co29) t320) ∧ (w'.heap[gb311]? = some (.cells #[.bool a0_0, .slice A0_1 l0_1.length c0_1] 24 (0, 0))) ∧ (w'.heap[gb312]? = some (.cells #[.bool a1_0, .slice A1_1 l1_1.length c1_1] 24 (0, 0))) ∧ (w'.heap[gb313]? = some (.cells #[.bool false, .slice none 0 0] 24 (0, 0))) ∧ (w'.heap[gb314]? = some (.cells #[.bool false, .slice none 0 0] 24 (0, 0))) ∧ (w'.heap[s_.1]? = some (.cells #[.bool false, .slice none 0 0] 24 (0, 0))) ∧ (w'.heap[s_.2]? = some (.cells #[.bool false, .slice none 0 0] 24 (0, 0))) ∧ (w.heap.size ≤ s_.1) ∧ (w.heap.size ≤ s_.1) ∧ (gb311 ≠ s_.1) ∧ (s_.1 ≠ gb311) ∧ (gb312 ≠ s_.1) ∧ (s_.1 ≠ gb312) ∧ (gb313 ≠ s_.1) ∧ (s_.1 ≠ gb313) ∧ (gb314 ≠ s_.1) ∧ (s_.1 ≠ gb314) ∧ (s_.2 ≠ s_.1) ∧ (s_.1 ≠ s_.2) ∧ (w.heap.size ≤ s_.2) ∧ (w.heap.size ≤ s_.2) ∧ (gb311 ≠ s_.2) ∧ (s_.2 ≠ gb311) ∧ (gb312 ≠ s_.2) ∧ (s_.2 ≠ gb312) ∧ (gb313 ≠ s_.2) ∧ (s_.2 ≠ gb313) ∧ (gb314 ≠ s_.2) ∧ (s_.2 ≠ gb314) ∧ (Below w.heap.size w w')) ?_ ?_
  ·rintro ⟨gb331, gb332⟩ w33 ⟨hS_, h0_, h1_, h2_, h3_, h4_, h5_, h6_, h7_, h8_, h9_, h10_, h11_, h12_, h13_, h14_, h15_, h16_, h17_, h18_, h19_, h20_, h21_, h22_, h23_, h24_, h25_, h26_, h27_, h28_, h29_, h30_⟩
   dsimp only at h0_ h1_ h2_ h3_ h4_ h5_ h6_ h7_ h8_ h9_ h10_ h11_ h12_ h13_ h14_ h15_ h16_ h17_ h18_ h19_ h20_ h21_ h22_ h23_ h24_ h25_ h26_ h27_ h28_ h29_ h30_
   replace HO319 := Az h0_
   replace HO322 := Az h1_
   replace BK311 := Az h2_
   replace BK312 := Az h3_
   replace BK313 := Az h4_
   replace BK314 := Az h5_
   have BK331 := Az h6_
   have BK332 := Az h7_
   have GW331 := Az h8_
   have GE331 := Az h9_
   have NB311_331 := Az h10_
   have NB331_311 := Az h11_
   have NB312_331 := Az h12_
   have NB331_312 := Az h13_
   have NB313_331 := Az h14_
   have NB331_313 := Az h15_
   have NB314_331 := Az h16_
   have NB331_314 := Az h17_
   have NB332_331 := Az h18_
   have NB331_332 := Az h19_
   have GW332 := Az h20_
   have GE332 := Az h21_
   have NB311_332 := Az h22_
   have NB332_311 := Az h23_
   have NB312_332 := Az h24_
   have NB332_312 := Az h25_
   have NB313_332 := Az h26_
   have NB332_313 := Az h27_
   have NB314_332 := Az h28_
   have NB332_314 := Az h29_
   replace HB := Az h30_
   have hHeld : w33.cell? ⟨gb311, 0, none⟩ = some (.bool a0_0) ∧ w33.cell? ⟨gb311, 1, none⟩ = some (.slice A0_1 l0_1.length c0_1) ∧ w33.cell? ⟨gb312, 0, none⟩ = some (.bool a1_0) ∧ w33.cell? ⟨gb312, 1, none⟩ = some (.slice A1_1 l1_1.length c1_1) := hS_
   refine norm_ (a' := ?_) ?_ ?_
   rotate_left
   ·simp only [putAll, Act.put, List.setIfInBounds_toArray, List.set_cons_zero, List.set_cons_succ]
    rfl
   refine on 6 (some 41) (bm 15 7167) HT_.out (fun K hK => ?_)
   refine gs Tryz.func94 #[.bool (a0_0 != a1_0), .slice Ao28 t317.length co28] ?_
   with_reducible refine (o_form.calls (a0_0 != a1_0) _ _ t317 t323 t324 _ ?side1 (Kd.R_reads' HO319.out).2.1 A9.out).mono ?_
   (case side1 => exact (Kd.R_reads' HO319.out).2.2)
   rintro e w34 ⟨v325, rfl, ho0, hb⟩
   refine ⟨_, rfl, ?_⟩
   replace HO322 := Az (Kd.V_elder' (vk HO322) (Kd.R_base ho0) hb)
   have HO326 := Az (Kd.R_lower (Kd.R_new' ho0 (Kd.R_lt (rk HO319))) (below_size (bls HB)))
   replace HO319 := Az (Kd.R_elder' (rk HO319) (Kd.R_base ho0) hb)
   replace BK311 := kb BK311 hb
   replace BK312 := kb BK312 hb
   replace BK313 := kb BK313 hb
   replace BK314 := kb BK314 hb
   replace BK331 := kb BK331 hb
   replace BK332 := kb BK332 hb
   replace HB := bs HB hb
   refine hK.out _ _ hd (fun hHeld => ?_)
   refine nm ?_
   exact nj (hJ6_11_12 (v325, gb331, gb332) _ ⟨hHeld, (rt (Kd.R_mono HO319.out (fun _ hk => hk.2))), (vt (Kd.V_mono HO322.out (fun _ hk => ⟨hk.1.1, ⟨hk.2, ⟨hk.1.2.1, ⟨hk.1.2.2.1, ⟨hk.1.2.2.2.1, ⟨hk.1.2.2.2.2.1, ⟨hk.1.2.2.2.2.2.1, hk.1.2.2.2.2.2.2⟩⟩⟩⟩⟩⟩⟩))), (rt (Kd.R_mono HO326.out (fun _ hk => hk.2))), (bk BK311), (bk BK312), (bk BK313), (bk BK314), (bk BK331), (bk BK332), GW331.out, GE331.out, NB311_331.out, NB331_311.out, NB312_331.out, NB331_312.out, NB313_331.out, NB331_313.out, NB314_331.out, NB331_314.out, NB332_331.out, NB331_332.out, GW332.out, GE332.out, NB311_332.out, NB332_311.out, NB312_332.out, NB332_312.out, NB313_332.out, NB332_313.out, NB314_332.out, NB332_314.out, (bls HB)⟩)
  intro hJ11_12
  refine join_ (σ := Value) 5 (bm 15 1023) (fun s_ => [(41, .agg #[.bool t323, s_])]) (fun s_ w' => (w'.cell? ⟨gb311, 0, none⟩ = some (.bool a0_0) ∧ w'.cell? ⟨gb311, 1, none⟩ = some (.slice A0_1 l0_1.length c0_1) ∧ w'.cell? ⟨gb312, 0, none⟩ = some (.bool a1_0) ∧ w'.cell? ⟨gb312, 1, none⟩ = some (.slice A1_1 l1_1.length c1_1)) ∧ (Kd.R (Kd.int .u64) 25 w' w.heap.size (fun k_ => some k_ ≠ (s_ : Value).ownBlock) (.slice Ao28 t317.length co28) t317) ∧ (Kd.V (Kd.int .u64) 25 w' w.heap.size (fun k_ => some k_ ≠ (.slice Ao28 t317.length co28 : Value).ownBlock ∧ some k_ ≠ (s_ : Value).ownBlock ∧ k_ ≠ gb311 ∧ k_ ≠ gb312 ∧ k_ ≠ gb313 ∧ k_ ≠ gb314) (.slice Ao29 t320.length co29) t320) ∧ (Kd.R (Kd.int .u64) 25 w' w.heap.size (fun k_ => some k_ ≠ (.slice Ao28 t317.length co28 : Value).ownBlock) s_ t324) ∧ (w'.heap[gb311]? = some (.cells #[.bool a0_0, .slice A0_1 l0_1.length c0_1] 24 (0, 0))) ∧ (w'.heap[gb312]? = some (.cells #[.bool a1_0, .slice A1_1 l1_1.length c1_1] 24 (0, 0))) ∧ (w'.heap[gb313]? = some (.cells #[.bool false, .slice none 0 0] 24 (0, 0))) ∧ (w'.heap[gb314]? = some (.cells #[.bool false, .slice none 0 0] 24 (0, 0))) ∧ (Below w.heap.size w w')) ?_ ?_
  ·rintro v325 w32 ⟨hS_, h0_, h1_, h2_, h3_, h4_, h5_, h6_, h7_⟩
   replace HO319 := Az h0_
   replace HO322 := Az h1_
   have HO326 := Az h2_
   replace BK311 := Az h3_
   replace BK312 := Az h4_
   replace BK313 := Az h5_
   replace BK314 := Az h6_
   replace HB := Az h7_
   have hHeld : w32.cell? ⟨gb311, 0, none⟩ = some (.bool a0_0) ∧ w32.cell? ⟨gb311, 1, none⟩ = some (.slice A0_1 l0_1.length c0_1) ∧ w32.cell? ⟨gb312, 0, none⟩ = some (.bool a1_0) ∧ w32.cell? ⟨gb312, 1, none⟩ = some (.slice A1_1 l1_1.length c1_1) := hS_
   refine norm_ (a' := ?_) ?_ ?_
   rotate_left
   ·simp only [putAll, Act.put, List.setIfInBounds_toArray, List.set_cons_zero, List.set_cons_succ]
    rfl
   refine three_ (i := 10) (j := 11) (k := 12) (Ni := some 45) (Nj := some 9) (Nk := some 10) (bm 15 2047) (bm 15 3071) (bm 15 5119) rfl rfl rfl rfl rfl rfl (three_of HT_.out (by kernel_rfl)) (by decide) (by decide) (by decide) (fun K hK => ?_) (fun K hK => ?_) (fun K hK => ?_)
   ·skip
    refine gs Tryz.func94 #[.bool a0_0, .slice Ao29 t320.length co29] ?_
    with_reducible refine (o_form.calls a0_0 _ _ t320 t327 t328 _ ?side1 (Kd.V_reads' HO322.out).2.1 A10.out).mono ?_
    (case side1 => exact (Kd.V_reads' HO322.out).2.2)
    rintro e w33 ⟨v329, rfl, ho0, hb⟩
    refine ⟨_, rfl, ?_⟩
    replace HO322 := Az (Kd.V_elder' (vk HO322) (Kd.R_base ho0) hb)
    have HO330 := Az (Kd.R_lower (Kd.R_new' (Kd.R_new' ho0 (Kd.R_lt (rk HO319))) (Kd.R_lt (rk HO326))) (below_size (bls HB)))
    replace HO319 := Az (Kd.R_elder' (rk HO319) (Kd.R_base ho0) hb)
    replace HO326 := Az (Kd.R_elder' (rk HO326) (Kd.R_base ho0) hb)
    replace BK311 := kb BK311 hb
    replace BK312 := kb BK312 hb
    replace BK313 := kb BK313 hb
    replace BK314 := kb BK314 hb
    replace HB := bs HB hb
    refine hK.out _ _ hd (fun hHeld => ?_)
    refine nm ?_
    exact nj (hJ6_10 (v325, v329) _ ⟨hHeld, (rk HO319), (vt (Kd.V_mono HO322.out (fun _ hk => ⟨hk.1.1, ⟨hk.1.2.1, ⟨hk.2, ⟨hk.1.2.2.1, ⟨hk.1.2.2.2.1, ⟨hk.1.2.2.2.2.1, hk.1.2.2.2.2.2⟩⟩⟩⟩⟩⟩))), (rk HO326), (rt (Kd.R_mono HO330.out (fun _ hk => ⟨hk.1.2, hk.2⟩))), (bk BK311), (bk BK312), (bk BK313), (bk BK314), (bls HB)⟩)
   ·skip
    refine box_step ?hg (N := 9) ?hd (cs := #[.bool false, .slice none 0 0]) (t := 24) ?hr ?_; (case hd => rfl); (case hg => rfl); (case hr => first | (go_simp; done) | (go_simp; rfl))
    intro gb331 hg w33 hbox hb
    replace HO319 := Az (Kd.R_below (rk HO319) hb)
    replace HO322 := Az (Kd.V_below (Kd.V_elderB (vk HO322) gb331 (Nat.le_of_eq hg.symm)) hb)
    replace HO326 := Az (Kd.R_below (rk HO326) hb)
    have BK331 := Az (hbox)
    have GW331 := gw (bls HB) hg
    have GE331 := gw (bls HB) hg
    replace HB := bs HB hb
    have NB311_331 := nl BK311 hg
    have NB331_311 := ng BK311 hg
    replace BK311 := kb BK311 hb
    have NB312_331 := nl BK312 hg
    have NB331_312 := ng BK312 hg
    replace BK312 := kb BK312 hb
    have NB313_331 := nl BK313 hg
    have NB331_313 := ng BK313 hg
    replace BK313 := kb BK313 hb
    have NB314_331 := nl BK314 hg
    have NB331_314 := ng BK314 hg
    replace BK314 := kb BK314 hb
    refine hK.out _ _ hd (fun hHeld => ?_)
    refine nm ?_
    exact nj (hJ6_11 (v325, gb331) _ ⟨hHeld, (rk HO319), (vt (Kd.V_mono HO322.out (fun _ hk => ⟨hk.1.1, ⟨hk.1.2.1, ⟨hk.1.2.2.1, ⟨hk.1.2.2.2.1, ⟨hk.1.2.2.2.2.1, ⟨hk.1.2.2.2.2.2, hk.2⟩⟩⟩⟩⟩⟩))), (rk HO326), (bk BK311), (bk BK312), (bk BK313), (bk BK314), (bk BK331), GW331.out, GE331.out, NB311_331.out, NB331_311.out, NB312_331.out, NB331_312.out, NB313_331.out, NB331_313.out, NB314_331.out, NB331_314.out, (bls HB)⟩)
   ·skip
    refine box_step ?hg (N := 10) ?hd (cs := #[.bool false, .slice none 0 0]) (t := 24) ?hr ?_; (case hd => rfl); (case hg => rfl); (case hr => first | (go_simp; done) | (go_simp; rfl))
    intro gb332 hg w33 hbox hb
    replace HO319 := Az (Kd.R_below (rk HO319) hb)
    replace HO322 := Az (Kd.V_below (Kd.V_elderB (vk HO322) gb332 (Nat.le_of_eq hg.symm)) hb)
    replace HO326 := Az (Kd.R_below (rk HO326) hb)
    have BK332 := Az (hbox)
    have GW332 := gw (bls HB) hg
    have GE332 := gw (bls HB) hg
    replace HB := bs HB hb
    have NB311_332 := nl BK311 hg
    have NB332_311 := ng BK311 hg
    replace BK311 := kb BK311 hb
    have NB312_332 := nl BK312 hg
    have NB332_312 := ng BK312 hg
    replace BK312 := kb BK312 hb
    have NB313_332 := nl BK313 hg
    have NB332_313 := ng BK313 hg
    replace BK313 := kb BK313 hb
    have NB314_332 := nl BK314 hg
    have NB332_314 := ng BK314 hg
    replace BK314 := kb BK314 hb
    refine hK.out _ _ hd (fun hHeld => ?_)
    refine nm ?_
    exact nj (hJ6_12 (v325, gb332) _ ⟨hHeld, (rk HO319), (vt (Kd.V_mono HO322.out (fun _ hk => ⟨hk.1.1, ⟨hk.1.2.1, ⟨hk.1.2.2.1, ⟨hk.1.2.2.2.1, ⟨hk.1.2.2.2.2.1, ⟨hk.1.2.2.2.2.2, hk.2⟩⟩⟩⟩⟩⟩))), (rk HO326), (bk BK311), (bk BK312), (bk BK313), (bk BK314), (bk BK332), GW332.out, GE332.out, NB311_332.out, NB332_311.out, NB312_332.out, NB332_312.out, NB313_332.out, NB332_313.out, NB314_332.out, NB332_314.out, (bls HB)⟩)
  intro hJ6
  refine join_ (σ := Nat) 5 (bm 15 3007) (fun s_ => [(9, .pointer (some ⟨s_, 0, none⟩))]) (fun s_ w' => (w'.cell? ⟨gb311, 0, none⟩ = some (.bool a0_0) ∧ w'.cell? ⟨gb311, 1, none⟩ = some (.slice A0_1 l0_1.length c0_1) ∧ w'.cell? ⟨gb312, 0, none⟩ = some (.bool a1_0) ∧ w'.cell? ⟨gb312, 1, none⟩ = some (.slice A1_1 l1_1.length c1_1)) ∧ (Kd.R (Kd.int .u64) 25 w' w.heap.size (fun _ => True) (.slice Ao28 t317.length co28) t317) ∧ (Kd.V (Kd.int .u64) 25 w' w.heap.size (fun k_ => some k_ ≠ (.slice Ao28 t317.length co28 : Value).ownBlock ∧ k_ ≠ gb311 ∧ k_ ≠ gb312 ∧ k_ ≠ gb313 ∧ k_ ≠ gb314 ∧ k_ ≠ s_) (.slice Ao29 t320.length co29) t320) ∧ (w'.heap[gb311]? = some (.cells #[.bool a0_0, .slice A0_1 l0_1.length c0_1] 24 (0, 0))) ∧ (w'.heap[gb312]? = some (.cells #[.bool a1_0, .slice A1_1 l1_1.length c1_1] 24 (0, 0))) ∧ (w'.heap[gb313]? = some (.cells #[.bool false, .slice none 0 0] 24 (0, 0))) ∧ (w'.heap[gb314]? = some (.cells #[.bool false, .slice none 0 0] 24 (0, 0))) ∧ (w'.heap[s_]? = some (.cells #[.bool false, .slice none 0 0] 24 (0, 0))) ∧ (w.heap.size ≤ s_) ∧ (w.heap.size ≤ s_) ∧ (gb311 ≠ s_) ∧ (s_ ≠ gb311) ∧ (gb312 ≠ s_) ∧ (s_ ≠ gb312) ∧ (gb313 ≠ s_) ∧ (s_ ≠ gb313) ∧ (gb314 ≠ s_) ∧ (s_ ≠ gb314) ∧ (Below w.heap.size w w')) ?_ ?_
  ·rintro gb331 w32 ⟨hS_, h0_, h1_, h2_, h3_, h4_, h5_, h6_, h7_, h8_, h9_, h10_, h11_, h12_, h13_, h14_, h15_, h16_, h17_⟩
   replace HO319 := Az h0_
   replace HO322 := Az h1_
   replace BK311 := Az h2_
   replace BK312 := Az h3_
   replace BK313 := Az h4_
   replace BK314 := Az h5_
   have BK331 := Az h6_
   have GW331 := Az h7_
   have GE331 := Az h8_
   have NB311_331 := Az h9_
   have NB331_311 := Az h10_
   have NB312_331 := Az h11_
   have NB331_312 := Az h12_
   have NB313_331 := Az h13_
   have NB331_313 := Az h14_
   have NB314_331 := Az h15_
   have NB331_314 := Az h16_
   replace HB := Az h17_
   have hHeld : w32.cell? ⟨gb311, 0, none⟩ = some (.bool a0_0) ∧ w32.cell? ⟨gb311, 1, none⟩ = some (.slice A0_1 l0_1.length c0_1) ∧ w32.cell? ⟨gb312, 0, none⟩ = some (.bool a1_0) ∧ w32.cell? ⟨gb312, 1, none⟩ = some (.slice A1_1 l1_1.length c1_1) := hS_
   refine norm_ (a' := ?_) ?_ ?_
   rotate_left
   ·simp only [putAll, Act.put, List.setIfInBounds_toArray, List.set_cons_zero, List.set_cons_succ]
    rfl
   refine two_ (i := 6) (j := 12) (Ni := some 41) (Nj := some 10) (bm 15 3071) (bm 15 7103) rfl rfl rfl rfl (two_of HT_.out (by kernel_rfl)) (by decide) (by decide) (fun K hK => ?_) (fun K hK => ?_)
   ·skip
    refine gs Tryz.func94 #[.bool (a0_0 != a1_0), .slice Ao28 t317.length co28] ?_
    with_reducible refine (o_form.calls (a0_0 != a1_0) _ _ t317 t323 t324 _ ?side1 (Kd.R_reads' HO319.out).2.1 A9.out).mono ?_
    (case side1 => exact (Kd.R_reads' HO319.out).2.2)
    rintro e w33 ⟨v325, rfl, ho0, hb⟩
    refine ⟨_, rfl, ?_⟩
    replace HO322 := Az (Kd.V_elder' (vk HO322) (Kd.R_base ho0) hb)
    have HO326 := Az (Kd.R_lower (Kd.R_new' ho0 (Kd.R_lt (rk HO319))) (below_size (bls HB)))
    replace HO319 := Az (Kd.R_elder' (rk HO319) (Kd.R_base ho0) hb)
    replace BK311 := kb BK311 hb
    replace BK312 := kb BK312 hb
    replace BK313 := kb BK313 hb
    replace BK314 := kb BK314 hb
    replace BK331 := kb BK331 hb
    replace HB := bs HB hb
    refine hK.out _ _ hd (fun hHeld => ?_)
    refine nm ?_
    exact nj (hJ6_11 (v325, gb331) _ ⟨hHeld, (rt (Kd.R_mono HO319.out (fun _ hk => hk.2))), (vt (Kd.V_mono HO322.out (fun _ hk => ⟨hk.1.1, ⟨hk.2, ⟨hk.1.2.1, ⟨hk.1.2.2.1, ⟨hk.1.2.2.2.1, ⟨hk.1.2.2.2.2.1, hk.1.2.2.2.2.2⟩⟩⟩⟩⟩⟩))), (rt (Kd.R_mono HO326.out (fun _ hk => hk.2))), (bk BK311), (bk BK312), (bk BK313), (bk BK314), (bk BK331), GW331.out, GE331.out, NB311_331.out, NB331_311.out, NB312_331.out, NB331_312.out, NB313_331.out, NB331_313.out, NB314_331.out, NB331_314.out, (bls HB)⟩)
   ·skip
    refine box_step ?hg (N := 10) ?hd (cs := #[.bool false, .slice none 0 0]) (t := 24) ?hr ?_; (case hd => rfl); (case hg => rfl); (case hr => first | (go_simp; done) | (go_simp; rfl))
    intro gb332 hg w33 hbox hb
    replace HO319 := Az (Kd.R_below (rk HO319) hb)
    replace HO322 := Az (Kd.V_below (Kd.V_elderB (vk HO322) gb332 (Nat.le_of_eq hg.symm)) hb)
    have BK332 := Az (hbox)
    have GW332 := gw (bls HB) hg
    have GE332 := gw (bls HB) hg
    replace HB := bs HB hb
    have NB311_332 := nl BK311 hg
    have NB332_311 := ng BK311 hg
    replace BK311 := kb BK311 hb
    have NB312_332 := nl BK312 hg
    have NB332_312 := ng BK312 hg
    replace BK312 := kb BK312 hb
    have NB313_332 := nl BK313 hg
    have NB332_313 := ng BK313 hg
    replace BK313 := kb BK313 hb
    have NB314_332 := nl BK314 hg
    have NB332_314 := ng BK314 hg
    replace BK314 := kb BK314 hb
    have NB331_332 := nl BK331 hg
    have NB332_331 := ng BK331 hg
    replace BK331 := kb BK331 hb
    refine hK.out _ _ hd (fun hHeld => ?_)
    refine nm ?_
    exact nj (hJ11_12 (gb331, gb332) _ ⟨hHeld, (rk HO319), (vt (Kd.V_mono HO322.out (fun _ hk => ⟨hk.1.1, ⟨hk.1.2.1, ⟨hk.1.2.2.1, ⟨hk.1.2.2.2.1, ⟨hk.1.2.2.2.2.1, ⟨hk.1.2.2.2.2.2, hk.2⟩⟩⟩⟩⟩⟩))), (bk BK311), (bk BK312), (bk BK313), (bk BK314), (bk BK331), (bk BK332), GW331.out, GE331.out, NB311_331.out, NB331_311.out, NB312_331.out, NB331_312.out, NB313_331.out, NB331_313.out, NB314_331.out, NB331_314.out, NB332_331.out, NB331_332.out, GW332.out, GE332.out, NB311_332.out, NB332_311.out, NB312_332.out, NB332_312.out, NB313_332.out, NB332_313.out, NB314_332.out, NB332_314.out, (bls HB)⟩)
  intro hJ11
  refine join_ (σ := Nat) 5 (bm 15 5055) (fun s_ => [(10, .pointer (some ⟨s_, 0, none⟩))]) (fun s_ w' => (w'.cell? ⟨gb311, 0, none⟩ = some (.bool a0_0) ∧ w'.cell? ⟨gb311, 1, none⟩ = some (.slice A0_1 l0_1.length c0_1) ∧ w'.cell? ⟨gb312, 0, none⟩ = some (.bool a1_0) ∧ w'.cell? ⟨gb312, 1, none⟩ = some (.slice A1_1 l1_1.length c1_1)) ∧ (Kd.R (Kd.int .u64) 25 w' w.heap.size (fun _ => True) (.slice Ao28 t317.length co28) t317) ∧ (Kd.V (Kd.int .u64) 25 w' w.heap.size (fun k_ => some k_ ≠ (.slice Ao28 t317.length co28 : Value).ownBlock ∧ k_ ≠ gb311 ∧ k_ ≠ gb312 ∧ k_ ≠ gb313 ∧ k_ ≠ gb314 ∧ k_ ≠ s_) (.slice Ao29 t320.length co29) t320) ∧ (w'.heap[gb311]? = some (.cells #[.bool a0_0, .slice A0_1 l0_1.length c0_1] 24 (0, 0))) ∧ (w'.heap[gb312]? = some (.cells #[.bool a1_0, .slice A1_1 l1_1.length c1_1] 24 (0, 0))) ∧ (w'.heap[gb313]? = some (.cells #[.bool false, .slice none 0 0] 24 (0, 0))) ∧ (w'.heap[gb314]? = some (.cells #[.bool false, .slice none 0 0] 24 (0, 0))) ∧ (w'.heap[s_]? = some (.cells #[.bool false, .slice none 0 0] 24 (0, 0))) ∧ (w.heap.size ≤ s_) ∧ (w.heap.size ≤ s_) ∧ (gb311 ≠ s_) ∧ (s_ ≠ gb311) ∧ (gb312 ≠ s_) ∧ (s_ ≠ gb312) ∧ (gb313 ≠ s_) ∧ (s_ ≠ gb313) ∧ (gb314 ≠ s_) ∧ (s_ ≠ gb314) ∧ (Below w.heap.size w w')) ?_ ?_
  ·rintro gb332 w32 ⟨hS_, h0_, h1_, h2_, h3_, h4_, h5_, h6_, h7_, h8_, h9_, h10_, h11_, h12_, h13_, h14_, h15_, h16_, h17_⟩
   replace HO319 := Az h0_
   replace HO322 := Az h1_
   replace BK311 := Az h2_
   replace BK312 := Az h3_
   replace BK313 := Az h4_
   replace BK314 := Az h5_
   have BK332 := Az h6_
   have GW332 := Az h7_
   have GE332 := Az h8_
   have NB311_332 := Az h9_
   have NB332_311 := Az h10_
   have NB312_332 := Az h11_
   have NB332_312 := Az h12_
   have NB313_332 := Az h13_
   have NB332_313 := Az h14_
   have NB314_332 := Az h15_
   have NB332_314 := Az h16_
   replace HB := Az h17_
   have hHeld : w32.cell? ⟨gb311, 0, none⟩ = some (.bool a0_0) ∧ w32.cell? ⟨gb311, 1, none⟩ = some (.slice A0_1 l0_1.length c0_1) ∧ w32.cell? ⟨gb312, 0, none⟩ = some (.bool a1_0) ∧ w32.cell? ⟨gb312, 1, none⟩ = some (.slice A1_1 l1_1.length c1_1) := hS_
   refine norm_ (a' := ?_) ?_ ?_
   rotate_left
   ·simp only [putAll, Act.put, List.setIfInBounds_toArray, List.set_cons_zero, List.set_cons_succ]
    rfl
   refine two_ (i := 6) (j := 11) (Ni := some 41) (Nj := some 9) (bm 15 5119) (bm 15 7103) rfl rfl rfl rfl (two_of HT_.out (by kernel_rfl)) (by decide) (by decide) (fun K hK => ?_) (fun K hK => ?_)
   ·skip
    refine gs Tryz.func94 #[.bool (a0_0 != a1_0), .slice Ao28 t317.length co28] ?_
    with_reducible refine (o_form.calls (a0_0 != a1_0) _ _ t317 t323 t324 _ ?side1 (Kd.R_reads' HO319.out).2.1 A9.out).mono ?_
    (case side1 => exact (Kd.R_reads' HO319.out).2.2)
    rintro e w33 ⟨v325, rfl, ho0, hb⟩
    refine ⟨_, rfl, ?_⟩
    replace HO322 := Az (Kd.V_elder' (vk HO322) (Kd.R_base ho0) hb)
    have HO326 := Az (Kd.R_lower (Kd.R_new' ho0 (Kd.R_lt (rk HO319))) (below_size (bls HB)))
    replace HO319 := Az (Kd.R_elder' (rk HO319) (Kd.R_base ho0) hb)
    replace BK311 := kb BK311 hb
    replace BK312 := kb BK312 hb
    replace BK313 := kb BK313 hb
    replace BK314 := kb BK314 hb
    replace BK332 := kb BK332 hb
    replace HB := bs HB hb
    refine hK.out _ _ hd (fun hHeld => ?_)
    refine nm ?_
    exact nj (hJ6_12 (v325, gb332) _ ⟨hHeld, (rt (Kd.R_mono HO319.out (fun _ hk => hk.2))), (vt (Kd.V_mono HO322.out (fun _ hk => ⟨hk.1.1, ⟨hk.2, ⟨hk.1.2.1, ⟨hk.1.2.2.1, ⟨hk.1.2.2.2.1, ⟨hk.1.2.2.2.2.1, hk.1.2.2.2.2.2⟩⟩⟩⟩⟩⟩))), (rt (Kd.R_mono HO326.out (fun _ hk => hk.2))), (bk BK311), (bk BK312), (bk BK313), (bk BK314), (bk BK332), GW332.out, GE332.out, NB311_332.out, NB332_311.out, NB312_332.out, NB332_312.out, NB313_332.out, NB332_313.out, NB314_332.out, NB332_314.out, (bls HB)⟩)
   ·skip
    refine box_step ?hg (N := 9) ?hd (cs := #[.bool false, .slice none 0 0]) (t := 24) ?hr ?_; (case hd => rfl); (case hg => rfl); (case hr => first | (go_simp; done) | (go_simp; rfl))
    intro gb331 hg w33 hbox hb
    replace HO319 := Az (Kd.R_below (rk HO319) hb)
    replace HO322 := Az (Kd.V_below (Kd.V_elderB (vk HO322) gb331 (Nat.le_of_eq hg.symm)) hb)
    have BK331 := Az (hbox)
    have GW331 := gw (bls HB) hg
    have GE331 := gw (bls HB) hg
    replace HB := bs HB hb
    have NB311_331 := nl BK311 hg
    have NB331_311 := ng BK311 hg
    replace BK311 := kb BK311 hb
    have NB312_331 := nl BK312 hg
    have NB331_312 := ng BK312 hg
    replace BK312 := kb BK312 hb
    have NB313_331 := nl BK313 hg
    have NB331_313 := ng BK313 hg
    replace BK313 := kb BK313 hb
    have NB314_331 := nl BK314 hg
    have NB331_314 := ng BK314 hg
    replace BK314 := kb BK314 hb
    have NB332_331 := nl BK332 hg
    have NB331_332 := ng BK332 hg
    replace BK332 := kb BK332 hb
    refine hK.out _ _ hd (fun hHeld => ?_)
    refine nm ?_
    exact nj (hJ11_12 (gb331, gb332) _ ⟨hHeld, (rk HO319), (vt (Kd.V_mono HO322.out (fun _ hk => ⟨hk.1.1, ⟨hk.1.2.1, ⟨hk.1.2.2.1, ⟨hk.1.2.2.2.1, ⟨hk.1.2.2.2.2.1, ⟨hk.2, hk.1.2.2.2.2.2⟩⟩⟩⟩⟩⟩))), (bk BK311), (bk BK312), (bk BK313), (bk BK314), (bk BK331), (bk BK332), GW331.out, GE331.out, NB311_331.out, NB331_311.out, NB312_331.out, NB331_312.out, NB313_331.out, NB331_313.out, NB314_331.out, NB331_314.out, NB332_331.out, NB331_332.out, GW332.out, GE332.out, NB311_332.out, NB332_311.out, NB312_332.out, NB332_312.out, NB313_332.out, NB332_313.out, NB314_332.out, NB332_314.out, (bls HB)⟩)
  intro hJ12
  refine three_ (i := 6) (j := 11) (k := 12) (Ni := some 41) (Nj := some 9) (Nk := some 10) (bm 15 1023) (bm 15 3007) (bm 15 5055) rfl rfl rfl rfl rfl rfl (three_of HT_.out (by kernel_rfl)) (by decide) (by decide) (by decide) (fun K hK => ?_) (fun K hK => ?_) (fun K hK => ?_)
  ·skip
   refine gs Tryz.func94 #[.bool (a0_0 != a1_0), .slice Ao28 t317.length co28] ?_
   with_reducible refine (o_form.calls (a0_0 != a1_0) _ _ t317 t323 t324 _ ?side1 (Kd.R_reads' HO319.out).2.1 A9.out).mono ?_
   (case side1 => exact (Kd.R_reads' HO319.out).2.2)
   rintro e w31 ⟨v325, rfl, ho0, hb⟩
   refine ⟨_, rfl, ?_⟩
   replace HO322 := Az (Kd.V_elder' (vk HO322) (Kd.R_base ho0) hb)
   have HO326 := Az (Kd.R_lower (Kd.R_new' ho0 (Kd.R_lt (rk HO319))) (below_size (bls HB)))
   replace HO319 := Az (Kd.R_elder' (rk HO319) (Kd.R_base ho0) hb)
   replace BK311 := kb BK311 hb
   replace BK312 := kb BK312 hb
   replace BK313 := kb BK313 hb
   replace BK314 := kb BK314 hb
   replace HB := bs HB hb
   refine hK.out _ _ hd (fun hHeld => ?_)
   refine nm ?_
   exact nj (hJ6 (v325) _ ⟨hHeld, (rt (Kd.R_mono HO319.out (fun _ hk => hk.2))), (vt (Kd.V_mono HO322.out (fun _ hk => ⟨hk.1.1, ⟨hk.2, ⟨hk.1.2.1, ⟨hk.1.2.2.1, ⟨hk.1.2.2.2.1, hk.1.2.2.2.2⟩⟩⟩⟩⟩))), (rt (Kd.R_mono HO326.out (fun _ hk => hk.2))), (bk BK311), (bk BK312), (bk BK313), (bk BK314), (bls HB)⟩)
  ·skip
   refine box_step ?hg (N := 9) ?hd (cs := #[.bool false, .slice none 0 0]) (t := 24) ?hr ?_; (case hd => rfl); (case hg => rfl); (case hr => first | (go_simp; done) | (go_simp; rfl))
   intro gb331 hg w31 hbox hb
   replace HO319 := Az (Kd.R_below (rk HO319) hb)
   replace HO322 := Az (Kd.V_below (Kd.V_elderB (vk HO322) gb331 (Nat.le_of_eq hg.symm)) hb)
   have BK331 := Az (hbox)
   have GW331 := gw (bls HB) hg
   have GE331 := gw (bls HB) hg
   replace HB := bs HB hb
   have NB311_331 := nl BK311 hg
   have NB331_311 := ng BK311 hg
   replace BK311 := kb BK311 hb
   have NB312_331 := nl BK312 hg
   have NB331_312 := ng BK312 hg
   replace BK312 := kb BK312 hb
   have NB313_331 := nl BK313 hg
   have NB331_313 := ng BK313 hg
   replace BK313 := kb BK313 hb
   have NB314_331 := nl BK314 hg
   have NB331_314 := ng BK314 hg
   replace BK314 := kb BK314 hb
   refine hK.out _ _ hd (fun hHeld => ?_)
   refine nm ?_
   exact nj (hJ11 (gb331) _ ⟨hHeld, (rk HO319), (vt (Kd.V_mono HO322.out (fun _ hk => ⟨hk.1.1, ⟨hk.1.2.1, ⟨hk.1.2.2.1, ⟨hk.1.2.2.2.1, ⟨hk.1.2.2.2.2, hk.2⟩⟩⟩⟩⟩))), (bk BK311), (bk BK312), (bk BK313), (bk BK314), (bk BK331), GW331.out, GE331.out, NB311_331.out, NB331_311.out, NB312_331.out, NB331_312.out, NB313_331.out, NB331_313.out, NB314_331.out, NB331_314.out, (bls HB)⟩)
  ·skip
   refine box_step ?hg (N := 10) ?hd (cs := #[.bool false, .slice none 0 0]) (t := 24) ?hr ?_; (case hd => rfl); (case hg => rfl); (case hr => first | (go_simp; done) | (go_simp; rfl))
   intro gb332 hg w31 hbox hb
   replace HO319 := Az (Kd.R_below (rk HO319) hb)
   replace HO322 := Az (Kd.V_below (Kd.V_elderB (vk HO322) gb332 (Nat.le_of_eq hg.symm)) hb)
   have BK332 := Az (hbox)
   have GW332 := gw (bls HB) hg
   have GE332 := gw (bls HB) hg
   replace HB := bs HB hb
   have NB311_332 := nl BK311 hg
   have NB332_311 := ng BK311 hg
   replace BK311 := kb BK311 hb
   have NB312_332 := nl BK312 hg
   have NB332_312 := ng BK312 hg
   replace BK312 := kb BK312 hb
   have NB313_332 := nl BK313 hg
   have NB332_313 := ng BK313 hg
   replace BK313 := kb BK313 hb
   have NB314_332 := nl BK314 hg
   have NB332_314 := ng BK314 hg
   replace BK314 := kb BK314 hb
   refine hK.out _ _ hd (fun hHeld => ?_)
   refine nm ?_
   exact nj (hJ12 (gb332) _ ⟨hHeld, (rk HO319), (vt (Kd.V_mono HO322.out (fun _ hk => ⟨hk.1.1, ⟨hk.1.2.1, ⟨hk.1.2.2.1, ⟨hk.1.2.2.2.1, ⟨hk.1.2.2.2.2, hk.2⟩⟩⟩⟩⟩))), (bk BK311), (bk BK312), (bk BK313), (bk BK314), (bk BK332), GW332.out, GE332.out, NB311_332.out, NB332_311.out, NB312_332.out, NB332_312.out, NB313_332.out, NB332_313.out, NB314_332.out, NB332_314.out, (bls HB)⟩)
 rintro ⟨v325, v329, gb331, gb332⟩ w35 ⟨hS_, h0_, h1_, h2_, h3_, h4_, h5_, h6_, h7_, h8_, h9_, h10_, h11_, h12_, h13_, h14_, h15_, h16_, h17_, h18_, h19_, h20_, h21_, h22_, h23_, h24_, h25_, h26_, h27_, h28_, h29_, h30_, h31_, h32_⟩
 dsimp only at h0_ h1_ h2_ h3_ h4_ h5_ h6_ h7_ h8_ h9_ h10_ h11_ h12_ h13_ h14_ h15_ h16_ h17_ h18_ h19_ h20_ h21_ h22_ h23_ h24_ h25_ h26_ h27_ h28_ h29_ h30_ h31_ h32_
 replace HO319 := Az h0_
 replace HO322 := Az h1_
 have HO326 := Az h2_
 have HO330 := Az h3_
 replace BK311 := Az h4_
 replace BK312 := Az h5_
 replace BK313 := Az h6_
 replace BK314 := Az h7_
 have BK331 := Az h8_
 have BK332 := Az h9_
 have GW331 := Az h10_
 have GE331 := Az h11_
 have NB311_331 := Az h12_
 have NB331_311 := Az h13_
 have NB312_331 := Az h14_
 have NB331_312 := Az h15_
 have NB313_331 := Az h16_
 have NB331_313 := Az h17_
 have NB314_331 := Az h18_
 have NB331_314 := Az h19_
 have NB332_331 := Az h20_
 have NB331_332 := Az h21_
 have GW332 := Az h22_
 have GE332 := Az h23_
 have NB311_332 := Az h24_
 have NB332_311 := Az h25_
 have NB312_332 := Az h26_
 have NB332_312 := Az h27_
 have NB313_332 := Az h28_
 have NB332_313 := Az h29_
 have NB314_332 := Az h30_
 have NB332_314 := Az h31_
 replace HB := Az h32_
 have hHeld : w35.cell? ⟨gb311, 0, none⟩ = some (.bool a0_0) ∧ w35.cell? ⟨gb311, 1, none⟩ = some (.slice A0_1 l0_1.length c0_1) ∧ w35.cell? ⟨gb312, 0, none⟩ = some (.bool a1_0) ∧ w35.cell? ⟨gb312, 1, none⟩ = some (.slice A1_1 l1_1.length c1_1) := hS_
 obtain ⟨Ao37, co37, eo37⟩ := Kd.R_slice HO326.out
 (first | subst eo37 | (injection eo37 with f1_ f2_ f3_; have f4_ := f1_.symm; have f5_ := f3_.symm; clear f1_ f2_ f3_; subst f4_; subst f5_))
 obtain ⟨Ao40, co40, eo40⟩ := Kd.R_slice HO330.out
 (first | subst eo40 | (injection eo40 with f1_ f2_ f3_; have f4_ := f1_.symm; have f5_ := f3_.symm; clear f1_ f2_ f3_; subst f4_; subst f5_))
 refine norm_ (a' := ?_) ?_ ?_
 rotate_left
 ·simp only [putAll, Act.put, List.setIfInBounds_toArray, List.set_cons_zero, List.set_cons_succ]
  rfl
 refine on 13 (none) (bm 15 16383) HT_.out (fun K hK => ?_)
 have hs36 : w35.cell? ⟨gb331, 0, none⟩ = some (.bool false) := (blk_cell BK331.out 0).trans rfl
 have hfs36 := blk_frozen BK331.out 0
 have hns36_0 := NB311_331.out
 have hns36_1 := NB312_331.out
 have hns36_2 := NB313_331.out
 have hns36_3 := NB314_331.out
 have hns36_5 := NB332_331.out
 have hms36_0 := NB331_311.out
 have hms36_1 := NB331_312.out
 have hms36_2 := NB331_313.out
 have hms36_3 := NB331_314.out
 have hms36_5 := NB331_332.out
 have hs38 : w35.cell? ⟨gb331, 1, none⟩ = some (.slice none 0 0) := (blk_cell BK331.out 1).trans rfl
 have hfs38 := blk_frozen BK331.out 1
 have hns38_0 := NB311_331.out
 have hns38_1 := NB312_331.out
 have hns38_2 := NB313_331.out
 have hns38_3 := NB314_331.out
 have hns38_5 := NB332_331.out
 have hms38_0 := NB331_311.out
 have hms38_1 := NB331_312.out
 have hms38_2 := NB331_313.out
 have hms38_3 := NB331_314.out
 have hms38_5 := NB331_332.out
 refine skip_ (w1 := ?_) (by rfl) rfl ?_ ?_
 rotate_left
 ·go_simp
  rfl
 refine hK.out _ _ ⟨((cell_far (p := ⟨gb331, _, none⟩) NB311_331.out _).trans (((cell_far (p := ⟨gb331, _, none⟩) NB311_331.out _).trans (hHeld.1)))), ((cell_far (p := ⟨gb331, _, none⟩) NB311_331.out _).trans (((cell_far (p := ⟨gb331, _, none⟩) NB311_331.out _).trans (hHeld.2.1)))), ((cell_far (p := ⟨gb331, _, none⟩) NB312_331.out _).trans (((cell_far (p := ⟨gb331, _, none⟩) NB312_331.out _).trans (hHeld.2.2.1)))), ((cell_far (p := ⟨gb331, _, none⟩) NB312_331.out _).trans (((cell_far (p := ⟨gb331, _, none⟩) NB312_331.out _).trans (hHeld.2.2.2))))⟩ (fun hHeld => ?_)
 refine on 14 (none) (bm 15 32767) HT_.out (fun K hK => ?_)
 have hs39 : w35.cell? ⟨gb332, 0, none⟩ = some (.bool false) := (blk_cell BK332.out 0).trans rfl
 have hfs39 := blk_frozen BK332.out 0
 have hns39_0 := NB311_332.out
 have hns39_1 := NB312_332.out
 have hns39_2 := NB313_332.out
 have hns39_3 := NB314_332.out
 have hns39_4 := NB331_332.out
 have hms39_0 := NB332_311.out
 have hms39_1 := NB332_312.out
 have hms39_2 := NB332_313.out
 have hms39_3 := NB332_314.out
 have hms39_4 := NB332_331.out
 have hs41 : w35.cell? ⟨gb332, 1, none⟩ = some (.slice none 0 0) := (blk_cell BK332.out 1).trans rfl
 have hfs41 := blk_frozen BK332.out 1
 have hns41_0 := NB311_332.out
 have hns41_1 := NB312_332.out
 have hns41_2 := NB313_332.out
 have hns41_3 := NB314_332.out
 have hns41_4 := NB331_332.out
 have hms41_0 := NB332_311.out
 have hms41_1 := NB332_312.out
 have hms41_2 := NB332_313.out
 have hms41_3 := NB332_314.out
 have hms41_4 := NB332_331.out
 refine skip_ (w1 := ?_) (by rfl) rfl ?_ ?_
 rotate_left
 ·go_simp
  rfl
 refine hK.out _ _ ⟨((cell_far (p := ⟨gb332, _, none⟩) NB311_332.out _).trans (((cell_far (p := ⟨gb332, _, none⟩) NB311_332.out _).trans (hHeld.1)))), ((cell_far (p := ⟨gb332, _, none⟩) NB311_332.out _).trans (((cell_far (p := ⟨gb332, _, none⟩) NB311_332.out _).trans (hHeld.2.1)))), ((cell_far (p := ⟨gb332, _, none⟩) NB312_332.out _).trans (((cell_far (p := ⟨gb332, _, none⟩) NB312_332.out _).trans (hHeld.2.2.1)))), ((cell_far (p := ⟨gb332, _, none⟩) NB312_332.out _).trans (((cell_far (p := ⟨gb332, _, none⟩) NB312_332.out _).trans (hHeld.2.2.2))))⟩ (fun hHeld => ?_)
 refine done_ (done_of HT_.out (by kernel_rfl)) ?_
 have hnb42 := NB332_311.out
 have hnc42 := NB311_332.out
 have hnb43 := NB332_312.out
 have hnc43 := NB312_332.out
 have hnb44 := NB332_313.out
 have hnc44 := NB313_332.out
 have hnb45 := NB332_314.out
 have hnc45 := NB314_332.out
 have hnb46 := NB332_331.out
 have hnc46 := NB331_332.out
 have hz47_1 := bz BK332
 try go_wp2
 have n_ : (fun W_ : World => Aside0 (Kd.R (Kd.int .u64) 25 W_ w.heap.size (fun k_ => some k_ ≠ (.slice Ao37 t324.length co37 : Value).ownBlock ∧ some k_ ≠ (.slice Ao40 t328.length co40 : Value).ownBlock) (.slice Ao28 t317.length co28) t317) ∧ Aside0 (Kd.V (Kd.int .u64) 25 W_ w.heap.size (fun k_ => some k_ ≠ (.slice Ao28 t317.length co28 : Value).ownBlock ∧ some k_ ≠ (.slice Ao37 t324.length co37 : Value).ownBlock ∧ some k_ ≠ (.slice Ao40 t328.length co40 : Value).ownBlock ∧ k_ ≠ gb311 ∧ k_ ≠ gb312 ∧ k_ ≠ gb313 ∧ k_ ≠ gb314 ∧ k_ ≠ gb331 ∧ k_ ≠ gb332) (.slice Ao29 t320.length co29) t320) ∧ Aside0 (Kd.R (Kd.int .u64) 25 W_ w.heap.size (fun k_ => some k_ ≠ (.slice Ao28 t317.length co28 : Value).ownBlock ∧ some k_ ≠ (.slice Ao40 t328.length co40 : Value).ownBlock) (.slice Ao37 t324.length co37) t324) ∧ Aside0 (Kd.R (Kd.int .u64) 25 W_ w.heap.size (fun k_ => some k_ ≠ (.slice Ao28 t317.length co28 : Value).ownBlock ∧ some k_ ≠ (.slice Ao37 t324.length co37 : Value).ownBlock) (.slice Ao40 t328.length co40) t328) ∧ Aside0 (W_.heap[gb311]? = some (.cells #[.bool a0_0, .slice A0_1 l0_1.length c0_1] 24 (0, 0))) ∧ Aside0 (W_.heap[gb312]? = some (.cells #[.bool a1_0, .slice A1_1 l1_1.length c1_1] 24 (0, 0))) ∧ Aside0 (W_.heap[gb313]? = some (.cells #[.bool false, .slice none 0 0] 24 (0, 0))) ∧ Aside0 (W_.heap[gb314]? = some (.cells #[.bool false, .slice none 0 0] 24 (0, 0))) ∧ Aside0 (W_.heap[gb331]? = some (.cells #[.bool t323, .slice Ao37 t324.length co37] 24 (0, 0))) ∧ Aside0 (W_.heap[gb332]? = some (.cells #[.bool t327, .slice Ao40 t328.length co40] 24 (0, 0))) ∧ Aside0 (Below w.heap.size w W_)) ((((w35.setCell ⟨gb331, 0, none⟩ (.bool t323)).setCell ⟨gb331, 1, none⟩ (.slice Ao37 t324.length co37)).setCell ⟨gb332, 0, none⟩ (.bool t327)).setCell ⟨gb332, 1, none⟩ (.slice Ao40 t328.length co40)) := ⟨⟨rt (Kd.R_mono (Kd.R_far (p := ⟨gb332, 1, none⟩) (Kd.R_far (p := ⟨gb332, 0, none⟩) (Kd.R_far (p := ⟨gb331, 1, none⟩) (Kd.R_far (p := ⟨gb331, 0, none⟩) (Kd.R_types (Kd.R_types HO319.out BK331.out (by decide)) BK332.out (by decide)) (fun _ hk => hk.1.2) (.bool t323)) (fun _ hk => hk.1.2) (.slice Ao37 t324.length co37)) (fun _ hk => hk.2) (.bool t327)) (fun _ hk => hk.2) (.slice Ao40 t328.length co40)) (fun _ hk => ⟨hk.1.1.1, hk.1.1.2⟩))⟩, ⟨vt (Kd.V_mono (Kd.V_far (p := ⟨gb332, 1, none⟩) (Kd.V_far (p := ⟨gb332, 0, none⟩) (Kd.V_far (p := ⟨gb331, 1, none⟩) (Kd.V_far (p := ⟨gb331, 0, none⟩) (Kd.V_mono (Kd.V_mono HO322.out (fun k_ hk => (⟨hk, hk.2.2.2.2.2.2.2.1⟩ : _ ∧ k_ ≠ gb331))) (fun k_ hk => (⟨hk, hk.1.2.2.2.2.2.2.2.2⟩ : _ ∧ k_ ≠ gb332))) (fun _ hk => hk.1.2) (.bool t323)) (fun _ hk => hk.1.2) (.slice Ao37 t324.length co37)) (fun _ hk => hk.2) (.bool t327)) (fun _ hk => hk.2) (.slice Ao40 t328.length co40)) (fun _ hk => ⟨hk.1.1.1, ⟨hk.1.1.2.1, ⟨hk.1.1.2.2.1, ⟨hk.1.1.2.2.2.1, ⟨hk.1.1.2.2.2.2.1, ⟨hk.1.1.2.2.2.2.2.1, ⟨hk.1.1.2.2.2.2.2.2.1, ⟨hk.1.1.2.2.2.2.2.2.2.1, hk.1.1.2.2.2.2.2.2.2.2⟩⟩⟩⟩⟩⟩⟩⟩))⟩, ⟨rt (Kd.R_mono (Kd.R_far (p := ⟨gb332, 1, none⟩) (Kd.R_far (p := ⟨gb332, 0, none⟩) (Kd.R_far (p := ⟨gb331, 1, none⟩) (Kd.R_far (p := ⟨gb331, 0, none⟩) (Kd.R_types (Kd.R_types HO326.out BK331.out (by decide)) BK332.out (by decide)) (fun _ hk => hk.1.2) (.bool t323)) (fun _ hk => hk.1.2) (.slice Ao37 t324.length co37)) (fun _ hk => hk.2) (.bool t327)) (fun _ hk => hk.2) (.slice Ao40 t328.length co40)) (fun _ hk => ⟨hk.1.1.1, hk.1.1.2⟩))⟩, ⟨rt (Kd.R_mono (Kd.R_far (p := ⟨gb332, 1, none⟩) (Kd.R_far (p := ⟨gb332, 0, none⟩) (Kd.R_far (p := ⟨gb331, 1, none⟩) (Kd.R_far (p := ⟨gb331, 0, none⟩) (Kd.R_types (Kd.R_types HO330.out BK331.out (by decide)) BK332.out (by decide)) (fun _ hk => hk.1.2) (.bool t323)) (fun _ hk => hk.1.2) (.slice Ao37 t324.length co37)) (fun _ hk => hk.2) (.bool t327)) (fun _ hk => hk.2) (.slice Ao40 t328.length co40)) (fun _ hk => ⟨hk.1.1.1, hk.1.1.2⟩))⟩, ⟨by refine blk_far ?_ NB311_332.out _; refine blk_far ?_ NB311_332.out _; refine blk_far ?_ NB311_331.out _; refine blk_far ?_ NB311_331.out _; exact BK311.out⟩, ⟨by refine blk_far ?_ NB312_332.out _; refine blk_far ?_ NB312_332.out _; refine blk_far ?_ NB312_331.out _; refine blk_far ?_ NB312_331.out _; exact BK312.out⟩, ⟨by refine blk_far ?_ NB313_332.out _; refine blk_far ?_ NB313_332.out _; refine blk_far ?_ NB313_331.out _; refine blk_far ?_ NB313_331.out _; exact BK313.out⟩, ⟨by refine blk_far ?_ NB314_332.out _; refine blk_far ?_ NB314_332.out _; refine blk_far ?_ NB314_331.out _; refine blk_far ?_ NB314_331.out _; exact BK314.out⟩, ⟨by refine blk_far ?_ NB331_332.out _; refine blk_far ?_ NB331_332.out _; refine blk_put (cs := #[.bool t323, .slice none 0 0]) ?_ 1 _ rfl; refine blk_put (cs := #[.bool false, .slice none 0 0]) ?_ 0 _ rfl; exact BK331.out⟩, ⟨by refine blk_put (cs := #[.bool t327, .slice none 0 0]) ?_ 1 _ rfl; refine blk_put (cs := #[.bool false, .slice none 0 0]) ?_ 0 _ rfl; refine blk_far ?_ NB332_331.out _; refine blk_far ?_ NB332_331.out _; exact BK332.out⟩, ⟨bls HB⟩⟩
 obtain ⟨n0_, n1_, n2_, n3_, n4_, n5_, n6_, n7_, n8_, n9_, n10_⟩ := n_
 generalize ((((w35.setCell ⟨gb331, 0, none⟩ (.bool t323)).setCell ⟨gb331, 1, none⟩ (.slice Ao37 t324.length co37)).setCell ⟨gb332, 0, none⟩ (.bool t327)).setCell ⟨gb332, 1, none⟩ (.slice Ao40 t328.length co40)) = w48 at n0_ n1_ n2_ n3_ n4_ n5_ n6_ n7_ n8_ n9_ n10_ ⊢
 have HO319 := n0_
 have HO322 := n1_
 have HO326 := n2_
 have HO330 := n3_
 have BK311 := n4_
 have BK312 := n5_
 have BK313 := n6_
 have BK314 := n7_
 have BK331 := n8_
 have BK332 := n9_
 have HB := n10_
 replace HO319 := Az (Kd.R_drew HO319.out)
 replace HO322 := Az (Kd.V_drew HO322.out)
 replace HO326 := Az (Kd.R_drew HO326.out)
 replace HO330 := Az (Kd.R_drew HO330.out)
 replace BK311 := Az (blk_drew BK311.out)
 replace BK312 := Az (blk_drew BK312.out)
 replace BK313 := Az (blk_drew BK313.out)
 replace BK314 := Az (blk_drew BK314.out)
 replace BK331 := Az (blk_drew BK331.out)
 replace BK332 := Az (blk_drew BK332.out)
 replace HB := Az (below_drew1 HB.out)
 refine start_ (n := 5) (S := fun w' => w'.cell? ⟨gb331, 0, none⟩ = some (.bool t323) ∧ w'.cell? ⟨gb331, 1, none⟩ = some (.slice Ao37 t324.length co37) ∧ w'.cell? ⟨gb332, 0, none⟩ = some (.bool t327) ∧ w'.cell? ⟨gb332, 1, none⟩ = some (.slice Ao40 t328.length co40)) (ds := []) (bm 5 0) (by kernel_rfl) rfl rfl ⟨(blk_cell BK331.out 0).trans rfl, (blk_cell BK331.out 1).trans rfl, (blk_cell BK332.out 0).trans rfl, (blk_cell BK332.out 1).trans rfl⟩ (fun hHeld => ?_)
 generalize w48.drew = w49 at HO319 HO322 HO326 HO330 BK311 BK312 BK313 BK314 BK331 BK332 HB hHeld ⊢
 refine take_ (i := 0) (N := some 70) (v := ?_) (a' := ?_) (bm 5 1) rfl rfl (by kernel_rfl) (fun _ _ _ h => h) (Or.inl ⟨by rfl, ?_⟩) hHeld ?_ ?_
 rotate_left
 ·rintro w' ⟨s0, s1, s2, s3⟩
  go_simp
  with_reducible rfl
 rotate_left
 ·simp only [Act.put, List.setIfInBounds_toArray, List.set_cons_zero, List.set_cons_succ, i64_w, i32_w]
  rfl
 refine take_ (i := 1) (N := some 71) (v := ?_) (a' := ?_) (bm 5 3) rfl rfl (by kernel_rfl) (fun _ _ _ h => h) (Or.inl ⟨by rfl, ?_⟩) hHeld ?_ ?_
 rotate_left
 ·rintro w' ⟨s0, s1, s2, s3⟩
  go_simp
  with_reducible rfl
 rotate_left
 ·simp only [Act.put, List.setIfInBounds_toArray, List.set_cons_zero, List.set_cons_succ, i64_w, i32_w]
  rfl
 refine one_ (i := 2) (N := none) (bm 5 7) rfl rfl (by kernel_rfl) (by decide) (fun K hK => ?_)
 have hs50 : w49.cell? ⟨gb313, 0, none⟩ = some (.bool false) := (blk_cell BK313.out 0).trans rfl
 have hfs50 := blk_frozen BK313.out 0
 have hns50_0 := NB311_313.out
 have hns50_1 := NB312_313.out
 have hns50_3 := NB314_313.out
 have hns50_4 := NB331_313.out
 have hns50_5 := NB332_313.out
 have hms50_0 := NB313_311.out
 have hms50_1 := NB313_312.out
 have hms50_3 := NB313_314.out
 have hms50_4 := NB313_331.out
 have hms50_5 := NB313_332.out
 have hs51 : w49.cell? ⟨gb313, 1, none⟩ = some (.slice none 0 0) := (blk_cell BK313.out 1).trans rfl
 have hfs51 := blk_frozen BK313.out 1
 have hns51_0 := NB311_313.out
 have hns51_1 := NB312_313.out
 have hns51_3 := NB314_313.out
 have hns51_4 := NB331_313.out
 have hns51_5 := NB332_313.out
 have hms51_0 := NB313_311.out
 have hms51_1 := NB313_312.out
 have hms51_3 := NB313_314.out
 have hms51_4 := NB313_331.out
 have hms51_5 := NB313_332.out
 refine skip_ (w1 := ?_) (by rfl) rfl ?_ ?_
 rotate_left
 ·go_simp
  rfl
 refine hK.out _ _ ⟨((cell_far (p := ⟨gb313, _, none⟩) NB331_313.out _).trans (((cell_far (p := ⟨gb313, _, none⟩) NB331_313.out _).trans (hHeld.1)))), ((cell_far (p := ⟨gb313, _, none⟩) NB331_313.out _).trans (((cell_far (p := ⟨gb313, _, none⟩) NB331_313.out _).trans (hHeld.2.1)))), ((cell_far (p := ⟨gb313, _, none⟩) NB332_313.out _).trans (((cell_far (p := ⟨gb313, _, none⟩) NB332_313.out _).trans (hHeld.2.2.1)))), ((cell_far (p := ⟨gb313, _, none⟩) NB332_313.out _).trans (((cell_far (p := ⟨gb313, _, none⟩) NB332_313.out _).trans (hHeld.2.2.2))))⟩ (fun hHeld => ?_)
 refine one_ (i := 3) (N := none) (bm 5 15) rfl rfl (by kernel_rfl) (by decide) (fun K hK => ?_)
 have hs52 : w49.cell? ⟨gb314, 0, none⟩ = some (.bool false) := (blk_cell BK314.out 0).trans rfl
 have hfs52 := blk_frozen BK314.out 0
 have hns52_0 := NB311_314.out
 have hns52_1 := NB312_314.out
 have hns52_2 := NB313_314.out
 have hns52_4 := NB331_314.out
 have hns52_5 := NB332_314.out
 have hms52_0 := NB314_311.out
 have hms52_1 := NB314_312.out
 have hms52_2 := NB314_313.out
 have hms52_4 := NB314_331.out
 have hms52_5 := NB314_332.out
 have hs53 : w49.cell? ⟨gb314, 1, none⟩ = some (.slice none 0 0) := (blk_cell BK314.out 1).trans rfl
 have hfs53 := blk_frozen BK314.out 1
 have hns53_0 := NB311_314.out
 have hns53_1 := NB312_314.out
 have hns53_2 := NB313_314.out
 have hns53_4 := NB331_314.out
 have hns53_5 := NB332_314.out
 have hms53_0 := NB314_311.out
 have hms53_1 := NB314_312.out
 have hms53_2 := NB314_313.out
 have hms53_4 := NB314_331.out
 have hms53_5 := NB314_332.out
 refine skip_ (w1 := ?_) (by rfl) rfl ?_ ?_
 rotate_left
 ·go_simp
  rfl
 refine hK.out _ _ ⟨((cell_far (p := ⟨gb314, _, none⟩) NB331_314.out _).trans (((cell_far (p := ⟨gb314, _, none⟩) NB331_314.out _).trans (hHeld.1)))), ((cell_far (p := ⟨gb314, _, none⟩) NB331_314.out _).trans (((cell_far (p := ⟨gb314, _, none⟩) NB331_314.out _).trans (hHeld.2.1)))), ((cell_far (p := ⟨gb314, _, none⟩) NB332_314.out _).trans (((cell_far (p := ⟨gb314, _, none⟩) NB332_314.out _).trans (hHeld.2.2.1)))), ((cell_far (p := ⟨gb314, _, none⟩) NB332_314.out _).trans (((cell_far (p := ⟨gb314, _, none⟩) NB332_314.out _).trans (hHeld.2.2.2))))⟩ (fun hHeld => ?_)
 refine pure_ (i := 4) (N := some 6) (v := ?_) (a' := ?_) (bm 5 31) rfl rfl (by kernel_rfl) (fun _ _ _ h => h) (Or.inl ⟨by rfl, ?_⟩) ?_ ?_
 rotate_left
 ·intro w'
  go_simp
  with_reducible rfl
 rotate_left
 ·simp only [Act.put, List.setIfInBounds_toArray, List.set_cons_zero, List.set_cons_succ, i64_w, i32_w]
  rfl
 refine done_ (by kernel_rfl) ?_
 try go_wp2
 refine bodyPost_ret (results_list (rs := [.cell 4 24, .cell 5 24, .tmp 6]) rfl (by simp) (.cell gb313 24 #[.bool t323, .slice Ao37 t324.length co37] (0, 0) _ rfl (by refine blk_far ?_ NB313_314.out _; refine blk_far ?_ NB313_314.out _; refine blk_put (cs := #[.bool t323, .slice none 0 0]) ?_ 1 _ rfl; refine blk_put (cs := #[.bool false, .slice none 0 0]) ?_ 0 _ rfl; exact BK313.out) Tryz.underlying24 rfl (by kernel_rfl) (.cell gb314 24 #[.bool t327, .slice Ao40 t328.length co40] (0, 0) _ rfl (by refine blk_put (cs := #[.bool t327, .slice none 0 0]) ?_ 1 _ rfl; refine blk_put (cs := #[.bool false, .slice none 0 0]) ?_ 0 _ rfl; refine blk_far ?_ NB314_313.out _; refine blk_far ?_ NB314_313.out _; exact BK314.out) Tryz.underlying24 rfl (by kernel_rfl) (.tmp .nil)))) rfl ?_
 exact ⟨_, _, fe, rt (Kd.R_mono (Kd.R_far (p := ⟨gb314, 1, none⟩) (Kd.R_far (p := ⟨gb314, 0, none⟩) (Kd.R_far (p := ⟨gb313, 1, none⟩) (Kd.R_far (p := ⟨gb313, 0, none⟩) (Kd.R_types (Kd.R_types HO326.out BK313.out (by decide)) BK314.out (by decide)) (fun _ hk => hk.1.2) (.bool t323)) (fun _ hk => hk.1.2) (.slice Ao37 t324.length co37)) (fun _ hk => hk.2) (.bool t327)) (fun _ hk => hk.2) (.slice Ao40 t328.length co40)) (fun _ hk => hk.1.1.2)), rt (Kd.R_mono (Kd.R_far (p := ⟨gb314, 1, none⟩) (Kd.R_far (p := ⟨gb314, 0, none⟩) (Kd.R_far (p := ⟨gb313, 1, none⟩) (Kd.R_far (p := ⟨gb313, 0, none⟩) (Kd.R_types (Kd.R_types HO330.out BK313.out (by decide)) BK314.out (by decide)) (fun _ hk => hk.1.2) (.bool t323)) (fun _ hk => hk.1.2) (.slice Ao37 t324.length co37)) (fun _ hk => hk.2) (.bool t327)) (fun _ hk => hk.2) (.slice Ao40 t328.length co40)) (fun _ hk => hk.1.1.2)), bls HB⟩
def m_Abs.f (a0 : Nat) : Option (Nat) := some (Int.toNat (Go.bits .andNot .u64 ((a0 : Nat) : Int) 9223372036854775808))
theorem m_Abs.calls (a0 r : Nat) (w : World) (h : m_Abs.f a0 = some r) :
  Calls Tryz.prog 60 #[.float .f64 a0] w fun e w' => e = .returned (.float .f64 r) ∧ Drawn0 w w' := by
 have H := h
 unfold m_Abs.f at H
 clear h
 obtain rfl := Option.some.inj H
 go_enter Tryz.func60, Tryz.ntmps60
 go_wp2
 go_ret
 exact ⟨by first | rfl | (simp; done) | (simp [*]; done), by repeat (first | exact Drawn0.refl _ | apply Drawn0.step)⟩
def m_IsInf.f (a0 : Nat) (a1 : Int) : Option (Bool) := if a1 = 0 then ((m_Abs.f a0).bind fun t138 => (some (FloatKind.f64.format.order t138 9218868437227405311 == some Ordering.gt))) else (none)
theorem m_IsInf.calls (a0 : Nat) (a1 : Int) (r : Bool) (w : World) (h : m_IsInf.f a0 a1 = some r) :
  Calls Tryz.prog 58 #[.float .f64 a0, .int .i64 a1] w fun e w' => e = .returned (.bool r) ∧ Drawn0 w w' := by
 have H := h
 unfold m_IsInf.f at H
 clear h
 by_cases c3 : a1 = 0
 ·rw [if_pos c3] at H
  have c3b0 := beq_iff_eq.mpr c3
  have c3b1 := bne_eq_false_iff_eq.mpr c3
  clear c3
  obtain ⟨t138, A4, H⟩ := bd H
  obtain rfl := Option.some.inj H
  go_enter Tryz.func58, Tryz.ntmps58
  go_wp2_with (first | (refine gl (some 8) Tryz.func60 #[.float .f64 a0] ?_; (with_reducible refine (m_Abs.calls a0 t138 _ A4.out).mono ?_); rintro e w' ⟨rfl, ⟨nd, rfl⟩⟩; refine ⟨_, rfl, ?_⟩))
  go_ret
  exact ⟨by first | rfl | (simp; done) | (simp [*]; done), by repeat (first | exact Drawn0.refl _ | apply Drawn0.step)⟩
 ·rw [if_neg c3] at H
  exact absurd H (by simp)
def m_IsNaN.f (a0 : Nat) : Option (Bool) := some (FloatKind.f64.format.order a0 a0 != some Ordering.eq)
theorem m_IsNaN.calls (a0 : Nat) (r : Bool) (w : World) (h : m_IsNaN.f a0 = some r) :
  Calls Tryz.prog 122 #[.float .f64 a0] w fun e w' => e = .returned (.bool r) ∧ Drawn0 w w' := by
 have H := h
 unfold m_IsNaN.f at H
 clear h
 obtain rfl := Option.some.inj H
 go_enter Tryz.func122, Tryz.ntmps122
 go_wp2
 go_ret
 exact ⟨by first | rfl | (simp; done) | (simp [*]; done), by repeat (first | exact Drawn0.refl _ | apply Drawn0.step)⟩
def m_normalize.f (a0 : Nat) : Option (Nat × Int) := (m_Abs.f a0).bind fun t139 => (if (FloatKind.f64.format.order t139 4503599627370496 == some Ordering.lt) = true then (if okMul a0 4841369599423283200 = true then (some (fMul a0 4841369599423283200, (-52))) else (none)) else (some (a0, 0)))
theorem m_normalize.calls (a0 r1 : Nat) (r2 : Int) (w : World) (h : m_normalize.f a0 = some (r1, r2)) :
  Calls Tryz.prog 123 #[.float .f64 a0] w fun e w' => e = .returned (.tuple #[.float .f64 r1, .int .i64 r2]) ∧ Drawn0 w w' := by
 have H := h
 unfold m_normalize.f at H
 clear h
 obtain ⟨t139, A2, H⟩ := bd H
 by_cases c3 : (FloatKind.f64.format.order t139 4503599627370496 == some Ordering.lt) = true
 case neg =>
  rw [if_neg c3] at H
  have c3b0 : (FloatKind.f64.format.order t139 4503599627370496 == some Ordering.lt) = false := by simpa using c3
  (try (have c3b1 : decide (FloatKind.f64.format.order t139 4503599627370496 = some Ordering.lt) = false := by simpa using c3))
  (try (have c3b2 : (FloatKind.f64.format.order t139 4503599627370496 == some Ordering.lt) = false := by simpa using c3))
  (try (have c3b3 : ¬ (FloatKind.f64.format.order t139 4503599627370496 = some Ordering.lt) := by simpa using c3))
  clear c3
  simp only [Option.some.injEq, Prod.mk.injEq] at H
  obtain ⟨rfl, rfl⟩ := H
  go_enter Tryz.func123, Tryz.ntmps123
  go_wp2_with (first | (refine gl (some 5) Tryz.func60 #[.float .f64 a0] ?_; (with_reducible refine (m_Abs.calls a0 t139 _ A2.out).mono ?_); rintro e w' ⟨rfl, ⟨nd, rfl⟩⟩; refine ⟨_, rfl, ?_⟩))
  go_ret2
  exact ⟨by first | rfl | (simp; done) | (simp [*]; done), by repeat (first | exact Drawn0.refl _ | apply Drawn0.step)⟩
 rw [if_pos c3] at H
 have c3b0 : (FloatKind.f64.format.order t139 4503599627370496 == some Ordering.lt) = true := c3
 (try (have c3b1 : decide (FloatKind.f64.format.order t139 4503599627370496 = some Ordering.lt) = true := by simpa using c3))
 (try (have c3b2 : (FloatKind.f64.format.order t139 4503599627370496 == some Ordering.lt) = true := by simpa using c3))
 clear c3
 by_cases c4 : okMul a0 4841369599423283200 = true
 case neg =>
  rw [if_neg c4] at H
  exact absurd H (by simp)
 rw [if_pos c4] at H
 have c4b0 := eq_true c4
 have c4b1 := decide_eq_true c4
 clear c4
 simp only [Option.some.injEq, Prod.mk.injEq] at H
 obtain ⟨rfl, rfl⟩ := H
 go_enter Tryz.func123, Tryz.ntmps123
 go_wp2_with (first | (refine gl (some 5) Tryz.func60 #[.float .f64 a0] ?_; (with_reducible refine (m_Abs.calls a0 t139 _ A2.out).mono ?_); rintro e w' ⟨rfl, ⟨nd, rfl⟩⟩; refine ⟨_, rfl, ?_⟩))
 go_ret2
 exact ⟨by first | rfl | (simp; done) | (simp [*]; done), by repeat (first | exact Drawn0.refl _ | apply Drawn0.step)⟩
def m_frexp.f (a0 : Nat) : Option (Nat × Int) := if (FloatKind.f64.format.order a0 0 == some Ordering.eq) = true then (some (a0, 0)) else ((m_IsInf.f a0 0).bind fun t140 => (if t140 = true then (none) else ((m_IsNaN.f a0).bind fun t141 => (if t141 = true then (none) else ((m_normalize.f a0).bind fun bt142 => (some (Int.toNat (Go.bits .or .u64 (Go.bits .andNot .u64 ((bt142.1 : Nat) : Int) 9218868437227405312) 4602678819172646912), wrap64 (bt142.2 + (wrap64 ((wrap64 ((wrap64 (Go.bits .and .u64 (((bt142.1 : Nat) : Int) / 4503599627370496) 2047)) - 1023)) + 1))))))))))
theorem m_frexp.calls (a0 r1 : Nat) (r2 : Int) (w : World) (h : m_frexp.f a0 = some (r1, r2)) :
  Calls Tryz.prog 90 #[.float .f64 a0] w fun e w' => e = .returned (.tuple #[.float .f64 r1, .int .i64 r2]) ∧ Drawn0 w w' := by
 have H := h
 unfold m_frexp.f at H
 clear h
 by_cases c2 : (FloatKind.f64.format.order a0 0 == some Ordering.eq) = true
 ·rw [if_pos c2] at H
  have c2b0 : (FloatKind.f64.format.order a0 0 == some Ordering.eq) = true := c2
  (try (have c2b1 : decide (FloatKind.f64.format.order a0 0 = some Ordering.eq) = true := by simpa using c2))
  (try (have c2b2 : (FloatKind.f64.format.order a0 0 == some Ordering.eq) = true := by simpa using c2))
  clear c2
  simp only [Option.some.injEq, Prod.mk.injEq] at H
  obtain ⟨rfl, rfl⟩ := H
  go_enter Tryz.func90, Tryz.ntmps90
  go_wp2
  go_ret2
  exact ⟨by first | rfl | (simp; done) | (simp [*]; done), by repeat (first | exact Drawn0.refl _ | apply Drawn0.step)⟩
 rw [if_neg c2] at H
 have c2b0 : (FloatKind.f64.format.order a0 0 == some Ordering.eq) = false := by simpa using c2
 (try (have c2b1 : decide (FloatKind.f64.format.order a0 0 = some Ordering.eq) = false := by simpa using c2))
 (try (have c2b2 : (FloatKind.f64.format.order a0 0 == some Ordering.eq) = false := by simpa using c2))
 (try (have c2b3 : ¬ (FloatKind.f64.format.order a0 0 = some Ordering.eq) := by simpa using c2))
 clear c2
 obtain ⟨t140, A3, H⟩ := bd H
 by_cases c4 : t140 = true
 ·subst c4
  rw [if_pos rfl] at H
  exact absurd H (by simp)
 replace c4 := Bool.eq_false_iff.mpr c4
 subst c4
 rw [if_neg Bool.false_ne_true] at H
 obtain ⟨t141, A5, H⟩ := bd H
 by_cases c6 : t141 = true
 ·subst c6
  rw [if_pos rfl] at H
  exact absurd H (by simp)
 replace c6 := Bool.eq_false_iff.mpr c6
 subst c6
 rw [if_neg Bool.false_ne_true] at H
 obtain ⟨⟨t142, t143⟩, A7, H⟩ := bd H
 (try dsimp only at H)
 simp only [Option.some.injEq, Prod.mk.injEq] at H
 obtain ⟨rfl, rfl⟩ := H
 go_enter Tryz.func90, Tryz.ntmps90
 go_wp2_with (first | (refine gl (some 11) Tryz.func58 #[.float .f64 a0, .int .i64 0] ?_; (with_reducible refine (m_IsInf.calls a0 0 false _ A3.out).mono ?_); rintro e w' ⟨rfl, ⟨nd, rfl⟩⟩; refine ⟨_, rfl, ?_⟩) | (go_at_call 122; (with_reducible refine (m_IsNaN.calls a0 false _ A5.out).mono ?_); rintro e w' ⟨rfl, ⟨nd, rfl⟩⟩) | (refine gl (some 19) Tryz.func123 #[.float .f64 a0] ?_; (with_reducible refine (m_normalize.calls a0 t142 t143 _ A7.out).mono ?_); rintro e w' ⟨rfl, ⟨nd, rfl⟩⟩; refine ⟨_, rfl, ?_⟩))
 go_ret2
 exact ⟨by first | rfl | (simp; done) | (simp [*]; done), by repeat (first | exact Drawn0.refl _ | apply Drawn0.step)⟩
def m_Frexp.f (a0 : Nat) : Option (Nat × Int) := (m_frexp.f a0).bind fun bt144 => (some (bt144.1, bt144.2))
theorem m_Frexp.calls (a0 r1 : Nat) (r2 : Int) (w : World) (h : m_Frexp.f a0 = some (r1, r2)) :
  Calls Tryz.prog 59 #[.float .f64 a0] w fun e w' => e = .returned (.tuple #[.float .f64 r1, .int .i64 r2]) ∧ Drawn0 w w' := by
 have H := h
 unfold m_Frexp.f at H
 clear h
 obtain ⟨⟨t144, t145⟩, A2, H⟩ := bd H
 (try dsimp only at H)
 simp only [Option.some.injEq, Prod.mk.injEq] at H
 obtain ⟨rfl, rfl⟩ := H
 go_enter Tryz.func59, Tryz.ntmps59
 go_wp2_with (first | (refine gl (some 9) Tryz.func90 #[.float .f64 a0] ?_; (with_reducible refine (m_frexp.calls a0 t144 t145 _ A2.out).mono ?_); rintro e w' ⟨rfl, ⟨nd, rfl⟩⟩; refine ⟨_, rfl, ?_⟩))
 go_ret2
 exact ⟨by first | rfl | (simp; done) | (simp [*]; done), by repeat (first | exact Drawn0.refl _ | apply Drawn0.step)⟩
def m_ldexp.f (a0 : Nat) (a1 : Int) : Option (Nat) := if (FloatKind.f64.format.order a0 0 == some Ordering.eq) = true then (some a0) else ((m_IsInf.f a0 0).bind fun t146 => (if t146 = true then (none) else ((m_IsNaN.f a0).bind fun t147 => (if t147 = true then (none) else ((m_normalize.f a0).bind fun bt148 => (if (wrap64 ((wrap64 (a1 + bt148.2)) + (wrap64 ((Go.bits .and .i64 (wrap64 (((bt148.1 : Nat) : Int) / 4503599627370496)) 2047) - 1023)))) < (-1075) then (none) else (if (wrap64 ((wrap64 (a1 + bt148.2)) + (wrap64 ((Go.bits .and .i64 (wrap64 (((bt148.1 : Nat) : Int) / 4503599627370496)) 2047) - 1023)))) > 1023 then (none) else (if (wrap64 ((wrap64 (a1 + bt148.2)) + (wrap64 ((Go.bits .and .i64 (wrap64 (((bt148.1 : Nat) : Int) / 4503599627370496)) 2047) - 1023)))) < (-1022) then (none) else (if okMul 4607182418800017408 (Int.toNat (Go.bits .or .u64 (Go.bits .andNot .u64 ((bt148.1 : Nat) : Int) 9218868437227405312) (IntKind.u64.wrap ((IntKind.u64.wrap (wrap64 ((wrap64 ((wrap64 (a1 + bt148.2)) + (wrap64 ((Go.bits .and .i64 (wrap64 (((bt148.1 : Nat) : Int) / 4503599627370496)) 2047) - 1023)))) + 1023))) * 4503599627370496)))) = true then (some (fMul 4607182418800017408 (Int.toNat (Go.bits .or .u64 (Go.bits .andNot .u64 ((bt148.1 : Nat) : Int) 9218868437227405312) (IntKind.u64.wrap ((IntKind.u64.wrap (wrap64 ((wrap64 ((wrap64 (a1 + bt148.2)) + (wrap64 ((Go.bits .and .i64 (wrap64 (((bt148.1 : Nat) : Int) / 4503599627370496)) 2047) - 1023)))) + 1023))) * 4503599627370496)))))) else (none))))))))))
theorem m_ldexp.calls (a0 : Nat) (a1 : Int) (r : Nat) (w : World) (h : m_ldexp.f a0 a1 = some r) :
  Calls Tryz.prog 92 #[.float .f64 a0, .int .i64 a1] w fun e w' => e = .returned (.float .f64 r) ∧ Drawn0 w w' := by
 have H := h
 unfold m_ldexp.f at H
 clear h
 by_cases c3 : (FloatKind.f64.format.order a0 0 == some Ordering.eq) = true
 ·rw [if_pos c3] at H
  have c3b0 : (FloatKind.f64.format.order a0 0 == some Ordering.eq) = true := c3
  (try (have c3b1 : decide (FloatKind.f64.format.order a0 0 = some Ordering.eq) = true := by simpa using c3))
  (try (have c3b2 : (FloatKind.f64.format.order a0 0 == some Ordering.eq) = true := by simpa using c3))
  clear c3
  obtain rfl := Option.some.inj H
  go_enter Tryz.func92, Tryz.ntmps92
  go_wp2
  go_ret
  exact ⟨by first | rfl | (simp; done) | (simp [*]; done), by repeat (first | exact Drawn0.refl _ | apply Drawn0.step)⟩
 rw [if_neg c3] at H
 have c3b0 : (FloatKind.f64.format.order a0 0 == some Ordering.eq) = false := by simpa using c3
 (try (have c3b1 : decide (FloatKind.f64.format.order a0 0 = some Ordering.eq) = false := by simpa using c3))
 (try (have c3b2 : (FloatKind.f64.format.order a0 0 == some Ordering.eq) = false := by simpa using c3))
 (try (have c3b3 : ¬ (FloatKind.f64.format.order a0 0 = some Ordering.eq) := by simpa using c3))
 clear c3
 obtain ⟨t146, A4, H⟩ := bd H
 by_cases c5 : t146 = true
 ·subst c5
  rw [if_pos rfl] at H
  exact absurd H (by simp)
 replace c5 := Bool.eq_false_iff.mpr c5
 subst c5
 rw [if_neg Bool.false_ne_true] at H
 obtain ⟨t147, A6, H⟩ := bd H
 by_cases c7 : t147 = true
 ·subst c7
  rw [if_pos rfl] at H
  exact absurd H (by simp)
 replace c7 := Bool.eq_false_iff.mpr c7
 subst c7
 rw [if_neg Bool.false_ne_true] at H
 obtain ⟨⟨t148, t149⟩, A8, H⟩ := bd H
 (try dsimp only at H)
 by_cases c9 : (wrap64 ((wrap64 (a1 + t149)) + (wrap64 ((Go.bits .and .i64 (wrap64 (((t148 : Nat) : Int) / 4503599627370496)) 2047) - 1023)))) < (-1075)
 ·rw [if_pos c9] at H
  exact absurd H (by simp)
 rw [if_neg c9] at H
 have c9b0 := decide_eq_false c9
 clear c9
 by_cases c10 : (wrap64 ((wrap64 (a1 + t149)) + (wrap64 ((Go.bits .and .i64 (wrap64 (((t148 : Nat) : Int) / 4503599627370496)) 2047) - 1023)))) > 1023
 ·rw [if_pos c10] at H
  exact absurd H (by simp)
 rw [if_neg c10] at H
 have c10b0 : decide (1023 < (wrap64 ((wrap64 (a1 + t149)) + (wrap64 ((Go.bits .and .i64 (wrap64 (((t148 : Nat) : Int) / 4503599627370496)) 2047) - 1023))))) = false := decide_eq_false c10
 clear c10
 by_cases c11 : (wrap64 ((wrap64 (a1 + t149)) + (wrap64 ((Go.bits .and .i64 (wrap64 (((t148 : Nat) : Int) / 4503599627370496)) 2047) - 1023)))) < (-1022)
 ·rw [if_pos c11] at H
  exact absurd H (by simp)
 rw [if_neg c11] at H
 have c11b0 := decide_eq_false c11
 clear c11
 by_cases c12 : okMul 4607182418800017408 (Int.toNat (Go.bits .or .u64 (Go.bits .andNot .u64 ((t148 : Nat) : Int) 9218868437227405312) (IntKind.u64.wrap ((IntKind.u64.wrap (wrap64 ((wrap64 ((wrap64 (a1 + t149)) + (wrap64 ((Go.bits .and .i64 (wrap64 (((t148 : Nat) : Int) / 4503599627370496)) 2047) - 1023)))) + 1023))) * 4503599627370496)))) = true
 case neg =>
  rw [if_neg c12] at H
  exact absurd H (by simp)
 rw [if_pos c12] at H
 have c12b0 := eq_true c12
 have c12b1 := decide_eq_true c12
 obtain rfl := Option.some.inj H
 go_enter Tryz.func92, Tryz.ntmps92
 go_wp2_with (first | (refine gl (some 14) Tryz.func58 #[.float .f64 a0, .int .i64 0] ?_; (with_reducible refine (m_IsInf.calls a0 0 false _ A4.out).mono ?_); rintro e w' ⟨rfl, ⟨nd, rfl⟩⟩; refine ⟨_, rfl, ?_⟩) | (go_at_call 122; (with_reducible refine (m_IsNaN.calls a0 false _ A6.out).mono ?_); rintro e w' ⟨rfl, ⟨nd, rfl⟩⟩) | (refine gl (some 22) Tryz.func123 #[.float .f64 a0] ?_; (with_reducible refine (m_normalize.calls a0 t148 t149 _ A8.out).mono ?_); rintro e w' ⟨rfl, ⟨nd, rfl⟩⟩; refine ⟨_, rfl, ?_⟩))
 go_ret
 exact ⟨by first | rfl | (simp; done) | (simp [*]; done), by repeat (first | exact Drawn0.refl _ | apply Drawn0.step)⟩
def m_Ldexp.f (a0 : Nat) (a1 : Int) : Option (Nat) := (m_ldexp.f a0 a1).bind fun t150 => (some t150)
theorem m_Ldexp.calls (a0 : Nat) (a1 : Int) (r : Nat) (w : World) (h : m_Ldexp.f a0 a1 = some r) :
  Calls Tryz.prog 61 #[.float .f64 a0, .int .i64 a1] w fun e w' => e = .returned (.float .f64 r) ∧ Drawn0 w w' := by
 have H := h
 unfold m_Ldexp.f at H
 clear h
 obtain ⟨t150, A3, H⟩ := bd H
 obtain rfl := Option.some.inj H
 go_enter Tryz.func61, Tryz.ntmps61
 go_wp2_with (first | (refine gl (some 10) Tryz.func92 #[.float .f64 a0, .int .i64 a1] ?_; (with_reducible refine (m_ldexp.calls a0 a1 t150 _ A3.out).mono ?_); rintro e w' ⟨rfl, ⟨nd, rfl⟩⟩; refine ⟨_, rfl, ?_⟩))
 go_ret
 exact ⟨by first | rfl | (simp; done) | (simp [*]; done), by repeat (first | exact Drawn0.refl _ | apply Drawn0.step)⟩
def m_Trunc.f (a0 : Nat) : Option (Nat) := if isNum a0 = true then (some (fTrunc a0)) else (none)
theorem m_Trunc.calls (a0 r : Nat) (w : World) (h : m_Trunc.f a0 = some r) :
  Calls Tryz.prog 79 #[.float .f64 a0] w fun e w' => e = .returned (.float .f64 r) ∧ Drawn0 w w' := by
 have H := h
 unfold m_Trunc.f at H
 clear h
 by_cases c2 : isNum a0 = true
 ·rw [if_pos c2] at H
  have c2b0 := eq_true c2
  have c2b1 := decide_eq_true c2
  clear c2
  obtain rfl := Option.some.inj H
  go_enter Tryz.func79, Tryz.ntmps79
  go_wp2
  go_ret
  exact ⟨by first | rfl | (simp; done) | (simp [*]; done), by repeat (first | exact Drawn0.refl _ | apply Drawn0.step)⟩
 ·rw [if_neg c2] at H
  exact absurd H (by simp)
def e_Whole.f (k : Nat) (a0 : Int) : Option (Bool × List Int × Int) := if (FloatKind.f64.format.order (Int.toNat a0) (Int.toNat a0) != some Ordering.eq) = true then (none) else ((m_IsInf.f (Int.toNat a0) 0).bind fun t334 => (if t334 = true then (none) else ((m_Trunc.f (Int.toNat a0)).bind fun t335 => ((m_Frexp.f t335).bind fun bt336 => ((m_Ldexp.f bt336.1 53).bind fun t338 => (if inI64 t338 = true then ((o_Of.f (f2i t338)).bind fun bt339 => ((o_Of.f 2).bind fun bt344 => (if (wrap64 (bt336.2 - 53)) ≥ 0 then ((o_Of.f (wrap64 (bt336.2 - 53))).bind fun bt349 => ((o_Pow.f k bt344.1 bt344.2 bt349.1 bt349.2).bind fun bt353 => ((o_Mul.f k bt339.1 bt339.2 bt353.1 bt353.2.1).bind fun bt359 => (some (bt359.1, bt359.2.1, 0))))) else (if (wrap64 (bt336.2 - 53)) < (-60) then (none) else ((o_Of.f (wrap64 (-(wrap64 (bt336.2 - 53))))).bind fun bt364 => ((o_Pow.f k bt344.1 bt344.2 bt364.1 bt364.2).bind fun bt368 => ((o_DivMod.f k bt339.1 bt339.2 bt368.1 bt368.2.1).bind fun bt374 => (some (bt374.1, bt374.2.1, 0))))))))) else (none)))))))
theorem e_Whole.mono : ∀ a0 k, LeO (e_Whole.f k a0) (e_Whole.f (k + 1) a0) := by
 intro a0 k
 unfold e_Whole.f
 repeat' first
   | exact o_DivMod.mono _ _ _ _ _
   | exact o_Mul.mono _ _ _ _ _
   | exact o_Pow.mono _ _ _ _ _
   | exact LeO.refl _
   | exact LeO.none _
   | refine LeO.ite ?_ ?_
   | refine LeO.bind ?_ (fun _ => ?_)
def e_Whole.T11 : Bool × List (List Nat × List Nat) := (true, [([], []), ([], []), ([1], [1]), ([0, 2, 2], [0, 2]), ([3], [3]), ([4], [4]), ([4], [4]), ([], []), ([7, 5, 3, 0, 1, 2, 3, 4, 5, 7], [5, 7]), ([6, 8, 0, 1, 2, 3, 4, 5, 6, 7, 8], [6])])
def e_Whole.B11 : List Nat := [0, 0, 2, 7, 15, 31, 31, 0, 191, 511]
theorem e_Whole.tab11 : rtab .any (opsOf Tryz.f78 11) = e_Whole.T11 := by kernel_rfl
theorem e_Whole.bits11 : waitsOk e_Whole.T11.2 e_Whole.B11 = true := by kernel_rfl
def e_Whole.T16 : Bool × List (List Nat × List Nat) := (true, [([], []), ([], []), ([1], [1]), ([2], [2]), ([0, 3, 3], [0, 3]), ([4], [4]), ([5], [5]), ([5], [5]), ([], []), ([8, 6, 4, 0, 1, 2, 3, 4, 5, 6, 8], [6, 8]), ([7, 9, 0, 1, 2, 3, 4, 5, 6, 7, 8, 9], [7])])
def e_Whole.B16 : List Nat := [0, 0, 2, 6, 15, 31, 63, 63, 0, 383, 1023]
theorem e_Whole.tab16 : rtab .any (opsOf Tryz.f78 16) = e_Whole.T16 := by kernel_rfl
theorem e_Whole.bits16 : waitsOk e_Whole.T16.2 e_Whole.B16 = true := by kernel_rfl
theorem e_Whole.calls (k : Nat) (a0 : Int) (r1 : Bool) (r2 : List Int) (r3 : Int) (w : World) (h : e_Whole.f k a0 = some (r1, r2, r3)) :
  Calls Tryz.prog 78 #[.int .u64 a0] w fun e w' => ∃ v1_ : Value, e = .returned (.tuple #[.agg #[.bool r1, v1_], .int .i64 r3]) ∧ Kd.R (Kd.int .u64) 25 w' w.heap.size (fun _ => True) v1_ r2 ∧ Below w.heap.size w w' := by
 have hu24 := Tryz.underlying24
 have HB := Az (Below.refl w.heap.size w)
 have H := h
 unfold e_Whole.f at H
 by_cases c2 : (FloatKind.f64.format.order (Int.toNat a0) (Int.toNat a0) != some Ordering.eq) = true
 ·rw [if_pos c2] at H
  exact absurd H (by simp)
 rw [if_neg c2] at H
 obtain ⟨t334, A3, H⟩ := bd H
 by_cases c4 : t334 = true
 ·subst c4
  rw [if_pos rfl] at H
  exact absurd H (by simp)
 replace c4 := Bool.eq_false_iff.mpr c4
 subst c4
 rw [if_neg Bool.false_ne_true] at H
 obtain ⟨t335, A5, H⟩ := bd H
 obtain ⟨⟨t336, t337⟩, A6, H⟩ := bd H
 obtain ⟨t338, A7, H⟩ := bd H
 by_cases c8 : inI64 t338 = true
 case neg =>
  rw [if_neg c8] at H
  exact absurd H (by simp)
 rw [if_pos c8] at H
 obtain ⟨⟨t339, t340⟩, A9, H⟩ := bd H
 obtain ⟨⟨t344, t345⟩, A10, H⟩ := bd H
 by_cases c11 : (wrap64 (t337 - 53)) ≥ 0
 ·rw [if_pos c11] at H
  obtain ⟨⟨t349, t350⟩, A12, H⟩ := bd H
  obtain ⟨⟨t353, t354, t357⟩, A13, H⟩ := bd H
  obtain ⟨⟨t359, t360, t363⟩, A14, H⟩ := bd H
  simp only [Option.some.injEq, Prod.mk.injEq] at H
  obtain ⟨rfl, rfl, rfl⟩ := H
  go_enter Tryz.func78, Tryz.ntmps78
  try go_wp2_with (first | (refine be 2 #[.bool false, .slice none 0 0] 24 ?_; intro gb333 hg w15 hbox hb; have BK333 := Az (hbox); have GW333 := gw (bl HB) hg; replace HB := bs HB hb; clear hb hbox hg) | (refine gl (some 25) Tryz.func58 #[.float .f64 (Int.toNat a0), .int .i64 0] ?_; (with_reducible refine (m_IsInf.calls (Int.toNat a0) 0 false _ A3.out).mono ?_); rintro e w15 ⟨rfl, hb⟩; replace hb := dr hb; refine ⟨_, rfl, ?_⟩; replace BK333 := kb BK333 hb; replace HB := bs HB hb; clear hb; have hz333_ := bz BK333) | (refine gl (some 29) Tryz.func79 #[.float .f64 (Int.toNat a0)] ?_; (with_reducible refine (m_Trunc.calls (Int.toNat a0) t335 _ A5.out).mono ?_); rintro e w15 ⟨rfl, hb⟩; replace hb := dr hb; refine ⟨_, rfl, ?_⟩; replace BK333 := kb BK333 hb; replace HB := bs HB hb; clear hb; have hz333_ := bz BK333) | (refine gl (some 30) Tryz.func59 #[.float .f64 t335] ?_; (with_reducible refine (m_Frexp.calls t335 t336 t337 _ A6.out).mono ?_); rintro e w15 ⟨rfl, hb⟩; replace hb := dr hb; refine ⟨_, rfl, ?_⟩; replace BK333 := kb BK333 hb; replace HB := bs HB hb; clear hb; have hz333_ := bz BK333) | (refine gl (some 34) Tryz.func61 #[.float .f64 t336, .int .i64 53] ?_; (with_reducible refine (m_Ldexp.calls t336 53 t338 _ A7.out).mono ?_); rintro e w15 ⟨rfl, hb⟩; replace hb := dr hb; refine ⟨_, rfl, ?_⟩; replace BK333 := kb BK333 hb; replace HB := bs HB hb; clear hb; have hz333_ := bz BK333) | (refine gl (some 36) Tryz.func65 #[.int .i64 (f2i t338)] ?_; (with_reducible refine (o_Of.calls (f2i t338) t339 t340 _ A9.out).mono ?_); rintro e w16 ⟨v341, rfl, ho0, hb⟩; refine ⟨_, rfl, ?_⟩; have HO342 := Az (Kd.R_lower ho0 (below_size (bls HB))); replace BK333 := kb BK333 hb; replace HB := bs HB hb) | (refine be 7 #[.bool false, .slice none 0 0] 24 ?_; intro gb343 hg w17 hbox hb; replace HO342 := Az (Kd.R_below (rk HO342) hb); have BK343 := Az (hbox); have GW343 := gw (bls HB) hg; replace HB := bs HB hb; have NB333_343 := nl BK333 hg; have NB343_333 := ng BK333 hg; replace BK333 := kb BK333 hb; clear hb hbox hg; have hnb18 := NB343_333.out; have hnc18 := NB333_343.out; have hz19_1 := bz BK343; obtain ⟨Ao20, co20, eo20⟩ := Kd.R_slice HO342.out; subst eo20) | (refine gl (some 37) Tryz.func65 #[.int .i64 2] ?_; (with_reducible refine (o_Of.calls 2 t344 t345 _ A10.out).mono ?_); rintro e w21 ⟨v346, rfl, ho0, hb⟩; refine ⟨_, rfl, ?_⟩; have HO347 := Az (Kd.R_lower (Kd.R_new' ho0 (Kd.R_lt (rt ((Kd.R_mono (Kd.R_far (p := ⟨gb343, 1, none⟩) (Kd.R_far (p := ⟨gb343, 0, none⟩) (Kd.R_types HO342.out BK343.out (by decide)) (fun _ hk => hk.2) (.bool t339)) (fun _ hk => hk.2) (.slice Ao20 t340.length co20)) (fun _ h_ => h_.1)))))) (below_size (bls HB))); replace HO342 := Az (Kd.R_elder' (rt ((Kd.R_mono (Kd.R_far (p := ⟨gb343, 1, none⟩) (Kd.R_far (p := ⟨gb343, 0, none⟩) (Kd.R_types HO342.out BK343.out (by decide)) (fun _ hk => hk.2) (.bool t339)) (fun _ hk => hk.2) (.slice Ao20 t340.length co20)) (fun _ h_ => h_.1)))) (Kd.R_base ho0) hb); replace BK333 := Az (blk_below (g := gb333) (o := .cells #[.bool false, .slice none 0 0] 24 (0, 0)) (by refine blk_far ?_ NB333_343.out _; refine blk_far ?_ NB333_343.out _; exact BK333.out) hb); replace BK343 := Az (blk_below (g := gb343) (o := .cells #[.bool t339, .slice Ao20 t340.length co20] 24 (0, 0)) (by refine blk_put (cs := #[.bool t339, .slice none 0 0]) ?_ 1 _ rfl; refine blk_put (cs := #[.bool false, .slice none 0 0]) ?_ 0 _ rfl; exact BK343.out) hb); replace HB := bs HB hb) | (refine be 8 #[.bool false, .slice none 0 0] 24 ?_; intro gb348 hg w22 hbox hb; replace HO342 := Az (Kd.R_below (rk HO342) hb); replace HO347 := Az (Kd.R_below (rk HO347) hb); have BK348 := Az (hbox); have GW348 := gw (bls HB) hg; replace HB := bs HB hb; have NB333_348 := nl BK333 hg; have NB348_333 := ng BK333 hg; replace BK333 := kb BK333 hb; have NB343_348 := nl BK343 hg; have NB348_343 := ng BK343 hg; replace BK343 := kb BK343 hb; clear hb hbox hg; have hnb23 := NB348_333.out; have hnc23 := NB333_348.out; have hnb24 := NB348_343.out; have hnc24 := NB343_348.out; have hz25_1 := bz BK348; obtain ⟨Ao26, co26, eo26⟩ := Kd.R_slice HO347.out; subst eo26))
  have n_ : (fun W_ : World => Aside0 (Kd.R (Kd.int .u64) 25 W_ w.heap.size (fun k_ => some k_ ≠ (.slice Ao26 t345.length co26 : Value).ownBlock) (.slice Ao20 t340.length co20) t340) ∧ Aside0 (Kd.R (Kd.int .u64) 25 W_ w.heap.size (fun k_ => some k_ ≠ (.slice Ao20 t340.length co20 : Value).ownBlock) (.slice Ao26 t345.length co26) t345) ∧ Aside0 (W_.heap[gb333]? = some (.cells #[.bool false, .slice none 0 0] 24 (0, 0))) ∧ Aside0 (W_.heap[gb343]? = some (.cells #[.bool t339, .slice Ao20 t340.length co20] 24 (0, 0))) ∧ Aside0 (W_.heap[gb348]? = some (.cells #[.bool t344, .slice Ao26 t345.length co26] 24 (0, 0))) ∧ Aside0 (Below w.heap.size w W_)) ((w22.setCell ⟨gb348, 0, none⟩ (.bool t344)).setCell ⟨gb348, 1, none⟩ (.slice Ao26 t345.length co26)) := ⟨⟨rt (Kd.R_mono (Kd.R_far (p := ⟨gb348, 1, none⟩) (Kd.R_far (p := ⟨gb348, 0, none⟩) (Kd.R_types HO342.out BK348.out (by decide)) (fun _ hk => hk.2) (.bool t344)) (fun _ hk => hk.2) (.slice Ao26 t345.length co26)) (fun _ hk => hk.1.2))⟩, ⟨rt (Kd.R_mono (Kd.R_far (p := ⟨gb348, 1, none⟩) (Kd.R_far (p := ⟨gb348, 0, none⟩) (Kd.R_types HO347.out BK348.out (by decide)) (fun _ hk => hk.2) (.bool t344)) (fun _ hk => hk.2) (.slice Ao26 t345.length co26)) (fun _ hk => hk.1.2))⟩, ⟨by refine blk_far ?_ NB333_348.out _; refine blk_far ?_ NB333_348.out _; exact BK333.out⟩, ⟨by refine blk_far ?_ NB343_348.out _; refine blk_far ?_ NB343_348.out _; exact BK343.out⟩, ⟨by refine blk_put (cs := #[.bool t344, .slice none 0 0]) ?_ 1 _ rfl; refine blk_put (cs := #[.bool false, .slice none 0 0]) ?_ 0 _ rfl; exact BK348.out⟩, ⟨bls HB⟩⟩
  obtain ⟨n0_, n1_, n2_, n3_, n4_, n5_⟩ := n_
  generalize ((w22.setCell ⟨gb348, 0, none⟩ (.bool t344)).setCell ⟨gb348, 1, none⟩ (.slice Ao26 t345.length co26)) = w27 at n0_ n1_ n2_ n3_ n4_ n5_ ⊢
  have HO342 := n0_
  have HO347 := n1_
  have BK333 := n2_
  have BK343 := n3_
  have BK348 := n4_
  have HB := n5_
  replace HO342 := Az (Kd.R_drew HO342.out)
  replace HO347 := Az (Kd.R_drew HO347.out)
  replace BK333 := Az (blk_drew BK333.out)
  replace BK343 := Az (blk_drew BK343.out)
  replace BK348 := Az (blk_drew BK348.out)
  replace HB := Az (below_drew1 HB.out)
  refine start_ (n := 10) (S := fun w' => w'.cell? ⟨gb348, 0, none⟩ = some (.bool t344) ∧ w'.cell? ⟨gb348, 1, none⟩ = some (.slice Ao26 t345.length co26)) (ds := []) (bm 10 0) (by kernel_rfl) rfl rfl ⟨(blk_cell BK348.out 0).trans rfl, (blk_cell BK348.out 1).trans rfl⟩ (fun hHeld => ?_); refine with_tabW e_Whole.tab11 e_Whole.bits11 (fun HT_ HW_ => ?_)
  generalize w27.drew = w28 at HO342 HO347 BK333 BK343 BK348 HB hHeld ⊢
  refine pu 1 (some 44) (bm 10 2) HT_.out ?_
  refine tk 0 (some 43) (bm 10 3) HT_.out HW_.out hHeld ?_
  refine join_ (σ := Value × Value × Nat) 2 (bm 10 255) (fun s_ => [(45, .agg #[.bool t349, s_.1]), (46, .tuple #[.agg #[.bool t353, s_.2.1], .int .i64 t357]), (9, .pointer (some ⟨s_.2.2, 0, none⟩)), (42, .tuple #[.agg #[.bool t353, s_.2.1], .int .i64 t357]), (47, .agg #[.bool t353, s_.2.1]), (48, .int .i64 t357)]) (fun s_ w' => (w'.cell? ⟨gb348, 0, none⟩ = some (.bool t344) ∧ w'.cell? ⟨gb348, 1, none⟩ = some (.slice Ao26 t345.length co26)) ∧ (Kd.R (Kd.int .u64) 25 w' w.heap.size (fun k_ => some k_ ≠ (.slice Ao26 t345.length co26 : Value).ownBlock ∧ some k_ ≠ (s_.1 : Value).ownBlock ∧ some k_ ≠ (s_.2.1 : Value).ownBlock) (.slice Ao20 t340.length co20) t340) ∧ (Kd.R (Kd.int .u64) 25 w' w.heap.size (fun k_ => some k_ ≠ (.slice Ao20 t340.length co20 : Value).ownBlock ∧ some k_ ≠ (s_.1 : Value).ownBlock ∧ some k_ ≠ (s_.2.1 : Value).ownBlock) (.slice Ao26 t345.length co26) t345) ∧ (Kd.R (Kd.int .u64) 25 w' w.heap.size (fun k_ => some k_ ≠ (.slice Ao20 t340.length co20 : Value).ownBlock ∧ some k_ ≠ (.slice Ao26 t345.length co26 : Value).ownBlock ∧ some k_ ≠ (s_.2.1 : Value).ownBlock) s_.1 t350) ∧ (Kd.R (Kd.int .u64) 25 w' w.heap.size (fun k_ => some k_ ≠ (.slice Ao20 t340.length co20 : Value).ownBlock ∧ some k_ ≠ (.slice Ao26 t345.length co26 : Value).ownBlock ∧ some k_ ≠ (s_.1 : Value).ownBlock) s_.2.1 t354) ∧ (w'.heap[gb333]? = some (.cells #[.bool false, .slice none 0 0] 24 (0, 0))) ∧ (w'.heap[gb343]? = some (.cells #[.bool t339, .slice Ao20 t340.length co20] 24 (0, 0))) ∧ (w'.heap[gb348]? = some (.cells #[.bool t344, .slice Ao26 t345.length co26] 24 (0, 0))) ∧ (w'.heap[s_.2.2]? = some (.cells #[.bool false, .slice none 0 0] 24 (0, 0))) ∧ (w.heap.size ≤ s_.2.2) ∧ (w.heap.size ≤ s_.2.2) ∧ (gb333 ≠ s_.2.2) ∧ (s_.2.2 ≠ gb333) ∧ (gb343 ≠ s_.2.2) ∧ (s_.2.2 ≠ gb343) ∧ (gb348 ≠ s_.2.2) ∧ (s_.2.2 ≠ gb348) ∧ (Below w.heap.size w w')) ?_ ?_
  rotate_left
  ·intro hCont
   refine two_ (i := 2) (j := 7) (Ni := some 45) (Nj := some 9) (bm 10 7) (bm 10 131) rfl rfl rfl rfl (two_of HT_.out (by kernel_rfl)) (by decide) (by decide) (fun K hK => ?_) (fun K hK => ?_)
   ·skip
    refine gs Tryz.func65 #[.int .i64 (wrap64 (t337 - 53))] ?_
    with_reducible refine (o_Of.calls (wrap64 (t337 - 53)) t349 t350 _ A12.out).mono ?_
    rintro e w29 ⟨v351, rfl, ho0, hb⟩
    refine ⟨_, rfl, ?_⟩
    have HO352 := Az (Kd.R_lower (Kd.R_new' (Kd.R_new' ho0 (Kd.R_lt (rk HO342))) (Kd.R_lt (rk HO347))) (below_size (bls HB)))
    replace HO342 := Az (Kd.R_elder' (rk HO342) (Kd.R_base ho0) hb)
    replace HO347 := Az (Kd.R_elder' (rk HO347) (Kd.R_base ho0) hb)
    replace BK333 := kb BK333 hb
    replace BK343 := kb BK343 hb
    replace BK348 := kb BK348 hb
    replace HB := bs HB hb
    obtain ⟨Ao30, co30, eo30⟩ := Kd.R_slice HO352.out
    (first | subst eo30 | (injection eo30 with f1_ f2_ f3_; have f4_ := f1_.symm; have f5_ := f3_.symm; clear f1_ f2_ f3_; subst f4_; subst f5_))
    refine hK.out _ _ hd (fun hHeld => ?_)
    refine nm ?_
    refine two_ (i := 3) (j := 7) (Ni := some 46) (Nj := some 9) (bm 10 15) (bm 10 135) rfl rfl rfl rfl (two_of HT_.out (by kernel_rfl)) (by decide) (by decide) (fun K hK => ?_) (fun K hK => ?_)
    ·skip
     refine gs Tryz.func98 #[.agg #[.bool t344, .slice Ao26 t345.length co26], .agg #[.bool t349, .slice Ao30 t350.length co30]] ?_
     with_reducible refine (o_Pow.calls k t344 _ _ t345 t349 _ _ t350 t353 t354 t357 _ ?side1 (Kd.R_reads' HO347.out).2.1 ?side3 (Kd.R_reads' HO352.out).2.1 A13.out).mono ?_
     (case side1 => exact (Kd.R_reads' HO347.out).2.2)
     (case side3 => exact (Kd.R_reads' HO352.out).2.2)
     rintro e w31 ⟨v355, rfl, ho0, hb⟩
     refine ⟨_, rfl, ?_⟩
     have HO356 := Az (Kd.R_lower (Kd.R_new' (Kd.R_new' (Kd.R_new' ho0 (Kd.R_lt (rk HO342))) (Kd.R_lt (rk HO347))) (Kd.R_lt (rk HO352))) (below_size (bls HB)))
     replace HO342 := Az (Kd.R_elder' (rk HO342) (Kd.R_base ho0) hb)
     replace HO347 := Az (Kd.R_elder' (rk HO347) (Kd.R_base ho0) hb)
     replace HO352 := Az (Kd.R_elder' (rk HO352) (Kd.R_base ho0) hb)
     replace BK333 := kb BK333 hb
     replace BK343 := kb BK343 hb
     replace BK348 := kb BK348 hb
     replace HB := bs HB hb
     refine hK.out _ _ hd (fun hHeld => ?_)
     refine nm ?_
     refine pu 4 (some 42) (bm 10 31) HT_.out ?_
     refine pu 5 (some 47) (bm 10 63) HT_.out ?_
     refine pu 6 (some 48) (bm 10 127) HT_.out ?_
     refine on 7 (some 9) (bm 10 255) HT_.out (fun K hK => ?_)
     refine box_step ?hg (N := 9) ?hd (cs := #[.bool false, .slice none 0 0]) (t := 24) ?hr ?_; (case hd => rfl); (case hg => rfl); (case hr => first | (go_simp; done) | (go_simp; rfl))
     intro gb358 hg w32 hbox hb
     replace HO342 := Az (Kd.R_below (rk HO342) hb)
     replace HO347 := Az (Kd.R_below (rk HO347) hb)
     replace HO352 := Az (Kd.R_below (rk HO352) hb)
     replace HO356 := Az (Kd.R_below (rk HO356) hb)
     have BK358 := Az (hbox)
     have GW358 := gw (bls HB) hg
     have GE358 := gw (bls HB) hg
     replace HB := bs HB hb
     have NB333_358 := nl BK333 hg
     have NB358_333 := ng BK333 hg
     replace BK333 := kb BK333 hb
     have NB343_358 := nl BK343 hg
     have NB358_343 := ng BK343 hg
     replace BK343 := kb BK343 hb
     have NB348_358 := nl BK348 hg
     have NB358_348 := ng BK348 hg
     replace BK348 := kb BK348 hb
     refine hK.out _ _ hd (fun hHeld => ?_)
     refine nm ?_
     exact norm_ (by simp only [putAll, Act.put, List.setIfInBounds_toArray, List.set_cons_zero, List.set_cons_succ]) (hCont (.slice Ao30 t350.length co30, v355, gb358) _ ⟨hHeld, (rt (Kd.R_mono HO342.out (fun _ hk => ⟨hk.1.1, ⟨hk.1.2, hk.2⟩⟩))), (rt (Kd.R_mono HO347.out (fun _ hk => ⟨hk.1.1, ⟨hk.1.2, hk.2⟩⟩))), (rt (Kd.R_mono HO352.out (fun _ hk => ⟨hk.1.1.2, ⟨hk.1.2, hk.2⟩⟩))), (rt (Kd.R_mono HO356.out (fun _ hk => ⟨hk.1.1.2, ⟨hk.1.2, hk.2⟩⟩))), (bk BK333), (bk BK343), (bk BK348), (bk BK358), GW358.out, GE358.out, NB333_358.out, NB358_333.out, NB343_358.out, NB358_343.out, NB348_358.out, NB358_348.out, (bls HB)⟩)
    ·skip
     refine box_step ?hg (N := 9) ?hd (cs := #[.bool false, .slice none 0 0]) (t := 24) ?hr ?_; (case hd => rfl); (case hg => rfl); (case hr => first | (go_simp; done) | (go_simp; rfl))
     intro gb358 hg w30 hbox hb
     replace HO342 := Az (Kd.R_below (rk HO342) hb)
     replace HO347 := Az (Kd.R_below (rk HO347) hb)
     replace HO352 := Az (Kd.R_below (rk HO352) hb)
     have BK358 := Az (hbox)
     have GW358 := gw (bls HB) hg
     have GE358 := gw (bls HB) hg
     replace HB := bs HB hb
     have NB333_358 := nl BK333 hg
     have NB358_333 := ng BK333 hg
     replace BK333 := kb BK333 hb
     have NB343_358 := nl BK343 hg
     have NB358_343 := ng BK343 hg
     replace BK343 := kb BK343 hb
     have NB348_358 := nl BK348 hg
     have NB358_348 := ng BK348 hg
     replace BK348 := kb BK348 hb
     obtain ⟨Ao31, co31, eo31⟩ := Kd.R_slice HO352.out
     (first | subst eo31 | (injection eo31 with f1_ f2_ f3_; have f4_ := f1_.symm; have f5_ := f3_.symm; clear f1_ f2_ f3_; subst f4_; subst f5_))
     refine hK.out _ _ hd (fun hHeld => ?_)
     refine nm ?_
     refine on 3 (some 46) (bm 10 143) HT_.out (fun K hK => ?_)
     refine gs Tryz.func98 #[.agg #[.bool t344, .slice Ao26 t345.length co26], .agg #[.bool t349, .slice Ao31 t350.length co31]] ?_
     with_reducible refine (o_Pow.calls k t344 _ _ t345 t349 _ _ t350 t353 t354 t357 _ ?side1 (Kd.R_reads' HO347.out).2.1 ?side3 (Kd.R_reads' HO352.out).2.1 A13.out).mono ?_
     (case side1 => exact (Kd.R_reads' HO347.out).2.2)
     (case side3 => exact (Kd.R_reads' HO352.out).2.2)
     rintro e w32 ⟨v355, rfl, ho0, hb⟩
     refine ⟨_, rfl, ?_⟩
     have HO356 := Az (Kd.R_lower (Kd.R_new' (Kd.R_new' (Kd.R_new' ho0 (Kd.R_lt (rk HO342))) (Kd.R_lt (rk HO347))) (Kd.R_lt (rk HO352))) (below_size (bls HB)))
     replace HO342 := Az (Kd.R_elder' (rk HO342) (Kd.R_base ho0) hb)
     replace HO347 := Az (Kd.R_elder' (rk HO347) (Kd.R_base ho0) hb)
     replace HO352 := Az (Kd.R_elder' (rk HO352) (Kd.R_base ho0) hb)
     replace BK333 := kb BK333 hb
     replace BK343 := kb BK343 hb
     replace BK348 := kb BK348 hb
     replace BK358 := kb BK358 hb
     replace HB := bs HB hb
     refine hK.out _ _ hd (fun hHeld => ?_)
     refine nm ?_
     refine pu 4 (some 42) (bm 10 159) HT_.out ?_
     refine pu 5 (some 47) (bm 10 191) HT_.out ?_
     refine pu 6 (some 48) (bm 10 255) HT_.out ?_
     exact norm_ (by simp only [putAll, Act.put, List.setIfInBounds_toArray, List.set_cons_zero, List.set_cons_succ]) (hCont (.slice Ao31 t350.length co31, v355, gb358) _ ⟨hHeld, (rt (Kd.R_mono HO342.out (fun _ hk => ⟨hk.1.1, ⟨hk.1.2, hk.2⟩⟩))), (rt (Kd.R_mono HO347.out (fun _ hk => ⟨hk.1.1, ⟨hk.1.2, hk.2⟩⟩))), (rt (Kd.R_mono HO352.out (fun _ hk => ⟨hk.1.1.2, ⟨hk.1.2, hk.2⟩⟩))), (rt (Kd.R_mono HO356.out (fun _ hk => ⟨hk.1.1.2, ⟨hk.1.2, hk.2⟩⟩))), (bk BK333), (bk BK343), (bk BK348), (bk BK358), GW358.out, GE358.out, NB333_358.out, NB358_333.out, NB343_358.out, NB358_343.out, NB348_358.out, NB358_348.out, (bls HB)⟩)
   ·skip
    refine box_step ?hg (N := 9) ?hd (cs := #[.bool false, .slice none 0 0]) (t := 24) ?hr ?_; (case hd => rfl); (case hg => rfl); (case hr => first | (go_simp; done) | (go_simp; rfl))
    intro gb358 hg w29 hbox hb
    replace HO342 := Az (Kd.R_below (rk HO342) hb)
    replace HO347 := Az (Kd.R_below (rk HO347) hb)
    have BK358 := Az (hbox)
    have GW358 := gw (bls HB) hg
    have GE358 := gw (bls HB) hg
    replace HB := bs HB hb
    have NB333_358 := nl BK333 hg
    have NB358_333 := ng BK333 hg
    replace BK333 := kb BK333 hb
    have NB343_358 := nl BK343 hg
    have NB358_343 := ng BK343 hg
    replace BK343 := kb BK343 hb
    have NB348_358 := nl BK348 hg
    have NB358_348 := ng BK348 hg
    replace BK348 := kb BK348 hb
    refine hK.out _ _ hd (fun hHeld => ?_)
    refine nm ?_
    refine on 2 (some 45) (bm 10 135) HT_.out (fun K hK => ?_)
    refine gs Tryz.func65 #[.int .i64 (wrap64 (t337 - 53))] ?_
    with_reducible refine (o_Of.calls (wrap64 (t337 - 53)) t349 t350 _ A12.out).mono ?_
    rintro e w30 ⟨v351, rfl, ho0, hb⟩
    refine ⟨_, rfl, ?_⟩
    have HO352 := Az (Kd.R_lower (Kd.R_new' (Kd.R_new' ho0 (Kd.R_lt (rk HO342))) (Kd.R_lt (rk HO347))) (below_size (bls HB)))
    replace HO342 := Az (Kd.R_elder' (rk HO342) (Kd.R_base ho0) hb)
    replace HO347 := Az (Kd.R_elder' (rk HO347) (Kd.R_base ho0) hb)
    replace BK333 := kb BK333 hb
    replace BK343 := kb BK343 hb
    replace BK348 := kb BK348 hb
    replace BK358 := kb BK358 hb
    replace HB := bs HB hb
    obtain ⟨Ao31, co31, eo31⟩ := Kd.R_slice HO352.out
    (first | subst eo31 | (injection eo31 with f1_ f2_ f3_; have f4_ := f1_.symm; have f5_ := f3_.symm; clear f1_ f2_ f3_; subst f4_; subst f5_))
    refine hK.out _ _ hd (fun hHeld => ?_)
    refine nm ?_
    refine on 3 (some 46) (bm 10 143) HT_.out (fun K hK => ?_)
    refine gs Tryz.func98 #[.agg #[.bool t344, .slice Ao26 t345.length co26], .agg #[.bool t349, .slice Ao31 t350.length co31]] ?_
    with_reducible refine (o_Pow.calls k t344 _ _ t345 t349 _ _ t350 t353 t354 t357 _ ?side1 (Kd.R_reads' HO347.out).2.1 ?side3 (Kd.R_reads' HO352.out).2.1 A13.out).mono ?_
    (case side1 => exact (Kd.R_reads' HO347.out).2.2)
    (case side3 => exact (Kd.R_reads' HO352.out).2.2)
    rintro e w32 ⟨v355, rfl, ho0, hb⟩
    refine ⟨_, rfl, ?_⟩
    have HO356 := Az (Kd.R_lower (Kd.R_new' (Kd.R_new' (Kd.R_new' ho0 (Kd.R_lt (rk HO342))) (Kd.R_lt (rk HO347))) (Kd.R_lt (rk HO352))) (below_size (bls HB)))
    replace HO342 := Az (Kd.R_elder' (rk HO342) (Kd.R_base ho0) hb)
    replace HO347 := Az (Kd.R_elder' (rk HO347) (Kd.R_base ho0) hb)
    replace HO352 := Az (Kd.R_elder' (rk HO352) (Kd.R_base ho0) hb)
    replace BK333 := kb BK333 hb
    replace BK343 := kb BK343 hb
    replace BK348 := kb BK348 hb
    replace BK358 := kb BK358 hb
    replace HB := bs HB hb
    refine hK.out _ _ hd (fun hHeld => ?_)
    refine nm ?_
    refine pu 4 (some 42) (bm 10 159) HT_.out ?_
    refine pu 5 (some 47) (bm 10 191) HT_.out ?_
    refine pu 6 (some 48) (bm 10 255) HT_.out ?_
    exact norm_ (by simp only [putAll, Act.put, List.setIfInBounds_toArray, List.set_cons_zero, List.set_cons_succ]) (hCont (.slice Ao31 t350.length co31, v355, gb358) _ ⟨hHeld, (rt (Kd.R_mono HO342.out (fun _ hk => ⟨hk.1.1, ⟨hk.1.2, hk.2⟩⟩))), (rt (Kd.R_mono HO347.out (fun _ hk => ⟨hk.1.1, ⟨hk.1.2, hk.2⟩⟩))), (rt (Kd.R_mono HO352.out (fun _ hk => ⟨hk.1.1.2, ⟨hk.1.2, hk.2⟩⟩))), (rt (Kd.R_mono HO356.out (fun _ hk => ⟨hk.1.1.2, ⟨hk.1.2, hk.2⟩⟩))), (bk BK333), (bk BK343), (bk BK348), (bk BK358), GW358.out, GE358.out, NB333_358.out, NB358_333.out, NB343_358.out, NB358_343.out, NB348_358.out, NB358_348.out, (bls HB)⟩)
  rintro ⟨v351, v355, gb358⟩ w33 ⟨hS_, h0_, h1_, h2_, h3_, h4_, h5_, h6_, h7_, h8_, h9_, h10_, h11_, h12_, h13_, h14_, h15_, h16_⟩
  dsimp only at h0_ h1_ h2_ h3_ h4_ h5_ h6_ h7_ h8_ h9_ h10_ h11_ h12_ h13_ h14_ h15_ h16_
  replace HO342 := Az h0_
  replace HO347 := Az h1_
  have HO352 := Az h2_
  have HO356 := Az h3_
  replace BK333 := Az h4_
  replace BK343 := Az h5_
  replace BK348 := Az h6_
  have BK358 := Az h7_
  have GW358 := Az h8_
  have GE358 := Az h9_
  have NB333_358 := Az h10_
  have NB358_333 := Az h11_
  have NB343_358 := Az h12_
  have NB358_343 := Az h13_
  have NB348_358 := Az h14_
  have NB358_348 := Az h15_
  replace HB := Az h16_
  have hHeld : w33.cell? ⟨gb348, 0, none⟩ = some (.bool t344) ∧ w33.cell? ⟨gb348, 1, none⟩ = some (.slice Ao26 t345.length co26) := hS_
  obtain ⟨Ao35, co35, eo35⟩ := Kd.R_slice HO356.out
  (first | subst eo35 | (injection eo35 with f1_ f2_ f3_; have f4_ := f1_.symm; have f5_ := f3_.symm; clear f1_ f2_ f3_; subst f4_; subst f5_))
  refine norm_ (a' := ?_) ?_ ?_
  rotate_left
  ·simp only [putAll, Act.put, List.setIfInBounds_toArray, List.set_cons_zero, List.set_cons_succ]
   rfl
  refine on 8 (none) (bm 10 511) HT_.out (fun K hK => ?_)
  have hs34 : w33.cell? ⟨gb358, 0, none⟩ = some (.bool false) := (blk_cell BK358.out 0).trans rfl
  have hfs34 := blk_frozen BK358.out 0
  have hns34_0 := NB333_358.out
  have hns34_1 := NB343_358.out
  have hns34_2 := NB348_358.out
  have hms34_0 := NB358_333.out
  have hms34_1 := NB358_343.out
  have hms34_2 := NB358_348.out
  have hs36 : w33.cell? ⟨gb358, 1, none⟩ = some (.slice none 0 0) := (blk_cell BK358.out 1).trans rfl
  have hfs36 := blk_frozen BK358.out 1
  have hns36_0 := NB333_358.out
  have hns36_1 := NB343_358.out
  have hns36_2 := NB348_358.out
  have hms36_0 := NB358_333.out
  have hms36_1 := NB358_343.out
  have hms36_2 := NB358_348.out
  refine skip_ (w1 := ?_) (by rfl) rfl ?_ ?_
  rotate_left
  ·go_simp
   rfl
  refine hK.out _ _ ⟨((cell_far (p := ⟨gb358, _, none⟩) NB348_358.out _).trans (((cell_far (p := ⟨gb358, _, none⟩) NB348_358.out _).trans (hHeld.1)))), ((cell_far (p := ⟨gb358, _, none⟩) NB348_358.out _).trans (((cell_far (p := ⟨gb358, _, none⟩) NB348_358.out _).trans (hHeld.2))))⟩ (fun hHeld => ?_)
  refine pu 9 (some 10) (bm 10 1023) HT_.out ?_
  refine done_ (done_of HT_.out (by kernel_rfl)) ?_
  have hnb37 := NB343_358.out
  have hnc37 := NB358_343.out
  have hz38_1 := bz BK343
  have hnb39 := NB358_333.out
  have hnc39 := NB333_358.out
  have hnb40 := NB358_348.out
  have hnc40 := NB348_358.out
  have hz41_1 := bz BK358
  try go_wp2_with (first | (refine gl (some 52) Tryz.func97 #[.agg #[.bool t339, .slice Ao20 t340.length co20], .agg #[.bool t353, .slice Ao35 t354.length co35]] ?_; (with_reducible refine (o_Mul.calls k t339 _ _ t340 t353 _ _ t354 t359 t360 t363 _ ?side1 ?side2 ?side3 ?side4 A14.out).mono ?_); (case side1 => refine (Kd.R_reads' (e := 25) (base := w.heap.size) (ok := fun k_ => (some k_ ≠ (.slice Ao26 t345.length co26 : Value).ownBlock ∧ (some k_ ≠ (v351 : Value).ownBlock ∧ some k_ ≠ (.slice Ao35 t354.length co35 : Value).ownBlock))) (n := t340.length) (c := co20) ?_).2.2; exact (rt ((Kd.R_mono (Kd.R_far (p := ⟨gb358, 1, none⟩) (Kd.R_far (p := ⟨gb358, 0, none⟩) (Kd.R_types HO342.out BK358.out (by decide)) (fun _ hk => hk.2) (.bool t353)) (fun _ hk => hk.2) (.slice Ao35 t354.length co35)) (fun _ h_ => h_.1))))); (case side2 => exact (Kd.R_reads' HO342.out).2.1); (case side3 => refine (Kd.R_reads' (e := 25) (base := w.heap.size) (ok := fun k_ => (some k_ ≠ (.slice Ao20 t340.length co20 : Value).ownBlock ∧ (some k_ ≠ (.slice Ao26 t345.length co26 : Value).ownBlock ∧ some k_ ≠ (v351 : Value).ownBlock))) (n := t354.length) (c := co35) ?_).2.2; exact (rt ((Kd.R_mono (Kd.R_far (p := ⟨gb358, 1, none⟩) (Kd.R_far (p := ⟨gb358, 0, none⟩) (Kd.R_types HO356.out BK358.out (by decide)) (fun _ hk => hk.2) (.bool t353)) (fun _ hk => hk.2) (.slice Ao35 t354.length co35)) (fun _ h_ => h_.1))))); (case side4 => exact (Kd.R_reads' HO356.out).2.1); rintro e w42 ⟨v361, rfl, ho0, hb⟩; refine ⟨_, rfl, ?_⟩; have HO362 := Az (Kd.R_lower (Kd.R_new' (Kd.R_new' (Kd.R_new' (Kd.R_new' ho0 (Kd.R_lt (rt ((Kd.R_mono (Kd.R_far (p := ⟨gb358, 1, none⟩) (Kd.R_far (p := ⟨gb358, 0, none⟩) (Kd.R_types HO342.out BK358.out (by decide)) (fun _ hk => hk.2) (.bool t353)) (fun _ hk => hk.2) (.slice Ao35 t354.length co35)) (fun _ h_ => h_.1)))))) (Kd.R_lt (rt ((Kd.R_mono (Kd.R_far (p := ⟨gb358, 1, none⟩) (Kd.R_far (p := ⟨gb358, 0, none⟩) (Kd.R_types HO347.out BK358.out (by decide)) (fun _ hk => hk.2) (.bool t353)) (fun _ hk => hk.2) (.slice Ao35 t354.length co35)) (fun _ h_ => h_.1)))))) (Kd.R_lt (rt ((Kd.R_mono (Kd.R_far (p := ⟨gb358, 1, none⟩) (Kd.R_far (p := ⟨gb358, 0, none⟩) (Kd.R_types HO352.out BK358.out (by decide)) (fun _ hk => hk.2) (.bool t353)) (fun _ hk => hk.2) (.slice Ao35 t354.length co35)) (fun _ h_ => h_.1)))))) (Kd.R_lt (rt ((Kd.R_mono (Kd.R_far (p := ⟨gb358, 1, none⟩) (Kd.R_far (p := ⟨gb358, 0, none⟩) (Kd.R_types HO356.out BK358.out (by decide)) (fun _ hk => hk.2) (.bool t353)) (fun _ hk => hk.2) (.slice Ao35 t354.length co35)) (fun _ h_ => h_.1)))))) (below_size (bls HB))); replace HO342 := Az (Kd.R_elder' (rt ((Kd.R_mono (Kd.R_far (p := ⟨gb358, 1, none⟩) (Kd.R_far (p := ⟨gb358, 0, none⟩) (Kd.R_types HO342.out BK358.out (by decide)) (fun _ hk => hk.2) (.bool t353)) (fun _ hk => hk.2) (.slice Ao35 t354.length co35)) (fun _ h_ => h_.1)))) (Kd.R_base ho0) hb); replace HO347 := Az (Kd.R_elder' (rt ((Kd.R_mono (Kd.R_far (p := ⟨gb358, 1, none⟩) (Kd.R_far (p := ⟨gb358, 0, none⟩) (Kd.R_types HO347.out BK358.out (by decide)) (fun _ hk => hk.2) (.bool t353)) (fun _ hk => hk.2) (.slice Ao35 t354.length co35)) (fun _ h_ => h_.1)))) (Kd.R_base ho0) hb); replace HO352 := Az (Kd.R_elder' (rt ((Kd.R_mono (Kd.R_far (p := ⟨gb358, 1, none⟩) (Kd.R_far (p := ⟨gb358, 0, none⟩) (Kd.R_types HO352.out BK358.out (by decide)) (fun _ hk => hk.2) (.bool t353)) (fun _ hk => hk.2) (.slice Ao35 t354.length co35)) (fun _ h_ => h_.1)))) (Kd.R_base ho0) hb); replace HO356 := Az (Kd.R_elder' (rt ((Kd.R_mono (Kd.R_far (p := ⟨gb358, 1, none⟩) (Kd.R_far (p := ⟨gb358, 0, none⟩) (Kd.R_types HO356.out BK358.out (by decide)) (fun _ hk => hk.2) (.bool t353)) (fun _ hk => hk.2) (.slice Ao35 t354.length co35)) (fun _ h_ => h_.1)))) (Kd.R_base ho0) hb); replace BK333 := Az (blk_below (g := gb333) (o := .cells #[.bool false, .slice none 0 0] 24 (0, 0)) (by refine blk_far ?_ NB333_358.out _; refine blk_far ?_ NB333_358.out _; exact BK333.out) hb); replace BK343 := Az (blk_below (g := gb343) (o := .cells #[.bool t339, .slice Ao20 t340.length co20] 24 (0, 0)) (by refine blk_far ?_ NB343_358.out _; refine blk_far ?_ NB343_358.out _; exact BK343.out) hb); replace BK348 := Az (blk_below (g := gb348) (o := .cells #[.bool t344, .slice Ao26 t345.length co26] 24 (0, 0)) (by refine blk_far ?_ NB348_358.out _; refine blk_far ?_ NB348_358.out _; exact BK348.out) hb); replace BK358 := Az (blk_below (g := gb358) (o := .cells #[.bool t353, .slice Ao35 t354.length co35] 24 (0, 0)) (by refine blk_put (cs := #[.bool t353, .slice none 0 0]) ?_ 1 _ rfl; refine blk_put (cs := #[.bool false, .slice none 0 0]) ?_ 0 _ rfl; exact BK358.out) hb); replace HB := bs HB hb; have hz43_1 := bz BK343; obtain ⟨Ao44, co44, eo44⟩ := Kd.R_slice HO362.out; subst eo44; have hz45_1 := bz BK333))
  refine bodyPost_ret (results_ct rfl _ _ gb333 24 #[.bool t359, .slice Ao44 t360.length co44] (0, 0) _ rfl (by refine blk_put (cs := #[.bool t359, .slice none 0 0]) ?_ 1 _ rfl; refine blk_put (cs := #[.bool false, .slice none 0 0]) ?_ 0 _ rfl; refine blk_far ?_ NB333_343.out _; refine blk_far ?_ NB333_343.out _; exact BK333.out) Tryz.underlying24 rfl (by kernel_rfl)) rfl ?_
  exact ⟨_, fe, rt (Kd.R_mono (Kd.R_far (p := ⟨gb333, 1, none⟩) (Kd.R_far (p := ⟨gb333, 0, none⟩) (Kd.R_far (p := ⟨gb343, 1, none⟩) (Kd.R_far (p := ⟨gb343, 0, none⟩) (Kd.R_types (Kd.R_types HO362.out BK343.out (by decide)) BK333.out (by decide)) (fun _ hk => hk.1.2) (.bool t359)) (fun _ hk => hk.1.2) (.slice Ao44 t360.length co44)) (fun _ hk => hk.2) (.bool t359)) (fun _ hk => hk.2) (.slice Ao44 t360.length co44)) (fun _ hk => trivial)), bls HB⟩
 rw [if_neg c11] at H
 by_cases c46 : (wrap64 (t337 - 53)) < (-60)
 ·rw [if_pos c46] at H
  exact absurd H (by simp)
 rw [if_neg c46] at H
 obtain ⟨⟨t364, t365⟩, A47, H⟩ := bd H
 obtain ⟨⟨t368, t369, t372⟩, A48, H⟩ := bd H
 obtain ⟨⟨t374, t375, t378, t379, t382⟩, A49, H⟩ := bd H
 simp only [Option.some.injEq, Prod.mk.injEq] at H
 obtain ⟨rfl, rfl, rfl⟩ := H
 go_enter Tryz.func78, Tryz.ntmps78
 try go_wp2_with (first | (refine be 2 #[.bool false, .slice none 0 0] 24 ?_; intro gb333 hg w50 hbox hb; have BK333 := Az (hbox); have GW333 := gw (bl HB) hg; replace HB := bs HB hb; clear hb hbox hg) | (refine gl (some 25) Tryz.func58 #[.float .f64 (Int.toNat a0), .int .i64 0] ?_; (with_reducible refine (m_IsInf.calls (Int.toNat a0) 0 false _ A3.out).mono ?_); rintro e w50 ⟨rfl, hb⟩; replace hb := dr hb; refine ⟨_, rfl, ?_⟩; replace BK333 := kb BK333 hb; replace HB := bs HB hb; clear hb; have hz333_ := bz BK333) | (refine gl (some 29) Tryz.func79 #[.float .f64 (Int.toNat a0)] ?_; (with_reducible refine (m_Trunc.calls (Int.toNat a0) t335 _ A5.out).mono ?_); rintro e w50 ⟨rfl, hb⟩; replace hb := dr hb; refine ⟨_, rfl, ?_⟩; replace BK333 := kb BK333 hb; replace HB := bs HB hb; clear hb; have hz333_ := bz BK333) | (refine gl (some 30) Tryz.func59 #[.float .f64 t335] ?_; (with_reducible refine (m_Frexp.calls t335 t336 t337 _ A6.out).mono ?_); rintro e w50 ⟨rfl, hb⟩; replace hb := dr hb; refine ⟨_, rfl, ?_⟩; replace BK333 := kb BK333 hb; replace HB := bs HB hb; clear hb; have hz333_ := bz BK333) | (refine gl (some 34) Tryz.func61 #[.float .f64 t336, .int .i64 53] ?_; (with_reducible refine (m_Ldexp.calls t336 53 t338 _ A7.out).mono ?_); rintro e w50 ⟨rfl, hb⟩; replace hb := dr hb; refine ⟨_, rfl, ?_⟩; replace BK333 := kb BK333 hb; replace HB := bs HB hb; clear hb; have hz333_ := bz BK333) | (refine gl (some 36) Tryz.func65 #[.int .i64 (f2i t338)] ?_; (with_reducible refine (o_Of.calls (f2i t338) t339 t340 _ A9.out).mono ?_); rintro e w51 ⟨v341, rfl, ho0, hb⟩; refine ⟨_, rfl, ?_⟩; have HO342 := Az (Kd.R_lower ho0 (below_size (bls HB))); replace BK333 := kb BK333 hb; replace HB := bs HB hb) | (refine be 7 #[.bool false, .slice none 0 0] 24 ?_; intro gb343 hg w52 hbox hb; replace HO342 := Az (Kd.R_below (rk HO342) hb); have BK343 := Az (hbox); have GW343 := gw (bls HB) hg; replace HB := bs HB hb; have NB333_343 := nl BK333 hg; have NB343_333 := ng BK333 hg; replace BK333 := kb BK333 hb; clear hb hbox hg; have hnb53 := NB343_333.out; have hnc53 := NB333_343.out; have hz54_1 := bz BK343; obtain ⟨Ao55, co55, eo55⟩ := Kd.R_slice HO342.out; subst eo55) | (refine gl (some 37) Tryz.func65 #[.int .i64 2] ?_; (with_reducible refine (o_Of.calls 2 t344 t345 _ A10.out).mono ?_); rintro e w56 ⟨v346, rfl, ho0, hb⟩; refine ⟨_, rfl, ?_⟩; have HO347 := Az (Kd.R_lower (Kd.R_new' ho0 (Kd.R_lt (rt ((Kd.R_mono (Kd.R_far (p := ⟨gb343, 1, none⟩) (Kd.R_far (p := ⟨gb343, 0, none⟩) (Kd.R_types HO342.out BK343.out (by decide)) (fun _ hk => hk.2) (.bool t339)) (fun _ hk => hk.2) (.slice Ao55 t340.length co55)) (fun _ h_ => h_.1)))))) (below_size (bls HB))); replace HO342 := Az (Kd.R_elder' (rt ((Kd.R_mono (Kd.R_far (p := ⟨gb343, 1, none⟩) (Kd.R_far (p := ⟨gb343, 0, none⟩) (Kd.R_types HO342.out BK343.out (by decide)) (fun _ hk => hk.2) (.bool t339)) (fun _ hk => hk.2) (.slice Ao55 t340.length co55)) (fun _ h_ => h_.1)))) (Kd.R_base ho0) hb); replace BK333 := Az (blk_below (g := gb333) (o := .cells #[.bool false, .slice none 0 0] 24 (0, 0)) (by refine blk_far ?_ NB333_343.out _; refine blk_far ?_ NB333_343.out _; exact BK333.out) hb); replace BK343 := Az (blk_below (g := gb343) (o := .cells #[.bool t339, .slice Ao55 t340.length co55] 24 (0, 0)) (by refine blk_put (cs := #[.bool t339, .slice none 0 0]) ?_ 1 _ rfl; refine blk_put (cs := #[.bool false, .slice none 0 0]) ?_ 0 _ rfl; exact BK343.out) hb); replace HB := bs HB hb) | (refine be 8 #[.bool false, .slice none 0 0] 24 ?_; intro gb348 hg w57 hbox hb; replace HO342 := Az (Kd.R_below (rk HO342) hb); replace HO347 := Az (Kd.R_below (rk HO347) hb); have BK348 := Az (hbox); have GW348 := gw (bls HB) hg; replace HB := bs HB hb; have NB333_348 := nl BK333 hg; have NB348_333 := ng BK333 hg; replace BK333 := kb BK333 hb; have NB343_348 := nl BK343 hg; have NB348_343 := ng BK343 hg; replace BK343 := kb BK343 hb; clear hb hbox hg; have hnb58 := NB348_333.out; have hnc58 := NB333_348.out; have hnb59 := NB348_343.out; have hnc59 := NB343_348.out; have hz60_1 := bz BK348; obtain ⟨Ao61, co61, eo61⟩ := Kd.R_slice HO347.out; subst eo61))
 have n_ : (fun W_ : World => Aside0 (Kd.R (Kd.int .u64) 25 W_ w.heap.size (fun k_ => some k_ ≠ (.slice Ao61 t345.length co61 : Value).ownBlock) (.slice Ao55 t340.length co55) t340) ∧ Aside0 (Kd.R (Kd.int .u64) 25 W_ w.heap.size (fun k_ => some k_ ≠ (.slice Ao55 t340.length co55 : Value).ownBlock) (.slice Ao61 t345.length co61) t345) ∧ Aside0 (W_.heap[gb333]? = some (.cells #[.bool false, .slice none 0 0] 24 (0, 0))) ∧ Aside0 (W_.heap[gb343]? = some (.cells #[.bool t339, .slice Ao55 t340.length co55] 24 (0, 0))) ∧ Aside0 (W_.heap[gb348]? = some (.cells #[.bool t344, .slice Ao61 t345.length co61] 24 (0, 0))) ∧ Aside0 (Below w.heap.size w W_)) ((w57.setCell ⟨gb348, 0, none⟩ (.bool t344)).setCell ⟨gb348, 1, none⟩ (.slice Ao61 t345.length co61)) := ⟨⟨rt (Kd.R_mono (Kd.R_far (p := ⟨gb348, 1, none⟩) (Kd.R_far (p := ⟨gb348, 0, none⟩) (Kd.R_types HO342.out BK348.out (by decide)) (fun _ hk => hk.2) (.bool t344)) (fun _ hk => hk.2) (.slice Ao61 t345.length co61)) (fun _ hk => hk.1.2))⟩, ⟨rt (Kd.R_mono (Kd.R_far (p := ⟨gb348, 1, none⟩) (Kd.R_far (p := ⟨gb348, 0, none⟩) (Kd.R_types HO347.out BK348.out (by decide)) (fun _ hk => hk.2) (.bool t344)) (fun _ hk => hk.2) (.slice Ao61 t345.length co61)) (fun _ hk => hk.1.2))⟩, ⟨by refine blk_far ?_ NB333_348.out _; refine blk_far ?_ NB333_348.out _; exact BK333.out⟩, ⟨by refine blk_far ?_ NB343_348.out _; refine blk_far ?_ NB343_348.out _; exact BK343.out⟩, ⟨by refine blk_put (cs := #[.bool t344, .slice none 0 0]) ?_ 1 _ rfl; refine blk_put (cs := #[.bool false, .slice none 0 0]) ?_ 0 _ rfl; exact BK348.out⟩, ⟨bls HB⟩⟩
 obtain ⟨n0_, n1_, n2_, n3_, n4_, n5_⟩ := n_
 generalize ((w57.setCell ⟨gb348, 0, none⟩ (.bool t344)).setCell ⟨gb348, 1, none⟩ (.slice Ao61 t345.length co61)) = w62 at n0_ n1_ n2_ n3_ n4_ n5_ ⊢
 have HO342 := n0_
 have HO347 := n1_
 have BK333 := n2_
 have BK343 := n3_
 have BK348 := n4_
 have HB := n5_
 replace HO342 := Az (Kd.R_drew HO342.out)
 replace HO347 := Az (Kd.R_drew HO347.out)
 replace BK333 := Az (blk_drew BK333.out)
 replace BK343 := Az (blk_drew BK343.out)
 replace BK348 := Az (blk_drew BK348.out)
 replace HB := Az (below_drew1 HB.out)
 refine start_ (n := 11) (S := fun w' => w'.cell? ⟨gb348, 0, none⟩ = some (.bool t344) ∧ w'.cell? ⟨gb348, 1, none⟩ = some (.slice Ao61 t345.length co61)) (ds := []) (bm 11 0) (by kernel_rfl) rfl rfl ⟨(blk_cell BK348.out 0).trans rfl, (blk_cell BK348.out 1).trans rfl⟩ (fun hHeld => ?_); refine with_tabW e_Whole.tab16 e_Whole.bits16 (fun HT_ HW_ => ?_)
 generalize w62.drew = w63 at HO342 HO347 BK333 BK343 BK348 HB hHeld ⊢
 refine pu 1 (some 61) (bm 11 2) HT_.out ?_
 refine pu 2 (some 62) (bm 11 6) HT_.out ?_
 refine tk 0 (some 60) (bm 11 7) HT_.out HW_.out hHeld ?_
 refine join_ (σ := Value × Value × Nat) 2 (bm 11 511) (fun s_ => [(63, .agg #[.bool t364, s_.1]), (64, .tuple #[.agg #[.bool t368, s_.2.1], .int .i64 t372]), (11, .pointer (some ⟨s_.2.2, 0, none⟩)), (59, .tuple #[.agg #[.bool t368, s_.2.1], .int .i64 t372]), (65, .agg #[.bool t368, s_.2.1]), (66, .int .i64 t372)]) (fun s_ w' => (w'.cell? ⟨gb348, 0, none⟩ = some (.bool t344) ∧ w'.cell? ⟨gb348, 1, none⟩ = some (.slice Ao61 t345.length co61)) ∧ (Kd.R (Kd.int .u64) 25 w' w.heap.size (fun k_ => some k_ ≠ (.slice Ao61 t345.length co61 : Value).ownBlock ∧ some k_ ≠ (s_.1 : Value).ownBlock ∧ some k_ ≠ (s_.2.1 : Value).ownBlock) (.slice Ao55 t340.length co55) t340) ∧ (Kd.R (Kd.int .u64) 25 w' w.heap.size (fun k_ => some k_ ≠ (.slice Ao55 t340.length co55 : Value).ownBlock ∧ some k_ ≠ (s_.1 : Value).ownBlock ∧ some k_ ≠ (s_.2.1 : Value).ownBlock) (.slice Ao61 t345.length co61) t345) ∧ (Kd.R (Kd.int .u64) 25 w' w.heap.size (fun k_ => some k_ ≠ (.slice Ao55 t340.length co55 : Value).ownBlock ∧ some k_ ≠ (.slice Ao61 t345.length co61 : Value).ownBlock ∧ some k_ ≠ (s_.2.1 : Value).ownBlock) s_.1 t365) ∧ (Kd.R (Kd.int .u64) 25 w' w.heap.size (fun k_ => some k_ ≠ (.slice Ao55 t340.length co55 : Value).ownBlock ∧ some k_ ≠ (.slice Ao61 t345.length co61 : Value).ownBlock ∧ some k_ ≠ (s_.1 : Value).ownBlock) s_.2.1 t369) ∧ (w'.heap[gb333]? = some (.cells #[.bool false, .slice none 0 0] 24 (0, 0))) ∧ (w'.heap[gb343]? = some (.cells #[.bool t339, .slice Ao55 t340.length co55] 24 (0, 0))) ∧ (w'.heap[gb348]? = some (.cells #[.bool t344, .slice Ao61 t345.length co61] 24 (0, 0))) ∧ (w'.heap[s_.2.2]? = some (.cells #[.bool false, .slice none 0 0] 24 (0, 0))) ∧ (w.heap.size ≤ s_.2.2) ∧ (w.heap.size ≤ s_.2.2) ∧ (gb333 ≠ s_.2.2) ∧ (s_.2.2 ≠ gb333) ∧ (gb343 ≠ s_.2.2) ∧ (s_.2.2 ≠ gb343) ∧ (gb348 ≠ s_.2.2) ∧ (s_.2.2 ≠ gb348) ∧ (Below w.heap.size w w')) ?_ ?_
 rotate_left
 ·intro hCont
  refine two_ (i := 3) (j := 8) (Ni := some 63) (Nj := some 11) (bm 11 15) (bm 11 263) rfl rfl rfl rfl (two_of HT_.out (by kernel_rfl)) (by decide) (by decide) (fun K hK => ?_) (fun K hK => ?_)
  ·skip
   refine gs Tryz.func65 #[.int .i64 (wrap64 (-(wrap64 (t337 - 53))))] ?_
   with_reducible refine (o_Of.calls (wrap64 (-(wrap64 (t337 - 53)))) t364 t365 _ A47.out).mono ?_
   rintro e w64 ⟨v366, rfl, ho0, hb⟩
   refine ⟨_, rfl, ?_⟩
   have HO367 := Az (Kd.R_lower (Kd.R_new' (Kd.R_new' ho0 (Kd.R_lt (rk HO342))) (Kd.R_lt (rk HO347))) (below_size (bls HB)))
   replace HO342 := Az (Kd.R_elder' (rk HO342) (Kd.R_base ho0) hb)
   replace HO347 := Az (Kd.R_elder' (rk HO347) (Kd.R_base ho0) hb)
   replace BK333 := kb BK333 hb
   replace BK343 := kb BK343 hb
   replace BK348 := kb BK348 hb
   replace HB := bs HB hb
   obtain ⟨Ao65, co65, eo65⟩ := Kd.R_slice HO367.out
   (first | subst eo65 | (injection eo65 with f1_ f2_ f3_; have f4_ := f1_.symm; have f5_ := f3_.symm; clear f1_ f2_ f3_; subst f4_; subst f5_))
   refine hK.out _ _ hd (fun hHeld => ?_)
   refine nm ?_
   refine two_ (i := 4) (j := 8) (Ni := some 64) (Nj := some 11) (bm 11 31) (bm 11 271) rfl rfl rfl rfl (two_of HT_.out (by kernel_rfl)) (by decide) (by decide) (fun K hK => ?_) (fun K hK => ?_)
   ·skip
    refine gs Tryz.func98 #[.agg #[.bool t344, .slice Ao61 t345.length co61], .agg #[.bool t364, .slice Ao65 t365.length co65]] ?_
    with_reducible refine (o_Pow.calls k t344 _ _ t345 t364 _ _ t365 t368 t369 t372 _ ?side1 (Kd.R_reads' HO347.out).2.1 ?side3 (Kd.R_reads' HO367.out).2.1 A48.out).mono ?_
    (case side1 => exact (Kd.R_reads' HO347.out).2.2)
    (case side3 => exact (Kd.R_reads' HO367.out).2.2)
    rintro e w66 ⟨v370, rfl, ho0, hb⟩
    refine ⟨_, rfl, ?_⟩
    have HO371 := Az (Kd.R_lower (Kd.R_new' (Kd.R_new' (Kd.R_new' ho0 (Kd.R_lt (rk HO342))) (Kd.R_lt (rk HO347))) (Kd.R_lt (rk HO367))) (below_size (bls HB)))
    replace HO342 := Az (Kd.R_elder' (rk HO342) (Kd.R_base ho0) hb)
    replace HO347 := Az (Kd.R_elder' (rk HO347) (Kd.R_base ho0) hb)
    replace HO367 := Az (Kd.R_elder' (rk HO367) (Kd.R_base ho0) hb)
    replace BK333 := kb BK333 hb
    replace BK343 := kb BK343 hb
    replace BK348 := kb BK348 hb
    replace HB := bs HB hb
    refine hK.out _ _ hd (fun hHeld => ?_)
    refine nm ?_
    refine pu 5 (some 59) (bm 11 63) HT_.out ?_
    refine pu 6 (some 65) (bm 11 127) HT_.out ?_
    refine pu 7 (some 66) (bm 11 255) HT_.out ?_
    refine on 8 (some 11) (bm 11 511) HT_.out (fun K hK => ?_)
    refine box_step ?hg (N := 11) ?hd (cs := #[.bool false, .slice none 0 0]) (t := 24) ?hr ?_; (case hd => rfl); (case hg => rfl); (case hr => first | (go_simp; done) | (go_simp; rfl))
    intro gb373 hg w67 hbox hb
    replace HO342 := Az (Kd.R_below (rk HO342) hb)
    replace HO347 := Az (Kd.R_below (rk HO347) hb)
    replace HO367 := Az (Kd.R_below (rk HO367) hb)
    replace HO371 := Az (Kd.R_below (rk HO371) hb)
    have BK373 := Az (hbox)
    have GW373 := gw (bls HB) hg
    have GE373 := gw (bls HB) hg
    replace HB := bs HB hb
    have NB333_373 := nl BK333 hg
    have NB373_333 := ng BK333 hg
    replace BK333 := kb BK333 hb
    have NB343_373 := nl BK343 hg
    have NB373_343 := ng BK343 hg
    replace BK343 := kb BK343 hb
    have NB348_373 := nl BK348 hg
    have NB373_348 := ng BK348 hg
    replace BK348 := kb BK348 hb
    refine hK.out _ _ hd (fun hHeld => ?_)
    refine nm ?_
    exact norm_ (by simp only [putAll, Act.put, List.setIfInBounds_toArray, List.set_cons_zero, List.set_cons_succ]) (hCont (.slice Ao65 t365.length co65, v370, gb373) _ ⟨hHeld, (rt (Kd.R_mono HO342.out (fun _ hk => ⟨hk.1.1, ⟨hk.1.2, hk.2⟩⟩))), (rt (Kd.R_mono HO347.out (fun _ hk => ⟨hk.1.1, ⟨hk.1.2, hk.2⟩⟩))), (rt (Kd.R_mono HO367.out (fun _ hk => ⟨hk.1.1.2, ⟨hk.1.2, hk.2⟩⟩))), (rt (Kd.R_mono HO371.out (fun _ hk => ⟨hk.1.1.2, ⟨hk.1.2, hk.2⟩⟩))), (bk BK333), (bk BK343), (bk BK348), (bk BK373), GW373.out, GE373.out, NB333_373.out, NB373_333.out, NB343_373.out, NB373_343.out, NB348_373.out, NB373_348.out, (bls HB)⟩)
   ·skip
    refine box_step ?hg (N := 11) ?hd (cs := #[.bool false, .slice none 0 0]) (t := 24) ?hr ?_; (case hd => rfl); (case hg => rfl); (case hr => first | (go_simp; done) | (go_simp; rfl))
    intro gb373 hg w65 hbox hb
    replace HO342 := Az (Kd.R_below (rk HO342) hb)
    replace HO347 := Az (Kd.R_below (rk HO347) hb)
    replace HO367 := Az (Kd.R_below (rk HO367) hb)
    have BK373 := Az (hbox)
    have GW373 := gw (bls HB) hg
    have GE373 := gw (bls HB) hg
    replace HB := bs HB hb
    have NB333_373 := nl BK333 hg
    have NB373_333 := ng BK333 hg
    replace BK333 := kb BK333 hb
    have NB343_373 := nl BK343 hg
    have NB373_343 := ng BK343 hg
    replace BK343 := kb BK343 hb
    have NB348_373 := nl BK348 hg
    have NB373_348 := ng BK348 hg
    replace BK348 := kb BK348 hb
    obtain ⟨Ao66, co66, eo66⟩ := Kd.R_slice HO367.out
    (first | subst eo66 | (injection eo66 with f1_ f2_ f3_; have f4_ := f1_.symm; have f5_ := f3_.symm; clear f1_ f2_ f3_; subst f4_; subst f5_))
    refine hK.out _ _ hd (fun hHeld => ?_)
    refine nm ?_
    refine on 4 (some 64) (bm 11 287) HT_.out (fun K hK => ?_)
    refine gs Tryz.func98 #[.agg #[.bool t344, .slice Ao61 t345.length co61], .agg #[.bool t364, .slice Ao66 t365.length co66]] ?_
    with_reducible refine (o_Pow.calls k t344 _ _ t345 t364 _ _ t365 t368 t369 t372 _ ?side1 (Kd.R_reads' HO347.out).2.1 ?side3 (Kd.R_reads' HO367.out).2.1 A48.out).mono ?_
    (case side1 => exact (Kd.R_reads' HO347.out).2.2)
    (case side3 => exact (Kd.R_reads' HO367.out).2.2)
    rintro e w67 ⟨v370, rfl, ho0, hb⟩
    refine ⟨_, rfl, ?_⟩
    have HO371 := Az (Kd.R_lower (Kd.R_new' (Kd.R_new' (Kd.R_new' ho0 (Kd.R_lt (rk HO342))) (Kd.R_lt (rk HO347))) (Kd.R_lt (rk HO367))) (below_size (bls HB)))
    replace HO342 := Az (Kd.R_elder' (rk HO342) (Kd.R_base ho0) hb)
    replace HO347 := Az (Kd.R_elder' (rk HO347) (Kd.R_base ho0) hb)
    replace HO367 := Az (Kd.R_elder' (rk HO367) (Kd.R_base ho0) hb)
    replace BK333 := kb BK333 hb
    replace BK343 := kb BK343 hb
    replace BK348 := kb BK348 hb
    replace BK373 := kb BK373 hb
    replace HB := bs HB hb
    refine hK.out _ _ hd (fun hHeld => ?_)
    refine nm ?_
    refine pu 5 (some 59) (bm 11 319) HT_.out ?_
    refine pu 6 (some 65) (bm 11 383) HT_.out ?_
    refine pu 7 (some 66) (bm 11 511) HT_.out ?_
    exact norm_ (by simp only [putAll, Act.put, List.setIfInBounds_toArray, List.set_cons_zero, List.set_cons_succ]) (hCont (.slice Ao66 t365.length co66, v370, gb373) _ ⟨hHeld, (rt (Kd.R_mono HO342.out (fun _ hk => ⟨hk.1.1, ⟨hk.1.2, hk.2⟩⟩))), (rt (Kd.R_mono HO347.out (fun _ hk => ⟨hk.1.1, ⟨hk.1.2, hk.2⟩⟩))), (rt (Kd.R_mono HO367.out (fun _ hk => ⟨hk.1.1.2, ⟨hk.1.2, hk.2⟩⟩))), (rt (Kd.R_mono HO371.out (fun _ hk => ⟨hk.1.1.2, ⟨hk.1.2, hk.2⟩⟩))), (bk BK333), (bk BK343), (bk BK348), (bk BK373), GW373.out, GE373.out, NB333_373.out, NB373_333.out, NB343_373.out, NB373_343.out, NB348_373.out, NB373_348.out, (bls HB)⟩)
  ·skip
   refine box_step ?hg (N := 11) ?hd (cs := #[.bool false, .slice none 0 0]) (t := 24) ?hr ?_; (case hd => rfl); (case hg => rfl); (case hr => first | (go_simp; done) | (go_simp; rfl))
   intro gb373 hg w64 hbox hb
   replace HO342 := Az (Kd.R_below (rk HO342) hb)
   replace HO347 := Az (Kd.R_below (rk HO347) hb)
   have BK373 := Az (hbox)
   have GW373 := gw (bls HB) hg
   have GE373 := gw (bls HB) hg
   replace HB := bs HB hb
   have NB333_373 := nl BK333 hg
   have NB373_333 := ng BK333 hg
   replace BK333 := kb BK333 hb
   have NB343_373 := nl BK343 hg
   have NB373_343 := ng BK343 hg
   replace BK343 := kb BK343 hb
   have NB348_373 := nl BK348 hg
   have NB373_348 := ng BK348 hg
   replace BK348 := kb BK348 hb
   refine hK.out _ _ hd (fun hHeld => ?_)
   refine nm ?_
   refine on 3 (some 63) (bm 11 271) HT_.out (fun K hK => ?_)
   refine gs Tryz.func65 #[.int .i64 (wrap64 (-(wrap64 (t337 - 53))))] ?_
   with_reducible refine (o_Of.calls (wrap64 (-(wrap64 (t337 - 53)))) t364 t365 _ A47.out).mono ?_
   rintro e w65 ⟨v366, rfl, ho0, hb⟩
   refine ⟨_, rfl, ?_⟩
   have HO367 := Az (Kd.R_lower (Kd.R_new' (Kd.R_new' ho0 (Kd.R_lt (rk HO342))) (Kd.R_lt (rk HO347))) (below_size (bls HB)))
   replace HO342 := Az (Kd.R_elder' (rk HO342) (Kd.R_base ho0) hb)
   replace HO347 := Az (Kd.R_elder' (rk HO347) (Kd.R_base ho0) hb)
   replace BK333 := kb BK333 hb
   replace BK343 := kb BK343 hb
   replace BK348 := kb BK348 hb
   replace BK373 := kb BK373 hb
   replace HB := bs HB hb
   obtain ⟨Ao66, co66, eo66⟩ := Kd.R_slice HO367.out
   (first | subst eo66 | (injection eo66 with f1_ f2_ f3_; have f4_ := f1_.symm; have f5_ := f3_.symm; clear f1_ f2_ f3_; subst f4_; subst f5_))
   refine hK.out _ _ hd (fun hHeld => ?_)
   refine nm ?_
   refine on 4 (some 64) (bm 11 287) HT_.out (fun K hK => ?_)
   refine gs Tryz.func98 #[.agg #[.bool t344, .slice Ao61 t345.length co61], .agg #[.bool t364, .slice Ao66 t365.length co66]] ?_
   with_reducible refine (o_Pow.calls k t344 _ _ t345 t364 _ _ t365 t368 t369 t372 _ ?side1 (Kd.R_reads' HO347.out).2.1 ?side3 (Kd.R_reads' HO367.out).2.1 A48.out).mono ?_
   (case side1 => exact (Kd.R_reads' HO347.out).2.2)
   (case side3 => exact (Kd.R_reads' HO367.out).2.2)
   rintro e w67 ⟨v370, rfl, ho0, hb⟩
   refine ⟨_, rfl, ?_⟩
   have HO371 := Az (Kd.R_lower (Kd.R_new' (Kd.R_new' (Kd.R_new' ho0 (Kd.R_lt (rk HO342))) (Kd.R_lt (rk HO347))) (Kd.R_lt (rk HO367))) (below_size (bls HB)))
   replace HO342 := Az (Kd.R_elder' (rk HO342) (Kd.R_base ho0) hb)
   replace HO347 := Az (Kd.R_elder' (rk HO347) (Kd.R_base ho0) hb)
   replace HO367 := Az (Kd.R_elder' (rk HO367) (Kd.R_base ho0) hb)
   replace BK333 := kb BK333 hb
   replace BK343 := kb BK343 hb
   replace BK348 := kb BK348 hb
   replace BK373 := kb BK373 hb
   replace HB := bs HB hb
   refine hK.out _ _ hd (fun hHeld => ?_)
   refine nm ?_
   refine pu 5 (some 59) (bm 11 319) HT_.out ?_
   refine pu 6 (some 65) (bm 11 383) HT_.out ?_
   refine pu 7 (some 66) (bm 11 511) HT_.out ?_
   exact norm_ (by simp only [putAll, Act.put, List.setIfInBounds_toArray, List.set_cons_zero, List.set_cons_succ]) (hCont (.slice Ao66 t365.length co66, v370, gb373) _ ⟨hHeld, (rt (Kd.R_mono HO342.out (fun _ hk => ⟨hk.1.1, ⟨hk.1.2, hk.2⟩⟩))), (rt (Kd.R_mono HO347.out (fun _ hk => ⟨hk.1.1, ⟨hk.1.2, hk.2⟩⟩))), (rt (Kd.R_mono HO367.out (fun _ hk => ⟨hk.1.1.2, ⟨hk.1.2, hk.2⟩⟩))), (rt (Kd.R_mono HO371.out (fun _ hk => ⟨hk.1.1.2, ⟨hk.1.2, hk.2⟩⟩))), (bk BK333), (bk BK343), (bk BK348), (bk BK373), GW373.out, GE373.out, NB333_373.out, NB373_333.out, NB343_373.out, NB373_343.out, NB348_373.out, NB373_348.out, (bls HB)⟩)
 rintro ⟨v366, v370, gb373⟩ w68 ⟨hS_, h0_, h1_, h2_, h3_, h4_, h5_, h6_, h7_, h8_, h9_, h10_, h11_, h12_, h13_, h14_, h15_, h16_⟩
 dsimp only at h0_ h1_ h2_ h3_ h4_ h5_ h6_ h7_ h8_ h9_ h10_ h11_ h12_ h13_ h14_ h15_ h16_
 replace HO342 := Az h0_
 replace HO347 := Az h1_
 have HO367 := Az h2_
 have HO371 := Az h3_
 replace BK333 := Az h4_
 replace BK343 := Az h5_
 replace BK348 := Az h6_
 have BK373 := Az h7_
 have GW373 := Az h8_
 have GE373 := Az h9_
 have NB333_373 := Az h10_
 have NB373_333 := Az h11_
 have NB343_373 := Az h12_
 have NB373_343 := Az h13_
 have NB348_373 := Az h14_
 have NB373_348 := Az h15_
 replace HB := Az h16_
 have hHeld : w68.cell? ⟨gb348, 0, none⟩ = some (.bool t344) ∧ w68.cell? ⟨gb348, 1, none⟩ = some (.slice Ao61 t345.length co61) := hS_
 obtain ⟨Ao70, co70, eo70⟩ := Kd.R_slice HO371.out
 (first | subst eo70 | (injection eo70 with f1_ f2_ f3_; have f4_ := f1_.symm; have f5_ := f3_.symm; clear f1_ f2_ f3_; subst f4_; subst f5_))
 refine norm_ (a' := ?_) ?_ ?_
 rotate_left
 ·simp only [putAll, Act.put, List.setIfInBounds_toArray, List.set_cons_zero, List.set_cons_succ]
  rfl
 refine on 9 (none) (bm 11 1023) HT_.out (fun K hK => ?_)
 have hs69 : w68.cell? ⟨gb373, 0, none⟩ = some (.bool false) := (blk_cell BK373.out 0).trans rfl
 have hfs69 := blk_frozen BK373.out 0
 have hns69_0 := NB333_373.out
 have hns69_1 := NB343_373.out
 have hns69_2 := NB348_373.out
 have hms69_0 := NB373_333.out
 have hms69_1 := NB373_343.out
 have hms69_2 := NB373_348.out
 have hs71 : w68.cell? ⟨gb373, 1, none⟩ = some (.slice none 0 0) := (blk_cell BK373.out 1).trans rfl
 have hfs71 := blk_frozen BK373.out 1
 have hns71_0 := NB333_373.out
 have hns71_1 := NB343_373.out
 have hns71_2 := NB348_373.out
 have hms71_0 := NB373_333.out
 have hms71_1 := NB373_343.out
 have hms71_2 := NB373_348.out
 refine skip_ (w1 := ?_) (by rfl) rfl ?_ ?_
 rotate_left
 ·go_simp
  rfl
 refine hK.out _ _ ⟨((cell_far (p := ⟨gb373, _, none⟩) NB348_373.out _).trans (((cell_far (p := ⟨gb373, _, none⟩) NB348_373.out _).trans (hHeld.1)))), ((cell_far (p := ⟨gb373, _, none⟩) NB348_373.out _).trans (((cell_far (p := ⟨gb373, _, none⟩) NB348_373.out _).trans (hHeld.2))))⟩ (fun hHeld => ?_)
 refine pu 10 (some 12) (bm 11 2047) HT_.out ?_
 refine done_ (done_of HT_.out (by kernel_rfl)) ?_
 have hnb72 := NB343_373.out
 have hnc72 := NB373_343.out
 have hz73_1 := bz BK343
 have hnb74 := NB373_333.out
 have hnc74 := NB333_373.out
 have hnb75 := NB373_348.out
 have hnc75 := NB348_373.out
 have hz76_1 := bz BK373
 try go_wp2_with (first | (refine gl (some 70) Tryz.func99 #[.agg #[.bool t339, .slice Ao55 t340.length co55], .agg #[.bool t368, .slice Ao70 t369.length co70]] ?_; (with_reducible refine (o_DivMod.calls k t339 _ _ t340 t368 _ _ t369 t374 t375 t378 t379 t382 _ ?side1 ?side2 ?side3 ?side4 A49.out).mono ?_); (case side1 => refine (Kd.R_reads' (e := 25) (base := w.heap.size) (ok := fun k_ => (some k_ ≠ (.slice Ao61 t345.length co61 : Value).ownBlock ∧ (some k_ ≠ (v366 : Value).ownBlock ∧ some k_ ≠ (.slice Ao70 t369.length co70 : Value).ownBlock))) (n := t340.length) (c := co55) ?_).2.2; exact (rt ((Kd.R_mono (Kd.R_far (p := ⟨gb373, 1, none⟩) (Kd.R_far (p := ⟨gb373, 0, none⟩) (Kd.R_types HO342.out BK373.out (by decide)) (fun _ hk => hk.2) (.bool t368)) (fun _ hk => hk.2) (.slice Ao70 t369.length co70)) (fun _ h_ => h_.1))))); (case side2 => exact (Kd.R_reads' HO342.out).2.1); (case side3 => refine (Kd.R_reads' (e := 25) (base := w.heap.size) (ok := fun k_ => (some k_ ≠ (.slice Ao55 t340.length co55 : Value).ownBlock ∧ (some k_ ≠ (.slice Ao61 t345.length co61 : Value).ownBlock ∧ some k_ ≠ (v366 : Value).ownBlock))) (n := t369.length) (c := co70) ?_).2.2; exact (rt ((Kd.R_mono (Kd.R_far (p := ⟨gb373, 1, none⟩) (Kd.R_far (p := ⟨gb373, 0, none⟩) (Kd.R_types HO371.out BK373.out (by decide)) (fun _ hk => hk.2) (.bool t368)) (fun _ hk => hk.2) (.slice Ao70 t369.length co70)) (fun _ h_ => h_.1))))); (case side4 => exact (Kd.R_reads' HO371.out).2.1); rintro e w77 ⟨v376, v380, rfl, ho0, ho1, hb⟩; refine ⟨_, rfl, ?_⟩; have HO377 := Az (Kd.R_lower (Kd.R_new' (Kd.R_new' (Kd.R_new' (Kd.R_new' ho0 (Kd.R_lt (rt ((Kd.R_mono (Kd.R_far (p := ⟨gb373, 1, none⟩) (Kd.R_far (p := ⟨gb373, 0, none⟩) (Kd.R_types HO342.out BK373.out (by decide)) (fun _ hk => hk.2) (.bool t368)) (fun _ hk => hk.2) (.slice Ao70 t369.length co70)) (fun _ h_ => h_.1)))))) (Kd.R_lt (rt ((Kd.R_mono (Kd.R_far (p := ⟨gb373, 1, none⟩) (Kd.R_far (p := ⟨gb373, 0, none⟩) (Kd.R_types HO347.out BK373.out (by decide)) (fun _ hk => hk.2) (.bool t368)) (fun _ hk => hk.2) (.slice Ao70 t369.length co70)) (fun _ h_ => h_.1)))))) (Kd.R_lt (rt ((Kd.R_mono (Kd.R_far (p := ⟨gb373, 1, none⟩) (Kd.R_far (p := ⟨gb373, 0, none⟩) (Kd.R_types HO367.out BK373.out (by decide)) (fun _ hk => hk.2) (.bool t368)) (fun _ hk => hk.2) (.slice Ao70 t369.length co70)) (fun _ h_ => h_.1)))))) (Kd.R_lt (rt ((Kd.R_mono (Kd.R_far (p := ⟨gb373, 1, none⟩) (Kd.R_far (p := ⟨gb373, 0, none⟩) (Kd.R_types HO371.out BK373.out (by decide)) (fun _ hk => hk.2) (.bool t368)) (fun _ hk => hk.2) (.slice Ao70 t369.length co70)) (fun _ h_ => h_.1)))))) (below_size (bls HB))); have HO381 := Az (Kd.R_lower (Kd.R_new' (Kd.R_new' (Kd.R_new' (Kd.R_new' ho1 (Kd.R_lt (rt ((Kd.R_mono (Kd.R_far (p := ⟨gb373, 1, none⟩) (Kd.R_far (p := ⟨gb373, 0, none⟩) (Kd.R_types HO342.out BK373.out (by decide)) (fun _ hk => hk.2) (.bool t368)) (fun _ hk => hk.2) (.slice Ao70 t369.length co70)) (fun _ h_ => h_.1)))))) (Kd.R_lt (rt ((Kd.R_mono (Kd.R_far (p := ⟨gb373, 1, none⟩) (Kd.R_far (p := ⟨gb373, 0, none⟩) (Kd.R_types HO347.out BK373.out (by decide)) (fun _ hk => hk.2) (.bool t368)) (fun _ hk => hk.2) (.slice Ao70 t369.length co70)) (fun _ h_ => h_.1)))))) (Kd.R_lt (rt ((Kd.R_mono (Kd.R_far (p := ⟨gb373, 1, none⟩) (Kd.R_far (p := ⟨gb373, 0, none⟩) (Kd.R_types HO367.out BK373.out (by decide)) (fun _ hk => hk.2) (.bool t368)) (fun _ hk => hk.2) (.slice Ao70 t369.length co70)) (fun _ h_ => h_.1)))))) (Kd.R_lt (rt ((Kd.R_mono (Kd.R_far (p := ⟨gb373, 1, none⟩) (Kd.R_far (p := ⟨gb373, 0, none⟩) (Kd.R_types HO371.out BK373.out (by decide)) (fun _ hk => hk.2) (.bool t368)) (fun _ hk => hk.2) (.slice Ao70 t369.length co70)) (fun _ h_ => h_.1)))))) (below_size (bls HB))); replace HO342 := Az (Kd.R_mono (Kd.R_told (Kd.R_told (Kd.R_old (rt ((Kd.R_mono (Kd.R_far (p := ⟨gb373, 1, none⟩) (Kd.R_far (p := ⟨gb373, 0, none⟩) (Kd.R_types HO342.out BK373.out (by decide)) (fun _ hk => hk.2) (.bool t368)) (fun _ hk => hk.2) (.slice Ao70 t369.length co70)) (fun _ h_ => h_.1)))) hb) (Kd.R_base ho0)) (Kd.R_base ho1)) (fun _ h_ => h_.1)); replace HO347 := Az (Kd.R_mono (Kd.R_told (Kd.R_told (Kd.R_old (rt ((Kd.R_mono (Kd.R_far (p := ⟨gb373, 1, none⟩) (Kd.R_far (p := ⟨gb373, 0, none⟩) (Kd.R_types HO347.out BK373.out (by decide)) (fun _ hk => hk.2) (.bool t368)) (fun _ hk => hk.2) (.slice Ao70 t369.length co70)) (fun _ h_ => h_.1)))) hb) (Kd.R_base ho0)) (Kd.R_base ho1)) (fun _ h_ => h_.1)); replace HO367 := Az (Kd.R_mono (Kd.R_told (Kd.R_told (Kd.R_old (rt ((Kd.R_mono (Kd.R_far (p := ⟨gb373, 1, none⟩) (Kd.R_far (p := ⟨gb373, 0, none⟩) (Kd.R_types HO367.out BK373.out (by decide)) (fun _ hk => hk.2) (.bool t368)) (fun _ hk => hk.2) (.slice Ao70 t369.length co70)) (fun _ h_ => h_.1)))) hb) (Kd.R_base ho0)) (Kd.R_base ho1)) (fun _ h_ => h_.1)); replace HO371 := Az (Kd.R_mono (Kd.R_told (Kd.R_told (Kd.R_old (rt ((Kd.R_mono (Kd.R_far (p := ⟨gb373, 1, none⟩) (Kd.R_far (p := ⟨gb373, 0, none⟩) (Kd.R_types HO371.out BK373.out (by decide)) (fun _ hk => hk.2) (.bool t368)) (fun _ hk => hk.2) (.slice Ao70 t369.length co70)) (fun _ h_ => h_.1)))) hb) (Kd.R_base ho0)) (Kd.R_base ho1)) (fun _ h_ => h_.1)); replace BK333 := Az (blk_below (g := gb333) (o := .cells #[.bool false, .slice none 0 0] 24 (0, 0)) (by refine blk_far ?_ NB333_373.out _; refine blk_far ?_ NB333_373.out _; exact BK333.out) hb); replace BK343 := Az (blk_below (g := gb343) (o := .cells #[.bool t339, .slice Ao55 t340.length co55] 24 (0, 0)) (by refine blk_far ?_ NB343_373.out _; refine blk_far ?_ NB343_373.out _; exact BK343.out) hb); replace BK348 := Az (blk_below (g := gb348) (o := .cells #[.bool t344, .slice Ao61 t345.length co61] 24 (0, 0)) (by refine blk_far ?_ NB348_373.out _; refine blk_far ?_ NB348_373.out _; exact BK348.out) hb); replace BK373 := Az (blk_below (g := gb373) (o := .cells #[.bool t368, .slice Ao70 t369.length co70] 24 (0, 0)) (by refine blk_put (cs := #[.bool t368, .slice none 0 0]) ?_ 1 _ rfl; refine blk_put (cs := #[.bool false, .slice none 0 0]) ?_ 0 _ rfl; exact BK373.out) hb); replace HB := bs HB hb) | (refine be 13 #[.bool false, .slice none 0 0] 24 ?_; intro gb383 hg w78 hbox hb; replace HO342 := Az (Kd.R_below (rk HO342) hb); replace HO347 := Az (Kd.R_below (rk HO347) hb); replace HO367 := Az (Kd.R_below (rk HO367) hb); replace HO371 := Az (Kd.R_below (rk HO371) hb); replace HO377 := Az (Kd.R_below (rk HO377) hb); replace HO381 := Az (Kd.R_below (rk HO381) hb); have BK383 := Az (hbox); have GW383 := gw (bls HB) hg; replace HB := bs HB hb; have NB333_383 := nl BK333 hg; have NB383_333 := ng BK333 hg; replace BK333 := kb BK333 hb; have NB343_383 := nl BK343 hg; have NB383_343 := ng BK343 hg; replace BK343 := kb BK343 hb; have NB348_383 := nl BK348 hg; have NB383_348 := ng BK348 hg; replace BK348 := kb BK348 hb; have NB373_383 := nl BK373 hg; have NB383_373 := ng BK373 hg; replace BK373 := kb BK373 hb; clear hb hbox hg) | (refine be 14 #[.bool false, .slice none 0 0] 24 ?_; intro gb384 hg w79 hbox hb; replace HO342 := Az (Kd.R_below (rk HO342) hb); replace HO347 := Az (Kd.R_below (rk HO347) hb); replace HO367 := Az (Kd.R_below (rk HO367) hb); replace HO371 := Az (Kd.R_below (rk HO371) hb); replace HO377 := Az (Kd.R_below (rk HO377) hb); replace HO381 := Az (Kd.R_below (rk HO381) hb); have BK384 := Az (hbox); have GW384 := gw (bls HB) hg; replace HB := bs HB hb; have NB333_384 := nl BK333 hg; have NB384_333 := ng BK333 hg; replace BK333 := kb BK333 hb; have NB343_384 := nl BK343 hg; have NB384_343 := ng BK343 hg; replace BK343 := kb BK343 hb; have NB348_384 := nl BK348 hg; have NB384_348 := ng BK348 hg; replace BK348 := kb BK348 hb; have NB373_384 := nl BK373 hg; have NB384_373 := ng BK373 hg; replace BK373 := kb BK373 hb; have NB383_384 := nl BK383 hg; have NB384_383 := ng BK383 hg; replace BK383 := kb BK383 hb; clear hb hbox hg; have hnb80 := NB383_333.out; have hnc80 := NB333_383.out; have hnb81 := NB383_343.out; have hnc81 := NB343_383.out; have hnb82 := NB383_348.out; have hnc82 := NB348_383.out; have hnb83 := NB383_373.out; have hnc83 := NB373_383.out; have hnb84 := NB383_384.out; have hnc84 := NB384_383.out; have hz85_1 := bz BK383; obtain ⟨Ao86, co86, eo86⟩ := Kd.R_slice HO377.out; subst eo86; have hnb87 := NB384_333.out; have hnc87 := NB333_384.out; have hnb88 := NB384_343.out; have hnc88 := NB343_384.out; have hnb89 := NB384_348.out; have hnc89 := NB348_384.out; have hnb90 := NB384_373.out; have hnc90 := NB373_384.out; have hz91_1 := bz BK384; obtain ⟨Ao92, co92, eo92⟩ := Kd.R_slice HO381.out; subst eo92; have hz93_1 := bz BK333))
 refine bodyPost_ret (results_ct rfl _ _ gb333 24 #[.bool t374, .slice Ao86 t375.length co86] (0, 0) _ rfl (by refine blk_put (cs := #[.bool t374, .slice none 0 0]) ?_ 1 _ rfl; refine blk_put (cs := #[.bool false, .slice none 0 0]) ?_ 0 _ rfl; refine blk_far ?_ NB333_384.out _; refine blk_far ?_ NB333_384.out _; refine blk_far ?_ NB333_383.out _; refine blk_far ?_ NB333_383.out _; exact BK333.out) Tryz.underlying24 rfl (by kernel_rfl)) rfl ?_
 exact ⟨_, fe, rt (Kd.R_mono (Kd.R_far (p := ⟨gb333, 1, none⟩) (Kd.R_far (p := ⟨gb333, 0, none⟩) (Kd.R_far (p := ⟨gb384, 1, none⟩) (Kd.R_far (p := ⟨gb384, 0, none⟩) (Kd.R_far (p := ⟨gb383, 1, none⟩) (Kd.R_far (p := ⟨gb383, 0, none⟩) (Kd.R_types (Kd.R_types (Kd.R_types HO377.out BK383.out (by decide)) BK384.out (by decide)) BK333.out (by decide)) (fun _ hk => hk.1.1.2) (.bool t374)) (fun _ hk => hk.1.1.2) (.slice Ao86 t375.length co86)) (fun _ hk => hk.1.2) (.bool t378)) (fun _ hk => hk.1.2) (.slice Ao92 t379.length co92)) (fun _ hk => hk.2) (.bool t374)) (fun _ hk => hk.2) (.slice Ao86 t375.length co86)) (fun _ hk => trivial)), bls HB⟩
def e_Cmp.f (a0 a1 : Int) : Option (Int × Bool) := if (FloatKind.f64.format.order (Int.toNat a0) (Int.toNat a1) == some Ordering.lt) = true then (some ((-1), true)) else (if (FloatKind.f64.format.order (Int.toNat a0) (Int.toNat a1) == some Ordering.gt) = true then (some (1, true)) else (some (0, (FloatKind.f64.format.order (Int.toNat a0) (Int.toNat a1) == some Ordering.eq))))
theorem e_Cmp.calls (a0 a1 r1 : Int) (r2 : Bool) (w : World) (h : e_Cmp.f a0 a1 = some (r1, r2)) :
  Calls Tryz.prog 48 #[.int .u64 a0, .int .u64 a1] w fun e w' => e = .returned (.tuple #[.int .i64 r1, .bool r2]) ∧ Drawn0 w w' := by
 have H := h
 unfold e_Cmp.f at H
 clear h
 by_cases c3 : (FloatKind.f64.format.order (Int.toNat a0) (Int.toNat a1) == some Ordering.lt) = true
 ·rw [if_pos c3] at H
  have c3b0 : (FloatKind.f64.format.order (Int.toNat a0) (Int.toNat a1) == some Ordering.lt) = true := c3
  (try (have c3b1 : decide (FloatKind.f64.format.order (Int.toNat a0) (Int.toNat a1) = some Ordering.lt) = true := by simpa using c3))
  (try (have c3b2 : (FloatKind.f64.format.order (Int.toNat a0) (Int.toNat a1) == some Ordering.lt) = true := by simpa using c3))
  clear c3
  simp only [Option.some.injEq, Prod.mk.injEq] at H
  obtain ⟨rfl, rfl⟩ := H
  go_enter Tryz.func48, Tryz.ntmps48
  go_wp2
  go_ret2
  exact ⟨by first | rfl | (simp; done) | (simp [*]; done), by repeat (first | exact Drawn0.refl _ | apply Drawn0.step)⟩
 rw [if_neg c3] at H
 have c3b0 : (FloatKind.f64.format.order (Int.toNat a0) (Int.toNat a1) == some Ordering.lt) = false := by simpa using c3
 (try (have c3b1 : decide (FloatKind.f64.format.order (Int.toNat a0) (Int.toNat a1) = some Ordering.lt) = false := by simpa using c3))
 (try (have c3b2 : (FloatKind.f64.format.order (Int.toNat a0) (Int.toNat a1) == some Ordering.lt) = false := by simpa using c3))
 (try (have c3b3 : ¬ (FloatKind.f64.format.order (Int.toNat a0) (Int.toNat a1) = some Ordering.lt) := by simpa using c3))
 clear c3
 by_cases c4 : (FloatKind.f64.format.order (Int.toNat a0) (Int.toNat a1) == some Ordering.gt) = true
 ·rw [if_pos c4] at H
  have c4b0 : (FloatKind.f64.format.order (Int.toNat a0) (Int.toNat a1) == some Ordering.gt) = true := c4
  (try (have c4b1 : decide (FloatKind.f64.format.order (Int.toNat a0) (Int.toNat a1) = some Ordering.gt) = true := by simpa using c4))
  (try (have c4b2 : (FloatKind.f64.format.order (Int.toNat a0) (Int.toNat a1) == some Ordering.gt) = true := by simpa using c4))
  clear c4
  simp only [Option.some.injEq, Prod.mk.injEq] at H
  obtain ⟨rfl, rfl⟩ := H
  go_enter Tryz.func48, Tryz.ntmps48
  go_wp2
  go_ret2
  exact ⟨by first | rfl | (simp; done) | (simp [*]; done), by repeat (first | exact Drawn0.refl _ | apply Drawn0.step)⟩
 rw [if_neg c4] at H
 have c4b0 : (FloatKind.f64.format.order (Int.toNat a0) (Int.toNat a1) == some Ordering.gt) = false := by simpa using c4
 (try (have c4b1 : decide (FloatKind.f64.format.order (Int.toNat a0) (Int.toNat a1) = some Ordering.gt) = false := by simpa using c4))
 (try (have c4b2 : (FloatKind.f64.format.order (Int.toNat a0) (Int.toNat a1) == some Ordering.gt) = false := by simpa using c4))
 (try (have c4b3 : ¬ (FloatKind.f64.format.order (Int.toNat a0) (Int.toNat a1) = some Ordering.gt) := by simpa using c4))
 clear c4
 simp only [Option.some.injEq, Prod.mk.injEq] at H
 obtain ⟨rfl, rfl⟩ := H
 go_enter Tryz.func48, Tryz.ntmps48
 go_wp2
 go_ret2
 exact ⟨by first | rfl | (simp; done) | (simp [*]; done), by repeat (first | exact Drawn0.refl _ | apply Drawn0.step)⟩
def e_bare.f (a0 : Nat) : Option (Int) := if (FloatKind.f64.format.order a0 a0 != some Ordering.eq) = true then (some 9221120237041090560) else (some ((a0 : Nat) : Int))
theorem e_bare.calls (a0 : Nat) (r : Int) (w : World) (h : e_bare.f a0 = some r) :
  Calls Tryz.prog 52 #[.float .f64 a0] w fun e w' => e = .returned (.int .u64 r) ∧ Drawn0 w w' := by
 have H := h
 unfold e_bare.f at H
 clear h
 by_cases c2 : (FloatKind.f64.format.order a0 a0 != some Ordering.eq) = true
 ·rw [if_pos c2] at H
  have c2b0 : (FloatKind.f64.format.order a0 a0 != some Ordering.eq) = true := c2
  (try (have c2b1 : decide (FloatKind.f64.format.order a0 a0 = some Ordering.eq) = false := by simpa using c2))
  (try (have c2b2 : (FloatKind.f64.format.order a0 a0 == some Ordering.eq) = false := by simpa using c2))
  (try (have c2b3 : ¬ (FloatKind.f64.format.order a0 a0 = some Ordering.eq) := by simpa using c2))
  clear c2
  obtain rfl := Option.some.inj H
  go_enter Tryz.func52, Tryz.ntmps52
  go_wp2
  go_ret
  exact ⟨by first | rfl | (simp; done) | (simp [*]; done), by repeat (first | exact Drawn0.refl _ | apply Drawn0.step)⟩
 ·rw [if_neg c2] at H
  have c2b0 : (FloatKind.f64.format.order a0 a0 != some Ordering.eq) = false := by simpa using c2
  (try (have c2b1 : decide (FloatKind.f64.format.order a0 a0 = some Ordering.eq) = true := by simpa using c2))
  (try (have c2b2 : (FloatKind.f64.format.order a0 a0 == some Ordering.eq) = true := by simpa using c2))
  clear c2
  obtain rfl := Option.some.inj H
  go_enter Tryz.func52, Tryz.ntmps52
  go_wp2
  go_ret
  exact ⟨by first | rfl | (simp; done) | (simp [*]; done), by repeat (first | exact Drawn0.refl _ | apply Drawn0.step)⟩
def m_Copysign.f (a0 a1 : Nat) : Option (Nat) := some (Int.toNat (Go.bits .or .u64 (Go.bits .andNot .u64 ((a0 : Nat) : Int) 9223372036854775808) (Go.bits .and .u64 ((a1 : Nat) : Int) 9223372036854775808)))
theorem m_Copysign.calls (a0 a1 r : Nat) (w : World) (h : m_Copysign.f a0 a1 = some r) :
  Calls Tryz.prog 77 #[.float .f64 a0, .float .f64 a1] w fun e w' => e = .returned (.float .f64 r) ∧ Drawn0 w w' := by
 have H := h
 unfold m_Copysign.f at H
 clear h
 obtain rfl := Option.some.inj H
 go_enter Tryz.func77, Tryz.ntmps77
 go_wp2
 go_ret
 exact ⟨by first | rfl | (simp; done) | (simp [*]; done), by repeat (first | exact Drawn0.refl _ | apply Drawn0.step)⟩
def e_CmpBig.j0 : Nat → Int → Nat → Bool → Bool → List Int → Option (Int × Bool)
 | 0, _, _, _, _, _ => none
 | k + 1, x0, x6, x21, x386000, x386001 => if x21 = true then (some (0, false)) else ((m_IsInf.f x6 0).bind fun t387 => (if t387 = true then ((m_Copysign.f 4607182418800017408 x6).bind fun t388 => (if inI64 t388 = true then (some (f2i t388, true)) else (none))) else ((e_Whole.f k x0).bind fun bt389 => ((o_Cmp.f k bt389.1 bt389.2.1 x386000 x386001).bind fun t395 => (if t395 = 0 then ((m_Trunc.f x6).bind fun t396 => ((e_bare.f t396).bind fun t397 => ((e_Cmp.f x0 t397).bind fun bt398 => (some (bt398.1, true))))) else (some (t395, true)))))))
def e_CmpBig.f (k : Nat) (a0 : Int) (a1_0 : Bool) (l1_1 : List Int) : Option (Int × Bool) := if (FloatKind.f64.format.order (Int.toNat a0) (Int.toNat a0) != some Ordering.eq) = true then (e_CmpBig.j0 k a0 (Int.toNat a0) true a1_0 l1_1) else ((o_Good.f k a1_0 l1_1).bind fun t386 => (e_CmpBig.j0 k a0 (Int.toNat a0) (!t386) a1_0 l1_1))
theorem e_CmpBig.mono_l : ∀ k, (∀ y0 y1 y2 y3 y4, LeO (e_CmpBig.j0 k y0 y1 y2 y3 y4) (e_CmpBig.j0 (k + 1) y0 y1 y2 y3 y4))
 | 0 => fun _ _ _ _ _ r h => by simp [e_CmpBig.j0] at h
 | k + 1 => by
  have ih0 := e_CmpBig.mono_l k
  ·intro y0 y1 y2 y3 y4
   unfold e_CmpBig.j0
   repeat' first
   | exact ih0 _ _ _ _ _
   | exact e_Whole.mono _ _
   | exact o_Cmp.mono _ _ _ _ _
   | exact o_Good.mono _ _ _
   | exact LeO.refl _
   | exact LeO.none _
   | refine LeO.ite ?_ ?_
   | refine LeO.bind ?_ (fun _ => ?_)
theorem e_CmpBig.mono : ∀ a0 a1 a2 k, LeO (e_CmpBig.f k a0 a1 a2) (e_CmpBig.f (k + 1) a0 a1 a2) := by
 intro a0 a1 a2 k
 have ih0 := e_CmpBig.mono_l k
 unfold e_CmpBig.f
 repeat' first
   | exact ih0 _ _ _ _ _
   | exact e_Whole.mono _ _
   | exact o_Cmp.mono _ _ _ _ _
   | exact o_Good.mono _ _ _
   | exact LeO.refl _
   | exact LeO.none _
   | refine LeO.ite ?_ ?_
   | refine LeO.bind ?_ (fun _ => ?_)
theorem e_CmpBig.calls (k : Nat) (a0 : Int) (a1_0 : Bool) (A1_1 : Option Addr) (c1_1 : Nat) (l1_1 : List Int) (r1 : Int) (r2 : Bool) (w : World) (hr1_1 : Kd.C (Kd.int .u64) w A1_1 l1_1.length l1_1) (hc1_1 : l1_1.length ≤ c1_1) (h : e_CmpBig.f k a0 a1_0 l1_1 = some (r1, r2)) :
  Calls Tryz.prog 49 #[.int .u64 a0, .agg #[.bool a1_0, .slice A1_1 l1_1.length c1_1]] w fun e w' => e = .returned (.tuple #[.int .i64 r1, .bool r2]) ∧ Below w.heap.size w w' := by
 have hu24 := Tryz.underlying24
 have HR1_1 := Az hr1_1
 have HC1_1 := Az hc1_1
 clear hr1_1 hc1_1
 have HB := Az (Below.refl w.heap.size w)
 have H := h
 unfold e_CmpBig.f at H
 clear h
 have HC3 := Az H
 clear H
 go_enter Tryz.func49, Tryz.ntmps49
 go_upto_region 2 with (first | (refine be 3 #[.bool a1_0, .slice A1_1 l1_1.length c1_1] 24 ?_; intro gb385 hg w4 hbox hb; have BK385 := Az (hbox); have GW385 := gw (bl HB) hg; have GE385 := gw (bl HB) hg; replace HB := bs HB hb; clear hb hbox hg))
 (try simp only [Act.put, List.setIfInBounds_toArray, List.set_cons_zero, List.set_cons_succ])
 go_cut [21] (fun v21 wc => ∃ (kq : Nat) (x21_2 : Bool), v21 = .bool x21_2 ∧ Aside0 (e_CmpBig.j0 kq a0 (Int.toNat a0) x21_2 a1_0 l1_1 = some (r1, r2)) ∧ Aside0 (kq ≤ k) ∧ Aside0 (wc.heap[gb385]? = some (.cells #[.bool a1_0, (.slice A1_1 l1_1.length c1_1)] 24 (0, 0))) ∧ Aside0 (Below w.heap.size w wc))
 case first =>
  have H := HC3.out
  clear HC3
  by_cases c5 : (FloatKind.f64.format.order (Int.toNat a0) (Int.toNat a0) != some Ordering.eq) = true
  ·rw [if_pos c5] at H
   have c5b0 : (FloatKind.f64.format.order (Int.toNat a0) (Int.toNat a0) != some Ordering.eq) = true := c5
   (try (have c5b1 : decide (FloatKind.f64.format.order (Int.toNat a0) (Int.toNat a0) = some Ordering.eq) = false := by simpa using c5))
   (try (have c5b2 : (FloatKind.f64.format.order (Int.toNat a0) (Int.toNat a0) == some Ordering.eq) = false := by simpa using c5))
   (try (have c5b3 : ¬ (FloatKind.f64.format.order (Int.toNat a0) (Int.toNat a0) = some Ordering.eq) := by simpa using c5))
   clear c5
   (first | rw [c5b0] | (simp only [i64_w, i32_w]; rw [c5b0]) | skip)
   have H' := Az H
   clear H
   go_wp2
   go_meet
   case rel => exact ⟨_, (true), rs, H', ⟨le0⟩, ⟨bk BK385⟩, ⟨bls HB⟩⟩
  rw [if_neg c5] at H
  have c5b0 : (FloatKind.f64.format.order (Int.toNat a0) (Int.toNat a0) != some Ordering.eq) = false := by simpa using c5
  (try (have c5b1 : decide (FloatKind.f64.format.order (Int.toNat a0) (Int.toNat a0) = some Ordering.eq) = true := by simpa using c5))
  (try (have c5b2 : (FloatKind.f64.format.order (Int.toNat a0) (Int.toNat a0) == some Ordering.eq) = true := by simpa using c5))
  clear c5
  (first | rw [c5b0] | (simp only [i64_w, i32_w]; rw [c5b0]) | skip)
  obtain ⟨t386, A6, H⟩ := bd H
  have H' := Az H
  clear H
  have hz7_1 := bz BK385
  go_wp2_with (first | (go_at_call 47; (with_reducible refine (o_Good.calls k a1_0 _ _ l1_1 t386 _ (ck HR1_1 HB) HC1_1.out A6.out).mono ?_); rintro e w8 ⟨rfl, hb⟩; replace BK385 := kb BK385 hb; replace HB := bs HB hb))
  go_meet
  case rel => exact ⟨_, (!t386), rs, H', ⟨le0⟩, ⟨bk BK385⟩, ⟨bls HB⟩⟩
 case rest =>
  clear HC3
  obtain ⟨kq, x21_2, rfl, HA, HJ2, BK385, HB⟩ := hcut
  cases kq with
  | zero => exact absurd HA.out (by simp [e_CmpBig.j0])
  | succ kj2 =>
   have H := HA.out
   clear HA
   simp only [e_CmpBig.j0] at H
   by_cases c9 : x21_2 = true
   ·subst c9
    rw [if_pos rfl] at H
    simp only [Option.some.injEq, Prod.mk.injEq] at H
    obtain ⟨rfl, rfl⟩ := H
    go_wp2
    go_ret2
    exact ⟨fe, bls HB⟩
   replace c9 := Bool.eq_false_iff.mpr c9
   subst c9
   rw [if_neg Bool.false_ne_true] at H
   obtain ⟨t387, A10, H⟩ := bd H
   by_cases c11 : t387 = true
   ·subst c11
    rw [if_pos rfl] at H
    obtain ⟨t388, A12, H⟩ := bd H
    by_cases c13 : inI64 t388 = true
    case neg =>
     rw [if_neg c13] at H
     exact absurd H (by simp)
    rw [if_pos c13] at H
    have c13b0 := eq_true c13
    have c13b1 := decide_eq_true c13
    clear c13
    simp only [Option.some.injEq, Prod.mk.injEq] at H
    obtain ⟨rfl, rfl⟩ := H
    go_wp2_with (first | (refine gl (some 23) Tryz.func58 #[.float .f64 (Int.toNat a0), .int .i64 0] ?_; (with_reducible refine (m_IsInf.calls (Int.toNat a0) 0 true _ A10.out).mono ?_); rintro e w' ⟨rfl, ⟨nd, rfl⟩⟩; refine ⟨_, rfl, ?_⟩) | (refine gl (some 25) Tryz.func77 #[.float .f64 4607182418800017408, .float .f64 (Int.toNat a0)] ?_; (with_reducible refine (m_Copysign.calls 4607182418800017408 (Int.toNat a0) t388 _ A12.out).mono ?_); rintro e w' ⟨rfl, ⟨nd, rfl⟩⟩; refine ⟨_, rfl, ?_⟩))
    go_ret2
    exact ⟨fe, bls HB⟩
   replace c11 := Bool.eq_false_iff.mpr c11
   subst c11
   rw [if_neg Bool.false_ne_true] at H
   obtain ⟨⟨t389, t390, t393⟩, A14, H⟩ := bd H
   (try dsimp only at H)
   obtain ⟨t395, A15, H⟩ := bd H
   by_cases c16 : t395 = 0
   case neg =>
    rw [if_neg c16] at H
    have c16b0 := beq_eq_false_iff_ne.mpr c16
    have c16b1 := bne_iff_ne.mpr c16
    simp only [Option.some.injEq, Prod.mk.injEq] at H
    obtain ⟨rfl, rfl⟩ := H
    go_wp2_with (first | (refine gl (some 23) Tryz.func58 #[.float .f64 (Int.toNat a0), .int .i64 0] ?_; (with_reducible refine (m_IsInf.calls (Int.toNat a0) 0 false _ A10.out).mono ?_); rintro e wc ⟨rfl, hb⟩; replace hb := dr hb; refine ⟨_, rfl, ?_⟩; replace BK385 := kb BK385 hb; replace HB := bs HB hb; clear hb; have hz385_ := bz BK385) | (refine gl (some 29) Tryz.func78 #[.int .u64 a0] ?_; (with_reducible refine (e_Whole.calls kj2 a0 t389 t390 t393 _ A14.out).mono ?_); rintro e w27 ⟨v391, rfl, ho0, hb⟩; refine ⟨_, rfl, ?_⟩; have HO392 := Az (Kd.R_lower ho0 (below_size (bls HB))); replace BK385 := kb BK385 hb; replace HB := bs HB hb) | (refine be 7 #[.bool false, .slice none 0 0] 24 ?_; intro gb394 hg w28 hbox hb; replace HO392 := Az (Kd.R_below (rk HO392) hb); have BK394 := Az (hbox); have GW394 := gw (bls HB) hg; have GE394 := gw (bls HB) hg; replace HB := bs HB hb; have NB385_394 := nl BK385 hg; have NB394_385 := ng BK385 hg; replace BK385 := kb BK385 hb; clear hb hbox hg; have hnb29 := NB394_385.out; have hnc29 := NB385_394.out; have hz30_1 := bz BK394; obtain ⟨Ao31, co31, eo31⟩ := Kd.R_slice HO392.out; subst eo31; have hz32_1 := bz BK385) | (refine gl (some 34) Tryz.func29 #[.agg #[.bool t389, .slice Ao31 t390.length co31], .agg #[.bool a1_0, .slice A1_1 l1_1.length c1_1]] ?_; (with_reducible refine (o_Cmp.calls kj2 t389 _ _ t390 a1_0 _ _ l1_1 t395 _ ?side1 ?side2 ?side3 ?side4 A15.out).mono ?_); (case side1 => refine (Kd.R_reads' (e := 25) (base := w.heap.size) (ok := fun k_ => True) (n := t390.length) (c := co31) ?_).2.2; exact (rt ((Kd.R_mono (Kd.R_far (p := ⟨gb394, 1, none⟩) (Kd.R_far (p := ⟨gb394, 0, none⟩) (Kd.R_types HO392.out BK394.out (by decide)) (fun _ hk => hk.2) (.bool t389)) (fun _ hk => hk.2) (.slice Ao31 t390.length co31)) (fun _ h_ => h_.1))))); (case side2 => exact (Kd.R_reads' HO392.out).2.1); (case side3 => exact Kd.C_below HR1_1.out (bls HB)); (case side4 => exact HC1_1.out); rintro e w33 ⟨rfl, hb⟩; refine ⟨_, rfl, ?_⟩; replace HO392 := Az (Kd.R_below (rt ((Kd.R_mono (Kd.R_far (p := ⟨gb394, 1, none⟩) (Kd.R_far (p := ⟨gb394, 0, none⟩) (Kd.R_types HO392.out BK394.out (by decide)) (fun _ hk => hk.2) (.bool t389)) (fun _ hk => hk.2) (.slice Ao31 t390.length co31)) (fun _ h_ => h_.1)))) hb); replace BK385 := Az (blk_below (g := gb385) (o := .cells #[.bool a1_0, .slice A1_1 l1_1.length c1_1] 24 (0, 0)) (by refine blk_far ?_ NB385_394.out _; refine blk_far ?_ NB385_394.out _; exact BK385.out) hb); replace BK394 := Az (blk_below (g := gb394) (o := .cells #[.bool t389, .slice Ao31 t390.length co31] 24 (0, 0)) (by refine blk_put (cs := #[.bool t389, .slice none 0 0]) ?_ 1 _ rfl; refine blk_put (cs := #[.bool false, .slice none 0 0]) ?_ 0 _ rfl; exact BK394.out) hb); replace HB := bs HB hb))
    go_ret2
    exact ⟨fe, bls HB⟩
   rw [if_pos c16] at H
   have c16b0 := beq_iff_eq.mpr c16
   have c16b1 := bne_eq_false_iff_eq.mpr c16
   clear c16
   obtain ⟨t396, A17, H⟩ := bd H
   obtain ⟨t397, A18, H⟩ := bd H
   obtain ⟨⟨t398, t399⟩, A19, H⟩ := bd H
   (try dsimp only at H)
   simp only [Option.some.injEq, Prod.mk.injEq] at H
   obtain ⟨rfl, rfl⟩ := H
   go_wp2_with (first | (refine gl (some 23) Tryz.func58 #[.float .f64 (Int.toNat a0), .int .i64 0] ?_; (with_reducible refine (m_IsInf.calls (Int.toNat a0) 0 false _ A10.out).mono ?_); rintro e wc ⟨rfl, hb⟩; replace hb := dr hb; refine ⟨_, rfl, ?_⟩; replace BK385 := kb BK385 hb; replace HB := bs HB hb; clear hb; have hz385_ := bz BK385) | (refine gl (some 29) Tryz.func78 #[.int .u64 a0] ?_; (with_reducible refine (e_Whole.calls kj2 a0 t389 t390 t393 _ A14.out).mono ?_); rintro e w20 ⟨v391, rfl, ho0, hb⟩; refine ⟨_, rfl, ?_⟩; have HO392 := Az (Kd.R_lower ho0 (below_size (bls HB))); replace BK385 := kb BK385 hb; replace HB := bs HB hb) | (refine be 7 #[.bool false, .slice none 0 0] 24 ?_; intro gb394 hg w21 hbox hb; replace HO392 := Az (Kd.R_below (rk HO392) hb); have BK394 := Az (hbox); have GW394 := gw (bls HB) hg; have GE394 := gw (bls HB) hg; replace HB := bs HB hb; have NB385_394 := nl BK385 hg; have NB394_385 := ng BK385 hg; replace BK385 := kb BK385 hb; clear hb hbox hg; have hnb22 := NB394_385.out; have hnc22 := NB385_394.out; have hz23_1 := bz BK394; obtain ⟨Ao24, co24, eo24⟩ := Kd.R_slice HO392.out; subst eo24; have hz25_1 := bz BK385) | (refine gl (some 34) Tryz.func29 #[.agg #[.bool t389, .slice Ao24 t390.length co24], .agg #[.bool a1_0, .slice A1_1 l1_1.length c1_1]] ?_; (with_reducible refine (o_Cmp.calls kj2 t389 _ _ t390 a1_0 _ _ l1_1 t395 _ ?side1 ?side2 ?side3 ?side4 A15.out).mono ?_); (case side1 => refine (Kd.R_reads' (e := 25) (base := w.heap.size) (ok := fun k_ => True) (n := t390.length) (c := co24) ?_).2.2; exact (rt ((Kd.R_mono (Kd.R_far (p := ⟨gb394, 1, none⟩) (Kd.R_far (p := ⟨gb394, 0, none⟩) (Kd.R_types HO392.out BK394.out (by decide)) (fun _ hk => hk.2) (.bool t389)) (fun _ hk => hk.2) (.slice Ao24 t390.length co24)) (fun _ h_ => h_.1))))); (case side2 => exact (Kd.R_reads' HO392.out).2.1); (case side3 => exact Kd.C_below HR1_1.out (bls HB)); (case side4 => exact HC1_1.out); rintro e w26 ⟨rfl, hb⟩; refine ⟨_, rfl, ?_⟩; replace HO392 := Az (Kd.R_below (rt ((Kd.R_mono (Kd.R_far (p := ⟨gb394, 1, none⟩) (Kd.R_far (p := ⟨gb394, 0, none⟩) (Kd.R_types HO392.out BK394.out (by decide)) (fun _ hk => hk.2) (.bool t389)) (fun _ hk => hk.2) (.slice Ao24 t390.length co24)) (fun _ h_ => h_.1)))) hb); replace BK385 := Az (blk_below (g := gb385) (o := .cells #[.bool a1_0, .slice A1_1 l1_1.length c1_1] 24 (0, 0)) (by refine blk_far ?_ NB385_394.out _; refine blk_far ?_ NB385_394.out _; exact BK385.out) hb); replace BK394 := Az (blk_below (g := gb394) (o := .cells #[.bool t389, .slice Ao24 t390.length co24] 24 (0, 0)) (by refine blk_put (cs := #[.bool t389, .slice none 0 0]) ?_ 1 _ rfl; refine blk_put (cs := #[.bool false, .slice none 0 0]) ?_ 0 _ rfl; exact BK394.out) hb); replace HB := bs HB hb) | (refine gl (some 41) Tryz.func79 #[.float .f64 (Int.toNat a0)] ?_; (with_reducible refine (m_Trunc.calls (Int.toNat a0) t396 _ A17.out).mono ?_); rintro e w' ⟨rfl, ⟨nd, rfl⟩⟩; refine ⟨_, rfl, ?_⟩) | (refine gl (some 42) Tryz.func52 #[.float .f64 t396] ?_; (with_reducible refine (e_bare.calls t396 t397 _ A18.out).mono ?_); rintro e w' ⟨rfl, ⟨nd, rfl⟩⟩; refine ⟨_, rfl, ?_⟩) | (refine gl (some 43) Tryz.func48 #[.int .u64 a0, .int .u64 t397] ?_; (with_reducible refine (e_Cmp.calls a0 t397 t398 t399 _ A19.out).mono ?_); rintro e w' ⟨rfl, ⟨nd, rfl⟩⟩; refine ⟨_, rfl, ?_⟩))
   go_ret2
   exact ⟨fe, bls HB⟩
def e_Hash.j0 : Nat → Nat → Int → Option (Int)
 | 0, _, _ => none
 | k + 1, x3, x4 => if (FloatKind.f64.format.order x3 x3 != some Ordering.eq) = true then (some 0) else ((m_IsInf.f x3 0).bind fun t435 => (if t435 = true then (some (wrap64 (x4 * 314159))) else ((m_Abs.f x3).bind fun t436 => ((m_Frexp.f t436).bind fun bt437 => ((m_Ldexp.f bt437.1 53).bind fun t439 => (if inU64 t439 = true then (if 0 ≤ (Int.tmod (wrap64 ((Int.tmod (wrap64 (bt437.2 - 53)) 31) + 31)) 31) then ((bits_Mul64.f (Int.tmod (f2i t439) 2147483647) (shl .u64 1 (Int.tmod (wrap64 ((Int.tmod (wrap64 (bt437.2 - 53)) 31) + 31)) 31))).bind fun bt440 => ((bits_Rem64.f k bt440.1 bt440.2 2147483647).bind fun t442 => (some (wrap64 (x4 * (wrap64 (t442))))))) else (none)) else (none)))))))
def e_Hash.f (k : Nat) (a0 : Int) : Option (Int) := if (FloatKind.f64.format.order (Int.toNat a0) 0 == some Ordering.lt) = true then (e_Hash.j0 k (Int.toNat a0) (-1)) else (e_Hash.j0 k (Int.toNat a0) 1)
theorem e_Hash.mono_l : ∀ k, (∀ y0 y1, LeO (e_Hash.j0 k y0 y1) (e_Hash.j0 (k + 1) y0 y1))
 | 0 => fun _ _ r h => by simp [e_Hash.j0] at h
 | k + 1 => by
  have ih0 := e_Hash.mono_l k
  ·intro y0 y1
   unfold e_Hash.j0
   repeat' first
   | exact ih0 _ _
   | exact bits_Rem64.mono _ _ _ _
   | exact LeO.refl _
   | exact LeO.none _
   | refine LeO.ite ?_ ?_
   | refine LeO.bind ?_ (fun _ => ?_)
theorem e_Hash.mono : ∀ a0 k, LeO (e_Hash.f k a0) (e_Hash.f (k + 1) a0) := by
 intro a0 k
 have ih0 := e_Hash.mono_l k
 unfold e_Hash.f
 repeat' first
   | exact ih0 _ _
   | exact bits_Rem64.mono _ _ _ _
   | exact LeO.refl _
   | exact LeO.none _
   | refine LeO.ite ?_ ?_
   | refine LeO.bind ?_ (fun _ => ?_)
theorem e_Hash.calls (k : Nat) (a0 r : Int) (w : World) (h : e_Hash.f k a0 = some r) :
  Calls Tryz.prog 35 #[.int .u64 a0] w fun e w' => e = .returned (.int .i64 r) ∧ Drawn0 w w' := by
 have H := h
 unfold e_Hash.f at H
 clear h
 have HC2 := Az H
 clear H
 go_enter Tryz.func35, Tryz.ntmps35
 go_upto_if 13 with (fail)
 go_cut [4] (fun v4 wc => ∃ (kq : Nat) (x4_1 : Int), v4 = .int .i64 x4_1 ∧ Aside0 (e_Hash.j0 kq (Int.toNat a0) x4_1 = some r) ∧ Aside0 (kq ≤ k) ∧ Drawn0 w wc)
 case first =>
  have H := HC2.out
  clear HC2
  by_cases c3 : (FloatKind.f64.format.order (Int.toNat a0) 0 == some Ordering.lt) = true
  ·rw [if_pos c3] at H
   have c3b0 : (FloatKind.f64.format.order (Int.toNat a0) 0 == some Ordering.lt) = true := c3
   (try (have c3b1 : decide (FloatKind.f64.format.order (Int.toNat a0) 0 = some Ordering.lt) = true := by simpa using c3))
   (try (have c3b2 : (FloatKind.f64.format.order (Int.toNat a0) 0 == some Ordering.lt) = true := by simpa using c3))
   clear c3
   (first | rw [c3b0] | (simp only [i64_w, i32_w]; rw [c3b0]) | skip)
   have H' := Az H
   clear H
   go_wp2
   go_meet
   case rel => exact ⟨_, ((-1)), rs, H', ⟨le0⟩, by repeat (first | exact Drawn0.refl _ | apply Drawn0.step)⟩
  rw [if_neg c3] at H
  have c3b0 : (FloatKind.f64.format.order (Int.toNat a0) 0 == some Ordering.lt) = false := by simpa using c3
  (try (have c3b1 : decide (FloatKind.f64.format.order (Int.toNat a0) 0 = some Ordering.lt) = false := by simpa using c3))
  (try (have c3b2 : (FloatKind.f64.format.order (Int.toNat a0) 0 == some Ordering.lt) = false := by simpa using c3))
  (try (have c3b3 : ¬ (FloatKind.f64.format.order (Int.toNat a0) 0 = some Ordering.lt) := by simpa using c3))
  clear c3
  (first | rw [c3b0] | (simp only [i64_w, i32_w]; rw [c3b0]) | skip)
  have H' := Az H
  clear H
  go_wp2
  go_meet
  case rel => exact ⟨_, (1), rs, H', ⟨le0⟩, by repeat (first | exact Drawn0.refl _ | apply Drawn0.step)⟩
 case rest =>
  clear HC2
  obtain ⟨kq, x4_1, rfl, HA, HJ1, ⟨mc1, rfl⟩⟩ := hcut
  cases kq with
  | zero => exact absurd HA.out (by simp [e_Hash.j0])
  | succ kj1 =>
   have H := HA.out
   clear HA
   simp only [e_Hash.j0] at H
   by_cases c4 : (FloatKind.f64.format.order (Int.toNat a0) (Int.toNat a0) != some Ordering.eq) = true
   ·rw [if_pos c4] at H
    have c4b0 : (FloatKind.f64.format.order (Int.toNat a0) (Int.toNat a0) != some Ordering.eq) = true := c4
    (try (have c4b1 : decide (FloatKind.f64.format.order (Int.toNat a0) (Int.toNat a0) = some Ordering.eq) = false := by simpa using c4))
    (try (have c4b2 : (FloatKind.f64.format.order (Int.toNat a0) (Int.toNat a0) == some Ordering.eq) = false := by simpa using c4))
    (try (have c4b3 : ¬ (FloatKind.f64.format.order (Int.toNat a0) (Int.toNat a0) = some Ordering.eq) := by simpa using c4))
    clear c4
    obtain rfl := Option.some.inj H
    go_wp2
    go_ret
    exact ⟨by first | rfl | (simp; done) | (simp [*]; done), by repeat (first | exact Drawn0.refl _ | apply Drawn0.step)⟩
   rw [if_neg c4] at H
   have c4b0 : (FloatKind.f64.format.order (Int.toNat a0) (Int.toNat a0) != some Ordering.eq) = false := by simpa using c4
   (try (have c4b1 : decide (FloatKind.f64.format.order (Int.toNat a0) (Int.toNat a0) = some Ordering.eq) = true := by simpa using c4))
   (try (have c4b2 : (FloatKind.f64.format.order (Int.toNat a0) (Int.toNat a0) == some Ordering.eq) = true := by simpa using c4))
   clear c4
   obtain ⟨t435, A5, H⟩ := bd H
   by_cases c6 : t435 = true
   ·subst c6
    rw [if_pos rfl] at H
    obtain rfl := Option.some.inj H
    go_wp2_with (first | (refine gl (some 20) Tryz.func58 #[.float .f64 (Int.toNat a0), .int .i64 0] ?_; (with_reducible refine (m_IsInf.calls (Int.toNat a0) 0 true _ A5.out).mono ?_); rintro e w' ⟨rfl, ⟨nd, rfl⟩⟩; refine ⟨_, rfl, ?_⟩))
    go_ret
    exact ⟨by first | rfl | (simp; done) | (simp [*]; done), by repeat (first | exact Drawn0.refl _ | apply Drawn0.step)⟩
   replace c6 := Bool.eq_false_iff.mpr c6
   subst c6
   rw [if_neg Bool.false_ne_true] at H
   obtain ⟨t436, A7, H⟩ := bd H
   obtain ⟨⟨t437, t438⟩, A8, H⟩ := bd H
   (try dsimp only at H)
   obtain ⟨t439, A9, H⟩ := bd H
   by_cases c10 : inU64 t439 = true
   case neg =>
    rw [if_neg c10] at H
    exact absurd H (by simp)
   rw [if_pos c10] at H
   have c10b0 := eq_true c10
   have c10b1 := decide_eq_true c10
   clear c10
   obtain ⟨ji11, hji11⟩ : ∃ j_ : Int, (Int.tmod (wrap64 ((Int.tmod (wrap64 (t438 - 53)) 31) + 31)) 31) = j_ := ⟨_, rfl⟩
   replace H : (if 0 ≤ (ji11) then ((bits_Mul64.f (Int.tmod (f2i t439) 2147483647) (shl .u64 1 (ji11))).bind fun bt440 => ((bits_Rem64.f kj1 bt440.1 bt440.2 2147483647).bind fun t442 => (some (wrap64 (x4_1 * (wrap64 (t442))))))) else (none)) = some r := by first | (rw [hji11] at H; exact H) | (simp only [hji11] at H ⊢; exact H)
   (try rw [hji11] at A5)
   (try rw [hji11] at A7)
   (try rw [hji11] at A8)
   (try rw [hji11] at A9)
   by_cases c12 : 0 ≤ (ji11)
   case neg =>
    rw [if_neg c12] at H
    exact absurd H (by simp)
   rw [if_pos c12] at H
   have c12b0 := eq_true c12
   have c12b1 := decide_eq_true c12
   clear c12
   obtain ⟨ji13, hji13⟩ : ∃ j_ : Int, (shl .u64 1 (ji11)) = j_ := ⟨_, rfl⟩
   replace H : ((bits_Mul64.f (Int.tmod (f2i t439) 2147483647) (ji13)).bind fun bt440 => ((bits_Rem64.f kj1 bt440.1 bt440.2 2147483647).bind fun t442 => (some (wrap64 (x4_1 * (wrap64 (t442))))))) = some r := by first | (rw [hji13] at H; exact H) | (simp only [hji13] at H ⊢; exact H)
   (try rw [hji13] at A5)
   (try rw [hji13] at A7)
   (try rw [hji13] at A8)
   (try rw [hji13] at A9)
   have hji13_ : (IntKind.u64.wrap (1 * 2 ^ min (ji11).toNat 64)) = ji13 := hji13
   have hji13z : (ji11) ≤ 64 → (IntKind.u64.wrap (1 * 2 ^ (ji11).toNat)) = ji13 := shl_small hji13
   have hji13u : (IntKind.u64.wrap (2 ^ min (ji11).toNat 64)) = ji13 := by have h_ := hji13_; rw [Int.one_mul] at h_; exact h_
   have hji13v : (ji11) ≤ 64 → (IntKind.u64.wrap (2 ^ (ji11).toNat)) = ji13 := fun hle_ => by have h_ := hji13z hle_; rw [Int.one_mul] at h_; exact h_
   obtain ⟨⟨t440, t441⟩, A14, H⟩ := bd H
   (try dsimp only at H)
   obtain ⟨t442, A15, H⟩ := bd H
   obtain rfl := Option.some.inj H
   go_wp2_with (first | (refine gl (some 20) Tryz.func58 #[.float .f64 (Int.toNat a0), .int .i64 0] ?_; (with_reducible refine (m_IsInf.calls (Int.toNat a0) 0 false _ A5.out).mono ?_); rintro e w' ⟨rfl, ⟨nd, rfl⟩⟩; refine ⟨_, rfl, ?_⟩) | (refine gl (some 25) Tryz.func60 #[.float .f64 (Int.toNat a0)] ?_; (with_reducible refine (m_Abs.calls (Int.toNat a0) t436 _ A7.out).mono ?_); rintro e w' ⟨rfl, ⟨nd, rfl⟩⟩; refine ⟨_, rfl, ?_⟩) | (refine gl (some 26) Tryz.func59 #[.float .f64 t436] ?_; (with_reducible refine (m_Frexp.calls t436 t437 t438 _ A8.out).mono ?_); rintro e w' ⟨rfl, ⟨nd, rfl⟩⟩; refine ⟨_, rfl, ?_⟩) | (refine gl (some 30) Tryz.func61 #[.float .f64 t437, .int .i64 53] ?_; (with_reducible refine (m_Ldexp.calls t437 53 t439 _ A9.out).mono ?_); rintro e w' ⟨rfl, ⟨nd, rfl⟩⟩; refine ⟨_, rfl, ?_⟩) | ((with_reducible refine gate_callee (f := 62) rfl ?_); refine goesL_ (some 42) rfl rfl Tryz.func62 (by kernel_rfl) rfl #[.int .u64 (Int.tmod (f2i t439) 2147483647), .int .u64 ji13] rfl (by (try simp only [List.map_toArray, List.map_cons, List.map_nil]); first | done | (simp only [hji13]; rfl) | rfl | (simp only [List.length_drop, List.length_take]; rfl)) ?_; (with_reducible refine (bits_Mul64.calls (Int.tmod (f2i t439) 2147483647) ji13 t440 t441 _ A14.out).mono ?_); rintro e w' ⟨rfl, ⟨nd, rfl⟩⟩; refine ⟨_, rfl, ?_⟩) | (refine gl (some 48) Tryz.func63 #[.int .u64 t440, .int .u64 t441, .int .u64 2147483647] ?_; (with_reducible refine (bits_Rem64.calls kj1 t440 t441 2147483647 t442 _ A15.out).mono ?_); rintro e w' ⟨rfl, ⟨nd, rfl⟩⟩; refine ⟨_, rfl, ?_⟩))
   go_ret
   exact ⟨by first | rfl | (simp; done) | (simp only [← hji11, ← hji13] <;> (first | rfl | simp)) | (simp [*]; done), by repeat (first | exact Drawn0.refl _ | apply Drawn0.step)⟩
def e_HashBig.l0 : Nat → Int → Int → Bool → List Int → Option (Int)
 | 0, _, _, _, _ => none
 | k + 1, x3, x4, x444000, x444001 => if x4 ≥ 0 then ((bits_Mul64.f x3 1000000000000000000).bind fun bt445 => (if 0 ≤ x4 then (if x4 < (x444001.length : Int) then ((bits_Rem64.f k (IntKind.u64.wrap (bt445.1 + (add64c bt445.2 (rd x444001 x4)))) (add64s bt445.2 (rd x444001 x4)) 2147483647).bind fun t448 => (e_HashBig.l0 k t448 (wrap64 (x4 - 1)) x444000 x444001)) else (none)) else (none))) else (if x444000 = true then (some (wrap64 (-(wrap64 (x3))))) else (some (wrap64 (x3))))
def e_HashBig.f (k : Nat) (a0_0 : Bool) (l0_1 : List Int) : Option (Int) := (o_Good.f k a0_0 l0_1).bind fun t444 => (if t444 = true then (e_HashBig.l0 k 0 (wrap64 ((l0_1.length : Int) - 1)) a0_0 l0_1) else (some 0))
theorem e_HashBig.mono_l : ∀ k, (∀ y0 y1 y2 y3, LeO (e_HashBig.l0 k y0 y1 y2 y3) (e_HashBig.l0 (k + 1) y0 y1 y2 y3))
 | 0 => fun _ _ _ _ r h => by simp [e_HashBig.l0] at h
 | k + 1 => by
  have ih0 := e_HashBig.mono_l k
  ·intro y0 y1 y2 y3
   unfold e_HashBig.l0
   repeat' first
   | exact ih0 _ _ _ _
   | exact bits_Rem64.mono _ _ _ _
   | exact o_Good.mono _ _ _
   | exact LeO.refl _
   | exact LeO.none _
   | refine LeO.ite ?_ ?_
   | refine LeO.bind ?_ (fun _ => ?_)
theorem e_HashBig.mono : ∀ a0 a1 k, LeO (e_HashBig.f k a0 a1) (e_HashBig.f (k + 1) a0 a1) := by
 intro a0 a1 k
 have ih0 := e_HashBig.mono_l k
 unfold e_HashBig.f
 repeat' first
   | exact ih0 _ _ _ _
   | exact bits_Rem64.mono _ _ _ _
   | exact o_Good.mono _ _ _
   | exact LeO.refl _
   | exact LeO.none _
   | refine LeO.ite ?_ ?_
   | refine LeO.bind ?_ (fun _ => ?_)
theorem e_HashBig.calls (k : Nat) (a0_0 : Bool) (A0_1 : Option Addr) (c0_1 : Nat) (l0_1 : List Int) (r : Int) (w : World) (hr0_1 : Kd.C (Kd.int .u64) w A0_1 l0_1.length l0_1) (hc0_1 : l0_1.length ≤ c0_1) (h : e_HashBig.f k a0_0 l0_1 = some r) :
  Calls Tryz.prog 36 #[.agg #[.bool a0_0, .slice A0_1 l0_1.length c0_1]] w fun e w' => e = .returned (.int .i64 r) ∧ Below w.heap.size w w' := by
 have hu24 := Tryz.underlying24
 have HR0_1 := Az hr0_1
 have HC0_1 := Az hc0_1
 clear hr0_1 hc0_1
 have HB := Az (Below.refl w.heap.size w)
 have H := h
 unfold e_HashBig.f at H
 clear h
 obtain ⟨t444, A2, H⟩ := bd H
 by_cases c3 : t444 = true
 case neg =>
  replace c3 := Bool.eq_false_iff.mpr c3
  subst c3
  rw [if_neg Bool.false_ne_true] at H
  obtain rfl := Option.some.inj H
  go_enter Tryz.func36, Tryz.ntmps36
  go_wp2_with (first | (refine be 1 #[.bool a0_0, .slice A0_1 l0_1.length c0_1] 24 ?_; intro gb443 hg w17 hbox hb; have BK443 := Az (hbox); have GW443 := gw (bl HB) hg; have GE443 := gw (bl HB) hg; replace HB := bs HB hb; clear hb hbox hg; have hz18_1 := bz BK443) | (refine gl (some 9) Tryz.func47 #[.agg #[.bool a0_0, .slice A0_1 l0_1.length c0_1]] ?_; (with_reducible refine (o_Good.calls k a0_0 _ _ l0_1 false _ (ck HR0_1 HB) HC0_1.out A2.out).mono ?_); rintro e w19 ⟨rfl, hb⟩; refine ⟨_, rfl, ?_⟩; replace BK443 := kb BK443 hb; replace HB := bs HB hb))
  go_ret
  exact ⟨fe, bls HB⟩
 subst c3
 rw [if_pos rfl] at H
 have H' := Az H
 clear H
 go_enter Tryz.func36, Tryz.ntmps36
 go_wp2_with (first | (refine be 1 #[.bool a0_0, .slice A0_1 l0_1.length c0_1] 24 ?_; intro gb443 hg w4 hbox hb; have BK443 := Az (hbox); have GW443 := gw (bl HB) hg; have GE443 := gw (bl HB) hg; replace HB := bs HB hb; clear hb hbox hg; have hz5_1 := bz BK443) | (refine gl (some 9) Tryz.func47 #[.agg #[.bool a0_0, .slice A0_1 l0_1.length c0_1]] ?_; (with_reducible refine (o_Good.calls k a0_0 _ _ l0_1 true _ (ck HR0_1 HB) HC0_1.out A2.out).mono ?_); rintro e w6 ⟨rfl, hb⟩; refine ⟨_, rfl, ?_⟩; replace BK443 := kb BK443 hb; replace HB := bs HB hb; have hz7_1 := bz BK443))
 go_loopg [3, 4] k (fun kq v3 v4 w' => ∃ (x3_1 : Int) (x4_1 : Int), v3 = .int .u64 x3_1 ∧ v4 = .int .i64 x4_1 ∧ Aside0 (e_HashBig.l0 kq x3_1 x4_1 a0_0 l0_1 = some r) ∧ Aside0 (kq ≤ k) ∧ Aside0 (w'.heap[gb443]? = some (.cells #[.bool a0_0, (.slice A0_1 l0_1.length c0_1)] 24 (0, 0))) ∧ Aside0 (Below w.heap.size w w'))
 case atStart => exact ⟨(0), (wrap64 ((l0_1.length : Int) - 1)), rs, rs, H', ⟨Nat.le_refl _⟩, ⟨bk BK443⟩, ⟨bls HB⟩⟩
 case round =>
  clear H'
  obtain ⟨x3_1, x4_1, rfl, rfl, HA, HK1, BK443, HB⟩ := hrel
  cases gk with
  | zero => exact absurd HA.out (by simp [e_HashBig.l0])
  | succ k1 =>
   have H := HA.out
   clear HA
   simp only [e_HashBig.l0] at H
   by_cases c8 : x4_1 ≥ 0
   case neg =>
    rw [if_neg c8] at H
    have c8b0 : decide (0 ≤ x4_1) = false := decide_eq_false c8
    clear c8
    by_cases c14 : a0_0 = true
    ·subst c14
     rw [if_pos rfl] at H
     obtain rfl := Option.some.inj H
     have hz15_1 := bz BK443
     go_wp2
     go_ret
     exact ⟨fe, bls HB⟩
    replace c14 := Bool.eq_false_iff.mpr c14
    subst c14
    rw [if_neg Bool.false_ne_true] at H
    obtain rfl := Option.some.inj H
    have hz16_1 := bz BK443
    go_wp2
    go_ret
    exact ⟨fe, bls HB⟩
   rw [if_pos c8] at H
   have c8b0 : decide (0 ≤ x4_1) = true := decide_eq_true c8
   clear c8
   obtain ⟨⟨t445, t446⟩, A9, H⟩ := bd H
   (try dsimp only at H)
   by_cases c10 : 0 ≤ x4_1
   case neg =>
    rw [if_neg c10] at H
    exact absurd H (by simp)
   rw [if_pos c10] at H
   have c10b0 := decide_eq_true c10
   clear c10
   by_cases c11 : x4_1 < (l0_1.length : Int)
   case neg =>
    rw [if_neg c11] at H
    exact absurd H (by simp)
   rw [if_pos c11] at H
   have c11b0 := decide_eq_true c11
   clear c11
   obtain ⟨t448, A12, H⟩ := bd H
   have H' := Az H
   clear H
   go_wp2_with (first | (refine gl (some 21) Tryz.func62 #[.int .u64 x3_1, .int .u64 1000000000000000000] ?_; (with_reducible refine (bits_Mul64.calls x3_1 1000000000000000000 t445 t446 _ A9.out).mono ?_); rintro e w' ⟨rfl, ⟨nd, rfl⟩⟩; refine ⟨_, rfl, ?_⟩; have hz13_1 := bz BK443; have p447 : 0 ≤ (x4_1 : Int) := ode; have q447 : x4_1 < (l0_1.length : Int) := ode; obtain ⟨ad447, e447, hx447_0⟩ := Kd.at_int HR0_1.out x4_1 p447 q447; cases e447; replace hx447_0 := (HB.out.cell (World.block_lt_of_cell? w _ hx447_0)).trans hx447_0; replace p447 := eq_true p447; replace q447 := eq_true q447) | (refine gl (some 38) Tryz.func63 #[.int .u64 (IntKind.u64.wrap (t445 + (add64c t446 (rd l0_1 x4_1)))), .int .u64 (add64s t446 (rd l0_1 x4_1)), .int .u64 2147483647] ?_; (with_reducible refine (bits_Rem64.calls k1 (IntKind.u64.wrap (t445 + (add64c t446 (rd l0_1 x4_1)))) (add64s t446 (rd l0_1 x4_1)) 2147483647 t448 _ A12.out).mono ?_); rintro e w' ⟨rfl, ⟨nd, rfl⟩⟩; refine ⟨_, rfl, ?_⟩))
   go_roundg k1
   case measure => have := HK1.out; omega
   case rel => exact ⟨(t448), (wrap64 (x4_1 - 1)), rs, rs, H', ⟨by have := HK1.out; omega⟩, ⟨bk BK443⟩, ⟨bls HB⟩⟩
mutual
def r2_To.l0 : Nat → Int → Bool → List Int → Bool → List Int → Option (Bool × List Int)
 | 0, _, _, _, _, _ => none
 | k + 1, x4, x558000, x558001, x560000, x560001 => if x4 < (x558001.length : Int) then (r2_To.l1 k x4 0 (wrap64 (x4 + 17)) x558000 x558001 x560000 x560001) else (if x558000 = true then (some (decide (0 < x558001.length), x560001)) else (some (false, x560001)))
def r2_To.l1 : Nat → Int → Int → Int → Bool → List Int → Bool → List Int → Option (Bool × List Int)
 | 0, _, _, _, _, _, _, _ => none
 | k + 1, x4, x5, x6, x558000, x558001, x560000, x560001 => if x6 ≥ x4 then (if x6 < (x558001.length : Int) then (if 0 ≤ x6 then (r2_To.l1 k x4 (IntKind.u64.wrap ((IntKind.u64.wrap (x5 * 10)) + (IntKind.u64.wrap (rd x558001 x6)))) (wrap64 (x6 - 1)) x558000 x558001 x560000 x560001) else (none)) else (r2_To.l1 k x4 (IntKind.u64.wrap (x5 * 10)) (wrap64 (x6 - 1)) x558000 x558001 x560000 x560001)) else (if x560001.length < 17592186044416 then (r2_To.l0 k (wrap64 (x4 + 18)) x558000 x558001 x560000 (x560001 ++ [x5])) else (none))
end
def r2_To.f (k : Nat) (a0_0 : Bool) (l0_1 : List Int) : Option (Bool × List Int) := r2_To.l0 k 0 a0_0 l0_1 false ([] : List Int)
theorem r2_To.mono_l : ∀ k, (∀ y0 y1 y2 y3 y4, LeO (r2_To.l0 k y0 y1 y2 y3 y4) (r2_To.l0 (k + 1) y0 y1 y2 y3 y4)) ∧ (∀ y0 y1 y2 y3 y4 y5 y6, LeO (r2_To.l1 k y0 y1 y2 y3 y4 y5 y6) (r2_To.l1 (k + 1) y0 y1 y2 y3 y4 y5 y6))
 | 0 => ⟨fun _ _ _ _ _ r h => by simp [r2_To.l0] at h, fun _ _ _ _ _ _ _ r h => by simp [r2_To.l1] at h⟩
 | k + 1 => by
  obtain ⟨ih0, ih1⟩ := r2_To.mono_l k
  refine ⟨?_, ?_⟩
  ·intro y0 y1 y2 y3 y4
   unfold r2_To.l0
   repeat' first
   | exact ih0 _ _ _ _ _
   | exact ih1 _ _ _ _ _ _ _
   | exact LeO.refl _
   | exact LeO.none _
   | refine LeO.ite ?_ ?_
   | refine LeO.bind ?_ (fun _ => ?_)
  ·intro y0 y1 y2 y3 y4 y5 y6
   unfold r2_To.l1
   repeat' first
   | exact ih0 _ _ _ _ _
   | exact ih1 _ _ _ _ _ _ _
   | exact LeO.refl _
   | exact LeO.none _
   | refine LeO.ite ?_ ?_
   | refine LeO.bind ?_ (fun _ => ?_)
theorem r2_To.mono : ∀ a0 a1 k, LeO (r2_To.f k a0 a1) (r2_To.f (k + 1) a0 a1) := by
 intro a0 a1 k
 obtain ⟨ih0, ih1⟩ := r2_To.mono_l k
 unfold r2_To.f
 repeat' first
   | exact ih0 _ _ _ _ _
   | exact ih1 _ _ _ _ _ _ _
   | exact LeO.refl _
   | exact LeO.none _
   | refine LeO.ite ?_ ?_
   | refine LeO.bind ?_ (fun _ => ?_)
theorem r2_To.calls (k : Nat) (a0_0 : Bool) (A0_1 : Option Addr) (c0_1 : Nat) (l0_1 : List Int) (r1 : Bool) (r2 : List Int) (w : World) (hr0_1 : Kd.C (Kd.int .u8) w A0_1 l0_1.length l0_1) (hc0_1 : l0_1.length ≤ c0_1) (h : r2_To.f k a0_0 l0_1 = some (r1, r2)) :
  Calls Tryz.prog 42 #[.agg #[.bool a0_0, .slice A0_1 l0_1.length c0_1]] w fun e w' => ∃ v1_ : Value, e = .returned (.agg #[.bool r1, v1_]) ∧ Kd.R (Kd.int .u64) 25 w' w.heap.size (fun _ => True) v1_ r2 ∧ Below w.heap.size w w' := by
 have hu45 := Tryz.underlying45
 have hu24 := Tryz.underlying24
 have HR0_1 := Az hr0_1
 have HC0_1 := Az hc0_1
 clear hr0_1 hc0_1
 have HB := Az (Below.refl w.heap.size w)
 have H := h
 unfold r2_To.f at H
 clear h
 have H' := Az H
 clear H
 go_enter Tryz.func42, Tryz.ntmps42
 go_wp2_with (first | ((try (refine gate_guard (by rfl) ?_; dsimp only)); refine be 1 #[.bool a0_0, .slice A0_1 l0_1.length c0_1] 45 ?_; intro gb557 hg w2 hbox hb; have BK557 := Az (hbox); have GW557 := gw (bl HB) hg; have GE557 := gw (bl HB) hg; replace HB := bs HB hb; clear hb hbox hg) | ((try (refine gate_guard (by rfl) ?_; dsimp only)); refine be 2 #[.bool false, .slice none 0 0] 24 ?_; intro gb558 hg w3 hbox hb; have BK558 := Az (hbox); have GW558 := gw (bls HB) hg; have GE558 := gw (bls HB) hg; replace HB := bs HB hb; have NB557_558 := nl BK557 hg; have NB558_557 := ng BK557 hg; replace BK557 := kb BK557 hb; clear hb hbox hg) | ((try (refine gate_guard (by rfl) ?_; dsimp only)); refine be 3 #[.bool false, .slice none 0 0] 24 ?_; intro gb559 hg w4 hbox hb; have BK559 := Az (hbox); have GW559 := gw (bls HB) hg; have GE559 := gw (bls HB) hg; replace HB := bs HB hb; have NB557_559 := nl BK557 hg; have NB559_557 := ng BK557 hg; replace BK557 := kb BK557 hb; have NB558_559 := nl BK558 hg; have NB559_558 := ng BK558 hg; replace BK558 := kb BK558 hb; clear hb hbox hg))
 go_loopg [4] k (fun kq v4 w' => ∃ (x4_1 : Int) (x560001_1 : List Int) (u560001 : Value), v4 = .int .i64 x4_1 ∧ Aside0 (r2_To.l0 kq x4_1 a0_0 l0_1 false x560001_1 = some (r1, r2)) ∧ Aside0 (kq ≤ k) ∧ Aside0 (Kd.R (Kd.int .u64) 25 w' w.heap.size (fun _ => True) u560001 x560001_1) ∧ Aside0 (w'.heap[gb557]? = some (.cells #[.bool a0_0, (.slice A0_1 l0_1.length c0_1)] 45 (0, 0))) ∧ Aside0 (w'.heap[gb558]? = some (.cells #[.bool false, (.slice none 0 0)] 24 (0, 0))) ∧ Aside0 (w'.heap[gb559]? = some (.cells #[.bool false, u560001] 24 (0, 0))) ∧ Aside0 (Below w.heap.size w w'))
 case atStart => exact ⟨(0), (([] : List Int)), (.slice none 0 0), rs, H', ⟨Nat.le_refl _⟩, ⟨Kd.R_nil _ _ _ _ _⟩, ⟨bk BK557⟩, ⟨bk BK558⟩, ⟨bk BK559⟩, ⟨bls HB⟩⟩
 case round =>
  clear H'
  obtain ⟨x4_1, x560001_1, u560001, rfl, HA, HK1, HO_560001, BK557, BK558, BK559, HB⟩ := hrel
  cases gk with
  | zero => exact absurd HA.out (by simp [r2_To.l0])
  | succ k1 =>
   have H := HA.out
   clear HA
   simp only [r2_To.l0] at H
   by_cases c5 : x4_1 < (l0_1.length : Int)
   case neg =>
    rw [if_neg c5] at H
    have c5b0 := decide_eq_false c5
    clear c5
    by_cases c25 : a0_0 = true
    ·subst c25
     rw [if_pos rfl] at H
     simp only [Option.some.injEq, Prod.mk.injEq] at H
     obtain ⟨rfl, rfl⟩ := H
     have hnb26 := NB557_558.out
     have hnc26 := NB558_557.out
     have hnb27 := NB557_559.out
     have hnc27 := NB559_557.out
     have hz28_1 := bz BK557
     have hnb29 := NB559_558.out
     have hnc29 := NB558_559.out
     have hz30_1 := bz BK559
     have hz31_2 := bz BK558
     obtain ⟨Ao32, co32, eo32⟩ := Kd.R_slice HO_560001.out
     subst eo32
     go_wp2
     refine bodyPost_ret (results_cell_row rfl _ _ gb558 24 #[.bool (decide (0 < l0_1.length)), .slice Ao32 x560001_1.length co32] (0, 0) _ rfl (by refine blk_put (cs := #[.bool (decide (0 < l0_1.length)), .slice none 0 0]) ?_ 1 _ rfl; refine blk_put (cs := #[.bool false, .slice none 0 0]) ?_ 0 _ rfl; refine blk_far ?_ NB558_559.out _; exact BK558.out) Tryz.underlying24 rfl (by kernel_rfl)) rfl ?_
     exact ⟨_, fe, rt (Kd.R_mono (Kd.R_far (p := ⟨gb558, 1, none⟩) (Kd.R_far (p := ⟨gb558, 0, none⟩) (Kd.R_far (p := ⟨gb559, 0, none⟩) (Kd.R_types (Kd.R_types HO_560001.out BK559.out (by decide)) BK558.out (by decide)) (fun _ hk => hk.1.2) (.bool (decide (0 < l0_1.length)))) (fun _ hk => hk.2) (.bool (decide (0 < l0_1.length)))) (fun _ hk => hk.2) (.slice Ao32 x560001_1.length co32)) (fun _ hk => trivial)), bls HB⟩
    replace c25 := Bool.eq_false_iff.mpr c25
    subst c25
    rw [if_neg Bool.false_ne_true] at H
    simp only [Option.some.injEq, Prod.mk.injEq] at H
    obtain ⟨rfl, rfl⟩ := H
    have hnb33 := NB557_558.out
    have hnc33 := NB558_557.out
    have hnb34 := NB557_559.out
    have hnc34 := NB559_557.out
    have hz35_1 := bz BK557
    have hnb36 := NB559_558.out
    have hnc36 := NB558_559.out
    have hz37_1 := bz BK559
    have hz38_2 := bz BK558
    obtain ⟨Ao39, co39, eo39⟩ := Kd.R_slice HO_560001.out
    subst eo39
    go_wp2
    refine bodyPost_ret (results_cell_row rfl _ _ gb558 24 #[.bool false, .slice Ao39 x560001_1.length co39] (0, 0) _ rfl (by refine blk_put (cs := #[.bool false, .slice none 0 0]) ?_ 1 _ rfl; refine blk_put (cs := #[.bool false, .slice none 0 0]) ?_ 0 _ rfl; refine blk_far ?_ NB558_559.out _; exact BK558.out) Tryz.underlying24 rfl (by kernel_rfl)) rfl ?_
    exact ⟨_, fe, rt (Kd.R_mono (Kd.R_far (p := ⟨gb558, 1, none⟩) (Kd.R_far (p := ⟨gb558, 0, none⟩) (Kd.R_far (p := ⟨gb559, 0, none⟩) (Kd.R_types (Kd.R_types HO_560001.out BK559.out (by decide)) BK558.out (by decide)) (fun _ hk => hk.1.2) (.bool false)) (fun _ hk => hk.2) (.bool false)) (fun _ hk => hk.2) (.slice Ao39 x560001_1.length co39)) (fun _ hk => trivial)), bls HB⟩
   rw [if_pos c5] at H
   have c5b0 := decide_eq_true c5
   clear c5
   have H' := Az H
   clear H
   have hnb6 := NB557_558.out
   have hnc6 := NB558_557.out
   have hnb7 := NB557_559.out
   have hnc7 := NB559_557.out
   have hz8_1 := bz BK557
   go_wp2
   go_loopg [5, 6] k1 (fun kq v5 v6 w' => ∃ (x5_2 : Int) (x6_2 : Int), v5 = .int .u64 x5_2 ∧ v6 = .int .i64 x6_2 ∧ Aside0 (r2_To.l1 kq x4_1 x5_2 x6_2 a0_0 l0_1 false x560001_1 = some (r1, r2)) ∧ Aside0 (kq ≤ k1) ∧ Aside0 (Kd.R (Kd.int .u64) 25 w' w.heap.size (fun _ => True) u560001 x560001_1) ∧ Aside0 (w'.heap[gb557]? = some (.cells #[.bool a0_0, (.slice A0_1 l0_1.length c0_1)] 45 (0, 0))) ∧ Aside0 (w'.heap[gb558]? = some (.cells #[.bool false, (.slice none 0 0)] 24 (0, 0))) ∧ Aside0 (w'.heap[gb559]? = some (.cells #[.bool false, u560001] 24 (0, 0))) ∧ Aside0 (Below w.heap.size w w'))
   case atStart => exact ⟨(0), (wrap64 (x4_1 + 17)), rs, rs, H', ⟨Nat.le_refl _⟩, ⟨rk HO_560001⟩, ⟨bk BK557⟩, ⟨bk BK558⟩, ⟨bk BK559⟩, ⟨bls HB⟩⟩
   case round =>
    clear H'
    obtain ⟨x5_2, x6_2, rfl, rfl, HA, HK2, HO_560001, BK557, BK558, BK559, HB⟩ := hrel
    cases gk with
    | zero => exact absurd HA.out (by simp [r2_To.l1])
    | succ k2 =>
     have H := HA.out
     clear HA
     simp only [r2_To.l1] at H
     by_cases c9 : x6_2 ≥ x4_1
     case neg =>
      rw [if_neg c9] at H
      have c9b0 : decide (x4_1 ≤ x6_2) = false := decide_eq_false c9
      clear c9
      by_cases c18 : x560001_1.length < 17592186044416
      case neg =>
       rw [if_neg c18] at H
       exact absurd H (by simp)
      rw [if_pos c18] at H
      have LMc18 := Az c18
      clear c18
      obtain ⟨y561, hy561⟩ : ∃ y_ : List Int, y_ = (x560001_1 ++ [x5_2]) := ⟨_, rfl⟩
      replace H : (r2_To.l0 k2 (wrap64 (x4_1 + 18)) a0_0 l0_1 false y561) = some (r1, r2) := by rw [hy561]; exact H
      have Ny561 := Az hy561
      clear hy561
      have H' := Az H
      clear H
      have hnb19 := NB559_557.out
      have hnc19 := NB557_559.out
      have hnb20 := NB559_558.out
      have hnc20 := NB558_559.out
      have hz21_1 := bz BK559
      go_wp2_with (first | ((with_reducible refine gate_builtin (b := .append) (xs := #[.tmp 37, .tmp 39]) rfl ?_); (try (refine gate_guard (by rfl) ?_; dsimp only)); at_builtin; refine Kd.R_append (Kd.int .u64) (w0 := w) w.heap.size rfl (.tmp 37) (.tmp 39) 22 25 (.int .u64 0) 8 rfl Tryz.underlying22 info25 rfl (by decide) (by omega) u560001 x560001_1 x5_2 [.int .u64 x5_2] (fun _ => True) (fun _ => False) rfl rfl ?aP (fun _ hk => hk.elim) ?aF ?aO ?aB ?aS ?aL ?_; (case aP => exact rfl); (case aB => exact (bls HB)); (case aF => exact (fun _ _ => trivial)); (case aO => exact (rk HO_560001)); (case aS => exact (below_size (bls HB))); (case aL => have := LMc18.out; omega); intro v562 w22 ho hb hg hat; rw [← Ny561.out] at ho; replace BK557 := Az (blk_grown (g := gb557) (o := .cells #[.bool a0_0, .slice A0_1 l0_1.length c0_1] 45 (0, 0)) (bk BK557) hg (Kd.R_ne HO_560001.out BK557.out (by decide))); replace BK558 := Az (blk_grown (g := gb558) (o := .cells #[.bool false, .slice none 0 0] 24 (0, 0)) (bk BK558) hg (Kd.R_ne HO_560001.out BK558.out (by decide))); replace BK559 := Az (blk_grown (g := gb559) (o := .cells #[.bool false, u560001] 24 (0, 0)) (bk BK559) hg (Kd.R_ne HO_560001.out BK559.out (by decide))); replace HB := Az (hb); have HO563 := Az (ho); clear HO_560001; clear ho hb hg hat; obtain ⟨Ao23, co23, eo23⟩ := Kd.R_slice HO563.out; subst eo23; have hz24_1 := bz BK559))
      go_roundg k2
      case measure => have := HK1.out; have := HK2.out; omega
      case rel => exact ⟨(wrap64 (x4_1 + 18)), (y561), (.slice Ao23 y561.length co23), rs, H', ⟨by have := HK1.out; have := HK2.out; omega⟩, ⟨rt (Kd.R_mono (Kd.R_far (p := ⟨gb559, 1, none⟩) (Kd.R_types HO563.out BK559.out (by decide)) (fun _ hk => hk.2) (.slice Ao23 y561.length co23)) (fun _ hk => trivial))⟩, ⟨by refine blk_far ?_ NB557_559.out _; exact BK557.out⟩, ⟨by refine blk_far ?_ NB558_559.out _; exact BK558.out⟩, ⟨by refine blk_put (cs := #[.bool false, u560001]) ?_ 1 _ rfl; exact BK559.out⟩, ⟨bls HB⟩⟩
     rw [if_pos c9] at H
     have c9b0 : decide (x4_1 ≤ x6_2) = true := decide_eq_true c9
     clear c9
     by_cases c10 : x6_2 < (l0_1.length : Int)
     case neg =>
      rw [if_neg c10] at H
      have c10b0 := decide_eq_false c10
      clear c10
      have H' := Az H
      clear H
      have hnb15 := NB557_558.out
      have hnc15 := NB558_557.out
      have hnb16 := NB557_559.out
      have hnc16 := NB559_557.out
      have hz17_1 := bz BK557
      go_wp2
      go_roundg k2
      case measure => have := HK1.out; have := HK2.out; omega
      case rel => exact ⟨(IntKind.u64.wrap (x5_2 * 10)), (wrap64 (x6_2 - 1)), rs, rs, H', ⟨by have := HK1.out; have := HK2.out; omega⟩, ⟨rk HO_560001⟩, ⟨bk BK557⟩, ⟨bk BK558⟩, ⟨bk BK559⟩, ⟨bls HB⟩⟩
     rw [if_pos c10] at H
     have c10b0 := decide_eq_true c10
     clear c10
     by_cases c11 : 0 ≤ x6_2
     case neg =>
      rw [if_neg c11] at H
      exact absurd H (by simp)
     rw [if_pos c11] at H
     have c11b0 := decide_eq_true c11
     clear c11
     have H' := Az H
     clear H
     have hnb12 := NB557_558.out
     have hnc12 := NB558_557.out
     have hnb13 := NB557_559.out
     have hnc13 := NB559_557.out
     have hz14_1 := bz BK557
     have p560 : 0 ≤ (x6_2 : Int) := ode
     have q560 : x6_2 < (l0_1.length : Int) := ode
     obtain ⟨ad560, e560, hx560_0⟩ := Kd.at_int HR0_1.out x6_2 p560 q560
     cases e560
     replace hx560_0 := (HB.out.cell (World.block_lt_of_cell? w _ hx560_0)).trans hx560_0
     replace p560 := eq_true p560
     replace q560 := eq_true q560
     go_wp2
     go_roundg k2
     case measure => have := HK1.out; have := HK2.out; omega
     case rel => exact ⟨(IntKind.u64.wrap ((IntKind.u64.wrap (x5_2 * 10)) + (IntKind.u64.wrap (rd l0_1 x6_2)))), (wrap64 (x6_2 - 1)), rs, rs, H', ⟨by have := HK1.out; have := HK2.out; omega⟩, ⟨rk HO_560001⟩, ⟨bk BK557⟩, ⟨bk BK558⟩, ⟨bk BK559⟩, ⟨bls HB⟩⟩
mutual
def r2_Int.j0 : Nat → Int → Int → Option (Bool × List Int)
 | 0, _, _ => none
 | k + 1, x0, x3 => r2_Int.l0 k x0 x3 ([] : List Int)
def r2_Int.l0 : Nat → Int → Int → List Int → Option (Bool × List Int)
 | 0, _, _, _ => none
 | k + 1, x0, x3, x4 => if x3 > 0 then (if x4.length < 140737488355328 then (r2_Int.l0 k x0 (IntKind.u64.wrap (Int.tdiv x3 10)) (x4 ++ [(Int.tmod x3 10) % 256])) else (none)) else (some (decide (x0 < 0), x4))
end
def r2_Int.f (k : Nat) (a0 : Int) : Option (Bool × List Int) := if a0 < 0 then (r2_Int.j0 k a0 (IntKind.u64.wrap (-(IntKind.u64.wrap (a0))))) else (r2_Int.j0 k a0 (IntKind.u64.wrap (a0)))
theorem r2_Int.mono_l : ∀ k, (∀ y0 y1, LeO (r2_Int.j0 k y0 y1) (r2_Int.j0 (k + 1) y0 y1)) ∧ (∀ y0 y1 y2, LeO (r2_Int.l0 k y0 y1 y2) (r2_Int.l0 (k + 1) y0 y1 y2))
 | 0 => ⟨fun _ _ r h => by simp [r2_Int.j0] at h, fun _ _ _ r h => by simp [r2_Int.l0] at h⟩
 | k + 1 => by
  obtain ⟨ih0, ih1⟩ := r2_Int.mono_l k
  refine ⟨?_, ?_⟩
  ·intro y0 y1
   unfold r2_Int.j0
   repeat' first
   | exact ih0 _ _
   | exact ih1 _ _ _
   | exact LeO.refl _
   | exact LeO.none _
   | refine LeO.ite ?_ ?_
   | refine LeO.bind ?_ (fun _ => ?_)
  ·intro y0 y1 y2
   unfold r2_Int.l0
   repeat' first
   | exact ih0 _ _
   | exact ih1 _ _ _
   | exact LeO.refl _
   | exact LeO.none _
   | refine LeO.ite ?_ ?_
   | refine LeO.bind ?_ (fun _ => ?_)
theorem r2_Int.mono : ∀ a0 k, LeO (r2_Int.f k a0) (r2_Int.f (k + 1) a0) := by
 intro a0 k
 obtain ⟨ih0, ih1⟩ := r2_Int.mono_l k
 unfold r2_Int.f
 repeat' first
   | exact ih0 _ _
   | exact ih1 _ _ _
   | exact LeO.refl _
   | exact LeO.none _
   | refine LeO.ite ?_ ?_
   | refine LeO.bind ?_ (fun _ => ?_)
theorem r2_Int.calls (k : Nat) (a0 : Int) (r1 : Bool) (r2 : List Int) (w : World) (h : r2_Int.f k a0 = some (r1, r2)) :
  Calls Tryz.prog 20 #[.int .i64 a0] w fun e w' => ∃ v1_ : Value, e = .returned (.agg #[.bool r1, v1_]) ∧ Kd.R (Kd.int .u8) 5 w' w.heap.size (fun _ => True) v1_ r2 ∧ Below w.heap.size w w' := by
 have hu45 := Tryz.underlying45
 have HB := Az (Below.refl w.heap.size w)
 have H := h
 unfold r2_Int.f at H
 clear h
 have HC2 := Az H
 clear H
 go_enter Tryz.func20, Tryz.ntmps20
 go_upto_if 8 with (first | (refine be 2 #[.bool false, .slice none 0 0] 45 ?_; intro gb570 hg w3 hbox hb; have BK570 := Az (hbox); have GW570 := gw (bl HB) hg; have GE570 := gw (bl HB) hg; replace HB := bs HB hb; clear hb hbox hg))
 (try simp only [Act.put, List.setIfInBounds_toArray, List.set_cons_zero, List.set_cons_succ])
 go_cut [3] (fun v3 wc => ∃ (kq : Nat) (x3_1 : Int), v3 = .int .u64 x3_1 ∧ Aside0 (r2_Int.j0 kq a0 x3_1 = some (r1, r2)) ∧ Aside0 (kq ≤ k) ∧ Aside0 (wc.heap[gb570]? = some (.cells #[.bool false, (.slice none 0 0)] 45 (0, 0))) ∧ Aside0 (Below w.heap.size w wc))
 case first =>
  have H := HC2.out
  clear HC2
  by_cases c4 : a0 < 0
  ·rw [if_pos c4] at H
   have c4b0 := decide_eq_true c4
   clear c4
   (first | rw [c4b0] | (simp only [i64_w, i32_w]; rw [c4b0]) | skip)
   have H' := Az H
   clear H
   go_wp2
   go_meet
   case rel => exact ⟨_, (IntKind.u64.wrap (-(IntKind.u64.wrap (a0)))), rs, H', ⟨le0⟩, ⟨bk BK570⟩, ⟨bls HB⟩⟩
  rw [if_neg c4] at H
  have c4b0 := decide_eq_false c4
  clear c4
  (first | rw [c4b0] | (simp only [i64_w, i32_w]; rw [c4b0]) | skip)
  have H' := Az H
  clear H
  go_wp2
  go_meet
  case rel => exact ⟨_, (IntKind.u64.wrap (a0)), rs, H', ⟨le0⟩, ⟨bk BK570⟩, ⟨bls HB⟩⟩
 case rest =>
  clear HC2
  obtain ⟨kq, x3_1, rfl, HA, HJ1, BK570, HB⟩ := hcut
  cases kq with
  | zero => exact absurd HA.out (by simp [r2_Int.j0])
  | succ kj1 =>
   have H := HA.out
   clear HA
   simp only [r2_Int.j0] at H
   have H' := Az H
   clear H
   go_wp2
   go_loopg [3, 4] kj1 (fun kq v3 v4 w' => ∃ (x3_2 : Int) (x4_2 : List Int), v3 = .int .u64 x3_2 ∧ Aside0 (r2_Int.l0 kq a0 x3_2 x4_2 = some (r1, r2)) ∧ Aside0 (kq ≤ kj1) ∧ Aside0 (Kd.R (Kd.int .u8) 5 w' w.heap.size (fun _ => True) v4 x4_2) ∧ Aside0 (w'.heap[gb570]? = some (.cells #[.bool false, (.slice none 0 0)] 45 (0, 0))) ∧ Aside0 (Below w.heap.size w w'))
   case atStart => exact ⟨(x3_1), (([] : List Int)), rs, H', ⟨Nat.le_refl _⟩, ⟨Kd.R_nil _ _ _ _ _⟩, ⟨bk BK570⟩, ⟨bls HB⟩⟩
   case round =>
    clear H'
    obtain ⟨x3_2, x4_2, rfl, HA, HK2, HO_4, BK570, HB⟩ := hrel
    cases gk with
    | zero => exact absurd HA.out (by simp [r2_Int.l0])
    | succ k2 =>
     have H := HA.out
     clear HA
     simp only [r2_Int.l0] at H
     by_cases c5 : x3_2 > 0
     case neg =>
      rw [if_neg c5] at H
      have c5b0 : decide (0 < x3_2) = false := decide_eq_false c5
      clear c5
      simp only [Option.some.injEq, Prod.mk.injEq] at H
      obtain ⟨rfl, rfl⟩ := H
      obtain ⟨Ao8, co8, eo8⟩ := Kd.R_slice HO_4.out
      subst eo8
      have hz9_1 := bz BK570
      go_wp2
      refine bodyPost_ret (results_cell_row rfl _ _ gb570 45 #[.bool (decide (a0 < 0)), .slice Ao8 x4_2.length co8] (0, 0) _ rfl (by refine blk_put (cs := #[.bool (decide (a0 < 0)), .slice none 0 0]) ?_ 1 _ rfl; refine blk_put (cs := #[.bool false, .slice none 0 0]) ?_ 0 _ rfl; exact BK570.out) Tryz.underlying45 rfl (by kernel_rfl)) rfl ?_
      exact ⟨_, fe, rt (Kd.R_mono (Kd.R_far (p := ⟨gb570, 1, none⟩) (Kd.R_far (p := ⟨gb570, 0, none⟩) (Kd.R_types HO_4.out BK570.out (by decide)) (fun _ hk => hk.2) (.bool (decide (a0 < 0)))) (fun _ hk => hk.2) (.slice Ao8 x4_2.length co8)) (fun _ hk => trivial)), bls HB⟩
     rw [if_pos c5] at H
     have c5b0 : decide (0 < x3_2) = true := decide_eq_true c5
     clear c5
     by_cases c6 : x4_2.length < 140737488355328
     case neg =>
      rw [if_neg c6] at H
      exact absurd H (by simp)
     rw [if_pos c6] at H
     have LMc6 := Az c6
     clear c6
     obtain ⟨y571, hy571⟩ : ∃ y_ : List Int, y_ = (x4_2 ++ [(Int.tmod x3_2 10) % 256]) := ⟨_, rfl⟩
     replace H : (r2_Int.l0 k2 a0 (IntKind.u64.wrap (Int.tdiv x3_2 10)) y571) = some (r1, r2) := by rw [hy571]; exact H
     have Ny571 := Az hy571
     clear hy571
     have H' := Az H
     clear H
     go_wp2_with (first | ((with_reducible refine gate_builtin (b := .append) (xs := #[.tmp 13, .tmp 17]) rfl ?_); at_builtin; refine Kd.R_append (Kd.int .u8) (w0 := w) w.heap.size rfl (.tmp 13) (.tmp 17) 43 5 (.int .u8 0) 1 rfl Tryz.underlying43 info5 rfl (by decide) (by omega) u4 x4_2 ((Int.tmod x3_2 10) % 256) [.int .u8 ((Int.tmod x3_2 10) % 256)] (fun _ => True) (fun _ => False) rfl rfl ?aP (fun _ hk => hk.elim) ?aF ?aO ?aB ?aS ?aL ?_; (case aP => exact rfl); (case aB => exact (bls HB)); (case aF => exact (fun _ _ => trivial)); (case aO => exact (rk HO_4)); (case aS => exact (below_size (bls HB))); (case aL => have := LMc6.out; omega); intro v572 w7 ho hb hg hat; rw [← Ny571.out] at ho; replace BK570 := Az (blk_grown (g := gb570) (o := .cells #[.bool false, .slice none 0 0] 45 (0, 0)) (bk BK570) hg (Kd.R_ne HO_4.out BK570.out (by decide))); replace HB := Az (hb); have HO573 := Az (ho); clear HO_4; clear ho hb hg hat))
     go_roundg k2
     case measure => have := HJ1.out; have := HK2.out; omega
     case rel => exact ⟨(IntKind.u64.wrap (Int.tdiv x3_2 10)), (y571), rs, H', ⟨by have := HJ1.out; have := HK2.out; omega⟩, ⟨rk HO573⟩, ⟨bk BK570⟩, ⟨bls HB⟩⟩
mutual
def r2_Same.j0 : Nat → Bool → Bool → List Int → Bool → List Int → Option (Bool)
 | 0, _, _, _, _, _ => none
 | k + 1, x19, x575000, x575001, x576000, x576001 => if x19 = true then (some false) else (r2_Same.l0 k 0 x575000 x575001 x576000 x576001)
def r2_Same.l0 : Nat → Int → Bool → List Int → Bool → List Int → Option (Bool)
 | 0, _, _, _, _, _ => none
 | k + 1, x5, x575000, x575001, x576000, x576001 => if x5 < (x575001.length : Int) then (if 0 ≤ x5 then (if x5 < (x576001.length : Int) then (if (rd x575001 x5) = (rd x576001 x5) then (r2_Same.l0 k (wrap64 (x5 + 1)) x575000 x575001 x576000 x576001) else (some false)) else (none)) else (none)) else (some true)
end
def r2_Same.f (k : Nat) (a0_0 : Bool) (l0_1 : List Int) (a1_0 : Bool) (l1_1 : List Int) : Option (Bool) := if (a0_0 != a1_0) = true then (r2_Same.j0 k true a0_0 l0_1 a1_0 l1_1) else (r2_Same.j0 k ((l0_1.length : Int) != (l1_1.length : Int)) a0_0 l0_1 a1_0 l1_1)
theorem r2_Same.mono_l : ∀ k, (∀ y0 y1 y2 y3 y4, LeO (r2_Same.j0 k y0 y1 y2 y3 y4) (r2_Same.j0 (k + 1) y0 y1 y2 y3 y4)) ∧ (∀ y0 y1 y2 y3 y4, LeO (r2_Same.l0 k y0 y1 y2 y3 y4) (r2_Same.l0 (k + 1) y0 y1 y2 y3 y4))
 | 0 => ⟨fun _ _ _ _ _ r h => by simp [r2_Same.j0] at h, fun _ _ _ _ _ r h => by simp [r2_Same.l0] at h⟩
 | k + 1 => by
  obtain ⟨ih0, ih1⟩ := r2_Same.mono_l k
  refine ⟨?_, ?_⟩
  ·intro y0 y1 y2 y3 y4
   unfold r2_Same.j0
   repeat' first
   | exact ih0 _ _ _ _ _
   | exact ih1 _ _ _ _ _
   | exact LeO.refl _
   | exact LeO.none _
   | refine LeO.ite ?_ ?_
   | refine LeO.bind ?_ (fun _ => ?_)
  ·intro y0 y1 y2 y3 y4
   unfold r2_Same.l0
   repeat' first
   | exact ih0 _ _ _ _ _
   | exact ih1 _ _ _ _ _
   | exact LeO.refl _
   | exact LeO.none _
   | refine LeO.ite ?_ ?_
   | refine LeO.bind ?_ (fun _ => ?_)
theorem r2_Same.mono : ∀ a0 a1 a2 a3 k, LeO (r2_Same.f k a0 a1 a2 a3) (r2_Same.f (k + 1) a0 a1 a2 a3) := by
 intro a0 a1 a2 a3 k
 obtain ⟨ih0, ih1⟩ := r2_Same.mono_l k
 unfold r2_Same.f
 repeat' first
   | exact ih0 _ _ _ _ _
   | exact ih1 _ _ _ _ _
   | exact LeO.refl _
   | exact LeO.none _
   | refine LeO.ite ?_ ?_
   | refine LeO.bind ?_ (fun _ => ?_)
theorem r2_Same.calls (k : Nat) (a0_0 : Bool) (A0_1 : Option Addr) (c0_1 : Nat) (l0_1 : List Int) (a1_0 : Bool) (A1_1 : Option Addr) (c1_1 : Nat) (l1_1 : List Int) (r : Bool) (w : World) (hr0_1 : Kd.C (Kd.int .u64) w A0_1 l0_1.length l0_1) (hc0_1 : l0_1.length ≤ c0_1) (hr1_1 : Kd.C (Kd.int .u64) w A1_1 l1_1.length l1_1) (hc1_1 : l1_1.length ≤ c1_1) (h : r2_Same.f k a0_0 l0_1 a1_0 l1_1 = some r) :
  Calls Tryz.prog 34 #[.agg #[.bool a0_0, .slice A0_1 l0_1.length c0_1], .agg #[.bool a1_0, .slice A1_1 l1_1.length c1_1]] w fun e w' => e = .returned (.bool r) ∧ Below w.heap.size w w' := by
 have hu24 := Tryz.underlying24
 have HR0_1 := Az hr0_1
 have HC0_1 := Az hc0_1
 clear hr0_1 hc0_1
 have HR1_1 := Az hr1_1
 have HC1_1 := Az hc1_1
 clear hr1_1 hc1_1
 have HB := Az (Below.refl w.heap.size w)
 have H := h
 unfold r2_Same.f at H
 clear h
 have HC3 := Az H
 clear H
 go_enter Tryz.func34, Tryz.ntmps34
 go_upto_region 1 with (first | ((try (refine gate_guard (by rfl) ?_; dsimp only)); refine be 2 #[.bool a0_0, .slice A0_1 l0_1.length c0_1] 24 ?_; intro gb574 hg w4 hbox hb; have BK574 := Az (hbox); have GW574 := gw (bl HB) hg; have GE574 := gw (bl HB) hg; replace HB := bs HB hb; clear hb hbox hg) | ((try (refine gate_guard (by rfl) ?_; dsimp only)); refine be 3 #[.bool a1_0, .slice A1_1 l1_1.length c1_1] 24 ?_; intro gb575 hg w5 hbox hb; have BK575 := Az (hbox); have GW575 := gw (bls HB) hg; have GE575 := gw (bls HB) hg; replace HB := bs HB hb; have NB574_575 := nl BK574 hg; have NB575_574 := ng BK574 hg; replace BK574 := kb BK574 hb; clear hb hbox hg))
 repeat (go_quiet (first | ((try (refine gate_guard (by rfl) ?_; dsimp only)); refine be 2 #[.bool a0_0, .slice A0_1 l0_1.length c0_1] 24 ?_; intro gb574 hg w4 hbox hb; have BK574 := Az (hbox); have GW574 := gw (bl HB) hg; have GE574 := gw (bl HB) hg; replace HB := bs HB hb; clear hb hbox hg) | ((try (refine gate_guard (by rfl) ?_; dsimp only)); refine be 3 #[.bool a1_0, .slice A1_1 l1_1.length c1_1] 24 ?_; intro gb575 hg w5 hbox hb; have BK575 := Az (hbox); have GW575 := gw (bls HB) hg; have GE575 := gw (bls HB) hg; replace HB := bs HB hb; have NB574_575 := nl BK574 hg; have NB575_574 := ng BK574 hg; replace BK574 := kb BK574 hb; clear hb hbox hg)); go_upto_region 1 with (first | ((try (refine gate_guard (by rfl) ?_; dsimp only)); refine be 2 #[.bool a0_0, .slice A0_1 l0_1.length c0_1] 24 ?_; intro gb574 hg w4 hbox hb; have BK574 := Az (hbox); have GW574 := gw (bl HB) hg; have GE574 := gw (bl HB) hg; replace HB := bs HB hb; clear hb hbox hg) | ((try (refine gate_guard (by rfl) ?_; dsimp only)); refine be 3 #[.bool a1_0, .slice A1_1 l1_1.length c1_1] 24 ?_; intro gb575 hg w5 hbox hb; have BK575 := Az (hbox); have GW575 := gw (bls HB) hg; have GE575 := gw (bls HB) hg; replace HB := bs HB hb; have NB574_575 := nl BK574 hg; have NB575_574 := ng BK574 hg; replace BK574 := kb BK574 hb; clear hb hbox hg)))
 (try simp only [Act.put, List.setIfInBounds_toArray, List.set_cons_zero, List.set_cons_succ])
 go_cut [19] (fun v19 wc => ∃ (kq : Nat) (x19_2 : Bool), v19 = .bool x19_2 ∧ Aside0 (r2_Same.j0 kq x19_2 a0_0 l0_1 a1_0 l1_1 = some r) ∧ Aside0 (kq ≤ k) ∧ Aside0 (wc.heap[gb574]? = some (.cells #[.bool a0_0, (.slice A0_1 l0_1.length c0_1)] 24 (0, 0))) ∧ Aside0 (wc.heap[gb575]? = some (.cells #[.bool a1_0, (.slice A1_1 l1_1.length c1_1)] 24 (0, 0))) ∧ Aside0 (Below w.heap.size w wc))
 case first =>
  have H := HC3.out
  clear HC3
  by_cases c6 : (a0_0 != a1_0) = true
  case neg =>
   rw [if_neg c6] at H
   have c6b0 : (a0_0 != a1_0) = false := by simpa using c6
   (try (have c6b1 : decide (a0_0 = a1_0) = true := by simpa using c6))
   (try (have c6b2 : (a0_0 == a1_0) = true := by simpa using c6))
   clear c6
   (first | rw [c6b0] | (simp only [i64_w, i32_w]; rw [c6b0]) | skip)
   have H' := Az H
   clear H
   have hnb10 := NB574_575.out
   have hnc10 := NB575_574.out
   have hz11_1 := bz BK574
   have hz12_2 := bz BK575
   go_wp2
   repeat (go_quiet (fail); try go_wp2)
   go_meet
   case rel => exact ⟨_, (((l0_1.length : Int) != (l1_1.length : Int))), rs, H', ⟨le0⟩, ⟨bk BK574⟩, ⟨bk BK575⟩, ⟨bls HB⟩⟩
  rw [if_pos c6] at H
  have c6b0 : (a0_0 != a1_0) = true := c6
  (try (have c6b1 : decide (a0_0 = a1_0) = false := by simpa using c6))
  (try (have c6b2 : (a0_0 == a1_0) = false := by simpa using c6))
  (try (have c6b3 : ¬ (a0_0 = a1_0) := by simpa using c6))
  clear c6
  (first | rw [c6b0] | (simp only [i64_w, i32_w]; rw [c6b0]) | skip)
  have H' := Az H
  clear H
  have hnb7 := NB574_575.out
  have hnc7 := NB575_574.out
  have hz8_1 := bz BK574
  have hz9_2 := bz BK575
  go_wp2
  repeat (go_quiet (fail); try go_wp2)
  go_meet
  case rel => exact ⟨_, (true), rs, H', ⟨le0⟩, ⟨bk BK574⟩, ⟨bk BK575⟩, ⟨bls HB⟩⟩
 case rest =>
  clear HC3
  obtain ⟨kq, x19_2, rfl, HA, HJ2, BK574, BK575, HB⟩ := hcut
  cases kq with
  | zero => exact absurd HA.out (by simp [r2_Same.j0])
  | succ kj2 =>
   have H := HA.out
   clear HA
   simp only [r2_Same.j0] at H
   by_cases c13 : x19_2 = true
   ·subst c13
    rw [if_pos rfl] at H
    obtain rfl := Option.some.inj H
    go_wp2
    repeat (go_quiet (fail); try go_wp2)
    go_ret
    exact ⟨fe, bls HB⟩
   replace c13 := Bool.eq_false_iff.mpr c13
   subst c13
   rw [if_neg Bool.false_ne_true] at H
   have H' := Az H
   clear H
   go_wp2
   repeat (go_quiet (fail); try go_wp2)
   go_loopg [5] kj2 (fun kq v5 w' => ∃ (x5_2 : Int), v5 = .int .i64 x5_2 ∧ Aside0 (r2_Same.l0 kq x5_2 a0_0 l0_1 a1_0 l1_1 = some r) ∧ Aside0 (kq ≤ kj2) ∧ Aside0 (w'.heap[gb574]? = some (.cells #[.bool a0_0, (.slice A0_1 l0_1.length c0_1)] 24 (0, 0))) ∧ Aside0 (w'.heap[gb575]? = some (.cells #[.bool a1_0, (.slice A1_1 l1_1.length c1_1)] 24 (0, 0))) ∧ Aside0 (Below w.heap.size w w'))
   case atStart => exact ⟨(0), rs, H', ⟨Nat.le_refl _⟩, ⟨bk BK574⟩, ⟨bk BK575⟩, ⟨bls HB⟩⟩
   case round =>
    clear H'
    obtain ⟨x5_2, rfl, HA, HK2, BK574, BK575, HB⟩ := hrel
    cases gk with
    | zero => exact absurd HA.out (by simp [r2_Same.l0])
    | succ k2 =>
     have H := HA.out
     clear HA
     simp only [r2_Same.l0] at H
     by_cases c14 : x5_2 < (l0_1.length : Int)
     case neg =>
      rw [if_neg c14] at H
      have c14b0 := decide_eq_false c14
      clear c14
      obtain rfl := Option.some.inj H
      have hnb24 := NB574_575.out
      have hnc24 := NB575_574.out
      have hz25_1 := bz BK574
      go_wp2
      repeat (go_quiet (fail); try go_wp2)
      go_ret
      exact ⟨fe, bls HB⟩
     rw [if_pos c14] at H
     have c14b0 := decide_eq_true c14
     clear c14
     by_cases c15 : 0 ≤ x5_2
     case neg =>
      rw [if_neg c15] at H
      exact absurd H (by simp)
     rw [if_pos c15] at H
     have c15b0 := decide_eq_true c15
     clear c15
     by_cases c16 : x5_2 < (l1_1.length : Int)
     case neg =>
      rw [if_neg c16] at H
      exact absurd H (by simp)
     rw [if_pos c16] at H
     have c16b0 := decide_eq_true c16
     clear c16
     by_cases c17 : (rd l0_1 x5_2) = (rd l1_1 x5_2)
     case neg =>
      rw [if_neg c17] at H
      have c17b0 := beq_eq_false_iff_ne.mpr c17
      have c17b1 := bne_iff_ne.mpr c17
      obtain rfl := Option.some.inj H
      have hnb21 := NB574_575.out
      have hnc21 := NB575_574.out
      have hz22_1 := bz BK574
      have p576 : 0 ≤ (x5_2 : Int) := ode
      have q576 : x5_2 < (l0_1.length : Int) := ode
      obtain ⟨ad576, e576, hx576_0⟩ := Kd.at_int HR0_1.out x5_2 p576 q576
      cases e576
      replace hx576_0 := (HB.out.cell (World.block_lt_of_cell? w _ hx576_0)).trans hx576_0
      replace p576 := eq_true p576
      replace q576 := eq_true q576
      have hz23_1 := bz BK575
      have p577 : 0 ≤ (x5_2 : Int) := ode
      have q577 : x5_2 < (l1_1.length : Int) := ode
      obtain ⟨ad577, e577, hx577_0⟩ := Kd.at_int HR1_1.out x5_2 p577 q577
      cases e577
      replace hx577_0 := (HB.out.cell (World.block_lt_of_cell? w _ hx577_0)).trans hx577_0
      replace p577 := eq_true p577
      replace q577 := eq_true q577
      go_wp2
      repeat (go_quiet (fail); try go_wp2)
      go_ret
      exact ⟨fe, bls HB⟩
     rw [if_pos c17] at H
     have c17b0 := beq_iff_eq.mpr c17
     have c17b1 := bne_eq_false_iff_eq.mpr c17
     clear c17
     have H' := Az H
     clear H
     have hnb18 := NB574_575.out
     have hnc18 := NB575_574.out
     have hz19_1 := bz BK574
     have p576 : 0 ≤ (x5_2 : Int) := ode
     have q576 : x5_2 < (l0_1.length : Int) := ode
     obtain ⟨ad576, e576, hx576_0⟩ := Kd.at_int HR0_1.out x5_2 p576 q576
     cases e576
     replace hx576_0 := (HB.out.cell (World.block_lt_of_cell? w _ hx576_0)).trans hx576_0
     replace p576 := eq_true p576
     replace q576 := eq_true q576
     have hz20_1 := bz BK575
     have p577 : 0 ≤ (x5_2 : Int) := ode
     have q577 : x5_2 < (l1_1.length : Int) := ode
     obtain ⟨ad577, e577, hx577_0⟩ := Kd.at_int HR1_1.out x5_2 p577 q577
     cases e577
     replace hx577_0 := (HB.out.cell (World.block_lt_of_cell? w _ hx577_0)).trans hx577_0
     replace p577 := eq_true p577
     replace q577 := eq_true q577
     go_wp2
     repeat (go_quiet (fail); try go_wp2)
     go_roundg k2
     case measure => have := HJ2.out; have := HK2.out; omega
     case rel => exact ⟨(wrap64 (x5_2 + 1)), rs, H', ⟨by have := HJ2.out; have := HK2.out; omega⟩, ⟨bk BK574⟩, ⟨bk BK575⟩, ⟨bls HB⟩⟩
def r2_Good.l0 : Nat → Int → Int → Bool → List Int → Option (Bool)
 | 0, _, _, _, _ => none
 | k + 1, x3, x4, x696000, x696001 => if x4 < x3 then (if 0 ≤ x4 then (if x4 < (x696001.length : Int) then (if (rd x696001 x4) ≥ 1000000000000000000 then (some false) else (r2_Good.l0 k x3 (wrap64 (x4 + 1)) x696000 x696001)) else (none)) else (none)) else (if 0 ≤ (wrap64 (x3 - 1)) then (if (wrap64 (x3 - 1)) < (x696001.length : Int) then (some ((rd x696001 (wrap64 (x3 - 1))) != 0)) else (none)) else (none))
def r2_Good.f (k : Nat) (a0_0 : Bool) (l0_1 : List Int) : Option (Bool) := if (l0_1.length : Int) = 0 then (some (!a0_0)) else (if (l0_1.length : Int) > 30 then (some false) else (r2_Good.l0 k (l0_1.length : Int) 0 a0_0 l0_1))
theorem r2_Good.calls (k : Nat) (a0_0 : Bool) (A0_1 : Option Addr) (c0_1 : Nat) (l0_1 : List Int) (r : Bool) (w : World) (hr0_1 : Kd.C (Kd.int .u64) w A0_1 l0_1.length l0_1) (hc0_1 : l0_1.length ≤ c0_1) (h : r2_Good.f k a0_0 l0_1 = some r) :
  Calls Tryz.prog 38 #[.agg #[.bool a0_0, .slice A0_1 l0_1.length c0_1]] w fun e w' => e = .returned (.bool r) ∧ Below w.heap.size w w' := by
 have hu24 := Tryz.underlying24
 have HR0_1 := Az hr0_1
 have HC0_1 := Az hc0_1
 have HB := Az (Below.refl w.heap.size w)
 have H := h
 unfold r2_Good.f at H
 by_cases c2 : (l0_1.length : Int) = 0
 ·rw [if_pos c2] at H
  obtain rfl := Option.some.inj H
  go_enter Tryz.func38, Tryz.ntmps38
  go_wp2_with (first | (refine be 1 #[.bool a0_0, .slice A0_1 l0_1.length c0_1] 24 ?_; intro gb695 hg w3 hbox hb; have BK695 := Az (hbox); have GW695 := gw (bl HB) hg; have GE695 := gw (bl HB) hg; replace HB := bs HB hb; clear hb hbox hg; have hz4_1 := bz BK695))
  go_ret
  exact ⟨fe, bls HB⟩
 rw [if_neg c2] at H
 by_cases c5 : (l0_1.length : Int) > 30
 ·rw [if_pos c5] at H
  obtain rfl := Option.some.inj H
  go_enter Tryz.func38, Tryz.ntmps38
  go_wp2_with (first | (refine be 1 #[.bool a0_0, .slice A0_1 l0_1.length c0_1] 24 ?_; intro gb695 hg w6 hbox hb; have BK695 := Az (hbox); have GW695 := gw (bl HB) hg; have GE695 := gw (bl HB) hg; replace HB := bs HB hb; clear hb hbox hg; have hz7_1 := bz BK695))
  go_ret
  exact ⟨fe, bls HB⟩
 rw [if_neg c5] at H
 have H' := Az H
 go_enter Tryz.func38, Tryz.ntmps38
 go_wp2_with (first | (refine be 1 #[.bool a0_0, .slice A0_1 l0_1.length c0_1] 24 ?_; intro gb695 hg w8 hbox hb; have BK695 := Az (hbox); have GW695 := gw (bl HB) hg; have GE695 := gw (bl HB) hg; replace HB := bs HB hb; clear hb hbox hg; have hz9_1 := bz BK695))
 go_loopg [4] k (fun kq v4 w' => ∃ (x4_1 : Int), v4 = .int .i64 x4_1 ∧ Aside0 (r2_Good.l0 kq (l0_1.length : Int) x4_1 a0_0 l0_1 = some r) ∧ Aside0 (kq ≤ k) ∧ Aside0 (w'.heap[gb695]? = some (.cells #[.bool a0_0, (.slice A0_1 l0_1.length c0_1)] 24 (0, 0))) ∧ Aside0 (Below w.heap.size w w'))
 case atStart => exact ⟨(0), rs, H', ⟨Nat.le_refl _⟩, ⟨bk BK695⟩, ⟨bls HB⟩⟩
 case round =>
  obtain ⟨x4_1, rfl, HA, HK1, BK695, HB⟩ := hrel
  cases gk with
  | zero => exact absurd HA.out (by simp [r2_Good.l0])
  | succ k1 =>
   have H := HA.out
   simp only [r2_Good.l0] at H
   by_cases c10 : x4_1 < (l0_1.length : Int)
   case neg =>
    rw [if_neg c10] at H
    obtain ⟨ji16, hji16⟩ : ∃ j_ : Int, (wrap64 ((l0_1.length : Int) - 1)) = j_ := ⟨_, rfl⟩
    replace H : (if 0 ≤ (ji16) then (if (ji16) < (l0_1.length : Int) then (some ((rd l0_1 (ji16)) != 0)) else (none)) else (none)) = some r := by first | (rw [hji16] at H; exact H) | (simp only [hji16] at H ⊢; exact H)
    have hji16w : (IntKind.i64.wrap ((l0_1.length : Int) - 1)) = ji16 := (i64_w _).trans hji16
    by_cases c17 : 0 ≤ (ji16)
    case neg =>
     rw [if_neg c17] at H
     exact absurd H (by simp)
    rw [if_pos c17] at H
    have c17b0 := decide_eq_true c17
    by_cases c18 : (ji16) < (l0_1.length : Int)
    case neg =>
     rw [if_neg c18] at H
     exact absurd H (by simp)
    rw [if_pos c18] at H
    have c18b0 := decide_eq_true c18
    obtain rfl := Option.some.inj H
    have hz19_1 := bz BK695
    have p697 : 0 ≤ ((ji16) : Int) := ode
    have q697 : (ji16) < (l0_1.length : Int) := ode
    obtain ⟨ad697, e697, hx697_0⟩ := Kd.at_int HR0_1.out (ji16) p697 q697
    cases e697
    replace hx697_0 := (HB.out.cell (World.block_lt_of_cell? w _ hx697_0)).trans hx697_0
    replace p697 := eq_true p697
    replace q697 := eq_true q697
    go_wp2
    go_ret
    exact ⟨by first | rfl | (simp [errW_none, errW_some] <;> rfl) | (simp only [← hji16]; first | rfl | (simp [errW_none, errW_some] <;> rfl)) | (simp [*, errW_none, errW_some] <;> rfl), bls HB⟩
   rw [if_pos c10] at H
   have c10b0 := decide_eq_true c10
   by_cases c11 : 0 ≤ x4_1
   case neg =>
    rw [if_neg c11] at H
    exact absurd H (by simp)
   rw [if_pos c11] at H
   have c11b0 := decide_eq_true c11
   clear c11
   by_cases c12 : x4_1 < (l0_1.length : Int)
   case neg =>
    rw [if_neg c12] at H
    exact absurd H (by simp)
   rw [if_pos c12] at H
   have c12b0 := decide_eq_true c12
   clear c12
   by_cases c13 : (rd l0_1 x4_1) ≥ 1000000000000000000
   ·rw [if_pos c13] at H
    have c13b0 : decide (1000000000000000000 ≤ (rd l0_1 x4_1)) = true := decide_eq_true c13
    obtain rfl := Option.some.inj H
    have hz14_1 := bz BK695
    have p696 : 0 ≤ (x4_1 : Int) := ode
    have q696 : x4_1 < (l0_1.length : Int) := ode
    obtain ⟨ad696, e696, hx696_0⟩ := Kd.at_int HR0_1.out x4_1 p696 q696
    cases e696
    replace hx696_0 := (HB.out.cell (World.block_lt_of_cell? w _ hx696_0)).trans hx696_0
    replace p696 := eq_true p696
    replace q696 := eq_true q696
    go_wp2
    go_ret
    exact ⟨fe, bls HB⟩
   rw [if_neg c13] at H
   have c13b0 : decide (1000000000000000000 ≤ (rd l0_1 x4_1)) = false := decide_eq_false c13
   clear c13
   have H' := Az H
   clear H
   have hz15_1 := bz BK695
   have p696 : 0 ≤ (x4_1 : Int) := ode
   have q696 : x4_1 < (l0_1.length : Int) := ode
   obtain ⟨ad696, e696, hx696_0⟩ := Kd.at_int HR0_1.out x4_1 p696 q696
   cases e696
   replace hx696_0 := (HB.out.cell (World.block_lt_of_cell? w _ hx696_0)).trans hx696_0
   replace p696 := eq_true p696
   replace q696 := eq_true q696
   go_wp2
   go_roundg k1
   case measure => have := HK1.out; omega
   case rel => exact ⟨(wrap64 (x4_1 + 1)), rs, H', ⟨by have := HK1.out; omega⟩, ⟨bk BK695⟩, ⟨bls HB⟩⟩
def r2_sizes.l0 : Nat → List Int → List Int → Int → Option (Int)
 | 0, _, _, _ => none
 | k + 1, x0, x1, x5 => if x5 ≥ 0 then (if 0 ≤ x5 then (if x5 < (x0.length : Int) then (if x5 < (x1.length : Int) then (if (rd x0 x5) < (rd x1 x5) then (some (-1)) else (if (rd x0 x5) > (rd x1 x5) then (some 1) else (r2_sizes.l0 k x0 x1 (wrap64 (x5 - 1))))) else (none)) else (none)) else (none)) else (some 0)
def r2_sizes.f (k : Nat) (l0 l1 : List Int) : Option (Int) := if (l0.length : Int) < (l1.length : Int) then (some (-1)) else (if (l0.length : Int) > (l1.length : Int) then (some 1) else (r2_sizes.l0 k l0 l1 (wrap64 ((l0.length : Int) - 1))))
theorem r2_sizes.calls (k : Nat) (A0 : Option Addr) (c0 : Nat) (l0 : List Int) (A1 : Option Addr) (c1 : Nat) (l1 : List Int) (r : Int) (w : World) (hr0 : Kd.C (Kd.int .u8) w A0 l0.length l0) (hc0 : l0.length ≤ c0) (hr1 : Kd.C (Kd.int .u8) w A1 l1.length l1) (hc1 : l1.length ≤ c1) (h : r2_sizes.f k l0 l1 = some r) :
  Calls Tryz.prog 88 #[.slice A0 l0.length c0, .slice A1 l1.length c1] w fun e w' => e = .returned (.int .i64 r) ∧ Drawn0 w w' := by
 have HR0 := Az hr0
 have HC0 := Az hc0
 have HR1 := Az hr1
 have HC1 := Az hc1
 have H := h
 unfold r2_sizes.f at H
 by_cases c3 : (l0.length : Int) < (l1.length : Int)
 ·rw [if_pos c3] at H
  obtain rfl := Option.some.inj H
  go_enter Tryz.func88, Tryz.ntmps88
  go_wp2
  repeat (go_quiet (fail); try go_wp2)
  go_ret
  exact ⟨by first | rfl | (simp; done) | (simp [*]; done), by repeat (first | exact Drawn0.refl _ | apply Drawn0.step)⟩
 rw [if_neg c3] at H
 by_cases c4 : (l0.length : Int) > (l1.length : Int)
 ·rw [if_pos c4] at H
  obtain rfl := Option.some.inj H
  go_enter Tryz.func88, Tryz.ntmps88
  go_wp2
  repeat (go_quiet (fail); try go_wp2)
  go_ret
  exact ⟨by first | rfl | (simp; done) | (simp [*]; done), by repeat (first | exact Drawn0.refl _ | apply Drawn0.step)⟩
 rw [if_neg c4] at H
 have H' := Az H
 go_enter Tryz.func88, Tryz.ntmps88
 go_wp2
 repeat (go_quiet (fail); try go_wp2)
 go_loopg [5] k (fun kq v5 w' => ∃ (x5_1 : Int), v5 = .int .i64 x5_1 ∧ Aside0 (r2_sizes.l0 kq l0 l1 x5_1 = some r) ∧ Aside0 (kq ≤ k) ∧ Drawn0 w w')
 case atStart => exact ⟨(wrap64 ((l0.length : Int) - 1)), rs, H', ⟨Nat.le_refl _⟩, by repeat (first | exact Drawn0.refl _ | apply Drawn0.step)⟩
 case round =>
  obtain ⟨x5_1, rfl, HA, HK1, ⟨m1, rfl⟩⟩ := hrel
  cases gk with
  | zero => exact absurd HA.out (by simp [r2_sizes.l0])
  | succ k1 =>
   have H := HA.out
   simp only [r2_sizes.l0] at H
   by_cases c5 : x5_1 ≥ 0
   case neg =>
    rw [if_neg c5] at H
    obtain rfl := Option.some.inj H
    go_wp2
    repeat (go_quiet (fail); try go_wp2)
    go_ret
    exact ⟨by first | rfl | (simp; done) | (simp [*]; done), by repeat (first | exact Drawn0.refl _ | apply Drawn0.step)⟩
   rw [if_pos c5] at H
   by_cases c6 : 0 ≤ x5_1
   case neg =>
    rw [if_neg c6] at H
    exact absurd H (by simp)
   rw [if_pos c6] at H
   have c6b0 := decide_eq_true c6
   by_cases c7 : x5_1 < (l0.length : Int)
   case neg =>
    rw [if_neg c7] at H
    exact absurd H (by simp)
   rw [if_pos c7] at H
   have c7b0 := decide_eq_true c7
   by_cases c8 : x5_1 < (l1.length : Int)
   case neg =>
    rw [if_neg c8] at H
    exact absurd H (by simp)
   rw [if_pos c8] at H
   have c8b0 := decide_eq_true c8
   by_cases c9 : (rd l0 x5_1) < (rd l1 x5_1)
   ·rw [if_pos c9] at H
    have c9b0 := decide_eq_true c9
    obtain rfl := Option.some.inj H
    have p718 : 0 ≤ (x5_1 : Int) := ode
    have q718 : x5_1 < (l0.length : Int) := ode
    obtain ⟨ad718, e718, hx718_0⟩ := Kd.at_int HR0.out x5_1 p718 q718
    cases e718
    replace p718 := eq_true p718
    replace q718 := eq_true q718
    have p719 : 0 ≤ (x5_1 : Int) := ode
    have q719 : x5_1 < (l1.length : Int) := ode
    obtain ⟨ad719, e719, hx719_0⟩ := Kd.at_int HR1.out x5_1 p719 q719
    cases e719
    replace p719 := eq_true p719
    replace q719 := eq_true q719
    go_wp2
    repeat (go_quiet (fail); try go_wp2)
    go_ret
    exact ⟨by first | rfl | (simp; done) | (simp [*]; done), by repeat (first | exact Drawn0.refl _ | apply Drawn0.step)⟩
   rw [if_neg c9] at H
   have c9b0 := decide_eq_false c9
   by_cases c10 : (rd l0 x5_1) > (rd l1 x5_1)
   ·rw [if_pos c10] at H
    have c10b0 : decide ((rd l1 x5_1) < (rd l0 x5_1)) = true := decide_eq_true c10
    obtain rfl := Option.some.inj H
    have p718 : 0 ≤ (x5_1 : Int) := ode
    have q718 : x5_1 < (l0.length : Int) := ode
    obtain ⟨ad718, e718, hx718_0⟩ := Kd.at_int HR0.out x5_1 p718 q718
    cases e718
    replace p718 := eq_true p718
    replace q718 := eq_true q718
    have p719 : 0 ≤ (x5_1 : Int) := ode
    have q719 : x5_1 < (l1.length : Int) := ode
    obtain ⟨ad719, e719, hx719_0⟩ := Kd.at_int HR1.out x5_1 p719 q719
    cases e719
    replace p719 := eq_true p719
    replace q719 := eq_true q719
    have p720 : 0 ≤ (x5_1 : Int) := ode
    have q720 : x5_1 < (l0.length : Int) := ode
    obtain ⟨ad720, e720, hx720_0⟩ := Kd.at_int HR0.out x5_1 p720 q720
    obtain rfl : ad718 = ad720 := (by injection e720)
    replace p720 := eq_true p720
    replace q720 := eq_true q720
    have p721 : 0 ≤ (x5_1 : Int) := ode
    have q721 : x5_1 < (l1.length : Int) := ode
    obtain ⟨ad721, e721, hx721_0⟩ := Kd.at_int HR1.out x5_1 p721 q721
    obtain rfl : ad719 = ad721 := (by injection e721)
    replace p721 := eq_true p721
    replace q721 := eq_true q721
    go_wp2
    repeat (go_quiet (fail); try go_wp2)
    go_ret
    exact ⟨by first | rfl | (simp; done) | (simp [*]; done), by repeat (first | exact Drawn0.refl _ | apply Drawn0.step)⟩
   rw [if_neg c10] at H
   have c10b0 : decide ((rd l1 x5_1) < (rd l0 x5_1)) = false := decide_eq_false c10
   have H' := Az H
   have p718 : 0 ≤ (x5_1 : Int) := ode
   have q718 : x5_1 < (l0.length : Int) := ode
   obtain ⟨ad718, e718, hx718_0⟩ := Kd.at_int HR0.out x5_1 p718 q718
   cases e718
   replace p718 := eq_true p718
   replace q718 := eq_true q718
   have p719 : 0 ≤ (x5_1 : Int) := ode
   have q719 : x5_1 < (l1.length : Int) := ode
   obtain ⟨ad719, e719, hx719_0⟩ := Kd.at_int HR1.out x5_1 p719 q719
   cases e719
   replace p719 := eq_true p719
   replace q719 := eq_true q719
   have p720 : 0 ≤ (x5_1 : Int) := ode
   have q720 : x5_1 < (l0.length : Int) := ode
   obtain ⟨ad720, e720, hx720_0⟩ := Kd.at_int HR0.out x5_1 p720 q720
   obtain rfl : ad718 = ad720 := (by injection e720)
   replace p720 := eq_true p720
   replace q720 := eq_true q720
   have p721 : 0 ≤ (x5_1 : Int) := ode
   have q721 : x5_1 < (l1.length : Int) := ode
   obtain ⟨ad721, e721, hx721_0⟩ := Kd.at_int HR1.out x5_1 p721 q721
   obtain rfl : ad719 = ad721 := (by injection e721)
   replace p721 := eq_true p721
   replace q721 := eq_true q721
   go_wp2
   repeat (go_quiet (fail); try go_wp2)
   go_roundg k1
   case measure => have := HK1.out; omega
   case rel => exact ⟨(wrap64 (x5_1 - 1)), rs, H', ⟨by have := HK1.out; omega⟩, by repeat (first | exact Drawn0.refl _ | apply Drawn0.step)⟩
mutual
def r2_Cmp.j0 : Nat → Bool → Bool → List Int → Bool → List Int → Option (Int)
 | 0, _, _, _, _, _ => none
 | k + 1, x5, x723000, x723001, x724000, x724001 => if x5 = true then (some (-1)) else (if x724000 = true then (r2_Cmp.j1 k (!x723000) x723000 x723001 x724000 x724001) else (r2_Cmp.j1 k false x723000 x723001 x724000 x724001))
def r2_Cmp.j1 : Nat → Bool → Bool → List Int → Bool → List Int → Option (Int)
 | 0, _, _, _, _, _ => none
 | k + 1, x13, x723000, x723001, x724000, x724001 => if x13 = true then (some 1) else (if x723000 = true then ((r2_sizes.f k x724001 x723001).bind fun t724 => (some t724)) else ((r2_sizes.f k x723001 x724001).bind fun t725 => (some t725)))
end
def r2_Cmp.f (k : Nat) (a0_0 : Bool) (l0_1 : List Int) (a1_0 : Bool) (l1_1 : List Int) : Option (Int) := if a0_0 = true then (r2_Cmp.j0 k (!a1_0) a0_0 l0_1 a1_0 l1_1) else (r2_Cmp.j0 k false a0_0 l0_1 a1_0 l1_1)
theorem r2_Cmp.calls (k : Nat) (a0_0 : Bool) (A0_1 : Option Addr) (c0_1 : Nat) (l0_1 : List Int) (a1_0 : Bool) (A1_1 : Option Addr) (c1_1 : Nat) (l1_1 : List Int) (r : Int) (w : World) (hr0_1 : Kd.C (Kd.int .u8) w A0_1 l0_1.length l0_1) (hc0_1 : l0_1.length ≤ c0_1) (hr1_1 : Kd.C (Kd.int .u8) w A1_1 l1_1.length l1_1) (hc1_1 : l1_1.length ≤ c1_1) (h : r2_Cmp.f k a0_0 l0_1 a1_0 l1_1 = some r) :
  Calls Tryz.prog 57 #[.agg #[.bool a0_0, .slice A0_1 l0_1.length c0_1], .agg #[.bool a1_0, .slice A1_1 l1_1.length c1_1]] w fun e w' => e = .returned (.int .i64 r) ∧ Below w.heap.size w w' := by
 have hu45 := Tryz.underlying45
 have HR0_1 := Az hr0_1
 have HC0_1 := Az hc0_1
 clear hr0_1 hc0_1
 have HR1_1 := Az hr1_1
 have HC1_1 := Az hc1_1
 clear hr1_1 hc1_1
 have HB := Az (Below.refl w.heap.size w)
 have H := h
 unfold r2_Cmp.f at H
 clear h
 have HC3 := Az H
 clear H
 go_enter Tryz.func57, Tryz.ntmps57
 go_upto_region 1 with (first | (refine be 2 #[.bool a0_0, .slice A0_1 l0_1.length c0_1] 45 ?_; intro gb722 hg w4 hbox hb; have BK722 := Az (hbox); have GW722 := gw (bl HB) hg; have GE722 := gw (bl HB) hg; replace HB := bs HB hb; clear hb hbox hg) | (refine be 3 #[.bool a1_0, .slice A1_1 l1_1.length c1_1] 45 ?_; intro gb723 hg w5 hbox hb; have BK723 := Az (hbox); have GW723 := gw (bls HB) hg; have GE723 := gw (bls HB) hg; replace HB := bs HB hb; have NB722_723 := nl BK722 hg; have NB723_722 := ng BK722 hg; replace BK722 := kb BK722 hb; clear hb hbox hg))
 (try simp only [Act.put, List.setIfInBounds_toArray, List.set_cons_zero, List.set_cons_succ])
 go_cut [5] (fun v5 wc => ∃ (kq : Nat) (x5_2 : Bool), v5 = .bool x5_2 ∧ Aside0 (r2_Cmp.j0 kq x5_2 a0_0 l0_1 a1_0 l1_1 = some r) ∧ Aside0 (kq ≤ k) ∧ Aside0 (wc.heap[gb722]? = some (.cells #[.bool a0_0, (.slice A0_1 l0_1.length c0_1)] 45 (0, 0))) ∧ Aside0 (wc.heap[gb723]? = some (.cells #[.bool a1_0, (.slice A1_1 l1_1.length c1_1)] 45 (0, 0))) ∧ Aside0 (Below w.heap.size w wc))
 case first =>
  have H := HC3.out
  clear HC3
  by_cases c6 : a0_0 = true
  ·subst c6
   rw [if_pos rfl] at H
   have H' := Az H
   clear H
   have hnb7 := NB722_723.out
   have hnc7 := NB723_722.out
   have hz8_1 := bz BK722
   have hz9_2 := bz BK723
   go_wp2
   go_meet
   case rel => exact ⟨_, (!a1_0), rs, H', ⟨le0⟩, ⟨bk BK722⟩, ⟨bk BK723⟩, ⟨bls HB⟩⟩
  replace c6 := Bool.eq_false_iff.mpr c6
  subst c6
  rw [if_neg Bool.false_ne_true] at H
  have H' := Az H
  clear H
  have hnb10 := NB722_723.out
  have hnc10 := NB723_722.out
  have hz11_1 := bz BK722
  go_wp2
  go_meet
  case rel => exact ⟨_, (false), rs, H', ⟨le0⟩, ⟨bk BK722⟩, ⟨bk BK723⟩, ⟨bls HB⟩⟩
 case rest =>
  clear HC3
  obtain ⟨kq, x5_2, rfl, HA, HJ2, BK722, BK723, HB⟩ := hcut
  cases kq with
  | zero => exact absurd HA.out (by simp [r2_Cmp.j0])
  | succ kj2 =>
   have H := HA.out
   clear HA
   simp only [r2_Cmp.j0] at H
   by_cases c12 : x5_2 = true
   ·subst c12
    rw [if_pos rfl] at H
    obtain rfl := Option.some.inj H
    go_wp2
    go_ret
    exact ⟨fe, bls HB⟩
   replace c12 := Bool.eq_false_iff.mpr c12
   subst c12
   rw [if_neg Bool.false_ne_true] at H
   have HC13 := Az H
   clear H
   go_upto_region 3 with (fail)
   go_cut [13] (fun v13 wc => ∃ (kq : Nat) (x13_12 : Bool), v13 = .bool x13_12 ∧ Aside0 (r2_Cmp.j1 kq x13_12 a0_0 l0_1 a1_0 l1_1 = some r) ∧ Aside0 (kq ≤ kj2) ∧ Aside0 (wc.heap[gb722]? = some (.cells #[.bool a0_0, (.slice A0_1 l0_1.length c0_1)] 45 (0, 0))) ∧ Aside0 (wc.heap[gb723]? = some (.cells #[.bool a1_0, (.slice A1_1 l1_1.length c1_1)] 45 (0, 0))) ∧ Aside0 (Below w.heap.size w wc))
   case first =>
    have H := HC13.out
    clear HC13
    by_cases c14 : a1_0 = true
    ·subst c14
     rw [if_pos rfl] at H
     have H' := Az H
     clear H
     have hnb15 := NB723_722.out
     have hnc15 := NB722_723.out
     have hz16_1 := bz BK723
     have hz17_2 := bz BK722
     go_wp2
     go_meet
     case rel => exact ⟨_, (!a0_0), rs, H', ⟨le1 HJ2⟩, ⟨bk BK722⟩, ⟨bk BK723⟩, ⟨bls HB⟩⟩
    replace c14 := Bool.eq_false_iff.mpr c14
    subst c14
    rw [if_neg Bool.false_ne_true] at H
    have H' := Az H
    clear H
    have hnb18 := NB723_722.out
    have hnc18 := NB722_723.out
    have hz19_1 := bz BK723
    go_wp2
    go_meet
    case rel => exact ⟨_, (false), rs, H', ⟨le1 HJ2⟩, ⟨bk BK722⟩, ⟨bk BK723⟩, ⟨bls HB⟩⟩
   case rest =>
    clear HC13
    obtain ⟨kq, x13_12, rfl, HA, HJ12, BK722, BK723, HB⟩ := hcut
    cases kq with
    | zero => exact absurd HA.out (by simp [r2_Cmp.j1])
    | succ kj12 =>
     have H := HA.out
     clear HA
     simp only [r2_Cmp.j1] at H
     by_cases c20 : x13_12 = true
     ·subst c20
      rw [if_pos rfl] at H
      obtain rfl := Option.some.inj H
      go_wp2
      go_ret
      exact ⟨fe, bls HB⟩
     replace c20 := Bool.eq_false_iff.mpr c20
     subst c20
     rw [if_neg Bool.false_ne_true] at H
     by_cases c21 : a0_0 = true
     ·subst c21
      rw [if_pos rfl] at H
      obtain ⟨t724, A22, H⟩ := bd H
      obtain rfl := Option.some.inj H
      have hnb23 := NB722_723.out
      have hnc23 := NB723_722.out
      have hz24_1 := bz BK722
      have hz25_2 := bz BK723
      go_wp2_with (first | (refine gl (some 28) Tryz.func88 #[.slice A1_1 l1_1.length c1_1, .slice A0_1 l0_1.length c0_1] ?_; (with_reducible refine (r2_sizes.calls kj12 _ _ l1_1 _ _ l0_1 t724 _ (ck HR1_1 HB) HC1_1.out (ck HR0_1 HB) HC0_1.out A22.out).mono ?_); rintro e w' ⟨rfl, ⟨nd, rfl⟩⟩; refine ⟨_, rfl, ?_⟩))
      go_ret
      exact ⟨fe, bls HB⟩
     replace c21 := Bool.eq_false_iff.mpr c21
     subst c21
     rw [if_neg Bool.false_ne_true] at H
     obtain ⟨t725, A26, H⟩ := bd H
     obtain rfl := Option.some.inj H
     have hnb27 := NB722_723.out
     have hnc27 := NB723_722.out
     have hz28_1 := bz BK722
     have hz29_2 := bz BK723
     go_wp2_with (first | (refine gl (some 33) Tryz.func88 #[.slice A0_1 l0_1.length c0_1, .slice A1_1 l1_1.length c1_1] ?_; (with_reducible refine (r2_sizes.calls kj12 _ _ l0_1 _ _ l1_1 t725 _ (ck HR0_1 HB) HC0_1.out (ck HR1_1 HB) HC1_1.out A26.out).mono ?_); rintro e w' ⟨rfl, ⟨nd, rfl⟩⟩; refine ⟨_, rfl, ?_⟩))
     go_ret
     exact ⟨fe, bls HB⟩
def r2_cut.l0 : Nat → List Int → Int → Option (List Int)
 | 0, _, _ => none
 | k + 1, x0, x3 => if x3 > 0 then (if 0 ≤ (wrap64 (x3 - 1)) then (if (wrap64 (x3 - 1)) < (x0.length : Int) then (if (rd x0 (wrap64 (x3 - 1))) = 0 then (r2_cut.l0 k x0 (wrap64 (x3 - 1))) else (if 0 ≤ x3 then (if x3 ≤ (x0.length : Int) then (some (x0.take (x3 : Int).toNat)) else (none)) else (none))) else (none)) else (none)) else (if 0 ≤ x3 then (if x3 ≤ (x0.length : Int) then (some (x0.take (x3 : Int).toNat)) else (none)) else (none))
def r2_cut.f (k : Nat) (l0 : List Int) : Option (List Int) := r2_cut.l0 k l0 (l0.length : Int)
theorem r2_cut.calls (k : Nat) (P0_ : Nat → Prop) (A0 : Option Addr) (c0 : Nat) (l0 r : List Int) (w : World) (hs0 : Kd.V (Kd.int .u8) 5 w w.heap.size (fun k_ => P0_ k_) (.slice A0 l0.length c0) l0) (h : r2_cut.f k l0 = some r) :
  Calls Tryz.prog 121 #[.slice A0 l0.length c0] w fun e w' => ∃ v0_ : Value, e = .returned (v0_) ∧ Kd.V (Kd.int .u8) 5 w' w.heap.size (fun k_ => (P0_ k_ ∨ w.heap.size ≤ k_)) v0_ r ∧ Below w.heap.size w w' := by
 have HO0 := Az (show Kd.V (Kd.int .u8) 5 w w.heap.size (fun k_ => (P0_ k_ ∨ w.heap.size ≤ k_)) (.slice A0 l0.length c0) l0 from Kd.V_mono hs0 (fun k_ hk => .inl hk))
 have HB := Az (Below.refl w.heap.size w)
 have H := h
 unfold r2_cut.f at H
 have H' := Az H
 go_enter Tryz.func121, Tryz.ntmps121
 go_wp2
 go_loopg [3] k (fun kq v3 w' => ∃ (x3_1 : Int), v3 = .int .i64 x3_1 ∧ Aside0 (r2_cut.l0 kq l0 x3_1 = some r) ∧ Aside0 (kq ≤ k) ∧ Aside0 (Kd.V (Kd.int .u8) 5 w' w.heap.size (fun k_ => (P0_ k_ ∨ w.heap.size ≤ k_)) (.slice A0 l0.length c0) l0) ∧ Aside0 (Below w.heap.size w w'))
 case atStart => exact ⟨((l0.length : Int)), rs, H', ⟨Nat.le_refl _⟩, ⟨vk HO0⟩, ⟨bl HB⟩⟩
 case round =>
  obtain ⟨x3_1, rfl, HA, HK1, HO_0, HB⟩ := hrel
  cases gk with
  | zero => exact absurd HA.out (by simp [r2_cut.l0])
  | succ k1 =>
   have H := HA.out
   simp only [r2_cut.l0] at H
   by_cases c2 : x3_1 > 0
   case neg =>
    rw [if_neg c2] at H
    by_cases c10 : 0 ≤ x3_1
    case neg =>
     rw [if_neg c10] at H
     exact absurd H (by simp)
    rw [if_pos c10] at H
    have c10b0 := eq_true c10
    have c10b1 := decide_eq_true c10
    by_cases c11 : x3_1 ≤ (l0.length : Int)
    case neg =>
     rw [if_neg c11] at H
     exact absurd H (by simp)
    rw [if_pos c11] at H
    have c11b0 := eq_true c11
    have c11b1 := decide_eq_true c11
    clear c11
    obtain ⟨y732, hy732⟩ : ∃ y_ : List Int, y_ = (l0.take (x3_1 : Int).toNat) := ⟨_, rfl⟩
    replace H : (some y732) = some r := by first | (rw [hy732]; with_reducible exact H) | (have H2_ := (Option.bind_some _ _).symm.trans H; rw [hy732]; with_reducible exact H2_) | (have H2_ := (Option.bind_some _ _).symm.trans H; with_reducible exact H2_) | with_reducible exact H | (rw [hy732]; exact H) | exact H
    have Ny732 := Az hy732
    clear hy732
    obtain rfl := Option.some.inj H
    have q12 : (x3_1 : Int) ≤ ((l0.length : Int) : Int) := ode
    obtain ⟨i012, hi012, _, hsz12, _⟩ := info_parts info5
    have hroom12 : l0.length ≤ c0 := (Kd.V_reads' HO_0.out).2.1
    have hC12 : Kd.F (Kd.int .u8) _ _ A0 l0.length l0 := (Kd.V_at (base := w.heap.size) HO_0.out).2.2
    have hcut12 := cut_to (P := Tryz.prog) 43 5 .i64 Tryz.underlying43 hi012 A0 l0.length c0 x3_1 (ode) q12 hroom12
    have hr12 := Kd.F_take (m := (x3_1 : Int).toNat) hC12 (by omega)
    have hy12 : y732.length = (x3_1 : Int).toNat := (by rw [Ny732.out, List.length_take]; omega)
    rw [← Ny732.out] at hr12
    rw [← hy12] at hcut12
    have HO736 := Az (show Kd.V (Kd.int .u8) 5 _ w.heap.size _ (.slice A0 y732.length c0) y732 from Kd.V_mk (by omega) hr12)
    have HC736 := Az (show y732.length ≤ c0 from by omega)
    clear hr12 hC12 hroom12 hi012 hsz12
    have KY12 := Az hy12
    clear hy12
    replace q12 := eq_true q12
    go_wp2
    go_ret
    exact ⟨_, fe, vk HO736, bl HB⟩
   rw [if_pos c2] at H
   obtain ⟨ji3, hji3⟩ : ∃ j_ : Int, (wrap64 (x3_1 - 1)) = j_ := ⟨_, rfl⟩
   replace H : (if 0 ≤ (ji3) then (if (ji3) < (l0.length : Int) then (if (rd l0 (ji3)) = 0 then (r2_cut.l0 k1 l0 ji3) else (if 0 ≤ x3_1 then (if x3_1 ≤ (l0.length : Int) then (some (l0.take (x3_1 : Int).toNat)) else (none)) else (none))) else (none)) else (none)) = some r := by first | (rw [hji3] at H; exact H) | (simp only [hji3] at H ⊢; exact H)
   have hji3w : (IntKind.i64.wrap (x3_1 - 1)) = ji3 := (i64_w _).trans hji3
   by_cases c4 : 0 ≤ (ji3)
   case neg =>
    rw [if_neg c4] at H
    exact absurd H (by simp)
   rw [if_pos c4] at H
   have c4b0 := decide_eq_true c4
   by_cases c5 : (ji3) < (l0.length : Int)
   case neg =>
    rw [if_neg c5] at H
    exact absurd H (by simp)
   rw [if_pos c5] at H
   have c5b0 := decide_eq_true c5
   by_cases c6 : (rd l0 (ji3)) = 0
   ·rw [if_pos c6] at H
    have c6b0 := beq_iff_eq.mpr c6
    have c6b1 := bne_eq_false_iff_eq.mpr c6
    have H' := Az H
    have p726 : 0 ≤ ((ji3) : Int) := ode
    have q726 : (ji3) < (l0.length : Int) := ode
    obtain ⟨ad726, e726, hx726_0⟩ := Kd.at_int (Kd.V_reads' HO_0.out).2.2 (ji3) p726 q726
    cases e726
    replace p726 := eq_true p726
    replace q726 := eq_true q726
    go_wp2
    go_roundg k1
    case measure => have := HK1.out; omega
    case rel => exact ⟨(ji3), (by first | rfl | (simp; done) | (simp only [← hji3] <;> (first | rfl | simp)) | (simp [*]; done)), H', ⟨by have := HK1.out; omega⟩, ⟨vk HO_0⟩, ⟨bl HB⟩⟩
   rw [if_neg c6] at H
   by_cases c7 : 0 ≤ x3_1
   case neg =>
    rw [if_neg c7] at H
    exact absurd H (by simp)
   rw [if_pos c7] at H
   have c7b0 := eq_true c7
   have c7b1 := decide_eq_true c7
   by_cases c8 : x3_1 ≤ (l0.length : Int)
   case neg =>
    rw [if_neg c8] at H
    exact absurd H (by simp)
   rw [if_pos c8] at H
   have c8b0 := eq_true c8
   have c8b1 := decide_eq_true c8
   clear c8
   obtain ⟨y727, hy727⟩ : ∃ y_ : List Int, y_ = (l0.take (x3_1 : Int).toNat) := ⟨_, rfl⟩
   replace H : (some y727) = some r := by first | (rw [hy727]; with_reducible exact H) | (have H2_ := (Option.bind_some _ _).symm.trans H; rw [hy727]; with_reducible exact H2_) | (have H2_ := (Option.bind_some _ _).symm.trans H; with_reducible exact H2_) | with_reducible exact H | (rw [hy727]; exact H) | exact H
   have Ny727 := Az hy727
   clear hy727
   obtain rfl := Option.some.inj H
   have p726 : 0 ≤ ((ji3) : Int) := ode
   have q726 : (ji3) < (l0.length : Int) := ode
   obtain ⟨ad726, e726, hx726_0⟩ := Kd.at_int (Kd.V_reads' HO_0.out).2.2 (ji3) p726 q726
   cases e726
   replace p726 := eq_true p726
   replace q726 := eq_true q726
   have q9 : (x3_1 : Int) ≤ ((l0.length : Int) : Int) := ode
   obtain ⟨i09, hi09, _, hsz9, _⟩ := info_parts info5
   have hroom9 : l0.length ≤ c0 := (Kd.V_reads' HO_0.out).2.1
   have hC9 : Kd.F (Kd.int .u8) _ _ (some ad726) l0.length l0 := (Kd.V_at (base := w.heap.size) HO_0.out).2.2
   have hcut9 := cut_to (P := Tryz.prog) 43 5 .i64 Tryz.underlying43 hi09 (some ad726) l0.length c0 x3_1 (ode) q9 hroom9
   have hr9 := Kd.F_take (m := (x3_1 : Int).toNat) hC9 (by omega)
   have hy9 : y727.length = (x3_1 : Int).toNat := (by rw [Ny727.out, List.length_take]; omega)
   rw [← Ny727.out] at hr9
   rw [← hy9] at hcut9
   have HO731 := Az (show Kd.V (Kd.int .u8) 5 _ w.heap.size _ (.slice (some ad726) y727.length c0) y727 from Kd.V_mk (by omega) hr9)
   have HC731 := Az (show y727.length ≤ c0 from by omega)
   clear hr9 hC9 hroom9 hi09 hsz9
   have KY9 := Az hy9
   clear hy9
   replace q9 := eq_true q9
   go_wp2
   go_ret
   exact ⟨_, by first | rfl | (simp [errW_none, errW_some] <;> rfl) | (simp only [← hji3]; first | rfl | (simp [errW_none, errW_some] <;> rfl)) | (simp [*, errW_none, errW_some] <;> rfl), vk HO731, bl HB⟩
end Go.Proofs.YtkenmmfplnheaaaGreatDoor.P
