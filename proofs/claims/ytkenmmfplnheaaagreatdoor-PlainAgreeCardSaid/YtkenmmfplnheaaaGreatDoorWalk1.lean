/- The functions' forms and the proofs that the machine computes them: printed by a changed copy of the kit's printer, shortened by a program. -/
import Derived.Test.YtkenmmfplnheaaaGreatDoorKit2
namespace Go.Proofs.YtkenmmfplnheaaaGreatDoor.P
open Go.Proofs.YtkenmmfplnheaaaGreatDoor.Giv
open Go.RowKit Go.Proofs.YtkenmmfplnheaaaGreatDoorW.PrintWords Go.Proofs.YtkenmmfplnheaaaGreatDoorW.PrintLast Go.Proofs.YtkenmmfplnheaaaGreatDoorW.PrintMore
attribute [local go_sem] max2_int min2_int max_two min_two max_three min_three max_four min_four   -- for this text's walks alone
set_option linter.unusedVariables false
set_option linter.unusedSimpArgs false
set_option maxHeartbeats 8000000
set_option maxRecDepth 100000
def bits_Len64.f (a0 : Int) : Option Int := if 0 ≤ a0 then if a0 ≤ 18446744073709551615 then some (Lib.bitLen a0.toNat : Int) else none else none
theorem bits_Len64.calls (a0 r : Int) (w : World) (h : bits_Len64.f a0 = some r) :
  Calls Tryz.prog 144 #[.int .u64 a0] w fun e w' => e = .returned (.int .i64 r) ∧ Drawn0 w w' := by
 unfold bits_Len64.f at h
 by_cases h0 : 0 ≤ a0
 ·rw [if_pos h0] at h
  by_cases h1 : a0 ≤ 18446744073709551615
  ·rw [if_pos h1] at h
   obtain rfl := Option.some.inj h
   refine (Tryz.bits_Len64 a0 w h0 h1).mono ?_
   rintro e w' ⟨rfl, rfl⟩
   exact ⟨rfl, Drawn0.refl _⟩
  ·rw [if_neg h1] at h; exact absurd h (by simp)
 ·rw [if_neg h0] at h; exact absurd h (by simp)
def bits_LeadingZeros64.f (a0 : Int) : Option (Int) := (bits_Len64.f a0).bind fun t153 => (some (wrap64 (64 - t153)))
theorem bits_LeadingZeros64.calls (a0 r : Int) (w : World) (h : bits_LeadingZeros64.f a0 = some r) :
  Calls Tryz.prog 125 #[.int .u64 a0] w fun e w' => e = .returned (.int .i64 r) ∧ Drawn0 w w' := by
 have H := h
 unfold bits_LeadingZeros64.f at H
 clear h
 obtain ⟨t153, A2, H⟩ := bd H
 obtain rfl := Option.some.inj H
 go_enter Tryz.func125, Tryz.ntmps125
 go_wp2_with (first | (refine gl (some 4) Tryz.func144 #[.int .u64 a0] ?_; (with_reducible refine (bits_Len64.calls a0 t153 _ A2.out).mono ?_); rintro e w' ⟨rfl, ⟨nd, rfl⟩⟩; refine ⟨_, rfl, ?_⟩))
 go_ret
 exact ⟨by first | rfl | (simp; done) | (simp [*]; done), by repeat (first | exact Drawn0.refl _ | apply Drawn0.step)⟩
mutual
def bits_Div64.j2 : Nat → Int → Int → Int → Int → Int → Int → Int → Int → Option (Int × Int)
 | 0, _, _, _, _, _, _, _, _ => none
 | k + 1, x2, x8, x9, x10, x11, x13, x14, x15 => if x9 = 0 then (none) else (bits_Div64.l1 k x2 x8 x9 x10 x14 x15 (IntKind.u64.wrap ((IntKind.u64.wrap ((IntKind.u64.wrap ((IntKind.u64.wrap (x11 * 4294967296)) + x13)) - (IntKind.u64.wrap (x15 * x2)))) - (IntKind.u64.wrap ((IntKind.u64.wrap (Int.tdiv (IntKind.u64.wrap ((IntKind.u64.wrap ((IntKind.u64.wrap (x11 * 4294967296)) + x13)) - (IntKind.u64.wrap (x15 * x2)))) x9)) * x9)))) (IntKind.u64.wrap ((IntKind.u64.wrap ((IntKind.u64.wrap (x11 * 4294967296)) + x13)) - (IntKind.u64.wrap (x15 * x2)))) (IntKind.u64.wrap (Int.tdiv (IntKind.u64.wrap ((IntKind.u64.wrap ((IntKind.u64.wrap (x11 * 4294967296)) + x13)) - (IntKind.u64.wrap (x15 * x2)))) x9)))
def bits_Div64.l1 : Nat → Int → Int → Int → Int → Int → Int → Int → Int → Int → Option (Int × Int)
 | 0, _, _, _, _, _, _, _, _, _ => none
 | k + 1, x2, x8, x9, x10, x14, x15, x16, x17, x18 => if x18 ≥ 4294967296 then (bits_Div64.j4 k x2 x8 x9 x10 x14 x15 x16 x17 x18 true) else (bits_Div64.j4 k x2 x8 x9 x10 x14 x15 x16 x17 x18 (decide ((IntKind.u64.wrap (x18 * x10)) > (IntKind.u64.wrap ((IntKind.u64.wrap (4294967296 * x16)) + x14)))))
def bits_Div64.j4 : Nat → Int → Int → Int → Int → Int → Int → Int → Int → Int → Bool → Option (Int × Int)
 | 0, _, _, _, _, _, _, _, _, _, _ => none
 | k + 1, x2, x8, x9, x10, x14, x15, x16, x17, x18, x113 => if x113 = true then (if (IntKind.u64.wrap (x16 + x9)) ≥ 4294967296 then (if 0 ≤ x8 then (some (IntKind.u64.wrap ((IntKind.u64.wrap (x15 * 4294967296)) + (IntKind.u64.wrap (x18 - 1))), shr .u64 (IntKind.u64.wrap ((IntKind.u64.wrap ((IntKind.u64.wrap (x17 * 4294967296)) + x14)) - (IntKind.u64.wrap ((IntKind.u64.wrap (x18 - 1)) * x2)))) x8)) else (none)) else (bits_Div64.l1 k x2 x8 x9 x10 x14 x15 (IntKind.u64.wrap (x16 + x9)) x17 (IntKind.u64.wrap (x18 - 1)))) else (if 0 ≤ x8 then (some (IntKind.u64.wrap ((IntKind.u64.wrap (x15 * 4294967296)) + x18), shr .u64 (IntKind.u64.wrap ((IntKind.u64.wrap ((IntKind.u64.wrap (x17 * 4294967296)) + x14)) - (IntKind.u64.wrap (x18 * x2)))) x8)) else (none))
def bits_Div64.l0 : Nat → Int → Int → Int → Int → Int → Int → Int → Int → Int → Option (Int × Int)
 | 0, _, _, _, _, _, _, _, _, _ => none
 | k + 1, x2, x8, x9, x10, x11, x13, x14, x15, x16 => if x15 ≥ 4294967296 then (bits_Div64.j1 k x2 x8 x9 x10 x11 x13 x14 x15 x16 true) else (bits_Div64.j1 k x2 x8 x9 x10 x11 x13 x14 x15 x16 (decide ((IntKind.u64.wrap (x15 * x10)) > (IntKind.u64.wrap ((IntKind.u64.wrap (4294967296 * x16)) + x13)))))
def bits_Div64.j1 : Nat → Int → Int → Int → Int → Int → Int → Int → Int → Int → Bool → Option (Int × Int)
 | 0, _, _, _, _, _, _, _, _, _, _ => none
 | k + 1, x2, x8, x9, x10, x11, x13, x14, x15, x16, x78 => if x78 = true then (if (IntKind.u64.wrap (x16 + x9)) ≥ 4294967296 then (bits_Div64.j2 k x2 x8 x9 x10 x11 x13 x14 (IntKind.u64.wrap (x15 - 1))) else (bits_Div64.l0 k x2 x8 x9 x10 x11 x13 x14 (IntKind.u64.wrap (x15 - 1)) (IntKind.u64.wrap (x16 + x9)))) else (bits_Div64.j2 k x2 x8 x9 x10 x11 x13 x14 x15)
end
def bits_Div64.f (k : Nat) (a0 a1 a2 : Int) : Option (Int × Int) := if a2 = 0 then (none) else (if a2 ≤ a0 then (none) else (if a0 = 0 then (some (IntKind.u64.wrap (Int.tdiv a1 a2), Int.tmod a1 a2)) else ((bits_LeadingZeros64.f a2).bind fun t154 => (if 0 ≤ (IntKind.u64.wrap (t154)) then (if 0 ≤ (IntKind.u64.wrap (64 - (IntKind.u64.wrap (t154)))) then (if ((shl .u64 a2 (IntKind.u64.wrap (t154))) / 4294967296) = 0 then (none) else (bits_Div64.l0 k (shl .u64 a2 (IntKind.u64.wrap (t154))) (IntKind.u64.wrap (t154)) ((shl .u64 a2 (IntKind.u64.wrap (t154))) / 4294967296) (Go.bits .and .u64 (shl .u64 a2 (IntKind.u64.wrap (t154))) 4294967295) (Go.bits .or .u64 (shl .u64 a0 (IntKind.u64.wrap (t154))) (shr .u64 a1 (IntKind.u64.wrap (64 - (IntKind.u64.wrap (t154)))))) ((shl .u64 a1 (IntKind.u64.wrap (t154))) / 4294967296) (Go.bits .and .u64 (shl .u64 a1 (IntKind.u64.wrap (t154))) 4294967295) (IntKind.u64.wrap (Int.tdiv (Go.bits .or .u64 (shl .u64 a0 (IntKind.u64.wrap (t154))) (shr .u64 a1 (IntKind.u64.wrap (64 - (IntKind.u64.wrap (t154)))))) ((shl .u64 a2 (IntKind.u64.wrap (t154))) / 4294967296))) (IntKind.u64.wrap ((Go.bits .or .u64 (shl .u64 a0 (IntKind.u64.wrap (t154))) (shr .u64 a1 (IntKind.u64.wrap (64 - (IntKind.u64.wrap (t154)))))) - (IntKind.u64.wrap ((IntKind.u64.wrap (Int.tdiv (Go.bits .or .u64 (shl .u64 a0 (IntKind.u64.wrap (t154))) (shr .u64 a1 (IntKind.u64.wrap (64 - (IntKind.u64.wrap (t154)))))) ((shl .u64 a2 (IntKind.u64.wrap (t154))) / 4294967296))) * ((shl .u64 a2 (IntKind.u64.wrap (t154))) / 4294967296))))))) else (none)) else (none)))))
theorem bits_Div64.mono_l : ∀ k, (∀ y0 y1 y2 y3 y4 y5 y6 y7, LeO (bits_Div64.j2 k y0 y1 y2 y3 y4 y5 y6 y7) (bits_Div64.j2 (k + 1) y0 y1 y2 y3 y4 y5 y6 y7)) ∧ (∀ y0 y1 y2 y3 y4 y5 y6 y7 y8, LeO (bits_Div64.l1 k y0 y1 y2 y3 y4 y5 y6 y7 y8) (bits_Div64.l1 (k + 1) y0 y1 y2 y3 y4 y5 y6 y7 y8)) ∧ (∀ y0 y1 y2 y3 y4 y5 y6 y7 y8 y9, LeO (bits_Div64.j4 k y0 y1 y2 y3 y4 y5 y6 y7 y8 y9) (bits_Div64.j4 (k + 1) y0 y1 y2 y3 y4 y5 y6 y7 y8 y9)) ∧ (∀ y0 y1 y2 y3 y4 y5 y6 y7 y8, LeO (bits_Div64.l0 k y0 y1 y2 y3 y4 y5 y6 y7 y8) (bits_Div64.l0 (k + 1) y0 y1 y2 y3 y4 y5 y6 y7 y8)) ∧ (∀ y0 y1 y2 y3 y4 y5 y6 y7 y8 y9, LeO (bits_Div64.j1 k y0 y1 y2 y3 y4 y5 y6 y7 y8 y9) (bits_Div64.j1 (k + 1) y0 y1 y2 y3 y4 y5 y6 y7 y8 y9))
 | 0 => ⟨fun _ _ _ _ _ _ _ _ r h => by simp [bits_Div64.j2] at h, fun _ _ _ _ _ _ _ _ _ r h => by simp [bits_Div64.l1] at h, fun _ _ _ _ _ _ _ _ _ _ r h => by simp [bits_Div64.j4] at h, fun _ _ _ _ _ _ _ _ _ r h => by simp [bits_Div64.l0] at h, fun _ _ _ _ _ _ _ _ _ _ r h => by simp [bits_Div64.j1] at h⟩
 | k + 1 => by
  obtain ⟨ih0, ih1, ih2, ih3, ih4⟩ := bits_Div64.mono_l k
  refine ⟨?_, ?_, ?_, ?_, ?_⟩
  ·intro y0 y1 y2 y3 y4 y5 y6 y7
   unfold bits_Div64.j2
   repeat' first
   | exact ih0 _ _ _ _ _ _ _ _
   | exact ih1 _ _ _ _ _ _ _ _ _
   | exact ih2 _ _ _ _ _ _ _ _ _ _
   | exact ih3 _ _ _ _ _ _ _ _ _
   | exact ih4 _ _ _ _ _ _ _ _ _ _
   | exact LeO.refl _
   | exact LeO.none _
   | refine LeO.ite ?_ ?_
   | refine LeO.bind ?_ (fun _ => ?_)
  ·intro y0 y1 y2 y3 y4 y5 y6 y7 y8
   unfold bits_Div64.l1
   repeat' first
   | exact ih0 _ _ _ _ _ _ _ _
   | exact ih1 _ _ _ _ _ _ _ _ _
   | exact ih2 _ _ _ _ _ _ _ _ _ _
   | exact ih3 _ _ _ _ _ _ _ _ _
   | exact ih4 _ _ _ _ _ _ _ _ _ _
   | exact LeO.refl _
   | exact LeO.none _
   | refine LeO.ite ?_ ?_
   | refine LeO.bind ?_ (fun _ => ?_)
  ·intro y0 y1 y2 y3 y4 y5 y6 y7 y8 y9
   unfold bits_Div64.j4
   repeat' first
   | exact ih0 _ _ _ _ _ _ _ _
   | exact ih1 _ _ _ _ _ _ _ _ _
   | exact ih2 _ _ _ _ _ _ _ _ _ _
   | exact ih3 _ _ _ _ _ _ _ _ _
   | exact ih4 _ _ _ _ _ _ _ _ _ _
   | exact LeO.refl _
   | exact LeO.none _
   | refine LeO.ite ?_ ?_
   | refine LeO.bind ?_ (fun _ => ?_)
  ·intro y0 y1 y2 y3 y4 y5 y6 y7 y8
   unfold bits_Div64.l0
   repeat' first
   | exact ih0 _ _ _ _ _ _ _ _
   | exact ih1 _ _ _ _ _ _ _ _ _
   | exact ih2 _ _ _ _ _ _ _ _ _ _
   | exact ih3 _ _ _ _ _ _ _ _ _
   | exact ih4 _ _ _ _ _ _ _ _ _ _
   | exact LeO.refl _
   | exact LeO.none _
   | refine LeO.ite ?_ ?_
   | refine LeO.bind ?_ (fun _ => ?_)
  ·intro y0 y1 y2 y3 y4 y5 y6 y7 y8 y9
   unfold bits_Div64.j1
   repeat' first
   | exact ih0 _ _ _ _ _ _ _ _
   | exact ih1 _ _ _ _ _ _ _ _ _
   | exact ih2 _ _ _ _ _ _ _ _ _ _
   | exact ih3 _ _ _ _ _ _ _ _ _
   | exact ih4 _ _ _ _ _ _ _ _ _ _
   | exact LeO.refl _
   | exact LeO.none _
   | refine LeO.ite ?_ ?_
   | refine LeO.bind ?_ (fun _ => ?_)
theorem bits_Div64.mono : ∀ a0 a1 a2 k, LeO (bits_Div64.f k a0 a1 a2) (bits_Div64.f (k + 1) a0 a1 a2) := by
 intro a0 a1 a2 k
 obtain ⟨ih0, ih1, ih2, ih3, ih4⟩ := bits_Div64.mono_l k
 unfold bits_Div64.f
 repeat' first
   | exact ih0 _ _ _ _ _ _ _ _
   | exact ih1 _ _ _ _ _ _ _ _ _
   | exact ih2 _ _ _ _ _ _ _ _ _ _
   | exact ih3 _ _ _ _ _ _ _ _ _
   | exact ih4 _ _ _ _ _ _ _ _ _ _
   | exact LeO.refl _
   | exact LeO.none _
   | refine LeO.ite ?_ ?_
   | refine LeO.bind ?_ (fun _ => ?_)
theorem bits_Div64.calls (k : Nat) (a0 a1 a2 r1 r2 : Int) (w : World) (h : bits_Div64.f k a0 a1 a2 = some (r1, r2)) :
  Calls Tryz.prog 93 #[.int .u64 a0, .int .u64 a1, .int .u64 a2] w fun e w' => e = .returned (.tuple #[.int .u64 r1, .int .u64 r2]) ∧ Drawn0 w w' := by
 have H := h
 unfold bits_Div64.f at H
 by_cases c4 : a2 = 0
 ·rw [if_pos c4] at H
  exact absurd H (by simp)
 rw [if_neg c4] at H
 by_cases c5 : a2 ≤ a0
 ·rw [if_pos c5] at H
  exact absurd H (by simp)
 rw [if_neg c5] at H
 by_cases c6 : a0 = 0
 ·rw [if_pos c6] at H
  simp only [Option.some.injEq, Prod.mk.injEq] at H
  obtain ⟨rfl, rfl⟩ := H
  go_enter Tryz.func93, Tryz.ntmps93
  go_wp2
  repeat (go_quiet (fail); try go_wp2)
  go_ret2
  exact ⟨by first | rfl | (simp; done) | (simp [*]; done), by repeat (first | exact Drawn0.refl _ | apply Drawn0.step)⟩
 rw [if_neg c6] at H
 obtain ⟨t154, A7, H⟩ := bd H
 obtain ⟨ji8, hji8⟩ : ∃ j_ : Int, (IntKind.u64.wrap (t154)) = j_ := ⟨_, rfl⟩
 replace H : (if 0 ≤ (ji8) then (if 0 ≤ (IntKind.u64.wrap (64 - (ji8))) then (if ((shl .u64 a2 (ji8)) / 4294967296) = 0 then (none) else (bits_Div64.l0 k (shl .u64 a2 (ji8)) ji8 ((shl .u64 a2 (ji8)) / 4294967296) (Go.bits .and .u64 (shl .u64 a2 (ji8)) 4294967295) (Go.bits .or .u64 (shl .u64 a0 (ji8)) (shr .u64 a1 (IntKind.u64.wrap (64 - (ji8))))) ((shl .u64 a1 (ji8)) / 4294967296) (Go.bits .and .u64 (shl .u64 a1 (ji8)) 4294967295) (IntKind.u64.wrap (Int.tdiv (Go.bits .or .u64 (shl .u64 a0 (ji8)) (shr .u64 a1 (IntKind.u64.wrap (64 - (ji8))))) ((shl .u64 a2 (ji8)) / 4294967296))) (IntKind.u64.wrap ((Go.bits .or .u64 (shl .u64 a0 (ji8)) (shr .u64 a1 (IntKind.u64.wrap (64 - (ji8))))) - (IntKind.u64.wrap ((IntKind.u64.wrap (Int.tdiv (Go.bits .or .u64 (shl .u64 a0 (ji8)) (shr .u64 a1 (IntKind.u64.wrap (64 - (ji8))))) ((shl .u64 a2 (ji8)) / 4294967296))) * ((shl .u64 a2 (ji8)) / 4294967296))))))) else (none)) else (none)) = some (r1, r2) := by first | (rw [hji8] at H; exact H) | (simp only [hji8] at H ⊢; exact H)
 by_cases c9 : 0 ≤ (ji8)
 case neg =>
  rw [if_neg c9] at H
  exact absurd H (by simp)
 rw [if_pos c9] at H
 obtain ⟨ji10, hji10⟩ : ∃ j_ : Int, (shl .u64 a2 (ji8)) = j_ := ⟨_, rfl⟩
 replace H : (if 0 ≤ (IntKind.u64.wrap (64 - (ji8))) then (if ((ji10) / 4294967296) = 0 then (none) else (bits_Div64.l0 k ji10 ji8 ((ji10) / 4294967296) (Go.bits .and .u64 (ji10) 4294967295) (Go.bits .or .u64 (shl .u64 a0 (ji8)) (shr .u64 a1 (IntKind.u64.wrap (64 - (ji8))))) ((shl .u64 a1 (ji8)) / 4294967296) (Go.bits .and .u64 (shl .u64 a1 (ji8)) 4294967295) (IntKind.u64.wrap (Int.tdiv (Go.bits .or .u64 (shl .u64 a0 (ji8)) (shr .u64 a1 (IntKind.u64.wrap (64 - (ji8))))) ((ji10) / 4294967296))) (IntKind.u64.wrap ((Go.bits .or .u64 (shl .u64 a0 (ji8)) (shr .u64 a1 (IntKind.u64.wrap (64 - (ji8))))) - (IntKind.u64.wrap ((IntKind.u64.wrap (Int.tdiv (Go.bits .or .u64 (shl .u64 a0 (ji8)) (shr .u64 a1 (IntKind.u64.wrap (64 - (ji8))))) ((ji10) / 4294967296))) * ((ji10) / 4294967296))))))) else (none)) = some (r1, r2) := by first | (rw [hji10] at H; exact H) | (simp only [hji10] at H ⊢; exact H)
 have hji10_ : (IntKind.u64.wrap (a2 * 2 ^ min (ji8).toNat 64)) = ji10 := hji10
 have hji10z : (ji8) ≤ 64 → (IntKind.u64.wrap (a2 * 2 ^ (ji8).toNat)) = ji10 := shl_small hji10
 obtain ⟨ji12, hji12⟩ : ∃ j_ : Int, (shl .u64 a0 (ji8)) = j_ := ⟨_, rfl⟩
 replace H : (if 0 ≤ (IntKind.u64.wrap (64 - (ji8))) then (if ((ji10) / 4294967296) = 0 then (none) else (bits_Div64.l0 k ji10 ji8 ((ji10) / 4294967296) (Go.bits .and .u64 (ji10) 4294967295) (Go.bits .or .u64 (ji12) (shr .u64 a1 (IntKind.u64.wrap (64 - (ji8))))) ((shl .u64 a1 (ji8)) / 4294967296) (Go.bits .and .u64 (shl .u64 a1 (ji8)) 4294967295) (IntKind.u64.wrap (Int.tdiv (Go.bits .or .u64 (ji12) (shr .u64 a1 (IntKind.u64.wrap (64 - (ji8))))) ((ji10) / 4294967296))) (IntKind.u64.wrap ((Go.bits .or .u64 (ji12) (shr .u64 a1 (IntKind.u64.wrap (64 - (ji8))))) - (IntKind.u64.wrap ((IntKind.u64.wrap (Int.tdiv (Go.bits .or .u64 (ji12) (shr .u64 a1 (IntKind.u64.wrap (64 - (ji8))))) ((ji10) / 4294967296))) * ((ji10) / 4294967296))))))) else (none)) = some (r1, r2) := by first | (rw [hji12] at H; exact H) | (simp only [hji12] at H ⊢; exact H)
 have hji12_ : (IntKind.u64.wrap (a0 * 2 ^ min (ji8).toNat 64)) = ji12 := hji12
 have hji12z : (ji8) ≤ 64 → (IntKind.u64.wrap (a0 * 2 ^ (ji8).toNat)) = ji12 := shl_small hji12
 obtain ⟨ji13, hji13⟩ : ∃ j_ : Int, (IntKind.u64.wrap (64 - (ji8))) = j_ := ⟨_, rfl⟩
 replace H : (if 0 ≤ (ji13) then (if ((ji10) / 4294967296) = 0 then (none) else (bits_Div64.l0 k ji10 ji8 ((ji10) / 4294967296) (Go.bits .and .u64 (ji10) 4294967295) (Go.bits .or .u64 (ji12) (shr .u64 a1 (ji13))) ((shl .u64 a1 (ji8)) / 4294967296) (Go.bits .and .u64 (shl .u64 a1 (ji8)) 4294967295) (IntKind.u64.wrap (Int.tdiv (Go.bits .or .u64 (ji12) (shr .u64 a1 (ji13))) ((ji10) / 4294967296))) (IntKind.u64.wrap ((Go.bits .or .u64 (ji12) (shr .u64 a1 (ji13))) - (IntKind.u64.wrap ((IntKind.u64.wrap (Int.tdiv (Go.bits .or .u64 (ji12) (shr .u64 a1 (ji13))) ((ji10) / 4294967296))) * ((ji10) / 4294967296))))))) else (none)) = some (r1, r2) := by first | (rw [hji13] at H; exact H) | (simp only [hji13] at H ⊢; exact H)
 by_cases c14 : 0 ≤ (ji13)
 case neg =>
  rw [if_neg c14] at H
  exact absurd H (by simp)
 rw [if_pos c14] at H
 obtain ⟨ji15, hji15⟩ : ∃ j_ : Int, (shr .u64 a1 (ji13)) = j_ := ⟨_, rfl⟩
 replace H : (if ((ji10) / 4294967296) = 0 then (none) else (bits_Div64.l0 k ji10 ji8 ((ji10) / 4294967296) (Go.bits .and .u64 (ji10) 4294967295) (Go.bits .or .u64 (ji12) (ji15)) ((shl .u64 a1 (ji8)) / 4294967296) (Go.bits .and .u64 (shl .u64 a1 (ji8)) 4294967295) (IntKind.u64.wrap (Int.tdiv (Go.bits .or .u64 (ji12) (ji15)) ((ji10) / 4294967296))) (IntKind.u64.wrap ((Go.bits .or .u64 (ji12) (ji15)) - (IntKind.u64.wrap ((IntKind.u64.wrap (Int.tdiv (Go.bits .or .u64 (ji12) (ji15)) ((ji10) / 4294967296))) * ((ji10) / 4294967296))))))) = some (r1, r2) := by first | (rw [hji15] at H; exact H) | (simp only [hji15] at H ⊢; exact H)
 have hji15_ : (a1 / 2 ^ min (ji13).toNat 64) = ji15 := hji15
 have hji15z : (ji13) ≤ 64 → (a1 / 2 ^ (ji13).toNat) = ji15 := shr_small hji15
 obtain ⟨ji17, hji17⟩ : ∃ j_ : Int, (shl .u64 a1 (ji8)) = j_ := ⟨_, rfl⟩
 replace H : (if ((ji10) / 4294967296) = 0 then (none) else (bits_Div64.l0 k ji10 ji8 ((ji10) / 4294967296) (Go.bits .and .u64 (ji10) 4294967295) (Go.bits .or .u64 (ji12) (ji15)) ((ji17) / 4294967296) (Go.bits .and .u64 (ji17) 4294967295) (IntKind.u64.wrap (Int.tdiv (Go.bits .or .u64 (ji12) (ji15)) ((ji10) / 4294967296))) (IntKind.u64.wrap ((Go.bits .or .u64 (ji12) (ji15)) - (IntKind.u64.wrap ((IntKind.u64.wrap (Int.tdiv (Go.bits .or .u64 (ji12) (ji15)) ((ji10) / 4294967296))) * ((ji10) / 4294967296))))))) = some (r1, r2) := by first | (rw [hji17] at H; exact H) | (simp only [hji17] at H ⊢; exact H)
 have hji17_ : (IntKind.u64.wrap (a1 * 2 ^ min (ji8).toNat 64)) = ji17 := hji17
 have hji17z : (ji8) ≤ 64 → (IntKind.u64.wrap (a1 * 2 ^ (ji8).toNat)) = ji17 := shl_small hji17
 by_cases c18 : ((ji10) / 4294967296) = 0
 ·rw [if_pos c18] at H
  exact absurd H (by simp)
 rw [if_neg c18] at H
 have HC19 := Az H
 go_enter Tryz.func93, Tryz.ntmps93
 go_upto_block 0 with (first | (go_at_call 125; (with_reducible refine (bits_LeadingZeros64.calls a2 t154 _ A7.out).mono ?_); rintro e w' ⟨rfl, ⟨nd, rfl⟩⟩; (try first | exact ⟨rfl, _, World.drewN_drewN _ _ _⟩ | exact ⟨rfl, _, Eq.trans (World.drewN_drewN _ _ _) (congrArg (World.drewN _) (Nat.add_assoc _ _ _))⟩)))
 repeat (go_quiet (first | (go_at_call 125; (with_reducible refine (bits_LeadingZeros64.calls a2 t154 _ A7.out).mono ?_); rintro e w' ⟨rfl, ⟨nd, rfl⟩⟩; (try first | exact ⟨rfl, _, World.drewN_drewN _ _ _⟩ | exact ⟨rfl, _, Eq.trans (World.drewN_drewN _ _ _) (congrArg (World.drewN _) (Nat.add_assoc _ _ _))⟩))); go_upto_block 0 with (first | (go_at_call 125; (with_reducible refine (bits_LeadingZeros64.calls a2 t154 _ A7.out).mono ?_); rintro e w' ⟨rfl, ⟨nd, rfl⟩⟩; (try first | exact ⟨rfl, _, World.drewN_drewN _ _ _⟩ | exact ⟨rfl, _, Eq.trans (World.drewN_drewN _ _ _) (congrArg (World.drewN _) (Nat.add_assoc _ _ _))⟩))))
 go_cut [15] (fun v15 wc => ∃ (kq : Nat) (x15_18 : Int), v15 = .int .u64 x15_18 ∧ Aside0 (bits_Div64.j2 kq ji10 ji8 ((ji10) / 4294967296) (Go.bits .and .u64 (ji10) 4294967295) (Go.bits .or .u64 (ji12) (ji15)) ((ji17) / 4294967296) (Go.bits .and .u64 (ji17) 4294967295) x15_18 = some (r1, r2)) ∧ Aside0 (kq ≤ k) ∧ Drawn0 w wc)
 case first =>
  have H := HC19.out
  have H' := Az H
  go_wp2
  repeat (go_quiet (fail); try go_wp2)
  go_loopg [15, 16] k (fun kq v15 v16 w' => ∃ (x15_1 : Int) (x16_1 : Int), v15 = .int .u64 x15_1 ∧ v16 = .int .u64 x16_1 ∧ Aside0 (bits_Div64.l0 kq ji10 ji8 ((ji10) / 4294967296) (Go.bits .and .u64 (ji10) 4294967295) (Go.bits .or .u64 (ji12) (ji15)) ((ji17) / 4294967296) (Go.bits .and .u64 (ji17) 4294967295) x15_1 x16_1 = some (r1, r2)) ∧ Aside0 (kq ≤ k) ∧ Drawn0 w w')
  case atStart => exact ⟨(IntKind.u64.wrap (Int.tdiv (Go.bits .or .u64 (ji12) (ji15)) ((ji10) / 4294967296))), (IntKind.u64.wrap ((Go.bits .or .u64 (ji12) (ji15)) - (IntKind.u64.wrap ((IntKind.u64.wrap (Int.tdiv (Go.bits .or .u64 (ji12) (ji15)) ((ji10) / 4294967296))) * ((ji10) / 4294967296))))), (by first | rfl | (simp; done) | (simp only [← hji10, ← hji12, ← hji15] <;> (first | rfl | simp)) | (simp [*]; done)), (by first | rfl | (simp; done) | (simp only [← hji10, ← hji12, ← hji15] <;> (first | rfl | simp)) | (simp [*]; done)), H', ⟨Nat.le_refl _⟩, by repeat (first | exact Drawn0.refl _ | apply Drawn0.step)⟩
  case round =>
   obtain ⟨x15_1, x16_1, rfl, rfl, HA, HK1, ⟨m1, rfl⟩⟩ := hrel
   cases gk with
   | zero => exact absurd HA.out (by simp [bits_Div64.l0])
   | succ k1 =>
    have H := HA.out
    simp only [bits_Div64.l0] at H
    have HC20 := Az H
    go_upto_region 17 with (fail)
    repeat (go_quiet (fail); go_upto_region 17 with (fail))
    go_cut [78] (fun v78 wc => ∃ (kq : Nat) (x78_19 : Bool), v78 = .bool x78_19 ∧ Aside0 (bits_Div64.j1 kq ji10 ji8 ((ji10) / 4294967296) (Go.bits .and .u64 (ji10) 4294967295) (Go.bits .or .u64 (ji12) (ji15)) ((ji17) / 4294967296) (Go.bits .and .u64 (ji17) 4294967295) x15_1 x16_1 x78_19 = some (r1, r2)) ∧ Aside0 (kq ≤ k1) ∧ Drawn0 w wc)
    case first =>
     have H := HC20.out
     by_cases c21 : x15_1 ≥ 4294967296
     ·rw [if_pos c21] at H
      (first | rw [c21b0] | (simp only [i64_w, i32_w]; rw [c21b0]) | skip)
      have H' := Az H
      go_wp2
      repeat (go_quiet (fail); try go_wp2)
      go_meet
      case rel => exact ⟨_, (true), rs, H', ⟨le1 HK1⟩, by repeat (first | exact Drawn0.refl _ | apply Drawn0.step)⟩
     rw [if_neg c21] at H
     (first | rw [c21b0] | (simp only [i64_w, i32_w]; rw [c21b0]) | skip)
     have H' := Az H
     go_wp2
     repeat (go_quiet (fail); try go_wp2)
     go_meet
     case rel => exact ⟨_, (decide ((IntKind.u64.wrap (x15_1 * (Go.bits .and .u64 (ji10) 4294967295))) > (IntKind.u64.wrap ((IntKind.u64.wrap (4294967296 * x16_1)) + ((ji17) / 4294967296))))), (by first | rfl | (simp; done) | (simp only [← hji10, ← hji17] <;> (first | rfl | simp)) | (simp [*]; done)), H', ⟨le1 HK1⟩, by repeat (first | exact Drawn0.refl _ | apply Drawn0.step)⟩
    case rest =>
     obtain ⟨kq, x78_19, rfl, HA, HJ19, ⟨mc19, rfl⟩⟩ := hcut
     cases kq with
     | zero => exact absurd HA.out (by simp [bits_Div64.j1])
     | succ kj19 =>
      have H := HA.out
      simp only [bits_Div64.j1] at H
      by_cases c22 : x78_19 = true
      case neg =>
       replace c22 := Bool.eq_false_iff.mpr c22
       subst c22
       rw [if_neg Bool.false_ne_true] at H
       have H' := Az H
       go_wp2
       repeat (go_quiet (fail); try go_wp2)
       go_meet
       case rel => exact ⟨_, (x15_1), rs, H', ⟨le2 HK1 HJ19⟩, by repeat (first | exact Drawn0.refl _ | apply Drawn0.step)⟩
      subst c22
      rw [if_pos rfl] at H
      by_cases c23 : (IntKind.u64.wrap (x16_1 + ((ji10) / 4294967296))) ≥ 4294967296
      ·rw [if_pos c23] at H
       have H' := Az H
       go_wp2
       repeat (go_quiet (fail); try go_wp2)
       go_meet
       case rel => exact ⟨_, (IntKind.u64.wrap (x15_1 - 1)), rs, H', ⟨le2 HK1 HJ19⟩, by repeat (first | exact Drawn0.refl _ | apply Drawn0.step)⟩
      rw [if_neg c23] at H
      have H' := Az H
      go_wp2
      repeat (go_quiet (fail); try go_wp2)
      go_roundg kj19
      case measure => have := HK1.out; have := HJ19.out; omega
      case rel => exact ⟨(IntKind.u64.wrap (x15_1 - 1)), (IntKind.u64.wrap (x16_1 + ((ji10) / 4294967296))), rs, (by first | rfl | (simp; done) | (simp only [← hji10] <;> (first | rfl | simp)) | (simp [*]; done)), H', ⟨by have := HK1.out; have := HJ19.out; omega⟩, by repeat (first | exact Drawn0.refl _ | apply Drawn0.step)⟩
 case rest =>
  obtain ⟨kq, x15_18, rfl, HA, HJ18, ⟨mc18, rfl⟩⟩ := hcut
  cases kq with
  | zero => exact absurd HA.out (by simp [bits_Div64.j2])
  | succ kj18 =>
   have H := HA.out
   simp only [bits_Div64.j2] at H
   by_cases c24 : ((ji10) / 4294967296) = 0
   ·rw [if_pos c24] at H
    exact absurd H (by simp)
   rw [if_neg c24] at H
   have H' := Az H
   go_wp2
   repeat (go_quiet (fail); try go_wp2)
   go_loopg [16, 18] kj18 (fun kq v16 v18 w' => ∃ (x16_2 : Int) (x18_2 : Int), v16 = .int .u64 x16_2 ∧ v18 = .int .u64 x18_2 ∧ Aside0 (bits_Div64.l1 kq ji10 ji8 ((ji10) / 4294967296) (Go.bits .and .u64 (ji10) 4294967295) (Go.bits .and .u64 (ji17) 4294967295) x15_18 x16_2 (IntKind.u64.wrap ((IntKind.u64.wrap ((IntKind.u64.wrap ((Go.bits .or .u64 (ji12) (ji15)) * 4294967296)) + ((ji17) / 4294967296))) - (IntKind.u64.wrap (x15_18 * ji10)))) x18_2 = some (r1, r2)) ∧ Aside0 (kq ≤ kj18) ∧ Drawn0 w w')
   case atStart => exact ⟨(IntKind.u64.wrap ((IntKind.u64.wrap ((IntKind.u64.wrap ((IntKind.u64.wrap ((Go.bits .or .u64 (ji12) (ji15)) * 4294967296)) + ((ji17) / 4294967296))) - (IntKind.u64.wrap (x15_18 * ji10)))) - (IntKind.u64.wrap ((IntKind.u64.wrap (Int.tdiv (IntKind.u64.wrap ((IntKind.u64.wrap ((IntKind.u64.wrap ((Go.bits .or .u64 (ji12) (ji15)) * 4294967296)) + ((ji17) / 4294967296))) - (IntKind.u64.wrap (x15_18 * ji10)))) ((ji10) / 4294967296))) * ((ji10) / 4294967296))))), (IntKind.u64.wrap (Int.tdiv (IntKind.u64.wrap ((IntKind.u64.wrap ((IntKind.u64.wrap ((Go.bits .or .u64 (ji12) (ji15)) * 4294967296)) + ((ji17) / 4294967296))) - (IntKind.u64.wrap (x15_18 * ji10)))) ((ji10) / 4294967296))), (by first | rfl | (simp; done) | (simp only [← hji10, ← hji12, ← hji15, ← hji17] <;> (first | rfl | simp)) | (simp [*]; done)), (by first | rfl | (simp; done) | (simp only [← hji10, ← hji12, ← hji15, ← hji17] <;> (first | rfl | simp)) | (simp [*]; done)), H', ⟨Nat.le_refl _⟩, by repeat (first | exact Drawn0.refl _ | apply Drawn0.step)⟩
   case round =>
    obtain ⟨x16_2, x18_2, rfl, rfl, HA, HK2, ⟨m2, rfl⟩⟩ := hrel
    cases gk with
    | zero => exact absurd HA.out (by simp [bits_Div64.l1])
    | succ k2 =>
     have H := HA.out
     simp only [bits_Div64.l1] at H
     have HC25 := Az H
     go_upto_region 24 with (fail)
     repeat (go_quiet (fail); go_upto_region 24 with (fail))
     go_cut [113] (fun v113 wc => ∃ (kq : Nat) (x113_24 : Bool), v113 = .bool x113_24 ∧ Aside0 (bits_Div64.j4 kq ji10 ji8 ((ji10) / 4294967296) (Go.bits .and .u64 (ji10) 4294967295) (Go.bits .and .u64 (ji17) 4294967295) x15_18 x16_2 (IntKind.u64.wrap ((IntKind.u64.wrap ((IntKind.u64.wrap ((Go.bits .or .u64 (ji12) (ji15)) * 4294967296)) + ((ji17) / 4294967296))) - (IntKind.u64.wrap (x15_18 * ji10)))) x18_2 x113_24 = some (r1, r2)) ∧ Aside0 (kq ≤ k2) ∧ Drawn0 w wc)
     case first =>
      have H := HC25.out
      by_cases c26 : x18_2 ≥ 4294967296
      ·rw [if_pos c26] at H
       (first | rw [c26b0] | (simp only [i64_w, i32_w]; rw [c26b0]) | skip)
       have H' := Az H
       go_wp2
       repeat (go_quiet (fail); try go_wp2)
       go_meet
       case rel => exact ⟨_, (true), rs, H', ⟨le2 HJ18 HK2⟩, by repeat (first | exact Drawn0.refl _ | apply Drawn0.step)⟩
      rw [if_neg c26] at H
      (first | rw [c26b0] | (simp only [i64_w, i32_w]; rw [c26b0]) | skip)
      have H' := Az H
      go_wp2
      repeat (go_quiet (fail); try go_wp2)
      go_meet
      case rel => exact ⟨_, (decide ((IntKind.u64.wrap (x18_2 * (Go.bits .and .u64 (ji10) 4294967295))) > (IntKind.u64.wrap ((IntKind.u64.wrap (4294967296 * x16_2)) + (Go.bits .and .u64 (ji17) 4294967295))))), (by first | rfl | (simp; done) | (simp only [← hji10, ← hji17] <;> (first | rfl | simp)) | (simp [*]; done)), H', ⟨le2 HJ18 HK2⟩, by repeat (first | exact Drawn0.refl _ | apply Drawn0.step)⟩
     case rest =>
      obtain ⟨kq, x113_24, rfl, HA, HJ24, ⟨mc24, rfl⟩⟩ := hcut
      cases kq with
      | zero => exact absurd HA.out (by simp [bits_Div64.j4])
      | succ kj24 =>
       have H := HA.out
       simp only [bits_Div64.j4] at H
       by_cases c27 : x113_24 = true
       case neg =>
        replace c27 := Bool.eq_false_iff.mpr c27
        subst c27
        rw [if_neg Bool.false_ne_true] at H
        by_cases c31 : 0 ≤ ji8
        case neg =>
         rw [if_neg c31] at H
         exact absurd H (by simp)
        rw [if_pos c31] at H
        obtain ⟨ji32, hji32⟩ : ∃ j_ : Int, (shr .u64 (IntKind.u64.wrap ((IntKind.u64.wrap ((IntKind.u64.wrap ((IntKind.u64.wrap ((IntKind.u64.wrap ((IntKind.u64.wrap ((Go.bits .or .u64 (ji12) (ji15)) * 4294967296)) + ((ji17) / 4294967296))) - (IntKind.u64.wrap (x15_18 * ji10)))) * 4294967296)) + (Go.bits .and .u64 (ji17) 4294967295))) - (IntKind.u64.wrap (x18_2 * ji10)))) ji8) = j_ := ⟨_, rfl⟩
        replace H : (some (IntKind.u64.wrap ((IntKind.u64.wrap (x15_18 * 4294967296)) + x18_2), ji32)) = some (r1, r2) := by first | (rw [hji32] at H; exact H) | (simp only [hji32] at H ⊢; exact H)
        have hji32_ : ((IntKind.u64.wrap ((IntKind.u64.wrap ((IntKind.u64.wrap ((IntKind.u64.wrap ((IntKind.u64.wrap ((IntKind.u64.wrap ((Go.bits .or .u64 (ji12) (ji15)) * 4294967296)) + ((ji17) / 4294967296))) - (IntKind.u64.wrap (x15_18 * ji10)))) * 4294967296)) + (Go.bits .and .u64 (ji17) 4294967295))) - (IntKind.u64.wrap (x18_2 * ji10)))) / 2 ^ min ji8.toNat 64) = ji32 := hji32
        have hji32z : ji8 ≤ 64 → ((IntKind.u64.wrap ((IntKind.u64.wrap ((IntKind.u64.wrap ((IntKind.u64.wrap ((IntKind.u64.wrap ((IntKind.u64.wrap ((Go.bits .or .u64 (ji12) (ji15)) * 4294967296)) + ((ji17) / 4294967296))) - (IntKind.u64.wrap (x15_18 * ji10)))) * 4294967296)) + (Go.bits .and .u64 (ji17) 4294967295))) - (IntKind.u64.wrap (x18_2 * ji10)))) / 2 ^ ji8.toNat) = ji32 := shr_small hji32
        simp only [Option.some.injEq, Prod.mk.injEq] at H
        obtain ⟨rfl, rfl⟩ := H
        go_wp2
        repeat (go_quiet (fail); try go_wp2)
        go_ret2
        exact ⟨by first | rfl | (simp; done) | (simp only [← hji8, ← hji10, ← hji12, ← hji13, ← hji15, ← hji17, ← hji32] <;> (first | rfl | simp)) | (simp [*]; done), by repeat (first | exact Drawn0.refl _ | apply Drawn0.step)⟩
       subst c27
       rw [if_pos rfl] at H
       by_cases c28 : (IntKind.u64.wrap (x16_2 + ((ji10) / 4294967296))) ≥ 4294967296
       case neg =>
        rw [if_neg c28] at H
        have H' := Az H
        go_wp2
        repeat (go_quiet (fail); try go_wp2)
        go_roundg kj24
        case measure => have := HJ18.out; have := HK2.out; have := HJ24.out; omega
        case rel => exact ⟨(IntKind.u64.wrap (x16_2 + ((ji10) / 4294967296))), (IntKind.u64.wrap (x18_2 - 1)), (by first | rfl | (simp; done) | (simp only [← hji10] <;> (first | rfl | simp)) | (simp [*]; done)), rs, H', ⟨by have := HJ18.out; have := HK2.out; have := HJ24.out; omega⟩, by repeat (first | exact Drawn0.refl _ | apply Drawn0.step)⟩
       rw [if_pos c28] at H
       by_cases c29 : 0 ≤ ji8
       case neg =>
        rw [if_neg c29] at H
        exact absurd H (by simp)
       rw [if_pos c29] at H
       obtain ⟨ji30, hji30⟩ : ∃ j_ : Int, (shr .u64 (IntKind.u64.wrap ((IntKind.u64.wrap ((IntKind.u64.wrap ((IntKind.u64.wrap ((IntKind.u64.wrap ((IntKind.u64.wrap ((Go.bits .or .u64 (ji12) (ji15)) * 4294967296)) + ((ji17) / 4294967296))) - (IntKind.u64.wrap (x15_18 * ji10)))) * 4294967296)) + (Go.bits .and .u64 (ji17) 4294967295))) - (IntKind.u64.wrap ((IntKind.u64.wrap (x18_2 - 1)) * ji10)))) ji8) = j_ := ⟨_, rfl⟩
       replace H : (some (IntKind.u64.wrap ((IntKind.u64.wrap (x15_18 * 4294967296)) + (IntKind.u64.wrap (x18_2 - 1))), ji30)) = some (r1, r2) := by first | (rw [hji30] at H; exact H) | (simp only [hji30] at H ⊢; exact H)
       have hji30_ : ((IntKind.u64.wrap ((IntKind.u64.wrap ((IntKind.u64.wrap ((IntKind.u64.wrap ((IntKind.u64.wrap ((IntKind.u64.wrap ((Go.bits .or .u64 (ji12) (ji15)) * 4294967296)) + ((ji17) / 4294967296))) - (IntKind.u64.wrap (x15_18 * ji10)))) * 4294967296)) + (Go.bits .and .u64 (ji17) 4294967295))) - (IntKind.u64.wrap ((IntKind.u64.wrap (x18_2 - 1)) * ji10)))) / 2 ^ min ji8.toNat 64) = ji30 := hji30
       have hji30z : ji8 ≤ 64 → ((IntKind.u64.wrap ((IntKind.u64.wrap ((IntKind.u64.wrap ((IntKind.u64.wrap ((IntKind.u64.wrap ((IntKind.u64.wrap ((Go.bits .or .u64 (ji12) (ji15)) * 4294967296)) + ((ji17) / 4294967296))) - (IntKind.u64.wrap (x15_18 * ji10)))) * 4294967296)) + (Go.bits .and .u64 (ji17) 4294967295))) - (IntKind.u64.wrap ((IntKind.u64.wrap (x18_2 - 1)) * ji10)))) / 2 ^ ji8.toNat) = ji30 := shr_small hji30
       simp only [Option.some.injEq, Prod.mk.injEq] at H
       obtain ⟨rfl, rfl⟩ := H
       go_wp2
       repeat (go_quiet (fail); try go_wp2)
       go_ret2
       exact ⟨by first | rfl | (simp; done) | (simp only [← hji8, ← hji10, ← hji12, ← hji13, ← hji15, ← hji17, ← hji30] <;> (first | rfl | simp)) | (simp [*]; done), by repeat (first | exact Drawn0.refl _ | apply Drawn0.step)⟩
def bits_Mul64.f (a0 a1 : Int) : Option (Int × Int) := some (IntKind.u64.wrap ((IntKind.u64.wrap ((IntKind.u64.wrap ((a0 / 4294967296) * (a1 / 4294967296))) + ((IntKind.u64.wrap ((IntKind.u64.wrap ((a0 / 4294967296) * (Go.bits .and .u64 a1 4294967295))) + ((IntKind.u64.wrap ((Go.bits .and .u64 a0 4294967295) * (Go.bits .and .u64 a1 4294967295))) / 4294967296))) / 4294967296))) + ((IntKind.u64.wrap ((Go.bits .and .u64 (IntKind.u64.wrap ((IntKind.u64.wrap ((a0 / 4294967296) * (Go.bits .and .u64 a1 4294967295))) + ((IntKind.u64.wrap ((Go.bits .and .u64 a0 4294967295) * (Go.bits .and .u64 a1 4294967295))) / 4294967296))) 4294967295) + (IntKind.u64.wrap ((Go.bits .and .u64 a0 4294967295) * (a1 / 4294967296))))) / 4294967296)), IntKind.u64.wrap (a0 * a1))
theorem bits_Mul64.calls (a0 a1 r1 r2 : Int) (w : World) (h : bits_Mul64.f a0 a1 = some (r1, r2)) :
  Calls Tryz.prog 62 #[.int .u64 a0, .int .u64 a1] w fun e w' => e = .returned (.tuple #[.int .u64 r1, .int .u64 r2]) ∧ Drawn0 w w' := by
 have H := h
 unfold bits_Mul64.f at H
 clear h
 simp only [Option.some.injEq, Prod.mk.injEq] at H
 obtain ⟨rfl, rfl⟩ := H
 go_enter Tryz.func62, Tryz.ntmps62
 go_wp2
 go_ret2
 exact ⟨by first | rfl | (simp; done) | (simp [*]; done), by repeat (first | exact Drawn0.refl _ | apply Drawn0.step)⟩
def bits_Rem64.f (k : Nat) (a0 a1 a2 : Int) : Option (Int) := if a2 = 0 then (none) else ((bits_Div64.f k (Int.tmod a0 a2) a1 a2).bind fun bt433 => (some bt433.2))
theorem bits_Rem64.mono : ∀ a0 a1 a2 k, LeO (bits_Rem64.f k a0 a1 a2) (bits_Rem64.f (k + 1) a0 a1 a2) := by
 intro a0 a1 a2 k
 unfold bits_Rem64.f
 repeat' first
   | exact bits_Div64.mono _ _ _ _
   | exact LeO.refl _
   | exact LeO.none _
   | refine LeO.ite ?_ ?_
   | refine LeO.bind ?_ (fun _ => ?_)
   | exact bits_Div64.mono _ _ _ _
   | exact LeO.none _
   | refine LeO.ite ?_ ?_
   | refine LeO.bind ?_ (fun _ => ?_)
theorem bits_Rem64.calls (k : Nat) (a0 a1 a2 r : Int) (w : World) (h : bits_Rem64.f k a0 a1 a2 = some r) :
  Calls Tryz.prog 63 #[.int .u64 a0, .int .u64 a1, .int .u64 a2] w fun e w' => e = .returned (.int .u64 r) ∧ Drawn0 w w' := by
 have H := h
 unfold bits_Rem64.f at H
 clear h
 by_cases c4 : a2 = 0
 ·rw [if_pos c4] at H
  exact absurd H (by simp)
 rw [if_neg c4] at H
 have c4b0 := beq_eq_false_iff_ne.mpr c4
 have c4b1 := bne_iff_ne.mpr c4
 obtain ⟨⟨t433, t434⟩, A5, H⟩ := bd H
 (try dsimp only at H)
 obtain rfl := Option.some.inj H
 go_enter Tryz.func63, Tryz.ntmps63
 go_wp2_with (first | (refine gl (some 15) Tryz.func93 #[.int .u64 (Int.tmod a0 a2), .int .u64 a1, .int .u64 a2] ?_; (with_reducible refine (bits_Div64.calls k (Int.tmod a0 a2) a1 a2 t433 t434 _ A5.out).mono ?_); rintro e w' ⟨rfl, ⟨nd, rfl⟩⟩; refine ⟨_, rfl, ?_⟩))
 go_ret
 exact ⟨by first | rfl | (simp; done) | (simp [*]; done), by repeat (first | exact Drawn0.refl _ | apply Drawn0.step)⟩
mutual
def o_Good.j0 : Nat → Int → Bool → Bool → List Int → Option (Bool)
 | 0, _, _, _, _ => none
 | k + 1, x3, x23, x102000, x102001 => if x23 = true then (some false) else (o_Good.l0 k x3 0 x102000 x102001)
def o_Good.l0 : Nat → Int → Int → Bool → List Int → Option (Bool)
 | 0, _, _, _, _ => none
 | k + 1, x24, x25, x102000, x102001 => if x25 < x24 then (if 0 ≤ x25 then (if x25 < (x102001.length : Int) then (if (rd x102001 x25) ≥ 1000000000000000000 then (some false) else (o_Good.l0 k x24 (wrap64 (x25 + 1)) x102000 x102001)) else (none)) else (none)) else (some true)
end
def o_Good.f (k : Nat) (a0_0 : Bool) (l0_1 : List Int) : Option (Bool) := if (l0_1.length : Int) = 0 then (some (!a0_0)) else (if (l0_1.length : Int) > 30 then (o_Good.j0 k (l0_1.length : Int) true a0_0 l0_1) else (if 0 ≤ (wrap64 ((l0_1.length : Int) - 1)) then (if (wrap64 ((l0_1.length : Int) - 1)) < (l0_1.length : Int) then (o_Good.j0 k (l0_1.length : Int) ((rd l0_1 (wrap64 ((l0_1.length : Int) - 1))) == 0) a0_0 l0_1) else (none)) else (none)))
theorem o_Good.mono_l : ∀ k, (∀ y0 y1 y2 y3, LeO (o_Good.j0 k y0 y1 y2 y3) (o_Good.j0 (k + 1) y0 y1 y2 y3)) ∧ (∀ y0 y1 y2 y3, LeO (o_Good.l0 k y0 y1 y2 y3) (o_Good.l0 (k + 1) y0 y1 y2 y3))
 | 0 => ⟨fun _ _ _ _ r h => by simp [o_Good.j0] at h, fun _ _ _ _ r h => by simp [o_Good.l0] at h⟩
 | k + 1 => by
  obtain ⟨ih0, ih1⟩ := o_Good.mono_l k
  refine ⟨?_, ?_⟩
  ·intro y0 y1 y2 y3
   unfold o_Good.j0
   repeat' first
   | exact ih0 _ _ _ _
   | exact ih1 _ _ _ _
   | exact LeO.refl _
   | exact LeO.none _
   | refine LeO.ite ?_ ?_
   | refine LeO.bind ?_ (fun _ => ?_)
  ·intro y0 y1 y2 y3
   unfold o_Good.l0
   repeat' first
   | exact ih0 _ _ _ _
   | exact ih1 _ _ _ _
   | exact LeO.refl _
   | exact LeO.none _
   | refine LeO.ite ?_ ?_
   | refine LeO.bind ?_ (fun _ => ?_)
theorem o_Good.mono : ∀ a0 a1 k, LeO (o_Good.f k a0 a1) (o_Good.f (k + 1) a0 a1) := by
 intro a0 a1 k
 obtain ⟨ih0, ih1⟩ := o_Good.mono_l k
 unfold o_Good.f
 repeat' first
   | exact ih0 _ _ _ _
   | exact ih1 _ _ _ _
   | exact LeO.refl _
   | exact LeO.none _
   | refine LeO.ite ?_ ?_
   | refine LeO.bind ?_ (fun _ => ?_)
theorem o_Good.calls (k : Nat) (a0_0 : Bool) (A0_1 : Option Addr) (c0_1 : Nat) (l0_1 : List Int) (r : Bool) (w : World) (hr0_1 : Kd.C (Kd.int .u64) w A0_1 l0_1.length l0_1) (hc0_1 : l0_1.length ≤ c0_1) (h : o_Good.f k a0_0 l0_1 = some r) :
  Calls Tryz.prog 47 #[.agg #[.bool a0_0, .slice A0_1 l0_1.length c0_1]] w fun e w' => e = .returned (.bool r) ∧ Below w.heap.size w w' := by
 have hu24 := Tryz.underlying24
 have HR0_1 := Az hr0_1
 have HC0_1 := Az hc0_1
 have HB := Az (Below.refl w.heap.size w)
 have H := h
 unfold o_Good.f at H
 by_cases c2 : (l0_1.length : Int) = 0
 ·rw [if_pos c2] at H
  obtain rfl := Option.some.inj H
  go_enter Tryz.func47, Tryz.ntmps47
  go_wp2_with (first | (refine be 1 #[.bool a0_0, .slice A0_1 l0_1.length c0_1] 24 ?_; intro gb101 hg w3 hbox hb; have BK101 := Az (hbox); have GW101 := gw (bl HB) hg; have GE101 := gw (bl HB) hg; replace HB := bs HB hb; clear hb hbox hg; have hz4_1 := bz BK101))
  go_ret
  exact ⟨fe, bls HB⟩
 rw [if_neg c2] at H
 have HC5 := Az H
 go_enter Tryz.func47, Tryz.ntmps47
 go_upto_region 4 with (first | (refine be 1 #[.bool a0_0, .slice A0_1 l0_1.length c0_1] 24 ?_; intro gb101 hg w6 hbox hb; have BK101 := Az (hbox); have GW101 := gw (bl HB) hg; have GE101 := gw (bl HB) hg; replace HB := bs HB hb; clear hb hbox hg; have hz7_1 := bz BK101))
 (try simp only [Act.put, List.setIfInBounds_toArray, List.set_cons_zero, List.set_cons_succ])
 go_cut [23] (fun v23 wc => ∃ (kq : Nat) (x23_4 : Bool), v23 = .bool x23_4 ∧ Aside0 (o_Good.j0 kq (l0_1.length : Int) x23_4 a0_0 l0_1 = some r) ∧ Aside0 (kq ≤ k) ∧ Aside0 (wc.heap[gb101]? = some (.cells #[.bool a0_0, (.slice A0_1 l0_1.length c0_1)] 24 (0, 0))) ∧ Aside0 (Below w.heap.size w wc))
 case first =>
  have H := HC5.out
  by_cases c8 : (l0_1.length : Int) > 30
  ·rw [if_pos c8] at H
   (first | rw [c8b0] | (simp only [i64_w, i32_w]; rw [c8b0]) | skip)
   have H' := Az H
   go_wp2
   go_meet
   case rel => exact ⟨_, (true), rs, H', ⟨le0⟩, ⟨bk BK101⟩, ⟨bls HB⟩⟩
  rw [if_neg c8] at H
  (first | rw [c8b0] | (simp only [i64_w, i32_w]; rw [c8b0]) | skip)
  obtain ⟨ji9, hji9⟩ : ∃ j_ : Int, (wrap64 ((l0_1.length : Int) - 1)) = j_ := ⟨_, rfl⟩
  replace H : (if 0 ≤ (ji9) then (if (ji9) < (l0_1.length : Int) then (o_Good.j0 k (l0_1.length : Int) ((rd l0_1 (ji9)) == 0) a0_0 l0_1) else (none)) else (none)) = some r := by first | (rw [hji9] at H; exact H) | (simp only [hji9] at H ⊢; exact H)
  have hji9w : (IntKind.i64.wrap ((l0_1.length : Int) - 1)) = ji9 := (i64_w _).trans hji9
  by_cases c10 : 0 ≤ (ji9)
  case neg =>
   rw [if_neg c10] at H
   exact absurd H (by simp)
  rw [if_pos c10] at H
  have c10b0 := decide_eq_true c10
  by_cases c11 : (ji9) < (l0_1.length : Int)
  case neg =>
   rw [if_neg c11] at H
   exact absurd H (by simp)
  rw [if_pos c11] at H
  have c11b0 := decide_eq_true c11
  have H' := Az H
  have hz12_1 := bz BK101
  have p102 : 0 ≤ ((ji9) : Int) := ode
  have q102 : (ji9) < (l0_1.length : Int) := ode
  obtain ⟨ad102, e102, hx102_0⟩ := Kd.at_int HR0_1.out (ji9) p102 q102
  cases e102
  replace hx102_0 := (HB.out.cell (World.block_lt_of_cell? w _ hx102_0)).trans hx102_0
  replace p102 := eq_true p102
  replace q102 := eq_true q102
  go_wp2
  go_meet
  case rel => exact ⟨_, (((rd l0_1 (ji9)) == 0)), (by first | rfl | (simp; done) | (simp only [← hji9] <;> (first | rfl | simp)) | (simp [*]; done)), H', ⟨le0⟩, ⟨bk BK101⟩, ⟨bls HB⟩⟩
 case rest =>
  try clear hx1
  try clear hx10
  try clear hx102_0
  obtain ⟨kq, x23_4, rfl, HA, HJ4, BK101, HB⟩ := hcut
  cases kq with
  | zero => exact absurd HA.out (by simp [o_Good.j0])
  | succ kj4 =>
   have H := HA.out
   simp only [o_Good.j0] at H
   by_cases c13 : x23_4 = true
   ·subst c13
    rw [if_pos rfl] at H
    obtain rfl := Option.some.inj H
    go_wp2
    go_ret
    exact ⟨fe, bls HB⟩
   replace c13 := Bool.eq_false_iff.mpr c13
   subst c13
   rw [if_neg Bool.false_ne_true] at H
   have H' := Az H
   go_wp2
   go_loopg [25] kj4 (fun kq v25 w' => ∃ (x25_2 : Int), v25 = .int .i64 x25_2 ∧ Aside0 (o_Good.l0 kq (l0_1.length : Int) x25_2 a0_0 l0_1 = some r) ∧ Aside0 (kq ≤ kj4) ∧ Aside0 (w'.heap[gb101]? = some (.cells #[.bool a0_0, (.slice A0_1 l0_1.length c0_1)] 24 (0, 0))) ∧ Aside0 (Below w.heap.size w w'))
   case atStart => exact ⟨(0), rs, H', ⟨Nat.le_refl _⟩, ⟨bk BK101⟩, ⟨bls HB⟩⟩
   case round =>
    try clear hx1
    try clear hx10
    try clear hx102_0
    obtain ⟨x25_2, rfl, HA, HK2, BK101, HB⟩ := hrel
    cases gk with
    | zero => exact absurd HA.out (by simp [o_Good.l0])
    | succ k2 =>
     have H := HA.out
     simp only [o_Good.l0] at H
     by_cases c14 : x25_2 < (l0_1.length : Int)
     case neg =>
      rw [if_neg c14] at H
      obtain rfl := Option.some.inj H
      go_wp2
      go_ret
      exact ⟨fe, bls HB⟩
     rw [if_pos c14] at H
     have c14b0 := decide_eq_true c14
     by_cases c15 : 0 ≤ x25_2
     case neg =>
      rw [if_neg c15] at H
      exact absurd H (by simp)
     rw [if_pos c15] at H
     have c15b0 := decide_eq_true c15
     by_cases c16 : x25_2 < (l0_1.length : Int)
     case neg =>
      rw [if_neg c16] at H
      exact absurd H (by simp)
     rw [if_pos c16] at H
     have c16b0 := decide_eq_true c16
     by_cases c17 : (rd l0_1 x25_2) ≥ 1000000000000000000
     ·rw [if_pos c17] at H
      have c17b0 : decide (1000000000000000000 ≤ (rd l0_1 x25_2)) = true := decide_eq_true c17
      obtain rfl := Option.some.inj H
      have hz18_1 := bz BK101
      have p103 : 0 ≤ (x25_2 : Int) := ode
      have q103 : x25_2 < (l0_1.length : Int) := ode
      obtain ⟨ad103, e103, hx103_0⟩ := Kd.at_int HR0_1.out x25_2 p103 q103
      cases e103
      replace hx103_0 := (HB.out.cell (World.block_lt_of_cell? w _ hx103_0)).trans hx103_0
      replace p103 := eq_true p103
      replace q103 := eq_true q103
      go_wp2
      go_ret
      exact ⟨fe, bls HB⟩
     rw [if_neg c17] at H
     have c17b0 : decide (1000000000000000000 ≤ (rd l0_1 x25_2)) = false := decide_eq_false c17
     have H' := Az H
     have hz19_1 := bz BK101
     have p103 : 0 ≤ (x25_2 : Int) := ode
     have q103 : x25_2 < (l0_1.length : Int) := ode
     obtain ⟨ad103, e103, hx103_0⟩ := Kd.at_int HR0_1.out x25_2 p103 q103
     cases e103
     replace hx103_0 := (HB.out.cell (World.block_lt_of_cell? w _ hx103_0)).trans hx103_0
     replace p103 := eq_true p103
     replace q103 := eq_true q103
     go_wp2
     go_roundg k2
     case measure => have := HJ4.out; have := HK2.out; omega
     case rel => exact ⟨(wrap64 (x25_2 + 1)), rs, H', ⟨by have := HJ4.out; have := HK2.out; omega⟩, ⟨bk BK101⟩, ⟨bls HB⟩⟩
def o_size.l0 : Nat → List Int → List Int → Int → Option (Int)
 | 0, _, _, _ => none
 | k + 1, x0, x1, x5 => if x5 ≥ 0 then (if 0 ≤ x5 then (if x5 < (x0.length : Int) then (if x5 < (x1.length : Int) then (if (rd x0 x5) = (rd x1 x5) then (o_size.l0 k x0 x1 (wrap64 (x5 - 1))) else (if (rd x0 x5) < (rd x1 x5) then (some (-1)) else (some 1))) else (none)) else (none)) else (none)) else (some 0)
def o_size.f (k : Nat) (l0 l1 : List Int) : Option (Int) := if (l0.length : Int) = (l1.length : Int) then (o_size.l0 k l0 l1 (wrap64 ((l0.length : Int) - 1))) else (if (l0.length : Int) < (l1.length : Int) then (some (-1)) else (some 1))
theorem o_size.mono_l : ∀ k, (∀ y0 y1 y2, LeO (o_size.l0 k y0 y1 y2) (o_size.l0 (k + 1) y0 y1 y2))
 | 0 => fun _ _ _ r h => by simp [o_size.l0] at h
 | k + 1 => by
  have ih0 := o_size.mono_l k
  ·intro y0 y1 y2
   unfold o_size.l0
   repeat' first
   | exact ih0 _ _ _
   | exact LeO.refl _
   | exact LeO.none _
   | refine LeO.ite ?_ ?_
   | refine LeO.bind ?_ (fun _ => ?_)
theorem o_size.mono : ∀ a0 a1 k, LeO (o_size.f k a0 a1) (o_size.f (k + 1) a0 a1) := by
 intro a0 a1 k
 have ih0 := o_size.mono_l k
 unfold o_size.f
 repeat' first
   | exact ih0 _ _ _
   | exact LeO.refl _
   | exact LeO.none _
   | refine LeO.ite ?_ ?_
   | refine LeO.bind ?_ (fun _ => ?_)
theorem o_size.calls (k : Nat) (A0 : Option Addr) (c0 : Nat) (l0 : List Int) (A1 : Option Addr) (c1 : Nat) (l1 : List Int) (r : Int) (w : World) (hr0 : Kd.C (Kd.int .u64) w A0 l0.length l0) (hc0 : l0.length ≤ c0) (hr1 : Kd.C (Kd.int .u64) w A1 l1.length l1) (hc1 : l1.length ≤ c1) (h : o_size.f k l0 l1 = some r) :
  Calls Tryz.prog 51 #[.slice A0 l0.length c0, .slice A1 l1.length c1] w fun e w' => e = .returned (.int .i64 r) ∧ Drawn0 w w' := by
 have HR0 := Az hr0
 have HC0 := Az hc0
 have HR1 := Az hr1
 have HC1 := Az hc1
 have H := h
 unfold o_size.f at H
 by_cases c3 : (l0.length : Int) = (l1.length : Int)
 case neg =>
  rw [if_neg c3] at H
  have c3b0 := beq_eq_false_iff_ne.mpr c3
  have c3b1 := bne_iff_ne.mpr c3
  have c3b2 : (l0.length == l1.length) = false := by first | simpa using c3 | (simp at c3 ⊢; omega)
  by_cases c10 : (l0.length : Int) < (l1.length : Int)
  ·rw [if_pos c10] at H
   have c10b0 := decide_eq_true c10
   have c10b1 : decide (l0.length < l1.length) = true := decide_eq_true (Int.ofNat_lt.mp c10)
   obtain rfl := Option.some.inj H
   go_enter Tryz.func51, Tryz.ntmps51
   go_wp2
   repeat (go_quiet (fail); try go_wp2)
   go_ret
   exact ⟨by first | rfl | (simp; done) | (simp [*]; done), by repeat (first | exact Drawn0.refl _ | apply Drawn0.step)⟩
  rw [if_neg c10] at H
  have c10b0 := decide_eq_false c10
  have c10b1 : decide (l0.length < l1.length) = false := decide_eq_false (fun h => c10 (Int.ofNat_lt.mpr h))
  obtain rfl := Option.some.inj H
  go_enter Tryz.func51, Tryz.ntmps51
  go_wp2
  repeat (go_quiet (fail); try go_wp2)
  go_ret
  exact ⟨by first | rfl | (simp; done) | (simp [*]; done), by repeat (first | exact Drawn0.refl _ | apply Drawn0.step)⟩
 rw [if_pos c3] at H
 have c3b0 := beq_iff_eq.mpr c3
 have c3b1 := bne_eq_false_iff_eq.mpr c3
 have c3b2 : (l0.length == l1.length) = true := by first | simpa using c3 | (simp at c3 ⊢; omega)
 have H' := Az H
 go_enter Tryz.func51, Tryz.ntmps51
 go_wp2
 repeat (go_quiet (fail); try go_wp2)
 go_loopg [5] k (fun kq v5 w' => ∃ (x5_1 : Int), v5 = .int .i64 x5_1 ∧ Aside0 (o_size.l0 kq l0 l1 x5_1 = some r) ∧ Aside0 (kq ≤ k) ∧ Drawn0 w w')
 case atStart => exact ⟨(wrap64 ((l0.length : Int) - 1)), rs, H', ⟨Nat.le_refl _⟩, by repeat (first | exact Drawn0.refl _ | apply Drawn0.step)⟩
 case round =>
  obtain ⟨x5_1, rfl, HA, HK1, ⟨m1, rfl⟩⟩ := hrel
  cases gk with
  | zero => exact absurd HA.out (by simp [o_size.l0])
  | succ k1 =>
   have H := HA.out
   simp only [o_size.l0] at H
   by_cases c4 : x5_1 ≥ 0
   case neg =>
    rw [if_neg c4] at H
    have c4b0 : decide (0 ≤ x5_1) = false := decide_eq_false c4
    obtain rfl := Option.some.inj H
    go_wp2
    repeat (go_quiet (fail); try go_wp2)
    go_ret
    exact ⟨by first | rfl | (simp; done) | (simp [*]; done), by repeat (first | exact Drawn0.refl _ | apply Drawn0.step)⟩
   rw [if_pos c4] at H
   have c4b0 : decide (0 ≤ x5_1) = true := decide_eq_true c4
   by_cases c5 : 0 ≤ x5_1
   case neg =>
    rw [if_neg c5] at H
    exact absurd H (by simp)
   rw [if_pos c5] at H
   have c5b0 := decide_eq_true c5
   by_cases c6 : x5_1 < (l0.length : Int)
   case neg =>
    rw [if_neg c6] at H
    exact absurd H (by simp)
   rw [if_pos c6] at H
   have c6b0 := decide_eq_true c6
   by_cases c7 : x5_1 < (l1.length : Int)
   case neg =>
    rw [if_neg c7] at H
    exact absurd H (by simp)
   rw [if_pos c7] at H
   have c7b0 := decide_eq_true c7
   by_cases c8 : (rd l0 x5_1) = (rd l1 x5_1)
   ·rw [if_pos c8] at H
    have c8b0 := beq_iff_eq.mpr c8
    have c8b1 := bne_eq_false_iff_eq.mpr c8
    have H' := Az H
    have p107 : 0 ≤ (x5_1 : Int) := ode
    have q107 : x5_1 < (l0.length : Int) := ode
    obtain ⟨ad107, e107, hx107_0⟩ := Kd.at_int HR0.out x5_1 p107 q107
    cases e107
    replace p107 := eq_true p107
    replace q107 := eq_true q107
    have p108 : 0 ≤ (x5_1 : Int) := ode
    have q108 : x5_1 < (l1.length : Int) := ode
    obtain ⟨ad108, e108, hx108_0⟩ := Kd.at_int HR1.out x5_1 p108 q108
    cases e108
    replace p108 := eq_true p108
    replace q108 := eq_true q108
    go_wp2
    repeat (go_quiet (fail); try go_wp2)
    go_roundg k1
    case measure => have := HK1.out; omega
    case rel => exact ⟨(wrap64 (x5_1 - 1)), rs, H', ⟨by have := HK1.out; omega⟩, by repeat (first | exact Drawn0.refl _ | apply Drawn0.step)⟩
   rw [if_neg c8] at H
   have c8b0 := beq_eq_false_iff_ne.mpr c8
   have c8b1 := bne_iff_ne.mpr c8
   by_cases c9 : (rd l0 x5_1) < (rd l1 x5_1)
   ·rw [if_pos c9] at H
    have c9b0 := decide_eq_true c9
    obtain rfl := Option.some.inj H
    have p107 : 0 ≤ (x5_1 : Int) := ode
    have q107 : x5_1 < (l0.length : Int) := ode
    obtain ⟨ad107, e107, hx107_0⟩ := Kd.at_int HR0.out x5_1 p107 q107
    cases e107
    replace p107 := eq_true p107
    replace q107 := eq_true q107
    have p108 : 0 ≤ (x5_1 : Int) := ode
    have q108 : x5_1 < (l1.length : Int) := ode
    obtain ⟨ad108, e108, hx108_0⟩ := Kd.at_int HR1.out x5_1 p108 q108
    cases e108
    replace p108 := eq_true p108
    replace q108 := eq_true q108
    have p109 : 0 ≤ (x5_1 : Int) := ode
    have q109 : x5_1 < (l0.length : Int) := ode
    obtain ⟨ad109, e109, hx109_0⟩ := Kd.at_int HR0.out x5_1 p109 q109
    obtain rfl : ad107 = ad109 := (by injection e109)
    replace p109 := eq_true p109
    replace q109 := eq_true q109
    have p110 : 0 ≤ (x5_1 : Int) := ode
    have q110 : x5_1 < (l1.length : Int) := ode
    obtain ⟨ad110, e110, hx110_0⟩ := Kd.at_int HR1.out x5_1 p110 q110
    obtain rfl : ad108 = ad110 := (by injection e110)
    replace p110 := eq_true p110
    replace q110 := eq_true q110
    go_wp2
    repeat (go_quiet (fail); try go_wp2)
    go_ret
    exact ⟨by first | rfl | (simp; done) | (simp [*]; done), by repeat (first | exact Drawn0.refl _ | apply Drawn0.step)⟩
   rw [if_neg c9] at H
   have c9b0 := decide_eq_false c9
   obtain rfl := Option.some.inj H
   have p107 : 0 ≤ (x5_1 : Int) := ode
   have q107 : x5_1 < (l0.length : Int) := ode
   obtain ⟨ad107, e107, hx107_0⟩ := Kd.at_int HR0.out x5_1 p107 q107
   cases e107
   replace p107 := eq_true p107
   replace q107 := eq_true q107
   have p108 : 0 ≤ (x5_1 : Int) := ode
   have q108 : x5_1 < (l1.length : Int) := ode
   obtain ⟨ad108, e108, hx108_0⟩ := Kd.at_int HR1.out x5_1 p108 q108
   cases e108
   replace p108 := eq_true p108
   replace q108 := eq_true q108
   have p109 : 0 ≤ (x5_1 : Int) := ode
   have q109 : x5_1 < (l0.length : Int) := ode
   obtain ⟨ad109, e109, hx109_0⟩ := Kd.at_int HR0.out x5_1 p109 q109
   obtain rfl : ad107 = ad109 := (by injection e109)
   replace p109 := eq_true p109
   replace q109 := eq_true q109
   have p110 : 0 ≤ (x5_1 : Int) := ode
   have q110 : x5_1 < (l1.length : Int) := ode
   obtain ⟨ad110, e110, hx110_0⟩ := Kd.at_int HR1.out x5_1 p110 q110
   obtain rfl : ad108 = ad110 := (by injection e110)
   replace p110 := eq_true p110
   replace q110 := eq_true q110
   go_wp2
   repeat (go_quiet (fail); try go_wp2)
   go_ret
   exact ⟨by first | rfl | (simp; done) | (simp [*]; done), by repeat (first | exact Drawn0.refl _ | apply Drawn0.step)⟩
def o_Cmp.j0 : Nat → Bool → Bool → List Int → Bool → List Int → Option (Int)
 | 0, _, _, _, _, _ => none
 | k + 1, x12, x112000, x112001, x113000, x113001 => if x12 = true then (some 0) else (if (x112000 != x113000) = true then (if x112000 = true then (some (-1)) else (some 1)) else (if x112000 = true then ((o_size.f k x113001 x112001).bind fun t115 => (some t115)) else ((o_size.f k x112001 x113001).bind fun t116 => (some t116))))
def o_Cmp.f (k : Nat) (a0_0 : Bool) (l0_1 : List Int) (a1_0 : Bool) (l1_1 : List Int) : Option (Int) := (o_Good.f k a0_0 l0_1).bind fun t113 => (if t113 = true then ((o_Good.f k a1_0 l1_1).bind fun t114 => (o_Cmp.j0 k (!t114) a0_0 l0_1 a1_0 l1_1)) else (o_Cmp.j0 k true a0_0 l0_1 a1_0 l1_1))
theorem o_Cmp.mono_l : ∀ k, (∀ y0 y1 y2 y3 y4, LeO (o_Cmp.j0 k y0 y1 y2 y3 y4) (o_Cmp.j0 (k + 1) y0 y1 y2 y3 y4))
 | 0 => fun _ _ _ _ _ r h => by simp [o_Cmp.j0] at h
 | k + 1 => by
  have ih0 := o_Cmp.mono_l k
  ·intro y0 y1 y2 y3 y4
   unfold o_Cmp.j0
   repeat' first
   | exact ih0 _ _ _ _ _
   | exact o_Good.mono _ _ _
   | exact o_size.mono _ _ _
   | exact LeO.refl _
   | exact LeO.none _
   | refine LeO.ite ?_ ?_
   | refine LeO.bind ?_ (fun _ => ?_)
theorem o_Cmp.mono : ∀ a0 a1 a2 a3 k, LeO (o_Cmp.f k a0 a1 a2 a3) (o_Cmp.f (k + 1) a0 a1 a2 a3) := by
 intro a0 a1 a2 a3 k
 have ih0 := o_Cmp.mono_l k
 unfold o_Cmp.f
 repeat' first
   | exact ih0 _ _ _ _ _
   | exact o_Good.mono _ _ _
   | exact o_size.mono _ _ _
   | exact LeO.refl _
   | exact LeO.none _
   | refine LeO.ite ?_ ?_
   | refine LeO.bind ?_ (fun _ => ?_)
theorem o_Cmp.calls (k : Nat) (a0_0 : Bool) (A0_1 : Option Addr) (c0_1 : Nat) (l0_1 : List Int) (a1_0 : Bool) (A1_1 : Option Addr) (c1_1 : Nat) (l1_1 : List Int) (r : Int) (w : World) (hr0_1 : Kd.C (Kd.int .u64) w A0_1 l0_1.length l0_1) (hc0_1 : l0_1.length ≤ c0_1) (hr1_1 : Kd.C (Kd.int .u64) w A1_1 l1_1.length l1_1) (hc1_1 : l1_1.length ≤ c1_1) (h : o_Cmp.f k a0_0 l0_1 a1_0 l1_1 = some r) :
  Calls Tryz.prog 29 #[.agg #[.bool a0_0, .slice A0_1 l0_1.length c0_1], .agg #[.bool a1_0, .slice A1_1 l1_1.length c1_1]] w fun e w' => e = .returned (.int .i64 r) ∧ Below w.heap.size w w' := by
 have hu24 := Tryz.underlying24
 have HR0_1 := Az hr0_1
 have HC0_1 := Az hc0_1
 clear hr0_1 hc0_1
 have HR1_1 := Az hr1_1
 have HC1_1 := Az hc1_1
 clear hr1_1 hc1_1
 have HB := Az (Below.refl w.heap.size w)
 have H := h
 unfold o_Cmp.f at H
 clear h
 have HC3 := Az H
 clear H
 go_enter Tryz.func29, Tryz.ntmps29
 go_upto_region 1 with (first | (refine be 2 #[.bool a0_0, .slice A0_1 l0_1.length c0_1] 24 ?_; intro gb111 hg w4 hbox hb; have BK111 := Az (hbox); have GW111 := gw (bl HB) hg; have GE111 := gw (bl HB) hg; replace HB := bs HB hb; clear hb hbox hg) | (refine be 3 #[.bool a1_0, .slice A1_1 l1_1.length c1_1] 24 ?_; intro gb112 hg w5 hbox hb; have BK112 := Az (hbox); have GW112 := gw (bls HB) hg; have GE112 := gw (bls HB) hg; replace HB := bs HB hb; have NB111_112 := nl BK111 hg; have NB112_111 := ng BK111 hg; replace BK111 := kb BK111 hb; clear hb hbox hg))
 (try simp only [Act.put, List.setIfInBounds_toArray, List.set_cons_zero, List.set_cons_succ])
 go_cut [12] (fun v12 wc => ∃ (kq : Nat) (x12_2 : Bool), v12 = .bool x12_2 ∧ Aside0 (o_Cmp.j0 kq x12_2 a0_0 l0_1 a1_0 l1_1 = some r) ∧ Aside0 (kq ≤ k) ∧ Aside0 (wc.heap[gb111]? = some (.cells #[.bool a0_0, (.slice A0_1 l0_1.length c0_1)] 24 (0, 0))) ∧ Aside0 (wc.heap[gb112]? = some (.cells #[.bool a1_0, (.slice A1_1 l1_1.length c1_1)] 24 (0, 0))) ∧ Aside0 (Below w.heap.size w wc))
 case first =>
  have H := HC3.out
  clear HC3
  obtain ⟨t113, A6, H⟩ := bd H
  by_cases c7 : t113 = true
  ·subst c7
   rw [if_pos rfl] at H
   obtain ⟨t114, A8, H⟩ := bd H
   have H' := Az H
   clear H
   have hnb9 := NB111_112.out
   have hnc9 := NB112_111.out
   have hz10_1 := bz BK111
   go_wp2_with (first | (refine gl (some 6) Tryz.func47 #[.agg #[.bool a0_0, .slice A0_1 l0_1.length c0_1]] ?_; (with_reducible refine (o_Good.calls k a0_0 _ _ l0_1 true _ (ck HR0_1 HB) HC0_1.out A6.out).mono ?_); rintro e w11 ⟨rfl, hb⟩; refine ⟨_, rfl, ?_⟩; replace BK111 := kb BK111 hb; replace BK112 := kb BK112 hb; replace HB := bs HB hb; have hz12_1 := bz BK112) | (go_at_call 47; (with_reducible refine (o_Good.calls k a1_0 _ _ l1_1 t114 _ (ck HR1_1 HB) HC1_1.out A8.out).mono ?_); rintro e w13 ⟨rfl, hb⟩; replace BK111 := kb BK111 hb; replace BK112 := kb BK112 hb; replace HB := bs HB hb))
   go_meet
   case rel => exact ⟨_, (!t114), rs, H', ⟨le0⟩, ⟨bk BK111⟩, ⟨bk BK112⟩, ⟨bls HB⟩⟩
  replace c7 := Bool.eq_false_iff.mpr c7
  subst c7
  rw [if_neg Bool.false_ne_true] at H
  have H' := Az H
  clear H
  have hnb14 := NB111_112.out
  have hnc14 := NB112_111.out
  have hz15_1 := bz BK111
  go_wp2_with (first | (refine gl (some 6) Tryz.func47 #[.agg #[.bool a0_0, .slice A0_1 l0_1.length c0_1]] ?_; (with_reducible refine (o_Good.calls k a0_0 _ _ l0_1 false _ (ck HR0_1 HB) HC0_1.out A6.out).mono ?_); rintro e w16 ⟨rfl, hb⟩; refine ⟨_, rfl, ?_⟩; replace BK111 := kb BK111 hb; replace BK112 := kb BK112 hb; replace HB := bs HB hb))
  go_meet
  case rel => exact ⟨_, (true), rs, H', ⟨le0⟩, ⟨bk BK111⟩, ⟨bk BK112⟩, ⟨bls HB⟩⟩
 case rest =>
  clear HC3
  obtain ⟨kq, x12_2, rfl, HA, HJ2, BK111, BK112, HB⟩ := hcut
  cases kq with
  | zero => exact absurd HA.out (by simp [o_Cmp.j0])
  | succ kj2 =>
   have H := HA.out
   clear HA
   simp only [o_Cmp.j0] at H
   by_cases c17 : x12_2 = true
   ·subst c17
    rw [if_pos rfl] at H
    obtain rfl := Option.some.inj H
    go_wp2
    go_ret
    exact ⟨fe, bls HB⟩
   replace c17 := Bool.eq_false_iff.mpr c17
   subst c17
   rw [if_neg Bool.false_ne_true] at H
   by_cases c18 : (a0_0 != a1_0) = true
   ·rw [if_pos c18] at H
    have c18b0 : (a0_0 != a1_0) = true := c18
    (try (have c18b1 : decide (a0_0 = a1_0) = false := by simpa using c18))
    (try (have c18b2 : (a0_0 == a1_0) = false := by simpa using c18))
    (try (have c18b3 : ¬ (a0_0 = a1_0) := by simpa using c18))
    clear c18
    by_cases c19 : a0_0 = true
    ·subst c19
     rw [if_pos rfl] at H
     obtain rfl := Option.some.inj H
     have hnb20 := NB111_112.out
     have hnc20 := NB112_111.out
     have hz21_1 := bz BK111
     have hz22_2 := bz BK112
     go_wp2
     go_ret
     exact ⟨fe, bls HB⟩
    replace c19 := Bool.eq_false_iff.mpr c19
    subst c19
    rw [if_neg Bool.false_ne_true] at H
    obtain rfl := Option.some.inj H
    have hnb23 := NB111_112.out
    have hnc23 := NB112_111.out
    have hz24_1 := bz BK111
    have hz25_2 := bz BK112
    go_wp2
    go_ret
    exact ⟨fe, bls HB⟩
   rw [if_neg c18] at H
   have c18b0 : (a0_0 != a1_0) = false := by simpa using c18
   (try (have c18b1 : decide (a0_0 = a1_0) = true := by simpa using c18))
   (try (have c18b2 : (a0_0 == a1_0) = true := by simpa using c18))
   clear c18
   by_cases c26 : a0_0 = true
   ·subst c26
    rw [if_pos rfl] at H
    obtain ⟨t115, A27, H⟩ := bd H
    obtain rfl := Option.some.inj H
    have hnb28 := NB111_112.out
    have hnc28 := NB112_111.out
    have hz29_1 := bz BK111
    have hz30_2 := bz BK112
    go_wp2_with (first | (refine gl (some 26) Tryz.func51 #[.slice A1_1 l1_1.length c1_1, .slice A0_1 l0_1.length c0_1] ?_; (with_reducible refine (o_size.calls kj2 _ _ l1_1 _ _ l0_1 t115 _ (ck HR1_1 HB) HC1_1.out (ck HR0_1 HB) HC0_1.out A27.out).mono ?_); rintro e w' ⟨rfl, ⟨nd, rfl⟩⟩; refine ⟨_, rfl, ?_⟩))
    go_ret
    exact ⟨fe, bls HB⟩
   replace c26 := Bool.eq_false_iff.mpr c26
   subst c26
   rw [if_neg Bool.false_ne_true] at H
   obtain ⟨t116, A31, H⟩ := bd H
   obtain rfl := Option.some.inj H
   have hnb32 := NB111_112.out
   have hnc32 := NB112_111.out
   have hz33_1 := bz BK111
   have hz34_2 := bz BK112
   go_wp2_with (first | (refine gl (some 31) Tryz.func51 #[.slice A0_1 l0_1.length c0_1, .slice A1_1 l1_1.length c1_1] ?_; (with_reducible refine (o_size.calls kj2 _ _ l0_1 _ _ l1_1 t116 _ (ck HR0_1 HB) HC0_1.out (ck HR1_1 HB) HC1_1.out A31.out).mono ?_); rintro e w' ⟨rfl, ⟨nd, rfl⟩⟩; refine ⟨_, rfl, ?_⟩))
   go_ret
   exact ⟨fe, bls HB⟩
/-- A row without the noughts at its end. -/
def trimz (l : List Int) : List Int := (l.reverse.dropWhile (fun x => x == 0)).reverse
theorem trimz_snoc0 (l : List Int) : trimz (l ++ [0]) = trimz l := by simp [trimz]
theorem trimz_snoc (l : List Int) (x : Int) (h : x ≠ 0) : trimz (l ++ [x]) = l ++ [x] := by simp [trimz, h]
theorem trimz_nil : trimz [] = [] := rfl
theorem take_snoc_rd (l : List Int) (n : Nat) (h : n < l.length) : l.take (n + 1) = l.take n ++ [rd l n] := by
 rw [List.take_succ_eq_append_getElem h]
 simp [rd, List.getD_eq_getElem?_getD, List.getElem?_eq_getElem h]
def o_form.f (a0 : Bool) (l1 : List Int) : Option (Bool × List Int) :=
 if l1.length ≤ 35184372088832 then some (if trimz l1 = [] then (false, []) else (a0, trimz l1)) else none
theorem o_form.calls (a0 : Bool) (A1 : Option Addr) (c1 : Nat) (l1 : List Int) (r1 : Bool) (r2 : List Int) (w : World) (hr1 : Kd.C (Kd.int .u64) w A1 l1.length l1) (hc1 : l1.length ≤ c1) (h : o_form.f a0 l1 = some (r1, r2)) :
  Calls Tryz.prog 94 #[.bool a0, .slice A1 l1.length c1] w fun e w' => ∃ v1_ : Value, e = .returned (.agg #[.bool r1, v1_]) ∧ Kd.R (Kd.int .u64) 25 w' w.heap.size (fun _ => True) v1_ r2 ∧ Below w.heap.size w w' := by
 have hu24 := Tryz.underlying24
 have HR1 := Az hr1
 have HC1 := Az hc1
 clear hr1 hc1
 have HB := Az (Below.refl w.heap.size w)
 unfold o_form.f at h
 by_cases hlim : l1.length ≤ 35184372088832
 case neg => rw [if_neg hlim] at h; exact absurd h (by simp)
 rw [if_pos hlim] at h
 have H' := Az (Option.some.inj h)
 have HL := Az hlim
 clear h hlim
 go_enter Tryz.func94, Tryz.ntmps94
 go_wp2_with (first | (refine be 4 #[.bool false, .slice none 0 0] 24 ?_; intro gb107 hg w3 hbox hb; have BK107 := Az (hbox); have GE107 := Az ((by rw [hg]; exact (below_size (by exact HB.out))) : w.heap.size ≤ gb107); replace HB := Az (below_step (by exact HB.out) hb); clear hb hbox hg))
 go_loopg [5] l1.length (fun kq v5 w' => ∃ (x5_1 : Int), v5 = .int .i64 x5_1 ∧ Aside0 (x5_1 = (kq : Int)) ∧ Aside0 (kq ≤ l1.length) ∧ Aside0 (trimz (l1.take kq) = trimz l1) ∧ Aside0 (w'.heap[gb107]? = some (.cells #[.bool false, (.slice none 0 0)] 24 (0, 0))) ∧ Aside0 (Below w.heap.size w w'))
 case atStart => exact ⟨((l1.length : Int)), rs, ⟨rfl⟩, ⟨Nat.le_refl _⟩, ⟨by rw [List.take_length]⟩, ⟨bk BK107⟩, ⟨bls HB⟩⟩
 case round =>
  obtain ⟨x5_1, rfl, HX, HK, HT, BK107, HB⟩ := hrel
  cases gk with
  | zero =>
   obtain rfl : x5_1 = 0 := HX.out
   have hT := HT.out
   rw [List.take_zero, trimz_nil] at hT
   have hR := H'.out
   rw [if_pos hT.symm] at hR
   simp only [Prod.mk.injEq] at hR
   obtain ⟨rfl, rfl⟩ := hR
   clear H' hT
   have hcz10_0 : wr.cell? ⟨gb107, 0, none⟩ = some (.bool false) := (blk_cell BK107.out 0).trans rfl
   have hcz10_1 : wr.cell? ⟨gb107, 1, none⟩ = some (.slice none 0 0) := (blk_cell BK107.out 1).trans rfl
   have hfz10_0 := blk_frozen BK107.out 0
   have hfz10_1 := blk_frozen BK107.out 1
   go_wp2
   refine bodyPost_ret (results_cell_row rfl _ _ gb107 24 #[.bool false, .slice none 0 0] (0, 0) _ rfl (by refine blk_put (cs := #[.bool false, .slice none 0 0]) ?_ 1 _ rfl; refine blk_put (cs := #[.bool false, .slice none 0 0]) ?_ 0 _ rfl; exact BK107.out) Tryz.underlying24 rfl (by kernel_rfl)) rfl ?_
   exact ⟨_, rfl, Kd.R_nil _ _ _ _ _, bls HB⟩
  | succ k1 =>
   have hkl : k1 < l1.length := by have := HK.out; omega
   have hl2 := HL.out
   have hx : x5_1 = (k1 : Int) + 1 := by have := HX.out; omega
   have hx1 : wrap64 (x5_1 - 1) = (k1 : Int) := by rw [hx]; unfold wrap64; omega
   obtain ⟨ji5, hji5⟩ : ∃ j_ : Int, (wrap64 (x5_1 - 1)) = j_ := ⟨_, rfl⟩
   have hj : ji5 = (k1 : Int) := by rw [← hji5, hx1]
   have hji5w : (IntKind.i64.wrap (x5_1 - 1)) = ji5 := (i64_w _).trans hji5
   have c4b0 : decide (0 < x5_1) = true := decide_eq_true (by omega)
   have c9b0 : (x5_1 == 0) = false := beq_eq_false_iff_ne.mpr (by omega)
   have p108' : 0 ≤ ji5 := by omega
   have q108' : ji5 < (l1.length : Int) := by omega
   obtain ⟨ad108, e108, hx108_0⟩ := Kd.at_int HR1.out (ji5) p108' q108'
   cases e108
   replace hx108_0 := (HB.out.cell (World.block_lt_of_cell? w _ hx108_0)).trans hx108_0
   have p108 := eq_true p108'
   have q108 := eq_true q108'
   have p108d : decide (0 ≤ ji5) = true := decide_eq_true p108'
   have q108d : decide (ji5 < (l1.length : Int)) = true := decide_eq_true q108'
   have HJ := Az hj
   have HX1 := Az hx
   have HKL := Az hkl
   clear hx1 hji5 hj hx hkl p108' q108' hl2
   by_cases c8 : rd l1 ji5 = 0
   ·have c8b0 : ((rd l1 (ji5)) == 0) = true := beq_iff_eq.mpr c8
    have hT : trimz (l1.take k1) = trimz l1 := by
     have h1 := HT.out
     rw [take_snoc_rd l1 k1 HKL.out, show rd l1 (k1 : Int) = 0 by rw [← HJ.out]; exact c8, trimz_snoc0] at h1
     exact h1
    have HT' := Az hT
    clear hT HT c8
    go_wp2
    go_roundg k1
    case measure => exact Nat.lt_succ_self _
    case rel => exact ⟨(ji5), (by first | rfl | (simp; done) | (simp only [← HJ.out] <;> (first | rfl | simp)) | (simp [*]; done)), HJ, ⟨by have := HKL.out; omega⟩, HT', ⟨bk BK107⟩, ⟨bls HB⟩⟩
   have c8b0 : ((rd l1 (ji5)) == 0) = false := beq_eq_false_iff_ne.mpr c8
   have hT : trimz l1 = l1.take (k1 + 1) := by
    have h1 := HT.out
    rw [take_snoc_rd l1 k1 HKL.out, trimz_snoc _ _ (by rw [← HJ.out]; exact c8)] at h1
    rw [take_snoc_rd l1 k1 HKL.out]; exact h1.symm
   have hne : ¬ trimz l1 = [] := by
    rw [hT]; intro h2
    have := congrArg List.length h2
    rw [List.length_take, List.length_nil] at this
    have := HKL.out
    omega
   have hR := H'.out
   rw [if_neg hne, hT] at hR
   simp only [Prod.mk.injEq] at hR
   obtain ⟨rfl, hR2⟩ := hR
   have HR2 := Az hR2
   have hxn : x5_1.toNat = k1 + 1 := by have := HX1.out; omega
   have HXN := Az hxn
   have c11b1 : decide (0 ≤ x5_1) = true := decide_eq_true (by have := HX1.out; omega)
   have c12b1 : decide (x5_1.toNat ≤ 35184372088832) = true := decide_eq_true (by have := HKL.out; have := HL.out; omega)
   clear c8 hT hne H' hR2 hxn HT
   have hcz10_0 : wr.cell? ⟨gb107, 0, none⟩ = some (.bool false) := (blk_cell BK107.out 0).trans rfl
   have hcz10_1 : wr.cell? ⟨gb107, 1, none⟩ = some (.slice none 0 0) := (blk_cell BK107.out 1).trans rfl
   have hfz10_0 := blk_frozen BK107.out 0
   have hfz10_1 := blk_frozen BK107.out 1
   go_wp2_with (first | ((with_reducible refine gate_dst (N := 25) rfl ?_); refine Kd.R_make (Kd.int .u64) _ 25 rfl (N := 25) rfl 22 _ _ rfl x5_1 rfl rfl Tryz.underlying22 (.int .u64 0) 8 info25 rfl (by decide) (by omega) 0 (ok := fun _ => True) (okp := fun _ => True) rfl (fun _ hk => hk) trivial (ode) (Nat.le_trans (Nat.mul_le_mul_right _ (ode : x5_1.toNat ≤ 35184372088832)) (by omega)) (Below.refl _ _) (Nat.le_refl _) ?_; intro v310 w5 ho6 hb hg_ hnew_; clear hg_ hnew_; have n0_ := Az (Kd.R_lower ho6 (below_size (by exact HB.out))); have n1_ := Az (below_step (by exact HB.out) hb); have n2_ := Az ((hb.block _ (blk_lt BK107.out)).trans BK107.out); clear hcz10_0 hcz10_1 hfz10_0 hfz10_1; have HO := n0_; clear HB BK107; have HB := n1_; have BK107 := n2_; clear n0_ n1_ n2_ hb ho6) | ((with_reducible refine gate_dst (N := 28) rfl ?_); refine R_copy_take (w0 := w) (Value.int .u64) 0 w.heap.size rfl (.tmp 26) (.tmp 27) 22 22 25 rfl Tryz.underlying22 (by kernel_rfl) v310 (List.replicate x5_1.toNat 0) l1 _ _ _ _ rfl rfl HO.out (Kd.C_below HR1.out HB.out) (by simp; have := HK.out; have := HXN.out; omega) HB.out ?_; intro w7 ho7 hb7 hg7; have n0_ := Az ((hg7.block gb107 (blk_lt BK107.out) (Kd.R_ne HO.out BK107.out (by decide))).trans BK107.out); have n1_ := Az hb7; have n2_ := Az (show Kd.R (Kd.int .u64) 25 w7 w.heap.size (fun _ => True) v310 r2 from by rw [List.length_replicate, HXN.out, HR2.out] at ho7; exact ho7); clear BK107 HB HO; have BK107 := n0_; have HB := n1_; have HO := n2_; clear n0_ n1_ n2_ hg7 hb7 ho7; obtain ⟨A9_, c9_, rfl⟩ := Kd.R_slice HO.out; have hcz10_0 : w7.cell? ⟨gb107, 0, none⟩ = some (.bool false) := (blk_cell BK107.out 0).trans rfl; have hcz10_1 : w7.cell? ⟨gb107, 1, none⟩ = some (.slice none 0 0) := (blk_cell BK107.out 1).trans rfl; have hfz10_0 := blk_frozen BK107.out 0; have hfz10_1 := blk_frozen BK107.out 1))
   refine bodyPost_ret (results_cell_row rfl _ _ gb107 24 #[.bool a0, .slice A9_ r2.length c9_] (0, 0) _ rfl (by refine blk_put (cs := #[.bool a0, .slice none 0 0]) ?_ 1 _ rfl; refine blk_put (cs := #[.bool false, .slice none 0 0]) ?_ 0 _ rfl; exact BK107.out) Tryz.underlying24 rfl (by kernel_rfl)) rfl ?_
   exact ⟨_, rfl, Kd.R_set (Kd.R_set HO.out BK107.out (by decide) 0 _) (blk_put (cs := #[.bool false, .slice none 0 0]) BK107.out 0 _ rfl) (by decide) 1 _, bls HB⟩
def o_Of.f (a0 : Int) : Option (Bool × List Int) := if a0 < 0 then ((o_form.f true (([Int.tmod (IntKind.u64.wrap (-(IntKind.u64.wrap (a0)))) 1000000000000000000, IntKind.u64.wrap (Int.tdiv (IntKind.u64.wrap (-(IntKind.u64.wrap (a0)))) 1000000000000000000)] : List Int))).bind fun bt121 => (some (bt121.1, bt121.2))) else ((o_form.f false (([Int.tmod (IntKind.u64.wrap (a0)) 1000000000000000000, IntKind.u64.wrap (Int.tdiv (IntKind.u64.wrap (a0)) 1000000000000000000)] : List Int))).bind fun bt128 => (some (bt128.1, bt128.2)))
theorem o_Of.calls (a0 : Int) (r1 : Bool) (r2 : List Int) (w : World) (h : o_Of.f a0 = some (r1, r2)) :
  Calls Tryz.prog 65 #[.int .i64 a0] w fun e w' => ∃ v1_ : Value, e = .returned (.agg #[.bool r1, v1_]) ∧ Kd.R (Kd.int .u64) 25 w' w.heap.size (fun _ => True) v1_ r2 ∧ Below w.heap.size w w' := by
 have hu24 := Tryz.underlying24
 have HB := Az (Below.refl w.heap.size w)
 have H := h
 unfold o_Of.f at H
 clear h
 by_cases c2 : a0 < 0
 ·rw [if_pos c2] at H
  have c2b0 := decide_eq_true c2
  clear c2
  obtain ⟨y118, hy118⟩ : ∃ y_ : List Int, y_ = (([Int.tmod (IntKind.u64.wrap (-(IntKind.u64.wrap (a0)))) 1000000000000000000, IntKind.u64.wrap (Int.tdiv (IntKind.u64.wrap (-(IntKind.u64.wrap (a0)))) 1000000000000000000)] : List Int)) := ⟨_, rfl⟩
  replace H : ((o_form.f true y118).bind fun bt121 => (some (bt121.1, bt121.2))) = some (r1, r2) := by rw [hy118]; exact H
  have Ny118 := Az hy118
  clear hy118
  obtain ⟨⟨t121, t122⟩, A3, H⟩ := bd H
  (try dsimp only at H)
  simp only [Option.some.injEq, Prod.mk.injEq] at H
  obtain ⟨rfl, rfl⟩ := H
  go_enter Tryz.func65, Tryz.ntmps65
  go_wp2_with (first | (refine be 2 #[.bool false, .slice none 0 0] 24 ?_; intro gb117 hg w4 hbox hb; have BK117 := Az (hbox); have GW117 := gw (bl HB) hg; have GE117 := gw (bl HB) hg; replace HB := bs HB hb; clear hb hbox hg) | ((with_reducible refine gate_dst (N := 16) rfl ?_); refine Kd.R_lit (Kd.int .u64) _ 25 ?hg (N := 16) ?hd (xs := ([Int.tmod (IntKind.u64.wrap (-(IntKind.u64.wrap (a0)))) 1000000000000000000, IntKind.u64.wrap (Int.tdiv (IntKind.u64.wrap (-(IntKind.u64.wrap (a0)))) 1000000000000000000)] : List Int)) (inner := [.int .u64 (Int.tmod (IntKind.u64.wrap (-(IntKind.u64.wrap (a0)))) 1000000000000000000), .int .u64 (IntKind.u64.wrap (Int.tdiv (IntKind.u64.wrap (-(IntKind.u64.wrap (a0)))) 1000000000000000000))]) (ok := fun _ => True) (okp := fun _ => True) ?hr ?hp (fun _ hk => hk) trivial (Below.refl _ _) (Nat.le_refl _) (by simp) ?_; (case hd => rfl); (case hg => rfl); (case hr => first | (go_simp; done) | (go_simp; rfl)); (case hp => exact (Reps.one (show Kd.M (Kd.int .u64) _ _ _ (Int.tmod (IntKind.u64.wrap (-(IntKind.u64.wrap (a0)))) 1000000000000000000) [.int .u64 (Int.tmod (IntKind.u64.wrap (-(IntKind.u64.wrap (a0)))) 1000000000000000000)] from rfl) (Reps.one (show Kd.M (Kd.int .u64) _ _ _ (IntKind.u64.wrap (Int.tdiv (IntKind.u64.wrap (-(IntKind.u64.wrap (a0)))) 1000000000000000000)) [.int .u64 (IntKind.u64.wrap (Int.tdiv (IntKind.u64.wrap (-(IntKind.u64.wrap (a0)))) 1000000000000000000))] from rfl) (Reps.none _ _)))); intro v119 w5 ho6 hb hg_ hnew_; clear hg_ hnew_; (first | rw [← Ny118.out] at ho6 | (simp only [Int.reduceToNat] at ho6; rw [← Ny118.out] at ho6)); have HO120 := Az (Kd.R_lower ho6 (below_size (bls HB))); replace BK117 := kb BK117 hb; replace HB := bs HB hb; clear hb ho6; obtain ⟨Ao7, co7, eo7⟩ := Kd.R_slice HO120.out; subst eo7) | (refine gl (some 17) Tryz.func94 #[.bool true, .slice Ao7 y118.length co7] ?_; (with_reducible refine (o_form.calls true _ _ y118 t121 t122 _ ?side1 (Kd.R_reads' HO120.out).2.1 A3.out).mono ?_); (case side1 => exact (Kd.R_reads' HO120.out).2.2); rintro e w8 ⟨v123, rfl, ho0, hb⟩; refine ⟨_, rfl, ?_⟩; have HO124 := Az (Kd.R_lower (Kd.R_new' ho0 (Kd.R_lt (rk HO120))) (below_size (bls HB))); replace HO120 := Az (Kd.R_elder' (rk HO120) (Kd.R_base ho0) hb); replace BK117 := kb BK117 hb; replace HB := bs HB hb; have hz9_1 := bz BK117; obtain ⟨Ao10, co10, eo10⟩ := Kd.R_slice HO124.out; subst eo10))
  refine bodyPost_ret (results_cell_row rfl _ _ gb117 24 #[.bool t121, .slice Ao10 t122.length co10] (0, 0) _ rfl (by refine blk_put (cs := #[.bool t121, .slice none 0 0]) ?_ 1 _ rfl; refine blk_put (cs := #[.bool false, .slice none 0 0]) ?_ 0 _ rfl; exact BK117.out) Tryz.underlying24 rfl (by kernel_rfl)) rfl ?_
  exact ⟨_, fe, rt (Kd.R_mono (Kd.R_far (p := ⟨gb117, 1, none⟩) (Kd.R_far (p := ⟨gb117, 0, none⟩) (Kd.R_types HO124.out BK117.out (by decide)) (fun _ hk => hk.2) (.bool t121)) (fun _ hk => hk.2) (.slice Ao10 t122.length co10)) (fun _ hk => trivial)), bls HB⟩
 rw [if_neg c2] at H
 have c2b0 := decide_eq_false c2
 clear c2
 obtain ⟨y125, hy125⟩ : ∃ y_ : List Int, y_ = (([Int.tmod (IntKind.u64.wrap (a0)) 1000000000000000000, IntKind.u64.wrap (Int.tdiv (IntKind.u64.wrap (a0)) 1000000000000000000)] : List Int)) := ⟨_, rfl⟩
 replace H : ((o_form.f false y125).bind fun bt128 => (some (bt128.1, bt128.2))) = some (r1, r2) := by rw [hy125]; exact H
 have Ny125 := Az hy125
 clear hy125
 obtain ⟨⟨t128, t129⟩, A11, H⟩ := bd H
 (try dsimp only at H)
 simp only [Option.some.injEq, Prod.mk.injEq] at H
 obtain ⟨rfl, rfl⟩ := H
 go_enter Tryz.func65, Tryz.ntmps65
 go_wp2_with (first | (refine be 2 #[.bool false, .slice none 0 0] 24 ?_; intro gb117 hg w12 hbox hb; have BK117 := Az (hbox); have GW117 := gw (bl HB) hg; have GE117 := gw (bl HB) hg; replace HB := bs HB hb; clear hb hbox hg) | ((with_reducible refine gate_dst (N := 16) rfl ?_); refine Kd.R_lit (Kd.int .u64) _ 25 ?hg (N := 16) ?hd (xs := ([Int.tmod (IntKind.u64.wrap (a0)) 1000000000000000000, IntKind.u64.wrap (Int.tdiv (IntKind.u64.wrap (a0)) 1000000000000000000)] : List Int)) (inner := [.int .u64 (Int.tmod (IntKind.u64.wrap (a0)) 1000000000000000000), .int .u64 (IntKind.u64.wrap (Int.tdiv (IntKind.u64.wrap (a0)) 1000000000000000000))]) (ok := fun _ => True) (okp := fun _ => True) ?hr ?hp (fun _ hk => hk) trivial (Below.refl _ _) (Nat.le_refl _) (by simp) ?_; (case hd => rfl); (case hg => rfl); (case hr => first | (go_simp; done) | (go_simp; rfl)); (case hp => exact (Reps.one (show Kd.M (Kd.int .u64) _ _ _ (Int.tmod (IntKind.u64.wrap (a0)) 1000000000000000000) [.int .u64 (Int.tmod (IntKind.u64.wrap (a0)) 1000000000000000000)] from rfl) (Reps.one (show Kd.M (Kd.int .u64) _ _ _ (IntKind.u64.wrap (Int.tdiv (IntKind.u64.wrap (a0)) 1000000000000000000)) [.int .u64 (IntKind.u64.wrap (Int.tdiv (IntKind.u64.wrap (a0)) 1000000000000000000))] from rfl) (Reps.none _ _)))); intro v126 w13 ho14 hb hg_ hnew_; clear hg_ hnew_; (first | rw [← Ny125.out] at ho14 | (simp only [Int.reduceToNat] at ho14; rw [← Ny125.out] at ho14)); have HO127 := Az (Kd.R_lower ho14 (below_size (bls HB))); replace BK117 := kb BK117 hb; replace HB := bs HB hb; clear hb ho14; obtain ⟨Ao15, co15, eo15⟩ := Kd.R_slice HO127.out; subst eo15) | (refine gl (some 17) Tryz.func94 #[.bool false, .slice Ao15 y125.length co15] ?_; (with_reducible refine (o_form.calls false _ _ y125 t128 t129 _ ?side1 (Kd.R_reads' HO127.out).2.1 A11.out).mono ?_); (case side1 => exact (Kd.R_reads' HO127.out).2.2); rintro e w16 ⟨v130, rfl, ho0, hb⟩; refine ⟨_, rfl, ?_⟩; have HO131 := Az (Kd.R_lower (Kd.R_new' ho0 (Kd.R_lt (rk HO127))) (below_size (bls HB))); replace HO127 := Az (Kd.R_elder' (rk HO127) (Kd.R_base ho0) hb); replace BK117 := kb BK117 hb; replace HB := bs HB hb; have hz17_1 := bz BK117; obtain ⟨Ao18, co18, eo18⟩ := Kd.R_slice HO131.out; subst eo18))
 refine bodyPost_ret (results_cell_row rfl _ _ gb117 24 #[.bool t128, .slice Ao18 t129.length co18] (0, 0) _ rfl (by refine blk_put (cs := #[.bool t128, .slice none 0 0]) ?_ 1 _ rfl; refine blk_put (cs := #[.bool false, .slice none 0 0]) ?_ 0 _ rfl; exact BK117.out) Tryz.underlying24 rfl (by kernel_rfl)) rfl ?_
 exact ⟨_, fe, rt (Kd.R_mono (Kd.R_far (p := ⟨gb117, 1, none⟩) (Kd.R_far (p := ⟨gb117, 0, none⟩) (Kd.R_types HO131.out BK117.out (by decide)) (fun _ hk => hk.2) (.bool t128)) (fun _ hk => hk.2) (.slice Ao18 t129.length co18)) (fun _ hk => trivial)), bls HB⟩
def o_fits.f (a0 : Bool) (l1 : List Int) : Option (Bool × List Int × Int) := (o_form.f a0 l1).bind fun bt156 => (if (bt156.2.length : Int) > 30 then (none) else (some (bt156.1, bt156.2, 0)))
theorem o_fits.calls (a0 : Bool) (A1 : Option Addr) (c1 : Nat) (l1 : List Int) (r1 : Bool) (r2 : List Int) (r3 : Int) (w : World) (hr1 : Kd.C (Kd.int .u64) w A1 l1.length l1) (hc1 : l1.length ≤ c1) (h : o_fits.f a0 l1 = some (r1, r2, r3)) :
  Calls Tryz.prog 126 #[.bool a0, .slice A1 l1.length c1] w fun e w' => ∃ v1_ : Value, e = .returned (.tuple #[.agg #[.bool r1, v1_], .int .i64 r3]) ∧ Kd.R (Kd.int .u64) 25 w' w.heap.size (fun _ => True) v1_ r2 ∧ Below w.heap.size w w' := by
 have hu24 := Tryz.underlying24
 have HR1 := Az hr1
 have HC1 := Az hc1
 clear hr1 hc1
 have HB := Az (Below.refl w.heap.size w)
 have H := h
 unfold o_fits.f at H
 clear h
 obtain ⟨⟨t156, t157⟩, A3, H⟩ := bd H
 (try dsimp only at H)
 by_cases c4 : (t157.length : Int) > 30
 ·rw [if_pos c4] at H
  exact absurd H (by simp)
 rw [if_neg c4] at H
 have c4b0 : decide (30 < (t157.length : Int)) = false := decide_eq_false c4
 have c4b1 : decide (30 < t157.length) = false := decide_eq_false (by omega)
 clear c4
 simp only [Option.some.injEq, Prod.mk.injEq] at H
 obtain ⟨rfl, rfl, rfl⟩ := H
 go_enter Tryz.func126, Tryz.ntmps126
 go_wp2_with (first | (refine be 4 #[.bool false, .slice none 0 0] 24 ?_; intro gb155 hg w5 hbox hb; have BK155 := Az (hbox); have GW155 := gw (bl HB) hg; have GE155 := gw (bl HB) hg; replace HB := bs HB hb; clear hb hbox hg) | (refine gl (some 9) Tryz.func94 #[.bool a0, .slice A1 l1.length c1] ?_; (with_reducible refine (o_form.calls a0 _ _ l1 t156 t157 _ (ck HR1 HB) HC1.out A3.out).mono ?_); rintro e w6 ⟨v158, rfl, ho0, hb⟩; refine ⟨_, rfl, ?_⟩; have HO159 := Az (Kd.R_lower ho0 (below_size (bls HB))); replace BK155 := kb BK155 hb; replace HB := bs HB hb; (try clear hb); (try clear ho0)) | (refine be 6 #[.bool false, .slice none 0 0] 24 ?_; intro gb160 hg w7 hbox hb; replace HO159 := Az (Kd.R_below (rk HO159) hb); have BK160 := Az (hbox); have GW160 := gw (bls HB) hg; have GE160 := gw (bls HB) hg; replace HB := bs HB hb; have NB155_160 := nl BK155 hg; have NB160_155 := ng BK155 hg; replace BK155 := kb BK155 hb; clear hb hbox hg; have hnb8 := NB160_155.out; have hnc8 := NB155_160.out; have hz9_1 := bz BK160; obtain ⟨Ao10, co10, eo10⟩ := Kd.R_slice HO159.out; subst eo10; have hz11_1 := bz BK155))
 refine bodyPost_ret (results_ct rfl _ _ gb155 24 #[.bool t156, .slice Ao10 t157.length co10] (0, 0) _ rfl (by (with_reducible repeat (first | refine blk_drewN ?_ _ | refine blk_drew ?_ | refine blk_alloc ?_ _)); refine blk_put (cs := #[.bool t156, .slice none 0 0]) ?_ 1 _ rfl; (with_reducible repeat (first | refine blk_drewN ?_ _ | refine blk_drew ?_ | refine blk_alloc ?_ _)); refine blk_put (cs := #[.bool false, .slice none 0 0]) ?_ 0 _ rfl; (with_reducible repeat (first | refine blk_drewN ?_ _ | refine blk_drew ?_ | refine blk_alloc ?_ _)); refine blk_far ?_ NB155_160.out _; (with_reducible repeat (first | refine blk_drewN ?_ _ | refine blk_drew ?_ | refine blk_alloc ?_ _)); refine blk_far ?_ NB155_160.out _; (with_reducible repeat (first | refine blk_drewN ?_ _ | refine blk_drew ?_ | refine blk_alloc ?_ _)); exact BK155.out) Tryz.underlying24 rfl (by kernel_rfl)) rfl ?_
 exact ⟨_, fe, rt (Kd.R_mono (Kd.R_far (p := ⟨gb155, 1, none⟩) (Kd.R_far (p := ⟨gb155, 0, none⟩) (Kd.R_far (p := ⟨gb160, 1, none⟩) (Kd.R_far (p := ⟨gb160, 0, none⟩) (Kd.R_types (Kd.R_types HO159.out BK160.out (by decide)) BK155.out (by decide)) (fun _ hk => hk.1.2) (.bool t156)) (fun _ hk => hk.1.2) (.slice Ao10 t157.length co10)) (fun _ hk => hk.2) (.bool t156)) (fun _ hk => hk.2) (.slice Ao10 t157.length co10)) (fun _ hk => trivial)), bls HB⟩
mutual
def o_Mul.l0 : Nat → List Int → Int → Int → Bool → List Int → Bool → List Int → Option (Bool × List Int × Int)
 | 0, _, _, _, _, _, _, _ => none
 | k + 1, x6, x33, x34, x162000, x162001, x163000, x163001 => if x34 < x33 then (o_Mul.l1 k x6 x34 0 x33 x34 (x163001.length : Int) 0 x162000 x162001 x163000 x163001) else ((o_fits.f (x162000 != x163000) x6).bind fun bt169 => (some (bt169.1, bt169.2.1, bt169.2.2)))
def o_Mul.l1 : Nat → List Int → Int → Int → Int → Int → Int → Int → Bool → List Int → Bool → List Int → Option (Bool × List Int × Int)
 | 0, _, _, _, _, _, _, _, _, _, _, _ => none
 | k + 1, x6, x7, x8, x33, x34, x39, x40, x162000, x162001, x163000, x163001 => if x40 < x39 then (if 0 ≤ x7 then (if x7 < (x162001.length : Int) then (if 0 ≤ x40 then (if x40 < (x163001.length : Int) then ((bits_Mul64.f (rd x162001 x7) (rd x163001 x40)).bind fun bt178 => (if 0 ≤ (wrap64 (x7 + x40)) then (if (wrap64 (x7 + x40)) < (x6.length : Int) then ((bits_Div64.f k (IntKind.u64.wrap ((IntKind.u64.wrap (bt178.1 + (add64c bt178.2 (rd x6 (wrap64 (x7 + x40)))))) + (add64c (add64s bt178.2 (rd x6 (wrap64 (x7 + x40)))) x8))) (add64s (add64s bt178.2 (rd x6 (wrap64 (x7 + x40)))) x8) 1000000000000000000).bind fun bt181 => (o_Mul.l1 k (x6.set ((wrap64 (x7 + x40)) : Int).toNat bt181.2) x7 bt181.1 x33 x34 x39 (wrap64 (x40 + 1)) x162000 x162001 x163000 x163001)) else (none)) else (none))) else (none)) else (none)) else (none)) else (none)) else (if 0 ≤ (wrap64 (x7 + (x163001.length : Int))) then (if (wrap64 (x7 + (x163001.length : Int))) < (x6.length : Int) then (o_Mul.l0 k (x6.set ((wrap64 (x7 + (x163001.length : Int))) : Int).toNat (IntKind.u64.wrap ((rd x6 (wrap64 (x7 + (x163001.length : Int)))) + x8))) x33 (wrap64 (x34 + 1)) x162000 x162001 x163000 x163001) else (none)) else (none))
end
def o_Mul.f (k : Nat) (a0_0 : Bool) (l0_1 : List Int) (a1_0 : Bool) (l1_1 : List Int) : Option (Bool × List Int × Int) := (o_Good.f k a0_0 l0_1).bind fun t164 => (if t164 = true then ((o_Good.f k a1_0 l1_1).bind fun t165 => (if t165 = true then (if 0 ≤ (wrap64 ((wrap64 ((l0_1.length : Int) + (l1_1.length : Int))) + 1)) then (if (wrap64 ((wrap64 ((l0_1.length : Int) + (l1_1.length : Int))) + 1) : Int).toNat ≤ 35184372088832 then (o_Mul.l0 k (List.replicate (wrap64 ((wrap64 ((l0_1.length : Int) + (l1_1.length : Int))) + 1) : Int).toNat 0) (l0_1.length : Int) 0 a0_0 l0_1 a1_0 l1_1) else (none)) else (none)) else (none))) else (none))
theorem o_Mul.mono_l : ∀ k, (∀ y0 y1 y2 y3 y4 y5 y6, LeO (o_Mul.l0 k y0 y1 y2 y3 y4 y5 y6) (o_Mul.l0 (k + 1) y0 y1 y2 y3 y4 y5 y6)) ∧ (∀ y0 y1 y2 y3 y4 y5 y6 y7 y8 y9 y10, LeO (o_Mul.l1 k y0 y1 y2 y3 y4 y5 y6 y7 y8 y9 y10) (o_Mul.l1 (k + 1) y0 y1 y2 y3 y4 y5 y6 y7 y8 y9 y10))
 | 0 => ⟨fun _ _ _ _ _ _ _ r h => by simp [o_Mul.l0] at h, fun _ _ _ _ _ _ _ _ _ _ _ r h => by simp [o_Mul.l1] at h⟩
 | k + 1 => by
  obtain ⟨ih0, ih1⟩ := o_Mul.mono_l k
  refine ⟨?_, ?_⟩
  ·intro y0 y1 y2 y3 y4 y5 y6
   unfold o_Mul.l0
   repeat' first
   | exact ih0 _ _ _ _ _ _ _
   | exact ih1 _ _ _ _ _ _ _ _ _ _ _
   | exact bits_Div64.mono _ _ _ _
   | exact o_Good.mono _ _ _
   | exact LeO.refl _
   | exact LeO.none _
   | refine LeO.ite ?_ ?_
   | refine LeO.bind ?_ (fun _ => ?_)
  ·intro y0 y1 y2 y3 y4 y5 y6 y7 y8 y9 y10
   unfold o_Mul.l1
   repeat' first
   | exact ih0 _ _ _ _ _ _ _
   | exact ih1 _ _ _ _ _ _ _ _ _ _ _
   | exact bits_Div64.mono _ _ _ _
   | exact o_Good.mono _ _ _
   | exact LeO.refl _
   | exact LeO.none _
   | refine LeO.ite ?_ ?_
   | refine LeO.bind ?_ (fun _ => ?_)
theorem o_Mul.mono : ∀ a0 a1 a2 a3 k, LeO (o_Mul.f k a0 a1 a2 a3) (o_Mul.f (k + 1) a0 a1 a2 a3) := by
 intro a0 a1 a2 a3 k
 obtain ⟨ih0, ih1⟩ := o_Mul.mono_l k
 unfold o_Mul.f
 repeat' first
   | exact ih0 _ _ _ _ _ _ _
   | exact ih1 _ _ _ _ _ _ _ _ _ _ _
   | exact bits_Div64.mono _ _ _ _
   | exact o_Good.mono _ _ _
   | exact LeO.refl _
   | exact LeO.none _
   | refine LeO.ite ?_ ?_
   | refine LeO.bind ?_ (fun _ => ?_)
theorem o_Mul.calls (k : Nat) (a0_0 : Bool) (A0_1 : Option Addr) (c0_1 : Nat) (l0_1 : List Int) (a1_0 : Bool) (A1_1 : Option Addr) (c1_1 : Nat) (l1_1 : List Int) (r1 : Bool) (r2 : List Int) (r3 : Int) (w : World) (hr0_1 : Kd.C (Kd.int .u64) w A0_1 l0_1.length l0_1) (hc0_1 : l0_1.length ≤ c0_1) (hr1_1 : Kd.C (Kd.int .u64) w A1_1 l1_1.length l1_1) (hc1_1 : l1_1.length ≤ c1_1) (h : o_Mul.f k a0_0 l0_1 a1_0 l1_1 = some (r1, r2, r3)) :
  Calls Tryz.prog 97 #[.agg #[.bool a0_0, .slice A0_1 l0_1.length c0_1], .agg #[.bool a1_0, .slice A1_1 l1_1.length c1_1]] w fun e w' => ∃ v1_ : Value, e = .returned (.tuple #[.agg #[.bool r1, v1_], .int .i64 r3]) ∧ Kd.R (Kd.int .u64) 25 w' w.heap.size (fun _ => True) v1_ r2 ∧ Below w.heap.size w w' := by
 have hu24 := Tryz.underlying24
 have HR0_1 := Az hr0_1
 have HC0_1 := Az hc0_1
 have HR1_1 := Az hr1_1
 have HC1_1 := Az hc1_1
 have HB := Az (Below.refl w.heap.size w)
 have H := h
 unfold o_Mul.f at H
 obtain ⟨t164, A3, H⟩ := bd H
 by_cases c4 : t164 = true
 case neg =>
  replace c4 := Bool.eq_false_iff.mpr c4
  subst c4
  rw [if_neg Bool.false_ne_true] at H
  exact absurd H (by simp)
 subst c4
 rw [if_pos rfl] at H
 obtain ⟨t165, A5, H⟩ := bd H
 by_cases c6 : t165 = true
 case neg =>
  replace c6 := Bool.eq_false_iff.mpr c6
  subst c6
  rw [if_neg Bool.false_ne_true] at H
  exact absurd H (by simp)
 subst c6
 rw [if_pos rfl] at H
 obtain ⟨ji7, hji7⟩ : ∃ j_ : Int, (wrap64 ((wrap64 ((l0_1.length : Int) + (l1_1.length : Int))) + 1)) = j_ := ⟨_, rfl⟩
 replace H : (if 0 ≤ (ji7) then (if (ji7 : Int).toNat ≤ 35184372088832 then (o_Mul.l0 k (List.replicate (ji7 : Int).toNat 0) (l0_1.length : Int) 0 a0_0 l0_1 a1_0 l1_1) else (none)) else (none)) = some (r1, r2, r3) := by first | (rw [hji7] at H; exact H) | (simp only [hji7] at H ⊢; exact H)
 have hji7w : (IntKind.i64.wrap ((wrap64 ((l0_1.length : Int) + (l1_1.length : Int))) + 1)) = ji7 := (i64_w _).trans hji7
 by_cases c8 : 0 ≤ (ji7)
 case neg =>
  rw [if_neg c8] at H
  exact absurd H (by simp)
 rw [if_pos c8] at H
 have c8b0 := eq_true c8
 have c8b1 := decide_eq_true c8
 by_cases c9 : (ji7 : Int).toNat ≤ 35184372088832
 case neg =>
  rw [if_neg c9] at H
  exact absurd H (by simp)
 rw [if_pos c9] at H
 have c9b0 := eq_true c9
 have c9b1 := decide_eq_true c9
 obtain ⟨y166, hy166⟩ : ∃ y_ : List Int, y_ = (List.replicate (ji7 : Int).toNat 0) := ⟨_, rfl⟩
 replace H : (o_Mul.l0 k y166 (l0_1.length : Int) 0 a0_0 l0_1 a1_0 l1_1) = some (r1, r2, r3) := by rw [hy166]; exact H
 have Ny166 := Az hy166
 have H' := Az H
 go_enter Tryz.func97, Tryz.ntmps97
 go_wp2_with (first | (refine be 2 #[.bool a0_0, .slice A0_1 l0_1.length c0_1] 24 ?_; intro gb161 hg w10 hbox hb; have BK161 := Az (hbox); have GW161 := gw (bl HB) hg; have GE161 := gw (bl HB) hg; replace HB := bs HB hb; clear hb hbox hg) | (refine be 3 #[.bool a1_0, .slice A1_1 l1_1.length c1_1] 24 ?_; intro gb162 hg w11 hbox hb; have BK162 := Az (hbox); have GW162 := gw (bls HB) hg; have GE162 := gw (bls HB) hg; replace HB := bs HB hb; have NB161_162 := nl BK161 hg; have NB162_161 := ng BK161 hg; replace BK161 := kb BK161 hb; clear hb hbox hg) | (refine be 4 #[.bool false, .slice none 0 0] 24 ?_; intro gb163 hg w12 hbox hb; have BK163 := Az (hbox); have GW163 := gw (bls HB) hg; have GE163 := gw (bls HB) hg; replace HB := bs HB hb; have NB161_163 := nl BK161 hg; have NB163_161 := ng BK161 hg; replace BK161 := kb BK161 hb; have NB162_163 := nl BK162 hg; have NB163_162 := ng BK162 hg; replace BK162 := kb BK162 hb; clear hb hbox hg; have hnb13 := NB161_162.out; have hnc13 := NB162_161.out; have hnb14 := NB161_163.out; have hnc14 := NB163_161.out; have hz15_1 := bz BK161) | (go_at_call 47; (with_reducible refine (o_Good.calls k a0_0 _ _ l0_1 true _ (ck HR0_1 HB) HC0_1.out A3.out).mono ?_); rintro e w16 ⟨rfl, hb⟩; replace BK161 := kb BK161 hb; replace BK162 := kb BK162 hb; replace BK163 := kb BK163 hb; replace HB := bs HB hb; have hnb17 := NB162_163.out; have hnc17 := NB163_162.out; have hz18_1 := bz BK162) | (go_at_call 47; (with_reducible refine (o_Good.calls k a1_0 _ _ l1_1 true _ (ck HR1_1 HB) HC1_1.out A5.out).mono ?_); rintro e w19 ⟨rfl, hb⟩; replace BK161 := kb BK161 hb; replace BK162 := kb BK162 hb; replace BK163 := kb BK163 hb; replace HB := bs HB hb; have hz20_1 := bz BK161; have hz21_2 := bz BK162) | ((with_reducible refine gate_dst (N := 30) rfl ?_); refine Kd.R_make (Kd.int .u64) _ 25 rfl (N := 30) rfl 22 _ _ rfl ji7 rfl rfl Tryz.underlying22 (.int .u64 0) 8 info25 rfl (by decide) (by omega) 0 (ok := fun _ => True) (okp := fun _ => True) rfl (fun _ hk => hk) trivial (ode) (Nat.le_trans (Nat.mul_le_mul_right _ (ode : ji7.toNat ≤ 35184372088832)) (by omega)) (Below.refl _ _) (Nat.le_refl _) ?_; intro v167 w22 ho23 hb hg_ hnew_; clear hg_ hnew_; (first | rw [← Ny166.out] at ho23 | (simp only [Int.reduceToNat] at ho23; rw [← Ny166.out] at ho23)); have HO168 := Az (Kd.R_lower ho23 (below_size (bls HB))); replace BK161 := kb BK161 hb; replace BK162 := kb BK162 hb; replace BK163 := kb BK163 hb; replace HB := bs HB hb; clear hb ho23; have hz24_1 := bz BK161))
 go_loopg [34] k (fun kq v34 w' => ∃ (x6_1 : List Int) (x34_1 : Int), v34 = .int .i64 x34_1 ∧ Aside0 (o_Mul.l0 kq x6_1 (l0_1.length : Int) x34_1 a0_0 l0_1 a1_0 l1_1 = some (r1, r2, r3)) ∧ Aside0 (kq ≤ k) ∧ Aside0 (Kd.R (Kd.int .u64) 25 w' w.heap.size (fun _ => True) v167 x6_1) ∧ Aside0 (w'.heap[gb161]? = some (.cells #[.bool a0_0, (.slice A0_1 l0_1.length c0_1)] 24 (0, 0))) ∧ Aside0 (w'.heap[gb162]? = some (.cells #[.bool a1_0, (.slice A1_1 l1_1.length c1_1)] 24 (0, 0))) ∧ Aside0 (w'.heap[gb163]? = some (.cells #[.bool false, (.slice none 0 0)] 24 (0, 0))) ∧ Aside0 (Below w.heap.size w w'))
 case atStart => exact ⟨(y166), (0), rs, H', ⟨Nat.le_refl _⟩, ⟨rk HO168⟩, ⟨bk BK161⟩, ⟨bk BK162⟩, ⟨bk BK163⟩, ⟨bls HB⟩⟩
 case round =>
  obtain ⟨x6_1, x34_1, rfl, HA, HK1, HO_6, BK161, BK162, BK163, HB⟩ := hrel
  cases gk with
  | zero => exact absurd HA.out (by simp [o_Mul.l0])
  | succ k1 =>
   have H := HA.out
   simp only [o_Mul.l0] at H
   by_cases c25 : x34_1 < (l0_1.length : Int)
   case neg =>
    rw [if_neg c25] at H
    have c25b0 := decide_eq_false c25
    obtain ⟨⟨t169, t170, t173⟩, A58, H⟩ := bd H
    simp only [Option.some.injEq, Prod.mk.injEq] at H
    obtain ⟨rfl, rfl, rfl⟩ := H
    have hnb59 := NB161_162.out
    have hnc59 := NB162_161.out
    have hnb60 := NB161_163.out
    have hnc60 := NB163_161.out
    have hz61_1 := bz BK161
    have hnb62 := NB162_163.out
    have hnc62 := NB163_162.out
    have hz63_1 := bz BK162
    obtain ⟨Ao64, co64, eo64⟩ := Kd.R_slice HO_6.out
    subst eo64
    go_wp2_with (first | (go_at_call 126; (refine (o_fits.calls (a0_0 != a1_0) _ _ x6_1 t169 t170 t173 _ ?side1 ?side2 A58.out).mono ?_); (case side1 => exact (Kd.R_reads' HO_6.out).2.2); (case side2 => exact (Kd.R_reads' HO_6.out).2.1); rintro e w65 ⟨v171, rfl, ho0, hb⟩; have HO172 := Az (Kd.R_lower (Kd.R_new' ho0 (Kd.R_lt (rk HO_6))) (below_size (bls HB))); replace HO_6 := Az (Kd.R_elder' (rk HO_6) (Kd.R_base ho0) hb); replace BK161 := kb BK161 hb; replace BK162 := kb BK162 hb; replace BK163 := kb BK163 hb; replace HB := bs HB hb; have hz66_1 := bz BK163; obtain ⟨Ao67, co67, eo67⟩ := Kd.R_slice HO172.out; subst eo67))
    refine bodyPost_ret (results_ct rfl _ _ gb163 24 #[.bool t169, .slice Ao67 t170.length co67] (0, 0) _ rfl (by refine blk_put (cs := #[.bool t169, .slice none 0 0]) ?_ 1 _ rfl; refine blk_put (cs := #[.bool false, .slice none 0 0]) ?_ 0 _ rfl; exact BK163.out) Tryz.underlying24 rfl (by kernel_rfl)) rfl ?_
    exact ⟨_, by first | rfl | (simp [errW_none, errW_some] <;> rfl) | (simp only [← hji7]; first | rfl | (simp [errW_none, errW_some] <;> rfl)) | (simp [*, errW_none, errW_some] <;> rfl), rt (Kd.R_mono (Kd.R_far (p := ⟨gb163, 1, none⟩) (Kd.R_far (p := ⟨gb163, 0, none⟩) (Kd.R_types HO172.out BK163.out (by decide)) (fun _ hk => hk.2) (.bool t169)) (fun _ hk => hk.2) (.slice Ao67 t170.length co67)) (fun _ hk => trivial)), bls HB⟩
   rw [if_pos c25] at H
   have c25b0 := decide_eq_true c25
   have H' := Az H
   have hnb26 := NB162_161.out
   have hnc26 := NB161_162.out
   have hnb27 := NB162_163.out
   have hnc27 := NB163_162.out
   have hz28_1 := bz BK162
   go_wp2
   repeat (go_quiet (fail); try go_wp2)
   go_loopg [8, 40] k1 (fun kq v8 v40 w' => ∃ (x6_2 : List Int) (x8_2 : Int) (x40_2 : Int), v8 = .int .u64 x8_2 ∧ v40 = .int .i64 x40_2 ∧ Aside0 (o_Mul.l1 kq x6_2 x34_1 x8_2 (l0_1.length : Int) x34_1 (l1_1.length : Int) x40_2 a0_0 l0_1 a1_0 l1_1 = some (r1, r2, r3)) ∧ Aside0 (kq ≤ k1) ∧ Aside0 (Kd.R (Kd.int .u64) 25 w' w.heap.size (fun _ => True) v167 x6_2) ∧ Aside0 (w'.heap[gb161]? = some (.cells #[.bool a0_0, (.slice A0_1 l0_1.length c0_1)] 24 (0, 0))) ∧ Aside0 (w'.heap[gb162]? = some (.cells #[.bool a1_0, (.slice A1_1 l1_1.length c1_1)] 24 (0, 0))) ∧ Aside0 (w'.heap[gb163]? = some (.cells #[.bool false, (.slice none 0 0)] 24 (0, 0))) ∧ Aside0 (Below w.heap.size w w'))
   case atStart => exact ⟨(x6_1), (0), (0), rs, rs, H', ⟨Nat.le_refl _⟩, ⟨rk HO_6⟩, ⟨bk BK161⟩, ⟨bk BK162⟩, ⟨bk BK163⟩, ⟨bls HB⟩⟩
   case round =>
    obtain ⟨x6_2, x8_2, x40_2, rfl, rfl, HA, HK2, HO_6, BK161, BK162, BK163, HB⟩ := hrel
    cases gk with
    | zero => exact absurd HA.out (by simp [o_Mul.l1])
    | succ k2 =>
     have H := HA.out
     simp only [o_Mul.l1] at H
     by_cases c29 : x40_2 < (l1_1.length : Int)
     case neg =>
      rw [if_neg c29] at H
      have c29b0 := decide_eq_false c29
      obtain ⟨ji48, hji48⟩ : ∃ j_ : Int, (wrap64 (x34_1 + (l1_1.length : Int))) = j_ := ⟨_, rfl⟩
      replace H : (if 0 ≤ (ji48) then (if (ji48) < (x6_2.length : Int) then (o_Mul.l0 k2 (x6_2.set ((ji48) : Int).toNat (IntKind.u64.wrap ((rd x6_2 (ji48)) + x8_2))) (l0_1.length : Int) (wrap64 (x34_1 + 1)) a0_0 l0_1 a1_0 l1_1) else (none)) else (none)) = some (r1, r2, r3) := by first | (rw [hji48] at H; exact H) | (simp only [hji48] at H ⊢; exact H)
      have hji48w : (IntKind.i64.wrap (x34_1 + (l1_1.length : Int))) = ji48 := (i64_w _).trans hji48
      by_cases c49 : 0 ≤ (ji48)
      case neg =>
       rw [if_neg c49] at H
       exact absurd H (by simp)
      rw [if_pos c49] at H
      have c49b0 := decide_eq_true c49
      by_cases c50 : (ji48) < (x6_2.length : Int)
      case neg =>
       rw [if_neg c50] at H
       exact absurd H (by simp)
      rw [if_pos c50] at H
      have c50b0 := decide_eq_true c50
      obtain ⟨y175, hy175⟩ : ∃ y_ : List Int, y_ = (x6_2.set ((ji48) : Int).toNat (IntKind.u64.wrap ((rd x6_2 (ji48)) + x8_2))) := ⟨_, rfl⟩
      replace H : (o_Mul.l0 k2 y175 (l0_1.length : Int) (wrap64 (x34_1 + 1)) a0_0 l0_1 a1_0 l1_1) = some (r1, r2, r3) := by rw [hy175]; exact H
      have Ny175 := Az hy175
      have H' := Az H
      have hnb52 := NB162_161.out
      have hnc52 := NB161_162.out
      have hnb53 := NB162_163.out
      have hnc53 := NB163_162.out
      have hz54_1 := bz BK162
      obtain ⟨Ao55, co55, eo55⟩ := Kd.R_slice HO_6.out
      subst eo55
      have p174 : 0 ≤ ((ji48) : Int) := ode
      have q174 : (ji48) < (x6_2.length : Int) := ode
      obtain ⟨ad174, e174, hx174_0⟩ := Kd.at_int (Kd.R_reads' HO_6.out).2.2 (ji48) p174 q174
      cases e174
      replace p174 := eq_true p174
      replace q174 := eq_true q174
      have p51 : 0 ≤ ((ji48) : Int) := ode
      have q51 : ((ji48) : Int) < ((x6_2.length : Int) : Int) := ode
      obtain ⟨go51, co51, eo51, gb51, gl51, cl51, HG51⟩ := Kd.R_form HO_6.out (by omega)
      (first | cases eo51 | (injection eo51 with ea_ en_ ec_; (first | subst ea_ | (injection ea_ with ea_; subst ea_)); subst ec_; clear en_))
      have GB51 := Az gb51
      have GG51 := Az HG51
      (first | simp only [add_plain] at hx174_0 | skip)
      obtain ⟨hx51_0, hf51_0⟩ := Kd.R_celln 0 HO_6.out ((ji48) : Int) p51 q51
      replace p51 := eq_true p51
      replace q51 := eq_true q51
      have HP56 := Kd.R_putg HO_6.out ((ji48) : Int) (IntKind.u64.wrap ((rd x6_2 (ji48)) + x8_2))
      go_wp2_with (first | ((with_reducible refine gate_store (t := 25) (p := 102) rfl ?_); (try (rw [drewN_self wr]; generalize hq_ : World.drewN wr _ = wr; have n0_ := Az (Kd.R_at hq_ HO_6.out); have n1_ := Az (blk_at hq_ BK161.out); have n2_ := Az (blk_at hq_ BK162.out); have n3_ := Az (blk_at hq_ BK163.out); have n4_ := Az (below_at hq_ HB.out); clear hq_ HO_6 BK161 BK162 BK163 HB; have HO_6 := n0_; have BK161 := n1_; have BK162 := n2_; have BK163 := n3_; have HB := n4_; clear n0_ n1_ n2_ n3_ n4_; have hz161_ := bz BK161; have hz162_ := bz BK162; have hz163_ := bz BK163; (try (have HP56 := Kd.R_putg HO_6.out ((ji48) : Int) (IntKind.u64.wrap ((rd x6_2 (ji48)) + x8_2)))))); refine store_event (t := 25) (p := 102) (v := ?vo_w57) (w1 := (wr.setCell ⟨go51, ((ji48) : Int).toNat, none⟩ (.int .u64 (IntKind.u64.wrap ((rd x6_2 (ji48)) + x8_2))))) ?hg ?ho ?hn ?hr ?_; (case ho => rfl); (case hg => rfl); (case hn => rfl); (case hr => first | (go_simp; done) | (go_simp; rfl)); intro w57 hw; have hg : wr.grownBy w57 (some go51) := (by rw [hw]; exact HP56.2); have hp_ : Kd.R (Kd.int .u64) 25 w57 w.heap.size (fun _ => True) (.slice (some ⟨go51, 0, none⟩) x6_2.length co55) y175 := (by rw [hw, Ny175.out]; exact HP56.1); clear HP56; replace BK161 := Az (blk_grown (g := gb161) (o := .cells #[.bool a0_0, .slice A0_1 l0_1.length c0_1] 24 (0, 0)) (bk BK161) hg (Kd.R_ne HO_6.out BK161.out (by decide))); replace BK162 := Az (blk_grown (g := gb162) (o := .cells #[.bool a1_0, .slice A1_1 l1_1.length c1_1] 24 (0, 0)) (bk BK162) hg (Kd.R_ne HO_6.out BK162.out (by decide))); replace BK163 := Az (blk_grown (g := gb163) (o := .cells #[.bool false, .slice none 0 0] 24 (0, 0)) (bk BK163) hg (Kd.R_ne HO_6.out BK163.out (by decide))); replace HO_6 := Az (hp_); replace HB := Az ((by rw [hw]; exact below_set (HB.out) GB51.out : Below w.heap.size w w57)); clear hg hw hp_))
      go_roundg k2
      case measure => have := HK1.out; have := HK2.out; omega
      case rel => exact ⟨(y175), (wrap64 (x34_1 + 1)), rs, H', ⟨by have := HK1.out; have := HK2.out; omega⟩, ⟨rk HO_6⟩, ⟨bk BK161⟩, ⟨bk BK162⟩, ⟨bk BK163⟩, ⟨bls HB⟩⟩
     rw [if_pos c29] at H
     have c29b0 := decide_eq_true c29
     by_cases c30 : 0 ≤ x34_1
     case neg =>
      rw [if_neg c30] at H
      exact absurd H (by simp)
     rw [if_pos c30] at H
     have c30b0 := decide_eq_true c30
     by_cases c31 : x34_1 < (l0_1.length : Int)
     case neg =>
      rw [if_neg c31] at H
      exact absurd H (by simp)
     rw [if_pos c31] at H
     have c31b0 := decide_eq_true c31
     by_cases c32 : 0 ≤ x40_2
     case neg =>
      rw [if_neg c32] at H
      exact absurd H (by simp)
     rw [if_pos c32] at H
     have c32b0 := decide_eq_true c32
     by_cases c33 : x40_2 < (l1_1.length : Int)
     case neg =>
      rw [if_neg c33] at H
      exact absurd H (by simp)
     rw [if_pos c33] at H
     have c33b0 := decide_eq_true c33
     obtain ⟨⟨t178, t179⟩, A34, H⟩ := bd H
     obtain ⟨ji35, hji35⟩ : ∃ j_ : Int, (wrap64 (x34_1 + x40_2)) = j_ := ⟨_, rfl⟩
     replace H : (if 0 ≤ (ji35) then (if (ji35) < (x6_2.length : Int) then ((bits_Div64.f k2 (IntKind.u64.wrap ((IntKind.u64.wrap (t178 + (add64c t179 (rd x6_2 (ji35))))) + (add64c (add64s t179 (rd x6_2 (ji35))) x8_2))) (add64s (add64s t179 (rd x6_2 (ji35))) x8_2) 1000000000000000000).bind fun bt181 => (o_Mul.l1 k2 (x6_2.set ((ji35) : Int).toNat bt181.2) x34_1 bt181.1 (l0_1.length : Int) x34_1 (l1_1.length : Int) (wrap64 (x40_2 + 1)) a0_0 l0_1 a1_0 l1_1)) else (none)) else (none)) = some (r1, r2, r3) := by first | (rw [hji35] at H; exact H) | (simp only [hji35] at H ⊢; exact H)
     have hji35w : (IntKind.i64.wrap (x34_1 + x40_2)) = ji35 := (i64_w _).trans hji35
     by_cases c36 : 0 ≤ (ji35)
     case neg =>
      rw [if_neg c36] at H
      exact absurd H (by simp)
     rw [if_pos c36] at H
     have c36b0 := decide_eq_true c36
     by_cases c37 : (ji35) < (x6_2.length : Int)
     case neg =>
      rw [if_neg c37] at H
      exact absurd H (by simp)
     rw [if_pos c37] at H
     have c37b0 := decide_eq_true c37
     obtain ⟨⟨t181, t182⟩, A38, H⟩ := bd H
     obtain ⟨y183, hy183⟩ : ∃ y_ : List Int, y_ = (x6_2.set ((ji35) : Int).toNat t182) := ⟨_, rfl⟩
     replace H : (o_Mul.l1 k2 y183 x34_1 t181 (l0_1.length : Int) x34_1 (l1_1.length : Int) (wrap64 (x40_2 + 1)) a0_0 l0_1 a1_0 l1_1) = some (r1, r2, r3) := by rw [hy183]; exact H
     have Ny183 := Az hy183
     have H' := Az H
     have hnb40 := NB161_162.out
     have hnc40 := NB162_161.out
     have hnb41 := NB161_163.out
     have hnc41 := NB163_161.out
     have hz42_1 := bz BK161
     have p176 : 0 ≤ (x34_1 : Int) := ode
     have q176 : x34_1 < (l0_1.length : Int) := ode
     obtain ⟨ad176, e176, hx176_0⟩ := Kd.at_int HR0_1.out x34_1 p176 q176
     cases e176
     replace hx176_0 := (HB.out.cell (World.block_lt_of_cell? w _ hx176_0)).trans hx176_0
     replace p176 := eq_true p176
     replace q176 := eq_true q176
     have hnb43 := NB162_163.out
     have hnc43 := NB163_162.out
     have hz44_1 := bz BK162
     have p177 : 0 ≤ (x40_2 : Int) := ode
     have q177 : x40_2 < (l1_1.length : Int) := ode
     obtain ⟨ad177, e177, hx177_0⟩ := Kd.at_int HR1_1.out x40_2 p177 q177
     cases e177
     replace hx177_0 := (HB.out.cell (World.block_lt_of_cell? w _ hx177_0)).trans hx177_0
     replace p177 := eq_true p177
     replace q177 := eq_true q177
     go_wp2_with (first | (go_at_call 62; (with_reducible refine (bits_Mul64.calls (rd l0_1 x34_1) (rd l1_1 x40_2) t178 t179 _ A34.out).mono ?_); rintro e w' ⟨rfl, ⟨nd, rfl⟩⟩; obtain ⟨Ao45, co45, eo45⟩ := Kd.R_slice HO_6.out; subst eo45; have p180 : 0 ≤ ((ji35) : Int) := ode; have q180 : (ji35) < (x6_2.length : Int) := ode; obtain ⟨ad180, e180, hx180_0⟩ := Kd.at_int (Kd.R_reads' HO_6.out).2.2 (ji35) p180 q180; cases e180; replace p180 := eq_true p180; replace q180 := eq_true q180) | (go_at_call 93; (with_reducible refine (bits_Div64.calls k2 (IntKind.u64.wrap ((IntKind.u64.wrap (t178 + (add64c t179 (rd x6_2 (ji35))))) + (add64c (add64s t179 (rd x6_2 (ji35))) x8_2))) (add64s (add64s t179 (rd x6_2 (ji35))) x8_2) 1000000000000000000 t181 t182 _ A38.out).mono ?_); rintro e w' ⟨rfl, ⟨nd, rfl⟩⟩; have p39 : 0 ≤ ((ji35) : Int) := ode; have q39 : ((ji35) : Int) < ((x6_2.length : Int) : Int) := ode; obtain ⟨go39, co39, eo39, gb39, gl39, cl39, HG39⟩ := Kd.R_form HO_6.out (by omega); (first | cases eo39 | (injection eo39 with ea_ en_ ec_; (first | subst ea_ | (injection ea_ with ea_; subst ea_)); subst ec_; clear en_)); have GB39 := Az gb39; have GG39 := Az HG39; clear gb39 gl39 HG39; (first | simp only [add_plain] at hx180_0 | skip); obtain ⟨hx39_0, hf39_0⟩ := Kd.R_celln 0 HO_6.out ((ji35) : Int) p39 q39; replace p39 := eq_true p39; replace q39 := eq_true q39; obtain ⟨hy46_, hz46_⟩ := Kd.R_celln 0 HO_6.out ((ji35) : Int) (ode) (ode); have HP46 := Kd.R_putg HO_6.out ((ji35) : Int) t182) | ((with_reducible refine gate_store (t := 25) (p := 90) rfl ?_); (try (rw [drewN_self wr]; generalize hq_ : World.drewN wr _ = wr; have n0_ := Az (Kd.R_at hq_ HO_6.out); have n1_ := Az (blk_at hq_ BK161.out); have n2_ := Az (blk_at hq_ BK162.out); have n3_ := Az (blk_at hq_ BK163.out); have n4_ := Az (below_at hq_ HB.out); clear hq_ HO_6 BK161 BK162 BK163 HB; have HO_6 := n0_; have BK161 := n1_; have BK162 := n2_; have BK163 := n3_; have HB := n4_; clear n0_ n1_ n2_ n3_ n4_; have hz161_ := bz BK161; have hz162_ := bz BK162; have hz163_ := bz BK163; (try (obtain ⟨hy46_, hz46_⟩ := Kd.R_celln 0 HO_6.out ((ji35) : Int) (ode) (ode))); (try (have HP46 := Kd.R_putg HO_6.out ((ji35) : Int) t182)))); refine store_event (t := 25) (p := 90) (v := ?vo_w47) (w1 := (wr.setCell ⟨go39, ((ji35) : Int).toNat, none⟩ (.int .u64 t182))) ?hg ?ho ?hn ?hr ?_; (case ho => rfl); (case hg => rfl); (case hn => rfl); (case hr => first | (go_simp; done) | (go_simp; rfl)); intro w47 hw; have hg : wr.grownBy w47 (some go39) := (by rw [hw]; exact HP46.2); have hp_ : Kd.R (Kd.int .u64) 25 w47 w.heap.size (fun _ => True) (.slice (some ⟨go39, 0, none⟩) x6_2.length co45) y183 := (by rw [hw, Ny183.out]; exact HP46.1); clear HP46; replace BK161 := Az (blk_grown (g := gb161) (o := .cells #[.bool a0_0, .slice (some ad176) l0_1.length c0_1] 24 (0, 0)) (bk BK161) hg (Kd.R_ne HO_6.out BK161.out (by decide))); replace BK162 := Az (blk_grown (g := gb162) (o := .cells #[.bool a1_0, .slice (some ad177) l1_1.length c1_1] 24 (0, 0)) (bk BK162) hg (Kd.R_ne HO_6.out BK162.out (by decide))); replace BK163 := Az (blk_grown (g := gb163) (o := .cells #[.bool false, .slice none 0 0] 24 (0, 0)) (bk BK163) hg (Kd.R_ne HO_6.out BK163.out (by decide))); replace HO_6 := Az (hp_); replace HB := Az ((by rw [hw]; exact below_set (HB.out) GB39.out : Below w.heap.size w w47)); clear hg hw hp_))
     repeat (go_quiet (first | (go_at_call 62; (with_reducible refine (bits_Mul64.calls (rd l0_1 x34_1) (rd l1_1 x40_2) t178 t179 _ A34.out).mono ?_); rintro e w' ⟨rfl, ⟨nd, rfl⟩⟩; (try first | exact ⟨rfl, _, World.drewN_drewN _ _ _⟩ | exact ⟨rfl, _, Eq.trans (World.drewN_drewN _ _ _) (congrArg (World.drewN _) (Nat.add_assoc _ _ _))⟩); obtain ⟨Ao45, co45, eo45⟩ := Kd.R_slice HO_6.out; subst eo45; have p180 : 0 ≤ ((ji35) : Int) := ode; have q180 : (ji35) < (x6_2.length : Int) := ode; obtain ⟨ad180, e180, hx180_0⟩ := Kd.at_int (Kd.R_reads' HO_6.out).2.2 (ji35) p180 q180; cases e180; replace p180 := eq_true p180; replace q180 := eq_true q180) | (go_at_call 93; (with_reducible refine (bits_Div64.calls k2 (IntKind.u64.wrap ((IntKind.u64.wrap (t178 + (add64c t179 (rd x6_2 (ji35))))) + (add64c (add64s t179 (rd x6_2 (ji35))) x8_2))) (add64s (add64s t179 (rd x6_2 (ji35))) x8_2) 1000000000000000000 t181 t182 _ A38.out).mono ?_); rintro e w' ⟨rfl, ⟨nd, rfl⟩⟩; (try first | exact ⟨rfl, _, World.drewN_drewN _ _ _⟩ | exact ⟨rfl, _, Eq.trans (World.drewN_drewN _ _ _) (congrArg (World.drewN _) (Nat.add_assoc _ _ _))⟩); have p39 : 0 ≤ ((ji35) : Int) := ode; have q39 : ((ji35) : Int) < ((x6_2.length : Int) : Int) := ode; obtain ⟨go39, co39, eo39, gb39, gl39, cl39, HG39⟩ := Kd.R_form HO_6.out (by omega); (first | cases eo39 | (injection eo39 with ea_ en_ ec_; (first | subst ea_ | (injection ea_ with ea_; subst ea_)); subst ec_; clear en_)); have GB39 := Az gb39; have GG39 := Az HG39; clear gb39 gl39 HG39; (first | simp only [add_plain] at hx180_0 | skip); obtain ⟨hx39_0, hf39_0⟩ := Kd.R_celln 0 HO_6.out ((ji35) : Int) p39 q39; replace p39 := eq_true p39; replace q39 := eq_true q39; obtain ⟨hy46_, hz46_⟩ := Kd.R_celln 0 HO_6.out ((ji35) : Int) (ode) (ode); have HP46 := Kd.R_putg HO_6.out ((ji35) : Int) t182) | ((with_reducible refine gate_store (t := 25) (p := 90) rfl ?_); (try (rw [drewN_self wr]; generalize hq_ : World.drewN wr _ = wr; have n0_ := Az (Kd.R_at hq_ HO_6.out); have n1_ := Az (blk_at hq_ BK161.out); have n2_ := Az (blk_at hq_ BK162.out); have n3_ := Az (blk_at hq_ BK163.out); have n4_ := Az (below_at hq_ HB.out); clear hq_ HO_6 BK161 BK162 BK163 HB; have HO_6 := n0_; have BK161 := n1_; have BK162 := n2_; have BK163 := n3_; have HB := n4_; clear n0_ n1_ n2_ n3_ n4_; have hz161_ := bz BK161; have hz162_ := bz BK162; have hz163_ := bz BK163; (try (obtain ⟨hy46_, hz46_⟩ := Kd.R_celln 0 HO_6.out ((ji35) : Int) (ode) (ode))); (try (have HP46 := Kd.R_putg HO_6.out ((ji35) : Int) t182)))); refine store_event (t := 25) (p := 90) (v := ?vo_w47) (w1 := (wr.setCell ⟨go39, ((ji35) : Int).toNat, none⟩ (.int .u64 t182))) ?hg ?ho ?hn ?hr ?_; (case ho => rfl); (case hg => rfl); (case hn => rfl); (case hr => first | (go_simp; done) | (go_simp; rfl)); intro w47 hw; have hg : wr.grownBy w47 (some go39) := (by rw [hw]; exact HP46.2); have hp_ : Kd.R (Kd.int .u64) 25 w47 w.heap.size (fun _ => True) (.slice (some ⟨go39, 0, none⟩) x6_2.length co45) y183 := (by rw [hw, Ny183.out]; exact HP46.1); clear HP46; replace BK161 := Az (blk_grown (g := gb161) (o := .cells #[.bool a0_0, .slice (some ad176) l0_1.length c0_1] 24 (0, 0)) (bk BK161) hg (Kd.R_ne HO_6.out BK161.out (by decide))); replace BK162 := Az (blk_grown (g := gb162) (o := .cells #[.bool a1_0, .slice (some ad177) l1_1.length c1_1] 24 (0, 0)) (bk BK162) hg (Kd.R_ne HO_6.out BK162.out (by decide))); replace BK163 := Az (blk_grown (g := gb163) (o := .cells #[.bool false, .slice none 0 0] 24 (0, 0)) (bk BK163) hg (Kd.R_ne HO_6.out BK163.out (by decide))); replace HO_6 := Az (hp_); replace HB := Az ((by rw [hw]; exact below_set (HB.out) GB39.out : Below w.heap.size w w47)); clear hg hw hp_)); try go_wp2_with (first | (go_at_call 62; (with_reducible refine (bits_Mul64.calls (rd l0_1 x34_1) (rd l1_1 x40_2) t178 t179 _ A34.out).mono ?_); rintro e w' ⟨rfl, ⟨nd, rfl⟩⟩; (try first | exact ⟨rfl, _, World.drewN_drewN _ _ _⟩ | exact ⟨rfl, _, Eq.trans (World.drewN_drewN _ _ _) (congrArg (World.drewN _) (Nat.add_assoc _ _ _))⟩); obtain ⟨Ao45, co45, eo45⟩ := Kd.R_slice HO_6.out; subst eo45; have p180 : 0 ≤ ((ji35) : Int) := ode; have q180 : (ji35) < (x6_2.length : Int) := ode; obtain ⟨ad180, e180, hx180_0⟩ := Kd.at_int (Kd.R_reads' HO_6.out).2.2 (ji35) p180 q180; cases e180; replace p180 := eq_true p180; replace q180 := eq_true q180) | (go_at_call 93; (with_reducible refine (bits_Div64.calls k2 (IntKind.u64.wrap ((IntKind.u64.wrap (t178 + (add64c t179 (rd x6_2 (ji35))))) + (add64c (add64s t179 (rd x6_2 (ji35))) x8_2))) (add64s (add64s t179 (rd x6_2 (ji35))) x8_2) 1000000000000000000 t181 t182 _ A38.out).mono ?_); rintro e w' ⟨rfl, ⟨nd, rfl⟩⟩; (try first | exact ⟨rfl, _, World.drewN_drewN _ _ _⟩ | exact ⟨rfl, _, Eq.trans (World.drewN_drewN _ _ _) (congrArg (World.drewN _) (Nat.add_assoc _ _ _))⟩); have p39 : 0 ≤ ((ji35) : Int) := ode; have q39 : ((ji35) : Int) < ((x6_2.length : Int) : Int) := ode; obtain ⟨go39, co39, eo39, gb39, gl39, cl39, HG39⟩ := Kd.R_form HO_6.out (by omega); (first | cases eo39 | (injection eo39 with ea_ en_ ec_; (first | subst ea_ | (injection ea_ with ea_; subst ea_)); subst ec_; clear en_)); have GB39 := Az gb39; have GG39 := Az HG39; clear gb39 gl39 HG39; (first | simp only [add_plain] at hx180_0 | skip); obtain ⟨hx39_0, hf39_0⟩ := Kd.R_celln 0 HO_6.out ((ji35) : Int) p39 q39; replace p39 := eq_true p39; replace q39 := eq_true q39; obtain ⟨hy46_, hz46_⟩ := Kd.R_celln 0 HO_6.out ((ji35) : Int) (ode) (ode); have HP46 := Kd.R_putg HO_6.out ((ji35) : Int) t182) | ((with_reducible refine gate_store (t := 25) (p := 90) rfl ?_); (try (rw [drewN_self wr]; generalize hq_ : World.drewN wr _ = wr; have n0_ := Az (Kd.R_at hq_ HO_6.out); have n1_ := Az (blk_at hq_ BK161.out); have n2_ := Az (blk_at hq_ BK162.out); have n3_ := Az (blk_at hq_ BK163.out); have n4_ := Az (below_at hq_ HB.out); clear hq_ HO_6 BK161 BK162 BK163 HB; have HO_6 := n0_; have BK161 := n1_; have BK162 := n2_; have BK163 := n3_; have HB := n4_; clear n0_ n1_ n2_ n3_ n4_; have hz161_ := bz BK161; have hz162_ := bz BK162; have hz163_ := bz BK163; (try (obtain ⟨hy46_, hz46_⟩ := Kd.R_celln 0 HO_6.out ((ji35) : Int) (ode) (ode))); (try (have HP46 := Kd.R_putg HO_6.out ((ji35) : Int) t182)))); refine store_event (t := 25) (p := 90) (v := ?vo_w47) (w1 := (wr.setCell ⟨go39, ((ji35) : Int).toNat, none⟩ (.int .u64 t182))) ?hg ?ho ?hn ?hr ?_; (case ho => rfl); (case hg => rfl); (case hn => rfl); (case hr => first | (go_simp; done) | (go_simp; rfl)); intro w47 hw; have hg : wr.grownBy w47 (some go39) := (by rw [hw]; exact HP46.2); have hp_ : Kd.R (Kd.int .u64) 25 w47 w.heap.size (fun _ => True) (.slice (some ⟨go39, 0, none⟩) x6_2.length co45) y183 := (by rw [hw, Ny183.out]; exact HP46.1); clear HP46; replace BK161 := Az (blk_grown (g := gb161) (o := .cells #[.bool a0_0, .slice (some ad176) l0_1.length c0_1] 24 (0, 0)) (bk BK161) hg (Kd.R_ne HO_6.out BK161.out (by decide))); replace BK162 := Az (blk_grown (g := gb162) (o := .cells #[.bool a1_0, .slice (some ad177) l1_1.length c1_1] 24 (0, 0)) (bk BK162) hg (Kd.R_ne HO_6.out BK162.out (by decide))); replace BK163 := Az (blk_grown (g := gb163) (o := .cells #[.bool false, .slice none 0 0] 24 (0, 0)) (bk BK163) hg (Kd.R_ne HO_6.out BK163.out (by decide))); replace HO_6 := Az (hp_); replace HB := Az ((by rw [hw]; exact below_set (HB.out) GB39.out : Below w.heap.size w w47)); clear hg hw hp_)))
     go_roundg k2
     case measure => have := HK1.out; have := HK2.out; omega
     case rel => exact ⟨(y183), (t181), (wrap64 (x40_2 + 1)), rs, rs, H', ⟨by have := HK1.out; have := HK2.out; omega⟩, ⟨rk HO_6⟩, ⟨bk BK161⟩, ⟨bk BK162⟩, ⟨bk BK163⟩, ⟨bls HB⟩⟩
mutual
def o_Pow.j0 : Nat → Bool → Bool → List Int → Bool → List Int → Bool → List Int → Option (Bool × List Int × Int)
 | 0, _, _, _, _, _, _, _ => none
 | k + 1, x43, x185000, x185001, x186000, x186001, x194000, x194001 => if x43 = true then (none) else (if (x186001.length : Int) > 1 then (none) else (if 0 < (x186001.length : Int) then (if (rd x186001 0) > 2000 then (some (false, ([] : List Int), 7)) else (o_Pow.l0 k (rd x186001 0) 0 x185000 x185001 x194000 x194001)) else (none)))
def o_Pow.l0 : Nat → Int → Int → Bool → List Int → Bool → List Int → Option (Bool × List Int × Int)
 | 0, _, _, _, _, _, _ => none
 | k + 1, x72, x73, x185000, x185001, x194000, x194001 => if x73 < x72 then ((o_Mul.f k x194000 x194001 x185000 x185001).bind fun bt197 => (if bt197.2.2 = 0 then (o_Pow.l0 k x72 (IntKind.u64.wrap (x73 + 1)) x185000 x185001 bt197.1 bt197.2.1) else (none))) else (some (x194000, x194001, 0))
end
def o_Pow.f (k : Nat) (a0_0 : Bool) (l0_1 : List Int) (a1_0 : Bool) (l1_1 : List Int) : Option (Bool × List Int × Int) := (o_Good.f k a0_0 l0_1).bind fun t187 => (if t187 = true then ((o_Good.f k a1_0 l1_1).bind fun t188 => (if t188 = true then (if a1_0 = true then (none) else ((o_Of.f 1).bind fun bt189 => (if (l1_1.length : Int) = 0 then (some (bt189.1, bt189.2, 0)) else (if (l0_1.length : Int) = 0 then (none) else (if (l0_1.length : Int) = 1 then (if 0 < (l0_1.length : Int) then (o_Pow.j0 k ((rd l0_1 0) == 1) a0_0 l0_1 a1_0 l1_1 bt189.1 bt189.2) else (none)) else (o_Pow.j0 k false a0_0 l0_1 a1_0 l1_1 bt189.1 bt189.2)))))) else (none))) else (none))
theorem o_Pow.mono_l : ∀ k, (∀ y0 y1 y2 y3 y4 y5 y6, LeO (o_Pow.j0 k y0 y1 y2 y3 y4 y5 y6) (o_Pow.j0 (k + 1) y0 y1 y2 y3 y4 y5 y6)) ∧ (∀ y0 y1 y2 y3 y4 y5, LeO (o_Pow.l0 k y0 y1 y2 y3 y4 y5) (o_Pow.l0 (k + 1) y0 y1 y2 y3 y4 y5))
 | 0 => ⟨fun _ _ _ _ _ _ _ r h => by simp [o_Pow.j0] at h, fun _ _ _ _ _ _ r h => by simp [o_Pow.l0] at h⟩
 | k + 1 => by
  obtain ⟨ih0, ih1⟩ := o_Pow.mono_l k
  refine ⟨?_, ?_⟩
  ·intro y0 y1 y2 y3 y4 y5 y6
   unfold o_Pow.j0
   repeat' first
   | exact ih0 _ _ _ _ _ _ _
   | exact ih1 _ _ _ _ _ _
   | exact o_Good.mono _ _ _
   | exact o_Mul.mono _ _ _ _ _
   | exact LeO.refl _
   | exact LeO.none _
   | refine LeO.ite ?_ ?_
   | refine LeO.bind ?_ (fun _ => ?_)
  ·intro y0 y1 y2 y3 y4 y5
   unfold o_Pow.l0
   repeat' first
   | exact ih0 _ _ _ _ _ _ _
   | exact ih1 _ _ _ _ _ _
   | exact o_Good.mono _ _ _
   | exact o_Mul.mono _ _ _ _ _
   | exact LeO.refl _
   | exact LeO.none _
   | refine LeO.ite ?_ ?_
   | refine LeO.bind ?_ (fun _ => ?_)
theorem o_Pow.mono : ∀ a0 a1 a2 a3 k, LeO (o_Pow.f k a0 a1 a2 a3) (o_Pow.f (k + 1) a0 a1 a2 a3) := by
 intro a0 a1 a2 a3 k
 obtain ⟨ih0, ih1⟩ := o_Pow.mono_l k
 unfold o_Pow.f
 repeat' first
   | exact ih0 _ _ _ _ _ _ _
   | exact ih1 _ _ _ _ _ _
   | exact o_Good.mono _ _ _
   | exact o_Mul.mono _ _ _ _ _
   | exact LeO.refl _
   | exact LeO.none _
   | refine LeO.ite ?_ ?_
   | refine LeO.bind ?_ (fun _ => ?_)
theorem o_Pow.calls (k : Nat) (a0_0 : Bool) (A0_1 : Option Addr) (c0_1 : Nat) (l0_1 : List Int) (a1_0 : Bool) (A1_1 : Option Addr) (c1_1 : Nat) (l1_1 : List Int) (r1 : Bool) (r2 : List Int) (r3 : Int) (w : World) (hr0_1 : Kd.C (Kd.int .u64) w A0_1 l0_1.length l0_1) (hc0_1 : l0_1.length ≤ c0_1) (hr1_1 : Kd.C (Kd.int .u64) w A1_1 l1_1.length l1_1) (hc1_1 : l1_1.length ≤ c1_1) (h : o_Pow.f k a0_0 l0_1 a1_0 l1_1 = some (r1, r2, r3)) :
  Calls Tryz.prog 98 #[.agg #[.bool a0_0, .slice A0_1 l0_1.length c0_1], .agg #[.bool a1_0, .slice A1_1 l1_1.length c1_1]] w fun e w' => ∃ v1_ : Value, e = .returned (.tuple #[.agg #[.bool r1, v1_], .int .i64 r3]) ∧ Kd.R (Kd.int .u64) 25 w' w.heap.size (fun _ => True) v1_ r2 ∧ Below w.heap.size w w' := by
 have hu24 := Tryz.underlying24
 have HR0_1 := Az hr0_1
 have HC0_1 := Az hc0_1
 clear hr0_1 hc0_1
 have HR1_1 := Az hr1_1
 have HC1_1 := Az hc1_1
 clear hr1_1 hc1_1
 have HB := Az (Below.refl w.heap.size w)
 have H := h
 unfold o_Pow.f at H
 clear h
 obtain ⟨t187, A3, H⟩ := bd H
 by_cases c4 : t187 = true
 case neg =>
  replace c4 := Bool.eq_false_iff.mpr c4
  subst c4
  rw [if_neg Bool.false_ne_true] at H
  exact absurd H (by simp)
 subst c4
 rw [if_pos rfl] at H
 obtain ⟨t188, A5, H⟩ := bd H
 by_cases c6 : t188 = true
 case neg =>
  replace c6 := Bool.eq_false_iff.mpr c6
  subst c6
  rw [if_neg Bool.false_ne_true] at H
  exact absurd H (by simp)
 subst c6
 rw [if_pos rfl] at H
 by_cases c7 : a1_0 = true
 ·subst c7
  rw [if_pos rfl] at H
  exact absurd H (by simp)
 replace c7 := Bool.eq_false_iff.mpr c7
 subst c7
 rw [if_neg Bool.false_ne_true] at H
 obtain ⟨⟨t189, t190⟩, A8, H⟩ := bd H
 by_cases c9 : (l1_1.length : Int) = 0
 ·rw [if_pos c9] at H
  have c9b0 := beq_iff_eq.mpr c9
  have c9b1 := bne_eq_false_iff_eq.mpr c9
  clear c9
  simp only [Option.some.injEq, Prod.mk.injEq] at H
  obtain ⟨rfl, rfl, rfl⟩ := H
  go_enter Tryz.func98, Tryz.ntmps98
  go_wp2_with (first | ((try (refine gate_guard (by rfl) ?_; dsimp only)); refine be 2 #[.bool a0_0, .slice A0_1 l0_1.length c0_1] 24 ?_; intro gb184 hg w10 hbox hb; have BK184 := Az (hbox); have GW184 := gw (bl HB) hg; have GE184 := gw (bl HB) hg; replace HB := bs HB hb; clear hb hbox hg) | ((try (refine gate_guard (by rfl) ?_; dsimp only)); refine be 3 #[.bool false, .slice A1_1 l1_1.length c1_1] 24 ?_; intro gb185 hg w11 hbox hb; have BK185 := Az (hbox); have GW185 := gw (bls HB) hg; have GE185 := gw (bls HB) hg; replace HB := bs HB hb; have NB184_185 := nl BK184 hg; have NB185_184 := ng BK184 hg; replace BK184 := kb BK184 hb; clear hb hbox hg) | ((try (refine gate_guard (by rfl) ?_; dsimp only)); refine be 4 #[.bool false, .slice none 0 0] 24 ?_; intro gb186 hg w12 hbox hb; have BK186 := Az (hbox); have GW186 := gw (bls HB) hg; have GE186 := gw (bls HB) hg; replace HB := bs HB hb; have NB184_186 := nl BK184 hg; have NB186_184 := ng BK184 hg; replace BK184 := kb BK184 hb; have NB185_186 := nl BK185 hg; have NB186_185 := ng BK185 hg; replace BK185 := kb BK185 hb; clear hb hbox hg; have hnb13 := NB184_185.out; have hnc13 := NB185_184.out; have hnb14 := NB184_186.out; have hnc14 := NB186_184.out; have hz15_1 := bz BK184) | (refine gl (some 10) Tryz.func47 #[.agg #[.bool a0_0, .slice A0_1 l0_1.length c0_1]] ?_; (with_reducible refine (o_Good.calls k a0_0 _ _ l0_1 true _ (ck HR0_1 HB) HC0_1.out A3.out).mono ?_); rintro e w16 ⟨rfl, hb⟩; refine ⟨_, rfl, ?_⟩; replace BK184 := kb BK184 hb; replace BK185 := kb BK185 hb; replace BK186 := kb BK186 hb; replace HB := bs HB hb; have hnb17 := NB185_186.out; have hnc17 := NB186_185.out; have hz18_1 := bz BK185) | (go_at_call 47; (with_reducible refine (o_Good.calls k false _ _ l1_1 true _ (ck HR1_1 HB) HC1_1.out A5.out).mono ?_); rintro e w19 ⟨rfl, hb⟩; replace BK184 := kb BK184 hb; replace BK185 := kb BK185 hb; replace BK186 := kb BK186 hb; replace HB := bs HB hb; have hz20_1 := bz BK185) | (refine gl (some 21) Tryz.func65 #[.int .i64 1] ?_; (with_reducible refine (o_Of.calls 1 t189 t190 _ A8.out).mono ?_); rintro e w21 ⟨v191, rfl, ho0, hb⟩; refine ⟨_, rfl, ?_⟩; have HO192 := Az (Kd.R_lower ho0 (below_size (bls HB))); replace BK184 := kb BK184 hb; replace BK185 := kb BK185 hb; replace BK186 := kb BK186 hb; replace HB := bs HB hb) | ((try (refine gate_guard (by rfl) ?_; dsimp only)); refine be 6 #[.bool false, .slice none 0 0] 24 ?_; intro gb193 hg w22 hbox hb; replace HO192 := Az (Kd.R_below (rk HO192) hb); have BK193 := Az (hbox); have GW193 := gw (bls HB) hg; have GE193 := gw (bls HB) hg; replace HB := bs HB hb; have NB184_193 := nl BK184 hg; have NB193_184 := ng BK184 hg; replace BK184 := kb BK184 hb; have NB185_193 := nl BK185 hg; have NB193_185 := ng BK185 hg; replace BK185 := kb BK185 hb; have NB186_193 := nl BK186 hg; have NB193_186 := ng BK186 hg; replace BK186 := kb BK186 hb; clear hb hbox hg; have hnb23 := NB193_184.out; have hnc23 := NB184_193.out; have hnb24 := NB193_185.out; have hnc24 := NB185_193.out; have hnb25 := NB193_186.out; have hnc25 := NB186_193.out; have hz26_1 := bz BK193; obtain ⟨Ao27, co27, eo27⟩ := Kd.R_slice HO192.out; subst eo27; have hz28_1 := bz BK185; have hz29_2 := bz BK186))
  refine bodyPost_ret (results_ct rfl _ _ gb186 24 #[.bool t189, .slice Ao27 t190.length co27] (0, 0) _ rfl (by refine blk_put (cs := #[.bool t189, .slice none 0 0]) ?_ 1 _ rfl; refine blk_put (cs := #[.bool false, .slice none 0 0]) ?_ 0 _ rfl; refine blk_far ?_ NB186_193.out _; refine blk_far ?_ NB186_193.out _; exact BK186.out) Tryz.underlying24 rfl (by kernel_rfl)) rfl ?_
  exact ⟨_, fe, rt (Kd.R_mono (Kd.R_far (p := ⟨gb186, 1, none⟩) (Kd.R_far (p := ⟨gb186, 0, none⟩) (Kd.R_far (p := ⟨gb193, 1, none⟩) (Kd.R_far (p := ⟨gb193, 0, none⟩) (Kd.R_types (Kd.R_types HO192.out BK193.out (by decide)) BK186.out (by decide)) (fun _ hk => hk.1.2) (.bool t189)) (fun _ hk => hk.1.2) (.slice Ao27 t190.length co27)) (fun _ hk => hk.2) (.bool t189)) (fun _ hk => hk.2) (.slice Ao27 t190.length co27)) (fun _ hk => trivial)), bls HB⟩
 rw [if_neg c9] at H
 have c9b0 := beq_eq_false_iff_ne.mpr c9
 have c9b1 := bne_iff_ne.mpr c9
 have c9b2 : ¬ (l1_1 = []) := fun h_ => c9 (by rw [h_]; rfl)
 have HC30 := Az H
 clear H
 go_enter Tryz.func98, Tryz.ntmps98
 go_upto_region 8 with (first | ((try (refine gate_guard (by rfl) ?_; dsimp only)); refine be 2 #[.bool a0_0, .slice A0_1 l0_1.length c0_1] 24 ?_; intro gb184 hg w31 hbox hb; have BK184 := Az (hbox); have GW184 := gw (bl HB) hg; have GE184 := gw (bl HB) hg; replace HB := bs HB hb; clear hb hbox hg) | ((try (refine gate_guard (by rfl) ?_; dsimp only)); refine be 3 #[.bool false, .slice A1_1 l1_1.length c1_1] 24 ?_; intro gb185 hg w32 hbox hb; have BK185 := Az (hbox); have GW185 := gw (bls HB) hg; have GE185 := gw (bls HB) hg; replace HB := bs HB hb; have NB184_185 := nl BK184 hg; have NB185_184 := ng BK184 hg; replace BK184 := kb BK184 hb; clear hb hbox hg) | ((try (refine gate_guard (by rfl) ?_; dsimp only)); refine be 4 #[.bool false, .slice none 0 0] 24 ?_; intro gb186 hg w33 hbox hb; have BK186 := Az (hbox); have GW186 := gw (bls HB) hg; have GE186 := gw (bls HB) hg; replace HB := bs HB hb; have NB184_186 := nl BK184 hg; have NB186_184 := ng BK184 hg; replace BK184 := kb BK184 hb; have NB185_186 := nl BK185 hg; have NB186_185 := ng BK185 hg; replace BK185 := kb BK185 hb; clear hb hbox hg; have hnb34 := NB184_185.out; have hnc34 := NB185_184.out; have hnb35 := NB184_186.out; have hnc35 := NB186_184.out; have hz36_1 := bz BK184) | (refine gl (some 10) Tryz.func47 #[.agg #[.bool a0_0, .slice A0_1 l0_1.length c0_1]] ?_; (with_reducible refine (o_Good.calls k a0_0 _ _ l0_1 true _ (ck HR0_1 HB) HC0_1.out A3.out).mono ?_); rintro e w37 ⟨rfl, hb⟩; refine ⟨_, rfl, ?_⟩; replace BK184 := kb BK184 hb; replace BK185 := kb BK185 hb; replace BK186 := kb BK186 hb; replace HB := bs HB hb; have hnb38 := NB185_186.out; have hnc38 := NB186_185.out; have hz39_1 := bz BK185) | (go_at_call 47; (with_reducible refine (o_Good.calls k false _ _ l1_1 true _ (ck HR1_1 HB) HC1_1.out A5.out).mono ?_); rintro e w40 ⟨rfl, hb⟩; replace BK184 := kb BK184 hb; replace BK185 := kb BK185 hb; replace BK186 := kb BK186 hb; replace HB := bs HB hb; have hz41_1 := bz BK185) | (refine gl (some 21) Tryz.func65 #[.int .i64 1] ?_; (with_reducible refine (o_Of.calls 1 t189 t190 _ A8.out).mono ?_); rintro e w42 ⟨v191, rfl, ho0, hb⟩; refine ⟨_, rfl, ?_⟩; have HO192 := Az (Kd.R_lower ho0 (below_size (bls HB))); replace BK184 := kb BK184 hb; replace BK185 := kb BK185 hb; replace BK186 := kb BK186 hb; replace HB := bs HB hb) | ((try (refine gate_guard (by rfl) ?_; dsimp only)); refine be 6 #[.bool false, .slice none 0 0] 24 ?_; intro gb193 hg w43 hbox hb; replace HO192 := Az (Kd.R_below (rk HO192) hb); have BK193 := Az (hbox); have GW193 := gw (bls HB) hg; have GE193 := gw (bls HB) hg; replace HB := bs HB hb; have NB184_193 := nl BK184 hg; have NB193_184 := ng BK184 hg; replace BK184 := kb BK184 hb; have NB185_193 := nl BK185 hg; have NB193_185 := ng BK185 hg; replace BK185 := kb BK185 hb; have NB186_193 := nl BK186 hg; have NB193_186 := ng BK186 hg; replace BK186 := kb BK186 hb; clear hb hbox hg; have hnb44 := NB193_184.out; have hnc44 := NB184_193.out; have hnb45 := NB193_185.out; have hnc45 := NB185_193.out; have hnb46 := NB193_186.out; have hnc46 := NB186_193.out; have hz47_1 := bz BK193; obtain ⟨Ao48, co48, eo48⟩ := Kd.R_slice HO192.out; subst eo48; have hz49_1 := bz BK185))
 go_cut [43] (fun v43 wc => ∃ (kq : Nat) (x43_29 : Bool), v43 = .bool x43_29 ∧ Aside0 (o_Pow.j0 kq x43_29 a0_0 l0_1 false l1_1 t189 t190 = some (r1, r2, r3)) ∧ Aside0 (kq ≤ k) ∧ Aside0 (Kd.R (Kd.int .u64) 25 wc w.heap.size (fun _ => True) (.slice Ao48 t190.length co48) t190) ∧ Aside0 (wc.heap[gb184]? = some (.cells #[.bool a0_0, (.slice A0_1 l0_1.length c0_1)] 24 (0, 0))) ∧ Aside0 (wc.heap[gb185]? = some (.cells #[.bool false, (.slice A1_1 l1_1.length c1_1)] 24 (0, 0))) ∧ Aside0 (wc.heap[gb186]? = some (.cells #[.bool false, (.slice none 0 0)] 24 (0, 0))) ∧ Aside0 (wc.heap[gb193]? = some (.cells #[.bool t189, (.slice Ao48 t190.length co48)] 24 (0, 0))) ∧ Aside0 (Below w.heap.size w wc))
 case first =>
  have H := HC30.out
  clear HC30
  by_cases c50 : (l0_1.length : Int) = 0
  ·rw [if_pos c50] at H
   exact absurd H (by simp)
  rw [if_neg c50] at H
  have c50b0 := beq_eq_false_iff_ne.mpr c50
  have c50b1 := bne_iff_ne.mpr c50
  have c50b2 : ¬ (l0_1 = []) := fun h_ => c50 (by rw [h_]; rfl)
  (first | rw [c50b0] | (simp only [i64_w, i32_w]; rw [c50b0]) | skip)
  by_cases c51 : (l0_1.length : Int) = 1
  case neg =>
   rw [if_neg c51] at H
   have c51b0 := beq_eq_false_iff_ne.mpr c51
   have c51b1 := bne_iff_ne.mpr c51
   have H' := Az H
   clear H
   have hnb57 := NB184_185.out
   have hnc57 := NB185_184.out
   have hnb58 := NB184_186.out
   have hnc58 := NB186_184.out
   have hnb59 := NB184_193.out
   have hnc59 := NB193_184.out
   have hz60_1 := bz BK184
   go_wp2
   go_meet
   case rel => exact ⟨_, (false), rs, H', ⟨le0⟩, ⟨rt (Kd.R_mono (Kd.R_far (p := ⟨gb193, 1, none⟩) (Kd.R_far (p := ⟨gb193, 0, none⟩) (Kd.R_types HO192.out BK193.out (by decide)) (fun _ hk => hk.2) (.bool t189)) (fun _ hk => hk.2) (.slice Ao48 t190.length co48)) (fun _ hk => trivial))⟩, ⟨by refine blk_far ?_ NB184_193.out _; refine blk_far ?_ NB184_193.out _; exact BK184.out⟩, ⟨by refine blk_far ?_ NB185_193.out _; refine blk_far ?_ NB185_193.out _; exact BK185.out⟩, ⟨by refine blk_far ?_ NB186_193.out _; refine blk_far ?_ NB186_193.out _; exact BK186.out⟩, ⟨by refine blk_put (cs := #[.bool t189, .slice none 0 0]) ?_ 1 _ rfl; refine blk_put (cs := #[.bool false, .slice none 0 0]) ?_ 0 _ rfl; exact BK193.out⟩, ⟨bls HB⟩⟩
  rw [if_pos c51] at H
  have c51b0 := beq_iff_eq.mpr c51
  have c51b1 := bne_eq_false_iff_eq.mpr c51
  clear c51
  by_cases c52 : 0 < (l0_1.length : Int)
  case neg =>
   rw [if_neg c52] at H
   exact absurd H (by simp)
  rw [if_pos c52] at H
  have c52b0 := decide_eq_true c52
  have c52b1 : decide (0 < l0_1.length) = true := decide_eq_true (by omega)
  clear c52
  have H' := Az H
  clear H
  have hnb53 := NB184_185.out
  have hnc53 := NB185_184.out
  have hnb54 := NB184_186.out
  have hnc54 := NB186_184.out
  have hnb55 := NB184_193.out
  have hnc55 := NB193_184.out
  have hz56_1 := bz BK184
  have p194 : 0 ≤ (0 : Int) := (by omega)
  have q194 : 0 < (l0_1.length : Int) := ode
  obtain ⟨ad194, e194, hx194_0⟩ := Kd.at_int HR0_1.out 0 p194 q194
  cases e194
  have qi194 : (0 < l0_1.length) = True := eq_true (by omega)
  (try rw [show ((0 : Int)).toNat = 0 from rfl] at hx194_0)
  (try rw [Addr.add_zero'] at hx194_0)
  have hn194_0 : ad194.block ≠ gb193 := Nat.ne_of_lt (Nat.lt_of_lt_of_le (by have := World.block_lt_of_cell? _ _ hx194_0; first | rwa [add_block] at this | exact this) GW193.out)
  have hn194_1 : ad194.block ≠ gb193 := Nat.ne_of_lt (Nat.lt_of_lt_of_le (by have := World.block_lt_of_cell? _ _ hx194_0; first | rwa [add_block] at this | exact this) GW193.out)
  replace hx194_0 := (HB.out.cell (World.block_lt_of_cell? w _ hx194_0)).trans hx194_0
  replace hx194_0 := (cell_far (p := ⟨gb193, 0, none⟩) (by first | (rw [add_block]; exact hn194_0) | (show (Addr.add _ _).block ≠ _; rw [add_block]; exact hn194_0) | exact hn194_0) (.bool t189)).trans hx194_0
  replace hx194_0 := (cell_far (p := ⟨gb193, 1, none⟩) (by first | (rw [add_block]; exact hn194_1) | (show (Addr.add _ _).block ≠ _; rw [add_block]; exact hn194_1) | exact hn194_1) (.slice Ao48 t190.length co48)).trans hx194_0
  clear hn194_0
  clear hn194_1
  replace p194 := eq_true p194
  replace q194 := eq_true q194
  go_wp2
  go_meet
  case rel => exact ⟨_, (((rd l0_1 0) == 1)), rs, H', ⟨le0⟩, ⟨rt (Kd.R_mono (Kd.R_far (p := ⟨gb193, 1, none⟩) (Kd.R_far (p := ⟨gb193, 0, none⟩) (Kd.R_types HO192.out BK193.out (by decide)) (fun _ hk => hk.2) (.bool t189)) (fun _ hk => hk.2) (.slice Ao48 t190.length co48)) (fun _ hk => trivial))⟩, ⟨by refine blk_far ?_ NB184_193.out _; refine blk_far ?_ NB184_193.out _; exact BK184.out⟩, ⟨by refine blk_far ?_ NB185_193.out _; refine blk_far ?_ NB185_193.out _; exact BK185.out⟩, ⟨by refine blk_far ?_ NB186_193.out _; refine blk_far ?_ NB186_193.out _; exact BK186.out⟩, ⟨by refine blk_put (cs := #[.bool t189, .slice none 0 0]) ?_ 1 _ rfl; refine blk_put (cs := #[.bool false, .slice none 0 0]) ?_ 0 _ rfl; exact BK193.out⟩, ⟨bls HB⟩⟩
 case rest =>
  clear HC30
  obtain ⟨kq, x43_29, rfl, HA, HJ29, HO_194001, BK184, BK185, BK186, BK193, HB⟩ := hcut
  cases kq with
  | zero => exact absurd HA.out (by simp [o_Pow.j0])
  | succ kj29 =>
   have H := HA.out
   clear HA
   simp only [o_Pow.j0] at H
   by_cases c61 : x43_29 = true
   ·subst c61
    rw [if_pos rfl] at H
    exact absurd H (by simp)
   replace c61 := Bool.eq_false_iff.mpr c61
   subst c61
   rw [if_neg Bool.false_ne_true] at H
   by_cases c62 : (l1_1.length : Int) > 1
   ·rw [if_pos c62] at H
    exact absurd H (by simp)
   rw [if_neg c62] at H
   have c62b0 : decide (1 < (l1_1.length : Int)) = false := decide_eq_false c62
   have c62b1 : decide (1 < l1_1.length) = false := decide_eq_false (by omega)
   clear c62
   by_cases c63 : 0 < (l1_1.length : Int)
   case neg =>
    rw [if_neg c63] at H
    exact absurd H (by simp)
   rw [if_pos c63] at H
   have c63b0 := decide_eq_true c63
   have c63b1 : decide (0 < l1_1.length) = true := decide_eq_true (by omega)
   clear c63
   by_cases c64 : (rd l1_1 0) > 2000
   ·rw [if_pos c64] at H
    have c64b0 : decide (2000 < (rd l1_1 0)) = true := decide_eq_true c64
    clear c64
    simp only [Option.some.injEq, Prod.mk.injEq] at H
    obtain ⟨rfl, rfl, rfl⟩ := H
    have hnb65 := NB185_184.out
    have hnc65 := NB184_185.out
    have hnb66 := NB185_186.out
    have hnc66 := NB186_185.out
    have hnb67 := NB185_193.out
    have hnc67 := NB193_185.out
    have hz68_1 := bz BK185
    have p195 : 0 ≤ (0 : Int) := (by omega)
    have q195 : 0 < (l1_1.length : Int) := ode
    obtain ⟨ad195, e195, hx195_0⟩ := Kd.at_int HR1_1.out 0 p195 q195
    cases e195
    have qi195 : (0 < l1_1.length) = True := eq_true (by omega)
    (try rw [show ((0 : Int)).toNat = 0 from rfl] at hx195_0)
    (try rw [Addr.add_zero'] at hx195_0)
    replace hx195_0 := (HB.out.cell (World.block_lt_of_cell? w _ hx195_0)).trans hx195_0
    replace p195 := eq_true p195
    replace q195 := eq_true q195
    have hnb69 := NB186_184.out
    have hnc69 := NB184_186.out
    have hnb70 := NB186_193.out
    have hnc70 := NB193_186.out
    have hz71_1 := bz BK186
    go_wp2
    refine bodyPost_ret (results_ct rfl _ _ gb186 24 #[.bool false, .slice none 0 0] (0, 0) _ rfl (by refine blk_put (cs := #[.bool false, .slice none 0 0]) ?_ 1 _ rfl; refine blk_put (cs := #[.bool false, .slice none 0 0]) ?_ 0 _ rfl; exact BK186.out) Tryz.underlying24 rfl (by kernel_rfl)) rfl ?_
    exact ⟨_, fe, Kd.R_nil _ _ _ _ _, bls HB⟩
   rw [if_neg c64] at H
   have c64b0 : decide (2000 < (rd l1_1 0)) = false := decide_eq_false c64
   clear c64
   have H' := Az H
   clear H
   have hnb72 := NB185_184.out
   have hnc72 := NB184_185.out
   have hnb73 := NB185_186.out
   have hnc73 := NB186_185.out
   have hnb74 := NB185_193.out
   have hnc74 := NB193_185.out
   have hz75_1 := bz BK185
   have p195 : 0 ≤ (0 : Int) := (by omega)
   have q195 : 0 < (l1_1.length : Int) := ode
   obtain ⟨ad195, e195, hx195_0⟩ := Kd.at_int HR1_1.out 0 p195 q195
   cases e195
   have qi195 : (0 < l1_1.length) = True := eq_true (by omega)
   replace hx195_0 := (HB.out.cell (World.block_lt_of_cell? w _ hx195_0)).trans hx195_0
   replace p195 := eq_true p195
   replace q195 := eq_true q195
   have p196 : 0 ≤ (0 : Int) := (by omega)
   have q196 : 0 < (l1_1.length : Int) := ode
   obtain ⟨ad196, e196, hx196_0⟩ := Kd.at_int HR1_1.out 0 p196 q196
   obtain rfl : ad195 = ad196 := (by injection e196)
   have qi196 : (0 < l1_1.length) = True := eq_true (by omega)
   (try rw [show ((0 : Int)).toNat = 0 from rfl] at hx196_0)
   (try rw [Addr.add_zero'] at hx196_0)
   replace hx196_0 := (HB.out.cell (World.block_lt_of_cell? w _ hx196_0)).trans hx196_0
   replace p196 := eq_true p196
   replace q196 := eq_true q196
   go_wp2
   go_loopg [73] kj29 (fun kq v73 w' => ∃ (x73_2 : Int) (x187000_2 : Bool) (x194000_2 : Bool) (x194001_2 : List Int) (u194001 : Value), v73 = .int .u64 x73_2 ∧ Aside0 (o_Pow.l0 kq (rd l1_1 0) x73_2 a0_0 l0_1 x194000_2 x194001_2 = some (r1, r2, r3)) ∧ Aside0 (kq ≤ kj29) ∧ Aside0 (Kd.R (Kd.int .u64) 25 w' w.heap.size (fun _ => True) u194001 x194001_2) ∧ Aside0 (w'.heap[gb184]? = some (.cells #[.bool a0_0, (.slice A0_1 l0_1.length c0_1)] 24 (0, 0))) ∧ Aside0 (w'.heap[gb185]? = some (.cells #[.bool false, (.slice (some ad195) l1_1.length c1_1)] 24 (0, 0))) ∧ Aside0 (w'.heap[gb186]? = some (.cells #[.bool x187000_2, (.slice none 0 0)] 24 (0, 0))) ∧ Aside0 (w'.heap[gb193]? = some (.cells #[.bool x194000_2, u194001] 24 (0, 0))) ∧ Aside0 (Below w.heap.size w w'))
   case atStart => exact ⟨(0), (false), (t189), (t190), (.slice Ao48 t190.length co48), rs, H', ⟨Nat.le_refl _⟩, ⟨rk HO_194001⟩, ⟨bk BK184⟩, ⟨bk BK185⟩, ⟨bk BK186⟩, ⟨bk BK193⟩, ⟨bls HB⟩⟩
   case round =>
    clear H'
    obtain ⟨x73_2, x187000_2, x194000_2, x194001_2, u194001, rfl, HA, HK2, HO_194001, BK184, BK185, BK186, BK193, HB⟩ := hrel
    cases gk with
    | zero => exact absurd HA.out (by simp [o_Pow.l0])
    | succ k2 =>
     have H := HA.out
     clear HA
     simp only [o_Pow.l0] at H
     by_cases c76 : x73_2 < (rd l1_1 0)
     case neg =>
      rw [if_neg c76] at H
      have c76b0 := decide_eq_false c76
      clear c76
      simp only [Option.some.injEq, Prod.mk.injEq] at H
      obtain ⟨rfl, rfl, rfl⟩ := H
      have hnb96 := NB193_184.out
      have hnc96 := NB184_193.out
      have hnb97 := NB193_185.out
      have hnc97 := NB185_193.out
      have hnb98 := NB193_186.out
      have hnc98 := NB186_193.out
      have hz99_1 := bz BK193
      have hnb100 := NB186_184.out
      have hnc100 := NB184_186.out
      have hnb101 := NB186_185.out
      have hnc101 := NB185_186.out
      have hz102_1 := bz BK186
      obtain ⟨Ao103, co103, eo103⟩ := Kd.R_slice HO_194001.out
      subst eo103
      go_wp2
      refine bodyPost_ret (results_ct rfl _ _ gb186 24 #[.bool x194000_2, .slice Ao103 x194001_2.length co103] (0, 0) _ rfl (by refine blk_put (cs := #[.bool x194000_2, .slice none 0 0]) ?_ 1 _ rfl; refine blk_put (cs := #[.bool x187000_2, .slice none 0 0]) ?_ 0 _ rfl; exact BK186.out) Tryz.underlying24 rfl (by kernel_rfl)) rfl ?_
      exact ⟨_, fe, rt (Kd.R_mono (Kd.R_far (p := ⟨gb186, 1, none⟩) (Kd.R_far (p := ⟨gb186, 0, none⟩) (Kd.R_types HO_194001.out BK186.out (by decide)) (fun _ hk => hk.2) (.bool x194000_2)) (fun _ hk => hk.2) (.slice Ao103 x194001_2.length co103)) (fun _ hk => trivial)), bls HB⟩
     rw [if_pos c76] at H
     have c76b0 := decide_eq_true c76
     clear c76
     obtain ⟨⟨t197, t198, t201⟩, A77, H⟩ := bd H
     by_cases c78 : t201 = 0
     case neg =>
      rw [if_neg c78] at H
      exact absurd H (by simp)
     rw [if_pos c78] at H
     have c78b0 := beq_iff_eq.mpr c78
     have c78b1 := bne_eq_false_iff_eq.mpr c78
     clear c78
     have H' := Az H
     clear H
     have hnb79 := NB193_184.out
     have hnc79 := NB184_193.out
     have hnb80 := NB193_185.out
     have hnc80 := NB185_193.out
     have hnb81 := NB193_186.out
     have hnc81 := NB186_193.out
     have hz82_1 := bz BK193
     have hnb83 := NB184_185.out
     have hnc83 := NB185_184.out
     have hnb84 := NB184_186.out
     have hnc84 := NB186_184.out
     have hz85_1 := bz BK184
     obtain ⟨Ao86, co86, eo86⟩ := Kd.R_slice HO_194001.out
     subst eo86
     go_wp2_with (first | (refine gl (some 78) Tryz.func97 #[.agg #[.bool x194000_2, .slice Ao86 x194001_2.length co86], .agg #[.bool a0_0, .slice A0_1 l0_1.length c0_1]] ?_; (with_reducible refine (o_Mul.calls k2 x194000_2 _ _ x194001_2 a0_0 _ _ l0_1 t197 t198 t201 _ ?side1 (Kd.R_reads' HO_194001.out).2.1 (ck HR0_1 HB) HC0_1.out A77.out).mono ?_); (case side1 => exact (Kd.R_reads' HO_194001.out).2.2); rintro e w87 ⟨v199, rfl, ho0, hb⟩; refine ⟨_, rfl, ?_⟩; have HO200 := Az (Kd.R_lower (Kd.R_new' ho0 (Kd.R_lt (rk HO_194001))) (below_size (bls HB))); replace HO_194001 := Az (Kd.R_elder' (rk HO_194001) (Kd.R_base ho0) hb); replace BK184 := kb BK184 hb; replace BK185 := kb BK185 hb; replace BK186 := kb BK186 hb; replace BK193 := kb BK193 hb; replace HB := bs HB hb) | ((try (refine gate_guard (by rfl) ?_; dsimp only)); refine be 7 #[.bool false, .slice none 0 0] 24 ?_; intro gb202 hg w88 hbox hb; replace HO_194001 := Az (Kd.R_below (rk HO_194001) hb); replace HO200 := Az (Kd.R_below (rk HO200) hb); have BK202 := Az (hbox); have GW202 := gw (bls HB) hg; have GE202 := gw (bls HB) hg; replace HB := bs HB hb; have NB184_202 := nl BK184 hg; have NB202_184 := ng BK184 hg; replace BK184 := kb BK184 hb; have NB185_202 := nl BK185 hg; have NB202_185 := ng BK185 hg; replace BK185 := kb BK185 hb; have NB186_202 := nl BK186 hg; have NB202_186 := ng BK186 hg; replace BK186 := kb BK186 hb; have NB193_202 := nl BK193 hg; have NB202_193 := ng BK193 hg; replace BK193 := kb BK193 hb; clear hb hbox hg; have hnb89 := NB202_184.out; have hnc89 := NB184_202.out; have hnb90 := NB202_185.out; have hnc90 := NB185_202.out; have hnb91 := NB202_186.out; have hnc91 := NB186_202.out; have hnb92 := NB202_193.out; have hnc92 := NB193_202.out; have hz93_1 := bz BK202; obtain ⟨Ao94, co94, eo94⟩ := Kd.R_slice HO200.out; subst eo94; have hz95_1 := bz BK193))
     go_roundg k2
     case measure => have := HJ29.out; have := HK2.out; omega
     case rel => exact ⟨(IntKind.u64.wrap (x73_2 + 1)), (x187000_2), (t197), (t198), (.slice Ao94 t198.length co94), rs, H', ⟨by have := HJ29.out; have := HK2.out; omega⟩, ⟨rt (Kd.R_mono (Kd.R_far (p := ⟨gb193, 1, none⟩) (Kd.R_far (p := ⟨gb193, 0, none⟩) (Kd.R_far (p := ⟨gb202, 1, none⟩) (Kd.R_far (p := ⟨gb202, 0, none⟩) (Kd.R_types (Kd.R_types HO200.out BK202.out (by decide)) BK193.out (by decide)) (fun _ hk => hk.1.2) (.bool t197)) (fun _ hk => hk.1.2) (.slice Ao94 t198.length co94)) (fun _ hk => hk.2) (.bool t197)) (fun _ hk => hk.2) (.slice Ao94 t198.length co94)) (fun _ hk => trivial))⟩, ⟨by refine blk_far ?_ NB184_193.out _; refine blk_far ?_ NB184_193.out _; refine blk_far ?_ NB184_202.out _; refine blk_far ?_ NB184_202.out _; exact BK184.out⟩, ⟨by refine blk_far ?_ NB185_193.out _; refine blk_far ?_ NB185_193.out _; refine blk_far ?_ NB185_202.out _; refine blk_far ?_ NB185_202.out _; exact BK185.out⟩, ⟨by refine blk_far ?_ NB186_193.out _; refine blk_far ?_ NB186_193.out _; refine blk_far ?_ NB186_202.out _; refine blk_far ?_ NB186_202.out _; exact BK186.out⟩, ⟨by refine blk_put (cs := #[.bool t197, .slice Ao86 x194001_2.length co86]) ?_ 1 _ rfl; refine blk_put (cs := #[.bool x194000_2, .slice Ao86 x194001_2.length co86]) ?_ 0 _ rfl; refine blk_far ?_ NB193_202.out _; refine blk_far ?_ NB193_202.out _; exact BK193.out⟩, ⟨bls HB⟩⟩
mutual
def o_halves.l0 : Nat → List Int → List Int → Int → Int → Option (List Int)
 | 0, _, _, _, _ => none
 | k + 1, x3, x6, x7, x8 => if x8 < x7 then (if 0 ≤ x8 then (if x8 < (x6.length : Int) then ((some (([Int.tmod (rd x6 x8) 1000000000, IntKind.u64.wrap (Int.tdiv (rd x6 x8) 1000000000)] : List Int) : List Int)).bind fun y219 => (if x3.length + y219.length < 17592186044416 then (o_halves.l0 k (x3 ++ y219) x6 x7 (wrap64 (x8 + 1))) else (none))) else (none)) else (none)) else (o_halves.l1 k x3)
def o_halves.l1 : Nat → List Int → Option (List Int)
 | 0, _ => none
 | k + 1, x3 => if (x3.length : Int) > 0 then (if 0 ≤ (wrap64 ((x3.length : Int) - 1)) then (if (wrap64 ((x3.length : Int) - 1)) < (x3.length : Int) then (if (rd x3 (wrap64 ((x3.length : Int) - 1))) = 0 then (if (wrap64 ((x3.length : Int) - 1)) ≤ (x3.length : Int) then (o_halves.l1 k (x3.take ((wrap64 ((x3.length : Int) - 1)) : Int).toNat)) else (none)) else (some x3)) else (none)) else (none)) else (some x3)
end
def o_halves.f (k : Nat) (l0 : List Int) : Option (List Int) := o_halves.l0 k ([] : List Int) l0 (l0.length : Int) 0
theorem o_halves.mono_l : ∀ k, (∀ y0 y1 y2 y3, LeO (o_halves.l0 k y0 y1 y2 y3) (o_halves.l0 (k + 1) y0 y1 y2 y3)) ∧ (∀ y0, LeO (o_halves.l1 k y0) (o_halves.l1 (k + 1) y0))
 | 0 => ⟨fun _ _ _ _ r h => by simp [o_halves.l0] at h, fun _ r h => by simp [o_halves.l1] at h⟩
 | k + 1 => by
  obtain ⟨ih0, ih1⟩ := o_halves.mono_l k
  refine ⟨?_, ?_⟩
  ·intro y0 y1 y2 y3
   unfold o_halves.l0
   repeat' first
   | exact ih0 _ _ _ _
   | exact ih1 _
   | exact LeO.refl _
   | exact LeO.none _
   | refine LeO.ite ?_ ?_
   | refine LeO.bind ?_ (fun _ => ?_)
  ·intro y0
   unfold o_halves.l1
   repeat' first
   | exact ih0 _ _ _ _
   | exact ih1 _
   | exact LeO.refl _
   | exact LeO.none _
   | refine LeO.ite ?_ ?_
   | refine LeO.bind ?_ (fun _ => ?_)
theorem o_halves.mono : ∀ a0 k, LeO (o_halves.f k a0) (o_halves.f (k + 1) a0) := by
 intro a0 k
 obtain ⟨ih0, ih1⟩ := o_halves.mono_l k
 unfold o_halves.f
 repeat' first
   | exact ih0 _ _ _ _
   | exact ih1 _
   | exact LeO.refl _
   | exact LeO.none _
   | refine LeO.ite ?_ ?_
   | refine LeO.bind ?_ (fun _ => ?_)
theorem o_halves.calls (k : Nat) (A0 : Option Addr) (c0 : Nat) (l0 r : List Int) (w : World) (hr0 : Kd.C (Kd.int .u64) w A0 l0.length l0) (hc0 : l0.length ≤ c0) (h : o_halves.f k l0 = some r) :
  Calls Tryz.prog 145 #[.slice A0 l0.length c0] w fun e w' => ∃ v0_ : Value, e = .returned (v0_) ∧ Kd.R (Kd.int .u64) 25 w' w.heap.size (fun _ => True) v0_ r ∧ Below w.heap.size w w' := by
 have HR0 := Az hr0
 have HC0 := Az hc0
 have HB := Az (Below.refl w.heap.size w)
 have H := h
 unfold o_halves.f at H
 have H' := Az H
 go_enter Tryz.func145, Tryz.ntmps145
 go_wp2
 go_loopg [3, 8] k (fun kq v3 v8 w' => ∃ (x3_1 : List Int) (x8_1 : Int), v8 = .int .i64 x8_1 ∧ Aside0 (o_halves.l0 kq x3_1 l0 (l0.length : Int) x8_1 = some r) ∧ Aside0 (kq ≤ k) ∧ Aside0 (Kd.R (Kd.int .u64) 25 w' w.heap.size (fun _ => True) v3 x3_1) ∧ Aside0 (Below w.heap.size w w'))
 case atStart => exact ⟨(([] : List Int)), (0), rs, H', ⟨Nat.le_refl _⟩, ⟨Kd.R_nil _ _ _ _ _⟩, ⟨bl HB⟩⟩
 case round =>
  obtain ⟨x3_1, x8_1, rfl, HA, HK1, HO_3, HB⟩ := hrel
  cases gk with
  | zero => exact absurd HA.out (by simp [o_halves.l0])
  | succ k1 =>
   have H := HA.out
   simp only [o_halves.l0] at H
   by_cases c2 : x8_1 < (l0.length : Int)
   ·rw [if_pos c2] at H
    by_cases c3 : 0 ≤ x8_1
    case neg =>
     rw [if_neg c3] at H
     exact absurd H (by simp)
    rw [if_pos c3] at H
    have c3b0 := decide_eq_true c3
    by_cases c4 : x8_1 < (l0.length : Int)
    case neg =>
     rw [if_neg c4] at H
     exact absurd H (by simp)
    rw [if_pos c4] at H
    have c4b0 := decide_eq_true c4
    obtain ⟨y219, hy219⟩ : ∃ y_ : List Int, y_ = (([Int.tmod (rd l0 x8_1) 1000000000, IntKind.u64.wrap (Int.tdiv (rd l0 x8_1) 1000000000)] : List Int)) := ⟨_, rfl⟩
    replace H : (if x3_1.length + y219.length < 17592186044416 then (o_halves.l0 k1 (x3_1 ++ y219) l0 (l0.length : Int) (wrap64 (x8_1 + 1))) else (none)) = some r := by rw [hy219]; exact H
    have Ny219 := Az hy219
    by_cases c5 : x3_1.length + y219.length < 17592186044416
    case neg =>
     rw [if_neg c5] at H
     exact absurd H (by simp)
    rw [if_pos c5] at H
    have LMc5 := Az c5
    obtain ⟨y222, hy222⟩ : ∃ y_ : List Int, y_ = (x3_1 ++ y219) := ⟨_, rfl⟩
    replace H : (o_halves.l0 k1 y222 l0 (l0.length : Int) (wrap64 (x8_1 + 1))) = some r := by rw [hy222]; exact H
    have Ny222 := Az hy222
    have H' := Az H
    have p218 : 0 ≤ (x8_1 : Int) := ode
    have q218 : x8_1 < (l0.length : Int) := ode
    obtain ⟨ad218, e218, hx218_0⟩ := Kd.at_int HR0.out x8_1 p218 q218
    cases e218
    replace hx218_0 := (HB.out.cell (World.block_lt_of_cell? w _ hx218_0)).trans hx218_0
    replace p218 := eq_true p218
    replace q218 := eq_true q218
    go_wp2_with (first | ((with_reducible refine gate_dst (N := 17) rfl ?_); (try (refine gate_guard (by rfl) ?_; dsimp only)); refine Kd.R_lit (Kd.int .u64) _ 25 ?hg (N := 17) ?hd (xs := ([Int.tmod (rd l0 x8_1) 1000000000, IntKind.u64.wrap (Int.tdiv (rd l0 x8_1) 1000000000)] : List Int)) (inner := [.int .u64 (Int.tmod (rd l0 x8_1) 1000000000), .int .u64 (IntKind.u64.wrap (Int.tdiv (rd l0 x8_1) 1000000000))]) (ok := fun _ => True) (okp := fun _ => True) ?hr ?hp (fun _ hk => hk) trivial (Below.refl _ _) (Nat.le_refl _) (by simp) ?_; (case hd => rfl); (case hg => rfl); (case hr => first | (go_simp; done) | (go_simp; rfl)); (case hp => exact (Reps.one (show Kd.M (Kd.int .u64) _ _ _ (Int.tmod (rd l0 x8_1) 1000000000) [.int .u64 (Int.tmod (rd l0 x8_1) 1000000000)] from rfl) (Reps.one (show Kd.M (Kd.int .u64) _ _ _ (IntKind.u64.wrap (Int.tdiv (rd l0 x8_1) 1000000000)) [.int .u64 (IntKind.u64.wrap (Int.tdiv (rd l0 x8_1) 1000000000))] from rfl) (Reps.none _ _)))); intro v220 w6 ho7 hb hg_ hnew_; clear hg_ hnew_; (first | rw [← Ny219.out] at ho7 | (simp only [Int.reduceToNat] at ho7; rw [← Ny219.out] at ho7)); have HO221 := Az (Kd.R_lower (Kd.R_new' ho7 (Kd.R_lt (rk HO_3))) (below_size (bl HB))); replace HO_3 := Az (Kd.R_elder' (rk HO_3) (Kd.R_base ho7) hb); replace HB := bs HB hb; clear hb ho7; obtain ⟨Ao9, co9, eo9⟩ := Kd.R_slice HO221.out; subst eo9) | ((with_reducible refine gate_builtin (b := .append) (xs := #[.tmp 12, .tmp 17]) rfl ?_); (try (refine gate_guard (by rfl) ?_; dsimp only)); at_builtin; refine Kd.R_append_rows (Kd.int .u64) (w0 := w) w.heap.size rfl (.tmp 12) (.tmp 17) 22 25 (.int .u64 0) 8 rfl Tryz.underlying22 info25 rfl (by decide) (by omega) u3 x3_1 y219 _ _ _ (fun k_ => some k_ ≠ (.slice Ao9 y219.length co9 : Value).ownBlock) (fun _ => False) rfl rfl ?aO ?aR (fun _ _ h => h) (fun _ h => h.elim) ?aF ?aB ?aS ?aL ?_; (case aR => repeat (first | exact (Kd.R_reads' HO221.out).2.2 | (with_reducible refine Kd.C_alloc ?_ _) | (with_reducible refine Kd.C_drewN ?_ _) | (with_reducible refine Kd.C_drew ?_))); (case aB => exact (bl HB)); (case aF => exact (fun k_ hk => Kd.fresh' (Kd.R_lt (rk HO221)) k_ hk)); (case aO => exact (rt (Kd.R_mono HO_3.out (fun _ hk => hk.2)))); (case aS => exact (below_size (bl HB))); (case aL => have := LMc5.out; omega); intro v223 w8 ho hb hg hat; rw [← Ny222.out] at ho; replace HO221 := Az (Kd.R_after (ok := (fun _ => True)) (rk HO221) hg hat); replace HB := Az (hb); have HO224 := Az (ho); clear HO_3; clear ho hb hg hat))
    go_roundg k1
    case measure => have := HK1.out; omega
    case rel => exact ⟨(y222), (wrap64 (x8_1 + 1)), rs, H', ⟨by have := HK1.out; omega⟩, ⟨rt (Kd.R_mono HO224.out (fun _ hk => trivial))⟩, ⟨bl HB⟩⟩
   rw [if_neg c2] at H
   have H' := Az H
   go_wp2
   go_loopg [3] k1 (fun kq v3 w' => ∃ (x3_2 : List Int), Aside0 (o_halves.l1 kq x3_2 = some r) ∧ Aside0 (kq ≤ k1) ∧ Aside0 (Kd.R (Kd.int .u64) 25 w' w.heap.size (fun _ => True) v3 x3_2) ∧ Aside0 (Below w.heap.size w w'))
   case atStart => exact ⟨(x3_1), H', ⟨Nat.le_refl _⟩, ⟨rk HO_3⟩, ⟨bl HB⟩⟩
   case round =>
    try clear hx2
    try clear hx218_0
    obtain ⟨x3_2, HA, HK2, HO_3, HB⟩ := hrel
    cases gk with
    | zero => exact absurd HA.out (by simp [o_halves.l1])
    | succ k2 =>
     have H := HA.out
     simp only [o_halves.l1] at H
     by_cases c10 : (x3_2.length : Int) > 0
     case neg =>
      rw [if_neg c10] at H
      obtain rfl := Option.some.inj H
      obtain ⟨Ao19, co19, eo19⟩ := Kd.R_slice HO_3.out
      subst eo19
      go_wp2
      go_ret
      exact ⟨_, fe, rk HO_3, bl HB⟩
     rw [if_pos c10] at H
     obtain ⟨ji11, hji11⟩ : ∃ j_ : Int, (wrap64 ((x3_2.length : Int) - 1)) = j_ := ⟨_, rfl⟩
     replace H : (if 0 ≤ (ji11) then (if (ji11) < (x3_2.length : Int) then (if (rd x3_2 (ji11)) = 0 then (if (ji11) ≤ (x3_2.length : Int) then (o_halves.l1 k2 (x3_2.take ((ji11) : Int).toNat)) else (none)) else (some x3_2)) else (none)) else (none)) = some r := by first | (rw [hji11] at H; exact H) | (simp only [hji11] at H ⊢; exact H)
     have hji11w : (IntKind.i64.wrap ((x3_2.length : Int) - 1)) = ji11 := (i64_w _).trans hji11
     by_cases c12 : 0 ≤ (ji11)
     case neg =>
      rw [if_neg c12] at H
      exact absurd H (by simp)
     rw [if_pos c12] at H
     have c12b0 := decide_eq_true c12
     by_cases c13 : (ji11) < (x3_2.length : Int)
     case neg =>
      rw [if_neg c13] at H
      exact absurd H (by simp)
     rw [if_pos c13] at H
     have c13b0 := decide_eq_true c13
     by_cases c14 : (rd x3_2 (ji11)) = 0
     case neg =>
      rw [if_neg c14] at H
      have c14b0 := beq_eq_false_iff_ne.mpr c14
      have c14b1 := bne_iff_ne.mpr c14
      obtain rfl := Option.some.inj H
      obtain ⟨Ao18, co18, eo18⟩ := Kd.R_slice HO_3.out
      subst eo18
      have p225 : 0 ≤ ((ji11) : Int) := ode
      have q225 : (ji11) < (x3_2.length : Int) := ode
      obtain ⟨ad225, e225, hx225_0⟩ := Kd.at_int (Kd.R_reads' HO_3.out).2.2 (ji11) p225 q225
      cases e225
      replace p225 := eq_true p225
      replace q225 := eq_true q225
      go_wp2
      go_ret
      exact ⟨_, by first | rfl | (simp [errW_none, errW_some] <;> rfl) | (simp only [← hji11]; first | rfl | (simp [errW_none, errW_some] <;> rfl)) | (simp [*, errW_none, errW_some] <;> rfl), rk HO_3, bl HB⟩
     rw [if_pos c14] at H
     have c14b0 := beq_iff_eq.mpr c14
     have c14b1 := bne_eq_false_iff_eq.mpr c14
     by_cases c15 : (ji11) ≤ (x3_2.length : Int)
     case neg =>
      rw [if_neg c15] at H
      exact absurd H (by simp)
     rw [if_pos c15] at H
     have c15b0 := eq_true c15
     have c15b1 := decide_eq_true c15
     obtain ⟨y226, hy226⟩ : ∃ y_ : List Int, y_ = (x3_2.take ((ji11) : Int).toNat) := ⟨_, rfl⟩
     replace H : (o_halves.l1 k2 y226) = some r := by rw [hy226]; exact H
     have Ny226 := Az hy226
     clear hy226
     have H' := Az H
     clear H
     obtain ⟨Ao16, co16, eo16⟩ := Kd.R_slice HO_3.out
     subst eo16
     have p225 : 0 ≤ ((ji11) : Int) := ode
     have q225 : (ji11) < (x3_2.length : Int) := ode
     obtain ⟨ad225, e225, hx225_0⟩ := Kd.at_int (Kd.R_reads' HO_3.out).2.2 (ji11) p225 q225
     cases e225
     replace p225 := eq_true p225
     replace q225 := eq_true q225
     have q17 : ((ji11) : Int) ≤ ((x3_2.length : Int) : Int) := ode
     obtain ⟨i017, hi017, _, hsz17, _⟩ := info_parts info25
     have hcut17 := cut_to (P := Tryz.prog) 22 25 .i64 Tryz.underlying22 hi017 (some ad225) x3_2.length co16 (ji11) (ode) q17 (Kd.R_reads' HO_3.out).2.1
     have hr17 := Kd.R_take (m := ((ji11) : Int).toNat) HO_3.out (by omega)
     have hy17 : y226.length = ((ji11) : Int).toNat := (by rw [Ny226.out, List.length_take]; omega)
     rw [← Ny226.out] at hr17
     rw [← hy17] at hr17 hcut17
     clear hy17 hi017 hsz17 HO_3
     have HO228 := Az hr17
     clear hr17
     replace q17 := eq_true q17
     go_wp2
     go_roundg k2
     case measure => have := HK1.out; have := HK2.out; omega
     case rel => exact ⟨(y226), H', ⟨by have := HK1.out; have := HK2.out; omega⟩, ⟨rk HO228⟩, ⟨bl HB⟩⟩
def o_short.l0 : Nat → List Int → Int → List Int → Int → Int → Option (List Int × Int)
 | 0, _, _, _, _, _ => none
 | k + 1, x0, x1, x6, x7, x8 => if x8 ≥ 0 then (if 0 ≤ x8 then (if x8 < (x0.length : Int) then (if x1 = 0 then (none) else (if x8 < (x6.length : Int) then (o_short.l0 k x0 x1 (x6.set (x8 : Int).toNat (IntKind.u64.wrap (Int.tdiv (IntKind.u64.wrap ((IntKind.u64.wrap (x7 * 1000000000)) + (rd x0 x8))) x1))) (Int.tmod (IntKind.u64.wrap ((IntKind.u64.wrap (x7 * 1000000000)) + (rd x0 x8))) x1) (wrap64 (x8 - 1))) else (none))) else (none)) else (none)) else (some (x6, x7))
def o_short.f (k : Nat) (l0 : List Int) (a1 : Int) : Option (List Int × Int) := if 0 ≤ (l0.length : Int) then (if ((l0.length : Int) : Int).toNat ≤ 35184372088832 then (o_short.l0 k l0 a1 (List.replicate ((l0.length : Int) : Int).toNat 0) 0 (wrap64 ((l0.length : Int) - 1))) else (none)) else (none)
theorem o_short.mono_l : ∀ k, (∀ y0 y1 y2 y3 y4, LeO (o_short.l0 k y0 y1 y2 y3 y4) (o_short.l0 (k + 1) y0 y1 y2 y3 y4))
 | 0 => fun _ _ _ _ _ r h => by simp [o_short.l0] at h
 | k + 1 => by
  have ih0 := o_short.mono_l k
  ·intro y0 y1 y2 y3 y4
   unfold o_short.l0
   repeat' first
   | exact ih0 _ _ _ _ _
   | exact LeO.refl _
   | exact LeO.none _
   | refine LeO.ite ?_ ?_
   | refine LeO.bind ?_ (fun _ => ?_)
theorem o_short.mono : ∀ a0 a1 k, LeO (o_short.f k a0 a1) (o_short.f (k + 1) a0 a1) := by
 intro a0 a1 k
 have ih0 := o_short.mono_l k
 unfold o_short.f
 repeat' first
   | exact ih0 _ _ _ _ _
   | exact LeO.refl _
   | exact LeO.none _
   | refine LeO.ite ?_ ?_
   | refine LeO.bind ?_ (fun _ => ?_)
def o_short.T7 : Bool × List (List Nat × List Nat) := (true, [([], []), ([], []), ([], []), ([], []), ([2, 3], [2, 3]), ([], []), ([], []), ([5, 6], [5, 6]), ([0, 1, 0, 1, 2, 3, 4], [0, 1]), ([8, 4, 0, 1, 2, 3, 4], [4, 8]), ([7, 9, 0, 1, 2, 3, 4, 5, 6, 7, 8, 9], [2, 5, 7])])
def o_short.B7 : List Nat := [0, 0, 0, 0, 12, 0, 0, 96, 31, 287, 1023]
theorem o_short.tab7 : rtab .any (opsOf Tryz.f146 7) = o_short.T7 := by kernel_rfl
theorem o_short.bits7 : waitsOk o_short.T7.2 o_short.B7 = true := by kernel_rfl
theorem o_short.calls (k : Nat) (A0 : Option Addr) (c0 : Nat) (l0 : List Int) (a1 : Int) (r1 : List Int) (r2 : Int) (w : World) (hr0 : Kd.C (Kd.int .u64) w A0 l0.length l0) (hc0 : l0.length ≤ c0) (h : o_short.f k l0 a1 = some (r1, r2)) :
  Calls Tryz.prog 146 #[.slice A0 l0.length c0, .int .u64 a1] w fun e w' => ∃ v0_ : Value, e = .returned (.tuple #[v0_, .int .u64 r2]) ∧ Kd.R (Kd.int .u64) 25 w' w.heap.size (fun _ => True) v0_ r1 ∧ Below w.heap.size w w' := by
 have HR0 := Az hr0
 have HC0 := Az hc0
 clear hr0 hc0
 have HB := Az (Below.refl w.heap.size w)
 have H := h
 unfold o_short.f at H
 clear h
 by_cases c3 : 0 ≤ (l0.length : Int)
 case neg =>
  rw [if_neg c3] at H
  exact absurd H (by simp)
 rw [if_pos c3] at H
 have c3b0 := eq_true c3
 have c3b1 := decide_eq_true c3
 clear c3
 by_cases c4 : ((l0.length : Int) : Int).toNat ≤ 35184372088832
 case neg =>
  rw [if_neg c4] at H
  exact absurd H (by simp)
 rw [if_pos c4] at H
 have c4b0 := eq_true c4
 have c4b1 := decide_eq_true c4
 clear c4
 obtain ⟨y229, hy229⟩ : ∃ y_ : List Int, y_ = (List.replicate ((l0.length : Int) : Int).toNat 0) := ⟨_, rfl⟩
 replace H : (o_short.l0 k l0 a1 y229 0 (wrap64 ((l0.length : Int) - 1))) = some (r1, r2) := by rw [hy229]; exact H
 have Ny229 := Az hy229
 clear hy229
 have H' := Az H
 clear H
 go_enter Tryz.func146, Tryz.ntmps146
 go_wp2_with (first | ((with_reducible refine gate_dst (N := 11) rfl ?_); refine Kd.R_make (Kd.int .u64) _ 25 rfl (N := 11) rfl 22 _ _ rfl (l0.length : Int) rfl rfl Tryz.underlying22 (.int .u64 0) 8 info25 rfl (by decide) (by omega) 0 (ok := fun _ => True) (okp := fun _ => True) rfl (fun _ hk => hk) trivial (ode) (Nat.le_trans (Nat.mul_le_mul_right _ (ode : (l0.length : Int).toNat ≤ 35184372088832)) (by omega)) (Below.refl _ _) (Nat.le_refl _) ?_; intro v230 w5 ho6 hb hg_ hnew_; clear hg_ hnew_; (first | rw [← Ny229.out] at ho6 | (simp only [Int.reduceToNat] at ho6; rw [← Ny229.out] at ho6)); have HO231 := Az (Kd.R_lower ho6 (below_size (bl HB))); replace HB := bs HB hb; clear hb ho6))
 go_loopg [7, 8] k (fun kq v7 v8 w' => ∃ (x6_1 : List Int) (x7_1 : Int) (x8_1 : Int), v7 = .int .u64 x7_1 ∧ v8 = .int .i64 x8_1 ∧ Aside0 (o_short.l0 kq l0 a1 x6_1 x7_1 x8_1 = some (r1, r2)) ∧ Aside0 (kq ≤ k) ∧ Aside0 (Kd.R (Kd.int .u64) 25 w' w.heap.size (fun _ => True) v230 x6_1) ∧ Aside0 (Below w.heap.size w w'))
 case atStart => exact ⟨(y229), (0), (wrap64 ((l0.length : Int) - 1)), rs, rs, H', ⟨Nat.le_refl _⟩, ⟨rk HO231⟩, ⟨bl HB⟩⟩
 case round =>
  clear H'
  obtain ⟨x6_1, x7_1, x8_1, rfl, rfl, HA, HK1, HO_6, HB⟩ := hrel
  cases gk with
  | zero => exact absurd HA.out (by simp [o_short.l0])
  | succ k1 =>
   have H := HA.out
   clear HA
   simp only [o_short.l0] at H
   by_cases c7 : x8_1 ≥ 0
   case neg =>
    rw [if_neg c7] at H
    have c7b0 : decide (0 ≤ x8_1) = false := decide_eq_false c7
    clear c7
    simp only [Option.some.injEq, Prod.mk.injEq] at H
    obtain ⟨rfl, rfl⟩ := H
    go_wp2
    go_ret2
    exact ⟨_, fe, rk HO_6, bl HB⟩
   rw [if_pos c7] at H
   have c7b0 : decide (0 ≤ x8_1) = true := decide_eq_true c7
   clear c7
   by_cases c8 : 0 ≤ x8_1
   case neg =>
    rw [if_neg c8] at H
    exact absurd H (by simp)
   rw [if_pos c8] at H
   have c8b0 := decide_eq_true c8
   clear c8
   by_cases c9 : x8_1 < (l0.length : Int)
   case neg =>
    rw [if_neg c9] at H
    exact absurd H (by simp)
   rw [if_pos c9] at H
   have c9b0 := decide_eq_true c9
   clear c9
   by_cases c10 : a1 = 0
   ·rw [if_pos c10] at H
    exact absurd H (by simp)
   rw [if_neg c10] at H
   have c10b0 := beq_eq_false_iff_ne.mpr c10
   have c10b1 := bne_iff_ne.mpr c10
   by_cases c11 : x8_1 < (x6_1.length : Int)
   case neg =>
    rw [if_neg c11] at H
    exact absurd H (by simp)
   rw [if_pos c11] at H
   have c11b0 := decide_eq_true c11
   clear c11
   obtain ⟨y233, hy233⟩ : ∃ y_ : List Int, y_ = (x6_1.set (x8_1 : Int).toNat (IntKind.u64.wrap (Int.tdiv (IntKind.u64.wrap ((IntKind.u64.wrap (x7_1 * 1000000000)) + (rd l0 x8_1))) a1))) := ⟨_, rfl⟩
   replace H : (o_short.l0 k1 l0 a1 y233 (Int.tmod (IntKind.u64.wrap ((IntKind.u64.wrap (x7_1 * 1000000000)) + (rd l0 x8_1))) a1) (wrap64 (x8_1 - 1))) = some (r1, r2) := by rw [hy233]; exact H
   have Ny233 := Az hy233
   clear hy233
   have H' := Az H
   clear H
   have p232 : 0 ≤ (x8_1 : Int) := ode
   have q232 : x8_1 < (l0.length : Int) := ode
   obtain ⟨ad232, e232, hx232_0⟩ := Kd.at_int HR0.out x8_1 p232 q232
   cases e232
   replace hx232_0 := (HB.out.cell (World.block_lt_of_cell? w _ hx232_0)).trans hx232_0
   replace p232 := eq_true p232
   replace q232 := eq_true q232
   try go_wp2
   replace HO_6 := Az (Kd.R_drew HO_6.out)
   replace HB := Az (below_drew1 HB.out)
   have p12 : 0 ≤ (x8_1 : Int) := ode
   have q12 : (x8_1 : Int) < ((x6_1.length : Int) : Int) := ode
   obtain ⟨go12, co12, eo12, gb12, gl12, cl12, HG12⟩ := Kd.R_form HO_6.out (by omega)
   (first | cases eo12 | (injection eo12 with ea_ en_ ec_; (first | subst ea_ | (injection ea_ with ea_; subst ea_)); subst ec_; clear en_))
   have GB12 := Az gb12
   have GG12 := Az HG12
   clear gb12 gl12 HG12
   obtain ⟨hx12_0, hf12_0⟩ := Kd.R_celln 0 HO_6.out (x8_1 : Int) p12 q12
   replace p12 := eq_true p12
   replace q12 := eq_true q12
   have HP14 := Kd.R_putn HO_6.out (x8_1 : Int) (IntKind.u64.wrap (Int.tdiv (IntKind.u64.wrap ((IntKind.u64.wrap (x7_1 * 1000000000)) + (rd l0 x8_1))) a1))
   rw [← Ny233.out] at HP14
   have HQ14 := Az HP14
   clear HP14
   refine start_ (n := 11) (S := fun w' => True) (ds := [9]) (bm 11 0) (by kernel_rfl) rfl rfl trivial (fun hHeld => ?_); refine with_tabW o_short.tab7 o_short.bits7 (fun HT_ HW_ => ?_)
   generalize wr.drew = w13 at HO_6 HB GG12 HQ14 hf12_0 hx12_0 hHeld ⊢
   refine pu 0 (some 26) (bm 11 1) HT_.out ?_
   refine pu 1 (some 27) (bm 11 3) HT_.out ?_
   refine pu 2 (some 28) (bm 11 7) HT_.out ?_
   refine pu 3 (some 29) (bm 11 15) HT_.out ?_
   refine pu 4 (some 30) (bm 11 31) HT_.out ?_
   refine pu 5 (some 31) (bm 11 63) HT_.out ?_
   refine pu 6 (some 32) (bm 11 127) HT_.out ?_
   refine pu 7 (some 33) (bm 11 255) HT_.out ?_
   refine pu 8 (some 34) (bm 11 511) HT_.out ?_
   refine last_ (i := 9) (N := none) (bm 11 1023) rfl rfl (one_of HT_.out (by kernel_rfl)) (by decide) (fun K hK => ?_)
   refine skip_ (w1 := ?_) (by rfl) rfl ?_ ?_
   rotate_left
   ·go_simp
    rfl
   refine hK.out _ _ ?_
   clear hK K
   refine pu 10 (some 7) (bm 11 2047) HT_.out ?_
   refine done_ (done_of HT_.out (by kernel_rfl)) ?_
   try go_wp2
   go_roundg k1
   case measure => have := HK1.out; omega
   case rel => exact ⟨(y233), (Int.tmod (IntKind.u64.wrap ((IntKind.u64.wrap (x7_1 * 1000000000)) + (rd l0 x8_1))) a1), (wrap64 (x8_1 - 1)), rs, rs, H', ⟨by have := HK1.out; omega⟩, ⟨rt (HQ14.out)⟩, ⟨bls HB⟩⟩
def o_doubles.l0 : Nat → List Int → List Int → Int → Option (List Int)
 | 0, _, _, _ => none
 | k + 1, x0, x3, x4 => if x4 < (x0.length : Int) then (if 0 ≤ x4 then (if (wrap64 (x4 + 1)) < (x0.length : Int) then (if 0 ≤ (wrap64 (x4 + 1)) then (if x3.length < 17592186044416 then (o_doubles.l0 k x0 (x3 ++ [IntKind.u64.wrap ((rd x0 x4) + (IntKind.u64.wrap (1000000000 * (rd x0 (wrap64 (x4 + 1))))))]) (wrap64 (x4 + 2))) else (none)) else (none)) else (if x3.length < 17592186044416 then (o_doubles.l0 k x0 (x3 ++ [rd x0 x4]) (wrap64 (x4 + 2))) else (none))) else (none)) else (some x3)
def o_doubles.f (k : Nat) (l0 : List Int) : Option (List Int) := o_doubles.l0 k l0 ([] : List Int) 0
theorem o_doubles.mono_l : ∀ k, (∀ y0 y1 y2, LeO (o_doubles.l0 k y0 y1 y2) (o_doubles.l0 (k + 1) y0 y1 y2))
 | 0 => fun _ _ _ r h => by simp [o_doubles.l0] at h
 | k + 1 => by
  have ih0 := o_doubles.mono_l k
  ·intro y0 y1 y2
   unfold o_doubles.l0
   repeat' first
   | exact ih0 _ _ _
   | exact LeO.refl _
   | exact LeO.none _
   | refine LeO.ite ?_ ?_
   | refine LeO.bind ?_ (fun _ => ?_)
theorem o_doubles.mono : ∀ a0 k, LeO (o_doubles.f k a0) (o_doubles.f (k + 1) a0) := by
 intro a0 k
 have ih0 := o_doubles.mono_l k
 unfold o_doubles.f
 repeat' first
   | exact ih0 _ _ _
   | exact LeO.refl _
   | exact LeO.none _
   | refine LeO.ite ?_ ?_
   | refine LeO.bind ?_ (fun _ => ?_)
theorem o_doubles.calls (k : Nat) (A0 : Option Addr) (c0 : Nat) (l0 r : List Int) (w : World) (hr0 : Kd.C (Kd.int .u64) w A0 l0.length l0) (hc0 : l0.length ≤ c0) (h : o_doubles.f k l0 = some r) :
  Calls Tryz.prog 147 #[.slice A0 l0.length c0] w fun e w' => ∃ v0_ : Value, e = .returned (v0_) ∧ Kd.R (Kd.int .u64) 25 w' w.heap.size (fun _ => True) v0_ r ∧ Below w.heap.size w w' := by
 have HR0 := Az hr0
 have HC0 := Az hc0
 clear hr0 hc0
 have HB := Az (Below.refl w.heap.size w)
 have H := h
 unfold o_doubles.f at H
 clear h
 have H' := Az H
 clear H
 go_enter Tryz.func147, Tryz.ntmps147
 go_wp2
 go_loopg [3, 4] k (fun kq v3 v4 w' => ∃ (x3_1 : List Int) (x4_1 : Int), v4 = .int .i64 x4_1 ∧ Aside0 (o_doubles.l0 kq l0 x3_1 x4_1 = some r) ∧ Aside0 (kq ≤ k) ∧ Aside0 (Kd.R (Kd.int .u64) 25 w' w.heap.size (fun _ => True) v3 x3_1) ∧ Aside0 (Below w.heap.size w w'))
 case atStart => exact ⟨(([] : List Int)), (0), rs, H', ⟨Nat.le_refl _⟩, ⟨Kd.R_nil _ _ _ _ _⟩, ⟨bl HB⟩⟩
 case round =>
  clear H'
  obtain ⟨x3_1, x4_1, rfl, HA, HK1, HO_3, HB⟩ := hrel
  cases gk with
  | zero => exact absurd HA.out (by simp [o_doubles.l0])
  | succ k1 =>
   have H := HA.out
   clear HA
   simp only [o_doubles.l0] at H
   by_cases c2 : x4_1 < (l0.length : Int)
   case neg =>
    rw [if_neg c2] at H
    have c2b0 := decide_eq_false c2
    clear c2
    obtain rfl := Option.some.inj H
    go_wp2
    go_ret
    exact ⟨_, fe, rk HO_3, bl HB⟩
   rw [if_pos c2] at H
   have c2b0 := decide_eq_true c2
   clear c2
   by_cases c3 : 0 ≤ x4_1
   case neg =>
    rw [if_neg c3] at H
    exact absurd H (by simp)
   rw [if_pos c3] at H
   have c3b0 := decide_eq_true c3
   clear c3
   by_cases c4 : (wrap64 (x4_1 + 1)) < (l0.length : Int)
   case neg =>
    rw [if_neg c4] at H
    have c4b0 := decide_eq_false c4
    clear c4
    by_cases c9 : x3_1.length < 17592186044416
    case neg =>
     rw [if_neg c9] at H
     exact absurd H (by simp)
    rw [if_pos c9] at H
    have LMc9 := Az c9
    clear c9
    obtain ⟨y239, hy239⟩ : ∃ y_ : List Int, y_ = (x3_1 ++ [rd l0 x4_1]) := ⟨_, rfl⟩
    replace H : (o_doubles.l0 k1 l0 y239 (wrap64 (x4_1 + 2))) = some r := by rw [hy239]; exact H
    have Ny239 := Az hy239
    clear hy239
    have H' := Az H
    clear H
    have p234 : 0 ≤ (x4_1 : Int) := ode
    have q234 : x4_1 < (l0.length : Int) := ode
    obtain ⟨ad234, e234, hx234_0⟩ := Kd.at_int HR0.out x4_1 p234 q234
    cases e234
    replace hx234_0 := (HB.out.cell (World.block_lt_of_cell? w _ hx234_0)).trans hx234_0
    replace p234 := eq_true p234
    replace q234 := eq_true q234
    go_wp2_with (first | ((with_reducible refine gate_builtin (b := .append) (xs := #[.tmp 29, .tmp 31]) rfl ?_); at_builtin; refine Kd.R_append (Kd.int .u64) (w0 := w) w.heap.size rfl (.tmp 29) (.tmp 31) 22 25 (.int .u64 0) 8 rfl Tryz.underlying22 info25 rfl (by decide) (by omega) u3 x3_1 (rd l0 x4_1) [.int .u64 (rd l0 x4_1)] (fun _ => True) (fun _ => False) rfl rfl ?aP (fun _ hk => hk.elim) ?aF ?aO ?aB ?aS ?aL ?_; (case aP => exact rfl); (case aB => exact (bl HB)); (case aF => exact (fun _ _ => trivial)); (case aO => exact (rk HO_3)); (case aS => exact (below_size (bl HB))); (case aL => have := LMc9.out; omega); intro v240 w10 ho hb hg hat; rw [← Ny239.out] at ho; replace HB := Az (hb); have HO241 := Az (ho); clear HO_3; clear ho hb hg hat))
    go_roundg k1
    case measure => have := HK1.out; omega
    case rel => exact ⟨(y239), (wrap64 (x4_1 + 2)), rs, H', ⟨by have := HK1.out; omega⟩, ⟨rk HO241⟩, ⟨bl HB⟩⟩
   rw [if_pos c4] at H
   have c4b0 := decide_eq_true c4
   clear c4
   obtain ⟨ji5, hji5⟩ : ∃ j_ : Int, (wrap64 (x4_1 + 1)) = j_ := ⟨_, rfl⟩
   replace H : (if 0 ≤ (ji5) then (if x3_1.length < 17592186044416 then (o_doubles.l0 k1 l0 (x3_1 ++ [IntKind.u64.wrap ((rd l0 x4_1) + (IntKind.u64.wrap (1000000000 * (rd l0 (ji5)))))]) (wrap64 (x4_1 + 2))) else (none)) else (none)) = some r := by first | (rw [hji5] at H; exact H) | (simp only [hji5] at H ⊢; exact H)
   (try rw [hji5] at c4b0)
   have hji5w : (IntKind.i64.wrap (x4_1 + 1)) = ji5 := (i64_w _).trans hji5
   by_cases c6 : 0 ≤ (ji5)
   case neg =>
    rw [if_neg c6] at H
    exact absurd H (by simp)
   rw [if_pos c6] at H
   have c6b0 := decide_eq_true c6
   clear c6
   by_cases c7 : x3_1.length < 17592186044416
   case neg =>
    rw [if_neg c7] at H
    exact absurd H (by simp)
   rw [if_pos c7] at H
   have LMc7 := Az c7
   clear c7
   obtain ⟨y236, hy236⟩ : ∃ y_ : List Int, y_ = (x3_1 ++ [IntKind.u64.wrap ((rd l0 x4_1) + (IntKind.u64.wrap (1000000000 * (rd l0 (ji5)))))]) := ⟨_, rfl⟩
   replace H : (o_doubles.l0 k1 l0 y236 (wrap64 (x4_1 + 2))) = some r := by rw [hy236]; exact H
   have Ny236 := Az hy236
   clear hy236
   have H' := Az H
   clear H
   have p234 : 0 ≤ (x4_1 : Int) := ode
   have q234 : x4_1 < (l0.length : Int) := ode
   obtain ⟨ad234, e234, hx234_0⟩ := Kd.at_int HR0.out x4_1 p234 q234
   cases e234
   replace hx234_0 := (HB.out.cell (World.block_lt_of_cell? w _ hx234_0)).trans hx234_0
   replace p234 := eq_true p234
   replace q234 := eq_true q234
   have p235 : 0 ≤ ((ji5) : Int) := ode
   have q235 : (ji5) < (l0.length : Int) := ode
   obtain ⟨ad235, e235, hx235_0⟩ := Kd.at_int HR0.out (ji5) p235 q235
   obtain rfl : ad234 = ad235 := (by injection e235)
   replace hx235_0 := (HB.out.cell (World.block_lt_of_cell? w _ hx235_0)).trans hx235_0
   replace p235 := eq_true p235
   replace q235 := eq_true q235
   go_wp2_with (first | ((with_reducible refine gate_builtin (b := .append) (xs := #[.tmp 29, .tmp 31]) rfl ?_); at_builtin; refine Kd.R_append (Kd.int .u64) (w0 := w) w.heap.size rfl (.tmp 29) (.tmp 31) 22 25 (.int .u64 0) 8 rfl Tryz.underlying22 info25 rfl (by decide) (by omega) u3 x3_1 (IntKind.u64.wrap ((rd l0 x4_1) + (IntKind.u64.wrap (1000000000 * (rd l0 (ji5)))))) [.int .u64 (IntKind.u64.wrap ((rd l0 x4_1) + (IntKind.u64.wrap (1000000000 * (rd l0 (ji5))))))] (fun _ => True) (fun _ => False) rfl rfl ?aP (fun _ hk => hk.elim) ?aF ?aO ?aB ?aS ?aL ?_; (case aP => exact rfl); (case aB => exact (bl HB)); (case aF => exact (fun _ _ => trivial)); (case aO => exact (rk HO_3)); (case aS => exact (below_size (bl HB))); (case aL => have := LMc7.out; omega); intro v237 w8 ho hb hg hat; rw [← Ny236.out] at ho; replace HB := Az (hb); have HO238 := Az (ho); clear HO_3; clear ho hb hg hat))
   go_roundg k1
   case measure => have := HK1.out; omega
   case rel => exact ⟨(y236), (wrap64 (x4_1 + 2)), rs, H', ⟨by have := HK1.out; omega⟩, ⟨rk HO238⟩, ⟨bl HB⟩⟩
def o_scaled.l0 : Nat → List Int → Int → List Int → Int → List Int → Int → Int → Option (List Int)
 | 0, _, _, _, _, _, _, _ => none
 | k + 1, x0, x1, x5, x6, x13, x14, x15 => if x15 < x14 then (if 0 ≤ x15 then (if x15 < (x13.length : Int) then (if x15 < (x5.length : Int) then (o_scaled.l0 k x0 x1 (x5.set (x15 : Int).toNat (Int.tmod (IntKind.u64.wrap (x6 + (IntKind.u64.wrap ((rd x13 x15) * x1)))) 1000000000)) (IntKind.u64.wrap (Int.tdiv (IntKind.u64.wrap (x6 + (IntKind.u64.wrap ((rd x13 x15) * x1)))) 1000000000)) x13 x14 (wrap64 (x15 + 1))) else (none)) else (none)) else (none)) else (if 0 ≤ (x0.length : Int) then (if (x0.length : Int) < (x5.length : Int) then (some (x5.set ((x0.length : Int) : Int).toNat x6)) else (none)) else (none))
def o_scaled.f (k : Nat) (l0 : List Int) (a1 : Int) : Option (List Int) := if 0 ≤ (wrap64 ((l0.length : Int) + 1)) then (if (wrap64 ((l0.length : Int) + 1) : Int).toNat ≤ 35184372088832 then (o_scaled.l0 k l0 a1 (List.replicate (wrap64 ((l0.length : Int) + 1) : Int).toNat 0) 0 l0 (l0.length : Int) 0) else (none)) else (none)
theorem o_scaled.mono_l : ∀ k, (∀ y0 y1 y2 y3 y4 y5 y6, LeO (o_scaled.l0 k y0 y1 y2 y3 y4 y5 y6) (o_scaled.l0 (k + 1) y0 y1 y2 y3 y4 y5 y6))
 | 0 => fun _ _ _ _ _ _ _ r h => by simp [o_scaled.l0] at h
 | k + 1 => by
  have ih0 := o_scaled.mono_l k
  ·intro y0 y1 y2 y3 y4 y5 y6
   unfold o_scaled.l0
   repeat' first
   | exact ih0 _ _ _ _ _ _ _
   | exact LeO.refl _
   | exact LeO.none _
   | refine LeO.ite ?_ ?_
   | refine LeO.bind ?_ (fun _ => ?_)
theorem o_scaled.mono : ∀ a0 a1 k, LeO (o_scaled.f k a0 a1) (o_scaled.f (k + 1) a0 a1) := by
 intro a0 a1 k
 have ih0 := o_scaled.mono_l k
 unfold o_scaled.f
 repeat' first
   | exact ih0 _ _ _ _ _ _ _
   | exact LeO.refl _
   | exact LeO.none _
   | refine LeO.ite ?_ ?_
   | refine LeO.bind ?_ (fun _ => ?_)
theorem o_scaled.calls (k : Nat) (A0 : Option Addr) (c0 : Nat) (l0 : List Int) (a1 : Int) (r : List Int) (w : World) (hr0 : Kd.C (Kd.int .u64) w A0 l0.length l0) (hc0 : l0.length ≤ c0) (h : o_scaled.f k l0 a1 = some r) :
  Calls Tryz.prog 148 #[.slice A0 l0.length c0, .int .u64 a1] w fun e w' => ∃ v0_ : Value, e = .returned (v0_) ∧ Kd.R (Kd.int .u64) 25 w' w.heap.size (fun _ => True) v0_ r ∧ Below w.heap.size w w' := by
 have HR0 := Az hr0
 have HC0 := Az hc0
 have HB := Az (Below.refl w.heap.size w)
 have H := h
 unfold o_scaled.f at H
 obtain ⟨ji3, hji3⟩ : ∃ j_ : Int, (wrap64 ((l0.length : Int) + 1)) = j_ := ⟨_, rfl⟩
 replace H : (if 0 ≤ (ji3) then (if (ji3 : Int).toNat ≤ 35184372088832 then (o_scaled.l0 k l0 a1 (List.replicate (ji3 : Int).toNat 0) 0 l0 (l0.length : Int) 0) else (none)) else (none)) = some r := by first | (rw [hji3] at H; exact H) | (simp only [hji3] at H ⊢; exact H)
 have hji3w : (IntKind.i64.wrap ((l0.length : Int) + 1)) = ji3 := (i64_w _).trans hji3
 by_cases c4 : 0 ≤ (ji3)
 case neg =>
  rw [if_neg c4] at H
  exact absurd H (by simp)
 rw [if_pos c4] at H
 have c4b0 := eq_true c4
 have c4b1 := decide_eq_true c4
 by_cases c5 : (ji3 : Int).toNat ≤ 35184372088832
 case neg =>
  rw [if_neg c5] at H
  exact absurd H (by simp)
 rw [if_pos c5] at H
 have c5b0 := eq_true c5
 have c5b1 := decide_eq_true c5
 obtain ⟨y242, hy242⟩ : ∃ y_ : List Int, y_ = (List.replicate (ji3 : Int).toNat 0) := ⟨_, rfl⟩
 replace H : (o_scaled.l0 k l0 a1 y242 0 l0 (l0.length : Int) 0) = some r := by rw [hy242]; exact H
 have Ny242 := Az hy242
 have H' := Az H
 go_enter Tryz.func148, Tryz.ntmps148
 go_wp2_with (first | ((with_reducible refine gate_dst (N := 12) rfl ?_); refine Kd.R_make (Kd.int .u64) _ 25 rfl (N := 12) rfl 22 _ _ rfl ji3 rfl rfl Tryz.underlying22 (.int .u64 0) 8 info25 rfl (by decide) (by omega) 0 (ok := fun _ => True) (okp := fun _ => True) rfl (fun _ hk => hk) trivial (ode) (Nat.le_trans (Nat.mul_le_mul_right _ (ode : ji3.toNat ≤ 35184372088832)) (by omega)) (Below.refl _ _) (Nat.le_refl _) ?_; intro v243 w6 ho7 hb hg_ hnew_; clear hg_ hnew_; (first | rw [← Ny242.out] at ho7 | (simp only [Int.reduceToNat] at ho7; rw [← Ny242.out] at ho7)); have HO244 := Az (Kd.R_lower ho7 (below_size (bl HB))); replace HB := bs HB hb; clear hb ho7))
 go_loopg [6, 15] k (fun kq v6 v15 w' => ∃ (x5_1 : List Int) (x6_1 : Int) (x15_1 : Int), v6 = .int .u64 x6_1 ∧ v15 = .int .i64 x15_1 ∧ Aside0 (o_scaled.l0 kq l0 a1 x5_1 x6_1 l0 (l0.length : Int) x15_1 = some r) ∧ Aside0 (kq ≤ k) ∧ Aside0 (Kd.R (Kd.int .u64) 25 w' w.heap.size (fun _ => True) v243 x5_1) ∧ Aside0 (Below w.heap.size w w'))
 case atStart => exact ⟨(y242), (0), (0), rs, rs, H', ⟨Nat.le_refl _⟩, ⟨rk HO244⟩, ⟨bl HB⟩⟩
 case round =>
  obtain ⟨x5_1, x6_1, x15_1, rfl, rfl, HA, HK1, HO_5, HB⟩ := hrel
  cases gk with
  | zero => exact absurd HA.out (by simp [o_scaled.l0])
  | succ k1 =>
   have H := HA.out
   simp only [o_scaled.l0] at H
   by_cases c8 : x15_1 < (l0.length : Int)
   case neg =>
    rw [if_neg c8] at H
    have c8b0 := decide_eq_false c8
    by_cases c15 : 0 ≤ (l0.length : Int)
    case neg =>
     rw [if_neg c15] at H
     exact absurd H (by simp)
    rw [if_pos c15] at H
    have c15b0 := decide_eq_true c15
    have c15b1 : decide (0 ≤ l0.length) = true := decide_eq_true (by omega)
    by_cases c16 : (l0.length : Int) < (x5_1.length : Int)
    case neg =>
     rw [if_neg c16] at H
     exact absurd H (by simp)
    rw [if_pos c16] at H
    have c16b0 := decide_eq_true c16
    have c16b1 : decide (l0.length < x5_1.length) = true := decide_eq_true (Int.ofNat_lt.mp c16)
    obtain ⟨y247, hy247⟩ : ∃ y_ : List Int, y_ = (x5_1.set ((l0.length : Int) : Int).toNat x6_1) := ⟨_, rfl⟩
    replace H : (some y247) = some r := by rw [hy247]; exact H
    have Ny247 := Az hy247
    clear hy247
    obtain rfl := Option.some.inj H
    have p17 : 0 ≤ ((l0.length : Int) : Int) := ode
    have q17 : ((l0.length : Int) : Int) < ((x5_1.length : Int) : Int) := ode
    obtain ⟨go17, co17, eo17, gb17, gl17, cl17, HG17⟩ := Kd.R_form HO_5.out (by omega)
    (first | cases eo17 | (injection eo17 with ea_ en_ ec_; (first | subst ea_ | (injection ea_ with ea_; subst ea_)); subst ec_; clear en_))
    have GB17 := Az gb17
    have GG17 := Az HG17
    clear gb17 gl17 HG17
    obtain ⟨hx17_0, hf17_0⟩ := Kd.R_celln 0 HO_5.out ((l0.length : Int) : Int) p17 q17
    (try simp only [Go.IntWalk.toNatUp] at hx17_0 hf17_0)
    replace p17 := eq_true p17
    replace q17 := eq_true q17
    have HP18 := Kd.R_putg HO_5.out ((l0.length : Int) : Int) x6_1
    go_wp2_with (first | ((with_reducible refine gate_store (t := 25) (p := 37) rfl ?_); refine store_event (t := 25) (p := 37) (v := ?vo_w19) (w1 := (wr.setCell ⟨go17, ((l0.length : Int) : Int).toNat, none⟩ (.int .u64 x6_1))) ?hg ?ho ?hn ?hr ?_; (case ho => rfl); (case hg => rfl); (case hn => rfl); (case hr => first | (go_simp; done) | (go_simp; rfl)); intro w19 hw; have hg : wr.grownBy w19 (some go17) := (by rw [hw]; exact HP18.2); have hp_ : Kd.R (Kd.int .u64) 25 w19 w.heap.size (fun _ => True) (.slice (some ⟨go17, 0, none⟩) x5_1.length co17) y247 := (by rw [hw, Ny247.out]; exact HP18.1); clear HP18; replace HO_5 := Az (hp_); replace HB := Az ((by rw [hw]; exact below_set (HB.out) GB17.out : Below w.heap.size w w19)); clear hg hw hp_))
    go_ret
    exact ⟨_, by first | rfl | (simp [errW_none, errW_some] <;> rfl) | (simp only [← hji3]; first | rfl | (simp [errW_none, errW_some] <;> rfl)) | (simp [*, errW_none, errW_some] <;> rfl), rk HO_5, bl HB⟩
   rw [if_pos c8] at H
   have c8b0 := decide_eq_true c8
   by_cases c9 : 0 ≤ x15_1
   case neg =>
    rw [if_neg c9] at H
    exact absurd H (by simp)
   rw [if_pos c9] at H
   have c9b0 := decide_eq_true c9
   by_cases c10 : x15_1 < (l0.length : Int)
   case neg =>
    rw [if_neg c10] at H
    exact absurd H (by simp)
   rw [if_pos c10] at H
   have c10b0 := decide_eq_true c10
   by_cases c11 : x15_1 < (x5_1.length : Int)
   case neg =>
    rw [if_neg c11] at H
    exact absurd H (by simp)
   rw [if_pos c11] at H
   have c11b0 := decide_eq_true c11
   obtain ⟨y246, hy246⟩ : ∃ y_ : List Int, y_ = (x5_1.set (x15_1 : Int).toNat (Int.tmod (IntKind.u64.wrap (x6_1 + (IntKind.u64.wrap ((rd l0 x15_1) * a1)))) 1000000000)) := ⟨_, rfl⟩
   replace H : (o_scaled.l0 k1 l0 a1 y246 (IntKind.u64.wrap (Int.tdiv (IntKind.u64.wrap (x6_1 + (IntKind.u64.wrap ((rd l0 x15_1) * a1)))) 1000000000)) l0 (l0.length : Int) (wrap64 (x15_1 + 1))) = some r := by rw [hy246]; exact H
   have Ny246 := Az hy246
   have H' := Az H
   have p245 : 0 ≤ (x15_1 : Int) := ode
   have q245 : x15_1 < (l0.length : Int) := ode
   obtain ⟨ad245, e245, hx245_0⟩ := Kd.at_int HR0.out x15_1 p245 q245
   cases e245
   replace hx245_0 := (HB.out.cell (World.block_lt_of_cell? w _ hx245_0)).trans hx245_0
   replace p245 := eq_true p245
   replace q245 := eq_true q245
   have p12 : 0 ≤ (x15_1 : Int) := ode
   have q12 : (x15_1 : Int) < ((x5_1.length : Int) : Int) := ode
   obtain ⟨go12, co12, eo12, gb12, gl12, cl12, HG12⟩ := Kd.R_form HO_5.out (by omega)
   (first | cases eo12 | (injection eo12 with ea_ en_ ec_; (first | subst ea_ | (injection ea_ with ea_; subst ea_)); subst ec_; clear en_))
   have GB12 := Az gb12
   have GG12 := Az HG12
   obtain ⟨hx12_0, hf12_0⟩ := Kd.R_celln 0 HO_5.out (x15_1 : Int) p12 q12
   replace p12 := eq_true p12
   replace q12 := eq_true q12
   have HP13 := Kd.R_putg HO_5.out (x15_1 : Int) (Int.tmod (IntKind.u64.wrap (x6_1 + (IntKind.u64.wrap ((rd l0 x15_1) * a1)))) 1000000000)
   go_wp2_with (first | ((with_reducible refine gate_store (t := 25) (p := 29) rfl ?_); refine store_event (t := 25) (p := 29) (v := ?vo_w14) (w1 := (wr.setCell ⟨go12, (x15_1 : Int).toNat, none⟩ (.int .u64 (Int.tmod (IntKind.u64.wrap (x6_1 + (IntKind.u64.wrap ((rd l0 x15_1) * a1)))) 1000000000)))) ?hg ?ho ?hn ?hr ?_; (case ho => rfl); (case hg => rfl); (case hn => rfl); (case hr => first | (go_simp; done) | (go_simp; rfl)); intro w14 hw; have hg : wr.grownBy w14 (some go12) := (by rw [hw]; exact HP13.2); have hp_ : Kd.R (Kd.int .u64) 25 w14 w.heap.size (fun _ => True) (.slice (some ⟨go12, 0, none⟩) x5_1.length co12) y246 := (by rw [hw, Ny246.out]; exact HP13.1); clear HP13; replace HO_5 := Az (hp_); replace HB := Az ((by rw [hw]; exact below_set (HB.out) GB12.out : Below w.heap.size w w14)); clear hg hw hp_))
   go_roundg k1
   case measure => have := HK1.out; omega
   case rel => exact ⟨(y246), (IntKind.u64.wrap (Int.tdiv (IntKind.u64.wrap (x6_1 + (IntKind.u64.wrap ((rd l0 x15_1) * a1)))) 1000000000)), (wrap64 (x15_1 + 1)), rs, rs, H', ⟨by have := HK1.out; omega⟩, ⟨rk HO_5⟩, ⟨bl HB⟩⟩
def o_take.l0 : Nat → List Int → List Int → Int → Int → Int → Int → Int → Option (Bool × List Int)
 | 0, _, _, _, _, _, _, _ => none
 | k + 1, x0, x1, x2, x3, x9, x16, x17 => if x17 < x16 then (if 0 ≤ x17 then (if x17 < (x1.length : Int) then (if 0 ≤ (wrap64 (x2 + x17)) then (if (wrap64 (x2 + x17)) < (x0.length : Int) then (if (rd x0 (wrap64 (x2 + x17))) < (Int.tmod (IntKind.u64.wrap ((IntKind.u64.wrap (x3 * (rd x1 x17))) + x9)) 1000000000) then (none) else (o_take.l0 k (x0.set ((wrap64 (x2 + x17)) : Int).toNat (IntKind.u64.wrap ((rd x0 (wrap64 (x2 + x17))) - (Int.tmod (IntKind.u64.wrap ((IntKind.u64.wrap (x3 * (rd x1 x17))) + x9)) 1000000000)))) x1 x2 x3 (IntKind.u64.wrap (Int.tdiv (IntKind.u64.wrap ((IntKind.u64.wrap (x3 * (rd x1 x17))) + x9)) 1000000000)) x16 (wrap64 (x17 + 1)))) else (none)) else (none)) else (none)) else (none)) else (if 0 ≤ (wrap64 (x2 + (x1.length : Int))) then (if (wrap64 (x2 + (x1.length : Int))) < (x0.length : Int) then (if (rd x0 (wrap64 (x2 + (x1.length : Int)))) ≥ x9 then (some (true, (x0.set ((wrap64 (x2 + (x1.length : Int))) : Int).toNat (IntKind.u64.wrap ((rd x0 (wrap64 (x2 + (x1.length : Int)))) - x9))))) else (none)) else (none)) else (none))
def o_take.f (k : Nat) (l0 l1 : List Int) (a2 a3 : Int) : Option (Bool × List Int) := o_take.l0 k l0 l1 a2 a3 0 (l1.length : Int) 0
theorem o_take.mono_l : ∀ k, (∀ y0 y1 y2 y3 y4 y5 y6, LeO (o_take.l0 k y0 y1 y2 y3 y4 y5 y6) (o_take.l0 (k + 1) y0 y1 y2 y3 y4 y5 y6))
 | 0 => fun _ _ _ _ _ _ _ r h => by simp [o_take.l0] at h
 | k + 1 => by
  have ih0 := o_take.mono_l k
  ·intro y0 y1 y2 y3 y4 y5 y6
   unfold o_take.l0
   repeat' first
   | exact ih0 _ _ _ _ _ _ _
   | exact LeO.refl _
   | exact LeO.none _
   | refine LeO.ite ?_ ?_
   | refine LeO.bind ?_ (fun _ => ?_)
theorem o_take.mono : ∀ a0 a1 a2 a3 k, LeO (o_take.f k a0 a1 a2 a3) (o_take.f (k + 1) a0 a1 a2 a3) := by
 intro a0 a1 a2 a3 k
 have ih0 := o_take.mono_l k
 unfold o_take.f
 repeat' first
   | exact ih0 _ _ _ _ _ _ _
   | exact LeO.refl _
   | exact LeO.none _
   | refine LeO.ite ?_ ?_
   | refine LeO.bind ?_ (fun _ => ?_)
theorem o_take.calls (k : Nat) (P0_ : Nat → Prop) (u9000_ : Value) (l0 : List Int) (A1 : Option Addr) (c1 : Nat) (l1 : List Int) (a2 a3 : Int) (r1 : Bool) (r2 : List Int) (w0 w : World) (hB : Below w0.heap.size w0 w) (ho0 : Kd.R (Kd.int .u64) 25 w w0.heap.size P0_ u9000_ l0) (hr1 : ∀ W_, Kept w W_ (fun k_ => P0_ k_) → Kd.C (Kd.int .u64) W_ A1 l1.length l1) (hc1 : l1.length ≤ c1) (h : o_take.f k l0 l1 a2 a3 = some (r1, r2)) :
  Calls Tryz.prog 149 #[u9000_, .slice A1 l1.length c1, .int .i64 a2, .int .u64 a3] w fun e w' => e = .returned (.bool r1) ∧ Kd.R (Kd.int .u64) 25 w' w0.heap.size (fun k_ => (P0_ k_ ∨ w.heap.size ≤ k_)) u9000_ r2 ∧ Below w0.heap.size w0 w' ∧ Kept w w' (fun k_ => P0_ k_) := by
 have HO0 := Az (show Kd.R (Kd.int .u64) 25 w w0.heap.size (fun k_ => (P0_ k_ ∨ w.heap.size ≤ k_)) u9000_ l0 from Kd.R_mono ho0 (fun k_ hk => (.inl hk)))
 have HR1 := Az hr1
 have HC1 := Az hc1
 clear hr1 hc1
 have HK := Az (Kept.refl w (fun k_ => P0_ k_))
 have HW0 := Az hB.size
 have HB := Az hB
 clear hB
 have H := h
 unfold o_take.f at H
 clear h
 have H' := Az H
 clear H
 go_enter Tryz.func149, Tryz.ntmps149
 go_wp2
 repeat (go_quiet (fail); try go_wp2)
 go_loopg [9, 17] k (fun kq v9 v17 w' => ∃ (x0_1 : List Int) (x9_1 : Int) (x17_1 : Int), v9 = .int .u64 x9_1 ∧ v17 = .int .i64 x17_1 ∧ Aside0 (o_take.l0 kq x0_1 l1 a2 a3 x9_1 (l1.length : Int) x17_1 = some (r1, r2)) ∧ Aside0 (kq ≤ k) ∧ Aside0 (Kd.R (Kd.int .u64) 25 w' w0.heap.size (fun k_ => (P0_ k_ ∨ w.heap.size ≤ k_)) u9000_ x0_1) ∧ Aside0 (Kept w w' (fun k_ => P0_ k_)) ∧ Aside0 (Below w0.heap.size w0 w'))
 case atStart => exact ⟨(l0), (0), (0), rs, rs, H', ⟨Nat.le_refl _⟩, ⟨rk HO0⟩, ⟨by repeat (first | (with_reducible first | exact HK.out | apply Kept.alloc | apply Kept.drewN | apply Kept.drew) | exact HK.out)⟩, ⟨bl HB⟩⟩
 case round =>
  clear H'
  obtain ⟨x0_1, x9_1, x17_1, rfl, rfl, HA, HK1, HO_0, HK, HB⟩ := hrel
  cases gk with
  | zero => exact absurd HA.out (by simp [o_take.l0])
  | succ k1 =>
   have H := HA.out
   clear HA
   simp only [o_take.l0] at H
   by_cases c5 : x17_1 < (l1.length : Int)
   case neg =>
    rw [if_neg c5] at H
    have c5b0 := decide_eq_false c5
    clear c5
    obtain ⟨ji16, hji16⟩ : ∃ j_ : Int, (wrap64 (a2 + (l1.length : Int))) = j_ := ⟨_, rfl⟩
    replace H : (if 0 ≤ (ji16) then (if (ji16) < (x0_1.length : Int) then (if (rd x0_1 (ji16)) ≥ x9_1 then (some (true, (x0_1.set ((ji16) : Int).toNat (IntKind.u64.wrap ((rd x0_1 (ji16)) - x9_1))))) else (none)) else (none)) else (none)) = some (r1, r2) := by first | (rw [hji16] at H; exact H) | (simp only [hji16] at H ⊢; exact H)
    have hji16w : (IntKind.i64.wrap (a2 + (l1.length : Int))) = ji16 := (i64_w _).trans hji16
    by_cases c17 : 0 ≤ (ji16)
    case neg =>
     rw [if_neg c17] at H
     exact absurd H (by simp)
    rw [if_pos c17] at H
    have c17b0 := decide_eq_true c17
    clear c17
    by_cases c18 : (ji16) < (x0_1.length : Int)
    case neg =>
     rw [if_neg c18] at H
     exact absurd H (by simp)
    rw [if_pos c18] at H
    have c18b0 := decide_eq_true c18
    clear c18
    by_cases c19 : (rd x0_1 (ji16)) ≥ x9_1
    case neg =>
     rw [if_neg c19] at H
     exact absurd H (by simp)
    rw [if_pos c19] at H
    have c19b0 : decide (x9_1 ≤ (rd x0_1 (ji16))) = true := decide_eq_true c19
    clear c19
    obtain ⟨y254, hy254⟩ : ∃ y_ : List Int, y_ = (x0_1.set ((ji16) : Int).toNat (IntKind.u64.wrap ((rd x0_1 (ji16)) - x9_1))) := ⟨_, rfl⟩
    replace H : (some (true, y254)) = some (r1, r2) := by rw [hy254]; exact H
    have Ny254 := Az hy254
    clear hy254
    simp only [Option.some.injEq, Prod.mk.injEq] at H
    obtain ⟨rfl, rfl⟩ := H
    obtain ⟨Ao21, co21, eo21⟩ := Kd.R_slice HO_0.out
    subst eo21
    have p252 : 0 ≤ ((ji16) : Int) := ode
    have q252 : (ji16) < (x0_1.length : Int) := ode
    obtain ⟨ad252, e252, hx252_0⟩ := Kd.at_int (Kd.R_reads' HO_0.out).2.2 (ji16) p252 q252
    cases e252
    replace p252 := eq_true p252
    replace q252 := eq_true q252
    have p253 : 0 ≤ ((ji16) : Int) := ode
    have q253 : (ji16) < (x0_1.length : Int) := ode
    obtain ⟨ad253, e253, hx253_0⟩ := Kd.at_int (Kd.R_reads' HO_0.out).2.2 (ji16) p253 q253
    obtain rfl : ad252 = ad253 := (by injection e253)
    replace p253 := eq_true p253
    replace q253 := eq_true q253
    have p20 : 0 ≤ ((ji16) : Int) := ode
    have q20 : ((ji16) : Int) < ((x0_1.length : Int) : Int) := ode
    obtain ⟨go20, co20, eo20, gb20, gl20, cl20, HG20⟩ := Kd.R_form HO_0.out (by omega)
    (first | cases eo20 | (injection eo20 with ea_ en_ ec_; (first | subst ea_ | (injection ea_ with ea_; subst ea_)); subst ec_; clear en_))
    have GB20 := Az gb20
    have GG20 := Az HG20
    clear gb20 gl20 HG20
    have HMgo20 := Az (show (P0_ go20 ∨ w.heap.size ≤ go20) from (HO_0.out.1 _ rfl))
    (first | simp only [add_plain] at hx252_0 | skip)
    (first | simp only [add_plain] at hx253_0 | skip)
    obtain ⟨hx20_0, hf20_0⟩ := Kd.R_celln 0 HO_0.out ((ji16) : Int) p20 q20
    replace p20 := eq_true p20
    replace q20 := eq_true q20
    have HP22 := Kd.R_putg HO_0.out ((ji16) : Int) (IntKind.u64.wrap ((rd x0_1 (ji16)) - x9_1))
    go_wp2_with (first | ((with_reducible refine gate_store (t := 25) (p := 78) rfl ?_); (try (rw [drewN_self wr]; generalize hq_ : World.drewN wr _ = wr; have n0_ := Az (Kd.R_at hq_ HO_0.out); have n1_ := Az (kept_at hq_ HK.out); have n2_ := Az (below_at hq_ HB.out); clear hq_ HO_0 HK HB; have HO_0 := n0_; have HK := n1_; have HB := n2_; clear n0_ n1_ n2_; (try (have HP22 := Kd.R_putg HO_0.out ((ji16) : Int) (IntKind.u64.wrap ((rd x0_1 (ji16)) - x9_1)))))); refine store_event (t := 25) (p := 78) (v := ?vo_w23) (w1 := (wr.setCell ⟨go20, ((ji16) : Int).toNat, none⟩ (.int .u64 (IntKind.u64.wrap ((rd x0_1 (ji16)) - x9_1))))) ?hg ?ho ?hn ?hr ?_; (case ho => rfl); (case hg => rfl); (case hn => rfl); (case hr => first | (go_simp; done) | (go_simp; rfl)); intro w23 hw; have hg : wr.grownBy w23 (some go20) := (by rw [hw]; exact HP22.2); have hp_ : Kd.R (Kd.int .u64) 25 w23 w0.heap.size (fun k_ => (P0_ k_ ∨ w.heap.size ≤ k_)) (.slice (some ⟨go20, 0, none⟩) x0_1.length co21) y254 := (by rw [hw, Ny254.out]; exact HP22.1); clear HP22; replace HB := Az ((by rw [hw]; exact below_set (HB.out) GB20.out : Below w0.heap.size w0 w23)); replace HK := Az (Kept.of_grown (S := (fun k_ => P0_ k_)) hg (by repeat (first | (with_reducible first | exact HK.out | apply Kept.alloc | apply Kept.drewN | apply Kept.drew) | exact HK.out)) (fun k_ e_ => (HO_0.out.1 k_ e_))); replace HO_0 := Az (hp_); clear hg hw hp_))
    go_ret
    exact ⟨by first | rfl | (simp [errW_none, errW_some] <;> rfl) | (simp only [← hji16]; first | rfl | (simp [errW_none, errW_some] <;> rfl)) | (simp [*, errW_none, errW_some] <;> rfl), rk HO_0, bl HB, by repeat (first | (with_reducible first | exact HK.out | apply Kept.alloc | apply Kept.drewN | apply Kept.drew) | exact HK.out)⟩
   rw [if_pos c5] at H
   have c5b0 := decide_eq_true c5
   clear c5
   by_cases c6 : 0 ≤ x17_1
   case neg =>
    rw [if_neg c6] at H
    exact absurd H (by simp)
   rw [if_pos c6] at H
   have c6b0 := decide_eq_true c6
   clear c6
   by_cases c7 : x17_1 < (l1.length : Int)
   case neg =>
    rw [if_neg c7] at H
    exact absurd H (by simp)
   rw [if_pos c7] at H
   have c7b0 := decide_eq_true c7
   clear c7
   obtain ⟨ji8, hji8⟩ : ∃ j_ : Int, (wrap64 (a2 + x17_1)) = j_ := ⟨_, rfl⟩
   replace H : (if 0 ≤ (ji8) then (if (ji8) < (x0_1.length : Int) then (if (rd x0_1 (ji8)) < (Int.tmod (IntKind.u64.wrap ((IntKind.u64.wrap (a3 * (rd l1 x17_1))) + x9_1)) 1000000000) then (none) else (o_take.l0 k1 (x0_1.set ((ji8) : Int).toNat (IntKind.u64.wrap ((rd x0_1 (ji8)) - (Int.tmod (IntKind.u64.wrap ((IntKind.u64.wrap (a3 * (rd l1 x17_1))) + x9_1)) 1000000000)))) l1 a2 a3 (IntKind.u64.wrap (Int.tdiv (IntKind.u64.wrap ((IntKind.u64.wrap (a3 * (rd l1 x17_1))) + x9_1)) 1000000000)) (l1.length : Int) (wrap64 (x17_1 + 1)))) else (none)) else (none)) = some (r1, r2) := by first | (rw [hji8] at H; exact H) | (simp only [hji8] at H ⊢; exact H)
   have hji8w : (IntKind.i64.wrap (a2 + x17_1)) = ji8 := (i64_w _).trans hji8
   by_cases c9 : 0 ≤ (ji8)
   case neg =>
    rw [if_neg c9] at H
    exact absurd H (by simp)
   rw [if_pos c9] at H
   have c9b0 := decide_eq_true c9
   clear c9
   by_cases c10 : (ji8) < (x0_1.length : Int)
   case neg =>
    rw [if_neg c10] at H
    exact absurd H (by simp)
   rw [if_pos c10] at H
   have c10b0 := decide_eq_true c10
   clear c10
   by_cases c11 : (rd x0_1 (ji8)) < (Int.tmod (IntKind.u64.wrap ((IntKind.u64.wrap (a3 * (rd l1 x17_1))) + x9_1)) 1000000000)
   ·rw [if_pos c11] at H
    exact absurd H (by simp)
   rw [if_neg c11] at H
   have c11b0 := decide_eq_false c11
   clear c11
   obtain ⟨y251, hy251⟩ : ∃ y_ : List Int, y_ = (x0_1.set ((ji8) : Int).toNat (IntKind.u64.wrap ((rd x0_1 (ji8)) - (Int.tmod (IntKind.u64.wrap ((IntKind.u64.wrap (a3 * (rd l1 x17_1))) + x9_1)) 1000000000)))) := ⟨_, rfl⟩
   replace H : (o_take.l0 k1 y251 l1 a2 a3 (IntKind.u64.wrap (Int.tdiv (IntKind.u64.wrap ((IntKind.u64.wrap (a3 * (rd l1 x17_1))) + x9_1)) 1000000000)) (l1.length : Int) (wrap64 (x17_1 + 1))) = some (r1, r2) := by rw [hy251]; exact H
   have Ny251 := Az hy251
   clear hy251
   have H' := Az H
   clear H
   have p248 : 0 ≤ (x17_1 : Int) := ode
   have q248 : x17_1 < (l1.length : Int) := ode
   obtain ⟨ad248, e248, hx248_0⟩ := Kd.at_int (Kd.C_kept_now HR1.out HK.out) x17_1 p248 q248
   cases e248
   replace p248 := eq_true p248
   replace q248 := eq_true q248
   obtain ⟨Ao13, co13, eo13⟩ := Kd.R_slice HO_0.out
   subst eo13
   have p249 : 0 ≤ ((ji8) : Int) := ode
   have q249 : (ji8) < (x0_1.length : Int) := ode
   obtain ⟨ad249, e249, hx249_0⟩ := Kd.at_int (Kd.R_reads' HO_0.out).2.2 (ji8) p249 q249
   cases e249
   replace p249 := eq_true p249
   replace q249 := eq_true q249
   have p250 : 0 ≤ ((ji8) : Int) := ode
   have q250 : (ji8) < (x0_1.length : Int) := ode
   obtain ⟨ad250, e250, hx250_0⟩ := Kd.at_int (Kd.R_reads' HO_0.out).2.2 (ji8) p250 q250
   obtain rfl : ad249 = ad250 := (by injection e250)
   replace p250 := eq_true p250
   replace q250 := eq_true q250
   have p12 : 0 ≤ ((ji8) : Int) := ode
   have q12 : ((ji8) : Int) < ((x0_1.length : Int) : Int) := ode
   obtain ⟨go12, co12, eo12, gb12, gl12, cl12, HG12⟩ := Kd.R_form HO_0.out (by omega)
   (first | cases eo12 | (injection eo12 with ea_ en_ ec_; (first | subst ea_ | (injection ea_ with ea_; subst ea_)); subst ec_; clear en_))
   have GB12 := Az gb12
   have GG12 := Az HG12
   clear gb12 gl12 HG12
   have HMgo12 := Az (show (P0_ go12 ∨ w.heap.size ≤ go12) from (HO_0.out.1 _ rfl))
   (first | simp only [add_plain] at hx249_0 | skip)
   (first | simp only [add_plain] at hx250_0 | skip)
   obtain ⟨hx12_0, hf12_0⟩ := Kd.R_celln 0 HO_0.out ((ji8) : Int) p12 q12
   replace p12 := eq_true p12
   replace q12 := eq_true q12
   have HP14 := Kd.R_putg HO_0.out ((ji8) : Int) (IntKind.u64.wrap ((rd x0_1 (ji8)) - (Int.tmod (IntKind.u64.wrap ((IntKind.u64.wrap (a3 * (rd l1 x17_1))) + x9_1)) 1000000000)))
   go_wp2_with (first | ((with_reducible refine gate_store (t := 25) (p := 58) rfl ?_); (try (rw [drewN_self wr]; generalize hq_ : World.drewN wr _ = wr; have n0_ := Az (Kd.R_at hq_ HO_0.out); have n1_ := Az (kept_at hq_ HK.out); have n2_ := Az (below_at hq_ HB.out); clear hq_ HO_0 HK HB; have HO_0 := n0_; have HK := n1_; have HB := n2_; clear n0_ n1_ n2_; (try (have HP14 := Kd.R_putg HO_0.out ((ji8) : Int) (IntKind.u64.wrap ((rd x0_1 (ji8)) - (Int.tmod (IntKind.u64.wrap ((IntKind.u64.wrap (a3 * (rd l1 x17_1))) + x9_1)) 1000000000))))))); refine store_event (t := 25) (p := 58) (v := ?vo_w15) (w1 := (wr.setCell ⟨go12, ((ji8) : Int).toNat, none⟩ (.int .u64 (IntKind.u64.wrap ((rd x0_1 (ji8)) - (Int.tmod (IntKind.u64.wrap ((IntKind.u64.wrap (a3 * (rd l1 x17_1))) + x9_1)) 1000000000)))))) ?hg ?ho ?hn ?hr ?_; (case ho => rfl); (case hg => rfl); (case hn => rfl); (case hr => first | (go_simp; done) | (go_simp; rfl)); intro w15 hw; have hg : wr.grownBy w15 (some go12) := (by rw [hw]; exact HP14.2); have hp_ : Kd.R (Kd.int .u64) 25 w15 w0.heap.size (fun k_ => (P0_ k_ ∨ w.heap.size ≤ k_)) (.slice (some ⟨go12, 0, none⟩) x0_1.length co13) y251 := (by rw [hw, Ny251.out]; exact HP14.1); clear HP14; replace HB := Az ((by rw [hw]; exact below_set (HB.out) GB12.out : Below w0.heap.size w0 w15)); replace HK := Az (Kept.of_grown (S := (fun k_ => P0_ k_)) hg (by repeat (first | (with_reducible first | exact HK.out | apply Kept.alloc | apply Kept.drewN | apply Kept.drew) | exact HK.out)) (fun k_ e_ => (HO_0.out.1 k_ e_))); replace HO_0 := Az (hp_); clear hg hw hp_))
   go_roundg k1
   case measure => have := HK1.out; omega
   case rel => exact ⟨(y251), (IntKind.u64.wrap (Int.tdiv (IntKind.u64.wrap ((IntKind.u64.wrap (a3 * (rd l1 x17_1))) + x9_1)) 1000000000)), (wrap64 (x17_1 + 1)), rs, rs, H', ⟨by have := HK1.out; omega⟩, ⟨rk HO_0⟩, ⟨by repeat (first | (with_reducible first | exact HK.out | apply Kept.alloc | apply Kept.drewN | apply Kept.drew) | exact HK.out)⟩, ⟨bl HB⟩⟩
mutual
def o_divide.l0 : Nat → List Int → List Int → Int → Int → List Int → Int → Option (List Int × List Int)
 | 0, _, _, _, _, _, _ => none
 | k + 1, x6, x7, x10, x11, x12, x13 => if x13 ≥ 0 then (if 0 ≤ (wrap64 (x13 + x11)) then (if (wrap64 (x13 + x11)) < (x7.length : Int) then (if 0 ≤ (wrap64 ((wrap64 (x13 + x11)) - 1)) then (if (wrap64 ((wrap64 (x13 + x11)) - 1)) < (x7.length : Int) then (if 0 ≤ (wrap64 (x11 - 1)) then (if (wrap64 (x11 - 1)) < (x6.length : Int) then (if (rd x6 (wrap64 (x11 - 1))) = 0 then (none) else (o_divide.l1 k x6 x7 x10 x11 x12 x13 (IntKind.u64.wrap (Int.tdiv (IntKind.u64.wrap ((IntKind.u64.wrap ((rd x7 (wrap64 (x13 + x11))) * 1000000000)) + (rd x7 (wrap64 ((wrap64 (x13 + x11)) - 1))))) (rd x6 (wrap64 (x11 - 1))))) (Int.tmod (IntKind.u64.wrap ((IntKind.u64.wrap ((rd x7 (wrap64 (x13 + x11))) * 1000000000)) + (rd x7 (wrap64 ((wrap64 (x13 + x11)) - 1))))) (rd x6 (wrap64 (x11 - 1)))))) else (none)) else (none)) else (none)) else (none)) else (none)) else (none)) else (if 0 ≤ x11 then (if x11 ≤ (x7.length : Int) then ((o_short.f k (x7.take (x11 : Int).toNat) x10).bind fun bt288 => ((o_doubles.f k x12).bind fun t292 => ((o_doubles.f k bt288.1).bind fun t295 => (some (t292, t295))))) else (none)) else (none))
def o_divide.l1 : Nat → List Int → List Int → Int → Int → List Int → Int → Int → Int → Option (List Int × List Int)
 | 0, _, _, _, _, _, _, _, _ => none
 | k + 1, x6, x7, x10, x11, x12, x13, x15, x16 => if x15 ≥ 1000000000 then (none) else (if x16 < 1000000000 then (if 0 ≤ (wrap64 (x11 - 2)) then (if (wrap64 (x11 - 2)) < (x6.length : Int) then (if 0 ≤ (wrap64 ((wrap64 (x13 + x11)) - 2)) then (if (wrap64 ((wrap64 (x13 + x11)) - 2)) < (x7.length : Int) then (if (IntKind.u64.wrap (x15 * (rd x6 (wrap64 (x11 - 2))))) > (IntKind.u64.wrap ((IntKind.u64.wrap (x16 * 1000000000)) + (rd x7 (wrap64 ((wrap64 (x13 + x11)) - 2))))) then (if 0 ≤ (wrap64 (x11 - 1)) then (if (wrap64 (x11 - 1)) < (x6.length : Int) then (if (IntKind.u64.wrap (x16 + (rd x6 (wrap64 (x11 - 1))))) ≥ 1000000000 then ((o_take.f k x7 x6 x13 (IntKind.u64.wrap (x15 - 1))).bind fun bt305 => (if bt305.1 = true then (if 0 ≤ x13 then (if x13 < (x12.length : Int) then (o_divide.l0 k x6 bt305.2 x10 x11 (x12.set (x13 : Int).toNat (IntKind.u64.wrap (x15 - 1))) (wrap64 (x13 - 1))) else (none)) else (none)) else (none))) else (o_divide.l1 k x6 x7 x10 x11 x12 x13 (IntKind.u64.wrap (x15 - 1)) (IntKind.u64.wrap (x16 + (rd x6 (wrap64 (x11 - 1))))))) else (none)) else (none)) else ((o_take.f k x7 x6 x13 x15).bind fun bt308 => (if bt308.1 = true then (if 0 ≤ x13 then (if x13 < (x12.length : Int) then (o_divide.l0 k x6 bt308.2 x10 x11 (x12.set (x13 : Int).toNat x15) (wrap64 (x13 - 1))) else (none)) else (none)) else (none)))) else (none)) else (none)) else (none)) else (none)) else (none))
end
def o_divide.f (k : Nat) (l0 l1 : List Int) : Option (List Int × List Int) := (o_halves.f k l1).bind fun t255 => ((o_halves.f k l0).bind fun t258 => (if (t255.length : Int) = 1 then (if 0 < (t255.length : Int) then ((o_short.f k t258 (rd t255 0)).bind fun bt262 => ((o_doubles.f k bt262.1).bind fun t266 => (some (t266, (([bt262.2] : List Int)))))) else (none)) else (if (t258.length : Int) < (t255.length : Int) then (some (([] : List Int), l0)) else (if 0 ≤ (wrap64 ((t255.length : Int) - 1)) then (if (wrap64 ((t255.length : Int) - 1)) < (t255.length : Int) then (if (IntKind.u64.wrap ((rd t255 (wrap64 ((t255.length : Int) - 1))) + 1)) = 0 then (none) else ((o_scaled.f k t258 (IntKind.u64.wrap (Int.tdiv (1000000000 : Int) (IntKind.u64.wrap ((rd t255 (wrap64 ((t255.length : Int) - 1))) + 1))))).bind fun t273 => ((o_scaled.f k t255 (IntKind.u64.wrap (Int.tdiv (1000000000 : Int) (IntKind.u64.wrap ((rd t255 (wrap64 ((t255.length : Int) - 1))) + 1))))).bind fun t276 => (if 0 ≤ (t255.length : Int) then (if (t255.length : Int) ≤ (t276.length : Int) then (if 0 ≤ (wrap64 ((t273.length : Int) - (t255.length : Int))) then (if (wrap64 ((t273.length : Int) - (t255.length : Int)) : Int).toNat ≤ 35184372088832 then ((some (List.replicate (wrap64 ((t273.length : Int) - (t255.length : Int)) : Int).toNat 0 : List Int)).bind fun y282 => (o_divide.l0 k (t276.take ((t255.length : Int) : Int).toNat) t273 (IntKind.u64.wrap (Int.tdiv (1000000000 : Int) (IntKind.u64.wrap ((rd t255 (wrap64 ((t255.length : Int) - 1))) + 1)))) (t255.length : Int) y282 (wrap64 ((y282.length : Int) - 1)))) else (none)) else (none)) else (none)) else (none))))) else (none)) else (none)))))
theorem o_divide.mono_l : ∀ k, (∀ y0 y1 y2 y3 y4 y5, LeO (o_divide.l0 k y0 y1 y2 y3 y4 y5) (o_divide.l0 (k + 1) y0 y1 y2 y3 y4 y5)) ∧ (∀ y0 y1 y2 y3 y4 y5 y6 y7, LeO (o_divide.l1 k y0 y1 y2 y3 y4 y5 y6 y7) (o_divide.l1 (k + 1) y0 y1 y2 y3 y4 y5 y6 y7))
 | 0 => ⟨fun _ _ _ _ _ _ r h => by simp [o_divide.l0] at h, fun _ _ _ _ _ _ _ _ r h => by simp [o_divide.l1] at h⟩
 | k + 1 => by
  obtain ⟨ih0, ih1⟩ := o_divide.mono_l k
  refine ⟨?_, ?_⟩
  ·intro y0 y1 y2 y3 y4 y5
   unfold o_divide.l0
   repeat' first
   | exact ih0 _ _ _ _ _ _
   | exact ih1 _ _ _ _ _ _ _ _
   | exact o_doubles.mono _ _
   | exact o_halves.mono _ _
   | exact o_scaled.mono _ _ _
   | exact o_short.mono _ _ _
   | exact o_take.mono _ _ _ _ _
   | exact LeO.refl _
   | exact LeO.none _
   | refine LeO.ite ?_ ?_
   | refine LeO.bind ?_ (fun _ => ?_)
  ·intro y0 y1 y2 y3 y4 y5 y6 y7
   unfold o_divide.l1
   repeat' first
   | exact ih0 _ _ _ _ _ _
   | exact ih1 _ _ _ _ _ _ _ _
   | exact o_doubles.mono _ _
   | exact o_halves.mono _ _
   | exact o_scaled.mono _ _ _
   | exact o_short.mono _ _ _
   | exact o_take.mono _ _ _ _ _
   | exact LeO.refl _
   | exact LeO.none _
   | refine LeO.ite ?_ ?_
   | refine LeO.bind ?_ (fun _ => ?_)
theorem o_divide.mono : ∀ a0 a1 k, LeO (o_divide.f k a0 a1) (o_divide.f (k + 1) a0 a1) := by
 intro a0 a1 k
 obtain ⟨ih0, ih1⟩ := o_divide.mono_l k
 unfold o_divide.f
 repeat' first
   | exact ih0 _ _ _ _ _ _
   | exact ih1 _ _ _ _ _ _ _ _
   | exact o_doubles.mono _ _
   | exact o_halves.mono _ _
   | exact o_scaled.mono _ _ _
   | exact o_short.mono _ _ _
   | exact o_take.mono _ _ _ _ _
   | exact LeO.refl _
   | exact LeO.none _
   | refine LeO.ite ?_ ?_
   | refine LeO.bind ?_ (fun _ => ?_)
theorem o_divide.calls (k : Nat) (P0_ : Nat → Prop) (A0 : Option Addr) (c0 : Nat) (l0 : List Int) (A1 : Option Addr) (c1 : Nat) (l1 r1 r2 : List Int) (w : World) (hs0 : Kd.V (Kd.int .u64) 25 w w.heap.size (fun k_ => P0_ k_) (.slice A0 l0.length c0) l0) (hr1 : Kd.C (Kd.int .u64) w A1 l1.length l1) (hc1 : l1.length ≤ c1) (h : o_divide.f k l0 l1 = some (r1, r2)) :
  Calls Tryz.prog 130 #[.slice A0 l0.length c0, .slice A1 l1.length c1] w fun e w' => ∃ v0_ v1_ : Value, e = .returned (.tuple #[v0_, v1_]) ∧ Kd.R (Kd.int .u64) 25 w' w.heap.size (fun k_ => (w.heap.size ≤ k_)) v0_ r1 ∧ Kd.V (Kd.int .u64) 25 w' w.heap.size (fun k_ => (P0_ k_ ∨ w.heap.size ≤ k_) ∧ some k_ ≠ (v0_ : Value).ownBlock) v1_ r2 ∧ Below w.heap.size w w' := by
 have HO0 := Az (show Kd.V (Kd.int .u64) 25 w w.heap.size (fun k_ => (P0_ k_ ∨ w.heap.size ≤ k_)) (.slice A0 l0.length c0) l0 from Kd.V_mono hs0 (fun k_ hk => .inl hk))
 have HR1 := Az hr1
 have HC1 := Az hc1
 clear hr1 hc1
 have HB := Az (Below.refl w.heap.size w)
 have H := h
 unfold o_divide.f at H
 clear h
 obtain ⟨t255, A3, H⟩ := bd H
 obtain ⟨t258, A4, H⟩ := bd H
 by_cases c5 : (t255.length : Int) = 1
 ·rw [if_pos c5] at H
  have c5b0 := beq_iff_eq.mpr c5
  have c5b1 := bne_eq_false_iff_eq.mpr c5
  clear c5
  by_cases c6 : 0 < (t255.length : Int)
  case neg =>
   rw [if_neg c6] at H
   exact absurd H (by simp)
  rw [if_pos c6] at H
  have c6b0 := decide_eq_true c6
  have c6b1 : decide (0 < t255.length) = true := decide_eq_true (by omega)
  clear c6
  obtain ⟨⟨t262, t263⟩, A7, H⟩ := bd H
  obtain ⟨t266, A8, H⟩ := bd H
  obtain ⟨y269, hy269⟩ : ∃ y_ : List Int, y_ = (([t263] : List Int)) := ⟨_, rfl⟩
  replace H : (some (t266, y269)) = some (r1, r2) := by rw [hy269]; exact H
  have Ny269 := Az hy269
  clear hy269
  simp only [Option.some.injEq, Prod.mk.injEq] at H
  obtain ⟨rfl, rfl⟩ := H
  go_enter Tryz.func130, Tryz.ntmps130
  go_wp2_with (first | (go_at_call 145; (with_reducible refine (o_halves.calls k _ _ l1 t255 _ ?side1 HC1.out A3.out).mono ?_); (case side1 => exact HR1.out); rintro e w9 ⟨v256, rfl, ho0, hb⟩; replace HO0 := Az (Kd.V_elder' (vk HO0) (Kd.R_base ho0) hb); have HO257 := Az (Kd.R_lower (Kd.R_newM (M := fun k_ => (w.heap.size ≤ k_)) ho0 (below_size (bl HB)) (fun k_ h_ => h_)) (below_size (bl HB))); replace HB := bs HB hb) | (go_at_call 145; (with_reducible refine (o_halves.calls k _ _ l0 t258 _ ?side1 (Kd.V_reads' HO0.out).2.1 A4.out).mono ?_); (case side1 => exact (Kd.V_reads' HO0.out).2.2); rintro e w10 ⟨v259, rfl, ho0, hb⟩; replace HO0 := Az (Kd.V_elder' (vk HO0) (Kd.R_base ho0) hb); have HO260 := Az (Kd.R_lower (Kd.R_new' (Kd.R_newM (M := fun k_ => (w.heap.size ≤ k_)) ho0 (below_size (bl HB)) (fun k_ h_ => h_)) (Kd.R_lt (rk HO257))) (below_size (bl HB))); replace HO257 := Az (Kd.R_elder' (rk HO257) (Kd.R_base ho0) hb); replace HB := bs HB hb; obtain ⟨Ao11, co11, eo11⟩ := Kd.R_slice HO257.out; subst eo11; have p261 : 0 ≤ (0 : Int) := (by omega); have q261 : 0 < (t255.length : Int) := ode; obtain ⟨ad261, e261, hx261_0⟩ := Kd.at_int (Kd.R_reads' HO257.out).2.2 0 p261 q261; cases e261; have qi261 : (0 < t255.length) = True := eq_true (by omega); (try rw [show ((0 : Int)).toNat = 0 from rfl] at hx261_0); (try rw [Addr.add_zero'] at hx261_0); replace p261 := eq_true p261; replace q261 := eq_true q261; obtain ⟨Ao12, co12, eo12⟩ := Kd.R_slice HO260.out; subst eo12) | (go_at_call 146; (with_reducible refine (o_short.calls k _ _ t258 (rd t255 0) t262 t263 _ ?side1 (Kd.R_reads' HO260.out).2.1 A7.out).mono ?_); (case side1 => exact (Kd.R_reads' HO260.out).2.2); rintro e w13 ⟨v264, rfl, ho0, hb⟩; replace HO0 := Az (Kd.V_elder' (vk HO0) (Kd.R_base ho0) hb); have HO265 := Az (Kd.R_lower (Kd.R_new' (Kd.R_new' (Kd.R_newM (M := fun k_ => (w.heap.size ≤ k_)) ho0 (below_size (bl HB)) (fun k_ h_ => h_)) (Kd.R_lt (rk HO257))) (Kd.R_lt (rk HO260))) (below_size (bl HB))); replace HO257 := Az (Kd.R_elder' (rk HO257) (Kd.R_base ho0) hb); replace HO260 := Az (Kd.R_elder' (rk HO260) (Kd.R_base ho0) hb); replace HB := bs HB hb; obtain ⟨Ao14, co14, eo14⟩ := Kd.R_slice HO265.out; subst eo14) | (go_at_call 147; (with_reducible refine (o_doubles.calls k _ _ t262 t266 _ ?side1 (Kd.R_reads' HO265.out).2.1 A8.out).mono ?_); (case side1 => exact (Kd.R_reads' HO265.out).2.2); rintro e w15 ⟨v267, rfl, ho0, hb⟩; replace HO0 := Az (Kd.V_elder' (vk HO0) (Kd.R_base ho0) hb); have HO268 := Az (Kd.R_lower (Kd.R_new' (Kd.R_new' (Kd.R_new' (Kd.R_newM (M := fun k_ => (w.heap.size ≤ k_)) ho0 (below_size (bl HB)) (fun k_ h_ => h_)) (Kd.R_lt (rk HO257))) (Kd.R_lt (rk HO260))) (Kd.R_lt (rk HO265))) (below_size (bl HB))); replace HO257 := Az (Kd.R_elder' (rk HO257) (Kd.R_base ho0) hb); replace HO260 := Az (Kd.R_elder' (rk HO260) (Kd.R_base ho0) hb); replace HO265 := Az (Kd.R_elder' (rk HO265) (Kd.R_base ho0) hb); replace HB := bs HB hb) | ((with_reducible refine gate_dst (N := 37) rfl ?_); refine Kd.R_lit (Kd.int .u64) _ 25 ?hg (N := 37) ?hd (xs := ([t263] : List Int)) (inner := [.int .u64 t263]) (ok := fun _ => True) (okp := fun _ => True) ?hr ?hp (fun _ hk => hk) trivial (Below.refl _ _) (Nat.le_refl _) (by simp) ?_; (case hd => rfl); (case hg => rfl); (case hr => first | (go_simp; done) | (go_simp; rfl)); (case hp => exact (Reps.one (show Kd.M (Kd.int .u64) _ _ _ t263 [.int .u64 t263] from rfl) (Reps.none _ _))); intro v270 w16 ho17 hb hg_ hnew_; clear hg_ hnew_; (first | rw [← Ny269.out] at ho17 | (simp only [Int.reduceToNat] at ho17; rw [← Ny269.out] at ho17)); replace HO0 := Az (Kd.V_elder' (vk HO0) (Kd.R_base ho17) hb); have HO271 := Az (Kd.R_lower (Kd.R_new' (Kd.R_new' (Kd.R_new' (Kd.R_new' (Kd.R_newM (M := fun k_ => (w.heap.size ≤ k_)) ho17 (below_size (bl HB)) (fun k_ h_ => h_)) (Kd.R_lt (rk HO257))) (Kd.R_lt (rk HO260))) (Kd.R_lt (rk HO265))) (Kd.R_lt (rk HO268))) (below_size (bl HB))); replace HO257 := Az (Kd.R_elder' (rk HO257) (Kd.R_base ho17) hb); replace HO260 := Az (Kd.R_elder' (rk HO260) (Kd.R_base ho17) hb); replace HO265 := Az (Kd.R_elder' (rk HO265) (Kd.R_base ho17) hb); replace HO268 := Az (Kd.R_elder' (rk HO268) (Kd.R_base ho17) hb); replace HB := bs HB hb; clear hb ho17))
  go_ret2
  exact ⟨_, _, fe, rt (Kd.R_mono HO268.out (fun _ hk => hk.1.1.1.1.1)), Kd.V_mono (Kd.R_V (rt HO271.out)) (fun k_ hk => ⟨.inr hk.1.1.1.1.1, hk.2⟩), bl HB⟩
 rw [if_neg c5] at H
 have c5b0 := beq_eq_false_iff_ne.mpr c5
 have c5b1 := bne_iff_ne.mpr c5
 by_cases c18 : (t258.length : Int) < (t255.length : Int)
 ·rw [if_pos c18] at H
  have c18b0 := decide_eq_true c18
  have c18b1 : decide (t258.length < t255.length) = true := decide_eq_true (Int.ofNat_lt.mp c18)
  clear c18
  simp only [Option.some.injEq, Prod.mk.injEq] at H
  obtain ⟨rfl, rfl⟩ := H
  go_enter Tryz.func130, Tryz.ntmps130
  go_wp2_with (first | (go_at_call 145; (with_reducible refine (o_halves.calls k _ _ l1 t255 _ ?side1 HC1.out A3.out).mono ?_); (case side1 => exact HR1.out); rintro e w19 ⟨v256, rfl, ho0, hb⟩; replace HO0 := Az (Kd.V_elder' (vk HO0) (Kd.R_base ho0) hb); have HO257 := Az (Kd.R_lower (Kd.R_newM (M := fun k_ => (w.heap.size ≤ k_)) ho0 (below_size (bl HB)) (fun k_ h_ => h_)) (below_size (bl HB))); replace HB := bs HB hb) | (go_at_call 145; (with_reducible refine (o_halves.calls k _ _ l0 t258 _ ?side1 (Kd.V_reads' HO0.out).2.1 A4.out).mono ?_); (case side1 => exact (Kd.V_reads' HO0.out).2.2); rintro e w20 ⟨v259, rfl, ho0, hb⟩; replace HO0 := Az (Kd.V_elder' (vk HO0) (Kd.R_base ho0) hb); have HO260 := Az (Kd.R_lower (Kd.R_new' (Kd.R_newM (M := fun k_ => (w.heap.size ≤ k_)) ho0 (below_size (bl HB)) (fun k_ h_ => h_)) (Kd.R_lt (rk HO257))) (below_size (bl HB))); replace HO257 := Az (Kd.R_elder' (rk HO257) (Kd.R_base ho0) hb); replace HB := bs HB hb; obtain ⟨Ao21, co21, eo21⟩ := Kd.R_slice HO257.out; subst eo21; obtain ⟨Ao22, co22, eo22⟩ := Kd.R_slice HO260.out; subst eo22))
  go_ret2
  exact ⟨_, _, fe, Kd.R_nil _ _ _ _ _, vt (Kd.V_mono HO0.out (fun _ hk => ⟨hk.1.1, (by simp [Value.ownBlock])⟩)), bl HB⟩
 rw [if_neg c18] at H
 have c18b0 := decide_eq_false c18
 have c18b1 : decide (t258.length < t255.length) = false := decide_eq_false (fun h => c18 (Int.ofNat_lt.mpr h))
 clear c18
 obtain ⟨ji23, hji23⟩ : ∃ j_ : Int, (wrap64 ((t255.length : Int) - 1)) = j_ := ⟨_, rfl⟩
 replace H : (if 0 ≤ (ji23) then (if (ji23) < (t255.length : Int) then (if (IntKind.u64.wrap ((rd t255 (ji23)) + 1)) = 0 then (none) else ((o_scaled.f k t258 (IntKind.u64.wrap (Int.tdiv (1000000000 : Int) (IntKind.u64.wrap ((rd t255 (ji23)) + 1))))).bind fun t273 => ((o_scaled.f k t255 (IntKind.u64.wrap (Int.tdiv (1000000000 : Int) (IntKind.u64.wrap ((rd t255 (ji23)) + 1))))).bind fun t276 => (if 0 ≤ (t255.length : Int) then (if (t255.length : Int) ≤ (t276.length : Int) then (if 0 ≤ (wrap64 ((t273.length : Int) - (t255.length : Int))) then (if (wrap64 ((t273.length : Int) - (t255.length : Int)) : Int).toNat ≤ 35184372088832 then ((some (List.replicate (wrap64 ((t273.length : Int) - (t255.length : Int)) : Int).toNat 0 : List Int)).bind fun y282 => (o_divide.l0 k (t276.take ((t255.length : Int) : Int).toNat) t273 (IntKind.u64.wrap (Int.tdiv (1000000000 : Int) (IntKind.u64.wrap ((rd t255 (ji23)) + 1)))) (t255.length : Int) y282 (wrap64 ((y282.length : Int) - 1)))) else (none)) else (none)) else (none)) else (none))))) else (none)) else (none)) = some (r1, r2) := by first | (rw [hji23] at H; exact H) | (simp only [hji23] at H ⊢; exact H)
 have hji23w : (IntKind.i64.wrap ((t255.length : Int) - 1)) = ji23 := (i64_w _).trans hji23
 by_cases c24 : 0 ≤ (ji23)
 case neg =>
  rw [if_neg c24] at H
  exact absurd H (by simp)
 rw [if_pos c24] at H
 have c24b0 := decide_eq_true c24
 clear c24
 by_cases c25 : (ji23) < (t255.length : Int)
 case neg =>
  rw [if_neg c25] at H
  exact absurd H (by simp)
 rw [if_pos c25] at H
 have c25b0 := decide_eq_true c25
 clear c25
 by_cases c26 : (IntKind.u64.wrap ((rd t255 (ji23)) + 1)) = 0
 ·rw [if_pos c26] at H
  exact absurd H (by simp)
 rw [if_neg c26] at H
 have c26b0 := beq_eq_false_iff_ne.mpr c26
 have c26b1 := bne_iff_ne.mpr c26
 obtain ⟨t273, A27, H⟩ := bd H
 obtain ⟨t276, A28, H⟩ := bd H
 by_cases c29 : 0 ≤ (t255.length : Int)
 case neg =>
  rw [if_neg c29] at H
  exact absurd H (by simp)
 rw [if_pos c29] at H
 have c29b0 := eq_true c29
 have c29b1 := decide_eq_true c29
 clear c29
 by_cases c30 : (t255.length : Int) ≤ (t276.length : Int)
 case neg =>
  rw [if_neg c30] at H
  exact absurd H (by simp)
 rw [if_pos c30] at H
 have c30b0 := eq_true c30
 have c30b1 := decide_eq_true c30
 clear c30
 obtain ⟨y279, hy279⟩ : ∃ y_ : List Int, y_ = (t276.take ((t255.length : Int) : Int).toNat) := ⟨_, rfl⟩
 replace H : (if 0 ≤ (wrap64 ((t273.length : Int) - (t255.length : Int))) then (if (wrap64 ((t273.length : Int) - (t255.length : Int)) : Int).toNat ≤ 35184372088832 then ((some (List.replicate (wrap64 ((t273.length : Int) - (t255.length : Int)) : Int).toNat 0 : List Int)).bind fun y282 => (o_divide.l0 k y279 t273 (IntKind.u64.wrap (Int.tdiv (1000000000 : Int) (IntKind.u64.wrap ((rd t255 (ji23)) + 1)))) (t255.length : Int) y282 (wrap64 ((y282.length : Int) - 1)))) else (none)) else (none)) = some (r1, r2) := by rw [hy279]; exact H
 have Ny279 := Az hy279
 clear hy279
 obtain ⟨ji31, hji31⟩ : ∃ j_ : Int, (wrap64 ((t273.length : Int) - (t255.length : Int))) = j_ := ⟨_, rfl⟩
 replace H : (if 0 ≤ (ji31) then (if (ji31 : Int).toNat ≤ 35184372088832 then ((some (List.replicate (ji31 : Int).toNat 0 : List Int)).bind fun y282 => (o_divide.l0 k y279 t273 (IntKind.u64.wrap (Int.tdiv (1000000000 : Int) (IntKind.u64.wrap ((rd t255 (ji23)) + 1)))) (t255.length : Int) y282 (wrap64 ((y282.length : Int) - 1)))) else (none)) else (none)) = some (r1, r2) := by first | (rw [hji31] at H; exact H) | (simp only [hji31] at H ⊢; exact H)
 have hji31w : (IntKind.i64.wrap ((t273.length : Int) - (t255.length : Int))) = ji31 := (i64_w _).trans hji31
 by_cases c32 : 0 ≤ (ji31)
 case neg =>
  rw [if_neg c32] at H
  exact absurd H (by simp)
 rw [if_pos c32] at H
 have c32b0 := eq_true c32
 have c32b1 := decide_eq_true c32
 clear c32
 by_cases c33 : (ji31 : Int).toNat ≤ 35184372088832
 case neg =>
  rw [if_neg c33] at H
  exact absurd H (by simp)
 rw [if_pos c33] at H
 have c33b0 := eq_true c33
 have c33b1 := decide_eq_true c33
 clear c33
 obtain ⟨y282, hy282⟩ : ∃ y_ : List Int, y_ = (List.replicate (ji31 : Int).toNat 0) := ⟨_, rfl⟩
 replace H : (o_divide.l0 k y279 t273 (IntKind.u64.wrap (Int.tdiv (1000000000 : Int) (IntKind.u64.wrap ((rd t255 (ji23)) + 1)))) (t255.length : Int) y282 (wrap64 ((y282.length : Int) - 1))) = some (r1, r2) := by rw [hy282]; exact H
 have Ny282 := Az hy282
 clear hy282
 have H' := Az H
 clear H
 go_enter Tryz.func130, Tryz.ntmps130
 go_wp2_with (first | (go_at_call 145; (with_reducible refine (o_halves.calls k _ _ l1 t255 _ ?side1 HC1.out A3.out).mono ?_); (case side1 => exact HR1.out); rintro e w34 ⟨v256, rfl, ho0, hb⟩; replace HO0 := Az (Kd.V_elder' (vk HO0) (Kd.R_base ho0) hb); have HO257 := Az (Kd.R_lower (Kd.R_newM (M := fun k_ => (w.heap.size ≤ k_)) ho0 (below_size (bl HB)) (fun k_ h_ => h_)) (below_size (bl HB))); replace HB := bs HB hb) | (go_at_call 145; (with_reducible refine (o_halves.calls k _ _ l0 t258 _ ?side1 (Kd.V_reads' HO0.out).2.1 A4.out).mono ?_); (case side1 => exact (Kd.V_reads' HO0.out).2.2); rintro e w35 ⟨v259, rfl, ho0, hb⟩; replace HO0 := Az (Kd.V_elder' (vk HO0) (Kd.R_base ho0) hb); have HO260 := Az (Kd.R_lower (Kd.R_new' (Kd.R_newM (M := fun k_ => (w.heap.size ≤ k_)) ho0 (below_size (bl HB)) (fun k_ h_ => h_)) (Kd.R_lt (rk HO257))) (below_size (bl HB))); replace HO257 := Az (Kd.R_elder' (rk HO257) (Kd.R_base ho0) hb); replace HB := bs HB hb; obtain ⟨Ao36, co36, eo36⟩ := Kd.R_slice HO257.out; subst eo36; obtain ⟨Ao37, co37, eo37⟩ := Kd.R_slice HO260.out; subst eo37; have p272 : 0 ≤ ((ji23) : Int) := ode; have q272 : (ji23) < (t255.length : Int) := ode; obtain ⟨ad272, e272, hx272_0⟩ := Kd.at_int (Kd.R_reads' HO257.out).2.2 (ji23) p272 q272; cases e272; replace p272 := eq_true p272; replace q272 := eq_true q272) | (go_at_call 148; (with_reducible refine (o_scaled.calls k _ _ t258 (IntKind.u64.wrap (Int.tdiv (1000000000 : Int) (IntKind.u64.wrap ((rd t255 (ji23)) + 1)))) t273 _ ?side1 (Kd.R_reads' HO260.out).2.1 A27.out).mono ?_); (case side1 => exact (Kd.R_reads' HO260.out).2.2); rintro e w38 ⟨v274, rfl, ho0, hb⟩; replace HO0 := Az (Kd.V_elder' (vk HO0) (Kd.R_base ho0) hb); have HO275 := Az (Kd.R_lower (Kd.R_new' (Kd.R_new' (Kd.R_newM (M := fun k_ => (w.heap.size ≤ k_)) ho0 (below_size (bl HB)) (fun k_ h_ => h_)) (Kd.R_lt (rk HO257))) (Kd.R_lt (rk HO260))) (below_size (bl HB))); replace HO257 := Az (Kd.R_elder' (rk HO257) (Kd.R_base ho0) hb); replace HO260 := Az (Kd.R_elder' (rk HO260) (Kd.R_base ho0) hb); replace HB := bs HB hb) | (go_at_call 148; (with_reducible refine (o_scaled.calls k _ _ t255 (IntKind.u64.wrap (Int.tdiv (1000000000 : Int) (IntKind.u64.wrap ((rd t255 (ji23)) + 1)))) t276 _ ?side1 (Kd.R_reads' HO257.out).2.1 A28.out).mono ?_); (case side1 => exact (Kd.R_reads' HO257.out).2.2); rintro e w39 ⟨v277, rfl, ho0, hb⟩; replace HO0 := Az (Kd.V_elder' (vk HO0) (Kd.R_base ho0) hb); have HO278 := Az (Kd.R_lower (Kd.R_new' (Kd.R_new' (Kd.R_new' (Kd.R_newM (M := fun k_ => (w.heap.size ≤ k_)) ho0 (below_size (bl HB)) (fun k_ h_ => h_)) (Kd.R_lt (rk HO257))) (Kd.R_lt (rk HO260))) (Kd.R_lt (rk HO275))) (below_size (bl HB))); replace HO257 := Az (Kd.R_elder' (rk HO257) (Kd.R_base ho0) hb); replace HO260 := Az (Kd.R_elder' (rk HO260) (Kd.R_base ho0) hb); replace HO275 := Az (Kd.R_elder' (rk HO275) (Kd.R_base ho0) hb); replace HB := bs HB hb; obtain ⟨Ao40, co40, eo40⟩ := Kd.R_slice HO278.out; subst eo40; have q41 : ((t255.length : Int) : Int) ≤ ((t276.length : Int) : Int) := ode; obtain ⟨i041, hi041, _, hsz41, _⟩ := info_parts info25; have hcut41 := cut_to (P := Tryz.prog) 22 25 .i64 Tryz.underlying22 hi041 Ao40 t276.length co40 (t255.length : Int) (ode) q41 (Kd.R_reads' HO278.out).2.1; have hr41 := Kd.R_take (m := ((t255.length : Int) : Int).toNat) HO278.out (by omega); have hy41 : y279.length = ((t255.length : Int) : Int).toNat := (by rw [Ny279.out, List.length_take]; omega); rw [← Ny279.out] at hr41; rw [← hy41] at hr41 hcut41; clear hy41 hi041 hsz41 HO278; have HO281 := Az hr41; clear hr41; replace q41 := eq_true q41; obtain ⟨Ao42, co42, eo42⟩ := Kd.R_slice HO275.out; subst eo42) | ((with_reducible refine gate_dst (N := 66) rfl ?_); refine Kd.R_make (Kd.int .u64) _ 25 rfl (N := 66) rfl 22 _ _ rfl ji31 rfl rfl Tryz.underlying22 (.int .u64 0) 8 info25 rfl (by decide) (by omega) 0 (ok := fun _ => True) (okp := fun _ => True) rfl (fun _ hk => hk) trivial (ode) (Nat.le_trans (Nat.mul_le_mul_right _ (ode : ji31.toNat ≤ 35184372088832)) (by omega)) (Below.refl _ _) (Nat.le_refl _) ?_; intro v283 w43 ho44 hb hg_ hnew_; clear hg_ hnew_; (first | rw [← Ny282.out] at ho44 | (simp only [Int.reduceToNat] at ho44; rw [← Ny282.out] at ho44)); replace HO0 := Az (Kd.V_elder' (vk HO0) (Kd.R_base ho44) hb); have HO284 := Az (Kd.R_lower (Kd.R_new' (Kd.R_new' (Kd.R_new' (Kd.R_new' (Kd.R_newM (M := fun k_ => (w.heap.size ≤ k_)) ho44 (below_size (bl HB)) (fun k_ h_ => h_)) (Kd.R_lt (rk HO257))) (Kd.R_lt (rk HO260))) (Kd.R_lt (rk HO275))) (Kd.R_lt (rk HO281))) (below_size (bl HB))); replace HO257 := Az (Kd.R_elder' (rk HO257) (Kd.R_base ho44) hb); replace HO260 := Az (Kd.R_elder' (rk HO260) (Kd.R_base ho44) hb); replace HO275 := Az (Kd.R_elder' (rk HO275) (Kd.R_base ho44) hb); replace HO281 := Az (Kd.R_elder' (rk HO281) (Kd.R_base ho44) hb); replace HB := bs HB hb; clear hb ho44; obtain ⟨Ao45, co45, eo45⟩ := Kd.R_slice HO284.out; subst eo45))
 go_loopg [13] k (fun kq v13 w' => ∃ (x7_1 : List Int) (x12_1 : List Int) (x13_1 : Int), v13 = .int .i64 x13_1 ∧ Aside0 (o_divide.l0 kq y279 x7_1 (IntKind.u64.wrap (Int.tdiv (1000000000 : Int) (IntKind.u64.wrap ((rd t255 (ji23)) + 1)))) (t255.length : Int) x12_1 x13_1 = some (r1, r2)) ∧ Aside0 (kq ≤ k) ∧ Aside0 (Kd.R (Kd.int .u64) 25 w' w.heap.size (fun k_ => (w.heap.size ≤ k_) ∧ some k_ ≠ ((.slice Ao42 t273.length co42) : Value).ownBlock ∧ some k_ ≠ ((.slice Ao45 y282.length co45) : Value).ownBlock) (.slice Ao40 y279.length co40) y279) ∧ Aside0 (Kd.R (Kd.int .u64) 25 w' w.heap.size (fun k_ => (w.heap.size ≤ k_) ∧ some k_ ≠ ((.slice Ao40 y279.length co40) : Value).ownBlock ∧ some k_ ≠ ((.slice Ao45 y282.length co45) : Value).ownBlock) (.slice Ao42 t273.length co42) x7_1) ∧ Aside0 (Kd.R (Kd.int .u64) 25 w' w.heap.size (fun k_ => (w.heap.size ≤ k_) ∧ some k_ ≠ ((.slice Ao40 y279.length co40) : Value).ownBlock ∧ some k_ ≠ ((.slice Ao42 t273.length co42) : Value).ownBlock) (.slice Ao45 y282.length co45) x12_1) ∧ Aside0 (Below w.heap.size w w'))
 case atStart => exact ⟨(t273), (y282), (wrap64 ((y282.length : Int) - 1)), rs, H', ⟨Nat.le_refl _⟩, ⟨rt (Kd.R_mono HO281.out (fun _ hk => ⟨hk.1.1.1.1.1, ⟨ne_own hk.1.2, ne_own hk.2⟩⟩))⟩, ⟨rt (Kd.R_mono HO275.out (fun _ hk => ⟨hk.1.1.1.1.1, ⟨ne_own hk.1.2, ne_own hk.2⟩⟩))⟩, ⟨rt (Kd.R_mono HO284.out (fun _ hk => ⟨hk.1.1.1.1.1, ⟨ne_own hk.2, ne_own hk.1.2⟩⟩))⟩, ⟨bl HB⟩⟩
 case round =>
  clear H'
  obtain ⟨x7_1, x12_1, x13_1, rfl, HA, HK1, HO_6, HO_7, HO_12, HB⟩ := hrel
  have hl7_1 := (Kd.R_reads' HO_7.out).1
  rw [hl7_1] at HO_7
  have hl12_1 := (Kd.R_reads' HO_12.out).1
  rw [hl12_1] at HO_12
  (try simp only [hl12_1] at HO_6)
  (try simp only [hl12_1] at HO_7)
  cases gk with
  | zero => exact absurd HA.out (by simp [o_divide.l0])
  | succ k1 =>
   have H := HA.out
   clear HA
   simp only [o_divide.l0] at H
   by_cases c46 : x13_1 ≥ 0
   case neg =>
    rw [if_neg c46] at H
    have c46b0 : decide (0 ≤ x13_1) = false := decide_eq_false c46
    clear c46
    by_cases c86 : 0 ≤ (t255.length : Int)
    case neg =>
     rw [if_neg c86] at H
     exact absurd H (by simp)
    rw [if_pos c86] at H
    have c86b0 := eq_true c86
    have c86b1 := decide_eq_true c86
    clear c86
    by_cases c87 : (t255.length : Int) ≤ (x7_1.length : Int)
    case neg =>
     rw [if_neg c87] at H
     exact absurd H (by simp)
    rw [if_pos c87] at H
    have c87b0 := eq_true c87
    have c87b1 := decide_eq_true c87
    clear c87
    obtain ⟨y285, hy285⟩ : ∃ y_ : List Int, y_ = (x7_1.take ((t255.length : Int) : Int).toNat) := ⟨_, rfl⟩
    replace H : ((o_short.f k1 y285 (IntKind.u64.wrap (Int.tdiv (1000000000 : Int) (IntKind.u64.wrap ((rd t255 (ji23)) + 1))))).bind fun bt288 => ((o_doubles.f k1 x12_1).bind fun t292 => ((o_doubles.f k1 bt288.1).bind fun t295 => (some (t292, t295))))) = some (r1, r2) := by rw [hy285]; exact H
    have Ny285 := Az hy285
    clear hy285
    obtain ⟨⟨t288, t289⟩, A88, H⟩ := bd H
    obtain ⟨t292, A89, H⟩ := bd H
    obtain ⟨t295, A90, H⟩ := bd H
    simp only [Option.some.injEq, Prod.mk.injEq] at H
    obtain ⟨rfl, rfl⟩ := H
    have q91 : ((t255.length : Int) : Int) ≤ ((x7_1.length : Int) : Int) := ode
    obtain ⟨i091, hi091, _, hsz91, _⟩ := info_parts info25
    have hcut91 := cut_to (P := Tryz.prog) 22 25 .i64 Tryz.underlying22 hi091 Ao42 x7_1.length co42 (t255.length : Int) (ode) q91 (Kd.R_reads' HO_7.out).2.1
    have hr91 := Kd.R_take (m := ((t255.length : Int) : Int).toNat) HO_7.out (by omega)
    have hy91 : y285.length = ((t255.length : Int) : Int).toNat := (by rw [Ny285.out, List.length_take]; omega)
    rw [← Ny285.out] at hr91
    rw [← hy91] at hr91 hcut91
    clear hy91 hi091 hsz91 HO_7
    have HO287 := Az hr91
    clear hr91
    replace q91 := eq_true q91
    go_wp2_with (first | (go_at_call 146; (with_reducible refine (o_short.calls k1 _ _ y285 (IntKind.u64.wrap (Int.tdiv (1000000000 : Int) (IntKind.u64.wrap ((rd t255 (ji23)) + 1)))) t288 t289 _ ?side1 (Kd.R_reads' HO287.out).2.1 A88.out).mono ?_); (case side1 => exact (Kd.R_reads' HO287.out).2.2); rintro e w92 ⟨v290, rfl, ho0, hb⟩; have HO291 := Az (Kd.R_lower (Kd.R_new' (Kd.R_new' (Kd.R_new' (Kd.R_newM (M := fun k_ => (w.heap.size ≤ k_)) ho0 (below_size (bl HB)) (fun k_ h_ => h_)) (Kd.R_lt (rk HO_6))) (Kd.R_lt (rk HO287))) (Kd.R_lt (rk HO_12))) (below_size (bl HB))); replace HO_6 := Az (Kd.R_elder' (rk HO_6) (Kd.R_base ho0) hb); replace HO287 := Az (Kd.R_elder' (rk HO287) (Kd.R_base ho0) hb); replace HO_12 := Az (Kd.R_elder' (rk HO_12) (Kd.R_base ho0) hb); replace HB := bs HB hb) | (go_at_call 147; (with_reducible refine (o_doubles.calls k1 _ _ x12_1 t292 _ ?side1 (Kd.R_reads' HO_12.out).2.1 A89.out).mono ?_); (case side1 => exact (Kd.R_reads' HO_12.out).2.2); rintro e w93 ⟨v293, rfl, ho0, hb⟩; have HO294 := Az (Kd.R_lower (Kd.R_new' (Kd.R_new' (Kd.R_new' (Kd.R_new' (Kd.R_newM (M := fun k_ => (w.heap.size ≤ k_)) ho0 (below_size (bl HB)) (fun k_ h_ => h_)) (Kd.R_lt (rk HO_6))) (Kd.R_lt (rk HO287))) (Kd.R_lt (rk HO_12))) (Kd.R_lt (rk HO291))) (below_size (bl HB))); replace HO_6 := Az (Kd.R_elder' (rk HO_6) (Kd.R_base ho0) hb); replace HO287 := Az (Kd.R_elder' (rk HO287) (Kd.R_base ho0) hb); replace HO_12 := Az (Kd.R_elder' (rk HO_12) (Kd.R_base ho0) hb); replace HO291 := Az (Kd.R_elder' (rk HO291) (Kd.R_base ho0) hb); replace HB := bs HB hb; obtain ⟨Ao94, co94, eo94⟩ := Kd.R_slice HO291.out; subst eo94) | (go_at_call 147; (with_reducible refine (o_doubles.calls k1 _ _ t288 t295 _ ?side1 (Kd.R_reads' HO291.out).2.1 A90.out).mono ?_); (case side1 => exact (Kd.R_reads' HO291.out).2.2); rintro e w95 ⟨v296, rfl, ho0, hb⟩; have HO297 := Az (Kd.R_lower (Kd.R_new' (Kd.R_new' (Kd.R_new' (Kd.R_new' (Kd.R_new' (Kd.R_newM (M := fun k_ => (w.heap.size ≤ k_)) ho0 (below_size (bl HB)) (fun k_ h_ => h_)) (Kd.R_lt (rk HO_6))) (Kd.R_lt (rk HO287))) (Kd.R_lt (rk HO_12))) (Kd.R_lt (rk HO291))) (Kd.R_lt (rk HO294))) (below_size (bl HB))); replace HO_6 := Az (Kd.R_elder' (rk HO_6) (Kd.R_base ho0) hb); replace HO287 := Az (Kd.R_elder' (rk HO287) (Kd.R_base ho0) hb); replace HO_12 := Az (Kd.R_elder' (rk HO_12) (Kd.R_base ho0) hb); replace HO291 := Az (Kd.R_elder' (rk HO291) (Kd.R_base ho0) hb); replace HO294 := Az (Kd.R_elder' (rk HO294) (Kd.R_base ho0) hb); replace HB := bs HB hb))
    go_ret2
    exact ⟨_, _, by first | rfl | (simp [errW_none, errW_some] <;> rfl) | (simp only [← hji23, ← hji31]; first | rfl | (simp [errW_none, errW_some] <;> rfl)) | (simp [*, errW_none, errW_some] <;> rfl), rt (Kd.R_mono HO294.out (fun _ hk => hk.1.1.1.1.1.1)), Kd.V_mono (Kd.R_V (rt HO297.out)) (fun k_ hk => ⟨.inr hk.1.1.1.1.1.1, hk.2⟩), bl HB⟩
   rw [if_pos c46] at H
   have c46b0 : decide (0 ≤ x13_1) = true := decide_eq_true c46
   clear c46
   obtain ⟨ji47, hji47⟩ : ∃ j_ : Int, (wrap64 (x13_1 + (t255.length : Int))) = j_ := ⟨_, rfl⟩
   replace H : (if 0 ≤ (ji47) then (if (ji47) < (x7_1.length : Int) then (if 0 ≤ (wrap64 ((ji47) - 1)) then (if (wrap64 ((ji47) - 1)) < (x7_1.length : Int) then (if 0 ≤ (wrap64 ((t255.length : Int) - 1)) then (if (wrap64 ((t255.length : Int) - 1)) < (y279.length : Int) then (if (rd y279 (wrap64 ((t255.length : Int) - 1))) = 0 then (none) else (o_divide.l1 k1 y279 x7_1 (IntKind.u64.wrap (Int.tdiv (1000000000 : Int) (IntKind.u64.wrap ((rd t255 (ji23)) + 1)))) (t255.length : Int) x12_1 x13_1 (IntKind.u64.wrap (Int.tdiv (IntKind.u64.wrap ((IntKind.u64.wrap ((rd x7_1 (ji47)) * 1000000000)) + (rd x7_1 (wrap64 ((ji47) - 1))))) (rd y279 (wrap64 ((t255.length : Int) - 1))))) (Int.tmod (IntKind.u64.wrap ((IntKind.u64.wrap ((rd x7_1 (ji47)) * 1000000000)) + (rd x7_1 (wrap64 ((ji47) - 1))))) (rd y279 (wrap64 ((t255.length : Int) - 1)))))) else (none)) else (none)) else (none)) else (none)) else (none)) else (none)) = some (r1, r2) := by first | (rw [hji47] at H; exact H) | (simp only [hji47] at H ⊢; exact H)
   have hji47w : (IntKind.i64.wrap (x13_1 + (t255.length : Int))) = ji47 := (i64_w _).trans hji47
   by_cases c48 : 0 ≤ (ji47)
   case neg =>
    rw [if_neg c48] at H
    exact absurd H (by simp)
   rw [if_pos c48] at H
   have c48b0 := decide_eq_true c48
   clear c48
   by_cases c49 : (ji47) < (x7_1.length : Int)
   case neg =>
    rw [if_neg c49] at H
    exact absurd H (by simp)
   rw [if_pos c49] at H
   have c49b0 := decide_eq_true c49
   clear c49
   obtain ⟨ji50, hji50⟩ : ∃ j_ : Int, (wrap64 ((ji47) - 1)) = j_ := ⟨_, rfl⟩
   replace H : (if 0 ≤ (ji50) then (if (ji50) < (x7_1.length : Int) then (if 0 ≤ (wrap64 ((t255.length : Int) - 1)) then (if (wrap64 ((t255.length : Int) - 1)) < (y279.length : Int) then (if (rd y279 (wrap64 ((t255.length : Int) - 1))) = 0 then (none) else (o_divide.l1 k1 y279 x7_1 (IntKind.u64.wrap (Int.tdiv (1000000000 : Int) (IntKind.u64.wrap ((rd t255 (ji23)) + 1)))) (t255.length : Int) x12_1 x13_1 (IntKind.u64.wrap (Int.tdiv (IntKind.u64.wrap ((IntKind.u64.wrap ((rd x7_1 (ji47)) * 1000000000)) + (rd x7_1 (ji50)))) (rd y279 (wrap64 ((t255.length : Int) - 1))))) (Int.tmod (IntKind.u64.wrap ((IntKind.u64.wrap ((rd x7_1 (ji47)) * 1000000000)) + (rd x7_1 (ji50)))) (rd y279 (wrap64 ((t255.length : Int) - 1)))))) else (none)) else (none)) else (none)) else (none)) = some (r1, r2) := by first | (rw [hji50] at H; exact H) | (simp only [hji50] at H ⊢; exact H)
   have hji50w : (IntKind.i64.wrap ((ji47) - 1)) = ji50 := (i64_w _).trans hji50
   by_cases c51 : 0 ≤ (ji50)
   case neg =>
    rw [if_neg c51] at H
    exact absurd H (by simp)
   rw [if_pos c51] at H
   have c51b0 := decide_eq_true c51
   clear c51
   by_cases c52 : (ji50) < (x7_1.length : Int)
   case neg =>
    rw [if_neg c52] at H
    exact absurd H (by simp)
   rw [if_pos c52] at H
   have c52b0 := decide_eq_true c52
   clear c52
   obtain ⟨ji53, hji53⟩ : ∃ j_ : Int, (wrap64 ((t255.length : Int) - 1)) = j_ := ⟨_, rfl⟩
   replace H : (if 0 ≤ (ji53) then (if (ji53) < (y279.length : Int) then (if (rd y279 (ji53)) = 0 then (none) else (o_divide.l1 k1 y279 x7_1 (IntKind.u64.wrap (Int.tdiv (1000000000 : Int) (IntKind.u64.wrap ((rd t255 (ji23)) + 1)))) (t255.length : Int) x12_1 x13_1 (IntKind.u64.wrap (Int.tdiv (IntKind.u64.wrap ((IntKind.u64.wrap ((rd x7_1 (ji47)) * 1000000000)) + (rd x7_1 (ji50)))) (rd y279 (ji53)))) (Int.tmod (IntKind.u64.wrap ((IntKind.u64.wrap ((rd x7_1 (ji47)) * 1000000000)) + (rd x7_1 (ji50)))) (rd y279 (ji53))))) else (none)) else (none)) = some (r1, r2) := by first | (rw [hji53] at H; exact H) | (simp only [hji53] at H ⊢; exact H)
   have hji53w : (IntKind.i64.wrap ((t255.length : Int) - 1)) = ji53 := (i64_w _).trans hji53
   obtain rfl : ji23 = ji53 := hji23.symm.trans hji53
   by_cases c54 : 0 ≤ (ji23)
   case neg =>
    rw [if_neg c54] at H
    exact absurd H (by simp)
   rw [if_pos c54] at H
   have c54b0 := decide_eq_true c54
   clear c54
   by_cases c55 : (ji23) < (y279.length : Int)
   case neg =>
    rw [if_neg c55] at H
    exact absurd H (by simp)
   rw [if_pos c55] at H
   have c55b0 := decide_eq_true c55
   clear c55
   by_cases c56 : (rd y279 (ji23)) = 0
   ·rw [if_pos c56] at H
    exact absurd H (by simp)
   rw [if_neg c56] at H
   have c56b0 := beq_eq_false_iff_ne.mpr c56
   have c56b1 := bne_iff_ne.mpr c56
   have H' := Az H
   clear H
   have p298 : 0 ≤ ((ji47) : Int) := ode
   have q298 : (ji47) < (x7_1.length : Int) := ode
   obtain ⟨ad298, e298, hx298_0⟩ := Kd.at_int (Kd.R_reads' HO_7.out).2.2 (ji47) p298 q298
   cases e298
   replace p298 := eq_true p298
   replace q298 := eq_true q298
   have p299 : 0 ≤ ((ji50) : Int) := ode
   have q299 : (ji50) < (x7_1.length : Int) := ode
   obtain ⟨ad299, e299, hx299_0⟩ := Kd.at_int (Kd.R_reads' HO_7.out).2.2 (ji50) p299 q299
   obtain rfl : ad298 = ad299 := (by injection e299)
   replace p299 := eq_true p299
   replace q299 := eq_true q299
   have p300 : 0 ≤ ((ji23) : Int) := ode
   have q300 : (ji23) < (y279.length : Int) := ode
   obtain ⟨ad300, e300, hx300_0⟩ := Kd.at_int (Kd.R_reads' HO_6.out).2.2 (ji23) p300 q300
   cases e300
   replace p300 := eq_true p300
   replace q300 := eq_true q300
   have p301 : 0 ≤ ((ji23) : Int) := ode
   have q301 : (ji23) < (y279.length : Int) := ode
   obtain ⟨ad301, e301, hx301_0⟩ := Kd.at_int (Kd.R_reads' HO_6.out).2.2 (ji23) p301 q301
   obtain rfl : ad300 = ad301 := (by injection e301)
   replace p301 := eq_true p301
   replace q301 := eq_true q301
   go_wp2
   repeat (go_quiet (fail); try go_wp2)
   go_loopg [15, 16] k1 (fun kq v15 v16 w' => ∃ (x15_2 : Int) (x16_2 : Int), v15 = .int .u64 x15_2 ∧ v16 = .int .u64 x16_2 ∧ Aside0 (o_divide.l1 kq y279 x7_1 (IntKind.u64.wrap (Int.tdiv (1000000000 : Int) (IntKind.u64.wrap ((rd t255 (ji23)) + 1)))) (t255.length : Int) x12_1 x13_1 x15_2 x16_2 = some (r1, r2)) ∧ Aside0 (kq ≤ k1) ∧ Aside0 (Kd.R (Kd.int .u64) 25 w' w.heap.size (fun k_ => (w.heap.size ≤ k_) ∧ some k_ ≠ ((.slice (some ad298) x7_1.length co42) : Value).ownBlock ∧ some k_ ≠ ((.slice Ao45 x12_1.length co45) : Value).ownBlock) (.slice (some ad300) y279.length co40) y279) ∧ Aside0 (Kd.R (Kd.int .u64) 25 w' w.heap.size (fun k_ => (w.heap.size ≤ k_) ∧ some k_ ≠ ((.slice (some ad300) y279.length co40) : Value).ownBlock ∧ some k_ ≠ ((.slice Ao45 x12_1.length co45) : Value).ownBlock) (.slice (some ad298) x7_1.length co42) x7_1) ∧ Aside0 (Kd.R (Kd.int .u64) 25 w' w.heap.size (fun k_ => (w.heap.size ≤ k_) ∧ some k_ ≠ ((.slice (some ad300) y279.length co40) : Value).ownBlock ∧ some k_ ≠ ((.slice (some ad298) x7_1.length co42) : Value).ownBlock) (.slice Ao45 x12_1.length co45) x12_1) ∧ Aside0 (Below w.heap.size w w'))
   case atStart => exact ⟨(IntKind.u64.wrap (Int.tdiv (IntKind.u64.wrap ((IntKind.u64.wrap ((rd x7_1 (ji47)) * 1000000000)) + (rd x7_1 (ji50)))) (rd y279 (ji23)))), (Int.tmod (IntKind.u64.wrap ((IntKind.u64.wrap ((rd x7_1 (ji47)) * 1000000000)) + (rd x7_1 (ji50)))) (rd y279 (ji23))), (by first | rfl | (simp; done) | (simp only [← hji47, ← hji50, ← hji53] <;> (first | rfl | simp)) | (simp [*]; done)), (by first | rfl | (simp; done) | (simp only [← hji47, ← hji50, ← hji53] <;> (first | rfl | simp)) | (simp [*]; done)), H', ⟨Nat.le_refl _⟩, ⟨by (try simp only [hl7_1]); (try simp only [hl12_1]); (with_reducible repeat (first | apply Kd.R_alloc | apply Kd.R_drewN | apply Kd.R_drew)); exact HO_6.out⟩, ⟨by (try simp only [hl7_1]); (try simp only [hl12_1]); (with_reducible repeat (first | apply Kd.R_alloc | apply Kd.R_drewN | apply Kd.R_drew)); exact HO_7.out⟩, ⟨by (try simp only [hl7_1]); (try simp only [hl12_1]); (with_reducible repeat (first | apply Kd.R_alloc | apply Kd.R_drewN | apply Kd.R_drew)); exact HO_12.out⟩, ⟨bl HB⟩⟩
   case round =>
    clear H'
    obtain ⟨x15_2, x16_2, rfl, rfl, HA, HK2, HO_6, HO_7, HO_12, HB⟩ := hrel
    cases gk with
    | zero => exact absurd HA.out (by simp [o_divide.l1])
    | succ k2 =>
     have H := HA.out
     clear HA
     simp only [o_divide.l1] at H
     by_cases c57 : x15_2 ≥ 1000000000
     ·rw [if_pos c57] at H
      exact absurd H (by simp)
     rw [if_neg c57] at H
     have c57b0 : decide (1000000000 ≤ x15_2) = false := decide_eq_false c57
     clear c57
     by_cases c58 : x16_2 < 1000000000
     case neg =>
      rw [if_neg c58] at H
      exact absurd H (by simp)
     rw [if_pos c58] at H
     have c58b0 := decide_eq_true c58
     clear c58
     obtain ⟨ji59, hji59⟩ : ∃ j_ : Int, (wrap64 ((t255.length : Int) - 2)) = j_ := ⟨_, rfl⟩
     replace H : (if 0 ≤ (ji59) then (if (ji59) < (y279.length : Int) then (if 0 ≤ (wrap64 ((wrap64 (x13_1 + (t255.length : Int))) - 2)) then (if (wrap64 ((wrap64 (x13_1 + (t255.length : Int))) - 2)) < (x7_1.length : Int) then (if (IntKind.u64.wrap (x15_2 * (rd y279 (ji59)))) > (IntKind.u64.wrap ((IntKind.u64.wrap (x16_2 * 1000000000)) + (rd x7_1 (wrap64 ((wrap64 (x13_1 + (t255.length : Int))) - 2))))) then (if 0 ≤ (wrap64 ((t255.length : Int) - 1)) then (if (wrap64 ((t255.length : Int) - 1)) < (y279.length : Int) then (if (IntKind.u64.wrap (x16_2 + (rd y279 (wrap64 ((t255.length : Int) - 1))))) ≥ 1000000000 then ((o_take.f k2 x7_1 y279 x13_1 (IntKind.u64.wrap (x15_2 - 1))).bind fun bt305 => (if bt305.1 = true then (if 0 ≤ x13_1 then (if x13_1 < (x12_1.length : Int) then (o_divide.l0 k2 y279 bt305.2 (IntKind.u64.wrap (Int.tdiv (1000000000 : Int) (IntKind.u64.wrap ((rd t255 (ji23)) + 1)))) (t255.length : Int) (x12_1.set (x13_1 : Int).toNat (IntKind.u64.wrap (x15_2 - 1))) (wrap64 (x13_1 - 1))) else (none)) else (none)) else (none))) else (o_divide.l1 k2 y279 x7_1 (IntKind.u64.wrap (Int.tdiv (1000000000 : Int) (IntKind.u64.wrap ((rd t255 (ji23)) + 1)))) (t255.length : Int) x12_1 x13_1 (IntKind.u64.wrap (x15_2 - 1)) (IntKind.u64.wrap (x16_2 + (rd y279 (wrap64 ((t255.length : Int) - 1))))))) else (none)) else (none)) else ((o_take.f k2 x7_1 y279 x13_1 x15_2).bind fun bt308 => (if bt308.1 = true then (if 0 ≤ x13_1 then (if x13_1 < (x12_1.length : Int) then (o_divide.l0 k2 y279 bt308.2 (IntKind.u64.wrap (Int.tdiv (1000000000 : Int) (IntKind.u64.wrap ((rd t255 (ji23)) + 1)))) (t255.length : Int) (x12_1.set (x13_1 : Int).toNat x15_2) (wrap64 (x13_1 - 1))) else (none)) else (none)) else (none)))) else (none)) else (none)) else (none)) else (none)) = some (r1, r2) := by first | (rw [hji59] at H; exact H) | (simp only [hji59] at H ⊢; exact H)
     have hji59w : (IntKind.i64.wrap ((t255.length : Int) - 2)) = ji59 := (i64_w _).trans hji59
     by_cases c60 : 0 ≤ (ji59)
     case neg =>
      rw [if_neg c60] at H
      exact absurd H (by simp)
     rw [if_pos c60] at H
     have c60b0 := decide_eq_true c60
     clear c60
     by_cases c61 : (ji59) < (y279.length : Int)
     case neg =>
      rw [if_neg c61] at H
      exact absurd H (by simp)
     rw [if_pos c61] at H
     have c61b0 := decide_eq_true c61
     clear c61
     obtain ⟨ji62, hji62⟩ : ∃ j_ : Int, (wrap64 ((wrap64 (x13_1 + (t255.length : Int))) - 2)) = j_ := ⟨_, rfl⟩
     replace H : (if 0 ≤ (ji62) then (if (ji62) < (x7_1.length : Int) then (if (IntKind.u64.wrap (x15_2 * (rd y279 (ji59)))) > (IntKind.u64.wrap ((IntKind.u64.wrap (x16_2 * 1000000000)) + (rd x7_1 (ji62)))) then (if 0 ≤ (wrap64 ((t255.length : Int) - 1)) then (if (wrap64 ((t255.length : Int) - 1)) < (y279.length : Int) then (if (IntKind.u64.wrap (x16_2 + (rd y279 (wrap64 ((t255.length : Int) - 1))))) ≥ 1000000000 then ((o_take.f k2 x7_1 y279 x13_1 (IntKind.u64.wrap (x15_2 - 1))).bind fun bt305 => (if bt305.1 = true then (if 0 ≤ x13_1 then (if x13_1 < (x12_1.length : Int) then (o_divide.l0 k2 y279 bt305.2 (IntKind.u64.wrap (Int.tdiv (1000000000 : Int) (IntKind.u64.wrap ((rd t255 (ji23)) + 1)))) (t255.length : Int) (x12_1.set (x13_1 : Int).toNat (IntKind.u64.wrap (x15_2 - 1))) (wrap64 (x13_1 - 1))) else (none)) else (none)) else (none))) else (o_divide.l1 k2 y279 x7_1 (IntKind.u64.wrap (Int.tdiv (1000000000 : Int) (IntKind.u64.wrap ((rd t255 (ji23)) + 1)))) (t255.length : Int) x12_1 x13_1 (IntKind.u64.wrap (x15_2 - 1)) (IntKind.u64.wrap (x16_2 + (rd y279 (wrap64 ((t255.length : Int) - 1))))))) else (none)) else (none)) else ((o_take.f k2 x7_1 y279 x13_1 x15_2).bind fun bt308 => (if bt308.1 = true then (if 0 ≤ x13_1 then (if x13_1 < (x12_1.length : Int) then (o_divide.l0 k2 y279 bt308.2 (IntKind.u64.wrap (Int.tdiv (1000000000 : Int) (IntKind.u64.wrap ((rd t255 (ji23)) + 1)))) (t255.length : Int) (x12_1.set (x13_1 : Int).toNat x15_2) (wrap64 (x13_1 - 1))) else (none)) else (none)) else (none)))) else (none)) else (none)) = some (r1, r2) := by first | (rw [hji62] at H; exact H) | (simp only [hji62] at H ⊢; exact H)
     have hji62w : (IntKind.i64.wrap ((wrap64 (x13_1 + (t255.length : Int))) - 2)) = ji62 := (i64_w _).trans hji62
     have hji62v : (IntKind.i64.wrap (ji47 - 2)) = ji62 := by rw [← hji47]; exact hji62w
     by_cases c63 : 0 ≤ (ji62)
     case neg =>
      rw [if_neg c63] at H
      exact absurd H (by simp)
     rw [if_pos c63] at H
     have c63b0 := decide_eq_true c63
     clear c63
     by_cases c64 : (ji62) < (x7_1.length : Int)
     case neg =>
      rw [if_neg c64] at H
      exact absurd H (by simp)
     rw [if_pos c64] at H
     have c64b0 := decide_eq_true c64
     clear c64
     by_cases c65 : (IntKind.u64.wrap (x15_2 * (rd y279 (ji59)))) > (IntKind.u64.wrap ((IntKind.u64.wrap (x16_2 * 1000000000)) + (rd x7_1 (ji62))))
     case neg =>
      rw [if_neg c65] at H
      have c65b0 : decide ((IntKind.u64.wrap ((IntKind.u64.wrap (x16_2 * 1000000000)) + (rd x7_1 (ji62)))) < (IntKind.u64.wrap (x15_2 * (rd y279 (ji59))))) = false := decide_eq_false c65
      clear c65
      obtain ⟨⟨t308, t309⟩, A78, H⟩ := bd H
      (try dsimp only at H)
      by_cases c79 : t308 = true
      case neg =>
       replace c79 := Bool.eq_false_iff.mpr c79
       subst c79
       rw [if_neg Bool.false_ne_true] at H
       exact absurd H (by simp)
      subst c79
      rw [if_pos rfl] at H
      by_cases c80 : 0 ≤ x13_1
      case neg =>
       rw [if_neg c80] at H
       exact absurd H (by simp)
      rw [if_pos c80] at H
      have c80b0 := decide_eq_true c80
      clear c80
      by_cases c81 : x13_1 < (x12_1.length : Int)
      case neg =>
       rw [if_neg c81] at H
       exact absurd H (by simp)
      rw [if_pos c81] at H
      have c81b0 := decide_eq_true c81
      clear c81
      obtain ⟨y310, hy310⟩ : ∃ y_ : List Int, y_ = (x12_1.set (x13_1 : Int).toNat x15_2) := ⟨_, rfl⟩
      replace H : (o_divide.l0 k2 y279 t309 (IntKind.u64.wrap (Int.tdiv (1000000000 : Int) (IntKind.u64.wrap ((rd t255 (ji23)) + 1)))) (t255.length : Int) y310 (wrap64 (x13_1 - 1))) = some (r1, r2) := by rw [hy310]; exact H
      have Ny310 := Az hy310
      clear hy310
      have H' := Az H
      clear H
      have p302 : 0 ≤ ((ji59) : Int) := ode
      have q302 : (ji59) < (y279.length : Int) := ode
      obtain ⟨ad302, e302, hx302_0⟩ := Kd.at_int (Kd.R_reads' HO_6.out).2.2 (ji59) p302 q302
      obtain rfl : ad300 = ad302 := (by injection e302)
      replace p302 := eq_true p302
      replace q302 := eq_true q302
      have p303 : 0 ≤ ((ji62) : Int) := ode
      have q303 : (ji62) < (x7_1.length : Int) := ode
      obtain ⟨ad303, e303, hx303_0⟩ := Kd.at_int (Kd.R_reads' HO_7.out).2.2 (ji62) p303 q303
      obtain rfl : ad298 = ad303 := (by injection e303)
      replace p303 := eq_true p303
      replace q303 := eq_true q303
      go_wp2_with (first | (go_at_call 149; (with_reducible refine (o_take.calls k2 (fun k_ => some k_ = (.slice (some ad298) x7_1.length co42 : Value).ownBlock) (.slice (some ad298) x7_1.length co42) x7_1 _ _ y279 x13_1 x15_2 true t309 w _ ?side1 ?side2 ?side3 (Kd.R_reads' HO_6.out).2.1 A78.out).mono ?_); (case side1 => repeat (first | (with_reducible first | exact HB.out | apply below_alloc | apply pw_below_drewN | apply below_drew1) | exact HB.out)); (case side2 => exact Kd.R_tight rfl HO_7.out); (case side3 => exact Kd.C_kept_own (HO_6.out) (fun k_ hk_ hs_ => (hk_.2.1) hs_)); rintro e w83 ⟨rfl, hy0, hb, hkp⟩; replace HO_6 := Az (Kd.R_mono (ok' := fun k_ => (w.heap.size ≤ k_) ∧ some k_ ≠ (.slice (some ad298) x7_1.length co42 : Value).ownBlock ∧ some k_ ≠ (.slice Ao45 x12_1.length co45 : Value).ownBlock) (Kd.R_keptB (HO_6.out) hkp (fun k_ hk_ hs_ => (hk_.2.1) hs_)) (fun k_ hk_ => ⟨hk_.1.1, hk_.1.2.1, hk_.1.2.2⟩)); replace HO_7 := Az (Kd.R_reok rfl hy0 (fun k_ e_ => HO_7.out.1 k_ e_)); replace HO_12 := Az (Kd.R_mono (ok' := fun k_ => (w.heap.size ≤ k_) ∧ some k_ ≠ (.slice (some ad300) y279.length co40 : Value).ownBlock ∧ some k_ ≠ (.slice (some ad298) x7_1.length co42 : Value).ownBlock) (Kd.R_keptB (HO_12.out) hkp (fun k_ hk_ hs_ => (hk_.2.2) hs_)) (fun k_ hk_ => ⟨hk_.1.1, hk_.1.2.1, hk_.1.2.2⟩)); replace HB := Az (hb); have p82 : 0 ≤ (x13_1 : Int) := ode; have q82 : (x13_1 : Int) < ((x12_1.length : Int) : Int) := ode; obtain ⟨go82, co82, eo82, gb82, gl82, cl82, HG82⟩ := Kd.R_form HO_12.out (by omega); (first | cases eo82 | (injection eo82 with ea_ en_ ec_; (first | subst ea_ | (injection ea_ with ea_; subst ea_)); subst ec_; clear en_)); have GB82 := Az gb82; have GG82 := Az HG82; clear gb82 gl82 HG82; obtain ⟨hx82_0, hf82_0⟩ := Kd.R_celln 0 HO_12.out (x13_1 : Int) p82 q82; replace p82 := eq_true p82; replace q82 := eq_true q82; obtain ⟨hy84_, hz84_⟩ := Kd.R_celln 0 HO_12.out (x13_1 : Int) (ode) (ode); have HP84 := Kd.R_putg HO_12.out (x13_1 : Int) x15_2))
      repeat (go_quiet (first | ((with_reducible refine gate_store (t := 25) (p := 151) rfl ?_); (try (rw [drewN_self w83]; generalize hq_ : World.drewN w83 _ = w83; have n0_ := Az (Kd.R_at hq_ HO_6.out); have n1_ := Az (Kd.R_at hq_ HO_7.out); have n2_ := Az (Kd.R_at hq_ HO_12.out); have n3_ := Az (below_at hq_ HB.out); clear hq_ HO_6 HO_7 HO_12 HB; have HO_6 := n0_; have HO_7 := n1_; have HO_12 := n2_; have HB := n3_; clear n0_ n1_ n2_ n3_; (try (obtain ⟨hy84_, hz84_⟩ := Kd.R_celln 0 HO_12.out (x13_1 : Int) (ode) (ode))); (try (have HP84 := Kd.R_putg HO_12.out (x13_1 : Int) x15_2)))); refine store_event (t := 25) (p := 151) (v := ?vo_w85) (w1 := (w83.setCell ⟨go82, (x13_1 : Int).toNat, none⟩ (.int .u64 x15_2))) ?hg ?ho ?hn ?hr ?_; (case ho => rfl); (case hg => rfl); (case hn => rfl); (case hr => first | (go_simp; done) | (go_simp; rfl)); intro w85 hw; have hg : w83.grownBy w85 (some go82) := (by rw [hw]; exact HP84.2); have hp_ : Kd.R (Kd.int .u64) 25 w85 w.heap.size (fun k_ => (w.heap.size ≤ k_) ∧ some k_ ≠ (.slice (some ad300) y279.length co40 : Value).ownBlock ∧ some k_ ≠ (.slice (some ad298) x7_1.length co42 : Value).ownBlock) (.slice (some ⟨go82, 0, none⟩) x12_1.length co45) y310 := (by rw [hw, Ny310.out]; exact HP84.1); clear HP84; replace HO_6 := Az (Kd.R_after (v := (.slice (some ⟨go82, 0, none⟩) x12_1.length co45)) (v1 := (.slice (some ⟨go82, 0, none⟩) x12_1.length co45)) (ok := (fun k_ => (w.heap.size ≤ k_) ∧ some k_ ≠ (.slice (some ad298) x7_1.length co42 : Value).ownBlock)) (rt (Kd.R_mono HO_6.out (fun _ hk => ⟨⟨hk.1, hk.2.1⟩, hk.2.2⟩))) hg (.inl rfl)); replace HO_7 := Az (Kd.R_after (v := (.slice (some ⟨go82, 0, none⟩) x12_1.length co45)) (v1 := (.slice (some ⟨go82, 0, none⟩) x12_1.length co45)) (ok := (fun k_ => (w.heap.size ≤ k_) ∧ some k_ ≠ (.slice (some ad300) y279.length co40 : Value).ownBlock)) (rt (Kd.R_mono HO_7.out (fun _ hk => ⟨⟨hk.1, hk.2.1⟩, hk.2.2⟩))) hg (.inl rfl)); replace HO_12 := Az (hp_); replace HB := Az ((by rw [hw]; exact below_set (HB.out) GB82.out : Below w.heap.size w w85)); clear hg hw hp_)); try go_wp2_with (first | (go_at_call 149; (with_reducible refine (o_take.calls k2 (fun k_ => some k_ = (.slice (some ad298) x7_1.length co42 : Value).ownBlock) (.slice (some ad298) x7_1.length co42) x7_1 _ _ y279 x13_1 x15_2 true t309 w _ ?side1 ?side2 ?side3 (Kd.R_reads' HO_6.out).2.1 A78.out).mono ?_); (case side1 => repeat (first | (with_reducible first | exact HB.out | apply below_alloc | apply pw_below_drewN | apply below_drew1) | exact HB.out)); (case side2 => exact Kd.R_tight rfl HO_7.out); (case side3 => exact Kd.C_kept_own (HO_6.out) (fun k_ hk_ hs_ => (hk_.2.1) hs_)); rintro e w83 ⟨rfl, hy0, hb, hkp⟩; replace HO_6 := Az (Kd.R_mono (ok' := fun k_ => (w.heap.size ≤ k_) ∧ some k_ ≠ (.slice (some ad298) x7_1.length co42 : Value).ownBlock ∧ some k_ ≠ (.slice Ao45 x12_1.length co45 : Value).ownBlock) (Kd.R_keptB (HO_6.out) hkp (fun k_ hk_ hs_ => (hk_.2.1) hs_)) (fun k_ hk_ => ⟨hk_.1.1, hk_.1.2.1, hk_.1.2.2⟩)); replace HO_7 := Az (Kd.R_reok rfl hy0 (fun k_ e_ => HO_7.out.1 k_ e_)); replace HO_12 := Az (Kd.R_mono (ok' := fun k_ => (w.heap.size ≤ k_) ∧ some k_ ≠ (.slice (some ad300) y279.length co40 : Value).ownBlock ∧ some k_ ≠ (.slice (some ad298) x7_1.length co42 : Value).ownBlock) (Kd.R_keptB (HO_12.out) hkp (fun k_ hk_ hs_ => (hk_.2.2) hs_)) (fun k_ hk_ => ⟨hk_.1.1, hk_.1.2.1, hk_.1.2.2⟩)); replace HB := Az (hb); have p82 : 0 ≤ (x13_1 : Int) := ode; have q82 : (x13_1 : Int) < ((x12_1.length : Int) : Int) := ode; obtain ⟨go82, co82, eo82, gb82, gl82, cl82, HG82⟩ := Kd.R_form HO_12.out (by omega); (first | cases eo82 | (injection eo82 with ea_ en_ ec_; (first | subst ea_ | (injection ea_ with ea_; subst ea_)); subst ec_; clear en_)); have GB82 := Az gb82; have GG82 := Az HG82; clear gb82 gl82 HG82; obtain ⟨hx82_0, hf82_0⟩ := Kd.R_celln 0 HO_12.out (x13_1 : Int) p82 q82; replace p82 := eq_true p82; replace q82 := eq_true q82; obtain ⟨hy84_, hz84_⟩ := Kd.R_celln 0 HO_12.out (x13_1 : Int) (ode) (ode); have HP84 := Kd.R_putg HO_12.out (x13_1 : Int) x15_2) | ((with_reducible refine gate_store (t := 25) (p := 151) rfl ?_); (try (rw [drewN_self w83]; generalize hq_ : World.drewN w83 _ = w83; have n0_ := Az (Kd.R_at hq_ HO_6.out); have n1_ := Az (Kd.R_at hq_ HO_7.out); have n2_ := Az (Kd.R_at hq_ HO_12.out); have n3_ := Az (below_at hq_ HB.out); clear hq_ HO_6 HO_7 HO_12 HB; have HO_6 := n0_; have HO_7 := n1_; have HO_12 := n2_; have HB := n3_; clear n0_ n1_ n2_ n3_; (try (obtain ⟨hy84_, hz84_⟩ := Kd.R_celln 0 HO_12.out (x13_1 : Int) (ode) (ode))); (try (have HP84 := Kd.R_putg HO_12.out (x13_1 : Int) x15_2)))); refine store_event (t := 25) (p := 151) (v := ?vo_w85) (w1 := (w83.setCell ⟨go82, (x13_1 : Int).toNat, none⟩ (.int .u64 x15_2))) ?hg ?ho ?hn ?hr ?_; (case ho => rfl); (case hg => rfl); (case hn => rfl); (case hr => first | (go_simp; done) | (go_simp; rfl)); intro w85 hw; have hg : w83.grownBy w85 (some go82) := (by rw [hw]; exact HP84.2); have hp_ : Kd.R (Kd.int .u64) 25 w85 w.heap.size (fun k_ => (w.heap.size ≤ k_) ∧ some k_ ≠ (.slice (some ad300) y279.length co40 : Value).ownBlock ∧ some k_ ≠ (.slice (some ad298) x7_1.length co42 : Value).ownBlock) (.slice (some ⟨go82, 0, none⟩) x12_1.length co45) y310 := (by rw [hw, Ny310.out]; exact HP84.1); clear HP84; replace HO_6 := Az (Kd.R_after (v := (.slice (some ⟨go82, 0, none⟩) x12_1.length co45)) (v1 := (.slice (some ⟨go82, 0, none⟩) x12_1.length co45)) (ok := (fun k_ => (w.heap.size ≤ k_) ∧ some k_ ≠ (.slice (some ad298) x7_1.length co42 : Value).ownBlock)) (rt (Kd.R_mono HO_6.out (fun _ hk => ⟨⟨hk.1, hk.2.1⟩, hk.2.2⟩))) hg (.inl rfl)); replace HO_7 := Az (Kd.R_after (v := (.slice (some ⟨go82, 0, none⟩) x12_1.length co45)) (v1 := (.slice (some ⟨go82, 0, none⟩) x12_1.length co45)) (ok := (fun k_ => (w.heap.size ≤ k_) ∧ some k_ ≠ (.slice (some ad300) y279.length co40 : Value).ownBlock)) (rt (Kd.R_mono HO_7.out (fun _ hk => ⟨⟨hk.1, hk.2.1⟩, hk.2.2⟩))) hg (.inl rfl)); replace HO_12 := Az (hp_); replace HB := Az ((by rw [hw]; exact below_set (HB.out) GB82.out : Below w.heap.size w w85)); clear hg hw hp_)))
      (try simp only [← hl7_1, ← hl12_1])
      go_roundg k2
      case measure => have := HK1.out; have := HK2.out; omega
      case rel => exact ⟨(t309), (y310), (wrap64 (x13_1 - 1)), rs, H', ⟨by have := HK1.out; have := HK2.out; omega⟩, ⟨by (try simp only [hl7_1]); (try simp only [hl12_1]); (with_reducible repeat (first | apply Kd.R_alloc | apply Kd.R_drewN | apply Kd.R_drew)); exact Kd.R_mono HO_6.out (fun _ hk => ⟨hk.1.1, ⟨hk.1.2, hk.2⟩⟩)⟩, ⟨by (try simp only [hl7_1]); (try simp only [hl12_1]); (with_reducible repeat (first | apply Kd.R_alloc | apply Kd.R_drewN | apply Kd.R_drew)); exact Kd.R_mono HO_7.out (fun _ hk => ⟨hk.1.1, ⟨hk.1.2, hk.2⟩⟩)⟩, ⟨by (try simp only [hl7_1]); (try simp only [hl12_1]); (with_reducible repeat (first | apply Kd.R_alloc | apply Kd.R_drewN | apply Kd.R_drew)); exact HO_12.out⟩, ⟨bl HB⟩⟩
     rw [if_pos c65] at H
     have c65b0 : decide ((IntKind.u64.wrap ((IntKind.u64.wrap (x16_2 * 1000000000)) + (rd x7_1 (ji62)))) < (IntKind.u64.wrap (x15_2 * (rd y279 (ji59))))) = true := decide_eq_true c65
     clear c65
     obtain ⟨ji66, hji66⟩ : ∃ j_ : Int, (wrap64 ((t255.length : Int) - 1)) = j_ := ⟨_, rfl⟩
     replace H : (if 0 ≤ (ji66) then (if (ji66) < (y279.length : Int) then (if (IntKind.u64.wrap (x16_2 + (rd y279 (ji66)))) ≥ 1000000000 then ((o_take.f k2 x7_1 y279 x13_1 (IntKind.u64.wrap (x15_2 - 1))).bind fun bt305 => (if bt305.1 = true then (if 0 ≤ x13_1 then (if x13_1 < (x12_1.length : Int) then (o_divide.l0 k2 y279 bt305.2 (IntKind.u64.wrap (Int.tdiv (1000000000 : Int) (IntKind.u64.wrap ((rd t255 (ji23)) + 1)))) (t255.length : Int) (x12_1.set (x13_1 : Int).toNat (IntKind.u64.wrap (x15_2 - 1))) (wrap64 (x13_1 - 1))) else (none)) else (none)) else (none))) else (o_divide.l1 k2 y279 x7_1 (IntKind.u64.wrap (Int.tdiv (1000000000 : Int) (IntKind.u64.wrap ((rd t255 (ji23)) + 1)))) (t255.length : Int) x12_1 x13_1 (IntKind.u64.wrap (x15_2 - 1)) (IntKind.u64.wrap (x16_2 + (rd y279 (ji66)))))) else (none)) else (none)) = some (r1, r2) := by first | (rw [hji66] at H; exact H) | (simp only [hji66] at H ⊢; exact H)
     have hji66w : (IntKind.i64.wrap ((t255.length : Int) - 1)) = ji66 := (i64_w _).trans hji66
     obtain rfl : ji23 = ji66 := hji23.symm.trans hji66
     by_cases c67 : 0 ≤ (ji23)
     case neg =>
      rw [if_neg c67] at H
      exact absurd H (by simp)
     rw [if_pos c67] at H
     have c67b0 := decide_eq_true c67
     clear c67
     by_cases c68 : (ji23) < (y279.length : Int)
     case neg =>
      rw [if_neg c68] at H
      exact absurd H (by simp)
     rw [if_pos c68] at H
     have c68b0 := decide_eq_true c68
     clear c68
     by_cases c69 : (IntKind.u64.wrap (x16_2 + (rd y279 (ji23)))) ≥ 1000000000
     case neg =>
      rw [if_neg c69] at H
      have c69b0 : decide (1000000000 ≤ (IntKind.u64.wrap (x16_2 + (rd y279 (ji23))))) = false := decide_eq_false c69
      clear c69
      have H' := Az H
      clear H
      have p302 : 0 ≤ ((ji59) : Int) := ode
      have q302 : (ji59) < (y279.length : Int) := ode
      obtain ⟨ad302, e302, hx302_0⟩ := Kd.at_int (Kd.R_reads' HO_6.out).2.2 (ji59) p302 q302
      obtain rfl : ad300 = ad302 := (by injection e302)
      replace p302 := eq_true p302
      replace q302 := eq_true q302
      have p303 : 0 ≤ ((ji62) : Int) := ode
      have q303 : (ji62) < (x7_1.length : Int) := ode
      obtain ⟨ad303, e303, hx303_0⟩ := Kd.at_int (Kd.R_reads' HO_7.out).2.2 (ji62) p303 q303
      obtain rfl : ad298 = ad303 := (by injection e303)
      replace p303 := eq_true p303
      replace q303 := eq_true q303
      have p304 : 0 ≤ ((ji23) : Int) := ode
      have q304 : (ji23) < (y279.length : Int) := ode
      obtain ⟨ad304, e304, hx304_0⟩ := Kd.at_int (Kd.R_reads' HO_6.out).2.2 (ji23) p304 q304
      obtain rfl : ad300 = ad304 := (by injection e304)
      replace p304 := eq_true p304
      replace q304 := eq_true q304
      go_wp2
      repeat (go_quiet (fail); try go_wp2)
      go_roundg k2
      case measure => have := HK1.out; have := HK2.out; omega
      case rel => exact ⟨(IntKind.u64.wrap (x15_2 - 1)), (IntKind.u64.wrap (x16_2 + (rd y279 (ji23)))), rs, (by first | rfl | (simp; done) | (simp only [← hji66] <;> (first | rfl | simp)) | (simp [*]; done)), H', ⟨by have := HK1.out; have := HK2.out; omega⟩, ⟨by (try simp only [hl7_1]); (try simp only [hl12_1]); (with_reducible repeat (first | apply Kd.R_alloc | apply Kd.R_drewN | apply Kd.R_drew)); exact HO_6.out⟩, ⟨by (try simp only [hl7_1]); (try simp only [hl12_1]); (with_reducible repeat (first | apply Kd.R_alloc | apply Kd.R_drewN | apply Kd.R_drew)); exact HO_7.out⟩, ⟨by (try simp only [hl7_1]); (try simp only [hl12_1]); (with_reducible repeat (first | apply Kd.R_alloc | apply Kd.R_drewN | apply Kd.R_drew)); exact HO_12.out⟩, ⟨bl HB⟩⟩
     rw [if_pos c69] at H
     have c69b0 : decide (1000000000 ≤ (IntKind.u64.wrap (x16_2 + (rd y279 (ji23))))) = true := decide_eq_true c69
     clear c69
     obtain ⟨⟨t305, t306⟩, A70, H⟩ := bd H
     (try dsimp only at H)
     by_cases c71 : t305 = true
     case neg =>
      replace c71 := Bool.eq_false_iff.mpr c71
      subst c71
      rw [if_neg Bool.false_ne_true] at H
      exact absurd H (by simp)
     subst c71
     rw [if_pos rfl] at H
     by_cases c72 : 0 ≤ x13_1
     case neg =>
      rw [if_neg c72] at H
      exact absurd H (by simp)
     rw [if_pos c72] at H
     have c72b0 := decide_eq_true c72
     clear c72
     by_cases c73 : x13_1 < (x12_1.length : Int)
     case neg =>
      rw [if_neg c73] at H
      exact absurd H (by simp)
     rw [if_pos c73] at H
     have c73b0 := decide_eq_true c73
     clear c73
     obtain ⟨y307, hy307⟩ : ∃ y_ : List Int, y_ = (x12_1.set (x13_1 : Int).toNat (IntKind.u64.wrap (x15_2 - 1))) := ⟨_, rfl⟩
     replace H : (o_divide.l0 k2 y279 t306 (IntKind.u64.wrap (Int.tdiv (1000000000 : Int) (IntKind.u64.wrap ((rd t255 (ji23)) + 1)))) (t255.length : Int) y307 (wrap64 (x13_1 - 1))) = some (r1, r2) := by rw [hy307]; exact H
     have Ny307 := Az hy307
     clear hy307
     have H' := Az H
     clear H
     have p302 : 0 ≤ ((ji59) : Int) := ode
     have q302 : (ji59) < (y279.length : Int) := ode
     obtain ⟨ad302, e302, hx302_0⟩ := Kd.at_int (Kd.R_reads' HO_6.out).2.2 (ji59) p302 q302
     obtain rfl : ad300 = ad302 := (by injection e302)
     replace p302 := eq_true p302
     replace q302 := eq_true q302
     have p303 : 0 ≤ ((ji62) : Int) := ode
     have q303 : (ji62) < (x7_1.length : Int) := ode
     obtain ⟨ad303, e303, hx303_0⟩ := Kd.at_int (Kd.R_reads' HO_7.out).2.2 (ji62) p303 q303
     obtain rfl : ad298 = ad303 := (by injection e303)
     replace p303 := eq_true p303
     replace q303 := eq_true q303
     have p304 : 0 ≤ ((ji23) : Int) := ode
     have q304 : (ji23) < (y279.length : Int) := ode
     obtain ⟨ad304, e304, hx304_0⟩ := Kd.at_int (Kd.R_reads' HO_6.out).2.2 (ji23) p304 q304
     obtain rfl : ad300 = ad304 := (by injection e304)
     replace p304 := eq_true p304
     replace q304 := eq_true q304
     go_wp2_with (first | (go_at_call 149; (with_reducible refine (o_take.calls k2 (fun k_ => some k_ = (.slice (some ad298) x7_1.length co42 : Value).ownBlock) (.slice (some ad298) x7_1.length co42) x7_1 _ _ y279 x13_1 (IntKind.u64.wrap (x15_2 - 1)) true t306 w _ ?side1 ?side2 ?side3 (Kd.R_reads' HO_6.out).2.1 A70.out).mono ?_); (case side1 => repeat (first | (with_reducible first | exact HB.out | apply below_alloc | apply pw_below_drewN | apply below_drew1) | exact HB.out)); (case side2 => exact Kd.R_tight rfl HO_7.out); (case side3 => exact Kd.C_kept_own (HO_6.out) (fun k_ hk_ hs_ => (hk_.2.1) hs_)); rintro e w75 ⟨rfl, hy0, hb, hkp⟩; replace HO_6 := Az (Kd.R_mono (ok' := fun k_ => (w.heap.size ≤ k_) ∧ some k_ ≠ (.slice (some ad298) x7_1.length co42 : Value).ownBlock ∧ some k_ ≠ (.slice Ao45 x12_1.length co45 : Value).ownBlock) (Kd.R_keptB (HO_6.out) hkp (fun k_ hk_ hs_ => (hk_.2.1) hs_)) (fun k_ hk_ => ⟨hk_.1.1, hk_.1.2.1, hk_.1.2.2⟩)); replace HO_7 := Az (Kd.R_reok rfl hy0 (fun k_ e_ => HO_7.out.1 k_ e_)); replace HO_12 := Az (Kd.R_mono (ok' := fun k_ => (w.heap.size ≤ k_) ∧ some k_ ≠ (.slice (some ad300) y279.length co40 : Value).ownBlock ∧ some k_ ≠ (.slice (some ad298) x7_1.length co42 : Value).ownBlock) (Kd.R_keptB (HO_12.out) hkp (fun k_ hk_ hs_ => (hk_.2.2) hs_)) (fun k_ hk_ => ⟨hk_.1.1, hk_.1.2.1, hk_.1.2.2⟩)); replace HB := Az (hb); have p74 : 0 ≤ (x13_1 : Int) := ode; have q74 : (x13_1 : Int) < ((x12_1.length : Int) : Int) := ode; obtain ⟨go74, co74, eo74, gb74, gl74, cl74, HG74⟩ := Kd.R_form HO_12.out (by omega); (first | cases eo74 | (injection eo74 with ea_ en_ ec_; (first | subst ea_ | (injection ea_ with ea_; subst ea_)); subst ec_; clear en_)); have GB74 := Az gb74; have GG74 := Az HG74; clear gb74 gl74 HG74; obtain ⟨hx74_0, hf74_0⟩ := Kd.R_celln 0 HO_12.out (x13_1 : Int) p74 q74; replace p74 := eq_true p74; replace q74 := eq_true q74; obtain ⟨hy76_, hz76_⟩ := Kd.R_celln 0 HO_12.out (x13_1 : Int) (ode) (ode); have HP76 := Kd.R_putg HO_12.out (x13_1 : Int) (IntKind.u64.wrap (x15_2 - 1))))
     repeat (go_quiet (first | ((with_reducible refine gate_store (t := 25) (p := 151) rfl ?_); (try (rw [drewN_self w75]; generalize hq_ : World.drewN w75 _ = w75; have n0_ := Az (Kd.R_at hq_ HO_6.out); have n1_ := Az (Kd.R_at hq_ HO_7.out); have n2_ := Az (Kd.R_at hq_ HO_12.out); have n3_ := Az (below_at hq_ HB.out); clear hq_ HO_6 HO_7 HO_12 HB; have HO_6 := n0_; have HO_7 := n1_; have HO_12 := n2_; have HB := n3_; clear n0_ n1_ n2_ n3_; (try (obtain ⟨hy76_, hz76_⟩ := Kd.R_celln 0 HO_12.out (x13_1 : Int) (ode) (ode))); (try (have HP76 := Kd.R_putg HO_12.out (x13_1 : Int) (IntKind.u64.wrap (x15_2 - 1)))))); refine store_event (t := 25) (p := 151) (v := ?vo_w77) (w1 := (w75.setCell ⟨go74, (x13_1 : Int).toNat, none⟩ (.int .u64 (IntKind.u64.wrap (x15_2 - 1))))) ?hg ?ho ?hn ?hr ?_; (case ho => rfl); (case hg => rfl); (case hn => rfl); (case hr => first | (go_simp; done) | (go_simp; rfl)); intro w77 hw; have hg : w75.grownBy w77 (some go74) := (by rw [hw]; exact HP76.2); have hp_ : Kd.R (Kd.int .u64) 25 w77 w.heap.size (fun k_ => (w.heap.size ≤ k_) ∧ some k_ ≠ (.slice (some ad300) y279.length co40 : Value).ownBlock ∧ some k_ ≠ (.slice (some ad298) x7_1.length co42 : Value).ownBlock) (.slice (some ⟨go74, 0, none⟩) x12_1.length co45) y307 := (by rw [hw, Ny307.out]; exact HP76.1); clear HP76; replace HO_6 := Az (Kd.R_after (v := (.slice (some ⟨go74, 0, none⟩) x12_1.length co45)) (v1 := (.slice (some ⟨go74, 0, none⟩) x12_1.length co45)) (ok := (fun k_ => (w.heap.size ≤ k_) ∧ some k_ ≠ (.slice (some ad298) x7_1.length co42 : Value).ownBlock)) (rt (Kd.R_mono HO_6.out (fun _ hk => ⟨⟨hk.1, hk.2.1⟩, hk.2.2⟩))) hg (.inl rfl)); replace HO_7 := Az (Kd.R_after (v := (.slice (some ⟨go74, 0, none⟩) x12_1.length co45)) (v1 := (.slice (some ⟨go74, 0, none⟩) x12_1.length co45)) (ok := (fun k_ => (w.heap.size ≤ k_) ∧ some k_ ≠ (.slice (some ad300) y279.length co40 : Value).ownBlock)) (rt (Kd.R_mono HO_7.out (fun _ hk => ⟨⟨hk.1, hk.2.1⟩, hk.2.2⟩))) hg (.inl rfl)); replace HO_12 := Az (hp_); replace HB := Az ((by rw [hw]; exact below_set (HB.out) GB74.out : Below w.heap.size w w77)); clear hg hw hp_)); try go_wp2_with (first | (go_at_call 149; (with_reducible refine (o_take.calls k2 (fun k_ => some k_ = (.slice (some ad298) x7_1.length co42 : Value).ownBlock) (.slice (some ad298) x7_1.length co42) x7_1 _ _ y279 x13_1 (IntKind.u64.wrap (x15_2 - 1)) true t306 w _ ?side1 ?side2 ?side3 (Kd.R_reads' HO_6.out).2.1 A70.out).mono ?_); (case side1 => repeat (first | (with_reducible first | exact HB.out | apply below_alloc | apply pw_below_drewN | apply below_drew1) | exact HB.out)); (case side2 => exact Kd.R_tight rfl HO_7.out); (case side3 => exact Kd.C_kept_own (HO_6.out) (fun k_ hk_ hs_ => (hk_.2.1) hs_)); rintro e w75 ⟨rfl, hy0, hb, hkp⟩; replace HO_6 := Az (Kd.R_mono (ok' := fun k_ => (w.heap.size ≤ k_) ∧ some k_ ≠ (.slice (some ad298) x7_1.length co42 : Value).ownBlock ∧ some k_ ≠ (.slice Ao45 x12_1.length co45 : Value).ownBlock) (Kd.R_keptB (HO_6.out) hkp (fun k_ hk_ hs_ => (hk_.2.1) hs_)) (fun k_ hk_ => ⟨hk_.1.1, hk_.1.2.1, hk_.1.2.2⟩)); replace HO_7 := Az (Kd.R_reok rfl hy0 (fun k_ e_ => HO_7.out.1 k_ e_)); replace HO_12 := Az (Kd.R_mono (ok' := fun k_ => (w.heap.size ≤ k_) ∧ some k_ ≠ (.slice (some ad300) y279.length co40 : Value).ownBlock ∧ some k_ ≠ (.slice (some ad298) x7_1.length co42 : Value).ownBlock) (Kd.R_keptB (HO_12.out) hkp (fun k_ hk_ hs_ => (hk_.2.2) hs_)) (fun k_ hk_ => ⟨hk_.1.1, hk_.1.2.1, hk_.1.2.2⟩)); replace HB := Az (hb); have p74 : 0 ≤ (x13_1 : Int) := ode; have q74 : (x13_1 : Int) < ((x12_1.length : Int) : Int) := ode; obtain ⟨go74, co74, eo74, gb74, gl74, cl74, HG74⟩ := Kd.R_form HO_12.out (by omega); (first | cases eo74 | (injection eo74 with ea_ en_ ec_; (first | subst ea_ | (injection ea_ with ea_; subst ea_)); subst ec_; clear en_)); have GB74 := Az gb74; have GG74 := Az HG74; clear gb74 gl74 HG74; obtain ⟨hx74_0, hf74_0⟩ := Kd.R_celln 0 HO_12.out (x13_1 : Int) p74 q74; replace p74 := eq_true p74; replace q74 := eq_true q74; obtain ⟨hy76_, hz76_⟩ := Kd.R_celln 0 HO_12.out (x13_1 : Int) (ode) (ode); have HP76 := Kd.R_putg HO_12.out (x13_1 : Int) (IntKind.u64.wrap (x15_2 - 1))) | ((with_reducible refine gate_store (t := 25) (p := 151) rfl ?_); (try (rw [drewN_self w75]; generalize hq_ : World.drewN w75 _ = w75; have n0_ := Az (Kd.R_at hq_ HO_6.out); have n1_ := Az (Kd.R_at hq_ HO_7.out); have n2_ := Az (Kd.R_at hq_ HO_12.out); have n3_ := Az (below_at hq_ HB.out); clear hq_ HO_6 HO_7 HO_12 HB; have HO_6 := n0_; have HO_7 := n1_; have HO_12 := n2_; have HB := n3_; clear n0_ n1_ n2_ n3_; (try (obtain ⟨hy76_, hz76_⟩ := Kd.R_celln 0 HO_12.out (x13_1 : Int) (ode) (ode))); (try (have HP76 := Kd.R_putg HO_12.out (x13_1 : Int) (IntKind.u64.wrap (x15_2 - 1)))))); refine store_event (t := 25) (p := 151) (v := ?vo_w77) (w1 := (w75.setCell ⟨go74, (x13_1 : Int).toNat, none⟩ (.int .u64 (IntKind.u64.wrap (x15_2 - 1))))) ?hg ?ho ?hn ?hr ?_; (case ho => rfl); (case hg => rfl); (case hn => rfl); (case hr => first | (go_simp; done) | (go_simp; rfl)); intro w77 hw; have hg : w75.grownBy w77 (some go74) := (by rw [hw]; exact HP76.2); have hp_ : Kd.R (Kd.int .u64) 25 w77 w.heap.size (fun k_ => (w.heap.size ≤ k_) ∧ some k_ ≠ (.slice (some ad300) y279.length co40 : Value).ownBlock ∧ some k_ ≠ (.slice (some ad298) x7_1.length co42 : Value).ownBlock) (.slice (some ⟨go74, 0, none⟩) x12_1.length co45) y307 := (by rw [hw, Ny307.out]; exact HP76.1); clear HP76; replace HO_6 := Az (Kd.R_after (v := (.slice (some ⟨go74, 0, none⟩) x12_1.length co45)) (v1 := (.slice (some ⟨go74, 0, none⟩) x12_1.length co45)) (ok := (fun k_ => (w.heap.size ≤ k_) ∧ some k_ ≠ (.slice (some ad298) x7_1.length co42 : Value).ownBlock)) (rt (Kd.R_mono HO_6.out (fun _ hk => ⟨⟨hk.1, hk.2.1⟩, hk.2.2⟩))) hg (.inl rfl)); replace HO_7 := Az (Kd.R_after (v := (.slice (some ⟨go74, 0, none⟩) x12_1.length co45)) (v1 := (.slice (some ⟨go74, 0, none⟩) x12_1.length co45)) (ok := (fun k_ => (w.heap.size ≤ k_) ∧ some k_ ≠ (.slice (some ad300) y279.length co40 : Value).ownBlock)) (rt (Kd.R_mono HO_7.out (fun _ hk => ⟨⟨hk.1, hk.2.1⟩, hk.2.2⟩))) hg (.inl rfl)); replace HO_12 := Az (hp_); replace HB := Az ((by rw [hw]; exact below_set (HB.out) GB74.out : Below w.heap.size w w77)); clear hg hw hp_)))
     (try simp only [← hl7_1, ← hl12_1])
     go_roundg k2
     case measure => have := HK1.out; have := HK2.out; omega
     case rel => exact ⟨(t306), (y307), (wrap64 (x13_1 - 1)), rs, H', ⟨by have := HK1.out; have := HK2.out; omega⟩, ⟨by (try simp only [hl7_1]); (try simp only [hl12_1]); (with_reducible repeat (first | apply Kd.R_alloc | apply Kd.R_drewN | apply Kd.R_drew)); exact Kd.R_mono HO_6.out (fun _ hk => ⟨hk.1.1, ⟨hk.1.2, hk.2⟩⟩)⟩, ⟨by (try simp only [hl7_1]); (try simp only [hl12_1]); (with_reducible repeat (first | apply Kd.R_alloc | apply Kd.R_drewN | apply Kd.R_drew)); exact Kd.R_mono HO_7.out (fun _ hk => ⟨hk.1.1, ⟨hk.1.2, hk.2⟩⟩)⟩, ⟨by (try simp only [hl7_1]); (try simp only [hl12_1]); (with_reducible repeat (first | apply Kd.R_alloc | apply Kd.R_drewN | apply Kd.R_drew)); exact HO_12.out⟩, ⟨bl HB⟩⟩
end Go.Proofs.YtkenmmfplnheaaaGreatDoor.P
