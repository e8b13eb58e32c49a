/- The plain laws of the functions' forms. -/
import Derived.Lib.ItoaNum
import Derived.Laws.BitsLemmas
import Derived.Test.YtkenmmfplnheaaaGreatDoorWalk4
namespace Go.Proofs.YtkenmmfplnheaaaGreatDoor.P
set_option linter.unusedVariables false
open Go.RowKit Go.Proofs.YtkenmmfplnheaaaGreatDoorW.PrintWords Go.Proofs.YtkenmmfplnheaaaGreatDoorW.PrintLast Go.Proofs.YtkenmmfplnheaaaGreatDoorW.PrintMore Go.Proofs.YtkenmmfplnheaaaGreatDoor.Giv
theorem w64m (n : Int) : IntKind.u64.wrap n = n % 18446744073709551616 := by simp [IntKind.wrap, IntKind.bits, IntKind.signed]
theorem w64 {n : Int} (h0 : 0 ≤ n) (h1 : n < 18446744073709551616) : IntKind.u64.wrap n = n := by rw [w64m]; omega
theorem w64i {n : Int} (h0 : -9223372036854775808 ≤ n) (h1 : n < 9223372036854775808) : wrap64 n = n := by unfold wrap64; omega
theorem and32 {x : Int} (h0 : 0 ≤ x) (h1 : x < 18446744073709551616) : Go.bits .and .u64 x 4294967295 = x % 4294967296 :=
 bits_mask .u64 64 (by decide) (fun n a b => w64 a (by omega)) 32 (by decide) x h0 (by omega)
theorem Ev.of_eq {α : Type} {g : Nat → Option α} {r : α} (h : ∀ k, g k = some r) : Ev g r := ⟨0, fun k _ => h k⟩
theorem bnd32 {a b : Int} (ha : 0 ≤ a) (ha' : a < 4294967296) (hb : 0 ≤ b) (hb' : b < 4294967296) : 0 ≤ a * b ∧ a * b ≤ 18446744065119617025 := by
 refine ⟨Int.mul_nonneg ha hb, ?_⟩
 have h1 : a * b ≤ 4294967295 * b := Int.mul_le_mul_of_nonneg_right (by omega) hb
 omega
theorem mul64_eq {x y : Int} (hx : 0 ≤ x) (hx' : x < 18446744073709551616) (hy : 0 ≤ y) (hy' : y < 18446744073709551616) :
  bits_Mul64.f x y = some (x * y / 18446744073709551616, x * y % 18446744073709551616) := by
 unfold bits_Mul64.f
 rw [and32 hx hx', and32 hy hy']
 have ex : x = x / 4294967296 * 4294967296 + x % 4294967296 := by omega
 have ey : y = y / 4294967296 * 4294967296 + y % 4294967296 := by omega
 have e : x * y = (x / 4294967296) * (y / 4294967296) * 18446744073709551616 + ((x / 4294967296) * (y % 4294967296) + (x % 4294967296) * (y / 4294967296)) * 4294967296 + (x % 4294967296) * (y % 4294967296) := by
  generalize x / 4294967296 = x1 at *
  generalize x % 4294967296 = x0 at *
  generalize y / 4294967296 = y1 at *
  generalize y % 4294967296 = y0 at *
  rw [ex, ey]; grind
 obtain ⟨a1, a2⟩ := bnd32 (a := x / 4294967296) (b := y / 4294967296) (by omega) (by omega) (by omega) (by omega)
 obtain ⟨b1, b2⟩ := bnd32 (a := x / 4294967296) (b := y % 4294967296) (by omega) (by omega) (by omega) (by omega)
 obtain ⟨c1, c2⟩ := bnd32 (a := x % 4294967296) (b := y / 4294967296) (by omega) (by omega) (by omega) (by omega)
 obtain ⟨d1, d2⟩ := bnd32 (a := x % 4294967296) (b := y % 4294967296) (by omega) (by omega) (by omega) (by omega)
 generalize (x / 4294967296) * (y / 4294967296) = p11 at *
 generalize (x / 4294967296) * (y % 4294967296) = p10 at *
 generalize (x % 4294967296) * (y / 4294967296) = p01 at *
 generalize (x % 4294967296) * (y % 4294967296) = p00 at *
 rw [w64 (n := p11) (by omega) (by omega), w64 (n := p10) (by omega) (by omega), w64 (n := p01) (by omega) (by omega), w64 (n := p00) (by omega) (by omega)]
 rw [w64 (n := p10 + p00 / 4294967296) (by omega) (by omega), and32 (by omega) (by omega)]
 rw [w64m, w64m, w64m, w64m]
 congr 2
 ·omega
theorem lt_of_mul {a b y T : Int} (hy : 0 < y) (h1 : a * y ≤ T) (h2 : T < b * y) : a < b := by
 rcases Int.lt_or_le a b with h | h
 ·exact h
 ·have := Int.mul_le_mul_of_nonneg_right h (Int.le_of_lt hy)
  omega
theorem knuth {y y1 y0 U d q r Q : Int} (hy : y = y1 * 4294967296 + y0) (h1 : 2147483648 ≤ y1) (h1' : y1 < 4294967296) (h0 : 0 ≤ y0) (h0' : y0 < 4294967296) (hd : 0 ≤ d) (hd' : d < 4294967296)
  (hr : 0 ≤ r) (hq : q * y1 + r = U) (hQ : Q * y ≤ U * 4294967296 + d) (hQ' : U * 4294967296 + d < (Q + 1) * y) (hU : U < y) (hQ0 : 0 ≤ Q) (hQq : Q ≤ q) :
  (q ≥ 4294967296 ∨ q * y0 > 4294967296 * r + d → Q ≤ q - 1) ∧ (¬ (q ≥ 4294967296 ∨ q * y0 > 4294967296 * r + d) → q = Q) ∧ (Q ≤ q - 1 → 4294967296 ≤ r + y1 → q - 1 = Q) ∧ q ≤ 4294967297 := by
 have hy0 : 0 < y := by omega
 have e : ∀ t : Int, t * y = t * y1 * 4294967296 + t * y0 := by intro t; rw [hy, Int.mul_add, Int.mul_assoc]
 have e1 : ∀ t : Int, (t - 1) * y1 = t * y1 - y1 := by intro t; rw [Int.sub_mul, Int.one_mul]
 have e0 : ∀ t : Int, (t - 1) * y0 = t * y0 - y0 := by intro t; rw [Int.sub_mul, Int.one_mul]
 have top : q ≤ 4294967297 := by
  have : q * y1 ≤ U := by omega
  have h3 : U < 4294967298 * y1 := by omega
  have := lt_of_mul (y := y1) (by omega) this h3
  omega
 have hQB : Q < 4294967296 := lt_of_mul (T := U * 4294967296 + d) hy0 hQ (by omega)
 refine ⟨fun h => ?_, fun h => ?_, fun h hr2 => ?_, top⟩
 ·rcases h with h | h
  ·omega
  ·have := lt_of_mul (a := Q) (b := q) hy0 hQ (by rw [e]; omega)
   omega
 ·have h2 : q * y0 ≤ 4294967296 * r + d := by omega
  have := lt_of_mul (a := q) (b := Q + 1) (T := U * 4294967296 + d) hy0 (by rw [e]; omega) hQ'
  omega
 ·have h3 : (q - 1) * y0 ≤ 4294967296 * y0 := Int.mul_le_mul_of_nonneg_right (by omega) h0
  have h4 := e1 q
  have := lt_of_mul (a := q - 1) (b := Q + 1) (T := U * 4294967296 + d) hy0 (by rw [e]; omega) hQ'
  omega
theorem l0_ev {y s y1 y0 U d un0 Q : Int} {res : Int × Int} (hy : y = y1 * 4294967296 + y0) (h1 : 2147483648 ≤ y1) (h1' : y1 < 4294967296) (h0 : 0 ≤ y0) (h0' : y0 < 4294967296) (hd : 0 ≤ d) (hd' : d < 4294967296)
  (hQ : Q * y ≤ U * 4294967296 + d) (hQ' : U * 4294967296 + d < (Q + 1) * y) (hU : U < y) (hQ0 : 0 ≤ Q) (hj : Ev (fun k => bits_Div64.j2 k y s y1 y0 U d un0 Q) res) (n : Nat) :
  ∀ q r : Int, 0 ≤ r → r < 4294967296 → q * y1 + r = U → Q ≤ q → 4294967296 ≤ r + n * 2147483648 → Ev (fun k => bits_Div64.l0 k y s y1 y0 U d un0 q r) res := by
 induction n with
 | zero => intro q r a b c e f; omega
 | succ n ih =>
  intro q r hr hr' hq hQq hn
  obtain ⟨A, B, C, D⟩ := knuth hy h1 h1' h0 h0' hd hd' hr hq hQ hQ' hU hQ0 hQq
  have next : (Q ≤ q - 1) → Ev (fun k => bits_Div64.j1 k y s y1 y0 U d un0 q r true) res := by
   intro h
   refine Ev.step (fun k => by rw [bits_Div64.j1, if_pos rfl, w64 (n := r + y1) (by omega) (by omega), w64 (n := q - 1) (by omega) (by omega)]) ?_
   by_cases hb : r + y1 ≥ 4294967296
   ·refine Ev.congr (fun k => by rw [if_pos hb]) ?_
    rw [C h hb]; exact hj
   ·refine Ev.congr (fun k => by rw [if_neg hb]) ?_
    refine ih (q - 1) (r + y1) (by omega) (by omega) ?_ h (by omega)
    rw [Int.sub_mul]; omega
  by_cases hc : q ≥ 4294967296
  ·refine Ev.step (fun k => by rw [bits_Div64.l0, if_pos hc]) (next (A (.inl hc)))
  ·have hq0 := Int.mul_nonneg (show 0 ≤ q by omega) h0
   have hq1 : q * y0 ≤ 4294967295 * y0 := Int.mul_le_mul_of_nonneg_right (by omega) h0
   refine Ev.step (fun k => by rw [bits_Div64.l0, if_neg hc, w64 (n := q * y0) (by omega) (by omega), w64 (n := 4294967296 * r) (by omega) (by omega), w64 (n := 4294967296 * r + d) (by omega) (by omega)]) ?_
   by_cases hc2 : q * y0 > 4294967296 * r + d
   ·rw [decide_eq_true hc2]; exact next (A (.inr hc2))
   ·rw [decide_eq_false hc2]
    refine Ev.step (fun k => by rw [bits_Div64.j1, if_neg (by decide)]) ?_
    rw [B (by omega)]; exact hj
theorem l1_ev {y s y1 y0 U d q1 un21 Q : Int} {res : Int × Int} (hy : y = y1 * 4294967296 + y0) (h1 : 2147483648 ≤ y1) (h1' : y1 < 4294967296) (h0 : 0 ≤ y0) (h0' : y0 < 4294967296) (hd : 0 ≤ d) (hd' : d < 4294967296)
  (hQ : Q * y ≤ U * 4294967296 + d) (hQ' : U * 4294967296 + d < (Q + 1) * y) (hU : U < y) (hQ0 : 0 ≤ Q) (hs : 0 ≤ s)
  (hj : res = (IntKind.u64.wrap ((IntKind.u64.wrap (q1 * 4294967296)) + Q), shr .u64 (IntKind.u64.wrap ((IntKind.u64.wrap ((IntKind.u64.wrap (un21 * 4294967296)) + d)) - (IntKind.u64.wrap (Q * y)))) s)) (n : Nat) :
  ∀ q r : Int, 0 ≤ r → r < 4294967296 → q * y1 + r = U → Q ≤ q → 4294967296 ≤ r + n * 2147483648 → Ev (fun k => bits_Div64.l1 k y s y1 y0 d q1 r un21 q) res := by
 induction n with
 | zero => intro q r a b c e f; omega
 | succ n ih =>
  intro q r hr hr' hq hQq hn
  obtain ⟨A, B, C, D⟩ := knuth hy h1 h1' h0 h0' hd hd' hr hq hQ hQ' hU hQ0 hQq
  have next : (Q ≤ q - 1) → Ev (fun k => bits_Div64.j4 k y s y1 y0 d q1 r un21 q true) res := by
   intro h
   refine Ev.step (fun k => by rw [bits_Div64.j4, if_pos rfl, w64 (n := r + y1) (by omega) (by omega), w64 (n := q - 1) (by omega) (by omega)]) ?_
   by_cases hb : r + y1 ≥ 4294967296
   ·refine Ev.congr (fun k => by rw [if_pos hb, if_pos hs, C h hb]) ?_
    rw [hj]; exact Ev.now _
   ·refine Ev.congr (fun k => by rw [if_neg hb]) ?_
    refine ih (q - 1) (r + y1) (by omega) (by omega) ?_ h (by omega)
    rw [Int.sub_mul]; omega
  by_cases hc : q ≥ 4294967296
  ·refine Ev.step (fun k => by rw [bits_Div64.l1, if_pos hc]) (next (A (.inl hc)))
  ·have hq0 := Int.mul_nonneg (show 0 ≤ q by omega) h0
   have hq1 : q * y0 ≤ 4294967295 * y0 := Int.mul_le_mul_of_nonneg_right (by omega) h0
   refine Ev.step (fun k => by rw [bits_Div64.l1, if_neg hc, w64 (n := q * y0) (by omega) (by omega), w64 (n := 4294967296 * r) (by omega) (by omega), w64 (n := 4294967296 * r + d) (by omega) (by omega)]) ?_
   by_cases hc2 : q * y0 > 4294967296 * r + d
   ·rw [decide_eq_true hc2]; exact next (A (.inr hc2))
   ·rw [decide_eq_false hc2]
    refine Ev.step (fun k => by rw [bits_Div64.j4, if_neg (by decide), if_pos hs, B (by omega)]) ?_
    rw [hj]; exact Ev.now _
theorem quot {a y : Int} (hy : 0 < y) : (a / y) * y ≤ a ∧ a < (a / y + 1) * y ∧ a - (a / y) * y = a % y := by
 have h1 := Int.emod_nonneg a (show y ≠ 0 by omega)
 have h2 := Int.emod_lt_of_pos a hy
 have h3 := Int.mul_ediv_add_emod a y
 rw [Int.mul_comm] at h3
 rw [Int.add_mul, Int.one_mul]
 omega
theorem clz {y : Int} (h0 : 0 < y) (h1 : y < 18446744073709551616) : ∃ s : Nat, s ≤ 63 ∧ bits_LeadingZeros64.f y = some (s : Int) ∧ 9223372036854775808 ≤ y * 2 ^ s ∧ y * 2 ^ s < 18446744073709551616 := by
 obtain ⟨n, rfl⟩ := Int.eq_ofNat_of_zero_le (Int.le_of_lt h0)
 obtain ⟨a, b, c⟩ := Lib.bitLenAux_bounds 64 n (by omega) (by omega)
 have e : Lib.bitLenAux 64 n = Lib.bitLen n := rfl
 rw [e] at a b c
 have hl : Lib.bitLen n ≤ 64 := Lib.bitLen_le n 64 (by decide) (by omega)
 generalize Lib.bitLen n = L at *
 have p1 : 2 ^ (L - 1) * 2 ^ (64 - L) = 9223372036854775808 := by rw [← Nat.pow_add, show L - 1 + (64 - L) = 63 by omega]
 have p2 : 2 ^ L * 2 ^ (64 - L) = 18446744073709551616 := by rw [← Nat.pow_add, show L + (64 - L) = 64 by omega]
 have q1 : 9223372036854775808 ≤ n * 2 ^ (64 - L) := by rw [← p1]; exact Nat.mul_le_mul_right _ b
 have q2 : n * 2 ^ (64 - L) < 18446744073709551616 := by rw [← p2]; exact Nat.mul_lt_mul_of_pos_right c (Nat.two_pow_pos _)
 have c0 : (n : Int) * (2 : Int) ^ (64 - L) = ((n * 2 ^ (64 - L) : Nat) : Int) := by rw [Int.natCast_mul, Int.natCast_pow]; rfl
 refine ⟨64 - L, by omega, ?_, by rw [c0]; omega, by rw [c0]; omega⟩
 unfold bits_LeadingZeros64.f bits_Len64.f
 rw [if_pos (by omega), if_pos (by omega)]
 have e2 : Lib.bitLen ((n : Int)).toNat = L := by rw [Int.toNat_natCast]; assumption
 simp only [Option.bind_some, e2]
 rw [w64i (by omega) (by omega)]
 congr 1; omega
theorem shl64 {x : Int} {s : Nat} (hs : s ≤ 64) : shl .u64 x (s : Int) = x * 2 ^ s % 18446744073709551616 := by
 unfold shl; rw [w64m, Int.toNat_natCast, Nat.min_eq_left (show s ≤ IntKind.u64.bits from hs)]
theorem shr64 {x : Int} {s : Nat} (hs : s ≤ 64) : shr .u64 x (s : Int) = x / 2 ^ s := by
 unfold shr; rw [Int.toNat_natCast, Nat.min_eq_left (show s ≤ IntKind.u64.bits from hs)]
theorem div64_ev {hi lo y : Int} (hh : 0 ≤ hi) (hhy : hi < y) (hy' : y < 18446744073709551616) (hl : 0 ≤ lo) (hl' : lo < 18446744073709551616) :
  Ev (fun k => bits_Div64.f k hi lo y) ((hi * 18446744073709551616 + lo) / y, (hi * 18446744073709551616 + lo) % y) := by
 have hy : 0 < y := by omega
 by_cases h0 : hi = 0
 ·subst h0
  refine Ev.of_eq (fun k => ?_)
  unfold bits_Div64.f
  rw [if_neg (by omega), if_neg (by omega), if_pos rfl, Int.tdiv_eq_ediv_of_nonneg hl, Int.tmod_eq_emod_of_nonneg hl]
  have : lo / y ≤ lo := Int.ediv_le_self _ hl
  rw [w64 (Int.ediv_nonneg hl (by omega)) (by omega)]
  simp
 obtain ⟨s, hs, hz, y1, y2⟩ := clz hy hy'
 have pR : (2 : Int) ^ s * 2 ^ (64 - s) = 18446744073709551616 := by rw [← Int.pow_add, show s + (64 - s) = 64 by omega]; rfl
 have pP : (0 : Int) < 2 ^ s := Int.pow_pos (by decide)
 have pQ : (0 : Int) < 2 ^ (64 - s) := Int.pow_pos (by decide)
 have e1 : shl .u64 y (s : Int) = y * 2 ^ s := by rw [shl64 (by omega)]; omega
 have hiy : hi * 2 ^ s < y * 2 ^ s := Int.mul_lt_mul_of_pos_right hhy pP
 have hi0 : 0 ≤ hi * 2 ^ s := Int.mul_nonneg hh (Int.le_of_lt pP)
 have e2 : shl .u64 hi (s : Int) = hi * 2 ^ s := by rw [shl64 (by omega)]; omega
 have e3 : shr .u64 lo ((64 - s : Nat) : Int) = lo / 2 ^ (64 - s) := shr64 (by omega)
 have e5 : IntKind.u64.wrap (64 - (s : Int)) = ((64 - s : Nat) : Int) := by rw [w64 (by omega) (by omega)]; omega
 have lq := quot (a := lo) pQ
 have lm0 := Int.emod_nonneg lo (show (2 : Int) ^ (64 - s) ≠ 0 by omega)
 have lm1 := Int.emod_lt_of_pos lo pQ
 have ld0 : 0 ≤ lo / 2 ^ (64 - s) := Int.ediv_nonneg hl (by omega)
 have ld1 : lo / 2 ^ (64 - s) < 2 ^ s := by
  refine Int.ediv_lt_of_lt_mul pQ ?_
  rw [pR]; exact hl'
 have lP : lo * 2 ^ s = (lo / 2 ^ (64 - s)) * 18446744073709551616 + lo % 2 ^ (64 - s) * 2 ^ s := by
  rw [← pR]
  have := lq.2.2
  generalize lo / 2 ^ (64 - s) = d at *
  generalize lo % 2 ^ (64 - s) = m at *
  have : lo = d * 2 ^ (64 - s) + m := by omega
  rw [this]; grind
 have l3 : lo % 2 ^ (64 - s) * 2 ^ s ≤ (2 ^ (64 - s) - 1) * 2 ^ s := Int.mul_le_mul_of_nonneg_right (by omega) (Int.le_of_lt pP)
 have l4 : (2 ^ (64 - s) - 1) * (2 : Int) ^ s = 18446744073709551616 - 2 ^ s := by rw [Int.sub_mul, Int.one_mul, Int.mul_comm, pR]
 have l5 : 0 ≤ lo % 2 ^ (64 - s) * 2 ^ s := Int.mul_nonneg lm0 (Int.le_of_lt pP)
 have e4 : shl .u64 lo (s : Int) = lo % 2 ^ (64 - s) * 2 ^ s := by rw [shl64 (by omega)]; omega
 have e6 : Go.bits .or .u64 (hi * 2 ^ s) (lo / 2 ^ (64 - s)) = hi * 2 ^ s + lo / 2 ^ (64 - s) := by
  refine bits_join .u64 64 (by decide) (fun n a b => w64 a (by omega)) s _ _ hi0 (Int.mul_emod_left _ _) (by omega) ld0 ld1 (by omega)
 have hU : hi * 2 ^ s + lo / 2 ^ (64 - s) < y * 2 ^ s := by
  have : (hi + 1) * 2 ^ s ≤ y * 2 ^ s := Int.mul_le_mul_of_nonneg_right (by omega) (Int.le_of_lt pP)
  rw [Int.add_mul, Int.one_mul] at this
  omega
 have eN : (hi * 18446744073709551616 + lo) * 2 ^ s = (hi * 2 ^ s + lo / 2 ^ (64 - s)) * 18446744073709551616 + lo % 2 ^ (64 - s) * 2 ^ s := by
  rw [Int.add_mul, lP]; grind
 -- the names
 generalize hyn : y * 2 ^ s = Y at *
 generalize hUn : hi * 2 ^ s + lo / 2 ^ (64 - s) = U at *
 have hU0 : 0 ≤ U := by omega
 have l6 : lo % 2 ^ (64 - s) * 2 ^ s < 18446744073709551616 := by omega
 generalize hun : lo % 2 ^ (64 - s) * 2 ^ s = u10 at *
 have pl0 : 0 < Y := by omega
 have hT := quot (a := U * 4294967296 + u10 / 4294967296) pl0
 have hm0 := Int.emod_nonneg (U * 4294967296 + u10 / 4294967296) (show Y ≠ 0 by omega)
 have hm1 := Int.emod_lt_of_pos (U * 4294967296 + u10 / 4294967296) pl0
 have hQ0 : 0 ≤ (U * 4294967296 + u10 / 4294967296) / Y := Int.ediv_nonneg (by omega) (by omega)
 generalize hQ1 : (U * 4294967296 + u10 / 4294967296) / Y = Q1 at *
 generalize hV : (U * 4294967296 + u10 / 4294967296) % Y = V at *
 have hT2 := quot (a := V * 4294967296 + u10 % 4294967296) pl0
 have hm02 := Int.emod_nonneg (V * 4294967296 + u10 % 4294967296) (show Y ≠ 0 by omega)
 have hm12 := Int.emod_lt_of_pos (V * 4294967296 + u10 % 4294967296) pl0
 have hQ02 : 0 ≤ (V * 4294967296 + u10 % 4294967296) / Y := Int.ediv_nonneg (by omega) (by omega)
 generalize hQ0n : (V * 4294967296 + u10 % 4294967296) / Y = Q0 at *
 generalize hR : (V * 4294967296 + u10 % 4294967296) % Y = R at *
 have y1pos : 0 < Y / 4294967296 := by omega
 have qa := quot (a := U) y1pos
 have qb := quot (a := V) y1pos
 have ma := Int.emod_lt_of_pos U y1pos
 have mb := Int.emod_lt_of_pos V y1pos
 have ma0 := Int.emod_nonneg U (show Y / 4294967296 ≠ 0 by omega)
 have mb0 := Int.emod_nonneg V (show Y / 4294967296 ≠ 0 by omega)
 have da0 : 0 ≤ U / (Y / 4294967296) := Int.ediv_nonneg (by omega) (by omega)
 have db0 : 0 ≤ V / (Y / 4294967296) := Int.ediv_nonneg (by omega) (by omega)
 have ua0 := Int.mul_nonneg da0 (Int.le_of_lt y1pos)
 have ub0 := Int.mul_nonneg db0 (Int.le_of_lt y1pos)
 have dau : U / (Y / 4294967296) ≤ U := Int.ediv_le_self _ (by omega)
 have dbu : V / (Y / 4294967296) ≤ V := Int.ediv_le_self _ (by omega)
 -- the first guess is not too small
 have guess : ∀ A d Q : Int, 0 ≤ A → A < Y → 0 ≤ d → d < 4294967296 → Q * Y ≤ A * 4294967296 + d → 0 ≤ Q → Q ≤ A / (Y / 4294967296) := by
  intro A d Q a0 a1 d0 d1 hq hq0
  have q := quot (a := A) y1pos
  have h1 : Q * (Y / 4294967296 * 4294967296) ≤ Q * Y := Int.mul_le_mul_of_nonneg_left (by omega) hq0
  have h2 : Q * (Y / 4294967296 * 4294967296) = Q * (Y / 4294967296) * 4294967296 := by rw [Int.mul_assoc]
  have h3 : Q * (Y / 4294967296) ≤ A := by omega
  have := lt_of_mul y1pos h3 q.2.1
  omega
 unfold bits_Div64.f
 refine Ev.congr (fun k => by rw [if_neg (by omega), if_neg (by omega), if_neg h0, hz, Option.bind_some, w64 (n := (s : Int)) (by omega) (by omega), if_pos (by omega), e5, if_pos (by omega), e1, if_neg (by omega), e2, e3, e4, e6, and32 (by omega) (by omega), and32 (by omega) (by omega), Int.tdiv_eq_ediv_of_nonneg hU0, w64 (n := U / (Y / 4294967296)) (by omega) (by omega), w64 (n := U / (Y / 4294967296) * (Y / 4294967296)) (by omega) (by omega), w64 (n := U - U / (Y / 4294967296) * (Y / 4294967296)) (by omega) (by omega)]) ?_
 refine l0_ev (Q := Q1) (by omega) (by omega) (by omega) (by omega) (by omega) (by omega) (by omega) hT.1 hT.2.1 hU hQ0 ?_ 3 _ _ (by omega) (by omega) (by omega) (guess U (u10 / 4294967296) Q1 hU0 hU (by omega) (by omega) hT.1 hQ0) (by omega)
 have eV : IntKind.u64.wrap (IntKind.u64.wrap (IntKind.u64.wrap (U * 4294967296) + u10 / 4294967296) - IntKind.u64.wrap (Q1 * Y)) = V := by
  rw [w64m, w64m, w64m, w64m]; omega
 refine Ev.step (fun k => by rw [bits_Div64.j2, if_neg (by omega), eV, Int.tdiv_eq_ediv_of_nonneg (by omega), w64 (n := V / (Y / 4294967296)) (by omega) (by omega), w64 (n := V / (Y / 4294967296) * (Y / 4294967296)) (by omega) (by omega), w64 (n := V - V / (Y / 4294967296) * (Y / 4294967296)) (by omega) (by omega)]) ?_
 have hQ1B : Q1 < 4294967296 := lt_of_mul (T := U * 4294967296 + u10 / 4294967296) pl0 hT.1 (by omega)
 have hQ0B : Q0 < 4294967296 := lt_of_mul (T := V * 4294967296 + u10 % 4294967296) pl0 hT2.1 (by omega)
 refine l1_ev (Q := Q0) (U := V) (by omega) (by omega) (by omega) (by omega) (by omega) (by omega) (by omega) hT2.1 hT2.2.1 hm1 hQ02 (by omega) ?_ 3 _ _ (by omega) (by omega) (by omega) (guess V (u10 % 4294967296) Q0 hm0 hm1 (by omega) (by omega) hT2.1 hQ02) (by omega)
 have eR : IntKind.u64.wrap (IntKind.u64.wrap (IntKind.u64.wrap (V * 4294967296) + u10 % 4294967296) - IntKind.u64.wrap (Q0 * Y)) = R := by
  rw [w64m, w64m, w64m, w64m]; omega
 rw [eR, w64 (n := Q1 * 4294967296) (by omega) (by omega), w64 (n := Q1 * 4294967296 + Q0) (by omega) (by omega), shr64 (by omega)]
 -- N = (Q1 * 2^32 + Q0) * y + R / 2^s
 generalize hNn : hi * 18446744073709551616 + lo = NN at *
 have key : (NN - (Q1 * 4294967296 + Q0) * y) * 2 ^ s = R := by
  have a1 : (Q1 * 4294967296 + Q0) * y * 2 ^ s = Q1 * Y * 4294967296 + Q0 * Y := by rw [← hyn]; grind
  rw [Int.sub_mul, eN, a1]; omega
 have r0 : 0 ≤ NN - (Q1 * 4294967296 + Q0) * y := by
  rcases Int.lt_or_le (NN - (Q1 * 4294967296 + Q0) * y) 0 with h | h
  ·have := Int.mul_neg_of_neg_of_pos h pP; omega
  ·exact h
 have r1 : NN - (Q1 * 4294967296 + Q0) * y < y := by
  refine lt_of_mul (T := R) pP (Int.le_of_eq key) ?_
  rw [hyn]; omega
 have eRs : R / 2 ^ s = NN - (Q1 * 4294967296 + Q0) * y := by rw [← key]; exact Int.mul_ediv_cancel _ (by omega)
 rw [eRs]
 have u := (Int.ediv_emod_unique (a := NN) (r := NN - (Q1 * 4294967296 + Q0) * y) (q := Q1 * 4294967296 + Q0) hy).2 ⟨by rw [Int.mul_comm y]; omega, r0, r1⟩
 rw [u.1, u.2]
theorem rem64_ev {hi lo y : Int} (hh : 0 ≤ hi) (hy : 0 < y) (hy' : y < 18446744073709551616) (hl : 0 ≤ lo) (hl' : lo < 18446744073709551616) :
  Ev (fun k => bits_Rem64.f k hi lo y) ((hi * 18446744073709551616 + lo) % y) := by
 unfold bits_Rem64.f
 have h1 := Int.emod_lt_of_pos hi hy
 have h2 := Int.emod_nonneg hi (show y ≠ 0 by omega)
 refine Ev.congr (fun k => by rw [if_neg (by omega), Int.tmod_eq_emod_of_nonneg hh]) ?_
 have := div64_ev h2 h1 hy' hl hl'
 have e : ((hi % y) * 18446744073709551616 + lo) % y = (hi * 18446744073709551616 + lo) % y := by
  rw [Int.add_emod, Int.mul_emod, Int.emod_emod_of_dvd _ (Int.dvd_refl y), ← Int.mul_emod, ← Int.add_emod]
 rw [← e]
 exact Ev.bind this (Ev.now _)
def VB (B : Int) : List Int → Int
 | [] => 0
 | x :: r => x + B * VB B r
def Lm (B : Int) (l : List Int) : Prop := ∀ x ∈ l, 0 ≤ x ∧ x < B
theorem rd_nat (l : List Int) (i : Nat) : rd l (i : Int) = l.getD i 0 := by unfold rd; rw [Int.toNat_natCast]
theorem rd_get {l : List Int} {i : Nat} (h : i < l.length) : rd l (i : Int) = l[i] := by rw [rd_nat, List.getD_eq_getElem?_getD, List.getElem?_eq_getElem h]; rfl
theorem rd_out {l : List Int} {i : Nat} (h : l.length ≤ i) : rd l (i : Int) = 0 := by rw [rd_nat, List.getD_eq_getElem?_getD, List.getElem?_eq_none h]; rfl
theorem Lm.rd {B : Int} {l : List Int} (h : Lm B l) {i : Nat} (hi : i < l.length) : 0 ≤ rd l (i : Int) ∧ rd l (i : Int) < B := by rw [rd_get hi]; exact h _ (List.getElem_mem hi)
theorem Lm.set {B : Int} {l : List Int} (h : Lm B l) {i : Nat} {x : Int} (hx : 0 ≤ x ∧ x < B) : Lm B (l.set i x) := by
 intro y hy
 rcases List.mem_or_eq_of_mem_set hy with h1 | h1
 ·exact h y h1
 ·rw [h1]; exact hx
theorem Lm.take {B : Int} {l : List Int} (h : Lm B l) (n : Nat) : Lm B (l.take n) := fun x hx => h x (List.mem_of_mem_take hx)
theorem Lm.zeros {B : Int} (hB : 0 < B) (n : Nat) : Lm B (List.replicate n 0) := fun x hx => by rw [(List.mem_replicate.1 hx).2]; omega
theorem Lm.nil {B : Int} : Lm B [] := fun x hx => absurd hx (by simp)
theorem Lm.one {B x : Int} (h : 0 ≤ x ∧ x < B) : Lm B [x] := fun y hy => by rw [List.mem_singleton.1 hy]; exact h
theorem rd_set_ne {l : List Int} {i j : Nat} (h : i ≠ j) (x : Int) : rd (l.set i x) (j : Int) = rd l (j : Int) := by rw [rd_nat, rd_nat, List.getD_eq_getElem?_getD, List.getD_eq_getElem?_getD, List.getElem?_set_ne h]
theorem VB_append (B : Int) (a b : List Int) : VB B (a ++ b) = VB B a + B ^ a.length * VB B b := by
 induction a with
 | nil => simp [VB]
 | cons x r ih =>
  simp only [List.cons_append, VB, List.length_cons]
  rw [ih, Int.pow_succ]; grind
theorem VB_snoc (B : Int) (a : List Int) (x : Int) : VB B (a ++ [x]) = VB B a + x * B ^ a.length := by
 rw [VB_append]; simp [VB]; rw [Int.mul_comm]
theorem VB_zeros (B : Int) (n : Nat) : VB B (List.replicate n 0) = 0 := by
 induction n with
 | zero => rfl
 | succ n ih => rw [List.replicate_succ]; simp only [VB]; rw [ih]; simp
theorem VB_take_succ (B : Int) {l : List Int} {i : Nat} (h : i < l.length) : VB B (l.take (i + 1)) = VB B (l.take i) + rd l (i : Int) * B ^ i := by
 rw [List.take_succ_eq_append_getElem h, VB_snoc, rd_get h, List.length_take, Nat.min_eq_left (Nat.le_of_lt h)]
theorem VB_set (B : Int) : ∀ {l : List Int} {i : Nat} (x : Int), i < l.length → VB B (l.set i x) = VB B l + (x - rd l (i : Int)) * B ^ i
 | [], i, x, h => by simp at h
 | y :: r, 0, x, h => by
  simp only [List.set_cons_zero, VB]
  rw [rd_get (by simp)]; simp; omega
 | y :: r, i + 1, x, h => by
  have h' : i < r.length := by simpa using h
  simp only [List.set_cons_succ, VB]
  rw [VB_set B x h', rd_get h', rd_get h]
  simp only [List.getElem_cons_succ]
  rw [Int.pow_succ]; grind
theorem VB_nonneg {B : Int} (hB : 0 < B) : ∀ {l : List Int}, Lm B l → 0 ≤ VB B l
 | [], _ => Int.le_refl _
 | x :: r, h => by
  simp only [VB]
  have := Int.mul_nonneg (Int.le_of_lt hB) (VB_nonneg hB (fun y hy => h y (List.mem_cons_of_mem _ hy)))
  have := (h x List.mem_cons_self).1
  omega
theorem VB_lt {B : Int} (hB : 0 < B) : ∀ {l : List Int}, Lm B l → VB B l < B ^ l.length
 | [], _ => by simp [VB]
 | x :: r, h => by
  simp only [VB, List.length_cons]
  have ih := VB_lt hB (l := r) (fun y hy => h y (List.mem_cons_of_mem _ hy))
  have h1 : B * (VB B r + 1) ≤ B * B ^ r.length := Int.mul_le_mul_of_nonneg_left (by omega) (Int.le_of_lt hB)
  rw [Int.mul_add] at h1
  have := (h x List.mem_cons_self).2
  rw [Int.pow_succ, Int.mul_comm (B ^ r.length)]
  omega
def Nz (l : List Int) : Prop := l ≠ [] → rd l ((l.length - 1 : Nat) : Int) ≠ 0
theorem VB_ge {B : Int} (hB : 0 < B) {l : List Int} (h : Lm B l) (hz : Nz l) (hne : l ≠ []) : B ^ (l.length - 1) ≤ VB B l := by
 have hl : 0 < l.length := List.length_pos_iff.2 hne
 have e := VB_take_succ B (l := l) (i := l.length - 1) (by omega)
 rw [show l.length - 1 + 1 = l.length by omega, List.take_length] at e
 have h1 := VB_nonneg hB (h.take (l.length - 1))
 have h2 := h.rd (i := l.length - 1) (by omega)
 have h3 := hz hne
 have h4 : 1 * B ^ (l.length - 1) ≤ rd l ((l.length - 1 : Nat) : Int) * B ^ (l.length - 1) := Int.mul_le_mul_of_nonneg_right (by omega) (Int.le_of_lt (Int.pow_pos hB))
 omega
theorem VB_pos {B : Int} (hB : 0 < B) {l : List Int} (h : Lm B l) (hz : Nz l) (hne : l ≠ []) : 0 < VB B l := by
 have := VB_ge hB h hz hne
 have : 0 < B ^ (l.length - 1) := Int.pow_pos hB
 omega
theorem pow_le {B : Int} (hB : 1 < B) {m n : Nat} (h : m ≤ n) : B ^ m ≤ B ^ n := by
 obtain ⟨d, rfl⟩ := Nat.exists_eq_add_of_le h
 have hm : 0 < B ^ m := Int.pow_pos (by omega)
 have h2 : 0 < B ^ d := Int.pow_pos (by omega)
 rw [Int.pow_add]
 have : B ^ m * 1 ≤ B ^ m * B ^ d := Int.mul_le_mul_of_nonneg_left (by omega) (by omega)
 omega
theorem len_le_of_lt {B : Int} (hB : 1 < B) {l : List Int} (h : Lm B l) (hz : Nz l) {n : Nat} (hv : VB B l < B ^ n) : l.length ≤ n := by
 rcases Nat.lt_or_ge n l.length with hc | hc
 ·have hne : l ≠ [] := by intro e; rw [e] at hc; simp at hc
  have h1 := VB_ge (by omega) h hz hne
  have h2 := pow_le hB (m := n) (n := l.length - 1) (by omega)
  omega
 ·exact hc
def cmpI (x y : Int) : Int := if x < y then -1 else if x > y then 1 else 0
theorem cmpI_lt {x y : Int} (h : x < y) : cmpI x y = -1 := if_pos h
theorem cmpI_gt {x y : Int} (h : y < x) : cmpI x y = 1 := by unfold cmpI; rw [if_neg (by omega), if_pos h]
theorem cmpI_eq {x y : Int} (h : x = y) : cmpI x y = 0 := by unfold cmpI; rw [if_neg (by omega), if_neg (by omega)]
theorem cmpI_cases (x y : Int) : (x < y ∧ cmpI x y = -1) ∨ (x = y ∧ cmpI x y = 0) ∨ (y < x ∧ cmpI x y = 1) := by
 rcases Int.lt_trichotomy x y with h | h | h
 ·exact .inl ⟨h, cmpI_lt h⟩
 ·exact .inr (.inl ⟨h, cmpI_eq h⟩)
 ·exact .inr (.inr ⟨h, cmpI_gt h⟩)
theorem cmpI_swap (x y : Int) : cmpI y x = -cmpI x y := by
 rcases cmpI_cases x y with ⟨h, e⟩ | ⟨h, e⟩ | ⟨h, e⟩ <;> rw [e]
 ·exact cmpI_gt h
 ·exact cmpI_eq h.symm
 ·exact cmpI_lt h
theorem cmpI_neg (x y : Int) : cmpI (-x) (-y) = cmpI y x := by
 rcases cmpI_cases y x with ⟨h, e⟩ | ⟨h, e⟩ | ⟨h, e⟩ <;> rw [e]
 ·exact cmpI_lt (by omega)
 ·exact cmpI_eq (by omega)
 ·exact cmpI_gt (by omega)
theorem cmpI_congr {x y x' y' : Int} (h1 : x < y ↔ x' < y') (h2 : x = y ↔ x' = y') : cmpI x y = cmpI x' y' := by
 rcases cmpI_cases x y with ⟨h, e⟩ | ⟨h, e⟩ | ⟨h, e⟩ <;> rw [e]
 ·exact (cmpI_lt (h1.1 h)).symm
 ·exact (cmpI_eq (h2.1 h)).symm
 ·refine (cmpI_gt ?_).symm
  have a : ¬ x' < y' := fun k => by have := h1.2 k; omega
  have b : ¬ x' = y' := fun k => by have := h2.2 k; omega
  omega
theorem cmp_top {B : Int} {u v p x y : Int} (hu : 0 ≤ u) (hu' : u < p) (hv : 0 ≤ v) (hv' : v < p) (h : x < y) : u + x * p < v + y * p := by
 have : (x + 1) * p ≤ y * p := Int.mul_le_mul_of_nonneg_right (by omega) (by omega)
 rw [Int.add_mul, Int.one_mul] at this
 omega
abbrev E18 : Int := 1000000000000000000
theorem size_l0 {a b : List Int} (ha : Lm E18 a) (hb : Lm E18 b) : ∀ n : Nat, n ≤ a.length → n ≤ b.length → n ≤ 9223372036854775807 →
  Ev (fun k => o_size.l0 k a b ((n : Int) - 1)) (cmpI (VB E18 (a.take n)) (VB E18 (b.take n))) := by
 intro n
 induction n with
 | zero =>
  intro h1 h2 hn
  refine Ev.step (fun k => by rw [o_size.l0, if_neg (by omega)]) ?_
  simp only [List.take_zero]
  rw [cmpI_eq rfl]; exact Ev.now _
 | succ n ih =>
  intro h1 h2 hn
  have e : ((n + 1 : Nat) : Int) - 1 = (n : Int) := by omega
  rw [e, VB_take_succ E18 (by omega), VB_take_succ E18 (by omega)]
  have ra := ha.rd (i := n) (by omega); have rb := hb.rd (i := n) (by omega)
  have na := VB_nonneg (by decide) (ha.take n); have nb := VB_nonneg (by decide) (hb.take n)
  have la := VB_lt (by decide) (ha.take n); have lb := VB_lt (by decide) (hb.take n)
  rw [List.length_take, Nat.min_eq_left (by omega)] at la lb
  refine Ev.step (fun k => by rw [o_size.l0, if_pos (by omega), if_pos (by omega), if_pos (by omega), if_pos (by omega)]) ?_
  by_cases hc : rd a (n : Int) = rd b (n : Int)
  ·refine Ev.congr (fun k => by rw [if_pos hc, w64i (by omega) (by omega)]) ?_
   have := ih (by omega) (by omega) (by omega)
   rw [hc]
   rw [cmpI_congr (x' := VB E18 (a.take n)) (y' := VB E18 (b.take n)) (by omega) (by omega)]
   exact this
  ·refine Ev.congr (fun k => by rw [if_neg hc]) ?_
   by_cases hd : rd a (n : Int) < rd b (n : Int)
   ·refine Ev.congr (fun k => by rw [if_pos hd]) ?_
    rw [cmpI_lt (cmp_top (B := E18) na la nb lb hd)]; exact Ev.now _
   ·refine Ev.congr (fun k => by rw [if_neg hd]) ?_
    rw [cmpI_gt (cmp_top (B := E18) nb lb na la (by omega))]; exact Ev.now _
theorem size_ev {a b : List Int} (ha : Lm E18 a) (hb : Lm E18 b) (za : Nz a) (zb : Nz b) (hl : a.length ≤ 9223372036854775807) (hl2 : b.length ≤ 9223372036854775807) :
  Ev (fun k => o_size.f k a b) (cmpI (VB E18 a) (VB E18 b)) := by
 unfold o_size.f
 by_cases h : (a.length : Int) = (b.length : Int)
 ·refine Ev.congr (fun k => by rw [if_pos h, w64i (by omega) (by omega)]) ?_
  have := size_l0 ha hb a.length (Nat.le_refl _) (by omega) hl
  rwa [List.take_length, show a.length = b.length by omega, List.take_length, show b.length = a.length by omega] at this
 ·refine Ev.congr (fun k => by rw [if_neg h]) ?_
  have key : ∀ {a b : List Int}, Lm E18 a → Lm E18 b → Nz b → a.length < b.length → VB E18 a < VB E18 b := by
   intro a b ha hb zb h
   have h1 := VB_lt (by decide) ha
   have h2 := VB_ge (by decide) hb zb (by intro e; rw [e] at h; simp at h)
   have h3 := pow_le (B := E18) (by decide) (m := a.length) (n := b.length - 1) (by omega)
   omega
  by_cases h2 : (a.length : Int) < (b.length : Int)
  ·refine Ev.congr (fun k => by rw [if_pos h2]) ?_
   rw [cmpI_lt (key ha hb zb (by omega))]; exact Ev.now _
  ·refine Ev.congr (fun k => by rw [if_neg h2]) ?_
   rw [cmpI_gt (key hb ha za (by omega))]; exact Ev.now _
structure GoodP (neg : Bool) (l : List Int) : Prop where
 len : l.length ≤ 30
 lm : Lm E18 l
 nz : Nz l
 sg : l = [] → neg = false
def good (neg : Bool) (l : List Int) : Bool := if l.length = 0 then !neg else decide (l.length ≤ 30) && (rd l ((l.length - 1 : Nat) : Int) != 0) && l.all (fun x => decide (x < E18))
def U64 (l : List Int) : Prop := ∀ x ∈ l, 0 ≤ x ∧ x ≤ 18446744073709551615
theorem good_iff {neg : Bool} {l : List Int} (hu : U64 l) : good neg l = true ↔ GoodP neg l := by
 unfold good
 by_cases h : l.length = 0
 ·rw [if_pos h]
  have : l = [] := List.eq_nil_of_length_eq_zero h
  subst this
  constructor
  ·intro hn; exact ⟨by simp, Lm.nil, fun h => absurd rfl h, fun _ => by simpa using hn⟩
  ·intro g; simp [g.sg rfl]
 ·rw [if_neg h]
  simp only [Bool.and_eq_true, decide_eq_true_eq, bne_iff_ne, List.all_eq_true]
  constructor
  ·rintro ⟨⟨h1, h2⟩, h3⟩
   exact ⟨h1, fun x hx => ⟨(hu x hx).1, h3 x hx⟩, fun _ => h2, fun e => by rw [e] at h; simp at h⟩
  ·intro g
   exact ⟨⟨g.len, g.nz (by intro e; rw [e] at h; simp at h)⟩, fun x hx => (g.lm x hx).2⟩
theorem good_l0 (neg : Bool) (l : List Int) (hl : l.length < 9223372036854775808) : ∀ d i : Nat, i + d = l.length →
  Ev (fun k => o_Good.l0 k (l.length : Int) (i : Int) neg l) ((l.drop i).all (fun x => decide (x < E18))) := by
 intro d
 induction d with
 | zero =>
  intro i hi
  refine Ev.step (fun k => by rw [o_Good.l0, if_neg (by omega)]) ?_
  rw [List.drop_of_length_le (by omega)]
  exact Ev.now _
 | succ d ih =>
  intro i hi
  have hlt : i < l.length := by omega
  have e : l.drop i = l[i] :: l.drop (i + 1) := by rw [List.drop_eq_getElem_cons hlt]
  refine Ev.step (fun k => by rw [o_Good.l0, if_pos (by omega), if_pos (by omega), if_pos (by omega)]) ?_
  rw [e, List.all_cons]
  by_cases hc : rd l (i : Int) ≥ 1000000000000000000
  ·refine Ev.congr (fun k => by rw [if_pos hc]) ?_
   rw [rd_get hlt] at hc
   rw [decide_eq_false (show ¬ l[i] < E18 by show ¬ l[i] < 1000000000000000000; omega)]
   exact Ev.now _
  ·refine Ev.congr (fun k => by rw [if_neg hc, w64i (by omega) (by omega)]) ?_
   rw [rd_get hlt] at hc
   rw [decide_eq_true (show l[i] < E18 by show l[i] < 1000000000000000000; omega), Bool.true_and]
   have := ih (i + 1) (by omega)
   exact_mod_cast this
theorem good_ev (neg : Bool) (l : List Int) (hl : l.length < 9223372036854775808) : Ev (fun k => o_Good.f k neg l) (good neg l) := by
 unfold o_Good.f good
 by_cases h : l.length = 0
 ·refine Ev.congr (fun k => by rw [if_pos (by omega)]) ?_
  rw [if_pos h]; exact Ev.now _
 ·refine Ev.congr (fun k => by rw [if_neg (by omega)]) ?_
  rw [if_neg h]
  have loop := good_l0 neg l hl l.length 0 (by omega)
  simp only [List.drop_zero] at loop
  by_cases h2 : (l.length : Int) > 30
  ·refine Ev.congr (fun k => by rw [if_pos h2]) ?_
   refine Ev.step (fun k => by rw [o_Good.j0, if_pos rfl]) ?_
   rw [decide_eq_false (show ¬ l.length ≤ 30 by omega)]
   simp only [Bool.false_and]; exact Ev.now _
  ·have e : wrap64 ((l.length : Int) - 1) = ((l.length - 1 : Nat) : Int) := by rw [w64i (by omega) (by omega)]; omega
   refine Ev.congr (fun k => by rw [if_neg h2, e, if_pos (by omega), if_pos (by omega)]) ?_
   rw [decide_eq_true (show l.length ≤ 30 by omega), Bool.true_and]
   by_cases h3 : rd l ((l.length - 1 : Nat) : Int) = 0
   ·refine Ev.step (fun k => by rw [o_Good.j0, if_pos (by simp [h3])]) ?_
    simp [h3]; exact Ev.now _
   ·refine Ev.step (fun k => by rw [o_Good.j0, if_neg (by simp [h3])]) ?_
    rw [show (rd l ((l.length - 1 : Nat) : Int) != 0) = true by simp [h3], Bool.true_and]
    exact loop
theorem good_true {neg : Bool} {l : List Int} (h : GoodP neg l) : Ev (fun k => o_Good.f k neg l) true := by
 have := good_ev neg l (by have := h.len; omega)
 rwa [(good_iff (fun x hx => ⟨(h.lm x hx).1, by have := (h.lm x hx).2; simp only [E18] at this; omega⟩)).2 h] at this
def SV (neg : Bool) (l : List Int) : Int := if neg then -VB E18 l else VB E18 l
theorem cmp_ev {n1 n2 : Bool} {a b : List Int} (g1 : GoodP n1 a) (g2 : GoodP n2 b) : Ev (fun k => o_Cmp.f k n1 a n2 b) (cmpI (SV n1 a) (SV n2 b)) := by
 unfold o_Cmp.f
 refine Ev.bind (good_true g1) ?_
 refine Ev.congr (fun k => by rw [if_pos rfl]) ?_
 refine Ev.bind (good_true g2) ?_
 refine Ev.step (fun k => by rw [o_Cmp.j0, if_neg (by decide)]) ?_
 have p1 := VB_nonneg (by decide) g1.lm; have p2 := VB_nonneg (by decide) g2.lm
 have z1 : n1 = true → 0 < VB E18 a := fun h => VB_pos (by decide) g1.lm g1.nz (fun e => by rw [g1.sg e] at h; exact absurd h (by decide))
 have z2 : n2 = true → 0 < VB E18 b := fun h => VB_pos (by decide) g2.lm g2.nz (fun e => by rw [g2.sg e] at h; exact absurd h (by decide))
 have l1 := g1.len; have l2 := g2.len
 cases n1 <;> cases n2
 ·refine Ev.congr (fun k => by rw [if_neg (by decide), if_neg (by decide)]) ?_
  exact Ev.bind (size_ev g1.lm g2.lm g1.nz g2.nz (by omega) (by omega)) (Ev.now _)
 ·refine Ev.congr (fun k => by rw [if_pos (by decide), if_neg (by decide)]) ?_
  have := z2 rfl
  rw [cmpI_gt (show SV true b < SV false a by simp [SV]; omega)]; exact Ev.now _
 ·refine Ev.congr (fun k => by rw [if_pos (by decide), if_pos rfl]) ?_
  have := z1 rfl
  rw [cmpI_lt (show SV true a < SV false b by simp [SV]; omega)]; exact Ev.now _
 ·refine Ev.congr (fun k => by rw [if_neg (by decide), if_pos rfl]) ?_
  have := size_ev g2.lm g1.lm g2.nz g1.nz (by omega) (by omega)
  rw [← cmpI_neg] at this
  exact Ev.bind this (Ev.now _)
theorem trimz_snoc' (l : List Int) (x : Int) : trimz (l ++ [x]) = if x = 0 then trimz l else l ++ [x] := by
 by_cases h : x = 0
 ·rw [if_pos h, h, trimz_snoc0]
 ·rw [if_neg h, trimz_snoc l x h]
theorem snoc_ind {p : List Int → Prop} (h0 : p []) (h1 : ∀ l x, p l → p (l ++ [x])) (l : List Int) : p l := by
 rw [← List.reverse_reverse l]
 generalize l.reverse = r
 induction r with
 | nil => exact h0
 | cons x r ih => rw [List.reverse_cons]; exact h1 _ _ ih
theorem trimz_props (B : Int) (l : List Int) : VB B (trimz l) = VB B l ∧ Nz (trimz l) ∧ (Lm B l → Lm B (trimz l)) ∧ (trimz l).length ≤ l.length := by
 induction l using snoc_ind with
 | h0 => exact ⟨rfl, fun h => absurd rfl h, fun h => h, Nat.le_refl _⟩
 | h1 l x ih =>
  rw [trimz_snoc']
  by_cases h : x = 0
  ·rw [if_pos h]
   refine ⟨by rw [ih.1, VB_snoc, h]; simp, ih.2.1, fun hl => ih.2.2.1 (fun y hy => hl y (List.mem_append_left _ hy)), by simp; omega⟩
  ·rw [if_neg h]
   refine ⟨rfl, fun _ => ?_, fun h => h, Nat.le_refl _⟩
   rw [rd_get (by simp)]
   simp [h]
structure Can (l : List Int) (n : Int) : Prop where
 lm : Lm E18 l
 nz : Nz l
 vl : VB E18 l = n
theorem Can.len {l : List Int} {n : Int} (h : Can l n) {m : Nat} (hn : n < E18 ^ m) : l.length ≤ m := len_le_of_lt (by decide) h.lm h.nz (by rw [h.vl]; exact hn)
theorem Can.nil_iff {l : List Int} {n : Int} (h : Can l n) : l = [] ↔ n = 0 := by
 constructor
 ·intro e; rw [← h.vl, e]; rfl
 ·intro e
  rcases Classical.em (l = []) with h1 | h1
  ·exact h1
  ·have := VB_pos (by decide) h.lm h.nz h1
   rw [h.vl] at this; omega
theorem nz_tail {x : Int} {r : List Int} (h : Nz (x :: r)) : Nz r := by
 intro hr
 have hl : 0 < r.length := List.length_pos_iff.2 hr
 have := h (by simp)
 rw [rd_get (by simp)] at this
 rw [rd_get (by omega)]
 simp only [List.length_cons, Nat.add_sub_cancel] at this
 obtain ⟨m, hm⟩ : ∃ m, r.length = m + 1 := ⟨r.length - 1, by omega⟩
 simp only [hm, List.getElem_cons_succ, Nat.add_sub_cancel] at this ⊢
 exact this
theorem Can.uniq : ∀ {l l' : List Int} {n : Int}, Can l n → Can l' n → l = l'
 | [], l', n, h, h' => by
  have : n = 0 := h.nil_iff.1 rfl
  exact (h'.nil_iff.2 this).symm
 | x :: r, [], n, h, h' => by
  have : n = 0 := h'.nil_iff.1 rfl
  exact h.nil_iff.2 this
 | x :: r, y :: s, n, h, h' => by
  have e1 := h.vl; have e2 := h'.vl
  have b1 := h.lm x List.mem_cons_self; have b2 := h'.lm y List.mem_cons_self
  simp only [VB] at e1 e2
  simp only [E18] at e1 e2 b1 b2
  have ex : x = y := by omega
  have er : VB E18 r = VB E18 s := by simp only [E18]; omega
  rw [ex, Can.uniq (l := r) (l' := s) (n := VB E18 r) ⟨fun z hz => h.lm z (List.mem_cons_of_mem _ hz), nz_tail h.nz, rfl⟩ ⟨fun z hz => h'.lm z (List.mem_cons_of_mem _ hz), nz_tail h'.nz, er.symm⟩]
theorem can_exists (n : Nat) : ∃ l, Can l (n : Int) := by
 induction n using Nat.strongRecOn with
 | ind n ih =>
  by_cases h : n = 0
  ·subst h; exact ⟨[], Lm.nil, fun h => absurd rfl h, rfl⟩
  ·obtain ⟨r, hr⟩ := ih (n / 1000000000000000000) (by omega)
   refine ⟨((n % 1000000000000000000 : Nat) : Int) :: r, ?_, ?_, ?_⟩
   ·intro x hx
    rcases List.mem_cons.1 hx with rfl | hx
    ·simp only [E18]; omega
    ·exact hr.lm x hx
   ·intro _
    rw [rd_get (by simp)]
    simp only [List.length_cons, Nat.add_sub_cancel]
    rcases Nat.eq_zero_or_pos r.length with h0 | h0
    ·have e := List.eq_nil_of_length_eq_zero h0
     have v := hr.nil_iff.1 e
     simp only [h0, List.getElem_cons_zero]
     omega
    ·have := hr.nz (List.length_pos_iff.1 h0)
     rw [rd_get (by omega)] at this
     obtain ⟨m, hm⟩ : ∃ m, r.length = m + 1 := ⟨r.length - 1, by omega⟩
     simp only [hm, List.getElem_cons_succ, Nat.add_sub_cancel] at this ⊢
     exact this
   ·simp only [VB]; rw [hr.vl]; simp only [E18]; omega
noncomputable def lim (n : Int) : List Int := Classical.choose (can_exists n.toNat)
theorem can_lim {n : Int} (h : 0 ≤ n) : Can (lim n) n := by
 have : Can (lim n) (n.toNat : Int) := Classical.choose_spec (can_exists n.toNat)
 rwa [Int.toNat_of_nonneg h] at this
theorem Can.eq {l : List Int} {n : Int} (h : Can l n) : l = lim n := by
 have : 0 ≤ n := by rw [← h.vl]; exact VB_nonneg (by decide) h.lm
 exact h.uniq (can_lim this)
theorem lim_zero : lim 0 = [] := ((can_lim (by decide)).nil_iff).2 rfl
theorem form_ev (neg : Bool) {l : List Int} (hl : Lm E18 l) (hn : l.length ≤ 1000) : o_form.f neg l = some (if VB E18 l = 0 then false else neg, lim (VB E18 l)) := by
 obtain ⟨h1, h2, h3, h4⟩ := trimz_props E18 l
 have c : Can (trimz l) (VB E18 l) := ⟨h3 hl, h2, h1⟩
 rw [← c.eq]
 unfold o_form.f
 rw [if_pos (by omega)]
 by_cases h : trimz l = []
 ·rw [if_pos h, if_pos (c.nil_iff.1 h), h]
 ·rw [if_neg h, if_neg (fun e => h (c.nil_iff.2 e))]
theorem lim2 {n : Int} (h0 : 0 ≤ n) (h1 : n ≤ 9223372036854775808) : Lm E18 [n % 1000000000000000000, n / 1000000000000000000] ∧ VB E18 [n % 1000000000000000000, n / 1000000000000000000] = n := by
 constructor
 ·intro x hx
  simp only [List.mem_cons, List.not_mem_nil, or_false] at hx
  simp only [E18]
  rcases hx with rfl | rfl <;> omega
 ·simp only [VB, E18]; omega
theorem of_ev {n : Int} (h0 : -9223372036854775808 ≤ n) (h1 : n < 9223372036854775808) : o_Of.f n = some (decide (n < 0), lim (if n < 0 then -n else n)) := by
 unfold o_Of.f
 by_cases h : n < 0
 ·have e : IntKind.u64.wrap (-(IntKind.u64.wrap n)) = -n := by rw [w64m, w64m]; omega
  obtain ⟨a, b⟩ := lim2 (n := -n) (by omega) (by omega)
  have h2 := form_ev true a (by simp)
  rw [if_pos h, e, Int.tdiv_eq_ediv_of_nonneg (by omega), Int.tmod_eq_emod_of_nonneg (by omega), w64 (n := -n / 1000000000000000000) (by omega) (by omega), h2, b, if_neg (by omega), if_pos h]
  simp [h]
 ·have e : IntKind.u64.wrap n = n := w64 (by omega) (by omega)
  obtain ⟨a, b⟩ := lim2 (n := n) (by omega) (by omega)
  have h2 := form_ev false a (by simp)
  rw [if_neg h, e, Int.tdiv_eq_ediv_of_nonneg (by omega), Int.tmod_eq_emod_of_nonneg (by omega), w64 (n := n / 1000000000000000000) (by omega) (by omega), h2, b, if_neg h]
  simp [h]
theorem good_lim {n : Int} {neg : Bool} (h0 : 0 ≤ n) (h1 : n < E18 ^ 30) (hs : n = 0 → neg = false) : GoodP neg (P.lim n) := by
 have c := can_lim h0
 exact ⟨c.len h1, c.lm, c.nz, fun e => hs (c.nil_iff.1 e)⟩
theorem add64s_eq {x y : Int} (hx : 0 ≤ x) (hy : 0 ≤ y) : add64s x y = (x + y) % 18446744073709551616 := by unfold add64s; omega
theorem add64c_eq {x y : Int} (hx : 0 ≤ x) (hy : 0 ≤ y) : add64c x y = (x + y) / 18446744073709551616 := by unfold add64c; omega
theorem mul_le_mul {a b c d : Int} (ha : 0 ≤ a) (hb : 0 ≤ b) (h1 : a ≤ c) (h2 : b ≤ d) : a * b ≤ c * d := by
 have h3 : a * b ≤ a * d := Int.mul_le_mul_of_nonneg_left h2 ha
 have h4 : a * d ≤ c * d := Int.mul_le_mul_of_nonneg_right h1 (by omega)
 omega
theorem mul_dig {p x c : Int} (hp : 0 ≤ p) (hp' : p ≤ 999999999999999998000000000000000001) (hx : 0 ≤ x) (hx' : x < 1000000000000000000) (hc : 0 ≤ c) (hc' : c < 1000000000000000000) :
  Ev (fun k => bits_Div64.f k (IntKind.u64.wrap ((IntKind.u64.wrap (p / 18446744073709551616 + (add64c (p % 18446744073709551616) x))) + (add64c (add64s (p % 18446744073709551616) x) c))) (add64s (add64s (p % 18446744073709551616) x) c) 1000000000000000000) ((p + x + c) / 1000000000000000000, (p + x + c) % 1000000000000000000) := by
 have a1 : 0 ≤ p % 18446744073709551616 := by omega
 rw [add64s_eq a1 hx, add64c_eq a1 hx]
 have a2 : 0 ≤ (p % 18446744073709551616 + x) % 18446744073709551616 := by omega
 rw [add64s_eq a2 hc, add64c_eq a2 hc]
 rw [w64 (n := p / 18446744073709551616 + (p % 18446744073709551616 + x) / 18446744073709551616) (by omega) (by omega)]
 rw [w64 (n := p / 18446744073709551616 + (p % 18446744073709551616 + x) / 18446744073709551616 + ((p % 18446744073709551616 + x) % 18446744073709551616 + c) / 18446744073709551616) (by omega) (by omega)]
 have e : (p / 18446744073709551616 + (p % 18446744073709551616 + x) / 18446744073709551616 + ((p % 18446744073709551616 + x) % 18446744073709551616 + c) / 18446744073709551616) * 18446744073709551616 + ((p % 18446744073709551616 + x) % 18446744073709551616 + c) % 18446744073709551616 = p + x + c := by omega
 have := div64_ev (hi := p / 18446744073709551616 + (p % 18446744073709551616 + x) / 18446744073709551616 + ((p % 18446744073709551616 + x) % 18446744073709551616 + c) / 18446744073709551616) (lo := ((p % 18446744073709551616 + x) % 18446744073709551616 + c) % 18446744073709551616) (y := 1000000000000000000) (by omega) (by omega) (by omega) (by omega) (by omega)
 rwa [e] at this
structure MI (a b x : List Int) (i : Nat) : Prop where
 len : x.length = a.length + b.length + 1
 lm : Lm E18 x
 zr : ∀ j : Nat, i + b.length ≤ j → rd x (j : Int) = 0
 vl : VB E18 x = VB E18 (a.take i) * VB E18 b
structure MJ (a b x : List Int) (i j : Nat) (c : Int) : Prop where
 len : x.length = a.length + b.length + 1
 lm : Lm E18 x
 zr : ∀ m : Nat, i + b.length ≤ m → rd x (m : Int) = 0
 c0 : 0 ≤ c
 c1 : c < E18
 vl : VB E18 x + c * E18 ^ (i + j) = VB E18 (a.take i) * VB E18 b + rd a (i : Int) * VB E18 (b.take j) * E18 ^ i
theorem mul_l1 {n1 n2 : Bool} {a b : List Int} (ha : Lm E18 a) (hb : Lm E18 b) (la : a.length ≤ 30) (lb : b.length ≤ 30) {res : Bool × List Int × Int} {i : Nat} (hi : i < a.length)
  (next : ∀ x, MI a b x (i + 1) → Ev (fun k => o_Mul.l0 k x (a.length : Int) ((i + 1 : Nat) : Int) n1 a n2 b) res) :
  ∀ d j : Nat, j + d = b.length → ∀ x c, MJ a b x i j c → Ev (fun k => o_Mul.l1 k x (i : Int) c (a.length : Int) (i : Int) (b.length : Int) (j : Int) n1 a n2 b) res := by
 intro d
 induction d with
 | zero =>
  intro j hj x c m
  have hjb : j = b.length := by omega
  subst hjb
  have e : wrap64 ((i : Int) + (b.length : Int)) = ((i + b.length : Nat) : Int) := by rw [w64i (by omega) (by omega)]; omega
  have e1 : wrap64 ((i : Int) + 1) = ((i + 1 : Nat) : Int) := by rw [w64i (by omega) (by omega)]; omega
  have hl := m.len
  have z := m.zr (i + b.length) (Nat.le_refl _)
  have c0 := m.c0; have c1 := m.c1
  refine Ev.step (fun k => by rw [o_Mul.l1, if_neg (by omega), e, if_pos (by omega), if_pos (by omega), e1, Int.toNat_natCast, z, w64 (n := 0 + c) (by omega) (by simp only [E18] at c1; omega)]) ?_
  refine next _ ⟨by rw [List.length_set]; exact hl, m.lm.set ⟨by omega, by omega⟩, fun j hj => ?_, ?_⟩
  ·rw [rd_set_ne (by omega)]; exact m.zr j (by omega)
  ·rw [VB_set E18 _ (by omega), z, VB_take_succ E18 hi]
   have := m.vl
   rw [List.take_length] at this
   rw [Int.pow_add] at this ⊢
   grind
 | succ d ih =>
  intro j hj x c m
  have hjb : j < b.length := by omega
  have hl := m.len
  have e : wrap64 ((i : Int) + (j : Int)) = ((i + j : Nat) : Int) := by rw [w64i (by omega) (by omega)]; omega
  have e1 : wrap64 ((j : Int) + 1) = ((j + 1 : Nat) : Int) := by rw [w64i (by omega) (by omega)]; omega
  have ra := ha.rd hi; have rb := hb.rd hjb; have rx := m.lm.rd (i := i + j) (by omega)
  have c0 := m.c0; have c1 := m.c1
  simp only [E18] at ra rb rx c1
  have p0 := Int.mul_nonneg ra.1 rb.1
  have p1 := mul_le_mul ra.1 rb.1 (show rd a (i : Int) ≤ 999999999999999999 by omega) (show rd b (j : Int) ≤ 999999999999999999 by omega)
  have dg := mul_dig (p := rd a (i : Int) * rd b (j : Int)) (x := rd x ((i + j : Nat) : Int)) (c := c) p0 (by omega) rx.1 rx.2 c0 c1
  refine Ev.step (fun k => by rw [o_Mul.l1, if_pos (by omega), if_pos (by omega), if_pos (by omega), if_pos (by omega), if_pos (by omega), mul64_eq (by omega) (by omega) (by omega) (by omega), Option.bind_some, e, if_pos (by omega), if_pos (by omega)]) ?_
  refine Ev.bind dg ?_
  refine Ev.congr (fun k => by rw [Int.toNat_natCast, e1]) ?_
  generalize hT : rd a (i : Int) * rd b (j : Int) + rd x ((i + j : Nat) : Int) + c = T at *
  refine ih (j + 1) (by omega) _ _ ⟨by rw [List.length_set]; exact hl, m.lm.set ⟨by omega, by show _ < (1000000000000000000 : Int); omega⟩, fun m' hm' => ?_, by omega, by show _ < (1000000000000000000 : Int); omega, ?_⟩
  ·rw [rd_set_ne (by omega)]; exact m.zr m' hm'
  ·rw [VB_set E18 _ (by omega), VB_take_succ E18 hjb]
   have v := m.vl
   have q : T / 1000000000000000000 * E18 + T % 1000000000000000000 = T := by simp only [E18]; omega
   have h3 : E18 ^ (i + (j + 1)) = E18 ^ i * E18 ^ j * E18 := by rw [Int.pow_add, Int.pow_succ, Int.mul_assoc]
   have h4 : E18 ^ (i + j) = E18 ^ i * E18 ^ j := Int.pow_add ..
   rw [h4] at v ⊢
   rw [h3]
   generalize T / 1000000000000000000 = t1 at *
   generalize T % 1000000000000000000 = t0 at *
   generalize E18 ^ i = Pi at *
   generalize E18 ^ j = Pj at *
   generalize E18 = B at *
   clear dg ih next hl e e1
   grind
theorem mul_l0 {n1 n2 : Bool} {a b : List Int} (ha : Lm E18 a) (hb : Lm E18 b) (la : a.length ≤ 30) (lb : b.length ≤ 30) (hv : VB E18 a * VB E18 b < E18 ^ 30) :
  ∀ d i : Nat, i + d = a.length → ∀ x, MI a b x i →
  Ev (fun k => o_Mul.l0 k x (a.length : Int) (i : Int) n1 a n2 b) (if VB E18 a * VB E18 b = 0 then false else n1 != n2, lim (VB E18 a * VB E18 b), 0) := by
 intro d
 induction d with
 | zero =>
  intro i hi x m
  have hia : i = a.length := by omega
  subst hia
  have v := m.vl
  rw [List.take_length] at v
  have h1 := form_ev (n1 != n2) m.lm (by have := m.len; omega)
  rw [v] at h1
  have h2 := (can_lim (n := VB E18 a * VB E18 b) (Int.mul_nonneg (VB_nonneg (by decide) ha) (VB_nonneg (by decide) hb))).len hv
  refine Ev.step (fun k => by rw [o_Mul.l0, if_neg (by omega), o_fits.f, h1, Option.bind_some, if_neg (by simp only []; omega), Option.bind_some]) (Ev.now _)
 | succ d ih =>
  intro i hi x m
  refine Ev.step (fun k => by rw [o_Mul.l0, if_pos (by omega)]) ?_
  refine mul_l1 ha hb la lb (by omega) (fun x h => ih (i + 1) (by omega) x h) b.length 0 (by omega) x 0 ⟨m.len, m.lm, m.zr, Int.le_refl _, by decide, ?_⟩
  rw [m.vl]; simp [VB]
theorem mul_ev {n1 n2 : Bool} {a b : List Int} (g1 : GoodP n1 a) (g2 : GoodP n2 b) (hv : VB E18 a * VB E18 b < E18 ^ 30) :
  Ev (fun k => o_Mul.f k n1 a n2 b) (if VB E18 a * VB E18 b = 0 then false else n1 != n2, lim (VB E18 a * VB E18 b), 0) := by
 unfold o_Mul.f
 have la := g1.len; have lb := g2.len
 have e : wrap64 (wrap64 ((a.length : Int) + (b.length : Int)) + 1) = ((a.length + b.length + 1 : Nat) : Int) := by
  rw [w64i (n := (a.length : Int) + (b.length : Int)) (by omega) (by omega), w64i (by omega) (by omega)]; omega
 refine Ev.bind (good_true g1) ?_
 refine Ev.congr (fun k => by rw [if_pos rfl]) ?_
 refine Ev.bind (good_true g2) ?_
 refine Ev.congr (fun k => by rw [if_pos rfl, e, if_pos (by omega), Int.toNat_natCast, if_pos (by omega)]) ?_
 refine mul_l0 g1.lm g2.lm la lb hv a.length 0 (by omega) _ ⟨by simp, Lm.zeros (by decide) _, fun j _ => ?_, by rw [VB_zeros]; simp [VB]⟩
 rcases Nat.lt_or_ge j (a.length + b.length + 1) with h | h
 ·rw [rd_get (by simpa using h)]; simp
 ·exact rd_out (by simpa using h)
theorem lim_small {n : Int} (h0 : 0 < n) (h1 : n < E18) : lim n = [n] := by
 refine (Can.eq ⟨Lm.one ⟨by omega, h1⟩, fun _ => ?_, by simp [VB]⟩).symm
 rw [rd_get (by simp)]; simp; omega
theorem of_small {n : Int} (h0 : 0 < n) (h1 : n < E18) : o_Of.f n = some (false, [n]) := by
 simp only [E18] at h1
 rw [of_ev (by omega) (by omega), if_neg (by omega), lim_small h0 (by simp only [E18]; omega)]
 simp; omega
theorem two_pow_bound {e : Nat} (h : e ≤ 1100) : (2 : Int) ^ e < E18 ^ 30 := by
 have h1 : (2 : Int) ^ e ≤ 2 ^ 1100 := pow_le (by decide) h
 have h2 : (2 : Int) ^ 1100 < E18 ^ 30 := by decide +kernel
 omega
theorem pow_l0 {a1 : Bool} {e : Nat} (he : e ≤ 1099) : ∀ d i : Nat, i + d = e → Ev (fun k => o_Pow.l0 k (e : Int) (i : Int) false [2] false (lim (2 ^ i))) (false, lim (2 ^ e), 0) := by
  intro d
  induction d with
  | zero =>
    intro i hi
    have : i = e := by omega
    subst this
    exact Ev.step (fun k => by rw [o_Pow.l0, if_neg (by omega)]) (Ev.now _)
  | succ d ih =>
    intro i hi
    have pp : (0 : Int) < 2 ^ i := Int.pow_pos (by decide)
    have g1 : GoodP false (lim (2 ^ i)) := good_lim (Int.le_of_lt pp) (two_pow_bound (by omega)) (fun _ => rfl)
    have g2 : GoodP false [2] := ⟨by decide, Lm.one ⟨by decide, by decide⟩, fun _ => by decide, fun h => absurd h (by simp)⟩
    have v1 : VB E18 (lim (2 ^ i)) = 2 ^ i := (can_lim (Int.le_of_lt pp)).vl
    have v2 : VB E18 [2] = 2 := by decide
    have v3 : (2 : Int) ^ i * 2 = 2 ^ (i + 1) := by rw [Int.pow_succ]
    have m := mul_ev g1 g2 (by rw [v1, v2, v3]; exact two_pow_bound (by omega))
    rw [v1, v2, v3, if_neg (by have : (0 : Int) < 2 ^ (i + 1) := Int.pow_pos (by decide)
                               omega)] at m
    refine Ev.step (fun k => by rw [o_Pow.l0, if_pos (by omega)]) ?_
    refine Ev.bind m ?_
    refine Ev.congr (fun k => by rw [if_pos rfl, w64 (n := (i : Int) + 1) (by omega) (by omega)]) ?_
    have := ih (i + 1) (by omega)
    exact_mod_cast this
theorem pow_ev {e : Nat} (he : e ≤ 1099) : Ev (fun k => o_Pow.f k false [2] false (lim (e : Int))) (false, lim (2 ^ e), 0) := by
  have g2 : GoodP false [2] := ⟨by decide, Lm.one ⟨by decide, by decide⟩, fun _ => by decide, fun h => absurd h (by simp)⟩
  have ge : GoodP false (lim (e : Int)) := good_lim (by omega) (by have : (1100 : Int) < E18 ^ 30 := by decide +kernel
                                                                   omega) (fun _ => rfl)
  unfold o_Pow.f
  refine Ev.bind (good_true g2) ?_
  refine Ev.congr (fun k => by rw [if_pos rfl]) ?_
  refine Ev.bind (good_true ge) ?_
  refine Ev.congr (fun k => by rw [if_pos rfl, if_neg (by decide), of_small (by decide) (by decide), Option.bind_some]) ?_
  by_cases h0 : e = 0
  · subst h0
    have : lim ((0 : Nat) : Int) = [] := lim_zero
    refine Ev.congr (fun k => by rw [this, if_pos (by decide)]) ?_
    rw [show (2 : Int) ^ 0 = 1 from rfl, lim_small (by decide) (by decide)]; exact Ev.now _
  · have hl : lim (e : Int) = [(e : Int)] := lim_small (by omega) (by simp only [E18]; omega)
    refine Ev.congr (fun k => by rw [hl, if_neg (by simp), if_neg (by simp), if_pos (by simp), if_pos (by simp)]) ?_
    refine Ev.step (fun k => by rw [o_Pow.j0, if_neg (by decide), if_neg (by simp), if_pos (by simp), show rd [(e : Int)] 0 = (e : Int) from rfl, if_neg (by omega)]) ?_
    have := pow_l0 (a1 := false) he e 0 (by omega)
    rwa [show (2 : Int) ^ 0 = 1 from rfl, lim_small (n := 1) (by decide) (by decide)] at this
set_option linter.unusedSimpArgs false
theorem rd0 (a : Int) (l : List Int) : rd (a :: l) 0 = a := rfl
theorem rd1 (a b : Int) (l : List Int) : rd (a :: b :: l) 1 = b := rfl
theorem rd2 (a b c : Int) (l : List Int) : rd (a :: b :: c :: l) 2 = c := rfl
theorem wl0 : wrap64 ((([] : List Int).length : Int) - 1) = -1 := by simp [wrap64]
theorem wl1 (a : Int) : wrap64 ((([a] : List Int).length : Int) - 1) = 0 := by simp [wrap64]
theorem wl2 (a b : Int) : wrap64 ((([a, b] : List Int).length : Int) - 1) = 1 := by simp [wrap64]
theorem wp2 (a b : Int) : wrap64 ((([a, b] : List Int).length : Int) + 1) = 3 := by simp [wrap64]
theorem w00 : wrap64 (0 + 0) = 0 := by simp [wrap64]
theorem w01 : wrap64 (0 + 1) = 1 := by simp [wrap64]
theorem w11 : wrap64 (1 + 1) = 2 := by simp [wrap64]
def hv (m : Int) : List Int := if m = 0 then [] else if m < 1000000000 then [m] else [m % 1000000000, m / 1000000000]
theorem halves_ev {m : Int} (h0 : 0 ≤ m) (h1 : m < 1000000000000000000) : Ev (fun k => o_halves.f k (lim m)) (hv m) := by
 unfold o_halves.f hv
 by_cases hz : m = 0
 ·rw [if_pos hz, hz, lim_zero]
  refine Ev.step (fun k => by rw [o_halves.l0, if_neg (by simp)]) ?_
  exact Ev.step (fun k => by rw [o_halves.l1, if_neg (by simp)]) (Ev.now _)
 ·rw [if_neg hz, lim_small (by omega) h1]
  refine Ev.step (fun k => by rw [o_halves.l0, if_pos (by simp), if_pos (by simp), if_pos (by simp), Option.bind_some, if_pos (by simp)]) ?_
  refine Ev.step (fun k => by rw [o_halves.l0, if_neg (by simp [wrap64])]) ?_
  rw [rd0, Int.tmod_eq_emod_of_nonneg h0, Int.tdiv_eq_ediv_of_nonneg h0, w64 (n := m / 1000000000) (by omega) (by omega)]
  simp only [List.nil_append]
  by_cases hs : m < 1000000000
  ·rw [if_pos hs]
   have e1 : m / 1000000000 = 0 := by omega
   have e2 : m % 1000000000 = m := by omega
   refine Ev.step (fun k => by rw [o_halves.l1, if_pos (by simp), if_pos (by simp [wrap64]), if_pos (by simp [wrap64]), if_pos (by rw [wl2, rd1]; exact e1), if_pos (by simp [wrap64]), wl2]) ?_
   show Ev (fun k => o_halves.l1 k [m % 1000000000]) [m]
   rw [e2]
   exact Ev.step (fun k => by rw [o_halves.l1, if_pos (by simp), if_pos (by simp [wrap64]), if_pos (by simp [wrap64]), if_neg (by rw [wl1, rd0]; exact hz)]) (Ev.now _)
  ·rw [if_neg hs]
   exact Ev.step (fun k => by rw [o_halves.l1, if_pos (by simp), if_pos (by simp [wrap64]), if_pos (by simp [wrap64]), if_neg (by rw [wl2, rd1]; omega)]) (Ev.now _)
theorem short_l0 {l : List Int} {d r x : Int} {out : List Int} {i : Nat} (hd : 0 < d) (hd' : d < 1000000000) (hr : 0 ≤ r) (hr' : r < 1000000000) (hi : i < l.length) (hl : l.length = out.length) (hb : l.length ≤ 100) (hx : rd l (i : Int) = x) (x0 : 0 ≤ x) (x1 : x < 1000000000) {res : List Int × Int}
  (next : Ev (fun k => o_short.l0 k l d (out.set i ((r * 1000000000 + x) / d)) ((r * 1000000000 + x) % d) ((i : Int) - 1)) res) : Ev (fun k => o_short.l0 k l d out r (i : Int)) res := by
 have e : (r * 1000000000 + x) / d ≤ r * 1000000000 + x := Int.ediv_le_self _ (by omega)
 have e0 : 0 ≤ (r * 1000000000 + x) / d := Int.ediv_nonneg (by omega) (by omega)
 refine Ev.step (fun k => by rw [o_short.l0, if_pos (by omega), if_pos (by omega), if_pos (by omega), if_neg (by omega), if_pos (by omega), hx, w64 (n := r * 1000000000) (by omega) (by omega), w64 (n := r * 1000000000 + x) (by omega) (by omega), Int.tdiv_eq_ediv_of_nonneg (by omega), Int.tmod_eq_emod_of_nonneg (by omega), w64 e0 (by omega), Int.toNat_natCast, w64i (n := (i : Int) - 1) (by omega) (by omega)]) next
theorem short_end {l : List Int} {d r : Int} {out : List Int} : Ev (fun k => o_short.l0 k l d out r (-1)) (out, r) := Ev.step (fun k => by rw [o_short.l0, if_neg (by decide)]) (Ev.now _)
theorem short_ev0 {d : Int} : Ev (fun k => o_short.f k [] d) ([], 0) := by
 unfold o_short.f
 refine Ev.congr (fun k => by rw [if_pos (by simp), if_pos (by simp), wl0]) ?_
 exact short_end
theorem short_ev1 {a d : Int} (ha : 0 ≤ a) (ha' : a < 1000000000) (hd : 0 < d) (hd' : d < 1000000000) : Ev (fun k => o_short.f k [a] d) ([a / d], a % d) := by
 unfold o_short.f
 refine Ev.congr (fun k => by rw [if_pos (by simp), if_pos (by simp), show wrap64 (([a].length : Int) - 1) = ((0 : Nat) : Int) by simp [wrap64]]) ?_
 refine short_l0 hd hd' (Int.le_refl 0) (by decide) (by simp) (by simp) (by simp) (rd0 _ _) ha ha' ?_
 have e : (0 : Int) * 1000000000 + a = a := by omega
 rw [e]
 exact short_end
theorem short_ev2 {a b d : Int} (ha : 0 ≤ a) (ha' : a < 1000000000) (hb : 0 ≤ b) (hb' : b < 1000000000) (hd : 0 < d) (hd' : d < 1000000000) : Ev (fun k => o_short.f k [a, b] d) ([(b % d * 1000000000 + a) / d, b / d], (b % d * 1000000000 + a) % d) := by
 unfold o_short.f
 refine Ev.congr (fun k => by rw [if_pos (by simp), if_pos (by simp), show wrap64 (([a, b].length : Int) - 1) = ((1 : Nat) : Int) by simp [wrap64]]) ?_
 have m0 := Int.emod_nonneg b (show d ≠ 0 by omega)
 have m1 := Int.emod_lt_of_pos b hd
 refine short_l0 hd hd' (Int.le_refl 0) (by decide) (by simp) (by simp) (by simp) (rd1 _ _ _) hb hb' ?_
 have e : (0 : Int) * 1000000000 + b = b := by omega
 rw [e, show ((1 : Nat) : Int) - 1 = ((0 : Nat) : Int) by decide]
 refine short_l0 hd hd' m0 (by omega) (by simp) (by simp) (by simp) (rd0 _ _) ha ha' ?_
 exact short_end
theorem doubles_ev0 : Ev (fun k => o_doubles.f k []) [] := by
 unfold o_doubles.f
 exact Ev.step (fun k => by rw [o_doubles.l0, if_neg (by simp)]) (Ev.now _)
theorem doubles_ev1 {a : Int} : Ev (fun k => o_doubles.f k [a]) [a] := by
 unfold o_doubles.f
 refine Ev.step (fun k => by rw [o_doubles.l0, if_pos (by simp), if_pos (by simp), if_neg (by simp [wrap64]), if_pos (by simp)]) ?_
 exact Ev.step (fun k => by rw [o_doubles.l0, if_neg (by simp [wrap64])]; rfl) (Ev.now _)
theorem doubles_ev2 {a b : Int} (ha : 0 ≤ a) (ha' : a < 1000000000) (hb : 0 ≤ b) (hb' : b < 1000000000) : Ev (fun k => o_doubles.f k [a, b]) [a + 1000000000 * b] := by
 unfold o_doubles.f
 refine Ev.step (fun k => by rw [o_doubles.l0, if_pos (by simp), if_pos (by simp), if_pos (by simp [wrap64]), if_pos (by simp [wrap64]), if_pos (by simp)]) ?_
 have e : IntKind.u64.wrap (rd [a, b] 0 + IntKind.u64.wrap (1000000000 * rd [a, b] (wrap64 (0 + 1)))) = a + 1000000000 * b := by
  rw [w01, rd0, rd1, w64 (n := 1000000000 * b) (by omega) (by omega), w64 (by omega) (by omega)]
 rw [e]
 exact Ev.step (fun k => by rw [o_doubles.l0, if_neg (by simp [wrap64])]; rfl) (Ev.now _)
theorem scaled_l0 {l : List Int} {d c x : Int} {out : List Int} {i : Nat} (hd : 0 ≤ d) (hd' : d ≤ 1000000000) (hc : 0 ≤ c) (hc' : c ≤ 1000000000) (hi : i < l.length) (hl : out.length = l.length + 1) (hb : l.length ≤ 100) (hx : rd l (i : Int) = x) (x0 : 0 ≤ x) (x1 : x < 1000000000) {res : List Int}
  (next : Ev (fun k => o_scaled.l0 k l d (out.set i ((c + x * d) % 1000000000)) ((c + x * d) / 1000000000) l (l.length : Int) ((i + 1 : Nat) : Int)) res) : Ev (fun k => o_scaled.l0 k l d out c l (l.length : Int) (i : Int)) res := by
 have p0 := Int.mul_nonneg x0 hd
 have p1 := mul_le_mul x0 hd (show x ≤ 999999999 by omega) hd'
 refine Ev.step (fun k => by rw [o_scaled.l0, if_pos (by omega), if_pos (by omega), if_pos (by omega), if_pos (by omega), hx, w64 (n := x * d) p0 (by omega), w64 (n := c + x * d) (by omega) (by omega), Int.tdiv_eq_ediv_of_nonneg (by omega), Int.tmod_eq_emod_of_nonneg (by omega), w64 (n := (c + x * d) / 1000000000) (by omega) (by omega), Int.toNat_natCast, w64i (n := (i : Int) + 1) (by omega) (by omega), show (i : Int) + 1 = ((i + 1 : Nat) : Int) by omega]) next
theorem scaled_ev {a b d : Int} (ha : 0 ≤ a) (ha' : a < 1000000000) (hb : 0 ≤ b) (hb' : b < 1000000000) (hd : 0 ≤ d) (hd' : d ≤ 1000000000) :
  Ev (fun k => o_scaled.f k [a, b] d) [(a * d) % 1000000000, ((a * d) / 1000000000 + b * d) % 1000000000, ((a * d) / 1000000000 + b * d) / 1000000000] := by
 unfold o_scaled.f
 have p0 := Int.mul_nonneg ha hd
 have p1 := mul_le_mul ha hd (show a ≤ 999999999 by omega) hd'
 refine Ev.congr (fun k => by rw [if_pos (by simp [wrap64]), if_pos (by simp [wrap64]), wp2]) ?_
 show Ev (fun k => o_scaled.l0 k [a, b] d [0, 0, 0] 0 [a, b] (([a, b] : List Int).length : Int) ((0 : Nat) : Int)) _
 refine scaled_l0 hd hd' (Int.le_refl 0) (by decide) (by simp) (by simp) (by simp) (rd0 _ _) ha ha' ?_
 have e : (0 : Int) + a * d = a * d := by omega
 rw [e]
 refine scaled_l0 hd hd' (by omega) (by omega) (by simp) (by simp) (by simp) (rd1 _ _ _) hb hb' ?_
 exact Ev.step (fun k => by rw [o_scaled.l0, if_neg (by simp), if_pos (by simp), if_pos (by simp)]; rfl) (Ev.now _)
theorem take_ev {u0 u1 u2 v0 v1 q : Int} (h0 : 0 ≤ v0) (h0' : v0 < 1000000000) (h1 : 0 ≤ v1) (h1' : v1 < 1000000000) (hq : 0 ≤ q) (hq' : q < 1000000000)
  (e0 : u0 = (q * v0) % 1000000000) (e1 : u1 = (q * v1 + (q * v0) / 1000000000) % 1000000000) (e2 : u2 = (q * v1 + (q * v0) / 1000000000) / 1000000000) :
  Ev (fun k => o_take.f k [u0, u1, u2] [v0, v1] 0 q) (true, [0, 0, 0]) := by
 unfold o_take.f
 have p0 := Int.mul_nonneg hq h0
 have p1 := mul_le_mul hq h0 (show q ≤ 999999999 by omega) (show v0 ≤ 999999999 by omega)
 have r0 := Int.mul_nonneg hq h1
 have r1 := mul_le_mul hq h1 (show q ≤ 999999999 by omega) (show v1 ≤ 999999999 by omega)
 have s0 : IntKind.u64.wrap (IntKind.u64.wrap (q * v0) + 0) = q * v0 := by rw [w64 (n := q * v0) (by omega) (by omega), w64 (by omega) (by omega)]; omega
 have s1 : IntKind.u64.wrap (IntKind.u64.wrap (q * v1) + q * v0 / 1000000000) = q * v1 + q * v0 / 1000000000 := by rw [w64 (n := q * v1) (by omega) (by omega), w64 (by omega) (by omega)]
 show Ev (fun k => o_take.l0 k [u0, u1, u2] [v0, v1] 0 q 0 2 0) _
 have i0 := w00
 have i1 := w01
 have i2 := w11
 refine Ev.step (fun k => by rw [o_take.l0, if_pos (by decide), if_pos (by decide), if_pos (by simp), i0, if_pos (by decide), if_pos (by simp), rd0, rd0, s0, Int.tmod_eq_emod_of_nonneg p0, if_neg (by omega), Int.tdiv_eq_ediv_of_nonneg p0, w64 (n := q * v0 / 1000000000) (by omega) (by omega), w64 (n := u0 - q * v0 % 1000000000) (by omega) (by omega), i1]) ?_
 show Ev (fun k => o_take.l0 k [u0 - q * v0 % 1000000000, u1, u2] [v0, v1] 0 q (q * v0 / 1000000000) 2 1) _
 refine Ev.step (fun k => by rw [o_take.l0, if_pos (by decide), if_pos (by decide), if_pos (by simp), i1, if_pos (by decide), if_pos (by simp), rd1, rd1, s1, Int.tmod_eq_emod_of_nonneg (by omega), if_neg (by omega), Int.tdiv_eq_ediv_of_nonneg (by omega), w64 (n := (q * v1 + q * v0 / 1000000000) / 1000000000) (by omega) (by omega), w64 (n := u1 - (q * v1 + q * v0 / 1000000000) % 1000000000) (by omega) (by omega), i2]) ?_
 show Ev (fun k => o_take.l0 k [u0 - q * v0 % 1000000000, u1 - (q * v1 + q * v0 / 1000000000) % 1000000000, u2] [v0, v1] 0 q ((q * v1 + q * v0 / 1000000000) / 1000000000) 2 2) _
 have i3 : wrap64 (0 + (([v0, v1] : List Int).length : Int)) = 2 := by simp [wrap64]
 refine Ev.step (fun k => by rw [o_take.l0, if_neg (by decide), i3, if_pos (by decide), if_pos (by simp), rd2, if_pos (by omega), w64 (n := u2 - (q * v1 + q * v0 / 1000000000) / 1000000000) (by omega) (by omega)]) ?_
 have f0 : u0 - q * v0 % 1000000000 = 0 := by omega
 have f1 : u1 - (q * v1 + q * v0 / 1000000000) % 1000000000 = 0 := by omega
 have f2 : u2 - (q * v1 + q * v0 / 1000000000) / 1000000000 = 0 := by omega
 rw [f0, f1, f2]
 exact Ev.now _
theorem w02 : wrap64 (0 + 2) = 2 := by simp [wrap64]
theorem w21 : wrap64 (2 - 1) = 1 := by simp [wrap64]
theorem w22 : wrap64 (2 - 2) = 0 := by simp [wrap64]
theorem w0m : wrap64 (0 - 1) = -1 := by simp [wrap64]
theorem div_end {v0 v1 d Q : Int} (hd : 0 < d) (hd' : d < 1000000000) : Ev (fun k => o_divide.l0 k [v0, v1] [0, 0, 0] d 2 [Q] (-1)) ([Q], [0]) := by
 refine Ev.step (fun k => by rw [o_divide.l0, if_neg (by decide), if_pos (by decide), if_pos (by simp)]) ?_
 have s := short_ev2 (a := 0) (b := 0) (d := d) (by decide) (by decide) (by decide) (by decide) hd hd'
 have e : ((0 : Int) % d * 1000000000 + 0) = 0 := by simp
 rw [e] at s
 have e1 : (0 : Int) / d = 0 := by simp
 have e2 : (0 : Int) % d = 0 := by simp
 rw [e1, e2] at s
 refine Ev.bind s ?_
 refine Ev.bind doubles_ev1 ?_
 refine Ev.bind (doubles_ev2 (by decide) (by decide) (by decide) (by decide)) ?_
 exact Ev.now _
theorem div_take {u0 u1 u2 v0 v1 d Q : Int} (hd : 0 < d) (hd' : d < 1000000000) (h0 : 0 ≤ v0) (h0' : v0 < 1000000000) (h1 : 0 ≤ v1) (h1' : v1 < 1000000000) (hq : 0 ≤ Q) (hq' : Q < 1000000000)
  (a0 : 0 ≤ u0) (a0' : u0 < 1000000000) (a1 : 0 ≤ u1) (a1' : u1 < 1000000000) (hN : (u2 * 1000000000 + u1) * 1000000000 + u0 = Q * (v1 * 1000000000 + v0)) :
  Ev (fun k => (o_take.f k [u0, u1, u2] [v0, v1] 0 Q).bind fun bt => (if bt.1 = true then (if 0 ≤ (0 : Int) then (if (0 : Int) < (([0] : List Int).length : Int) then (o_divide.l0 k [v0, v1] bt.2 d 2 (([0] : List Int).set (0 : Int).toNat Q) (wrap64 (0 - 1))) else (none)) else (none)) else (none))) ([Q], [0]) := by
 have e : Q * (v1 * 1000000000 + v0) = Q * v1 * 1000000000 + Q * v0 := by rw [Int.mul_add, Int.mul_assoc]
 have p0 := Int.mul_nonneg hq h0
 have p1 := Int.mul_nonneg hq h1
 refine Ev.bind (take_ev (q := Q) h0 h0' h1 h1' hq hq' (by omega) (by omega) (by omega)) ?_
 refine Ev.congr (fun k => by rw [if_pos rfl, if_pos (by decide), if_pos (by decide), w0m]) ?_
 exact div_end hd hd'
theorem div_l1 {u0 u1 u2 v0 v1 d Q : Int} (hd : 0 < d) (hd' : d < 1000000000) (h0 : 0 ≤ v0) (h0' : v0 < 1000000000) (h1 : 0 < v1) (h1' : v1 < 1000000000) (hq : 0 ≤ Q)
  (a0 : 0 ≤ u0) (a0' : u0 < 1000000000) (a1 : 0 ≤ u1) (a1' : u1 < 1000000000) (hN : (u2 * 1000000000 + u1) * 1000000000 + u0 = Q * (v1 * 1000000000 + v0)) :
  ∀ (n : Nat) (g r : Int), g * v1 + r = u2 * 1000000000 + u1 → 0 ≤ r → r < 1000000000 → g < 1000000000 → g - Q = n →
  Ev (fun k => o_divide.l1 k [v0, v1] [u0, u1, u2] d 2 [0] 0 g r) ([Q], [0]) := by
 have e : ∀ t : Int, t * (v1 * 1000000000 + v0) = t * v1 * 1000000000 + t * v0 := by intro t; rw [Int.mul_add, Int.mul_assoc]
 have D0 : 0 < v1 * 1000000000 + v0 := by omega
 intro n
 induction n with
 | zero =>
  intro g r hg hr hr' hg' hn
  obtain rfl : g = Q := by omega
  have p0 := Int.mul_nonneg hq h0
  have p1 := mul_le_mul hq h0 (show g ≤ 999999999 by omega) (show v0 ≤ 999999999 by omega)
  rw [e] at hN
  refine Ev.step (fun k => by rw [o_divide.l1, if_neg (by omega), if_pos hr', w22, if_pos (by decide), if_pos (by simp), w02, w22, if_pos (by decide), if_pos (by simp), rd0, rd0, w64 (n := g * v0) (by omega) (by omega), w64 (n := r * 1000000000) (by omega) (by omega), w64 (n := r * 1000000000 + u0) (by omega) (by omega), if_neg (by omega)]) ?_
  rw [← e] at hN
  exact div_take hd hd' h0 h0' (by omega) h1' hq hg' a0 a0' a1 a1' hN
 | succ n ih =>
  intro g r hg hr hr' hg' hn
  have p0 := Int.mul_nonneg (show 0 ≤ g by omega) h0
  have p1 := mul_le_mul (show 0 ≤ g by omega) h0 (show g ≤ 999999999 by omega) (show v0 ≤ 999999999 by omega)
  have gt : g * v0 > r * 1000000000 + u0 := by
   have h : (Q + 1) * (v1 * 1000000000 + v0) ≤ g * (v1 * 1000000000 + v0) := Int.mul_le_mul_of_nonneg_right (by omega) (by omega)
   rw [Int.add_mul, Int.one_mul, ← hN, e g] at h
   omega
  refine Ev.step (fun k => by rw [o_divide.l1, if_neg (by omega), if_pos hr', w22, if_pos (by decide), if_pos (by simp), w02, w22, if_pos (by decide), if_pos (by simp), rd0, rd0, w64 (n := g * v0) (by omega) (by omega), w64 (n := r * 1000000000) (by omega) (by omega), w64 (n := r * 1000000000 + u0) (by omega) (by omega), if_pos gt, w21, if_pos (by decide), if_pos (by simp), rd1, w64 (n := r + v1) (by omega) (by omega), w64 (n := g - 1) (by omega) (by omega)]) ?_
  by_cases hb : r + v1 ≥ 1000000000
  ·refine Ev.congr (fun k => by rw [if_pos hb]) ?_
   have g1 : (g - 1) * v0 ≤ 999999999 * 999999999 := mul_le_mul (by omega) h0 (by omega) (by omega)
   have : g - 1 < Q + 1 := by
    refine lt_of_mul (T := (u2 * 1000000000 + u1) * 1000000000 + u0) D0 ?_ ?_
    ·rw [e, Int.sub_mul, Int.one_mul]; omega
    ·rw [hN, Int.add_mul]; omega
   obtain rfl : Q = g - 1 := by omega
   exact div_take hd hd' h0 h0' (by omega) h1' hq (by omega) a0 a0' a1 a1' hN
  ·refine Ev.congr (fun k => by rw [if_neg hb]) ?_
   exact ih (g - 1) (r + v1) (by rw [Int.sub_mul, Int.one_mul]; omega) (by omega) (by omega) (by omega) (by omega)
theorem divide_ev {m p Q : Int} (hm : 0 ≤ m) (hm' : m < 9007199254740992) (hp : 0 < p) (hp' : p ≤ 9007199254740992) (hQ : m = Q * p) :
  ∃ a b, Ev (fun k => o_divide.f k (lim m) (lim p)) (a, b) ∧ Lm E18 a ∧ VB E18 a = Q ∧ a.length ≤ 1 ∧ Lm E18 b ∧ VB E18 b = 0 ∧ b.length ≤ 1 := by
 have Q0 : 0 ≤ Q := by
  rcases Int.lt_or_le Q 0 with h | h
  ·have := Int.mul_neg_of_neg_of_pos h hp; omega
  ·exact h
 have Qm : Q ≤ m := by
  have : Q * 1 ≤ Q * p := Int.mul_le_mul_of_nonneg_left (by omega) Q0
  omega
 have mod0 : m % p = 0 := by rw [hQ]; exact Int.mul_emod_left _ _
 have div0 : m / p = Q := by rw [hQ]; exact Int.mul_ediv_cancel _ (by omega)
 have HP := halves_ev (m := p) (by omega) (by omega)
 have HM := halves_ev (m := m) hm (by omega)
 have one : ∀ x : Int, 0 ≤ x → x < 9007199254740992 → Lm E18 [x] ∧ VB E18 [x] = x := fun x a b => ⟨Lm.one ⟨a, by simp only [E18]; omega⟩, by simp [VB]⟩
 by_cases hs : p < 1000000000
 ·have ep : hv p = [p] := by unfold hv; rw [if_neg (by omega), if_pos hs]
  rw [ep] at HP
  have start : ∀ {x y : List Int} {r : Int}, Ev (fun k => o_short.f k (hv m) p) (x, r) → Ev (fun k => o_doubles.f k x) y → Ev (fun k => o_divide.f k (lim m) (lim p)) (y, [r]) := by
   intro x y r h1 h2
   unfold o_divide.f
   refine Ev.bind HP ?_
   refine Ev.bind HM ?_
   refine Ev.congr (fun k => by rw [if_pos (by simp), if_pos (by simp), rd0]) ?_
   refine Ev.bind h1 ?_
   exact Ev.bind h2 (Ev.now _)
  by_cases h0 : m = 0
  ·have eh : hv m = [] := by unfold hv; rw [if_pos h0]
   refine ⟨_, _, start (by rw [eh]; exact short_ev0) doubles_ev0, Lm.nil, ?_, by simp, (one 0 (by decide) (by decide)).1, (one 0 (by decide) (by decide)).2, by simp⟩
   rw [← div0, h0]; simp [VB]
  ·by_cases h1 : m < 1000000000
   ·have eh : hv m = [m] := by unfold hv; rw [if_neg h0, if_pos h1]
    have s := short_ev1 (a := m) (d := p) hm h1 hp hs
    rw [mod0, div0] at s
    exact ⟨_, _, start (by rw [eh]; exact s) doubles_ev1, (one Q Q0 (by omega)).1, (one Q Q0 (by omega)).2, by simp, (one 0 (by decide) (by decide)).1, (one 0 (by decide) (by decide)).2, by simp⟩
   ·have eh : hv m = [m % 1000000000, m / 1000000000] := by unfold hv; rw [if_neg h0, if_neg h1]
    have s := short_ev2 (a := m % 1000000000) (b := m / 1000000000) (d := p) (by omega) (by omega) (by omega) (by omega) hp hs
    have qb := quot (a := m / 1000000000) hp
    have b0 := Int.emod_nonneg (m / 1000000000) (show p ≠ 0 by omega)
    have b1 := Int.emod_lt_of_pos (m / 1000000000) hp
    have c0 : 0 ≤ m / 1000000000 / p := Int.ediv_nonneg (by omega) (by omega)
    have c1 : m / 1000000000 / p ≤ m / 1000000000 := Int.ediv_le_self _ (by omega)
    have em : m = m / 1000000000 % p * 1000000000 + m % 1000000000 + m / 1000000000 / p * 1000000000 * p := by
     have : m / 1000000000 / p * 1000000000 * p = m / 1000000000 / p * p * 1000000000 := by rw [Int.mul_assoc, Int.mul_comm 1000000000, Int.mul_assoc]
     omega
    have hT0 : 0 ≤ m / 1000000000 % p * 1000000000 + m % 1000000000 := by omega
    have hT1 : m / 1000000000 % p * 1000000000 + m % 1000000000 < 1000000000 * p := by omega
    generalize m / 1000000000 / p = c at *
    generalize m / 1000000000 % p * 1000000000 + m % 1000000000 = T at *
    have t1 : T % p = 0 := by
     have : m % p = T % p := by rw [em]; exact Int.add_mul_emod_self_right ..
     omega
    have t2 : T / p = Q - c * 1000000000 := by
     have : m / p = T / p + c * 1000000000 := by rw [em]; exact Int.add_mul_ediv_right _ _ (by omega)
     omega
    have t3 : T / p < 1000000000 := by
     refine Int.ediv_lt_of_lt_mul hp ?_
     omega
    have t0 : 0 ≤ T / p := Int.ediv_nonneg (by omega) (by omega)
    rw [t1] at s
    have dd := doubles_ev2 (a := T / p) (b := c) t0 t3 c0 (by omega)
    have ev : T / p + 1000000000 * c = Q := by omega
    rw [ev] at dd
    exact ⟨_, _, start (by rw [eh]; exact s) dd, (one Q Q0 (by omega)).1, (one Q Q0 (by omega)).2, by simp, (one 0 (by decide) (by decide)).1, (one 0 (by decide) (by decide)).2, by simp⟩
 ·have ep : hv p = [p % 1000000000, p / 1000000000] := by unfold hv; rw [if_neg (by omega), if_neg hs]
  rw [ep] at HP
  by_cases h0 : m = 0
  ·have eh : hv m = [] := by unfold hv; rw [if_pos h0]
   rw [eh] at HM
   refine ⟨[], lim m, ?_, Lm.nil, ?_, by simp, ?_, ?_, ?_⟩
   ·unfold o_divide.f
    refine Ev.bind HP ?_
    refine Ev.bind HM ?_
    exact Ev.congr (fun k => by rw [if_neg (by simp), if_pos (by simp)]) (Ev.now _)
   ·rw [← div0, h0]; simp [VB]
   ·rw [h0, lim_zero]; exact Lm.nil
   ·rw [h0, lim_zero]; rfl
   ·rw [h0, lim_zero]; simp
  ·have pm : p ≤ m := by
    have : 1 * p ≤ Q * p := Int.mul_le_mul_of_nonneg_right (by
     rcases Int.lt_or_le 0 Q with h | h
     ·omega
     ·have : Q = 0 := by omega
      rw [this] at hQ; omega) (by omega)
    omega
   have eh : hv m = [m % 1000000000, m / 1000000000] := by unfold hv; rw [if_neg h0, if_neg (by omega)]
   rw [eh] at HM
   refine ⟨[Q], [0], ?_, (one Q Q0 (by omega)).1, (one Q Q0 (by omega)).2, by simp, (one 0 (by decide) (by decide)).1, (one 0 (by decide) (by decide)).2, by simp⟩
   have v1a : 0 < p / 1000000000 := by omega
   have v1b : p / 1000000000 ≤ 9007199 := by omega
   have v1c : 0 < p / 1000000000 + 1 := by omega
   have pne : ¬ IntKind.u64.wrap (p / 1000000000 + 1) = 0 := by rw [w64 (by omega) (by omega)]; omega
   have qd := quot (a := 1000000000) v1c
   have d0 : 0 < 1000000000 / (p / 1000000000 + 1) := by
    have := lt_of_mul (a := 1) (b := 1000000000 / (p / 1000000000 + 1) + 1) (T := 1000000000) v1c (by omega) qd.2.1
    omega
   have d1 : 1000000000 / (p / 1000000000 + 1) < 1000000000 := by
    refine Int.ediv_lt_of_lt_mul v1c ?_
    omega
   have dw : IntKind.u64.wrap (Int.tdiv (1000000000 : Int) (IntKind.u64.wrap (p / 1000000000 + 1))) = 1000000000 / (p / 1000000000 + 1) := by
    rw [w64 (n := p / 1000000000 + 1) (by omega) (by omega), Int.tdiv_eq_ediv_of_nonneg (by decide), w64 (by omega) (by omega)]
   have qd1 := qd.1
   generalize 1000000000 / (p / 1000000000 + 1) = d at *
   have su := scaled_ev (a := m % 1000000000) (b := m / 1000000000) (d := d) (by omega) (by omega) (by omega) (by omega) (by omega) (by omega)
   have sv := scaled_ev (a := p % 1000000000) (b := p / 1000000000) (d := d) (by omega) (by omega) (by omega) (by omega) (by omega) (by omega)
   have x0 := Int.mul_nonneg (show 0 ≤ m % 1000000000 by omega) (Int.le_of_lt d0)
   have x1 := Int.mul_nonneg (show 0 ≤ m / 1000000000 by omega) (Int.le_of_lt d0)
   have x2 := mul_le_mul (show 0 ≤ m / 1000000000 by omega) (Int.le_of_lt d0) (show m / 1000000000 ≤ 9007199 by omega) (show d ≤ 999999999 by omega)
   have x3 := mul_le_mul (show 0 ≤ m % 1000000000 by omega) (Int.le_of_lt d0) (show m % 1000000000 ≤ 999999999 by omega) (show d ≤ 999999999 by omega)
   have y0 := Int.mul_nonneg (show 0 ≤ p % 1000000000 by omega) (Int.le_of_lt d0)
   have y2 : p % 1000000000 * d ≤ 999999999 * d := Int.mul_le_mul_of_nonneg_right (by omega) (by omega)
   have y3 : 1 * d ≤ p / 1000000000 * d := Int.mul_le_mul_of_nonneg_right (by omega) (by omega)
   have y4 : p / 1000000000 * d + d ≤ 1000000000 := by rw [Int.mul_add, Int.mul_one, Int.mul_comm] at qd1; exact qd1
   have em : m * d = m / 1000000000 * d * 1000000000 + m % 1000000000 * d := by
    have : m = m / 1000000000 * 1000000000 + m % 1000000000 := by omega
    generalize m / 1000000000 = b at *
    generalize m % 1000000000 = a at *
    rw [this]; grind
   have ep2 : p * d = p / 1000000000 * d * 1000000000 + p % 1000000000 * d := by
    have : p = p / 1000000000 * 1000000000 + p % 1000000000 := by omega
    generalize p / 1000000000 = b at *
    generalize p % 1000000000 = a at *
    rw [this]; grind
   have eq : m * d = Q * (p * d) := by rw [hQ, Int.mul_assoc]
   have md : m * d < 1000000000000000000 * d := Int.mul_lt_mul_of_pos_right (by omega) d0
   have rdv : rd [p % 1000000000, p / 1000000000] (wrap64 ((([p % 1000000000, p / 1000000000] : List Int).length : Int) - 1)) = p / 1000000000 := by rw [wl2, rd1]
   generalize m % 1000000000 * d = ad at *
   generalize m / 1000000000 * d = bd at *
   generalize p % 1000000000 * d = cd at *
   generalize p / 1000000000 * d = ed at *
   have w2 : (cd / 1000000000 + ed) / 1000000000 = 0 := by omega
   have w1 : (cd / 1000000000 + ed) % 1000000000 = cd / 1000000000 + ed := by omega
   rw [w1, w2] at sv
   unfold o_divide.f
   refine Ev.bind HP ?_
   refine Ev.bind HM ?_
   refine Ev.congr (fun k => by rw [if_neg (by simp), if_neg (by simp), if_pos (by simp [wrap64]), if_pos (by simp [wrap64]), rdv, if_neg pne, dw]) ?_
   refine Ev.bind su ?_
   refine Ev.bind sv ?_
   refine Ev.congr (fun k => by rw [if_pos (by simp), if_pos (by simp), if_pos (by simp [wrap64]), if_pos (by simp [wrap64]), Option.bind_some]) ?_
   have r1 : (List.replicate (wrap64 ((([ad % 1000000000, (ad / 1000000000 + bd) % 1000000000, (ad / 1000000000 + bd) / 1000000000] : List Int).length : Int) - (([p % 1000000000, p / 1000000000] : List Int).length : Int)) : Int).toNat (0 : Int)) = [0] := by
    have : wrap64 ((([ad % 1000000000, (ad / 1000000000 + bd) % 1000000000, (ad / 1000000000 + bd) / 1000000000] : List Int).length : Int) - (([p % 1000000000, p / 1000000000] : List Int).length : Int)) = 1 := by simp [wrap64]
    rw [this]; rfl
   rw [r1, wl1]
   show Ev (fun k => o_divide.l0 k [cd % 1000000000, cd / 1000000000 + ed] [ad % 1000000000, (ad / 1000000000 + bd) % 1000000000, (ad / 1000000000 + bd) / 1000000000] d 2 [0] 0) ([Q], [0])
   have hN : (((ad / 1000000000 + bd) / 1000000000) * 1000000000 + (ad / 1000000000 + bd) % 1000000000) * 1000000000 + ad % 1000000000 = Q * ((cd / 1000000000 + ed) * 1000000000 + cd % 1000000000) := by
    have h1 : (cd / 1000000000 + ed) * 1000000000 + cd % 1000000000 = p * d := by omega
    rw [h1, ← eq]; omega
   have z0 : 0 ≤ ad % 1000000000 := by omega
   have z1 : ad % 1000000000 < 1000000000 := by omega
   have z2 : 0 ≤ (ad / 1000000000 + bd) % 1000000000 := by omega
   have z3 : (ad / 1000000000 + bd) % 1000000000 < 1000000000 := by omega
   have z4 : 0 ≤ (ad / 1000000000 + bd) / 1000000000 := by omega
   have z5 : (ad / 1000000000 + bd) / 1000000000 < 1000000000 := by omega
   have z6 : 0 ≤ cd % 1000000000 := by omega
   have z7 : cd % 1000000000 < 1000000000 := by omega
   have z8 : d ≤ cd / 1000000000 + ed := by omega
   have z9 : cd / 1000000000 + ed < 1000000000 := by omega
   have za : (((ad / 1000000000 + bd) / 1000000000) * 1000000000 + (ad / 1000000000 + bd) % 1000000000) * 1000000000 + ad % 1000000000 = m * d := by omega
   generalize (ad / 1000000000 + bd) / 1000000000 = u2 at *
   generalize (ad / 1000000000 + bd) % 1000000000 = u1 at *
   generalize ad % 1000000000 = u0 at *
   generalize cd / 1000000000 + ed = v1 at *
   generalize cd % 1000000000 = v0 at *
   have v1p : 0 < v1 := by omega
   have qt := quot (a := u2 * 1000000000 + u1) v1p
   have g0 := Int.emod_nonneg (u2 * 1000000000 + u1) (show v1 ≠ 0 by omega)
   have g1 := Int.emod_lt_of_pos (u2 * 1000000000 + u1) v1p
   have gq : Q ≤ (u2 * 1000000000 + u1) / v1 := by
    have h : Q * (v1 * 1000000000 + v0) = Q * v1 * 1000000000 + Q * v0 := by rw [Int.mul_add, Int.mul_assoc]
    have h2 := Int.mul_nonneg Q0 z6
    have := lt_of_mul (a := Q) (b := (u2 * 1000000000 + u1) / v1 + 1) (T := u2 * 1000000000 + u1) v1p (by omega) qt.2.1
    omega
   have gb : (u2 * 1000000000 + u1) / v1 < 1000000000 := by
    refine Int.ediv_lt_of_lt_mul v1p ?_
    omega
   refine Ev.step (fun k => by rw [o_divide.l0, if_pos (by decide), w02, if_pos (by decide), if_pos (by simp), w21, if_pos (by decide), if_pos (by simp), if_pos (by decide), if_pos (by simp), rd1, if_neg (by omega), rd2, rd1, w64 (n := u2 * 1000000000) (by omega) (by omega), w64 (n := u2 * 1000000000 + u1) (by omega) (by omega), Int.tdiv_eq_ediv_of_nonneg (by omega), Int.tmod_eq_emod_of_nonneg (by omega), w64 (n := (u2 * 1000000000 + u1) / v1) (by omega) (by omega)]) ?_
   exact div_l1 d0 d1 z6 z7 v1p z9 Q0 z0 z1 z2 z3 hN ((u2 * 1000000000 + u1) / v1 - Q).toNat _ _ (by omega) g0 (by omega) gb (by omega)
theorem divmod_ev {n1 : Bool} {m p Q : Int} (hm : 0 ≤ m) (hm' : m < 9007199254740992) (hp : 0 < p) (hp' : p ≤ 9007199254740992) (hQ : m = Q * p) (hs : m = 0 → n1 = false) :
  Ev (fun k => o_DivMod.f k n1 (lim m) false (lim p)) (if Q = 0 then false else n1, lim Q, false, [], 0) := by
 have bnd : (9007199254740993 : Int) < E18 ^ 30 := by decide +kernel
 have g1 : GoodP n1 (lim m) := good_lim hm (by omega) hs
 have g2 : GoodP false (lim p) := good_lim (by omega) (by omega) (fun _ => rfl)
 obtain ⟨a, b, e, ha, va, la, hb, vb, lb⟩ := divide_ev hm hm' hp hp' hQ
 have f1 := form_ev (n1 != false) ha (by omega)
 have f2 := form_ev n1 hb (by omega)
 rw [va] at f1
 rw [vb, if_pos rfl, lim_zero] at f2
 have pl : ¬ ((lim p).length : Int) = 0 := by
  rw [lim_small hp (by simp only [E18]; omega)]; simp
 unfold o_DivMod.f
 refine Ev.bind (good_true g1) ?_
 refine Ev.congr (fun k => by rw [if_pos rfl]) ?_
 refine Ev.bind (good_true g2) ?_
 refine Ev.congr (fun k => by rw [if_pos rfl, if_neg pl]) ?_
 refine Ev.bind e ?_
 refine Ev.congr (fun k => by rw [f1, Option.bind_some, f2, Option.bind_some, if_neg (by simp), Bool.bne_false]) ?_
 exact Ev.now _
open Flt Ieee
theorem u64n (n : Nat) (h : n < 18446744073709551616) : IntKind.u64.wrap (n : Int) = (n : Int) := w64 (by omega) (by omega)
theorem ofInt64 (n : Nat) (h : n < 18446744073709551616) : (BitVec.ofInt 64 (n : Int)).toNat = n := by
 rw [BitVec.ofInt_natCast, BitVec.toNat_ofNat]; exact Nat.mod_eq_of_lt h
theorem andNot64 (a b : Nat) (ha : a < 18446744073709551616) (hb : b < 18446744073709551616) : Go.bits .andNot .u64 (a : Int) (b : Int) = ((a &&& (18446744073709551615 - b) : Nat) : Int) := by
 show IntKind.u64.wrap ((BitVec.ofInt 64 (a : Int) &&& ~~~BitVec.ofInt 64 (b : Int)).toNat : Int) = _
 rw [BitVec.toNat_and, BitVec.toNat_not, ofInt64 a ha, ofInt64 b hb]
 have e : 2 ^ 64 - 1 - b = 18446744073709551615 - b := rfl
 rw [e]
 exact u64n _ (Nat.lt_of_le_of_lt Nat.and_le_left ha)
theorem and64 (a b : Nat) (ha : a < 18446744073709551616) (hb : b < 18446744073709551616) : Go.bits .and .u64 (a : Int) (b : Int) = ((a &&& b : Nat) : Int) :=
 (bits_nat .u64 64 (by decide) (fun n a b => w64 a (by omega)) a b ha hb).1
theorem or64 (a b : Nat) (ha : a < 18446744073709551616) (hb : b < 18446744073709551616) : Go.bits .or .u64 (a : Int) (b : Int) = ((a ||| b : Nat) : Int) :=
 (bits_nat .u64 64 (by decide) (fun n a b => w64 a (by omega)) a b ha hb).2
theorem and_low (a i : Nat) : a &&& (2 ^ i - 1) = a % 2 ^ i := Nat.and_two_pow_sub_one_eq_mod a i
theorem and_top0 {r : Nat} (h : r < 9223372036854775808) : r &&& 9223372036854775808 = 0 := by
 have e : r &&& (2 ^ 63 - 1) = r := by rw [and_low]; exact Nat.mod_eq_of_lt h
 rw [← e, Nat.and_assoc, show ((2 : Nat) ^ 63 - 1) &&& 9223372036854775808 = 0 by decide, Nat.and_zero]
theorem or63 {F : Nat} (h : F < 9223372036854775808) (s : Nat) : 9223372036854775808 * s ||| F = 9223372036854775808 * s + F := by
 have := Nat.two_pow_add_eq_or_of_lt (i := 63) (b := F) (by simp only [Nat.reducePow]; exact h) s
 simp only [Nat.reducePow] at this
 exact this.symm
theorem or52 {F : Nat} (h : F < 4503599627370496) (s : Nat) : 4503599627370496 * s ||| F = 4503599627370496 * s + F := by
 have := Nat.two_pow_add_eq_or_of_lt (i := 52) (b := F) (by simp only [Nat.reducePow]; exact h) s
 simp only [Nat.reducePow] at this
 exact this.symm
theorem and_top {a : Nat} (h : a < 18446744073709551616) : a &&& 9223372036854775808 = 9223372036854775808 * (a / 9223372036854775808) := by
 have h2 : a / 9223372036854775808 = 0 ∨ a / 9223372036854775808 = 1 := by omega
 have h3 : a % 9223372036854775808 < 9223372036854775808 := Nat.mod_lt _ (by decide)
 have e := Nat.div_add_mod a 9223372036854775808
 rcases h2 with h2 | h2
 ·rw [h2, Nat.mul_zero]; rw [h2, Nat.mul_zero, Nat.zero_add] at e
  rw [← e]; exact and_top0 h3
 ·rw [h2]; rw [h2] at e
  have e1 := or63 h3 1
  rw [e] at e1
  calc a &&& 9223372036854775808 = (9223372036854775808 * 1 ||| (a % 9223372036854775808)) &&& 9223372036854775808 := by rw [e1]
   _ = (9223372036854775808 * 1 &&& 9223372036854775808) ||| ((a % 9223372036854775808) &&& 9223372036854775808) := Nat.and_or_distrib_right ..
   _ = 9223372036854775808 * 1 := by rw [and_top0 h3, Nat.or_zero, Nat.mul_one, Nat.and_self]
theorem and_exp {a : Nat} (h : a < 18446744073709551616) : a &&& 9227875636482146303 = 9223372036854775808 * (a / 9223372036854775808) + a % 4503599627370496 := by
 have e : (9227875636482146303 : Nat) = 9223372036854775808 ||| (2 ^ 52 - 1) := by decide
 rw [e, Nat.and_or_distrib_left, and_top h, and_low]
 simp only [Nat.reducePow]
 exact or63 (Nat.lt_trans (Nat.mod_lt _ (by decide)) (by decide)) _
theorem or_exp {s E F : Nat} (hs : s < 2) (hE : E < 2048) (hF : F < 4503599627370496) : (9223372036854775808 * s + F) ||| (4503599627370496 * E) = 9223372036854775808 * s + (4503599627370496 * E + F) := by
 have h1 : F < 9223372036854775808 := by omega
 have h2 : 4503599627370496 * E + F < 9223372036854775808 := by omega
 rw [← or63 h1, ← or63 h2, ← or52 hF, Nat.or_assoc, Nat.or_comm F]
theorem word_nr {b : Nat} (h : b < 18446744073709551616) : b = b / 9223372036854775808 * 9223372036854775808 + rg b ∧ b / 9223372036854775808 = (Flt.ng b).toNat ∧ rg b < 9223372036854775808 := by
 unfold rg Flt.ng
 refine ⟨by omega, ?_, by omega⟩
 have h2 : b / 2 ^ 63 = 0 ∨ b / 2 ^ 63 = 1 := by omega
 rcases h2 with h2 | h2 <;> simp [h2] <;> omega
theorem word_eq (s : Bool) (r : Nat) : double.word s r = s.toNat * 9223372036854775808 + r := by
 unfold Format.word; cases s <;> simp [sw_eq]
theorem infR_eq : infR = 9218868437227405312 := by decide
theorem abs_eq {b : Nat} (h : b < 18446744073709551616) : m_Abs.f b = some (rg b) := by
 unfold m_Abs.f
 rw [show (9223372036854775808 : Int) = ((9223372036854775808 : Nat) : Int) from rfl, andNot64 b _ h (by decide), Int.toNat_natCast]
 rw [show 18446744073709551615 - 9223372036854775808 = 2 ^ 63 - 1 by decide, and_low]; rfl
theorem cmp_int (x y : Int) : (compare x y = .lt ↔ x < y) ∧ (compare x y = .eq ↔ x = y) ∧ (compare x y = .gt ↔ y < x) := ⟨Int.compare_eq_lt, Int.compare_eq_eq, Int.compare_eq_gt⟩
theorem ord_lt {a b : Nat} (ha : rg a ≤ infR) (hb : rg b ≤ infR) : (FloatKind.f64.format.order a b == some Ordering.lt) = decide (place a < place b) := by
 show (double.order a b == some Ordering.lt) = _
 rw [order_eq ha hb, Bool.eq_iff_iff]; simp [(cmp_int _ _).1]
theorem ord_gt {a b : Nat} (ha : rg a ≤ infR) (hb : rg b ≤ infR) : (FloatKind.f64.format.order a b == some Ordering.gt) = decide (place b < place a) := by
 show (double.order a b == some Ordering.gt) = _
 rw [order_eq ha hb, Bool.eq_iff_iff]; simp [(cmp_int _ _).2.2]
theorem ord_eq {a b : Nat} (ha : rg a ≤ infR) (hb : rg b ≤ infR) : (FloatKind.f64.format.order a b == some Ordering.eq) = decide (place a = place b) := by
 show (double.order a b == some Ordering.eq) = _
 rw [order_eq ha hb, Bool.eq_iff_iff]; simp [(cmp_int _ _).2.1]
theorem ord_nan {a b : Nat} (h : infR < rg a ∨ infR < rg b) : FloatKind.f64.format.order a b = none := by
 show double.order a b = none
 rcases h with h | h
 ·exact order_nan_left h
 ·exact order_nan_right h
theorem nan_iff (a : Nat) : (FloatKind.f64.format.order a a != some Ordering.eq) = decide (infR < rg a) := by
 rcases Nat.lt_or_ge infR (rg a) with h | h
 ·rw [ord_nan (.inl h), decide_eq_true h]; rfl
 ·have := ord_eq h h
  rw [decide_eq_true rfl] at this
  rw [decide_eq_false (by omega)]
  simp only [bne, this]; rfl
theorem rg_small {n : Nat} (h : n < 9223372036854775808) : rg n = n := by unfold rg; omega
theorem place_small {n : Nat} (h : n < 9223372036854775808) : place n = n := by
 unfold place Flt.ng; rw [rg_small h]
 have : n / 2 ^ 63 % 2 = 0 := by omega
 rw [this]; rfl
theorem isInf_eq {b : Nat} (h : b < 18446744073709551616) : m_IsInf.f b 0 = some (decide (rg b = infR)) := by
 have hr := (word_nr h).2.2
 unfold m_IsInf.f
 rw [if_pos rfl, abs_eq h, Option.bind_some]
 congr 1
 rcases Nat.lt_or_ge infR (rg b) with hn | hn
 ·rw [ord_nan (.inl (by rw [rg_small hr]; exact hn)), decide_eq_false (by omega)]; rfl
 ·rw [ord_gt (by rw [rg_small hr]; exact hn) (by rw [rg_small (by decide), infR_eq]; decide), place_small hr, place_small (by decide), Bool.eq_iff_iff]
  simp only [decide_eq_true_eq]
  rw [infR_eq] at hn ⊢
  omega
theorem isNaN_eq {b : Nat} : m_IsNaN.f b = some (decide (infR < rg b)) := by unfold m_IsNaN.f; rw [nan_iff]
theorem place_zero_iff {b : Nat} : place b = 0 ↔ rg b = 0 := by unfold place; split <;> omega
theorem wlt {s : Bool} {r : Nat} (h : r < 9223372036854775808) : double.word s r < 18446744073709551616 := (word_parts s h).2.2
theorem wrg {s : Bool} {r : Nat} (h : r < 9223372036854775808) : rg (double.word s r) = r := (word_parts s h).2.1
theorem wng {s : Bool} {r : Nat} (h : r < 9223372036854775808)   : Flt.ng (double.word s r) = s := (word_parts s h).1
theorem expo {s : Bool} {E F : Nat} (hE : E < 2048) (hF : F < 4503599627370496) : ((double.word s (E * 4503599627370496 + F) : Nat) : Int) / 4503599627370496 % 2048 = E := by
 rw [word_eq]
 cases s <;> simp <;> omega
theorem and2047i {x : Int} (h0 : 0 ≤ x) (h1 : x < 9223372036854775808) : Go.bits .and .i64 x 2047 = x % 2048 :=
 bits_mask .i64 63 (by decide) (fun n a b => by rw [IntKind.wrap_i64]; omega) 11 (by decide) x h0 h1
theorem and2047u {x : Int} (h0 : 0 ≤ x) (h1 : x < 18446744073709551616) : Go.bits .and .u64 x 2047 = x % 2048 :=
 bits_mask .u64 64 (by decide) (fun n a b => w64 a (by omega)) 11 (by decide) x h0 h1
theorem reexp {s : Bool} {E F G : Nat} (hE : E < 2048) (hF : F < 4503599627370496) (hG : G < 2048) :
  Go.bits .or .u64 (Go.bits .andNot .u64 ((double.word s (E * 4503599627370496 + F) : Nat) : Int) 9218868437227405312) ((G * 4503599627370496 : Nat) : Int) = ((double.word s (G * 4503599627370496 + F) : Nat) : Int) := by
 have hlt : double.word s (E * 4503599627370496 + F) < 18446744073709551616 := wlt (by omega)
 have hs : s.toNat < 2 := by cases s <;> decide
 rw [show (9218868437227405312 : Int) = ((9218868437227405312 : Nat) : Int) from rfl, andNot64 _ _ hlt (by decide)]
 rw [show 18446744073709551615 - 9218868437227405312 = 9227875636482146303 by decide, and_exp hlt]
 have e1 : double.word s (E * 4503599627370496 + F) / 9223372036854775808 = s.toNat := by rw [word_eq]; omega
 have e2 : double.word s (E * 4503599627370496 + F) % 4503599627370496 = F := by rw [word_eq]; omega
 have e3 : G * 4503599627370496 = 4503599627370496 * G := Nat.mul_comm _ _
 rw [e1, e2, e3, or64 _ _ (by omega) (by omega), or_exp hs hG hF, word_eq, Nat.mul_comm s.toNat]
abbrev P52 : Nat := 4503599627370496
theorem mgn {r k F : Nat} (hF : F < P52) (h : r = (k + 1) * P52 + F) : mg r = (P52 + F) * 2 ^ k := mg_normal hF h
theorem nform {r : Nat} (h : ¬ r < P52) : ∃ k F, F < P52 ∧ r = (k + 1) * P52 + F := normal_form h
theorem cut_zero_way (s : Bool) (n d : Nat) : Toward.zero.cut s n d = n / 2 ^ d := by
 unfold Toward.cut
 simp only [Nat.shiftLeft_eq, Nat.one_mul, Bool.toNat_false, Nat.add_zero]
 rcases Nat.le_total d (n.log2 + 2) with h | h
 ·rw [Nat.min_eq_left h]
 ·rw [Nat.min_eq_right h]
  have h1 : n < 2 ^ (n.log2 + 1) := Nat.lt_log2_self
  have h2 : 2 ^ (n.log2 + 1) ≤ 2 ^ (n.log2 + 2) := Nat.pow_le_pow_right (by decide) (by omega)
  have h3 : 2 ^ (n.log2 + 2) ≤ 2 ^ d := Nat.pow_le_pow_right (by decide) h
  rw [Nat.div_eq_of_lt (by omega), Nat.div_eq_of_lt (by omega)]
def tru (r : Nat) : Nat := mg r / 2 ^ 1074
theorem integral_eq {b : Nat} (h : rg b < infR) : (double.read b).integral .zero = .number (Flt.ng b) (tru (rg b)) 0 := by
 obtain ⟨m, k, h1, h2⟩ := number_of h
 rw [h1]
 unfold Datum.integral
 simp only []
 congr 1
 rw [cut_zero_way, Nat.shiftLeft_eq]
 unfold tru
 rw [← h2]
 rcases Nat.le_total k 1074 with hk | hk
 ·have e1 : (-1074 + (k : Int)).toNat = 0 := by omega
  have e2 : (-(-1074 + (k : Int))).toNat = 1074 - k := by omega
  rw [e1, e2, Nat.pow_zero, Nat.mul_one, pow_sum (1074 - k) k 1074 (by omega)]
  exact (Nat.mul_div_mul_right _ _ (Nat.two_pow_pos k)).symm
 ·have e1 : (-1074 + (k : Int)).toNat = k - 1074 := by omega
  have e2 : (-(-1074 + (k : Int))).toNat = 0 := by omega
  rw [e1, e2, Nat.pow_zero, Nat.div_one, pow_sum (k - 1074) 1074 k (by omega), ← Nat.mul_assoc]
  exact (Nat.mul_div_cancel _ (Nat.two_pow_pos 1074)).symm
theorem pow_lt_of {a b : Nat} (h : 2 ^ a < 2 ^ b) : a < b := by
 rcases Nat.lt_or_ge a b with k | k
 ·exact k
 ·have := Nat.pow_le_pow_right (show 0 < 2 by decide) k; omega
theorem mulR (a b c : Nat) (h : a ≤ b) : a * c ≤ b * c := Nat.mul_le_mul_right c h
theorem mulL (a b c : Nat) (h : b ≤ c) : a * b ≤ a * c := Nat.mul_le_mul_left a h
theorem powR (a b : Nat) (h : a ≤ b) : 2 ^ a ≤ 2 ^ b := Nat.pow_le_pow_right (by decide) h
theorem zm (a T c : Nat) (e : a = T * c) (h : T = 0) : a = 0 := by rw [e, h, Nat.zero_mul]
theorem pw (a b c d : Nat) (h : a + b = c + d) : 2 ^ a * 2 ^ b = 2 ^ c * 2 ^ d := by rw [← Nat.pow_add, ← Nat.pow_add, h]
theorem pw1 (a b c : Nat) (h : a + b = c) : 2 ^ a * 2 ^ b = 2 ^ c := by rw [← Nat.pow_add, h]
theorem tru_rung {r : Nat} (h : r < infR) : ∃ r', r' < infR ∧ mg r' = tru r * 2 ^ 1074 := by
 have pp := Nat.two_pow_pos 1074
 rcases Nat.lt_or_ge (tru r) (2 ^ 53) with ht | ht
 ·obtain ⟨r', a, b, _⟩ := o_rung (tru r) ht
  exact ⟨r', a, b⟩
 ·refine ⟨r, h, ?_⟩
  have hm : 2 ^ 53 * 2 ^ 1074 ≤ mg r := by
   have := Nat.div_mul_le_self (mg r) (2 ^ 1074)
   have h2 := mulR (2 ^ 53) (tru r) (2 ^ 1074) ht
   exact Nat.le_trans h2 this
  have hn : ¬ r < P52 := by
   intro hc
   have e : mg r = r := by unfold mg; rw [if_pos hc]
   rw [e] at hm
   have := mulL (2 ^ 53) 1 (2 ^ 1074) pp
   simp only [P52] at hc
   have h53 : (2 : Nat) ^ 53 = 9007199254740992 := by decide
   omega
  obtain ⟨k, F, hF, rfl⟩ := nform hn
  have e := mgn (k := k) (F := F) hF rfl
  have hk : 1074 ≤ k := by
   have h1 : (P52 + F) * 2 ^ k < 2 ^ 53 * 2 ^ k := Nat.mul_lt_mul_of_pos_right (by simp only [P52] at hF ⊢; omega) (Nat.two_pow_pos k)
   rw [e] at hm
   have h2 : 2 ^ 53 * 2 ^ 1074 < 2 ^ 53 * 2 ^ k := by omega
   have := Nat.lt_of_mul_lt_mul_left h2
   have := pow_lt_of this
   omega
  unfold tru
  rw [e, pow_sum (k - 1074) 1074 k (by omega), ← Nat.mul_assoc, Nat.mul_div_cancel _ pp]
theorem trunc_eq {b : Nat} (h : rg b < infR) : ∃ r, r < infR ∧ mg r = tru (rg b) * 2 ^ 1074 ∧ m_Trunc.f b = some (double.word (Flt.ng b) r) := by
 obtain ⟨r, h1, h2⟩ := tru_rung h
 refine ⟨r, h1, h2, ?_⟩
 unfold m_Trunc.f
 have hn : isNum b = true := by unfold isNum; rw [ord_eq (by omega) (by omega)]; simp
 rw [if_pos hn]
 unfold fTrunc
 rw [integral_eq h]
 congr 1
 have := nearest_exact (Flt.ng b) (m := tru (rg b)) (p := 1074) h1 h2.symm
 have e : (-1074 + ((1074 : Nat) : Int)) = 0 := by decide
 rw [e] at this
 exact this
theorem rg0 : rg 0 = 0 := by decide
theorem isz {b : Nat} (h : rg b ≤ infR) : (FloatKind.f64.format.order b 0 == some Ordering.eq) = decide (rg b = 0) := by
 rw [ord_eq h (by rw [rg0]; omega), Bool.eq_iff_iff]
 have : place 0 = 0 := by decide
 simp only [decide_eq_true_eq, this, place_zero_iff]
theorem frexp_zero {s : Bool} : m_Frexp.f (double.word s 0) = some (double.word s 0, 0) := by
 have hr : rg (double.word s 0) = 0 := wrg (by decide)
 unfold m_Frexp.f m_frexp.f
 rw [isz (by rw [hr]; omega), hr]
 simp
theorem ldexp_zero {s : Bool} : m_Ldexp.f (double.word s 0) 53 = some (double.word s 0) := by
 have hr : rg (double.word s 0) = 0 := wrg (by decide)
 unfold m_Ldexp.f m_ldexp.f
 rw [isz (by rw [hr]; omega), hr]
 simp
theorem normalize_eq {s : Bool} {r : Nat} (h0 : P52 ≤ r) (h1 : r < infR) : m_normalize.f (double.word s r) = some (double.word s r, 0) := by
 have hi := infR_eq
 have hb : r < 9223372036854775808 := by omega
 unfold m_normalize.f
 rw [abs_eq (wlt hb), Option.bind_some, wrg hb, ord_lt (by rw [rg_small hb]; omega) (by rw [rg_small (by decide), hi]; decide), place_small hb, place_small (by decide)]
 simp only [P52] at h0
 rw [decide_eq_false (by omega), if_neg (by decide)]
theorem frexp_eq {s : Bool} {k F : Nat} (hk : k ≤ 2045) (hF : F < P52) : m_Frexp.f (double.word s ((k + 1) * P52 + F)) = some (double.word s (1022 * P52 + F), (k : Int) - 1021) := by
 have hi := infR_eq
 simp only [P52] at hF ⊢
 have hb : (k + 1) * 4503599627370496 + F < 9223372036854775808 := by omega
 have hlt : (k + 1) * 4503599627370496 + F < infR := by omega
 have n := normalize_eq (s := s) (r := (k + 1) * 4503599627370496 + F) (by simp only [P52]; omega) hlt
 have w := wlt (s := s) hb
 have ex := expo (s := s) (E := k + 1) (F := F) (by omega) hF
 have re := reexp (s := s) (E := k + 1) (F := F) (G := 1022) (by omega) hF (by decide)
 unfold m_Frexp.f m_frexp.f
 rw [isz (by rw [wrg hb]; omega), wrg hb, decide_eq_false (by omega), if_neg (by decide), isInf_eq w, wrg hb, decide_eq_false (by omega), Option.bind_some, if_neg (by decide), isNaN_eq, wrg hb, decide_eq_false (by omega), Option.bind_some, if_neg (by decide), n, Option.bind_some]
 simp only []
 rw [and2047u (by omega) (by omega), ex, show (4602678819172646912 : Int) = ((1022 * 4503599627370496 : Nat) : Int) by decide, re, Int.toNat_natCast, Option.bind_some]
 rw [w64i (n := ((k + 1 : Nat) : Int)) (by omega) (by omega), w64i (n := ((k + 1 : Nat) : Int) - 1023) (by omega) (by omega), w64i (n := ((k + 1 : Nat) : Int) - 1023 + 1) (by omega) (by omega), w64i (n := 0 + (((k + 1 : Nat) : Int) - 1023 + 1)) (by omega) (by omega)]
 congr 2; omega
theorem read_normal {s : Bool} {k F : Nat} (hk : k ≤ 2045) (hF : F < P52) : double.read (double.word s ((k + 1) * P52 + F)) = .number s (P52 + F) (-1074 + (k : Int)) := by
 have hi := infR_eq
 have hb : (k + 1) * P52 + F < 9223372036854775808 := by simp only [P52] at hF ⊢; omega
 have e := read_eq (double.word s ((k + 1) * P52 + F))
 rw [wrg hb, wng hb] at e
 have e52 : (2 : Nat) ^ 52 = P52 := by decide
 rw [e52] at e
 simp only [P52] at hF e ⊢
 rw [if_neg (by omega), if_pos (by omega)] at e
 rw [e]
 have a1 : ((k + 1) * 4503599627370496 + F) % 4503599627370496 = F := by omega
 have a2 : ((k + 1) * 4503599627370496 + F) / 4503599627370496 - 1 = k := by omega
 rw [a1, a2]
theorem fmul_one {s : Bool} {k F : Nat} (hk : k ≤ 2045) (h52 : 52 ≤ k) (hF : F < P52) : okMul 4607182418800017408 (double.word s ((k + 1) * P52 + F)) = true ∧ fMul 4607182418800017408 (double.word s ((k + 1) * P52 + F)) = double.word s ((k + 1) * P52 + F) := by
 have hi := infR_eq
 have h1 : double.read 4607182418800017408 = .number false P52 (-52) := by decide
 have hm : double.mul 4607182418800017408 (double.word s ((k + 1) * P52 + F)) = some (double.word s ((k + 1) * P52 + F)) := by
  unfold Format.mul
  rw [h1, read_normal hk hF]
  simp only [Datum.product, Option.map_some, Bool.false_bne]
  congr 1
  show double.nearest s (P52 * (P52 + F)) (-52 + (-1074 + (k : Int))) = _
  have e2 : (-52 + (-1074 + (k : Int))) = -1074 + ((k - 52 : Nat) : Int) := by omega
  rw [e2]
  refine nearest_exact s (by simp only [P52] at hF ⊢; omega) ?_
  rw [mgn (k := k) (F := F) hF rfl, pow_sum (k - 52) 52 k (by omega)]
  have e52 : (2 : Nat) ^ 52 = P52 := by decide
  rw [e52, Nat.mul_comm P52 (P52 + F), Nat.mul_assoc, Nat.mul_comm P52 (2 ^ (k - 52))]
 unfold okMul fMul
 rw [hm]
 exact ⟨rfl, rfl⟩
theorem ldexp_eq {s : Bool} {F : Nat} (hF : F < P52) : m_Ldexp.f (double.word s (1022 * P52 + F)) 53 = some (double.word s (1075 * P52 + F)) := by
 have hi := infR_eq
 obtain ⟨m1, m2⟩ := fmul_one (s := s) (k := 1074) (F := F) (by decide) (by decide) hF
 have n := normalize_eq (s := s) (r := 1022 * P52 + F) (by simp only [P52]; omega) (by simp only [P52] at hF ⊢; omega)
 simp only [P52, Nat.reduceAdd, Nat.reduceMul] at hF n m1 m2 ⊢
 have hb : 4602678819172646912 + F < 9223372036854775808 := by omega
 have w := wlt (s := s) hb
 have ex := expo (s := s) (E := 1022) (F := F) (by omega) hF
 have re := reexp (s := s) (E := 1022) (F := F) (G := 1075) (by omega) hF (by decide)
 simp only [Nat.reduceMul] at ex re
 have e3 : (Go.bits .and .i64 (wrap64 (((double.word s (4602678819172646912 + F) : Nat) : Int) / 4503599627370496)) 2047) = 1022 := by
  rw [w64i (by omega) (by omega), and2047i (by omega) (by omega), ex]; rfl
 have e4 : wrap64 (wrap64 (53 + 0) + wrap64 (1022 - 1023)) = 52 := by simp [wrap64]
 have e5 : IntKind.u64.wrap (IntKind.u64.wrap (wrap64 (52 + 1023)) * 4503599627370496) = ((4841369599423283200 : Nat) : Int) := by decide +kernel
 unfold m_Ldexp.f m_ldexp.f
 rw [isz (by rw [wrg hb]; omega), wrg hb, decide_eq_false (by omega), if_neg (by decide), isInf_eq w, wrg hb, decide_eq_false (by omega), Option.bind_some, if_neg (by decide), isNaN_eq, wrg hb, decide_eq_false (by omega), Option.bind_some, if_neg (by decide), n, Option.bind_some]
 simp only []
 rw [e3, e4, if_neg (by decide), if_neg (by decide), if_neg (by decide), e5, re, Int.toNat_natCast, if_pos m1, Option.bind_some, m2]
theorem toInt_eq {s : Bool} {F : Nat} (hF : F < P52) : f2n (double.word s (1075 * P52 + F)) = some (sgn s (P52 + F)) := by
 have h := read_normal (s := s) (k := 1074) (F := F) (by decide) hF
 have h2 : double.read (double.word s (1075 * P52 + F)) = .number s (P52 + F) 0 := h
 unfold f2n Datum.toInt
 rw [h2]
 simp only [Datum.integral, cut_zero_way]
 have e0 : (0 : Int).toNat = 0 := rfl
 have e1 : (-(0 : Int)).toNat = 0 := rfl
 simp [signed_eq]
theorem toInt_zero {s : Bool} : f2n (double.word s 0) = some 0 := by
 cases s <;> decide
theorem parts_of {s : Bool} {r : Nat} {T : Nat} (h : r < infR) (hT : mg r = T * 2 ^ 1074) (h0 : 0 < T) :
  ∃ k F : Nat, 1022 ≤ k ∧ k ≤ 2045 ∧ F < P52 ∧ (P52 + F) * 2 ^ k = T * 2 ^ 1074 ∧ m_Frexp.f (double.word s r) = some (double.word s (1022 * P52 + F), (k : Int) - 1021) := by
 have hi := infR_eq
 have pp := Nat.two_pow_pos 1074
 have hm : 1 * 2 ^ 1074 ≤ mg r := by
  have := mulR 1 T (2 ^ 1074) h0
  rw [← hT] at this; exact this
 have hn : ¬ r < P52 := by
  intro hc
  have e : mg r = r := by unfold mg; rw [if_pos hc]
  rw [e] at hm
  have := powR 60 1074 (by decide)
  simp only [P52] at hc
  have h53 : (2 : Nat) ^ 60 = 1152921504606846976 := by decide
  omega
 obtain ⟨k, F, hF, rfl⟩ := nform hn
 have e := mgn (k := k) (F := F) hF rfl
 have hk : k ≤ 2045 := by simp only [P52] at h hF; omega
 refine ⟨k, F, ?_, hk, hF, by rw [← hT, e], frexp_eq hk hF⟩
 have h1 : (P52 + F) * 2 ^ k < 2 ^ 53 * 2 ^ k := Nat.mul_lt_mul_of_pos_right (by simp only [P52] at hF ⊢; omega) (Nat.two_pow_pos k)
 rw [e] at hm
 have h2 : 2 ^ 1074 < 2 ^ (53 + k) := by rw [Nat.pow_add]; omega
 have := pow_lt_of h2
 omega
theorem o_ev {b : Nat} (h : rg b < infR) (hb : b < 18446744073709551616) : Ev (fun k => e_Whole.f k (b : Int)) (if tru (rg b) = 0 then false else Flt.ng b, lim (tru (rg b) : Nat), 0) := by
 obtain ⟨r, hr, hmr, ht⟩ := trunc_eq h
 have pp := Nat.two_pow_pos 1074
 have hi := infR_eq
 have two : o_Of.f 2 = some (false, [2]) := of_small (by decide) (by decide)
 have v2 : VB E18 [2] = 2 := by decide
 generalize hs : Flt.ng b = s at *
 generalize hT : tru (rg b) = T at *
 unfold e_Whole.f
 refine Ev.congr (fun k => by rw [Int.toNat_natCast, nan_iff, decide_eq_false (by omega), if_neg (by decide), isInf_eq hb, decide_eq_false (by omega), Option.bind_some, if_neg (by decide), ht, Option.bind_some]) ?_
 by_cases h0 : T = 0
 ·subst h0
  have e : r = 0 := by
   have : mg r = mg 0 := (zm (mg r) 0 (2 ^ 1074) hmr rfl).trans (show 0 = mg 0 by decide)
   exact mg_inj this
  subst e
  have hin : inI64 (double.word s 0) = true := by unfold inI64; rw [toInt_zero]; decide
  have hf : f2i (double.word s 0) = 0 := by unfold f2i; rw [toInt_zero]; rfl
  have o0 := of_ev (n := 0) (by decide) (by decide)
  have o53 : o_Of.f 53 = some (false, [53]) := of_small (by decide) (by decide)
  have w1 : wrap64 (0 - 53) = -53 := by simp [wrap64]
  have w2 : wrap64 (-(-53)) = 53 := by simp [wrap64]
  refine Ev.congr (fun k => by rw [frexp_zero, Option.bind_some, ldexp_zero, Option.bind_some, if_pos hin, hf, o0, Option.bind_some, two, Option.bind_some, w1, if_neg (by decide), if_neg (by decide), w2, o53, Option.bind_some]) ?_
  have pw := pow_ev (e := 53) (by decide)
  rw [show (((53 : Nat) : Int)) = 53 from rfl, lim_small (n := 53) (by decide) (by decide)] at pw
  refine Ev.bind pw ?_
  have dm := divmod_ev (n1 := false) (m := 0) (p := 2 ^ 53) (Q := 0) (by decide) (by decide) (by decide) (by decide) (by decide) (fun _ => rfl)
  refine Ev.bind (by simpa using dm) ?_
  simp only [if_pos]
  exact Ev.now _
 ·obtain ⟨k, F, k0, k1, hF, hv, hfr⟩ := parts_of (s := s) hr hmr (by omega)
  have hin : inI64 (double.word s (1075 * P52 + F)) = true := by
   unfold inI64; rw [toInt_eq hF]
   simp only [P52] at hF ⊢
   refine decide_eq_true ?_
   unfold sgn; cases s <;> simp <;> omega
  have hf : f2i (double.word s (1075 * P52 + F)) = sgn s (P52 + F) := by unfold f2i; rw [toInt_eq hF]; rfl
  have mp : P52 + F < 9007199254740992 := by simp only [P52] at hF ⊢; omega
  have mq : 0 < P52 + F := by simp only [P52]; omega
  have om : o_Of.f (sgn s (P52 + F)) = some (s, lim ((P52 + F : Nat) : Int)) := by
   rw [of_ev (by unfold sgn; cases s <;> simp <;> omega) (by unfold sgn; cases s <;> simp <;> omega)]
   unfold sgn
   cases s
   ·rw [if_neg (by decide), if_neg (by omega), decide_eq_false (by omega)]
   ·rw [if_pos rfl, if_pos (by omega), decide_eq_true (by omega), Int.neg_neg]
  rw [if_neg h0]
  refine Ev.congr (fun n => by rw [hfr, Option.bind_some, ldexp_eq hF, Option.bind_some, if_pos hin, hf, om, Option.bind_some, two, Option.bind_some, w64i (n := (k : Int) - 1021 - 53) (by omega) (by omega)]) ?_
  have bnd : (9007199254740993 : Int) < E18 ^ 30 := by decide +kernel
  have gm : GoodP s (lim ((P52 + F : Nat) : Int)) := good_lim (by omega) (by omega) (fun e => by omega)
  by_cases hk : (k : Int) - 1021 - 53 ≥ 0
  ·obtain ⟨j, rfl⟩ : ∃ j, k = j + 1074 := ⟨k - 1074, by omega⟩
   have e1 : ((j + 1074 : Nat) : Int) - 1021 - 53 = (j : Int) := by omega
   have oj := of_ev (n := (j : Int)) (by omega) (by omega)
   rw [if_neg (by omega), decide_eq_false (by omega)] at oj
   have hT' : (P52 + F) * 2 ^ j = T := by
    rw [Nat.pow_add, ← Nat.mul_assoc] at hv
    exact Nat.eq_of_mul_eq_mul_right pp hv
   have hTi : ((P52 + F : Nat) : Int) * 2 ^ j = (T : Int) := by rw [← hT', Int.natCast_mul, Int.natCast_pow]; rfl
   refine Ev.congr (fun n => by rw [if_pos hk, e1, oj, Option.bind_some]) ?_
   refine Ev.bind (pow_ev (e := j) (by omega)) ?_
   have gp : GoodP false (lim (2 ^ j)) := good_lim (Int.le_of_lt (Int.pow_pos (by decide))) (two_pow_bound (by omega)) (fun _ => rfl)
   have vm : VB E18 (lim ((P52 + F : Nat) : Int)) = ((P52 + F : Nat) : Int) := (can_lim (by omega)).vl
   have vp : VB E18 (lim (2 ^ j)) = 2 ^ j := (can_lim (Int.le_of_lt (Int.pow_pos (by decide)))).vl
   have hTb : (T : Int) < E18 ^ 30 := by
    have h1 : ((P52 + F : Nat) : Int) * 2 ^ j ≤ 2 ^ 53 * 2 ^ j := Int.mul_le_mul_of_nonneg_right (by omega) (Int.le_of_lt (Int.pow_pos (by decide)))
    rw [← Int.pow_add, hTi] at h1
    have := two_pow_bound (e := 53 + j) (by omega)
    omega
   have mm := mul_ev gm gp (by rw [vm, vp, hTi]; exact hTb)
   rw [vm, vp, hTi, if_neg (by omega)] at mm
   refine Ev.bind mm ?_
   rw [Bool.bne_false]
   exact Ev.now _
  ·obtain ⟨j, hj⟩ : ∃ j : Nat, k + j = 1074 := ⟨1074 - k, by omega⟩
   have e1 : wrap64 (-((k : Int) - 1021 - 53)) = (j : Int) := by rw [w64i (by omega) (by omega)]; omega
   have oj := of_ev (n := (j : Int)) (by omega) (by omega)
   rw [if_neg (by omega), decide_eq_false (by omega)] at oj
   have hT' : P52 + F = T * 2 ^ j := by
    rw [← hj, Nat.pow_add, Nat.mul_comm (2 ^ k), ← Nat.mul_assoc] at hv
    exact Nat.eq_of_mul_eq_mul_right (Nat.two_pow_pos k) hv
   have hTi : ((P52 + F : Nat) : Int) = (T : Int) * 2 ^ j := by rw [hT', Int.natCast_mul, Int.natCast_pow]; rfl
   refine Ev.congr (fun n => by rw [if_neg hk, if_neg (by omega), e1, oj, Option.bind_some]) ?_
   refine Ev.bind (pow_ev (e := j) (by omega)) ?_
   have pb : (2 : Int) ^ j ≤ 2 ^ 53 := pow_le (by decide) (by omega)
   have dm := divmod_ev (n1 := s) (m := ((P52 + F : Nat) : Int)) (p := 2 ^ j) (Q := (T : Int)) (by omega) (by omega) (Int.pow_pos (by decide)) (by omega) hTi (fun e => by omega)
   rw [if_neg (by omega)] at dm
   exact Ev.bind dm (Ev.now _)
def fcmp (x y : Nat) : Int × Bool := if infR < rg x ∨ infR < rg y then (0, false) else (cmpI (place x) (place y), true)
theorem cmp_eq (x y : Nat) : e_Cmp.f (x : Int) (y : Int) = some (fcmp x y) := by
 unfold e_Cmp.f fcmp
 rw [Int.toNat_natCast, Int.toNat_natCast]
 by_cases h : infR < rg x ∨ infR < rg y
 ·rw [if_pos h, ord_nan h, if_neg (by decide), if_neg (by decide)]; rfl
 ·have hx : rg x ≤ infR := by omega
  have hy : rg y ≤ infR := by omega
  rw [if_neg h, ord_lt hx hy, ord_gt hx hy, ord_eq hx hy]
  unfold cmpI
  by_cases h1 : place x < place y
  ·rw [if_pos (by simpa using h1), if_pos h1]
  ·rw [if_neg (by simpa using h1), if_neg h1]
   by_cases h2 : place y < place x
   ·rw [if_pos (by simpa using h2), if_pos h2]
   ·rw [if_neg (by simpa using h2), if_neg h2]
    simp; omega
theorem mg_lt {r q : Nat} : mg r < mg q ↔ r < q := ⟨fun h => by
 rcases Nat.lt_or_ge r q with k | k
 ·exact k
 ·rcases Nat.eq_or_lt_of_le k with k | k
  ·subst k; omega
  ·have := mg_mono k; omega, mg_mono⟩
theorem mg_eq {r q : Nat} : mg r = mg q ↔ r = q := ⟨mg_inj, fun h => by rw [h]⟩
theorem sgn_lt (s : Bool) (r q : Nat) : cmpI (sgn s (mg r)) (sgn s (mg q)) = cmpI (sgn s r) (sgn s q) := by
 have a := mg_lt (r := r) (q := q); have b := mg_lt (r := q) (q := r); have c := mg_eq (r := r) (q := q)
 refine cmpI_congr ?_ ?_ <;> (unfold sgn; cases s <;> simp <;> omega)
theorem mg_infR : mg infR = P52 * 2 ^ 2046 := by
 have := mgn (r := infR) (k := 2046) (F := 0) (by decide) (by decide)
 rw [this]
theorem castP (x e : Nat) (h : x < 2 ^ e) : (x : Int) < 2 ^ e := by
 have h4 : ((x : Nat) : Int) < ((2 ^ e : Nat) : Int) := by omega
 rw [Int.natCast_pow] at h4
 exact h4
theorem tru_bound {r : Nat} (h : r < infR) : ((tru r : Nat) : Int) < E18 ^ 30 := by
 have h1 := mg_mono h
 rw [mg_infR] at h1
 have h2 : tru r < 2 ^ 1024 := by
  unfold tru
  refine Nat.div_lt_of_lt_mul ?_
  have e := pw 52 2046 1074 1024 rfl
  rw [show (2 : Nat) ^ 52 = P52 from rfl] at e
  omega
 have h3 := two_pow_bound (e := 1024) (by decide)
 have h4 := castP (tru r) 1024 h2
 omega
def U : Int := ((2 ^ 1074 : Nat) : Int)
theorem U_pos : 0 < U := by unfold U; have := Nat.two_pow_pos 1074; omega
def val (b : Nat) : Int := sgn (Flt.ng b) (mg (rg b))
theorem tru_le (r : Nat) : ((tru r : Nat) : Int) * U ≤ (mg r : Int) ∧ (mg r : Int) < ((tru r : Nat) : Int) * U + U := by
 unfold tru U
 have pp := Nat.two_pow_pos 1074
 generalize 2 ^ 1074 = e at *
 have h1 := Nat.div_mul_le_self (mg r) e
 have h2 := Nat.lt_div_mul_add pp (a := mg r)
 rw [← Int.natCast_mul]
 omega
theorem sv_lim {s : Bool} {T : Int} (h : 0 ≤ T) : SV s (lim T) = if s then -T else T := by unfold SV; rw [(can_lim h).vl]
theorem cmpBig_fin {b : Nat} {neg : Bool} {l : List Int} (h : rg b < infR) (hb : b < 18446744073709551616) (g : GoodP neg l) :
  Ev (fun k => e_CmpBig.f k (b : Int) neg l) (cmpI (val b) (SV neg l * U), true) := by
 have hU := U_pos
 obtain ⟨r, hr, hmr, ht⟩ := trunc_eq h
 have hi := infR_eq
 have w := o_ev h hb
 have tb := tru_bound h
 have tl := tru_le (rg b)
 have hmr' : (mg r : Int) = ((tru (rg b) : Nat) : Int) * U := by unfold U; rw [hmr, Int.natCast_mul]
 have pl : place b = sgn (Flt.ng b) (rg b) := rfl
 unfold val
 generalize hs : Flt.ng b = s at *
 generalize hT : tru (rg b) = T at *
 have g2 : GoodP (if T = 0 then false else s) (lim (T : Int)) := good_lim (by omega) tb (fun e => by rw [if_pos (by omega)])
 have sv : SV (if T = 0 then false else s) (lim (T : Int)) = sgn s T := by
  rw [sv_lim (by omega)]
  unfold sgn
  by_cases h0 : T = 0
  ·subst h0; cases s <;> simp
  ·rw [if_neg h0]
 have c := cmp_ev g2 g
 rw [sv] at c
 generalize hN : SV neg l = N at *
 have hrb : r < 9223372036854775808 := by omega
 have bw : e_bare.f (double.word s r) = some ((double.word s r : Nat) : Int) := by
  unfold e_bare.f
  rw [nan_iff, wrg hrb, decide_eq_false (by omega), if_neg (by decide)]
 have ce : e_Cmp.f (b : Int) ((double.word s r : Nat) : Int) = some (cmpI (sgn s (mg (rg b))) (sgn s (mg r)), true) := by
  rw [cmp_eq]
  unfold fcmp
  have e2 : place (double.word s r) = sgn s r := by rw [place_eq, wng hrb, wrg hrb]
  rw [if_neg (by rw [wrg hrb]; omega), e2, pl, sgn_lt]
 unfold e_CmpBig.f
 refine Ev.congr (fun k => by rw [Int.toNat_natCast, nan_iff, decide_eq_false (by omega), if_neg (by decide)]) ?_
 refine Ev.bind (good_true g) ?_
 refine Ev.step (fun k => by rw [e_CmpBig.j0, if_neg (by decide), isInf_eq hb, decide_eq_false (by omega), Option.bind_some, if_neg (by decide)]) ?_
 refine Ev.bind w ?_
 refine Ev.bind c ?_
 have fin : ∀ v : Int, cmpI (sgn s T) N = v → v ≠ 0 → cmpI (sgn s (mg (rg b))) (N * U) = v := by
  intro v hv hne
  rcases cmpI_cases (sgn s T) N with ⟨a, e⟩ | ⟨a, e⟩ | ⟨a, e⟩
  ·rw [← hv, e]
   refine cmpI_lt ?_
   have h2 : (sgn s T + 1) * U ≤ N * U := Int.mul_le_mul_of_nonneg_right (by omega) (by omega)
   rw [Int.add_mul, Int.one_mul] at h2
   unfold sgn at h2 ⊢
   cases s
   ·simp only [Bool.false_eq_true, if_false] at h2 ⊢; omega
   ·simp only [if_true, Int.neg_mul] at h2 ⊢; omega
  ·rw [← hv, e] at hne; exact absurd rfl hne
  ·rw [← hv, e]
   refine cmpI_gt ?_
   have h2 : (N + 1) * U ≤ sgn s T * U := Int.mul_le_mul_of_nonneg_right (by omega) (by omega)
   rw [Int.add_mul, Int.one_mul] at h2
   unfold sgn at h2 ⊢
   cases s
   ·simp only [Bool.false_eq_true, if_false] at h2 ⊢; omega
   ·simp only [if_true, Int.neg_mul] at h2 ⊢; omega
 by_cases h0 : cmpI (sgn s T) N = 0
 ·refine Ev.congr (fun k => by rw [if_pos h0, ht, Option.bind_some, bw, Option.bind_some, ce, Option.bind_some]) ?_
  have e : sgn s T = N := by
   rcases cmpI_cases (sgn s T) N with ⟨a, e⟩ | ⟨a, e⟩ | ⟨a, e⟩
   ·omega
   ·exact a
   ·omega
  have e3 : sgn s (mg r) = N * U := by
   rw [← e]; unfold sgn; cases s
   ·simp only [Bool.false_eq_true, if_false]; exact hmr'
   ·simp only [if_true, Int.neg_mul]; rw [hmr']
  rw [e3]
  exact Ev.now _
 ·refine Ev.congr (fun k => by rw [if_neg h0]) ?_
  rw [fin _ rfl h0]
  exact Ev.now _
theorem f2i_one (s : Bool) : f2n (double.word s 4607182418800017408) = some (if s then -1 else 1) := by cases s <;> decide
theorem copysign_one {b : Nat} (hb : b < 18446744073709551616) : m_Copysign.f 4607182418800017408 b = some (double.word (Flt.ng b) 4607182418800017408) := by
 unfold m_Copysign.f
 rw [show (9223372036854775808 : Int) = ((9223372036854775808 : Nat) : Int) from rfl, andNot64 _ _ (by decide) (by decide), and64 _ _ hb (by decide), and_top hb]
 rw [show (4607182418800017408 : Nat) &&& (18446744073709551615 - 9223372036854775808) = 4607182418800017408 by decide]
 have h2 : b / 9223372036854775808 < 2 := by omega
 rw [or64 _ _ (by decide) (by omega), Int.toNat_natCast, Nat.or_comm, or63 (by decide), word_eq, ← (word_nr hb).2.1, Nat.mul_comm]
theorem cmpBig_inf {b : Nat} {neg : Bool} {l : List Int} (h : rg b = infR) (hb : b < 18446744073709551616) (g : GoodP neg l) :
  Ev (fun k => e_CmpBig.f k (b : Int) neg l) (if Flt.ng b then -1 else 1, true) := by
 unfold e_CmpBig.f
 refine Ev.congr (fun k => by rw [Int.toNat_natCast, nan_iff, decide_eq_false (by omega), if_neg (by decide)]) ?_
 refine Ev.bind (good_true g) ?_
 have hin : inI64 (double.word (Flt.ng b) 4607182418800017408) = true := by unfold inI64; rw [f2i_one]; cases Flt.ng b <;> decide
 have hf : f2i (double.word (Flt.ng b) 4607182418800017408) = if Flt.ng b then -1 else 1 := by unfold f2i; rw [f2i_one]; rfl
 refine Ev.step (fun k => by rw [e_CmpBig.j0, if_neg (by decide), isInf_eq hb, decide_eq_true h, Option.bind_some, if_pos rfl, copysign_one hb, Option.bind_some, if_pos hin, hf]) (Ev.now _)
theorem cmpBig_nan {b : Nat} {neg : Bool} {l : List Int} (h : infR < rg b) : Ev (fun k => e_CmpBig.f k (b : Int) neg l) (0, false) := by
 unfold e_CmpBig.f
 refine Ev.congr (fun k => by rw [Int.toNat_natCast, nan_iff, decide_eq_true h, if_pos rfl]) ?_
 exact Ev.step (fun k => by rw [e_CmpBig.j0, if_pos rfl]) (Ev.now _)
def fint (b : Nat) (n : Int) : Int × Bool := if infR < rg b then (0, false) else if rg b = infR then (if Flt.ng b then -1 else 1, true) else (cmpI (val b) (n * U), true)
theorem cmpBig_ev {b : Nat} {neg : Bool} {l : List Int} (hb : b < 18446744073709551616) (g : GoodP neg l) : Ev (fun k => e_CmpBig.f k (b : Int) neg l) (fint b (SV neg l)) := by
 unfold fint
 by_cases h : infR < rg b
 ·rw [if_pos h]; exact cmpBig_nan h
 ·rw [if_neg h]
  by_cases h2 : rg b = infR
  ·rw [if_pos h2]; exact cmpBig_inf h2 hb g
  ·rw [if_neg h2]; exact cmpBig_fin (by omega) hb g
abbrev PR : Nat := 2147483647
theorem pow31 (n : Nat) : 2 ^ n % PR = 2 ^ (n % 31) % PR := by
 have h : ∀ q s : Nat, 2 ^ (31 * q + s) % PR = 2 ^ s % PR := by
  intro q s
  induction q with
  | zero => rw [Nat.mul_zero, Nat.zero_add]
  | succ q ih =>
   rw [show 31 * (q + 1) + s = 31 + (31 * q + s) by omega, Nat.pow_add, Nat.mul_mod, ih]
   have e : (2 ^ 31) % PR = 1 := by decide
   rw [e, Nat.one_mul, Nat.mod_mod]
 have e := h (n / 31) (n % 31)
 rwa [Nat.div_add_mod] at e
def hm (r : Nat) : Nat := mg r * 2 ^ 11 % PR
theorem hm_of {m j r : Nat} (h : m * 2 ^ j = mg r * 2 ^ 52) : (m % PR * 2 ^ ((j + 21) % 31)) % PR = hm r := by
 unfold hm
 have h1 : (m % PR * 2 ^ ((j + 21) % 31)) % PR = (m * 2 ^ (j + 21)) % PR := by
  rw [Nat.mul_mod, Nat.mod_mod, ← pow31, ← Nat.mul_mod]
 have h2 : m * 2 ^ (j + 21) = mg r * 2 ^ 73 := by
  rw [Nat.pow_add, ← Nat.mul_assoc, h, Nat.mul_assoc, ← Nat.pow_add]
 rw [h1, h2, Nat.mul_mod, pow31 73, ← Nat.mul_mod]
theorem hm_whole {r T : Nat} (h : mg r = T * 2 ^ 1074) : hm r = T % PR := by
 unfold hm
 have e : mg r * 2 ^ 11 = T * 2 ^ 1085 := by rw [h, Nat.mul_assoc, pw1 1074 11 1085 rfl]
 rw [e, Nat.mul_mod, pow31 1085]
 have e2 : 2 ^ (1085 % 31) % PR = 1 := by decide
 rw [e2, Nat.mul_one, Nat.mod_mod]
theorem tmod31 (x : Int) : Int.tmod (Int.tmod x 31 + 31) 31 = x % 31 := by
 have h : -31 < Int.tmod x 31 ∧ Int.tmod x 31 < 31 ∧ (Int.tmod x 31 - x) % 31 = 0 := by
  rcases Int.lt_or_le x 0 with h | h
  ·have e : x = -(-x) := by omega
   rw [e, Int.neg_tmod, Int.tmod_eq_emod_of_nonneg (by omega)]
   omega
  ·rw [Int.tmod_eq_emod_of_nonneg h]; omega
 rw [Int.tmod_eq_emod_of_nonneg (by omega)]
 omega
theorem frexp_any {r : Nat} (h : r < infR) (h0 : 0 < r) : ∃ j F : Nat, F < P52 ∧ j ≤ 2097 ∧ (P52 + F) * 2 ^ j = mg r * 2 ^ 52 ∧ m_Frexp.f (double.word false r) = some (double.word false (1022 * P52 + F), (j : Int) - 1073) := by
 have hi := infR_eq
 by_cases hn : r < P52
 ·-- below the normal ones
  have hl1 : 2 ^ r.log2 ≤ r := Nat.log2_self_le (by omega)
  have hl2 : r < 2 ^ (r.log2 + 1) := Nat.lt_log2_self
  have hL : r.log2 ≤ 51 := by
   have h1 : r < 2 ^ 52 := by simp only [P52] at hn; omega
   have := (Nat.log2_lt (by omega)).2 h1; omega
  have a1 : 2 ^ 52 ≤ r * 2 ^ (52 - r.log2) := by
   rw [pow_sum r.log2 (52 - r.log2) 52 (by omega)]; exact Nat.mul_le_mul_right _ hl1
  have a2 : r * 2 ^ (52 - r.log2) < 2 ^ 53 := by
   rw [pow_sum (r.log2 + 1) (52 - r.log2) 53 (by omega)]; exact Nat.mul_lt_mul_of_pos_right hl2 (Nat.two_pow_pos _)
  have a3 : r * 2 ^ (52 - r.log2) * 2 ^ r.log2 = r * 2 ^ 52 := by rw [Nat.mul_assoc, ← Nat.pow_add, show 52 - r.log2 + r.log2 = 52 by omega]
  have em : mg r = r := by unfold mg; rw [if_pos hn]
  have e52 : (2 : Nat) ^ 52 = P52 := by decide
  have e53 : (2 : Nat) ^ 53 = 9007199254740992 := by decide
  generalize hLL : r.log2 = L at *
  generalize hX : r * 2 ^ (52 - L) = X at *
  obtain ⟨F, hFX⟩ : ∃ F, X = P52 + F := ⟨X - P52, by rw [e52] at a1; omega⟩
  have hF : F < P52 := by simp only [P52] at hFX ⊢; omega
  refine ⟨L, F, hF, by omega, by rw [em, ← hFX, a3], ?_⟩
  have hw : double.word false r = r := by rw [word_eq]; simp
  have hrs : r < 9223372036854775808 := by omega
  have r1 : double.read r = .number false r (-1074) := by
   have := read_eq r
   rw [rg_small hrs, if_pos hn] at this
   rw [this]
   have : Flt.ng r = false := by have := wng (s := false) hrs; rwa [hw] at this
   rw [this]
  have r2 : double.read 4841369599423283200 = .number false P52 0 := by decide
  have m1 : mg ((L + 1) * P52 + F) = r * P52 := by rw [mgn (k := L) (F := F) hF rfl, ← hFX, a3, e52]
  have hlt : (L + 1) * P52 + F < infR := by simp only [P52] at hF ⊢; omega
  have hm : double.mul r 4841369599423283200 = some (double.word false ((L + 1) * P52 + F)) := by
   unfold Format.mul
   rw [r1, r2]
   simp only [Datum.product, Option.map_some, Bool.false_bne]
   congr 1
   show double.nearest false (r * P52) (-1074 + 0) = _
   exact nearest_exact false (p := 0) hlt (by rw [m1, Nat.pow_zero, Nat.mul_one])
  have ok : okMul r 4841369599423283200 = true := by unfold okMul; rw [hm]; rfl
  have fm : fMul r 4841369599423283200 = double.word false ((L + 1) * P52 + F) := by unfold fMul; rw [hm]; rfl
  simp only [P52] at hF hlt hn fm ⊢
  have hb : (L + 1) * 4503599627370496 + F < 9223372036854775808 := by omega
  have ex := expo (s := false) (E := L + 1) (F := F) (by omega) hF
  have re := reexp (s := false) (E := L + 1) (F := F) (G := 1022) (by omega) hF (by decide)
  have w := wlt (s := false) hb
  rw [hw]
  unfold m_Frexp.f m_frexp.f
  rw [isz (by rw [rg_small hrs]; omega), rg_small hrs, decide_eq_false (by omega), if_neg (by decide), isInf_eq (by omega), rg_small hrs, decide_eq_false (by omega), Option.bind_some, if_neg (by decide), isNaN_eq, rg_small hrs, decide_eq_false (by omega), Option.bind_some, if_neg (by decide)]
  unfold m_normalize.f
  rw [abs_eq (by omega), Option.bind_some, rg_small hrs, ord_lt (by rw [rg_small hrs]; omega) (by rw [rg_small (by decide), hi]; decide), place_small hrs, place_small (by decide), decide_eq_true (by omega), if_pos rfl, if_pos ok, fm, Option.bind_some]
  simp only []
  rw [and2047u (by omega) (by omega), ex, show (4602678819172646912 : Int) = ((1022 * 4503599627370496 : Nat) : Int) by decide, re, Int.toNat_natCast, Option.bind_some]
  rw [w64i (n := ((L + 1 : Nat) : Int)) (by omega) (by omega), w64i (n := ((L + 1 : Nat) : Int) - 1023) (by omega) (by omega), w64i (n := ((L + 1 : Nat) : Int) - 1023 + 1) (by omega) (by omega), w64i (n := -52 + (((L + 1 : Nat) : Int) - 1023 + 1)) (by omega) (by omega)]
  congr 2; omega
 ·obtain ⟨k, F, hF, rfl⟩ := nform hn
  have hk : k ≤ 2045 := by simp only [P52] at h hF; omega
  refine ⟨k + 52, F, hF, by omega, ?_, ?_⟩
  ·rw [mgn (k := k) (F := F) hF rfl, Nat.pow_add, Nat.mul_assoc]
  ·rw [frexp_eq hk hF]
   congr 2; omega
theorem nlt64 {n : Nat} (h : n < 18446744073709551616) : (n : Int) < 18446744073709551616 := by omega
def hsign (b : Nat) : Int := if place b < 0 then -1 else 1
def hF (b : Nat) : Int := if infR < rg b then 0 else if rg b = infR then hsign b * 314159 else hsign b * (hm (rg b) : Int)
theorem hm_lt (r : Nat) : hm r < 2147483647 := Nat.mod_lt _ (by decide)
theorem hash_ev {b : Nat} (hb : b < 18446744073709551616) : Ev (fun k => e_Hash.f k (b : Int)) (hF b) := by
 have hi := infR_eq
 have hr := (word_nr hb).2.2
 have fin : ∀ g : Int, (g = -1 ∨ g = 1) → ¬ infR < rg b → Ev (fun k => e_Hash.j0 k b g) (if rg b = infR then g * 314159 else g * (hm (rg b) : Int)) := by
  intro g hg hn
  have hml := hm_lt (rg b)
  by_cases h2 : rg b = infR
  ·rw [if_pos h2]
   refine Ev.step (fun k => by rw [e_Hash.j0, nan_iff, decide_eq_false hn, if_neg (by decide), isInf_eq hb, decide_eq_true h2, Option.bind_some, if_pos rfl, w64i (n := g * 314159) (by omega) (by omega)]) (Ev.now _)
  ·rw [if_neg h2]
   have hw : double.word false (rg b) = rg b := by rw [word_eq]; simp
   refine Ev.step (fun k => by rw [e_Hash.j0, nan_iff, decide_eq_false hn, if_neg (by decide), isInf_eq hb, decide_eq_false h2, Option.bind_some, if_neg (by decide), abs_eq hb, Option.bind_some, ← hw]) ?_
   by_cases h0 : rg b = 0
   ·rw [h0]
    have hin : inU64 (double.word false 0) = true := by unfold inU64; rw [toInt_zero]; decide
    have hf : f2i (double.word false 0) = 0 := by unfold f2i; rw [toInt_zero]; rfl
    have e1 : Int.tmod (wrap64 (Int.tmod (wrap64 (0 - 53)) 31 + 31)) 31 = ((9 : Nat) : Int) := by decide +kernel
    have e2 : shl .u64 1 ((9 : Nat) : Int) = 512 := by rw [shl64 (by decide)]; decide
    have e3 : bits_Mul64.f (Int.tmod 0 2147483647) 512 = some (0, 0) := by rw [show Int.tmod 0 2147483647 = 0 from rfl, mul64_eq (by decide) (by decide) (by decide) (by decide)]; rfl
    refine Ev.congr (fun k => by rw [frexp_zero, Option.bind_some, ldexp_zero, Option.bind_some, if_pos hin, hf, e1, if_pos (by decide), e2, e3, Option.bind_some]) ?_
    have rm := rem64_ev (hi := 0) (lo := 0) (y := 2147483647) (by decide) (by decide) (by decide) (by decide) (by decide)
    refine Ev.bind rm ?_
    have e4 : hm 0 = 0 := by decide
    rw [e4]
    refine Ev.of_eq (fun k => ?_)
    rcases hg with rfl | rfl <;> simp [wrap64]
   ·obtain ⟨j, F, hF, hj, hv, hfr⟩ := frexp_any (r := rg b) (by omega) (by omega)
    have mq : P52 + F < 9007199254740992 := by simp only [P52] at hF ⊢; omega
    have ti := toInt_eq (s := false) hF
    have sg : sgn false (P52 + F) = ((P52 + F : Nat) : Int) := rfl
    rw [sg] at ti
    have hin : inU64 (double.word false (1075 * P52 + F)) = true := by
     unfold inU64; rw [ti]
     refine decide_eq_true ?_
     omega
    have hf : f2i (double.word false (1075 * P52 + F)) = ((P52 + F : Nat) : Int) := by unfold f2i; rw [ti]; rfl
    have e1 : Int.tmod (wrap64 (Int.tmod (wrap64 ((j : Int) - 1073 - 53)) 31 + 31)) 31 = (((j + 21) % 31 : Nat) : Int) := by
     rw [w64i (n := (j : Int) - 1073 - 53) (by omega) (by omega)]
     have t := tmod31 ((j : Int) - 1073 - 53)
     have bnd : -31 < Int.tmod ((j : Int) - 1073 - 53) 31 ∧ Int.tmod ((j : Int) - 1073 - 53) 31 < 31 := by
      rcases Int.lt_or_le ((j : Int) - 1073 - 53) 0 with h | h
      ·have e : ((j : Int) - 1073 - 53) = -(-((j : Int) - 1073 - 53)) := by omega
       rw [e, Int.neg_tmod, Int.tmod_eq_emod_of_nonneg (by omega)]; omega
      ·rw [Int.tmod_eq_emod_of_nonneg h]; omega
     rw [w64i (by omega) (by omega), t]
     omega
    have s31 : (j + 21) % 31 < 31 := Nat.mod_lt _ (by decide)
    have hmo := hm_of hv
    generalize (j + 21) % 31 = s at *
    have p2 : (2 : Nat) ^ s ≤ 2 ^ 30 := Nat.pow_le_pow_right (by decide) (by omega)
    have p30 : (2 : Nat) ^ 30 = 1073741824 := by decide
    have e2 : shl .u64 1 (s : Int) = ((2 ^ s : Nat) : Int) := by
     rw [shl64 (by omega), Int.one_mul, Int.natCast_pow]
     have e : ((2 : Nat) : Int) = 2 := rfl
     rw [e]
     refine Int.emod_eq_of_lt (Int.le_of_lt (Int.pow_pos (by decide))) ?_
     have h3 : (2 : Int) ^ s ≤ 2 ^ 30 := pow_le (by decide) (by omega)
     have h4 : (2 : Int) ^ 30 = 1073741824 := by decide
     omega
    have tm : Int.tmod ((P52 + F : Nat) : Int) 2147483647 = (((P52 + F) % PR : Nat) : Int) := by
     rw [Int.tmod_eq_emod_of_nonneg (by omega)]; simp only [PR]; omega
    have mlt : (P52 + F) % PR < 2147483647 := Nat.mod_lt _ (by decide)
    have e3 := mul64_eq (x := (((P52 + F) % PR : Nat) : Int)) (y := ((2 ^ s : Nat) : Int)) (Int.natCast_nonneg _) (nlt64 (by omega)) (Int.natCast_nonneg _) (nlt64 (by omega))
    have prod : (((P52 + F) % PR : Nat) : Int) * ((2 ^ s : Nat) : Int) = (((P52 + F) % PR * 2 ^ s : Nat) : Int) := by rw [Int.natCast_mul]
    rw [prod] at e3
    generalize (P52 + F) % PR * 2 ^ s = z at *
    refine Ev.congr (fun k => by rw [hfr, Option.bind_some, ldexp_eq hF, Option.bind_some, if_pos hin, hf, e1, if_pos (by omega), e2, tm, e3, Option.bind_some]) ?_
    have rm := rem64_ev (hi := (z : Int) / 18446744073709551616) (lo := (z : Int) % 18446744073709551616) (y := 2147483647) (by omega) (by decide) (by decide) (by omega) (by omega)
    have e4 : ((z : Int) / 18446744073709551616 * 18446744073709551616 + (z : Int) % 18446744073709551616) % 2147483647 = (hm (rg b) : Int) := by
     rw [← hmo]
     have : (z : Int) / 18446744073709551616 * 18446744073709551616 + (z : Int) % 18446744073709551616 = (z : Int) := by omega
     rw [this]
     simp only [PR]
     omega
    rw [e4] at rm
    refine Ev.bind rm ?_
    refine Ev.of_eq (fun k => ?_)
    rw [w64i (n := (hm (rg b) : Int)) (by omega) (by omega)]
    rcases hg with rfl | rfl
    ·rw [w64i (by omega) (by omega)]
    ·rw [w64i (by omega) (by omega)]
 unfold e_Hash.f hF
 by_cases hn : infR < rg b
 ·rw [if_pos hn]
  refine Ev.congr (fun k => by rw [Int.toNat_natCast, ord_nan (.inl hn), if_neg (by decide)]) ?_
  exact Ev.step (fun k => by rw [e_Hash.j0, nan_iff, decide_eq_true hn, if_pos rfl]) (Ev.now _)
 ·rw [if_neg hn]
  have e0 : rg 0 ≤ infR := by rw [rg0]; omega
  have p0 : place 0 = 0 := by decide
  unfold hsign
  by_cases hp : place b < 0
  ·refine Ev.congr (fun k => by rw [Int.toNat_natCast, ord_lt (by omega) e0, p0, decide_eq_true hp, if_pos rfl]) ?_
   rw [if_pos hp]
   exact fin (-1) (.inl rfl) hn
  ·refine Ev.congr (fun k => by rw [Int.toNat_natCast, ord_lt (by omega) e0, p0, decide_eq_false hp, if_neg (by decide)]) ?_
   rw [if_neg hp]
   exact fin 1 (.inr rfl) hn
theorem hbig_l0 {neg : Bool} {l : List Int} (hl : Lm E18 l) (len : l.length ≤ 30) : ∀ n : Nat, n ≤ l.length → Ev (fun k => e_HashBig.l0 k (VB E18 (l.drop n) % 2147483647) ((n : Int) - 1) neg l) (if neg then -(VB E18 l % 2147483647) else VB E18 l % 2147483647) := by
 intro n
 induction n with
 | zero =>
  intro h
  have b0 : 0 ≤ VB E18 l % 2147483647 := by omega
  have b1 : VB E18 l % 2147483647 < 2147483647 := by omega
  simp only [List.drop_zero]
  generalize VB E18 l % 2147483647 = v at *
  cases neg
  ·exact Ev.step (fun k => by rw [e_HashBig.l0, if_neg (by omega), if_neg (by decide), w64i (by omega) (by omega)]; rfl) (Ev.now _)
  ·exact Ev.step (fun k => by rw [e_HashBig.l0, if_neg (by omega), if_pos rfl, w64i (n := v) (by omega) (by omega), w64i (by omega) (by omega)]; rfl) (Ev.now _)
 | succ n ih =>
  intro h
  have hd : l.drop n = l[n] :: l.drop (n + 1) := List.drop_eq_getElem_cons (by omega)
  have rx := hl.rd (i := n) (by omega)
  have ev : VB E18 (l.drop n) = rd l (n : Int) + E18 * VB E18 (l.drop (n + 1)) := by rw [hd, rd_get (by omega)]; rfl
  have ihn := ih (by omega)
  rw [ev] at ihn
  have e : ((n + 1 : Nat) : Int) - 1 = (n : Int) := by omega
  rw [e]
  simp only [E18] at rx ihn ⊢
  generalize VB 1000000000000000000 (l.drop (n + 1)) = V at *
  generalize hx : rd l (n : Int) = x at *
  have hv0 : 0 ≤ V % 2147483647 := by omega
  have hv1 : V % 2147483647 < 2147483647 := by omega
  have a1 : 0 ≤ (V % 2147483647 * 1000000000000000000) % 18446744073709551616 := by omega
  have c1 := add64c_eq a1 rx.1
  have s1 := add64s_eq a1 rx.1
  refine Ev.step (fun k => by rw [e_HashBig.l0, if_pos (by omega), mul64_eq hv0 (by omega) (by decide) (by decide), Option.bind_some, if_pos (by omega), if_pos (by omega), hx, c1, s1, w64 (n := V % 2147483647 * 1000000000000000000 / 18446744073709551616 + (V % 2147483647 * 1000000000000000000 % 18446744073709551616 + x) / 18446744073709551616) (by omega) (by omega)]) ?_
  have rm := rem64_ev (hi := V % 2147483647 * 1000000000000000000 / 18446744073709551616 + (V % 2147483647 * 1000000000000000000 % 18446744073709551616 + x) / 18446744073709551616) (lo := (V % 2147483647 * 1000000000000000000 % 18446744073709551616 + x) % 18446744073709551616) (y := 2147483647) (by omega) (by decide) (by decide) (by omega) (by omega)
  have e4 : ((V % 2147483647 * 1000000000000000000 / 18446744073709551616 + (V % 2147483647 * 1000000000000000000 % 18446744073709551616 + x) / 18446744073709551616) * 18446744073709551616 + (V % 2147483647 * 1000000000000000000 % 18446744073709551616 + x) % 18446744073709551616) % 2147483647 = (x + 1000000000000000000 * V) % 2147483647 := by omega
  rw [e4] at rm
  refine Ev.bind rm ?_
  refine Ev.congr (fun k => by rw [w64i (n := (n : Int) - 1) (by omega) (by omega)]) ?_
  exact ihn
theorem hbig_ev {neg : Bool} {l : List Int} (g : GoodP neg l) : Ev (fun k => e_HashBig.f k neg l) (if neg then -(VB E18 l % 2147483647) else VB E18 l % 2147483647) := by
 unfold e_HashBig.f
 have hl := g.len
 refine Ev.bind (good_true g) ?_
 refine Ev.congr (fun k => by rw [if_pos rfl, w64i (by omega) (by omega)]) ?_
 have := hbig_l0 (neg := neg) g.lm g.len l.length (Nat.le_refl _)
 rw [List.drop_length] at this
 exact this
abbrev SV_ := S28
structure Vl where
 k : Int
 y : Bool
 n : Bool
 l : List Int
 b : Nat
 t : ByteArray
 i : List SV_
structure Wf (v : Vl) : Prop where
 u : U64 v.l
 ll : v.l.length ≤ 9223372036854775807
 b1 : v.b < 18446744073709551616
def Vl.bare (v : Vl) : Bool := !v.n && ((v.l.length : Int) == 0)
def Vl.gd (v : Vl) : Bool :=
 if (v.i.length : Int) > 0 then false
 else if v.k = 0 then !v.y && v.bare && ((v.b : Int) == 0) && (v.t.toList == [])
 else if v.k = 1 then v.bare && ((v.b : Int) == 0) && (v.t.toList == [])
 else if v.k = 2 then good v.n v.l && !v.y && ((v.b : Int) == 0) && (v.t.toList == [])
 else if v.k = 3 then v.bare && !v.y && (v.t.toList == [])
 else if v.k = 4 then v.bare && !v.y && ((v.b : Int) == 0) && decide ((v.t.size : Int) ≤ 20000)
 else false
theorem goodV_ev {v : Vl} (w : Wf v) : Ev (fun k => p_Good.f k v.k v.y v.n v.l (v.b : Int) v.t v.i) v.gd := by
 obtain ⟨k, y, n, l, b, t, i⟩ := v
 have hg := good_ev n l (Nat.lt_succ_of_le w.ll)
 simp only at hg ⊢
 unfold Vl.gd Vl.bare p_Good.f
 simp only
 by_cases h0 : (i.length : Int) > 0
 ·refine Ev.congr (fun k => by rw [if_pos h0]) ?_
  rw [if_pos h0]; exact Ev.now _
 ·refine Ev.congr (fun k => by rw [if_neg h0]) ?_
  rw [if_neg h0]
  have key : ∀ x : Bool, x = (!n && ((l.length : Int) == 0)) → Ev (fun q => p_Good.j0 q x k y n l (b : Int) t i) (if k = 0 then !y && (!n && ((l.length : Int) == 0)) && ((b : Int) == 0) && (t.toList == [])
 else if k = 1 then (!n && ((l.length : Int) == 0)) && ((b : Int) == 0) && (t.toList == [])
 else if k = 2 then good n l && !y && ((b : Int) == 0) && (t.toList == [])
 else if k = 3 then (!n && ((l.length : Int) == 0)) && !y && (t.toList == [])
 else if k = 4 then (!n && ((l.length : Int) == 0)) && !y && ((b : Int) == 0) && decide ((t.size : Int) ≤ 20000)
 else false) := by
   intro x hx
   rw [← hx]
   clear hx
   by_cases k0 : k = 0
   ·refine Ev.step (fun q => by rw [p_Good.j0, if_pos k0]) ?_
    rw [if_pos k0]
    refine Ev.of_eq (fun _ => ?_)
    by_cases hb : b = 0
    ·subst hb; cases y <;> cases x <;> simp
    ·have hbb : ((b : Int) == 0) = false := by simp; exact hb
     cases y <;> cases x <;> simp [hb, hbb]
   ·rw [if_neg k0]
    by_cases k1 : k = 1
    ·refine Ev.step (fun q => by rw [p_Good.j0, if_neg k0, if_pos k1]) ?_
     rw [if_pos k1]
     refine Ev.of_eq (fun _ => ?_)
     by_cases hb : b = 0
     ·subst hb; cases x <;> simp
     ·have hbb : ((b : Int) == 0) = false := by simp; exact hb
      cases x <;> simp [hb, hbb]
    ·rw [if_neg k1]
     by_cases k2 : k = 2
     ·refine Ev.step (fun q => by rw [p_Good.j0, if_neg k0, if_neg k1, if_pos k2]) ?_
      rw [if_pos k2]
      refine Ev.bind hg ?_
      refine Ev.of_eq (fun _ => ?_)
      by_cases hb : b = 0
      ·subst hb; cases good n l <;> cases y <;> simp
      ·have hbb : ((b : Int) == 0) = false := by simp; exact hb
       cases good n l <;> cases y <;> simp [hb, hbb]
     ·rw [if_neg k2]
      by_cases k3 : k = 3
      ·refine Ev.step (fun q => by rw [p_Good.j0, if_neg k0, if_neg k1, if_neg k2, if_pos k3]) ?_
       rw [if_pos k3]
       refine Ev.of_eq (fun _ => ?_)
       cases x <;> cases y <;> simp
      ·rw [if_neg k3]
       by_cases k4 : k = 4
       ·refine Ev.step (fun q => by rw [p_Good.j0, if_neg k0, if_neg k1, if_neg k2, if_neg k3, if_pos k4]) ?_
        rw [if_pos k4]
        refine Ev.of_eq (fun _ => ?_)
        by_cases hb : b = 0
        ·subst hb; cases x <;> cases y <;> simp
        ·have hbb : ((b : Int) == 0) = false := by simp; exact hb
         cases x <;> cases y <;> simp [hb, hbb]
       ·refine Ev.step (fun q => by rw [p_Good.j0, if_neg k0, if_neg k1, if_neg k2, if_neg k3, if_neg k4]) ?_
        rw [if_neg k4]; exact Ev.now _
  by_cases hn : n = true
  ·refine Ev.congr (fun k => by rw [if_pos hn]) ?_
   exact key false (by simp [hn])
  ·refine Ev.congr (fun k => by rw [if_neg hn]) ?_
   exact key _ (by simp [hn])
def Vl.num (v : Vl) : Bool := decide (v.k ≥ 1) && decide (v.k ≤ 3)
theorem num_eq (v : Vl) : p_number.f v.k v.y v.n v.l (v.b : Int) v.t v.i = some v.num := by
 unfold p_number.f Vl.num
 by_cases h : v.k ≥ 1
 ·rw [if_pos h, decide_eq_true h, Bool.true_and]
 ·rw [if_neg h, decide_eq_false h, Bool.false_and]
def Vl.cn (v : Vl) : Bool := if v.k = 1 then false else v.n
def Vl.cl (v : Vl) : List Int := if v.k = 1 then (if v.y then [1] else []) else v.l
def Vl.iv (v : Vl) : Int := SV v.cn v.cl
theorem count_eq (v : Vl) : p_count.f v.k v.y v.n v.l (v.b : Int) v.t v.i = some (v.cn, v.cl) := by
 unfold p_count.f Vl.cn Vl.cl
 by_cases h : v.k = 1
 ·rw [if_pos h, if_pos h, if_pos h]
  by_cases hy : v.y = true
  ·rw [if_pos hy, if_pos hy, of_small (by decide) (by decide)]; rfl
  ·rw [if_neg hy, if_neg hy]
 ·rw [if_neg h, if_neg h, if_neg h]
theorem goodC {v : Vl} (w : Wf v) (hg : v.gd = true) (hk : v.k = 1 ∨ v.k = 2) : GoodP v.cn v.cl := by
 unfold Vl.cn Vl.cl
 rcases hk with hk | hk
 ·rw [if_pos hk, if_pos hk]
  cases v.y
  ·exact ⟨by simp, Lm.nil, fun h => absurd rfl h, fun _ => rfl⟩
  ·exact ⟨by simp, Lm.one ⟨by decide, by decide⟩, fun _ => by decide, fun h => absurd h (by simp)⟩
 ·rw [if_neg (by omega), if_neg (by omega)]
  refine (good_iff w.u).1 ?_
  unfold Vl.gd at hg
  have hi : ¬ (v.i.length : Int) > 0 := fun h => by rw [if_pos h] at hg; exact absurd hg (by decide)
  rw [if_neg hi, if_neg (by omega), if_neg (by omega), if_pos hk] at hg
  simp only [Bool.and_eq_true] at hg
  exact hg.1.1.1
def ordN (a b : Vl) : Int × Bool :=
 if a.k = 3 ∧ b.k = 3 then fcmp a.b b.b else if a.k = 3 then fint a.b b.iv else if b.k = 3 then (-(fint b.b a.iv).1, (fint b.b a.iv).2) else (cmpI a.iv b.iv, true)
theorem cmpI_bd (x y : Int) : -1 ≤ cmpI x y ∧ cmpI x y ≤ 1 := by rcases cmpI_cases x y with ⟨_, e⟩ | ⟨_, e⟩ | ⟨_, e⟩ <;> rw [e] <;> decide
theorem fint_bd (b : Nat) (n : Int) : -1 ≤ (fint b n).1 ∧ (fint b n).1 ≤ 1 := by
 unfold fint
 have := cmpI_bd (val b) (n * U)
 split
 ·decide
 ·split
  ·cases Flt.ng b <;> decide
  ·exact this
theorem num_kinds {v : Vl} (h : v.num = true) : v.k = 1 ∨ v.k = 2 ∨ v.k = 3 := by
 unfold Vl.num at h
 simp only [Bool.and_eq_true, decide_eq_true_eq] at h
 omega
theorem order_ev {a b : Vl} (wa : Wf a) (wb : Wf b) (ga : a.gd = true) (gb : b.gd = true) (na : a.num = true) (nb : b.num = true) :
  Ev (fun k => p_order.f k a.k a.y a.n a.l (a.b : Int) a.t a.i b.k b.y b.n b.l (b.b : Int) b.t b.i) (ordN a b) := by
 have ka := num_kinds na; have kb := num_kinds nb
 unfold ordN
 have key : ∀ x : Bool, x = decide (a.k = 3 ∧ b.k = 3) → Ev (fun k => p_order.j0 k x a.k a.y a.n a.l (a.b : Int) a.t a.i b.k b.y b.n b.l (b.b : Int) b.t b.i) (if a.k = 3 ∧ b.k = 3 then fcmp a.b b.b else if a.k = 3 then fint a.b b.iv else if b.k = 3 then (-(fint b.b a.iv).1, (fint b.b a.iv).2) else (cmpI a.iv b.iv, true)) := by
  intro x hx
  by_cases h : a.k = 3 ∧ b.k = 3
  ·rw [decide_eq_true h] at hx
   subst hx
   rw [if_pos h]
   exact Ev.step (fun k => by rw [p_order.j0, if_pos rfl, cmp_eq, Option.bind_some]) (Ev.now _)
  ·rw [decide_eq_false h] at hx
   subst hx
   rw [if_neg h]
   by_cases h1 : a.k = 3
   ·rw [if_pos h1]
    have hb : b.k = 1 ∨ b.k = 2 := by
     rcases kb with h2 | h2 | h2
     ·exact .inl h2
     ·exact .inr h2
     ·exact absurd ⟨h1, h2⟩ h
    refine Ev.step (fun k => by rw [p_order.j0, if_neg (by decide), if_pos h1, count_eq, Option.bind_some]) ?_
    exact Ev.bind (cmpBig_ev wa.b1 (goodC wb gb hb)) (Ev.now _)
   ·rw [if_neg h1]
    have ha : a.k = 1 ∨ a.k = 2 := by omega
    by_cases h2 : b.k = 3
    ·rw [if_pos h2]
     refine Ev.step (fun k => by rw [p_order.j0, if_neg (by decide), if_neg h1, if_pos h2, count_eq, Option.bind_some]) ?_
     have bd := fint_bd b.b a.iv
     refine Ev.bind (cmpBig_ev wb.b1 (goodC wa ga ha)) ?_
     refine Ev.of_eq (fun _ => ?_)
     show some (wrap64 (-(fint b.b a.iv).1), _) = _
     rw [w64i (by omega) (by omega)]; rfl
    ·rw [if_neg h2]
     have hb : b.k = 1 ∨ b.k = 2 := by omega
     refine Ev.step (fun k => by rw [p_order.j0, if_neg (by decide), if_neg h1, if_neg h2, count_eq, Option.bind_some, count_eq, Option.bind_some]) ?_
     exact Ev.bind (cmp_ev (goodC wa ga ha) (goodC wb gb hb)) (Ev.now _)
 unfold p_order.f
 by_cases h : a.k = 3
 ·refine Ev.congr (fun k => by rw [if_pos h]) ?_
  refine key _ ?_
  rw [Bool.eq_iff_iff]; simp [h]
 ·refine Ev.congr (fun k => by rw [if_neg h]) ?_
  exact key _ (by simp [h])
theorem fcmp_swap (x y : Nat) : fcmp y x = (-(fcmp x y).1, (fcmp x y).2) := by
 unfold fcmp
 by_cases h : infR < rg x ∨ infR < rg y
 ·rw [if_pos h, if_pos (by omega)]; rfl
 ·rw [if_neg h, if_neg (by omega)]
  simp only [cmpI_swap (place x) (place y)]
theorem ordN_swap (a b : Vl) : ordN b a = (-(ordN a b).1, (ordN a b).2) := by
 unfold ordN
 by_cases h : a.k = 3 ∧ b.k = 3
 ·rw [if_pos h, if_pos ⟨h.2, h.1⟩, fcmp_swap]
 ·rw [if_neg h, if_neg (fun k => h ⟨k.2, k.1⟩)]
  by_cases h1 : a.k = 3
  ·have h2 : ¬ b.k = 3 := fun k => h ⟨h1, k⟩
   rw [if_pos h1, if_neg h2, if_pos h1]
  ·rw [if_neg h1]
   by_cases h2 : b.k = 3
   ·rw [if_pos h2, if_neg h1, if_pos h2]
    generalize fint b.b a.iv = p
    obtain ⟨p1, p2⟩ := p
    show (p1, p2) = (- -p1, p2)
    rw [Int.neg_neg]
   ·rw [if_neg h2, if_neg h2, if_neg h1]
    simp only [cmpI_swap a.iv b.iv]
def eqV (a b : Vl) : Bool := a.gd && b.gd && (if a.num && b.num then (ordN a b).2 && ((ordN a b).1 == 0) else decide (a.k = b.k) && (a.t.toList == b.t.toList))
theorem equal_ev {a b : Vl} (wa : Wf a) (wb : Wf b) :
  Ev (fun k => p_Equal.f k a.k a.y a.n a.l (a.b : Int) a.t a.i b.k b.y b.n b.l (b.b : Int) b.t b.i) (eqV a b) := by
 unfold p_Equal.f eqV
 refine Ev.bind (goodV_ev wa) ?_
 cases ga : a.gd
 ·refine Ev.congr (fun k => by rw [if_neg (by decide)]) ?_
  simp only [Bool.false_and]
  exact Ev.step (fun k => by rw [p_Equal.j0, if_pos rfl]) (Ev.now _)
 ·refine Ev.congr (fun k => by rw [if_pos rfl]) ?_
  refine Ev.bind (goodV_ev wb) ?_
  cases gb : b.gd
  ·simp only [Bool.true_and, Bool.false_and]
   exact Ev.step (fun k => by rw [p_Equal.j0, if_pos (by decide)]) (Ev.now _)
  ·simp only [Bool.true_and]
   refine Ev.step (fun k => by rw [p_Equal.j0, if_neg (by decide), num_eq, Option.bind_some]) ?_
   cases na : a.num
   ·refine Ev.congr (fun k => by rw [if_neg (by decide)]) ?_
    simp only [Bool.false_and, Bool.false_eq_true, if_false]
    refine Ev.of_eq (fun _ => ?_)
    by_cases h : a.k = b.k <;> simp [h]
   ·refine Ev.congr (fun k => by rw [if_pos rfl, num_eq, Option.bind_some]) ?_
    cases nb : b.num
    ·refine Ev.congr (fun k => by rw [if_neg (by decide)]) ?_
     simp only [Bool.and_false, Bool.false_eq_true, if_false]
     refine Ev.of_eq (fun _ => ?_)
     by_cases h : a.k = b.k <;> simp [h]
    ·refine Ev.congr (fun k => by rw [if_pos rfl]) ?_
     simp only [Bool.and_self, if_true]
     refine Ev.bind (order_ev wa wb ga gb na nb) ?_
     refine Ev.of_eq (fun _ => ?_)
     cases (ordN a b).2 <;> simp
theorem cmpB_swap : ∀ a b : List UInt8, Lib.compareBytes b a = -Lib.compareBytes a b
 | [], [] => rfl
 | [], _ :: _ => rfl
 | _ :: _, [] => rfl
 | a :: xs, b :: ys => by
  simp only [Lib.compareBytes]
  by_cases h1 : a < b
  ·have h2 : ¬ b < a := UInt8.not_lt.2 (UInt8.le_of_lt h1)
   rw [if_pos h1, if_neg h2, if_pos h1]; rfl
  ·rw [if_neg h1]
   by_cases h2 : b < a
   ·rw [if_pos h2, if_neg h1, if_pos h2]
   ·rw [if_neg h2, if_neg h1, if_neg h2]
    exact cmpB_swap xs ys
theorem cmpB_bd : ∀ a b : List UInt8, -1 ≤ Lib.compareBytes a b ∧ Lib.compareBytes a b ≤ 1
 | [], [] => by decide
 | [], _ :: _ => by simp only [Lib.compareBytes]; decide
 | _ :: _, [] => by simp only [Lib.compareBytes]; decide
 | a :: xs, b :: ys => by
  simp only [Lib.compareBytes]
  split
  ·decide
  ·split
   ·decide
   ·exact cmpB_bd xs ys
def ordV (a b : Vl) : Int × Bool × Int :=
 if (a.gd && b.gd) = false then (0, false, 3) else if (a.num && b.num) = true then ((ordN a b).1, (ordN a b).2, 0)
 else if a.k = 4 ∧ b.k = 4 then (Lib.compareBytes a.t.data.toList b.t.data.toList, true, 0) else (0, false, 9)
theorem ordV_ev {a b : Vl} (wa : Wf a) (wb : Wf b) :
  Ev (fun k => p_Order.f k a.k a.y a.n a.l (a.b : Int) a.t a.i b.k b.y b.n b.l (b.b : Int) b.t b.i) (ordV a b) := by
 unfold p_Order.f ordV
 refine Ev.bind (goodV_ev wa) ?_
 cases ga : a.gd
 ·refine Ev.congr (fun k => by rw [if_neg (by decide)]) ?_
  simp only [Bool.false_and, if_true]
  exact Ev.step (fun k => by rw [p_Order.j0, if_pos rfl]) (Ev.now _)
 ·refine Ev.congr (fun k => by rw [if_pos rfl]) ?_
  refine Ev.bind (goodV_ev wb) ?_
  cases gb : b.gd
  ·simp only [Bool.and_false, if_true]
   exact Ev.step (fun k => by rw [p_Order.j0, if_pos (by decide)]) (Ev.now _)
  ·simp only [Bool.and_self, Bool.true_eq_false, if_false]
   have rest : (a.num && b.num) = false → Ev (fun k => p_Order.j1 k false a.k a.y a.n a.l (a.b : Int) a.t a.i b.k b.y b.n b.l (b.b : Int) b.t b.i) (if a.k = 4 ∧ b.k = 4 then (Lib.compareBytes a.t.data.toList b.t.data.toList, true, 0) else (0, false, 9)) := by
    intro hn
    refine Ev.step (fun k => by rw [p_Order.j1, if_neg (by decide)]) ?_
    refine Ev.of_eq (fun _ => ?_)
    by_cases h1 : a.k = 4
    ·by_cases h2 : b.k = 4
     ·rw [if_pos h1, if_pos h2, if_pos ⟨h1, h2⟩]; rfl
     ·rw [if_pos h1, if_neg h2, if_neg (fun h => h2 h.2)]
    ·rw [if_neg h1, if_neg (fun h => h1 h.1)]
   refine Ev.step (fun k => by rw [p_Order.j0, if_neg (by decide), num_eq, Option.bind_some]) ?_
   cases na : a.num
   ·refine Ev.congr (fun k => by rw [if_neg (by decide)]) ?_
    simp only [Bool.false_and, Bool.false_eq_true, if_false]
    exact rest (by simp [na])
   ·refine Ev.congr (fun k => by rw [if_pos rfl, num_eq, Option.bind_some]) ?_
    cases nb : b.num
    ·simp only [Bool.and_false, Bool.false_eq_true, if_false]
     exact rest (by simp [nb])
    ·simp only [Bool.and_self, if_true]
     refine Ev.step (fun k => by rw [p_Order.j1, if_pos rfl]) ?_
     exact Ev.bind (order_ev wa wb ga gb na nb) (Ev.now _)
theorem ordV_swap (a b : Vl) : ordV b a = (-(ordV a b).1, (ordV a b).2.1, (ordV a b).2.2) := by
 unfold ordV
 rw [Bool.and_comm b.gd, Bool.and_comm b.num]
 split
 ·rfl
 ·split
  ·rw [ordN_swap a b]
  ·by_cases h : a.k = 4 ∧ b.k = 4
   ·rw [if_pos h, if_pos ⟨h.2, h.1⟩, cmpB_swap]
   ·rw [if_neg h, if_neg (fun k => h ⟨k.2, k.1⟩)]; rfl
theorem ordN_bd (a b : Vl) : -1 ≤ (ordN a b).1 ∧ (ordN a b).1 ≤ 1 := by
 unfold ordN
 split
 ·unfold fcmp; split
  ·decide
  ·exact cmpI_bd _ _
 ·split
  ·exact fint_bd _ _
  ·split
   ·have := fint_bd b.b a.iv
    simp only; omega
   ·exact cmpI_bd _ _
theorem ordV_bd (a b : Vl) : -1 ≤ (ordV a b).1 ∧ (ordV a b).1 ≤ 1 := by
 unfold ordV
 split
 ·decide
 ·split
  ·exact ordN_bd a b
  ·split
   ·exact cmpB_bd _ _
   ·decide
theorem eqV_swap (a b : Vl) : eqV b a = eqV a b := by
 unfold eqV
 rw [Bool.and_comm b.gd, Bool.and_comm b.num, ordN_swap a b]
 congr 1
 split
 ·congr 1
  rw [Bool.eq_iff_iff, beq_iff_eq, beq_iff_eq]
  simp only
  omega
 ·rw [Bool.eq_iff_iff]
  simp only [Bool.and_eq_true, decide_eq_true_eq, beq_iff_eq]
  exact ⟨fun h => ⟨h.1.symm, h.2.symm⟩, fun h => ⟨h.1.symm, h.2.symm⟩⟩
def rneg (b : Nat) : Int := if infR < rg b then 9221120237041090560 else ((b ^^^ 9223372036854775808 : Nat) : Int)
theorem rg_xor (b : Nat) : rg (b ^^^ 9223372036854775808) = rg b := by
 unfold rg
 rw [Nat.xor_mod_two_pow]
 simp only [Nat.reducePow, Nat.reduceMod, Nat.xor_zero]
theorem rneg_eq (b : Nat) : e_Neg.f (b : Int) = some (rneg b) := by
 have e : Op.negFloat .f64 b = b ^^^ 9223372036854775808 := rfl
 unfold e_Neg.f e_bare.f rneg
 rw [Int.toNat_natCast, e, nan_iff, rg_xor]
 by_cases h : infR < rg b
 ·rw [decide_eq_true h, if_pos rfl, if_pos h]; rfl
 ·rw [decide_eq_false h, if_neg (by decide), if_neg h]; rfl
theorem rneg_inj {a b : Nat} (ha : ¬ infR < rg a) (h : rneg a = rneg b) : a = b := by
 unfold rneg at h
 rw [if_neg ha] at h
 by_cases hb : infR < rg b
 ·rw [if_pos hb] at h
  have e : a ^^^ 9223372036854775808 = 9221120237041090560 := by omega
  have := rg_xor a
  rw [e] at this
  have h2 : rg 9221120237041090560 = 9221120237041090560 := by decide
  have hi := infR_eq
  omega
 ·rw [if_neg hb] at h
  have e : a ^^^ 9223372036854775808 = b ^^^ 9223372036854775808 := by omega
  have e2 : (a ^^^ 9223372036854775808) ^^^ 9223372036854775808 = (b ^^^ 9223372036854775808) ^^^ 9223372036854775808 := by rw [e]
  rwa [Nat.xor_assoc, Nat.xor_assoc, Nat.xor_self, Nat.xor_zero, Nat.xor_zero] at e2
def sameV (a b : Vl) : Bool := a.gd && b.gd && decide (a.k = b.k) && (if a.k = 2 then cmpI (SV a.n a.l) (SV b.n b.l) == 0 else if a.k = 3 then rneg a.b == rneg b.b else (a.y == b.y) && (a.t.toList == b.t.toList))
theorem same_ev {a b : Vl} (wa : Wf a) (wb : Wf b) :
  Ev (fun k => p_Same.f k a.k a.y a.n a.l (a.b : Int) a.t a.i b.k b.y b.n b.l (b.b : Int) b.t b.i) (sameV a b) := by
 unfold p_Same.f sameV
 refine Ev.bind (goodV_ev wa) ?_
 cases ga : a.gd
 ·refine Ev.congr (fun k => by rw [if_neg (by decide)]) ?_
  simp only [Bool.false_and]
  exact Ev.step (fun k => by rw [p_Same.j0, if_pos rfl]) (Ev.now _)
 ·refine Ev.congr (fun k => by rw [if_pos rfl]) ?_
  refine Ev.bind (goodV_ev wb) ?_
  cases gb : b.gd
  ·refine Ev.congr (fun k => by rw [if_neg (by decide)]) ?_
   simp only [Bool.and_false, Bool.false_and]
   exact Ev.step (fun k => by rw [p_Same.j0, if_pos rfl]) (Ev.now _)
  ·refine Ev.congr (fun k => by rw [if_pos rfl]) ?_
   simp only [Bool.true_and]
   by_cases hk : a.k = b.k
   ·rw [decide_eq_true hk, Bool.true_and]
    have hx : (a.k != b.k) = false := by simp [hk]
    refine Ev.congr (fun k => by rw [hx]) ?_
    by_cases h2 : a.k = 2
    ·rw [if_pos h2]
     have g1 := goodC wa ga (.inr h2); have g2 := goodC wb gb (.inr (by omega))
     unfold Vl.cn Vl.cl at g1 g2
     rw [if_neg (by omega), if_neg (by omega)] at g1 g2
     refine Ev.step (fun k => by rw [p_Same.j0, if_neg (by decide), if_pos h2]) ?_
     exact Ev.bind (cmp_ev g1 g2) (Ev.now _)
    ·rw [if_neg h2]
     by_cases h3 : a.k = 3
     ·rw [if_pos h3]
      exact Ev.step (fun k => by rw [p_Same.j0, if_neg (by decide), if_neg h2, if_pos h3, rneg_eq, Option.bind_some, rneg_eq, Option.bind_some]) (Ev.now _)
     ·rw [if_neg h3]
      refine Ev.step (fun k => by rw [p_Same.j0, if_neg (by decide), if_neg h2, if_neg h3]) ?_
      refine Ev.of_eq (fun _ => ?_)
      cases (a.y == b.y) <;> simp
   ·rw [decide_eq_false hk, Bool.false_and]
    have hx : (a.k != b.k) = true := by simp [hk]
    refine Ev.congr (fun k => by rw [hx]) ?_
    exact Ev.step (fun k => by rw [p_Same.j0, if_pos rfl]) (Ev.now _)
theorem sameV_swap (a b : Vl) : sameV b a = sameV a b := by
 unfold sameV
 rw [Bool.and_comm b.gd]
 by_cases hk : a.k = b.k
 ·rw [decide_eq_true hk, decide_eq_true hk.symm, ← hk]
  congr 1
  split
  ·rw [cmpI_swap (SV a.n a.l)]
   rw [Bool.eq_iff_iff, beq_iff_eq, beq_iff_eq]; omega
  ·split
   ·rw [Bool.eq_iff_iff, beq_iff_eq, beq_iff_eq]; exact ⟨Eq.symm, Eq.symm⟩
   ·rw [Bool.eq_iff_iff]
    simp only [Bool.and_eq_true, beq_iff_eq]
    exact ⟨fun h => ⟨h.1.symm, h.2.symm⟩, fun h => ⟨h.1.symm, h.2.symm⟩⟩
 ·rw [decide_eq_false hk, decide_eq_false (fun h => hk h.symm)]; simp
def hI (n : Int) : Int := if n < 0 then -((-n) % 2147483647) else n % 2147483647
theorem hI_of {v : Vl} (g : GoodP v.cn v.cl) : (if v.cn then -(VB E18 v.cl % 2147483647) else VB E18 v.cl % 2147483647) = hI v.iv := by
 unfold hI Vl.iv SV
 have p := VB_nonneg (B := E18) (by decide) g.lm
 cases hn : v.cn
 ·simp only [Bool.false_eq_true, if_false]
  rw [if_neg (by omega)]
 ·simp only [if_true]
  have := VB_pos (B := E18) (by decide) g.lm g.nz (fun e => by have := g.sg e; rw [hn] at this; exact absurd this (by decide))
  rw [if_pos (by omega), Int.neg_neg]
def hsV (v : Vl) : Int := if v.gd = false then 0 else if v.k = 0 then 1 else if v.k = 3 then hF v.b else if v.k = 4 then strH v.t.data.toList v.t.size else hI v.iv
theorem gd_kinds {v : Vl} (h : v.gd = true) : v.k = 0 ∨ v.k = 1 ∨ v.k = 2 ∨ v.k = 3 ∨ v.k = 4 := by
 by_cases h0 : v.k = 0
 ·exact .inl h0
 by_cases h1 : v.k = 1
 ·exact .inr (.inl h1)
 by_cases h2 : v.k = 2
 ·exact .inr (.inr (.inl h2))
 by_cases h3 : v.k = 3
 ·exact .inr (.inr (.inr (.inl h3)))
 by_cases h4 : v.k = 4
 ·exact .inr (.inr (.inr (.inr h4)))
 unfold Vl.gd at h
 rw [if_neg h0, if_neg h1, if_neg h2, if_neg h3, if_neg h4] at h
 simp at h
theorem hash_ev' {v : Vl} (w : Wf v) : Ev (fun k => p_Hash.f k v.k v.y v.n v.l (v.b : Int) v.t v.i) (hsV v) := by
 unfold p_Hash.f hsV
 refine Ev.bind (goodV_ev w) ?_
 cases g : v.gd
 ·simp only [if_true]
  exact Ev.congr (fun k => by rw [if_neg (by decide)]) (Ev.now _)
 ·simp only [Bool.true_eq_false, if_false]
  refine Ev.congr (fun k => by rw [if_pos trivial]) ?_
  by_cases h0 : v.k = 0
  ·rw [if_pos h0]; exact Ev.congr (fun k => by rw [if_pos h0]) (Ev.now _)
  ·rw [if_neg h0]
   by_cases h3 : v.k = 3
   ·rw [if_pos h3]
    refine Ev.congr (fun k => by rw [if_neg h0, if_pos h3]) ?_
    exact Ev.bind (hash_ev w.b1) (Ev.now _)
   ·rw [if_neg h3]
    by_cases h4 : v.k = 4
    ·rw [if_pos h4]
     exact Ev.congr (fun k => by rw [if_neg h0, if_neg h3, if_pos h4]) (Ev.now _)
    ·rw [if_neg h4]
     have hk : v.k = 1 ∨ v.k = 2 := by have := gd_kinds g; omega
     have gc := goodC w g hk
     refine Ev.congr (fun k => by rw [if_neg h0, if_neg h3, if_neg h4, count_eq, Option.bind_some]) ?_
     have := hbig_ev gc
     rw [hI_of gc] at this
     exact Ev.bind this (Ev.now _)
def trV (v : Vl) : Bool := v.gd && (if v.k = 1 then v.y else if v.k = 2 then decide (0 < v.l.length) else if v.k = 3 then (IntKind.u64.wrap ((v.b : Int) * 2)) != 0 else v.t.toList != ([] : List UInt8))
theorem truth_ev {v : Vl} (w : Wf v) : Ev (fun k => p_Truth.f k v.k v.y v.n v.l (v.b : Int) v.t v.i) (trV v) := by
 unfold p_Truth.f trV
 refine Ev.bind (goodV_ev w) ?_
 cases g : v.gd
 ·exact Ev.congr (fun k => by rw [if_neg (by decide), Bool.false_and]) (Ev.now _)
 ·simp only [Bool.true_and]
  refine Ev.of_eq (fun _ => ?_)
  rw [if_pos trivial]
  split
  ·rfl
  ·split
   ·rfl
   ·split
    ·rfl
    ·rfl
theorem tr_float {b : Nat} (hb : b < 18446744073709551616) : ((IntKind.u64.wrap ((b : Int) * 2)) != 0) = decide (rg b ≠ 0) := by
 rw [w64m, Bool.eq_iff_iff]
 unfold rg
 simp only [bne_iff_ne, decide_eq_true_eq]
 omega
theorem iv_zero {v : Vl} (w : Wf v) (g : v.gd = true) (hk : v.k = 1 ∨ v.k = 2) : trV v = decide (v.iv ≠ 0) := by
 have gc := goodC w g hk
 unfold trV
 rw [g, Bool.true_and]
 rcases hk with hk | hk
 ·rw [if_pos hk]
  unfold Vl.iv Vl.cn Vl.cl SV
  rw [if_pos hk, if_pos hk]
  cases v.y <;> simp [VB]
 ·rw [if_neg (by omega), if_pos hk]
  have e : v.cl = v.l := by unfold Vl.cl; rw [if_neg (by omega)]
  have hz : v.iv = 0 ↔ VB E18 v.l = 0 := by
   unfold Vl.iv SV; rw [e]; split <;> omega
  rw [Bool.eq_iff_iff]
  simp only [decide_eq_true_eq]
  rw [e] at gc
  constructor
  ·intro h h0
   have := VB_pos (B := E18) (by decide) gc.lm gc.nz (by intro e2; rw [e2] at h; simp at h)
   rw [hz] at h0; omega
  ·intro h
   rcases Nat.eq_zero_or_pos v.l.length with h1 | h1
   ·exact absurd (hz.2 (by rw [List.eq_nil_of_length_eq_zero h1]; rfl)) h
   ·exact h1
theorem eq_fi {b : Nat} {n : Int} (hb : b < 18446744073709551616) (h2 : (fint b n).2 = true) (h1 : (fint b n).1 = 0) : hF b = hI n ∧ (rg b ≠ 0 ↔ n ≠ 0) := by
  unfold fint at h1 h2
  by_cases hn : infR < rg b
  · rw [if_pos hn] at h2; exact absurd h2 (by decide)
  rw [if_neg hn] at h1 h2
  by_cases hi : rg b = infR
  · rw [if_pos hi] at h1
    cases hs : Flt.ng b <;> rw [hs] at h1 <;> exact absurd h1 (by decide)
  rw [if_neg hi] at h1
  have hv : val b = n * U := by
    rcases cmpI_cases (val b) (n * U) with ⟨_, e⟩ | ⟨a, _⟩ | ⟨_, e⟩
    · simp only at h1; omega
    · exact a
    · simp only at h1; omega
  have hU := U_pos
  have mz : mg (rg b) = 0 ↔ rg b = 0 := by
    have z : mg 0 = 0 := by decide
    rw [← z, mg_eq]
    rw [z]
  have pl : place b = sgn (Flt.ng b) (rg b) := rfl
  unfold hF hI hsign
  rw [if_neg hn, if_neg hi, pl]
  unfold val at hv
  have key : ∀ T : Nat, (mg (rg b) : Int) = (T : Int) * U → hm (rg b) = T % 2147483647 := by
    intro T h
    refine hm_whole ?_
    have : ((T * 2 ^ 1074 : Nat) : Int) = (T : Int) * U := by unfold U; rw [Int.natCast_mul]
    omega
  rcases Int.lt_trichotomy n 0 with h | h | h
  · obtain ⟨T, hT⟩ : ∃ T : Nat, n = -(T : Int) := ⟨n.natAbs, by omega⟩
    have hneg : n * U < 0 := Int.mul_neg_of_neg_of_pos h hU
    have hs : Flt.ng b = true := by
      cases hs : Flt.ng b
      · rw [hs] at hv; unfold sgn at hv; simp only [Bool.false_eq_true, if_false] at hv; omega
      · rfl
    rw [hs] at hv ⊢
    unfold sgn at hv ⊢
    simp only [if_true] at hv ⊢
    have hm' := key T (by rw [hT, Int.neg_mul] at hv; omega)
    have r0 : rg b ≠ 0 := fun e => by rw [e] at hv; have : mg 0 = 0 := by decide
                                      rw [this] at hv; omega
    refine ⟨?_, by omega⟩
    rw [if_pos h, if_pos (by omega), hm', hT]
    omega
  · subst h
    have m0 : mg (rg b) = 0 := by
      unfold sgn at hv
      split at hv <;> omega
    have r0 := mz.1 m0
    refine ⟨?_, by omega⟩
    rw [r0]
    have : hm 0 = 0 := by decide
    rw [this]
    simp
  · obtain ⟨T, hT⟩ : ∃ T : Nat, n = (T : Int) := ⟨n.natAbs, by omega⟩
    have hpos : 0 < n * U := Int.mul_pos h hU
    have hs : Flt.ng b = false := by
      cases hs : Flt.ng b
      · rfl
      · rw [hs] at hv; unfold sgn at hv; simp only [if_true] at hv; omega
    rw [hs] at hv ⊢
    unfold sgn at hv ⊢
    simp only [Bool.false_eq_true, if_false] at hv ⊢
    have hm' := key T (by rw [hT] at hv; omega)
    have r0 : rg b ≠ 0 := fun e => by rw [e] at hv; have : mg 0 = 0 := by decide
                                      rw [this] at hv; omega
    refine ⟨?_, by omega⟩
    rw [if_neg (by omega), if_neg (by omega), hm', hT]
    omega
theorem eq_ff {x y : Nat} (h2 : (fcmp x y).2 = true) (h1 : (fcmp x y).1 = 0) : hF x = hF y ∧ (rg x ≠ 0 ↔ rg y ≠ 0) := by
 unfold fcmp at h1 h2
 by_cases hn : infR < rg x ∨ infR < rg y
 ·rw [if_pos hn] at h2; exact absurd h2 (by decide)
 rw [if_neg hn] at h1
 have hp : place x = place y := by
  rcases cmpI_cases (place x) (place y) with ⟨_, e⟩ | ⟨a, _⟩ | ⟨_, e⟩
  ·simp only at h1; omega
  ·exact a
  ·simp only at h1; omega
 have hr : rg x = rg y := by
  unfold place at hp
  split at hp <;> split at hp <;> omega
 refine ⟨?_, by omega⟩
 unfold hF hsign
 rw [hp, hr]
theorem agree {a b : Vl} (wa : Wf a) (wb : Wf b) (h : eqV a b = true) : hsV a = hsV b ∧ trV a = trV b ∧ (ordV a b).1 = 0 := by
 unfold eqV at h
 simp only [Bool.and_eq_true] at h
 obtain ⟨⟨ga, gb⟩, h⟩ := h
 by_cases hn : (a.num = true ∧ b.num = true)
 ·rw [if_pos hn] at h
  simp only [Bool.and_eq_true, beq_iff_eq] at h
  have ka := num_kinds hn.1; have kb := num_kinds hn.2
  refine ⟨?_, ?_, by unfold ordV; rw [ga, gb, hn.1, hn.2]; simp; exact h.2⟩
  all_goals
   unfold ordN at h
   by_cases h3 : a.k = 3
   ·by_cases h4 : b.k = 3
    ·rw [if_pos ⟨h3, h4⟩] at h
     have e := eq_ff h.1 h.2
     first
      | (unfold hsV; rw [ga, gb]; simp [h3, h4]; exact e.1)
      | (unfold trV; rw [ga, gb, tr_float wa.b1, tr_float wb.b1]; simp only [h3, h4]; simp; have := e.2; omega)
    ·rw [if_neg (fun k => h4 k.2), if_pos h3] at h
     have hk : b.k = 1 ∨ b.k = 2 := by omega
     have e := eq_fi wa.b1 h.1 h.2
     first
      | (unfold hsV; rw [ga, gb]; rcases hk with hk | hk <;> simp [h3, hk] <;> exact e.1)
      | (rw [iv_zero wb gb hk]; unfold trV; rw [ga, tr_float wa.b1]; simp only [h3]; simp; have := e.2; omega)
   ·by_cases h4 : b.k = 3
    ·rw [if_neg (fun k => h3 k.1), if_neg h3, if_pos h4] at h
     have hk : a.k = 1 ∨ a.k = 2 := by omega
     have e := eq_fi wb.b1 h.1 (by have := h.2; simp only at this; omega)
     first
      | (unfold hsV; rw [ga, gb]; rcases hk with hk | hk <;> simp [h4, hk] <;> exact e.1.symm)
      | (rw [iv_zero wa ga hk]; unfold trV; rw [gb, tr_float wb.b1]; simp only [h4]; simp; have := e.2; omega)
    ·rw [if_neg (fun k => h3 k.1), if_neg h3, if_neg h4] at h
     have hka : a.k = 1 ∨ a.k = 2 := by omega
     have hkb : b.k = 1 ∨ b.k = 2 := by omega
     have e : a.iv = b.iv := by
      have h2 := h.2
      rcases cmpI_cases a.iv b.iv with ⟨_, e⟩ | ⟨q, _⟩ | ⟨_, e⟩
      ·simp only at h2; omega
      ·exact q
      ·simp only at h2; omega
     first
      | (unfold hsV; rw [ga, gb]; rcases hka with hka | hka <;> rcases hkb with hkb | hkb <;> simp [hka, hkb, e])
      | (rw [iv_zero wa ga hka, iv_zero wb gb hkb, e])
 ·rw [if_neg hn] at h
  simp only [Bool.and_eq_true, decide_eq_true_eq, beq_iff_eq] at h
  obtain ⟨hk, ht⟩ := h
  have nn : a.num = false ∧ b.num = false := by
   have e : a.num = b.num := by unfold Vl.num; rw [hk]
   cases h1 : a.num
   ·exact ⟨rfl, by rw [← e, h1]⟩
   ·exact absurd ⟨h1, by rw [← e, h1]⟩ hn
  have hk2 : a.k = 0 ∨ a.k = 4 := by
   have := gd_kinds ga
   have n1 := nn.1
   unfold Vl.num at n1
   simp only [Bool.and_eq_false_iff, decide_eq_false_iff_not] at n1
   omega
  have ht2 : a.t.data.toList = b.t.data.toList := by rw [← ByteArray.toList_eq, ← ByteArray.toList_eq]; exact ht
  have hsz : a.t.size = b.t.size := by
   have h1 : a.t.size = a.t.data.toList.length := by simp
   have h2 : b.t.size = b.t.data.toList.length := by simp
   rw [h1, h2, ht2]
  have self : ∀ l : List UInt8, Lib.compareBytes l l = 0 := by
   intro l
   have := cmpB_swap l l
   omega
  refine ⟨?_, ?_, ?_⟩
  ·unfold hsV
   rw [ga, gb, ← hk, ht2, hsz]
   rcases hk2 with h | h <;> simp [h]
  ·unfold trV
   rw [ga, gb, ← hk, ht]
   rcases hk2 with h | h <;> simp [h]
  ·unfold ordV
   rw [ga, gb, nn.1, nn.2, ← hk, ht2, self]
   rcases hk2 with h | h <;> simp [h]
theorem same_eq {a b : Vl} (wa : Wf a) (wb : Wf b) (h : sameV a b = true) : eqV a b = true ∨ (a.k = 3 ∧ infR < rg a.b ∧ a.gd = true) := by
 unfold sameV at h
 simp only [Bool.and_eq_true, decide_eq_true_eq] at h
 obtain ⟨⟨⟨ga, gb⟩, hk⟩, h⟩ := h
 have kk := gd_kinds ga
 by_cases h2 : a.k = 2
 ·left
  rw [if_pos h2, beq_iff_eq] at h
  have e : a.iv = b.iv := by
   unfold Vl.iv Vl.cn Vl.cl
   rw [if_neg (by omega), if_neg (by omega), if_neg (by omega), if_neg (by omega)]
   rcases cmpI_cases (SV a.n a.l) (SV b.n b.l) with ⟨_, e⟩ | ⟨q, _⟩ | ⟨_, e⟩
   ·omega
   ·exact q
   ·omega
  unfold eqV ordN Vl.num
  rw [ga, gb, ← hk, h2, e, cmpI_eq rfl]
  simp
 ·rw [if_neg h2] at h
  by_cases h3 : a.k = 3
  ·rw [if_pos h3, beq_iff_eq] at h
   by_cases hn : infR < rg a.b
   ·exact .inr ⟨h3, hn, ga⟩
   ·left
    have e := rneg_inj hn h
    have eo : ordN a b = (0, true) := by
     unfold ordN
     rw [if_pos ⟨h3, by omega⟩]
     unfold fcmp
     rw [← e, if_neg (by omega), cmpI_eq rfl]
    unfold eqV Vl.num
    rw [ga, gb, eo, ← hk, h3]
    simp
  ·rw [if_neg h3] at h
   simp only [Bool.and_eq_true, beq_iff_eq] at h
   left
   by_cases h1 : a.k = 1
   ·have e : a.iv = b.iv := by
     unfold Vl.iv Vl.cn Vl.cl
     rw [← hk, h.1, if_pos h1, if_pos h1, if_pos h1, if_pos h1]
    unfold eqV ordN Vl.num
    rw [ga, gb, ← hk, h1, e, cmpI_eq rfl]
    simp
   ·unfold eqV Vl.num
    rw [ga, gb, ← hk, h.2]
    have : a.k = 0 ∨ a.k = 4 := by omega
    rcases this with h0 | h0 <;> rw [h0] <;> simp
set_option maxRecDepth 100000 in
theorem known_eq : w5_known.f 60 = some true := by decide +kernel
theorem known_ev : Ev (fun k => w5_known.f k) true := Ev.of w5_known.mono known_eq
theorem isNaN_ev {b : Nat} (hb : b < 18446744073709551616) : r3_IsNaN.f (b : Int) = some (decide (infR < rg b)) := by
 unfold r3_IsNaN.f
 rw [show (9223372036854775807 : Int) = ((9223372036854775807 : Nat) : Int) from rfl, and64 _ _ hb (by decide)]
 rw [show (9223372036854775807 : Nat) = 2 ^ 63 - 1 by decide, and_low]
 have hi := infR_eq
 congr 1
 rw [Bool.eq_iff_iff]
 simp only [decide_eq_true_eq]
 unfold rg
 omega
theorem refGood3 {v : Vl} (hk : v.k = 3) : ∃ r, Ev (fun k => r5_Good.f k v.k v.y v.n v.l (v.b : Int) v.t v.i) r ∧ (v.gd = true → r = true) := by
 obtain ⟨k, y, n, l, b, t, i⟩ := v
 simp only at hk
 subst hk
 unfold r5_Good.f Vl.gd Vl.bare
 simp only
 have j1 : ∀ x, ∃ r, Ev (fun k => r5_Good.j1 k x 3 y n l (b : Int) t i) r ∧ (x = false → n = false → (l.length : Int) = 0 → t.toList = [] → r = true) := by
  intro x
  cases x
  ·cases n
   ·by_cases hl : (l.length : Int) = 0
    ·refine ⟨decide ((t.size : Int) ≤ 20000), Ev.step (fun k => by rw [r5_Good.j1, if_neg (by decide), if_neg (by decide), if_neg (by decide), if_pos hl]) (Ev.now _), fun _ _ _ ht => ?_⟩
     have h2 : t.data.toList = [] := by rw [← ByteArray.toList_eq]; exact ht
     have h1 : t.size = t.data.toList.length := by simp
     rw [h1, h2]; decide
    ·exact ⟨false, Ev.step (fun k => by rw [r5_Good.j1, if_neg (by decide), if_neg (by decide), if_neg (by decide), if_neg hl]) (Ev.now _), fun _ _ h => absurd h hl⟩
   ·exact ⟨false, Ev.step (fun k => by rw [r5_Good.j1, if_neg (by decide), if_neg (by decide), if_pos rfl]) (Ev.now _), fun _ h => absurd h (by decide)⟩
  ·exact ⟨false, Ev.step (fun k => by rw [r5_Good.j1, if_pos rfl]) (Ev.now _), fun h => absurd h (by decide)⟩
 by_cases hi : (i.length : Int) = 0
 ·have hx : ((i.length : Int) != 0) = false := by simp [hi]
  by_cases hy : y = true
  ·obtain ⟨r, h1, h2⟩ := j1 true
   refine ⟨r, ?_, fun h => ?_⟩
   ·refine Ev.congr (fun k => by rw [if_neg (by decide), if_neg (by decide), hx]) ?_
    exact Ev.step (fun k => by rw [r5_Good.j0, if_neg (by decide), if_neg (by decide), if_pos hy]) h1
   ·rw [if_neg (by omega), if_neg (by decide), if_neg (by decide), if_neg (by decide), if_pos trivial, hy] at h
    simp at h
  ·obtain ⟨r, h1, h2⟩ := j1 (t.toList != ([] : List UInt8))
   refine ⟨r, ?_, fun h => ?_⟩
   ·refine Ev.congr (fun k => by rw [if_neg (by decide), if_neg (by decide), hx]) ?_
    exact Ev.step (fun k => by rw [r5_Good.j0, if_neg (by decide), if_neg (by decide), if_neg hy, if_pos rfl, if_neg (by decide)]) h1
   ·rw [if_neg (by omega), if_neg (by decide), if_neg (by decide), if_neg (by decide), if_pos trivial] at h
    simp only [Bool.and_eq_true, beq_iff_eq, Bool.not_eq_true'] at h
    exact h2 (by rw [h.2]; rfl) h.1.1.1 h.1.1.2 h.2
 ·have hx : ((i.length : Int) != 0) = true := by rw [bne_iff_ne]; exact hi
  refine ⟨false, ?_, fun h => ?_⟩
  ·refine Ev.congr (fun k => by rw [if_neg (by decide), if_neg (by decide), hx]) ?_
   exact Ev.step (fun k => by rw [r5_Good.j0, if_pos rfl]) (Ev.now _)
  ·rw [if_pos (by omega)] at h; exact absurd h (by decide)
theorem agree_ev {a b : Vl} (wa : Wf a) (wb : Wf b) :
  Ev (fun k => w5_PlainAgree.f k a.k a.y a.n a.l (a.b : Int) a.t a.i b.k b.y b.n b.l (b.b : Int) b.t b.i) true := by
 have oab := ordV_ev wa wb; have oba := ordV_ev wb wa
 have eab := equal_ev wa wb; have eba := equal_ev wb wa
 have sab := same_ev wa wb; have sba := same_ev wb wa
 have sw := ordV_swap a b
 have bd := ordV_bd a b
 have tail : Ev (fun k => (p_Same.f k a.k a.y a.n a.l (a.b : Int) a.t a.i b.k b.y b.n b.l (b.b : Int) b.t b.i).bind fun t => (if t = true then ((p_Equal.f k a.k a.y a.n a.l (a.b : Int) a.t a.i b.k b.y b.n b.l (b.b : Int) b.t b.i).bind fun u => (if u = true then (some true) else (if a.k = 3 then some true else none))) else (some true))) true := by
  refine Ev.bind sab ?_
  cases h : sameV a b
  ·exact Ev.congr (fun k => by rw [if_neg (by decide)]) (Ev.now _)
  ·refine Ev.congr (fun k => by rw [if_pos rfl]) ?_
   refine Ev.bind eab ?_
   rcases same_eq wa wb h with h1 | ⟨h1, _⟩
   ·rw [h1]; exact Ev.congr (fun k => by rw [if_pos rfl]) (Ev.now _)
   ·cases eqV a b
    ·exact Ev.congr (fun k => by rw [if_neg (by decide), if_pos h1]) (Ev.now _)
    ·exact Ev.congr (fun k => by rw [if_pos rfl]) (Ev.now _)
 have j0 : Ev (fun k => w5_PlainAgree.j0 k false a.k a.y a.n a.l (a.b : Int) a.t a.i b.k b.y b.n b.l (b.b : Int) b.t b.i) true := by
  by_cases h3 : a.k = 3
  ·obtain ⟨r, hr, hg⟩ := refGood3 h3
   refine Ev.step (fun k => by rw [w5_PlainAgree.j0, if_neg (by decide), if_pos h3]) ?_
   refine Ev.bind hr ?_
   cases r
   ·refine Ev.congr (fun k => by rw [if_neg (by decide)]) ?_
    refine Ev.bind sab ?_
    cases h : sameV a b
    ·exact Ev.congr (fun k => by rw [if_neg (by decide)]) (Ev.now _)
    ·exfalso
     have ga : a.gd = true := by
      unfold sameV at h
      simp only [Bool.and_eq_true] at h
      exact h.1.1.1
     exact absurd (hg ga) (by decide)
   ·refine Ev.congr (fun k => by rw [if_pos rfl, isNaN_ev wa.b1, Option.bind_some]) ?_
    refine Ev.bind sab ?_
    cases h : sameV a b
    ·exact Ev.congr (fun k => by rw [if_neg (by decide)]) (Ev.now _)
    ·refine Ev.congr (fun k => by rw [if_pos rfl]) ?_
     refine Ev.bind eab ?_
     rcases same_eq wa wb h with h1 | ⟨_, h1, _⟩
     ·rw [h1]; exact Ev.congr (fun k => by rw [if_pos rfl]) (Ev.now _)
     ·rw [decide_eq_true h1]
      cases eqV a b
      ·exact Ev.congr (fun k => by rw [if_neg (by decide)]) (Ev.now _)
      ·exact Ev.congr (fun k => by rw [if_pos rfl]) (Ev.now _)
  ·refine Ev.step (fun k => by rw [w5_PlainAgree.j0, if_neg (by decide), if_neg h3]) ?_
   refine Ev.congr (fun k => ?_) tail
   simp only [if_neg h3]
 unfold w5_PlainAgree.f
 refine Ev.bind known_ev ?_
 refine Ev.congr (fun k => by rw [if_pos rfl]) ?_
 refine Ev.bind oab ?_
 refine Ev.bind oba ?_
 rw [sw]
 simp only
 have e1 : (ordV a b).1 = wrap64 (- -(ordV a b).1) := by rw [w64i (by omega) (by omega)]; omega
 have e2 : ∀ x : Bool, (x != x) = false := by intro x; cases x <;> rfl
 refine Ev.congr (fun k => by rw [if_pos e1, e2, if_neg (by decide), if_pos trivial]) ?_
 refine Ev.bind eab ?_
 refine Ev.bind eba ?_
 rw [eqV_swap a b]
 refine Ev.congr (fun k => by rw [e2, if_neg (by decide)]) ?_
 refine Ev.bind sab ?_
 refine Ev.bind sba ?_
 rw [sameV_swap a b]
 refine Ev.congr (fun k => by rw [e2, if_neg (by decide)]) ?_
 refine Ev.bind eab ?_
 cases h : eqV a b
 ·refine Ev.congr (fun k => by rw [if_neg (by decide)]) ?_
  exact j0
 ·obtain ⟨h1, h2, h3⟩ := agree wa wb h
  refine Ev.congr (fun k => by rw [if_pos rfl]) ?_
  refine Ev.bind (hash_ev' wa) ?_
  refine Ev.bind (hash_ev' wb) ?_
  refine Ev.congr (fun k => by rw [if_pos h1]) ?_
  refine Ev.bind (truth_ev wa) ?_
  refine Ev.bind (truth_ev wb) ?_
  rw [h2]
  refine Ev.congr (fun k => by rw [e2, if_neg (by decide), h3]) ?_
  exact j0
end Go.Proofs.YtkenmmfplnheaaaGreatDoor.P
