/- The kit's words as printed for this seat, the kit's contracts at this dump, and own words beside them: those that this claim names. -/
import Derived.Laws.CopyOwn
import Derived.Lib.Hide
import Ieee.Arith
import Derived.WalkLawsBesides
import Derived.Laws.Externs
import Derived.Test.YtkenmmfplnheaaaGreatDoorProg
import Derived.Shelf.Small.Strs
import Derived.Shelf.Strconv.Itoa0
import Derived.Shelf.Strings.Search1
import Derived.Shelf.Strings.Search2
import Derived.Shelf.Strings.Search3
import Derived.Shelf.LaysM
import Derived.Shelf.Strings.Shaped
import Derived.Shelf.Bits.Mul64
import Derived.Lib.Builder
import Derived.Lib.AppendStr
import Derived.Lib.UnsafeStr
import Derived.Shelf.RegionOpenPlain
import Derived.WalkKit
import Derived.Below
import Derived.Deep.Draws
import Derived.Deep.AppendLies
import Derived.Maps.AppendAt
import Derived.OwnWalk
import Derived.Laws.BytesArg
import Derived.Laws.MakeOwn
import Derived.Laws.OwnMore
import Derived.Deep.OwnRows
import Derived.Tactics
import Derived.Lib.ConvBytes
import Derived.Laws.Slices
import Derived.KernelRfl
import Derived.RowKit3
import Derived.Deep.LoopGhost
import Derived.Deep.QuietTactic
import Derived.BigQuiet
import Derived.WideLaws
import Derived.Deep.DeepCutAuto
import Derived.Deep.CutBlock
import Derived.Deep.RegionHeld3
import Derived.Laws.Rows
import Derived.ArgAppend
import Derived.Laws.IdiomCopy
import Derived.OrdersHeld
import Derived.Laws.BitsLemmas
import Derived.RowKit
import Derived.Test.YtkenmmfplnheaaaGreatDoorKit1
set_option linter.unusedVariables false
namespace Go.Proofs.YtkenmmfplnheaaaGreatDoor.Giv
open Go.RowKit Go.Proofs.YtkenmmfplnheaaaGreatDoorW.PrintWords Go.Proofs.YtkenmmfplnheaaaGreatDoorW.PrintLast Go.Proofs.YtkenmmfplnheaaaGreatDoorW.PrintMore
@[simp] theorem bne_nil_eq (l : List UInt8) : (l != ([] : List UInt8)) = !l.isEmpty := by cases l <;> rfl
section
variable {P : Program} {ops : Array Oper} {rest : List Oper} {o : Oper} {a : Act} {Q : Exit → Act → World → Prop}
theorem encs_length {α : Type} (enc : α → Value) (xs : List α) : (encs enc xs).length = xs.length := by simp [encs]
theorem R_copy_take {α : Type} (enc : α → Value) (d : α) {h1 : ∀ x : α, (enc x).oneCell' = true} {w0 W : World} (base : Nat) (hgd : o.guard = none) (s x : Operand) (dT sT e : TypeId)
  (ho : o.op = .call { callee := .builtin .copy, args := #[s, x], argTypes := #[dT, sT] })
  (hu : P.underlying dT = some (.slice e)) (hsz : (P.info? e).map (·.size) = some 1)
  (v : Value) (zs xs : List α) (A : Option Addr) (m c : Nat) (ok : Nat → Prop) (hs : a.eval s = v) (hx : a.eval x = .slice A m c)
  (HO : (Kd.scalar enc h1).R e W base ok v zs) (HR : (Kd.scalar enc h1).C W A m xs) (hle : zs.length ≤ m) (HB : Below base w0 W)
  (h : ∀ w1, (Kd.scalar enc h1).R e w1 base ok v (xs.take zs.length) → Below base w0 w1 → W.grownBy w1 v.ownBlock → wpList P ops Q rest (a.put o.dst (goInt zs.length)) w1) :
  wpList P ops Q (o :: rest) a W := by
 have hC := Kd.reads_of_C (d := d) HR
 have hown := Kd.own_of_R HO
 have hxl : xs.length = m := hC.1
 rcases Nat.eq_zero_or_pos zs.length with h0 | h0
 ·have hz : zs = [] := List.eq_nil_of_length_eq_zero h0
  subst hz
  obtain ⟨A', c', e', _⟩ := Kd.R_reads HO
  refine wpList_copy_nothing hgd s x dT sT ho e hu hsz A' A 0 c' m c (by rw [hs, e']; rfl) hx (by simp) ?_
  refine h W ?_ HB (World.grownBy.refl _ _)
  simpa using HO
 ·rcases hown.2 with ⟨_, hh⟩ | ⟨g, cap, cur, hv, hg, hh, hl, hm, hsz2, hcur⟩
  ·omega
  ·obtain ⟨ad, hA, hcell⟩ := hC.2.2 (by omega)
   have htl : (xs.take zs.length).length = zs.length := by rw [List.length_take]; omega
   have hn : (encs enc (xs.take zs.length)).length = Nat.min m zs.length := by rw [encs_length, htl]; exact (Nat.min_eq_right hle).symm
   refine wpList_copy_own hgd s x dT sT ho e hu hsz g 0 zs.length cap ad m c (by rw [hs, hv]) (by rw [hx, hA]) cur e hh (encs enc (xs.take zs.length)) hn ?_ ?_ ?_ ?_
   ·intro j u hj
    simp only [encs, List.getElem?_map, Option.map_eq_some_iff] at hj
    obtain ⟨y, hy, rfl⟩ := hj
    have hj2 : j < zs.length := by
     have := (List.getElem?_eq_some_iff.1 hy).1
     omega
    rw [hcell j (by omega)]
    rw [List.getElem?_take_of_lt hj2] at hy
    rw [List.getD_eq_getElem?_getD, hy]; rfl
   ·rw [encs_length, htl]; omega
   ·intro u hu'
    simp only [encs, List.mem_map] at hu'
    obtain ⟨y, _, rfl⟩ := hu'
    exact h1 y
   ·have e1 : (encs enc (xs.take zs.length)).length = zs.length := by rw [encs_length, htl]
    rw [e1]
    have hgl : g < W.heap.size := (Array.getElem?_eq_some_iff.1 hh).1
    refine h _ (Kd.R_of_own ⟨by rw [e1, htl]; omega, .inr ⟨g, cap, _, by rw [htl]; exact hv, hg, setRow_heap W g cur _ e _ hh, by rw [htl]; exact hl, hm, ?_, ?_⟩⟩ HO.1) (below_setRow HB hg _) ?_
    ·simp [e1]; omega
    ·simp only [List.take_zero, List.nil_append, Nat.zero_add, Nat.mul_one]
     rw [htl]; exact List.take_left' e1
    ·rw [hv]
     exact ⟨rfl, rfl, rfl, by simp [World.setRow], fun k hk hne => setRow_other W g k _ (by intro e2; exact hne (by rw [e2]; rfl))⟩
end
end Go.Proofs.YtkenmmfplnheaaaGreatDoor.Giv
set_option linter.unusedSimpArgs false
set_option linter.unusedVariables false
namespace Flt
open Ieee
def mg (r : Nat) : Nat := if r < 2 ^ 52 then r else (2 ^ 52 + r % 2 ^ 52) * 2 ^ (r / 2 ^ 52 - 1)
theorem mg_succ (r : Nat) : mg r < mg (r + 1) := by
 unfold mg
 by_cases h : r + 1 < 2 ^ 52
 ·rw [if_pos (by omega), if_pos h]; omega
 ·by_cases h1 : r < 2 ^ 52
  ·rw [if_pos h1, if_neg h]
   have e : r = 2 ^ 52 - 1 := by omega
   subst e; decide
  ·rw [if_neg h1, if_neg h]
   by_cases h2 : r % 2 ^ 52 = 2 ^ 52 - 1
   ·have e1 : (r + 1) % 2 ^ 52 = 0 := by omega
    have e2 : (r + 1) / 2 ^ 52 = r / 2 ^ 52 + 1 := by omega
    have e3 : 1 ≤ r / 2 ^ 52 := by omega
    rw [e1, e2, h2]
    obtain ⟨k, hk⟩ : ∃ k, r / 2 ^ 52 = k + 1 := ⟨r / 2 ^ 52 - 1, by omega⟩
    rw [hk]
    have : 2 ^ (k + 1 + 1 - 1) = 2 * 2 ^ (k + 1 - 1) := by
     rw [show k + 1 + 1 - 1 = k + 1 from rfl, show k + 1 - 1 = k from rfl, Nat.pow_succ]; omega
    rw [this]
    have p : 0 < 2 ^ (k + 1 - 1) := Nat.two_pow_pos _
    rw [← Nat.mul_assoc]
    exact Nat.mul_lt_mul_of_pos_right (by omega) p
   ·have e1 : (r + 1) % 2 ^ 52 = r % 2 ^ 52 + 1 := by omega
    have e2 : (r + 1) / 2 ^ 52 = r / 2 ^ 52 := by omega
    rw [e1, e2]
    exact Nat.mul_lt_mul_of_pos_right (by omega) (Nat.two_pow_pos _)
theorem mg_mono {r s : Nat} (h : r < s) : mg r < mg s := by
 induction s with
 | zero => omega
 | succ s ih =>
  rcases Nat.lt_or_ge r s with h1 | h1
  ·exact Nat.lt_trans (ih h1) (mg_succ s)
  ·have : r = s := by omega
   subst this; exact mg_succ r
theorem mg_inj {r s : Nat} (h : mg r = mg s) : r = s := by
 rcases Nat.lt_trichotomy r s with h1 | h1 | h1
 ·have := mg_mono h1; omega
 ·exact h1
 ·have := mg_mono h1; omega
def ng (b : Nat) : Bool := b / 2 ^ 63 % 2 == 1
def rg (b : Nat) : Nat := b % 2 ^ 63
def infR : Nat := 2047 * 2 ^ 52
def place (b : Nat) : Int := if ng b then -(rg b : Int) else (rg b : Int)
theorem read_eq (b : Nat) : double.read b =
  if rg b < 2 ^ 52 then .number (ng b) (rg b) (-1074)
  else if rg b < infR then .number (ng b) (2 ^ 52 + rg b % 2 ^ 52) (-1074 + (rg b / 2 ^ 52 - 1 : Nat))
  else if rg b = infR then .infinity (ng b) else .nan (ng b) (rg b - infR) := by
 unfold Format.read
 have e1 : double.signWeight = 2 ^ 63 := by decide
 have e2 : double.binade = 2 ^ 52 := by decide
 have e3 : double.infRung = infR := by decide
 have e4 : double.leastPlace = -1074 := by decide
 simp only [e1, e2, e3, e4]
 rfl
theorem number_of {b : Nat} (h : rg b < infR) : ∃ m : Nat, ∃ k : Nat, double.read b = .number (ng b) m (-1074 + (k : Int)) ∧ m * 2 ^ k = mg (rg b) := by
 rw [read_eq]
 by_cases h1 : rg b < 2 ^ 52
 ·rw [if_pos h1]
  exact ⟨rg b, 0, by simp, by simp [mg, h1]⟩
 ·rw [if_neg h1, if_pos h]
  exact ⟨_, rg b / 2 ^ 52 - 1, rfl, by simp [mg, h1]⟩
def sgn (s : Bool) (m : Nat) : Int := if s then -(m : Int) else (m : Int)
theorem signed_eq (s : Bool) (m k : Nat) : signed s m k = sgn s (m * 2 ^ k) := by
 unfold signed sgn; rw [Nat.shiftLeft_eq]
theorem sgn_mul (s : Bool) (m k : Nat) : sgn s (m * k) = sgn s m * (k : Int) := by
 unfold sgn; split <;> simp [Int.neg_mul]
theorem compare_mul {a b : Int} {p : Int} (hp : 0 < p) : compare (a * p) (b * p) = compare a b := by
 rcases Int.lt_trichotomy a b with h | h | h
 ·have := Int.mul_lt_mul_of_pos_right h hp
  rw [Int.compare_eq_lt.2 h, Int.compare_eq_lt.2 this]
 ·subst h; simp
 ·have := Int.mul_lt_mul_of_pos_right h hp
  rw [Int.compare_eq_gt.2 h, Int.compare_eq_gt.2 this]
theorem order_numbers (s t : Bool) (m n i j : Nat) :
  Datum.order (.number s m (-1074 + (i : Int))) (.number t n (-1074 + (j : Int))) = some (compare (sgn s (m * 2 ^ i)) (sgn t (n * 2 ^ j))) := by
 simp only [Datum.order, signed_eq]
 congr 1
 have key : ∀ k : Nat, k ≤ i → k ≤ j → compare (sgn s (m * 2 ^ (i - k))) (sgn t (n * 2 ^ (j - k))) = compare (sgn s (m * 2 ^ i)) (sgn t (n * 2 ^ j)) := by
  intro k h1 h2
  have e1 : m * 2 ^ i = m * 2 ^ (i - k) * 2 ^ k := by rw [Nat.mul_assoc, ← Nat.pow_add]; congr 2; omega
  have e2 : n * 2 ^ j = n * 2 ^ (j - k) * 2 ^ k := by rw [Nat.mul_assoc, ← Nat.pow_add]; congr 2; omega
  rw [e1, e2, sgn_mul s _ (2 ^ k), sgn_mul t _ (2 ^ k), compare_mul (by have := Nat.two_pow_pos k; omega)]
 have := key (min i j) (by omega) (by omega)
 have e1 : (-1074 + (i : Int) - min (-1074 + (i : Int)) (-1074 + (j : Int))).toNat = i - min i j := by omega
 have e2 : (-1074 + (j : Int) - min (-1074 + (i : Int)) (-1074 + (j : Int))).toNat = j - min i j := by omega
 rw [e1, e2, this]
theorem sgn_mg (s : Bool) (r : Nat) (t : Bool) (q : Nat) : compare (sgn s (mg r)) (sgn t (mg q)) = compare (sgn s r) (sgn t q) := by
 have z : mg 0 = 0 := by decide
 have l : ∀ {a b : Int} {c d : Int}, (a < b ↔ c < d) → (a = b ↔ c = d) → compare a b = compare c d := by
  intro a b c d h1 h2
  rcases Int.lt_trichotomy a b with h | h | h
  ·rw [Int.compare_eq_lt.2 h, Int.compare_eq_lt.2 (h1.1 h)]
  ·rw [Int.compare_eq_eq.2 h, Int.compare_eq_eq.2 (h2.1 h)]
  ·have : d < c := by
    rcases Int.lt_trichotomy c d with k | k | k
    ·have := h1.2 k; omega
    ·have := h2.2 k; omega
    ·exact k
   rw [Int.compare_eq_gt.2 h, Int.compare_eq_gt.2 this]
 have p0 : ∀ x : Nat, 0 < x → 0 < mg x := fun x hx => by have := mg_mono hx; omega
 have mono : ∀ x y : Nat, mg x < mg y ↔ x < y := fun x y => ⟨fun h => by
  rcases Nat.lt_or_ge x y with k | k
  ·exact k
  ·rcases Nat.eq_or_lt_of_le k with k | k
   ·subst k; omega
   ·have := mg_mono k; omega, mg_mono⟩
 have inj : ∀ x y : Nat, mg x = mg y ↔ x = y := fun x y => ⟨mg_inj, fun h => by rw [h]⟩
 have h1 := mono r q; have h2 := mono q r; have h3 := inj r q
 have zr : mg r = 0 ↔ r = 0 := by rw [← z]; rw [inj, z]
 have zq : mg q = 0 ↔ q = 0 := by rw [← z]; rw [inj, z]
 apply l <;> (unfold sgn; cases s <;> cases t <;> simp <;> omega)
theorem place_eq (b : Nat) : place b = sgn (ng b) (rg b) := rfl
theorem order_eq {a b : Nat} (ha : rg a ≤ infR) (hb : rg b ≤ infR) : double.order a b = some (compare (place a) (place b)) := by
 unfold Format.order
 rcases Nat.lt_or_ge (rg a) infR with ha' | ha'
 ·obtain ⟨m, i, h1, h2⟩ := number_of ha'
  rcases Nat.lt_or_ge (rg b) infR with hb' | hb'
  ·obtain ⟨n, j, h3, h4⟩ := number_of hb'
   rw [h1, h3, order_numbers, h2, h4, sgn_mg]; rfl
  ·have e : double.read b = .infinity (ng b) := by
    rw [read_eq, if_neg (by simp [infR] at *; omega), if_neg (by omega), if_pos (by omega)]
   have e2 : rg b = infR := by omega
   rw [h1, e]
   simp only [Datum.order]
   congr 1
   rw [place_eq, place_eq, e2]
   unfold sgn
   cases ng b <;> cases ng a <;> simp [Int.compare_eq_lt, Int.compare_eq_gt] <;> first | (symm; rw [Int.compare_eq_lt]; omega) | (symm; rw [Int.compare_eq_gt]; omega)
 ·have e : double.read a = .infinity (ng a) := by
   rw [read_eq, if_neg (by simp [infR] at *; omega), if_neg (by omega), if_pos (by omega)]
  have e2 : rg a = infR := by omega
  rcases Nat.lt_or_ge (rg b) infR with hb' | hb'
  ·obtain ⟨n, j, h3, h4⟩ := number_of hb'
   rw [e, h3]
   simp only [Datum.order]
   congr 1
   rw [place_eq, place_eq, e2]
   unfold sgn
   cases ng b <;> cases ng a <;> simp <;> first | (symm; rw [Int.compare_eq_lt]; omega) | (symm; rw [Int.compare_eq_gt]; omega)
  ·have e' : double.read b = .infinity (ng b) := by
    rw [read_eq, if_neg (by simp [infR] at *; omega), if_neg (by omega), if_pos (by omega)]
   have e2' : rg b = infR := by omega
   rw [e, e', place_eq, place_eq, e2, e2']
   simp only [Datum.order]
   congr 1
   cases ng a <;> cases ng b <;> decide
theorem order_nan_left {a b : Nat} (ha : infR < rg a) : double.order a b = none := by
 unfold Format.order
 have e : double.read a = .nan (ng a) (rg a - infR) := by
  rw [read_eq, if_neg (by simp [infR] at *; omega), if_neg (by omega), if_neg (by omega)]
 rw [e]; cases double.read b <;> rfl
theorem order_nan_right {a b : Nat} (hb : infR < rg b) : double.order a b = none := by
 unfold Format.order
 have e : double.read b = .nan (ng b) (rg b - infR) := by
  rw [read_eq, if_neg (by simp [infR] at *; omega), if_neg (by omega), if_neg (by omega)]
 rw [e]; cases double.read a <;> rfl
end Flt
set_option linter.unusedSimpArgs false
set_option linter.unusedVariables false
namespace Flt
open Ieee
theorem mg_normal {r k F : Nat} (hF : F < 2 ^ 52) (h : r = (k + 1) * 2 ^ 52 + F) : mg r = (2 ^ 52 + F) * 2 ^ k := by
 have h1 : ¬ r < 2 ^ 52 := by omega
 have h2 : r % 2 ^ 52 = F := by omega
 have h3 : r / 2 ^ 52 - 1 = k := by omega
 unfold mg; rw [if_neg h1, h2, h3]
theorem normal_form {r : Nat} (h : ¬ r < 2 ^ 52) : ∃ k F, F < 2 ^ 52 ∧ r = (k + 1) * 2 ^ 52 + F :=
 ⟨r / 2 ^ 52 - 1, r % 2 ^ 52, Nat.mod_lt _ (by decide), by omega⟩
theorem cut_zero (way : Toward) (s : Bool) (n : Nat) : way.cut s n 0 = n := by
 unfold Toward.cut
 simp
 cases way <;> simp [Nat.mod_one]
theorem cut_even_exact (s : Bool) (m d : Nat) (hm : 0 < m) : Toward.even.cut s (m * 2 ^ d) d = m := by
 unfold Toward.cut
 have p : 0 < 2 ^ d := Nat.two_pow_pos d
 have hl : d ≤ (m * 2 ^ d).log2 := by
  rw [Nat.le_log2 (by have := Nat.mul_pos hm p; omega)]
  exact Nat.le_mul_of_pos_left _ hm
 have e : min d ((m * 2 ^ d).log2 + 2) = d := by omega
 simp only [e, Nat.shiftLeft_eq, Nat.one_mul]
 rw [Nat.mul_div_cancel _ p, Nat.mul_mod_left]
 have h1 : ¬ 2 ^ d < 2 * 0 := by omega
 have h2 : (2 ^ d == 2 * 0) = false := by rw [beq_eq_false_iff_ne]; omega
 simp [h2]
theorem log2_eq {n k : Nat} (h1 : 2 ^ k ≤ n) (h2 : n < 2 ^ (k + 1)) : n.log2 = k := by
 have hn : n ≠ 0 := by have := Nat.two_pow_pos k; omega
 have a := (Nat.le_log2 hn).2 h1
 have b := (Nat.log2_lt hn).2 h2
 omega
theorem pow_sum (a b c : Nat) (h : c = a + b) : 2 ^ c = 2 ^ a * 2 ^ b := by rw [h, Nat.pow_add]
theorem nearest_exact (s : Bool) {m p r : Nat} (hr : r < infR) (h : m * 2 ^ p = mg r) : double.nearest s m (-1074 + (p : Int)) = double.word s r := by
 unfold Format.nearest
 have e2 : double.binade = 2 ^ 52 := by decide
 have e3 : double.infRung = infR := by decide
 have e4 : double.leastPlace = -1074 := by decide
 have e5 : double.fractionBits = 52 := rfl
 simp only [e2, e3, e4, e5]
 have pp := Nat.two_pow_pos p
 by_cases h0 : m = 0
 ·rw [if_pos h0]
  have : mg r = mg 0 := by rw [← h, h0]; simp [mg]
  rw [mg_inj this]
 ·rw [if_neg h0]
  have hmp : 0 < m * 2 ^ p := Nat.mul_pos (by omega) pp
  have hl1 : 2 ^ m.log2 ≤ m := Nat.log2_self_le h0
  have hl2 : m < 2 ^ (m.log2 + 1) := Nat.lt_log2_self
  have hb1 : 2 ^ (m.log2 + p) ≤ m * 2 ^ p := by rw [Nat.pow_add]; exact Nat.mul_le_mul_right _ hl1
  have hb2 : m * 2 ^ p < 2 ^ (m.log2 + p + 1) := by
   rw [pow_sum (m.log2 + 1) p (m.log2 + p + 1) (by omega)]; exact Nat.mul_lt_mul_of_pos_right hl2 pp
  by_cases hr1 : r < 2 ^ 52
  ·have er : m * 2 ^ p = r := by rw [h]; simp [mg, hr1]
   have hlp : m.log2 + p < 52 := by
    rcases Nat.lt_or_ge (m.log2 + p) 52 with k | k
    ·exact k
    ·have := Nat.pow_le_pow_right (show 0 < 2 by decide) k; omega
   have el : max (-1074 + (p : Int) + (m.log2 : Int) - ((52 : Nat) : Int)) (-1074) = -1074 := by omega
   rw [el]
   have e6 : (-1074 + (p : Int) - -1074).toNat = p := by omega
   have e7 : ((-1074 : Int) - (-1074 + (p : Int))).toNat = 0 := by omega
   rw [e6, e7, cut_zero, Nat.shiftLeft_eq, er]
   have e8 : ((-1074 : Int) - -1074).toNat = 0 := by decide
   rw [e8, Nat.zero_mul, Nat.zero_add, Nat.min_eq_left (by omega)]
  ·obtain ⟨k, F, hF, rfl⟩ := normal_form hr1
   rw [mg_normal hF rfl] at h
   have pk := Nat.two_pow_pos k
   have c1 : 2 ^ (52 + k) ≤ (2 ^ 52 + F) * 2 ^ k := by rw [Nat.pow_add]; exact Nat.mul_le_mul_right _ (by omega)
   have c2 : (2 ^ 52 + F) * 2 ^ k < 2 ^ (52 + k + 1) := by
    rw [pow_sum 53 k (52 + k + 1) (by omega)]; exact Nat.mul_lt_mul_of_pos_right (by omega) pk
   have L1 : (m * 2 ^ p).log2 = m.log2 + p := log2_eq hb1 hb2
   have L2 : (m * 2 ^ p).log2 = 52 + k := by rw [h]; exact log2_eq c1 c2
   have hL : m.log2 + p = 52 + k := by omega
   have el : max (-1074 + (p : Int) + (m.log2 : Int) - ((52 : Nat) : Int)) (-1074) = -1074 + (k : Int) := by omega
   rw [el]
   have e8 : (-1074 + (k : Int) - -1074).toNat = k := by omega
   rw [e8]
   have kept : Toward.even.cut s (m <<< (-1074 + (p : Int) - (-1074 + (k : Int))).toNat) (-1074 + (k : Int) - (-1074 + (p : Int))).toNat = 2 ^ 52 + F := by
    rcases Nat.le_total k p with kp | kp
    ·have e6 : (-1074 + (p : Int) - (-1074 + (k : Int))).toNat = p - k := by omega
     have e7 : (-1074 + (k : Int) - (-1074 + (p : Int))).toNat = 0 := by omega
     rw [e6, e7, cut_zero, Nat.shiftLeft_eq]
     rw [pow_sum (p - k) k p (by omega), ← Nat.mul_assoc] at h
     exact Nat.eq_of_mul_eq_mul_right pk h
    ·have e6 : (-1074 + (p : Int) - (-1074 + (k : Int))).toNat = 0 := by omega
     have e7 : (-1074 + (k : Int) - (-1074 + (p : Int))).toNat = k - p := by omega
     rw [e6, e7, Nat.shiftLeft_zero]
     rw [pow_sum (k - p) p k (by omega), ← Nat.mul_assoc] at h
     have := Nat.eq_of_mul_eq_mul_right pp h
     rw [this]
     exact cut_even_exact s _ _ (by omega)
   rw [kept, Nat.min_eq_left (by simp only [infR] at *; omega)]
   rw [show k * 2 ^ 52 + (2 ^ 52 + F) = (k + 1) * 2 ^ 52 + F by omega]
theorem sw_eq : double.signWeight = 2 ^ 63 := by decide
theorem word_parts (s : Bool) {r : Nat} (hr : r < 2 ^ 63) : ng (double.word s r) = s ∧ rg (double.word s r) = r ∧ double.word s r < 2 ^ 64 := by
 unfold Format.word ng rg
 cases s
 ·rw [if_neg (by decide)]
  exact ⟨by rw [beq_eq_false_iff_ne]; omega, by omega, by omega⟩
 ·rw [if_pos rfl, sw_eq]
  exact ⟨by rw [beq_iff_eq]; omega, by omega, by omega⟩
set_option exponentiation.threshold 2000 in
theorem o_rung (N : Nat) (h : N < 2 ^ 53) : ∃ r, r < infR ∧ mg r = N * 2 ^ 1074 ∧ (0 < N → ∃ k F, F < 2 ^ 52 ∧ k ≤ 1074 ∧ 1022 ≤ k ∧ r = (k + 1) * 2 ^ 52 + F ∧ N * 2 ^ (1074 - k) = 2 ^ 52 + F) := by
 by_cases h0 : N = 0
 ·subst h0; exact ⟨0, by decide, by rw [Nat.zero_mul]; rfl, fun h => by omega⟩
 ·have hl1 : 2 ^ N.log2 ≤ N := Nat.log2_self_le h0
  have hl2 : N < 2 ^ (N.log2 + 1) := Nat.lt_log2_self
  have hL : N.log2 ≤ 52 := by have := (Nat.log2_lt h0).2 h; omega
  have a1 : 2 ^ 52 ≤ N * 2 ^ (52 - N.log2) := by
   rw [pow_sum N.log2 (52 - N.log2) 52 (by omega)]; exact Nat.mul_le_mul_right _ hl1
  have a2 : N * 2 ^ (52 - N.log2) < 2 ^ 53 := by
   rw [pow_sum (N.log2 + 1) (52 - N.log2) 53 (by omega)]; exact Nat.mul_lt_mul_of_pos_right hl2 (Nat.two_pow_pos _)
  generalize hX : N * 2 ^ (52 - N.log2) = X at a1 a2
  refine ⟨(1022 + N.log2 + 1) * 2 ^ 52 + (X - 2 ^ 52), by simp only [infR]; omega, ?_, fun _ => ⟨1022 + N.log2, X - 2 ^ 52, by omega, by omega, by omega, rfl, ?_⟩⟩
  ·rw [mg_normal (by omega) rfl]
   have : 2 ^ 52 + (X - 2 ^ 52) = X := by omega
   rw [this, ← hX, Nat.mul_assoc, ← Nat.pow_add, show 52 - N.log2 + (1022 + N.log2) = 1074 by omega]
  ·have : 1074 - (1022 + N.log2) = 52 - N.log2 := by omega
   rw [this, hX]; omega
end Flt
set_option linter.unusedVariables false
set_option linter.unusedSimpArgs false
namespace Go.Proofs.YtkenmmfplnheaaaGreatDoor.Giv
open Go.RowKit
def add64s (x y : Int) : Int := (((x.toNat + y.toNat) % 18446744073709551616 : Nat) : Int)
def add64c (x y : Int) : Int := (((x.toNat + y.toNat) / 18446744073709551616 : Nat) : Int)
def f2n (x : Nat) : Option Int := (Ieee.double.read x).toInt .zero
def f2i (x : Nat) : Int := (f2n x).getD 0
def inI64 (x : Nat) : Bool := match f2n x with | some n => decide (-9223372036854775808 ≤ n ∧ n ≤ 9223372036854775807) | none => false
def inU64 (x : Nat) : Bool := match f2n x with | some n => decide (0 ≤ n ∧ n ≤ 18446744073709551615) | none => false
def fTrunc (x : Nat) : Nat := Ieee.double.write ((Ieee.double.read x).integral .zero)
def isNum (x : Nat) : Bool := FloatKind.f64.format.order x x == some Ordering.eq
@[go_sem] theorem run_frombits (n : Int) (w : World) : (callFunc 53 #[.int .u64 n]).run Tryz.prog w = .ok (.value (.float .f64 n.toNat)) w := by kernel_rfl
@[go_sem] theorem run_bits (b : Nat) (w : World) : (callFunc 81 #[.float .f64 b]).run Tryz.prog w = .ok (.value (.int .u64 (b : Int))) w := by kernel_rfl
theorem run_add64' (x y : Int) (w : World) : (callFunc 64 #[.int .u64 x, .int .u64 y, .int .u64 0]).run Tryz.prog w = .ok (.value (.tuple #[.int .u64 (Int.ofNat ((x.toNat + y.toNat + 0) % 2 ^ 64)), .int .u64 (Int.ofNat ((x.toNat + y.toNat + 0) / 2 ^ 64))])) w := by kernel_rfl
@[go_sem] theorem run_add64 (x y : Int) (w : World) : (callFunc 64 #[.int .u64 x, .int .u64 y, .int .u64 0]).run Tryz.prog w = .ok (.value (.tuple #[.int .u64 (add64s x y), .int .u64 (add64c x y)])) w := run_add64' x y w
theorem run_trunc' (x : Nat) (w : World) : (callFunc 117 #[.float .f64 x]).run Tryz.prog w = ((Extern.MathFloor.toIntegral "math.archTrunc" .zero #[.float .f64 x]).run Tryz.prog w).andThen fun v w => .ok (.value v) w :=
  run_callFunc_extern Tryz.func117 (by kernel_rfl) (by kernel_rfl) (by kernel_rfl) (by kernel_rfl) _ w
@[go_sem] theorem run_trunc (x : Nat) (w : World) (h : isNum x = true) : (callFunc 117 #[.float .f64 x]).run Tryz.prog w = .ok (.value (.float .f64 (fTrunc x))) w := by
  rw [run_trunc']
  have hn : ∀ s t, FloatKind.f64.decode x ≠ .nan s t := by
    intro s t e
    have e' : Ieee.double.read x = .nan s t := e
    unfold isNum at h
    have : FloatKind.f64.format.order x x = none := by show Ieee.Format.order Ieee.double x x = none; unfold Ieee.Format.order; rw [e']; rfl
    rw [this] at h
    exact absurd h (by decide)
  have hN : Extern.MathFloor.toIntegral "math.archTrunc" .zero #[.float .f64 x] = Extern.MathFloor.toIntegral.match_1 (fun _ => Sem Value) (FloatKind.f64.decode x)
      (fun s t => if FloatKind.f64.format.quiet t = t then pure (.float .f64 x) else do
        let kept ← choose (.extern "math.Floor,Ceil,Trunc,RoundToEven.signallingNaN kept" 2)
        pure (.float .f64 (if kept == 1 then x else FloatKind.f64.encode (.nan s (FloatKind.f64.format.quiet t)))))
      (fun d => pure (.float .f64 (FloatKind.f64.encode (Ieee.Datum.integral .zero d)))) := by kernel_rfl
  rw [hN]
  cases hd : FloatKind.f64.decode x with
  | nan s t => exact absurd hd (hn s t)
  | infinity s =>
    have e2 : fTrunc x = FloatKind.f64.encode (Ieee.Datum.integral .zero (.infinity s)) := by unfold fTrunc; rw [show Ieee.double.read x = _ from hd]; rfl
    rw [e2]
    rfl
  | number s m e =>
    have e2 : fTrunc x = FloatKind.f64.encode (Ieee.Datum.integral .zero (.number s m e)) := by unfold fTrunc; rw [show Ieee.double.read x = _ from hd]; rfl
    rw [e2]
    rfl
theorem i64_min : IntKind.i64.min = -9223372036854775808 := by decide
theorem i64_max : IntKind.i64.max = 9223372036854775807 := by decide
theorem u64_min : IntKind.u64.min = 0 := by decide
theorem u64_max : IntKind.u64.max = 18446744073709551615 := by decide
section
variable {P : Program}
theorem run_f2i (src dst : TypeId) (x : Nat) (w : World) (hs : (P.underlying src).isSome = true) (hd : P.underlying dst = some (.int .i64)) (h : inI64 x = true) : (convert src dst (.float .f64 x)).run P w = .ok (.int .i64 (f2i x)) w := by
 obtain ⟨ts, hs⟩ := Option.isSome_iff_exists.1 hs
 unfold inI64 at h
 cases hn : f2n x with
 | none => rw [hn] at h; exact absurd h (by simp)
 | some n =>
  rw [hn] at h
  have hr : IntKind.i64.min ≤ n ∧ n ≤ IntKind.i64.max := by rw [i64_min, i64_max]; exact of_decide_eq_true h
  have e : f2i x = n := by unfold f2i; rw [hn]; rfl
  have hn' : (FloatKind.f64.decode x).toInt .zero = some n := hn
  simp only [convert, Conv.floatToInt, Sem.run_bind, run_underlying hs, run_underlying hd, Result.andThen, hn', if_pos hr, e]
  rfl
theorem run_f2u (src dst : TypeId) (x : Nat) (w : World) (hs : (P.underlying src).isSome = true) (hd : P.underlying dst = some (.int .u64)) (h : inU64 x = true) : (convert src dst (.float .f64 x)).run P w = .ok (.int .u64 (f2i x)) w := by
 obtain ⟨ts, hs⟩ := Option.isSome_iff_exists.1 hs
 unfold inU64 at h
 cases hn : f2n x with
 | none => rw [hn] at h; exact absurd h (by simp)
 | some n =>
  rw [hn] at h
  have hr : IntKind.u64.min ≤ n ∧ n ≤ IntKind.u64.max := by rw [u64_min, u64_max]; exact of_decide_eq_true h
  have e : f2i x = n := by unfold f2i; rw [hn]; rfl
  have hn' : (FloatKind.f64.decode x).toInt .zero = some n := hn
  simp only [convert, Conv.floatToInt, Sem.run_bind, run_underlying hs, run_underlying hd, Result.andThen, hn', if_pos hr, e]
  rfl
end
@[go_sem] theorem run_f2i_ (x : Nat) (w : World) (h : inI64 x = true) : (convert 76 3 (.float .f64 x)).run Tryz.prog w = .ok (.int .i64 (f2i x)) w := run_f2i _ _ x w (by kernel_rfl) Tryz.underlying3 h
@[go_sem] theorem run_f2u_ (x : Nat) (w : World) (h : inU64 x = true) : (convert 76 25 (.float .f64 x)).run Tryz.prog w = .ok (.int .u64 (f2i x)) w := run_f2u _ _ x w (by kernel_rfl) Tryz.underlying25 h
@[go_sem] theorem run_fneg {P : Program} (b : Nat) (w : World) : (Op.unary .neg (.float .f64 b)).run P w = .ok (.float .f64 (Op.negFloat .f64 b)) w := rfl
def okAdd (x y : Nat) : Bool := (Ieee.double.add x y).isSome
def okSub (x y : Nat) : Bool := (Ieee.double.sub x y).isSome
def okMul (x y : Nat) : Bool := (Ieee.double.mul x y).isSome
def okQuo (x y : Nat) : Bool := (Ieee.double.div x y).isSome
def fAdd (x y : Nat) : Nat := (Ieee.double.add x y).getD 0
def fSub (x y : Nat) : Nat := (Ieee.double.sub x y).getD 0
def fMul (x y : Nat) : Nat := (Ieee.double.mul x y).getD 0
def fQuo (x y : Nat) : Nat := (Ieee.double.div x y).getD 0
section
variable {P : Program} (t : TypeId) (x y : Nat) (w : World)
@[go_sem] theorem run_fadd (h : okAdd x y = true) : (binOp .add t (.float .f64 x) (.float .f64 y)).run P w = .ok (.float .f64 (fAdd x y)) w := by
 unfold okAdd at h
 cases hn : Ieee.double.add x y with
 | none => rw [hn] at h; exact absurd h (by simp)
 | some n => simp [binOp, Op.floatArith, FloatKind.format, hn, fAdd]
@[go_sem] theorem run_fsub (h : okSub x y = true) : (binOp .sub t (.float .f64 x) (.float .f64 y)).run P w = .ok (.float .f64 (fSub x y)) w := by
 unfold okSub at h
 cases hn : Ieee.double.sub x y with
 | none => rw [hn] at h; exact absurd h (by simp)
 | some n => simp [binOp, Op.floatArith, FloatKind.format, hn, fSub]
@[go_sem] theorem run_fmul (h : okMul x y = true) : (binOp .mul t (.float .f64 x) (.float .f64 y)).run P w = .ok (.float .f64 (fMul x y)) w := by
 unfold okMul at h
 cases hn : Ieee.double.mul x y with
 | none => rw [hn] at h; exact absurd h (by simp)
 | some n => simp [binOp, Op.floatArith, FloatKind.format, hn, fMul]
@[go_sem] theorem run_fquo (h : okQuo x y = true) : (binOp .quo t (.float .f64 x) (.float .f64 y)).run P w = .ok (.float .f64 (fQuo x y)) w := by
 unfold okQuo at h
 cases hn : Ieee.double.div x y with
 | none => rw [hn] at h; exact absurd h (by simp)
 | some n => simp [binOp, Op.floatArith, FloatKind.format, hn, fQuo]
end
def cmpS (a b : ByteArray) : Int := Extern.BytealgCompare.cmp a b
theorem run_cmpstring (a b : ByteArray) (w : World) : (callFunc 80 #[.string a, .string b]).run Tryz.prog w = .ok (.value (.int .i64 (Extern.BytealgCompare.cmp a b))) w := by kernel_rfl
@[go_sem] theorem run_cmpstring_ (a b : ByteArray) (w : World) : (callFunc 80 #[.string a, .string b]).run Tryz.prog w = .ok (.value (.int .i64 (cmpS a b))) w := run_cmpstring a b w
end Go.Proofs.YtkenmmfplnheaaaGreatDoor.Giv
set_option linter.unusedVariables false
namespace Go.Proofs.YtkenmmfplnheaaaGreatDoor.Giv
open Go.RowKit Go.Proofs.YtkenmmfplnheaaaGreatDoorW.PrintWords Go.Proofs.YtkenmmfplnheaaaGreatDoorW.PrintLast Go.Proofs.YtkenmmfplnheaaaGreatDoorW.PrintMore
theorem Az {p : Prop} (h : p) : Aside0 p := ⟨h⟩
section
variable {w0 w W w' : World} {g a : Nat} {o : Obj}
theorem bk (b : Aside0 (w.heap[g]? = some o)) (t : w.heap[g]? = some o → W.heap[g]? = some o := by intro h_; (with_reducible repeat (first | refine blk_drewN ?_ _ | refine blk_drew ?_ | refine blk_alloc ?_ _)); exact h_) : W.heap[g]? = some o := t b.out
theorem kb (b : Aside0 (w.heap[g]? = some o)) (hb : Below W.heap.size W w') (t : w.heap[g]? = some o → W.heap[g]? = some o := by intro h_; (with_reducible repeat (first | refine blk_drewN ?_ _ | refine blk_drew ?_ | refine blk_alloc ?_ _)); exact h_) : Aside0 (w'.heap[g]? = some o) := ⟨blk_below (t b.out) hb⟩
theorem nl (b : Aside0 (w.heap[g]? = some o)) (hg : a = W.heap.size) (t : w.heap[g]? = some o → W.heap[g]? = some o := by intro h_; (with_reducible repeat (first | refine blk_drewN ?_ _ | refine blk_drew ?_ | refine blk_alloc ?_ _)); exact h_) : Aside0 (g ≠ a) := ⟨by rw [hg]; exact Nat.ne_of_lt (blk_lt (t b.out))⟩
theorem ng (b : Aside0 (w.heap[g]? = some o)) (hg : a = W.heap.size) (t : w.heap[g]? = some o → W.heap[g]? = some o := by intro h_; (with_reducible repeat (first | refine blk_drewN ?_ _ | refine blk_drew ?_ | refine blk_alloc ?_ _)); exact h_) : Aside0 (a ≠ g) := ⟨by rw [hg]; exact Nat.ne_of_gt (blk_lt (t b.out))⟩
theorem bl (b : Aside0 (Below w0.heap.size w0 w)) (t : Below w0.heap.size w0 w → Below w0.heap.size w0 W := by intro h_; repeat (first | (with_reducible first | exact h_ | apply below_alloc | apply pw_below_drewN | apply below_drew1) | exact h_)) : Below w0.heap.size w0 W := t b.out
theorem bls (b : Aside0 (Below w0.heap.size w0 w)) (t : Below w0.heap.size w0 w → Below w0.heap.size w0 W := by intro h_; repeat (first | (with_reducible first | exact h_ | apply below_alloc | apply pw_below_drewN | apply below_drew1 | refine below_set ?_ (Aside0.out (by assumption))) | exact h_)) : Below w0.heap.size w0 W := t b.out
theorem bs (b : Aside0 (Below w0.heap.size w0 w)) (hb : Below W.heap.size W w') (t : Below w0.heap.size w0 w → Below w0.heap.size w0 W := by intro h_; repeat (first | (with_reducible first | exact h_ | apply below_alloc | apply pw_below_drewN | apply below_drew1 | refine below_set ?_ (Aside0.out (by assumption))) | exact h_)) : Aside0 (Below w0.heap.size w0 w') := ⟨below_step (t b.out) hb⟩
theorem dr (h : Drawn0 w w') : Below w.heap.size w w' := by
 obtain ⟨n, rfl⟩ := h.out
 exact pw_below_drewN (Below.refl _ _) n
theorem gw (b : Below w0.heap.size w0 W) (hg : a = W.heap.size) : Aside0 (w0.heap.size ≤ a) := ⟨by rw [hg]; exact below_size b⟩
variable {α : Type} {d : Kd α} {e base : Nat} {ok : Nat → Prop} {v : Value} {xs : List α}
theorem rk (b : Aside0 (d.R e w base ok v xs)) (t : d.R e w base ok v xs → d.R e W base ok v xs := by intro h_; (with_reducible repeat (first | apply Kd.R_alloc | apply Kd.R_drewN | apply Kd.R_drew)); exact h_) : d.R e W base ok v xs := t b.out
theorem ck {A : Option Addr} {n : Nat} (h : Aside0 (d.C w0 A n xs)) (b : Aside0 (Below w0.heap.size w0 w)) (t : d.C w A n xs → d.C W A n xs := by intro h_; repeat (first | exact h_ | (with_reducible refine Kd.C_alloc ?_ _) | (with_reducible refine Kd.C_drewN ?_ _) | (with_reducible refine Kd.C_drew ?_))) : d.C W A n xs := t (Kd.C_below h.out b.out)
theorem rt (b : d.R e w base ok v xs) (t : d.R e w base ok v xs → d.R e W base ok v xs := by intro h_; (with_reducible repeat (first | apply Kd.R_alloc | apply Kd.R_drewN | apply Kd.R_drew)); exact h_) : d.R e W base ok v xs := t b
theorem vt (b : d.V e w base ok v xs) (t : d.V e w base ok v xs → d.V e W base ok v xs := by intro h_; (with_reducible repeat (first | apply Kd.V_alloc | apply Kd.V_drewN | apply Kd.V_drew)); exact h_) : d.V e W base ok v xs := t b
theorem vk (b : Aside0 (d.V e w base ok v xs)) (t : d.V e w base ok v xs → d.V e W base ok v xs := by intro h_; (with_reducible repeat (first | apply Kd.V_alloc | apply Kd.V_drewN | apply Kd.V_drew)); exact h_) : d.V e W base ok v xs := t b.out
theorem bz {cs : Array Value} {t : TypeId} (b : Aside0 (w.heap[g]? = some (.cells cs t (0, 0)))) : (∀ i, w.cell? ⟨g, i, none⟩ = cs[i]?) ∧ ∀ i, w.frozen? ⟨g, i, none⟩ = false := ⟨fun i => blk_cell b.out i, fun i => blk_frozen b.out i⟩
end
theorem fe {p : Prop} (h : p := by first | rfl | (simp [errW_none, errW_some] <;> rfl) | (simp [*, errW_none, errW_some] <;> rfl)) : p := h
theorem rs {p : Prop} (h : p := by first | rfl | (simp; done) | (simp [*]; done)) : p := h
theorem le0 {p : Prop} (h : p := by first | omega | exact Nat.le_refl _) : p := h
theorem le1 {p q : Prop} (a : Aside0 q) (h : q → p := by intro h_; first | omega | exact Nat.le_refl _) : p := h a.out
theorem le2 {p q s : Prop} (a : Aside0 q) (b : Aside0 s) (h : q → s → p := by intro h_ h1_; first | omega | exact Nat.le_refl _) : p := h a.out b.out
theorem ode {p : Prop} [Decidable p] (h : decide p = true := by first | (with_reducible assumption) | assumption) : p := of_decide_eq_true h
theorem ne_own {k n m c c' : Nat} {A : Option Addr} (h : some k ≠ (Value.slice A n c).ownBlock) : some k ≠ (Value.slice A m c').ownBlock := by
 cases A with
 | none => simp [Value.ownBlock]
 | some a => simpa [Value.ownBlock] using h
def bml : Nat → Nat → List Bool
 | 0, _ => []
 | n + 1, x => (x % 2 == 1) :: bml n (x / 2)
def bm (n x : Nat) : Array Bool := ⟨bml n x⟩
theorem hd {p : Prop} (h : p := by first | exact trivial | ((repeat' apply And.intro) <;> exact (blk_cell (Aside0.out (by assumption)) _).trans rfl)) : p := h
theorem bd {α β : Type} {x : Option α} {f : α → Option β} {r : β} (h : x.bind f = some r) : ∃ t, Aside0 (x = some t) ∧ f t = some r := by
 obtain ⟨t, h1, h2⟩ := Option.bind_eq_some_iff.mp h
 exact ⟨t, ⟨h1⟩, h2⟩
section
variable {P : Program} {md : Region.Mode} {ops : Array Oper} {Q : Exit → Act → World → Prop} {S : World → Prop} {ds : List Nat}
theorem pu (i : Nat) (N : Option Tmp) {oi : Oper} {v : Value} {fuel : Nat} {l : Array Bool} {a : Act} {w : World} (l' : Array Bool) {T : Bool × List (List Nat × List Nat)} (hT : rtab md ops = T) {a' : Act}
  (h : wpAnyLast P md ops Q S ds fuel l' a' w) (hi : ops[i]? = some oi := by rfl) (hN : oi.dst = N := by rfl) (hc : anyT T l.toList l'.toList i = true := by kernel_rfl)
  (hQ : ∀ c a w, Q (.panic c) (a.put oi.dst v) w → Q (.panic c) a w := by exact fun _ _ _ h => h) (hy : Yields P ops oi v a := by refine Or.inl ⟨by rfl, ?_⟩; intro w'; go_simp; with_reducible rfl)
  (ha : a.put N v = a' := by simp only [Act.put, List.setIfInBounds_toArray, List.set_cons_zero, List.set_cons_succ, i64_w, i32_w]; rfl) : wpAnyLast P md ops Q S ds (fuel + 1) l a w :=
 pure_ l' hi hN (any_of hT hc) hQ hy ha h
theorem be {rest : List Oper} {o : Oper} {a : Act} {W : World} (N : Tmp) (cs : Array Value) (t : TypeId)
  (h : ∀ g, g = W.heap.size → ∀ w1, w1.heap[g]? = some (.cells cs t (0, 0)) → Below W.heap.size W w1 → wpList P ops Q rest (a.put o.dst (.pointer (some ⟨g, 0, none⟩))) w1)
  (hd : o.dst = some N := by with_reducible rfl) (hg : o.guard = none := by rfl) (hr : (execOp a.eval o).run P W = .ok (.value (.pointer (some ⟨W.heap.size, 0, none⟩))) (W.alloc (.cells cs t (0, 0))) := by first | (go_simp; done) | (go_simp; rfl)) : wpList P ops Q (o :: rest) a W := box_event hg hd hr h
theorem gl {rest : List Oper} {oi : Oper} {a : Act} {w : World} (N : Option Tmp) {f : FuncId} {fn : Func} {as_ : Array Operand} {ts : Array TypeId} (hf : P.funcs[f]? = some fn) (args : Array Value)
    (h : Calls P f args w fun e w' => ∃ v, e = .returned v ∧ wpList P ops Q rest (a.put N v) w') (hop : oi.op = .call { callee := .value (.func f), args := as_, argTypes := ts } := by with_reducible rfl)
    (hd : oi.dst = N := by rfl) (hg : oi.guard = none := by rfl) (hname : (fn.name == "runtime.NumGoroutine") = false := by kernel_rfl) (hb : fn.body.isSome = true := by rfl)
    (hargs : as_.map a.eval = args := by (try simp only [List.map_toArray, List.map_cons, List.map_nil]); first | done | rfl | (simp only [List.length_drop, List.length_take]; rfl)) : wpList P ops Q (oi :: rest) a w :=
  goesL_ N hd hg hf hname hb args hop hargs h
theorem gs {oi : Oper} {N : Option Tmp} {a : Act} {w : World} {K : Act → World → Prop} {f : FuncId} {fn : Func} {as_ : Array Operand} {ts : Array TypeId} (hf : P.funcs[f]? = some fn) (args : Array Value)
    (h : Calls P f args w fun e w' => ∃ v, e = .returned v ∧ K (a.put N v) w') (hname : (fn.name == "runtime.NumGoroutine") = false := by kernel_rfl) (hb : fn.body.isSome = true := by rfl)
    (hw : Region.wanted oi (yielded ops a.tmps) = true := by rfl) (hN : oi.dst = N := by rfl) (hop : oi.op = .call { callee := .value (.func f), args := as_, argTypes := ts } := by rfl)
    (hargs : as_.map a.eval = args := by (try simp only [List.map_toArray, List.map_cons, List.map_nil]); first | done | rfl | (simp only [List.length_drop, List.length_take]; rfl)) : if Region.wanted oi (yielded ops a.tmps) = true then Oper.wp P oi a w K Q else K (a.put N undef) w :=
  goes_ hf hname hb args hw hN hop hargs h
theorem on (i : Nat) (N : Option Tmp) {oi : Oper} {fuel : Nat} {l : Array Bool} {a : Act} {w : World} (l' : Array Bool) {T : Bool × List (List Nat × List Nat)} (hT : rtab md ops = T)
  (h : ∀ K : Act → World → Prop, Shut (∀ a' w', S w' → (S w' → wpAnyLast P md ops Q S ds fuel l' a' w') → K a' w') → if Region.wanted oi (yielded ops a.tmps) = true then Oper.wp P oi a w K Q else K (a.put N undef) w)
  (hi : ops[i]? = some oi := by rfl) (hN : oi.dst = N := by rfl) (hc : (readyT T.2 l.toList == [i] && l.toList.set i true == l'.toList) = true := by kernel_rfl) (hd : i ∉ ds := by decide) : wpAnyLast P md ops Q S ds (fuel + 1) l a w := one_ l' hi hN (one_of hT hc) hd h
theorem nj {fuel : Nat} {l : Array Bool} {a a' : Act} {w : World} (h : wpAnyLast P md ops Q S ds fuel l a' w) (ha : a = a' := by first | (simp only [putAll, Act.put, List.setIfInBounds_toArray, List.set_cons_zero, List.set_cons_succ]; done) | (simp only [putAll, Act.put, List.setIfInBounds_toArray, List.set_cons_zero, List.set_cons_succ]; rfl)) : wpAnyLast P md ops Q S ds fuel l a w := norm_ ha h
theorem pn (i : Nat) (N : Option Tmp) {oi : Oper} {fuel : Nat} {l : Array Bool} {a : Act} {w : World} (l' : Array Bool) {T : Bool × List (List Nat × List Nat)} (hT : rtab md ops = T) {a' : Act}
  (h : wpAnyLast P md ops Q S ds fuel l' a' w) (hi : ops[i]? = some oi := by rfl) (hN : oi.dst = N := by rfl) (hc : anyT T l.toList l'.toList i = true := by kernel_rfl)
  (hQ : ∀ c a w, Q (.panic c) (a.put oi.dst undef) w → Q (.panic c) a w := by exact fun _ _ _ h => h) (hy : Yields P ops oi undef a := by exact Or.inr ⟨by rfl, rfl⟩)
  (ha : a.put N undef = a' := by simp only [Act.put, List.setIfInBounds_toArray, List.set_cons_zero, List.set_cons_succ, i64_w, i32_w]; rfl) : wpAnyLast P md ops Q S ds (fuel + 1) l a w :=
 pure_ l' hi hN (any_of hT hc) hQ hy ha h
theorem tk (i : Nat) (N : Option Tmp) {oi : Oper} {v : Value} {fuel : Nat} {l : Array Bool} {a : Act} {w : World} (l' : Array Bool) {T : Bool × List (List Nat × List Nat)} {B : List Nat} (hT : rtab md ops = T) (hB : waitsOk T.2 B = true) (hS : S w) {a' : Act}
  (h : wpAnyLast P md ops Q S ds fuel l' a' w) (hi : ops[i]? = some oi := by rfl) (hN : oi.dst = N := by rfl) (hc : takeW T B ds l.toList l'.toList i = true := by kernel_rfl)
  (hQ : ∀ c a w, Q (.panic c) (a.put oi.dst v) w → Q (.panic c) a w := by exact fun _ _ _ h => h) (hy : YieldsIf P ops S oi v a := by refine Or.inl ⟨by rfl, ?_⟩; intro w' hs; (try dsimp only at hs); go_simp; with_reducible rfl)
  (ha : a.put N v = a' := by simp only [Act.put, List.setIfInBounds_toArray, List.set_cons_zero, List.set_cons_succ, i64_w, i32_w]; rfl) : wpAnyLast P md ops Q S ds (fuel + 1) l a w :=
 take_ l' hi hN (take_ofW hT hB hc) hQ hy hS ha h
theorem nm {fuel : Nat} {l : Array Bool} {a a' : Act} {w : World} (h : wpAnyLast P md ops Q S ds fuel l a' w) (ha : a = a' := by show Act.put _ (some _) _ = _; simp only [Act.put, List.setIfInBounds_toArray, List.set_cons_zero, List.set_cons_succ, i64_w, i32_w]; rfl) : wpAnyLast P md ops Q S ds fuel l a w := norm_ ha h
end
end Go.Proofs.YtkenmmfplnheaaaGreatDoor.Giv
namespace Go.Proofs
open Go.Shelf
def Tryz.lays106_ren : Go.Shelf.Ren := ⟨fun | 106 => 28 | 213 => 50 | 265 => 80 | n => n, fun | 9 => 9 | 3 => 3 | n => n, fun | n => n⟩
theorem Tryz.lays106 : Go.Proofs.Lays.n106 Tryz.prog Tryz.lays106_ren := {
 mixed := by kernel_rfl
 f106 := Tryz.func28.trans (congrArg some (by kernel_rfl))
 f213 := Tryz.func50.trans (congrArg some (by kernel_rfl))
 f265 := Tryz.func80.trans (congrArg some (by kernel_rfl))
 t3 := Tryz.underlying3
 a3 := Tryz.isAgg3
 z3 := Tryz.sizeOf3
 v3 := Tryz.zeroValue3
 t9 := Tryz.underlying9
 a9 := Tryz.isAgg9
 z9 := Tryz.sizeOf9
 v9 := Tryz.zeroValue9 }
open Go.RowKit in
theorem Tryz.strings_Compare (a b : ByteArray) (w : World) :
  Calls Tryz.prog 28 #[.string a, .string b] w fun e w' => e = .returned (.int .i64 (Lib.compareBytes a.data.toList b.data.toList)) ∧ w' = w := Any.strings_Compare Tryz.lays106 a b w
def Tryz.lays129_ren : Go.Shelf.Ren := ⟨fun | 129 => 144 | n => n, fun | 53 => 25 | 3 => 3 | 4 => 4 | 46 => 59 | 5 => 5 | 9 => 9 | n => n, fun | n => n⟩
theorem Tryz.lays129 : Go.Proofs.Lays.n129 Tryz.prog Tryz.lays129_ren := {
 mixed := by kernel_rfl
 f129 := Tryz.func144.trans (congrArg some (by kernel_rfl))
 t3 := Tryz.underlying3
 a3 := Tryz.isAgg3
 z3 := Tryz.sizeOf3
 v3 := Tryz.zeroValue3
 t4 := Tryz.underlying4
 a4 := Tryz.isAgg4
 z4 := Tryz.sizeOf4
 v4 := Tryz.zeroValue4
 t5 := Tryz.underlying5
 a5 := Tryz.isAgg5
 z5 := Tryz.sizeOf5
 v5 := Tryz.zeroValue5
 t9 := Tryz.underlying9
 a9 := Tryz.isAgg9
 z9 := Tryz.sizeOf9
 v9 := Tryz.zeroValue9
 t46 := Tryz.underlying59
 a46 := Tryz.isAgg59
 z46 := Tryz.sizeOf59
 v46 := Tryz.zeroValue59
 t53 := Tryz.underlying25
 a53 := Tryz.isAgg25
 z53 := Tryz.sizeOf25
 v53 := Tryz.zeroValue25 }
theorem Tryz.bits_Len64 (x : Int) (w : World) (h0 : 0 ≤ x) (h1 : x ≤ 18446744073709551615) :
  Calls Tryz.prog 144 #[.int .u64 x] w fun e w' => e = .returned (.int .i64 (Lib.bitLen x.toNat)) ∧ w' = w := Any.bits_Len64 Tryz.lays129 x w h0 h1
def Tryz.lays264_ren : Go.Shelf.Ren := ⟨fun | 264 => 62 | n => n, fun | 53 => 25 | 46 => 59 | n => n, fun | n => n⟩
theorem Tryz.lays264 : Go.Proofs.Lays.n264 Tryz.prog Tryz.lays264_ren := {
 mixed := by kernel_rfl
 f264 := Tryz.func62.trans (congrArg some (by kernel_rfl))
 t46 := Tryz.underlying59
 a46 := Tryz.isAgg59
 z46 := Tryz.sizeOf59
 v46 := Tryz.zeroValue59
 t53 := Tryz.underlying25
 a53 := Tryz.isAgg25
 z53 := Tryz.sizeOf25
 v53 := Tryz.zeroValue25 }
open Go.RowKit Go.Lib in
theorem Tryz.bits_Mul64 (x y : Nat) (hx : x < 18446744073709551616) (hy : y < 18446744073709551616) (w : World) :
  Calls Tryz.prog 62 #[.int .u64 x, .int .u64 y] w fun e w' => e = .returned (.tuple #[.int .u64 ((x * y / 18446744073709551616 : Nat) : Int), .int .u64 ((x * y % 18446744073709551616 : Nat) : Int)]) ∧ w' = w := Any.bits_Mul64 Tryz.lays264 x y hx hy w
end Go.Proofs
set_option linter.unusedVariables false
set_option linter.unusedSimpArgs false
namespace Go.Proofs.YtkenmmfplnheaaaGreatDoor.Giv
open Go.RowKit Go.Shelf Go.Proofs.YtkenmmfplnheaaaGreatDoorW.PrintWords
def KeepX (b : Nat) (w w' : World) : Prop := ∀ k o, w.heap[k]? = some o → k ≠ b → (∀ cur, o ≠ .cells cur 5 (0, 0)) → w'.heap[k]? = some o
theorem KeepX.refl (b : Nat) (w : World) : KeepX b w w := fun _ _ h _ _ => h
theorem KeepX.trans {b : Nat} {w w1 w2 : World} (h : KeepX b w w1) (h2 : KeepX b w1 w2) : KeepX b w w2 := fun k o a c d => h2 k o (h k o a c d) c d
theorem KeepX.setCell {b : Nat} {w w1 : World} (h : KeepX b w w1) (i : Nat) (u : Value) : KeepX b w (w1.setCell ⟨b, i, none⟩ u) := fun k o a c d => by
 have h1 := h k o a c d
 rw [Below.heap_setCell w1 ⟨b, i, none⟩ u k c]
 exact h1
theorem KeepX.alloc {b : Nat} {w w1 : World} (h : KeepX b w w1) (o' : Obj) : KeepX b w (w1.alloc o') := fun k o a c d => blk_alloc (h k o a c d) o'
theorem KeepX.grown {b : Nat} {w w1 w2 : World} {B : Nat} {v : Value} {n : Nat} {xs : List Value} (h : KeepX b w w1) (hg : w1.grownBy w2 v.ownBlock) (ho : w1.ownsRow B 5 1 v n xs) : KeepX b w w2 := fun k o a c d => by
 have h1 := h k o a c d
 refine blk_grown h1 hg ?_
 intro e
 rcases ho.2 with ⟨hv, _⟩ | ⟨g, cap, cur, hv, _, hh, _⟩
 ·rw [hv] at e; simp [Value.ownBlock] at e
 ·rw [hv] at e
  simp only [Value.ownBlock, Option.some.injEq] at e
  subst e
  rw [hh] at h1
  exact d cur (Option.some.inj h1).symm
theorem infoBuilder : (Tryz.prog.info? 65).map (·.size) = some 2 := by kernel_rfl
theorem infoByte : (Tryz.prog.info? 5).map (fun i => (i.zero, i.size, i.bytes)) = some (some (.int .u8 0), 1, 1) := by kernel_rfl
theorem liesBuilder : liesAt Tryz.prog Tryz.prog.depth 65 (2 / Tryz.prog.cellsOf 65) 0 65 1 = true := by kernel_rfl
set_option maxRecDepth 100000 in
set_option maxHeartbeats 1000000 in
theorem copyCheck_used (b : Nat) (w : World) (h0 : w.cell? ⟨b, 0, none⟩ = some (.pointer (some ⟨b, 0, none⟩))) :
  Calls Tryz.prog 76 #[.pointer (some ⟨b, 0, none⟩)] w fun e w' => e = .returned (.tuple #[]) ∧ w' = w := by
 obtain ⟨j, hj, _⟩ := Option.map_eq_some_iff.1 infoBuilder
 go_enter Tryz.func76, Tryz.ntmps76
 go_wp2
 rw [Lib.run_neq_ptr_same w _ Tryz.underlying63 hj]
 go_wp2
 go_end0
 exact ⟨rfl, rfl⟩
set_option maxRecDepth 100000 in
set_option maxHeartbeats 1000000 in
theorem copyCheck_fresh (b : Nat) (w : World) (h0 : w.cell? ⟨b, 0, none⟩ = some (.pointer none)) (hsh : w.shape? b = some (65, 2)) (hfz : w.frozen? ⟨b, 0, none⟩ = false) :
  Calls Tryz.prog 76 #[.pointer (some ⟨b, 0, none⟩)] w fun e w' => e = .returned (.tuple #[]) ∧ w' = w.setCell ⟨b, 0, none⟩ (.pointer (some ⟨b, 0, none⟩)) := by
 obtain ⟨j, hj, hjs⟩ := Option.map_eq_some_iff.1 infoBuilder
 go_enter Tryz.func76, Tryz.ntmps76
 go_wp2
 rw [Lib.run_to_unsafe w ⟨b, 0, none⟩ Tryz.underlying63 Tryz.underlying124 hj (by rw [hjs]; decide) hsh (Nat.zero_lt_succ 1)]
 simp only [Result.andThen]
 rw [Oper.upon_value]
 go_wp2
 rw [run_callFunc_extern Tryz.func116 (by kernel_rfl) (by kernel_rfl) (by kernel_rfl) (e := Extern.AbiNoEscape.same) (by kernel_rfl)]
 rw [Lib.run_noEscape]
 simp only [Result.andThen]
 rw [Oper.upon_value]
 go_wp2
 rw [Lib.run_from_unsafe w ⟨b, 0, none⟩ Tryz.underlying124 Tryz.underlying63 hj hsh liesBuilder]
 simp only [Result.andThen]
 rw [Oper.upon_value]
 go_wp2
 go_end0
 exact ⟨rfl, rfl⟩
theorem copyCheck (B b : Nat) (bs : List Value) (w : World) (h : Lib.IsBuilder 65 5 B b bs w) :
  Calls Tryz.prog 76 #[.pointer (some ⟨b, 0, none⟩)] w fun e w' => e = .returned (.tuple #[]) ∧ (Lib.BuilderAt 65 5 B b (.pointer (some ⟨b, 0, none⟩)) bs w' ∧ Below B w w' ∧ KeepX b w w') := by
 rcases h with h | h
 ·refine (copyCheck_fresh b w h.cell0 h.shape h.frozen0).mono ?_
  rintro e w' ⟨rfl, rfl⟩
  exact ⟨rfl, h.used _, (Below.refl B w).setCell (p := ⟨b, 0, none⟩) h.1 _, (KeepX.refl b w).setCell 0 _⟩
 ·refine (copyCheck_used b w h.cell0).mono ?_
  rintro e w' ⟨rfl, rfl⟩
  exact ⟨rfl, h, Below.refl B _, KeepX.refl b _⟩
set_option maxHeartbeats 2000000 in
set_option maxRecDepth 100000 in
theorem writeByte (B b : Nat) (bs : List Value) (c : Int) (w : World) (h : Lib.IsBuilder 65 5 B b bs w) (hlen : bs.length + 1 ≤ 140737488355328) (hBw : B ≤ w.heap.size) :
  Calls Tryz.prog 44 #[.pointer (some ⟨b, 0, none⟩), .int .u8 c] w fun e w' => e = .returned .nilIface ∧ (Lib.BuilderAt 65 5 B b (.pointer (some ⟨b, 0, none⟩)) (bs ++ [.int .u8 c]) w' ∧ Below B w w' ∧ KeepX b w w') := by
 obtain ⟨i0, hi, hz0, hz1, hz2⟩ := info_parts infoByte
 go_enter Tryz.func44, Tryz.ntmps44
 go_wp2_with (go_at_call 76; refine (copyCheck B b bs _ h).mono ?_)
 rintro e w1 ⟨rfl, h1, hb1, hk1⟩
 obtain ⟨hB, v, hbk, hown, hne⟩ := h1
 have c0 : w1.cell? ⟨b, 0, none⟩ = some (.pointer (some ⟨b, 0, none⟩)) := by rw [Lib.cell_of_heap hbk]; rfl
 have c1 : w1.cell? ⟨b, 1, none⟩ = some v := by rw [Lib.cell_of_heap hbk]; rfl
 go_wp2_with (at_builtin; refine wpList_append_own _ rfl _ _ 43 rfl B 5 i0 (.int .u8 0) 1 1 Tryz.underlying43 hi hz0 hz1 hz2 rfl (by decide) _ _ _ rfl (hown.alloc _) ⟨w1.heap.size, 0, none⟩ 1 1 [.int .u8 c] rfl rfl ?c1 ?c2 ?c3 ?c4 ?c5 ?_)
 case c1 =>
  intro j u hj
  match j, hj with
  | 0, hj => simp at hj; subst hj; simp [Addr.add]
 case c2 => intro u hu; simp at hu; subst hu; rfl
 case c3 => unfold maxLen; omega
 case c4 => omega
 case c5 => have := hb1.size; simp; omega
 intro v' w2 hown' hgrow _
 have hlt : b < w1.heap.size := by
  rcases Nat.lt_or_ge b w1.heap.size with h' | h'
  ·exact h'
  ·simp [Array.getElem?_eq_none h'] at hbk
 have hb2 : w2.heap[b]? = some (.cells #[.pointer (some ⟨b, 0, none⟩), v] 65 (0, 0)) := by
  rw [hgrow.block b (by simp; omega) (fun e => hne e.symm), Lib.alloc_old w1 _ b hlt]
  exact hbk
 have d0 : w2.cell? ⟨b, 0, none⟩ = some (.pointer (some ⟨b, 0, none⟩)) := by rw [Lib.cell_of_heap hb2]; rfl
 have d1 : w2.cell? ⟨b, 1, none⟩ = some v := by rw [Lib.cell_of_heap hb2]; rfl
 have f1 : w2.frozen? ⟨b, 1, none⟩ = false := Lib.frozen_of_heap hb2 1
 obtain ⟨g, cap, rfl⟩ : ∃ g cap, v' = .slice (some ⟨g, 0, none⟩) (bs.length + 1) cap := by
  rcases hown'.2 with ⟨_, h0⟩ | ⟨g, cap, cur, hv, _⟩
  ·omega
  ·exact ⟨g, cap, hv⟩
 go_wp2
 go_ret
 refine ⟨rfl, ?_, ?_, ((hk1.alloc _).grown hgrow (hown.alloc _)).setCell 1 _⟩
 ·exact Lib.BuilderAt.put (T := 65) (e := 5) hB hb2 (bs' := bs ++ [.int .u8 c]) (by simpa using hown') (by decide)
 ·exact ((hb1.alloc (by have := hb1.size; omega) _).grown hgrow (by have := hb1.size; simp; omega) (fun k hk => (hown.lt k hk).1)).setCell (p := ⟨b, 1, none⟩) hB _
set_option maxHeartbeats 2000000 in
set_option maxRecDepth 100000 in
theorem writeString (B b : Nat) (bs : List Value) (s : ByteArray) (w : World) (h : Lib.IsBuilder 65 5 B b bs w) (hlen : bs.length + s.size ≤ 140737488355328) (hBw : B ≤ w.heap.size) :
  Calls Tryz.prog 45 #[.pointer (some ⟨b, 0, none⟩), .string s] w fun e w' => e = .returned (.tuple #[.int .i64 s.size, .nilIface]) ∧ (Lib.BuilderAt 65 5 B b (.pointer (some ⟨b, 0, none⟩)) (bs ++ Lib.strCells s) w' ∧ Below B w w' ∧ KeepX b w w') := by
 obtain ⟨i0, hi, hz0, hz1, hz2⟩ := info_parts infoByte
 go_enter Tryz.func45, Tryz.ntmps45
 go_wp2_with (go_at_call 76; refine (copyCheck B b bs _ h).mono ?_)
 rintro e w1 ⟨rfl, h1, hb1, hk1⟩
 obtain ⟨hB, v, hbk, hown, hne⟩ := h1
 have c0 : w1.cell? ⟨b, 0, none⟩ = some (.pointer (some ⟨b, 0, none⟩)) := by rw [Lib.cell_of_heap hbk]; rfl
 have c1 : w1.cell? ⟨b, 1, none⟩ = some v := by rw [Lib.cell_of_heap hbk]; rfl
 go_wp2_with (at_builtin; refine Lib.wpList_append_own_string _ rfl _ _ 43 9 rfl B 5 i0 Tryz.underlying43 Tryz.underlying9 hi hz0 hz1 hz2 _ _ _ rfl hown s rfl ?c3 ?c4 ?c5 ?_)
 case c3 => unfold maxLen; omega
 case c4 => omega
 case c5 => have := hb1.size; omega
 intro v' w2 hown' hgrow _
 have hlt : b < w1.heap.size := by
  rcases Nat.lt_or_ge b w1.heap.size with h' | h'
  ·exact h'
  ·simp [Array.getElem?_eq_none h'] at hbk
 have hb2 : w2.heap[b]? = some (.cells #[.pointer (some ⟨b, 0, none⟩), v] 65 (0, 0)) := by
  rw [hgrow.block b hlt (fun e => hne e.symm)]
  exact hbk
 have d0 : w2.cell? ⟨b, 0, none⟩ = some (.pointer (some ⟨b, 0, none⟩)) := by rw [Lib.cell_of_heap hb2]; rfl
 have d1 : w2.cell? ⟨b, 1, none⟩ = some v := by rw [Lib.cell_of_heap hb2]; rfl
 have f1 : w2.frozen? ⟨b, 1, none⟩ = false := Lib.frozen_of_heap hb2 1
 obtain ⟨ao, n', cap, rfl⟩ : ∃ ao n' cap, v' = .slice ao n' cap := by
  rcases hown'.2 with ⟨hv, _⟩ | ⟨g, cap, cur, hv, _⟩
  ·exact ⟨_, _, _, hv⟩
  ·exact ⟨_, _, _, hv⟩
 go_wp2
 go_ret2
 refine ⟨rfl, ?_, ?_, (hk1.grown hgrow hown).setCell 1 _⟩
 ·exact Lib.BuilderAt.put (T := 65) (e := 5) hB hb2 (bs' := bs ++ Lib.strCells s) (by simpa [Lib.strCells_length] using hown') (by decide)
 ·exact (hb1.grown hgrow (by have := hb1.size; omega) (fun k hk => (hown.lt k hk).1)).setCell (p := ⟨b, 1, none⟩) hB _
theorem cellsByte : Tryz.prog.cellsOf 5 = 1 := by kernel_rfl
set_option maxHeartbeats 1000000 in
set_option maxRecDepth 100000 in
theorem stringOf (B b : Nat) (l : List UInt8) (w : World) (h : Lib.IsBuilder 65 5 B b (Lib.byteCells l) w) (h0 : l ≠ []) :
  Calls Tryz.prog 46 #[.pointer (some ⟨b, 0, none⟩)] w fun e w' => e = .returned (.string ⟨l.toArray⟩) ∧ Below B w w' := by
 obtain ⟨p, hB, v, hbk, hown, hne⟩ : ∃ p, Lib.BuilderAt 65 5 B b p (Lib.byteCells l) w := by
  rcases h with h | h
  ·exact ⟨_, h⟩
  ·exact ⟨_, h⟩
 have hl0 : l.length ≠ 0 := by simpa using h0
 rw [Lib.byteCells_length] at hown
 obtain ⟨g, cap, cur, rfl, hbg, hg, hnc, hcm, hcs, htake⟩ : ∃ g cap cur, v = .slice (some ⟨g, 0, none⟩) l.length cap ∧ B ≤ g ∧ w.heap[g]? = some (.cells cur 5 (0, 0)) ∧ l.length ≤ cap ∧ cap ≤ maxLen ∧ cur.size = cap * 1 ∧ cur.toList.take (l.length * 1) = Lib.byteCells l := by
  rcases hown.2 with ⟨_, hz⟩ | ⟨g, cap, cur, hv, r⟩
  ·exact absurd hz hl0
  ·exact ⟨g, cap, cur, hv, r⟩
 have c1 : w.drew.cell? ⟨b, 1, none⟩ = some (.slice (some ⟨g, 0, none⟩) l.length cap) := by
  have : w.drew.heap[b]? = some (.cells #[p, .slice (some ⟨g, 0, none⟩) l.length cap] 65 (0, 0)) := hbk
  rw [Lib.cell_of_heap this]; rfl
 have hSD : (Builtin.unsafeSliceData_ #[43] 101 #[.slice (some ⟨g, 0, none⟩) l.length cap]).run Tryz.prog w.drew = .ok (.pointer (some ⟨g, 0, none⟩)) w.drew :=
  Lib.run_unsafeSliceData_row _ _ _ _ _ _ (by omega)
 have hUS : (Builtin.unsafeString_ #[101, 3] 9 #[.pointer (some ⟨g, 0, none⟩), .int .i64 l.length]).run Tryz.prog w.drew = .ok (.string ⟨l.toArray⟩) (w.drew.freeze ⟨g, 0, none⟩ l.length) := by
  refine Lib.run_unsafeString_row w.drew 101 3 9 5 Tryz.underlying101 cellsByte g cur.size (by have hg' : w.drew.heap[g]? = some (.cells cur 5 (0, 0)) := hg; simp [World.shape?, hg']) l h0 (by omega) (by unfold maxLen at hcm; omega) ?_
  intro j x hx
  have := hown.cells (g := g) rfl j (.int .u8 x.toNat) (by simp [Lib.byteCells, hx])
  exact this
 go_enter Tryz.func46, Tryz.ntmps46
 have mixed : Tryz.prog.follows Departure.mixedOrders = true := by kernel_rfl
 go_wp2
 go_region_o
 all_goals (go_wp2; go_ret; exact ⟨rfl, Lib.below_freeze (Below.drew (Below.refl B w)) (p := ⟨g, 0, none⟩) hbg _⟩)
def strH (l : List UInt8) (h : Int) : Int := l.foldl (fun h c => (31 * h + (c.toNat : Int) + 1) % 2147483647) h
theorem strH_snoc (l : List UInt8) (c : UInt8) (h : Int) : strH (l ++ [c]) h = (31 * strH l h + (c.toNat : Int) + 1) % 2147483647 := by simp [strH]
theorem strH_bd (l : List UInt8) (h : Int) (h0 : 0 ≤ h) (h1 : h ≤ 2147483647) : 0 ≤ strH l h ∧ strH l h ≤ 2147483647 := by
 unfold strH
 induction l generalizing h with
 | nil => exact ⟨h0, h1⟩
 | cons c l ih => exact ih ((31 * h + (c.toNat : Int) + 1) % 2147483647) (by omega) (by omega)
theorem strH_take (l : List UInt8) (h : Int) (k : Nat) (hk : k < l.length) : strH (l.take (k + 1)) h = (31 * strH (l.take k) h + ((l.getD k 0).toNat : Int) + 1) % 2147483647 := by
 rw [List.take_succ_eq_append_getElem hk, strH_snoc, List.getD_eq_getElem?_getD, List.getElem?_eq_getElem hk]; rfl
end Go.Proofs.YtkenmmfplnheaaaGreatDoor.Giv
namespace Go.Proofs.YtkenmmfplnheaaaGreatDoor.P
open Go.Proofs.YtkenmmfplnheaaaGreatDoor.Giv
open Go.RowKit Go.Proofs.YtkenmmfplnheaaaGreatDoorW.PrintWords Go.Proofs.YtkenmmfplnheaaaGreatDoorW.PrintLast Go.Proofs.YtkenmmfplnheaaaGreatDoorW.PrintMore
attribute [local go_sem] max2_int min2_int max_two min_two max_three min_three max_four min_four   -- for this text's walks alone
set_option linter.unusedVariables false
set_option linter.unusedSimpArgs false
def errW : Option Int → Value
 | none => .nilIface
 | some c => .iface 0 (.int .i64 c)
theorem errW_none : errW none = .nilIface := rfl
theorem errW_some (c : Int) : errW (some c) = .iface 0 (.int .i64 c) := rfl
theorem info5 : (Tryz.prog.info? 5).map (fun i => (i.zero, i.size, i.bytes)) = some (some (.int .u8 0), 1, 1) := by kernel_rfl
theorem info25 : (Tryz.prog.info? 25).map (fun i => (i.zero, i.size, i.bytes)) = some (some (.int .u64 0), 1, 8) := by kernel_rfl
structure S24 where
 f0 : Bool
 f1 : (List Int)
def k24 : Kd S24 := Kd.iso (Kd.pair Kd.bool (Kd.slice 25 (Kd.int .u64))) (fun x : S24 => (x.f0, x.f1))
theorem k24_open {w : World} {x : S24} {cs : List Value} (h : k24.K w x cs) : ∃ A1 c1, cs = [.bool x.f0, .slice A1 x.f1.length c1] ∧ x.f1.length ≤ c1 ∧ (Kd.int .u64).C w A1 x.f1.length x.f1 := by
 obtain ⟨_, _, rfl, rfl, ⟨A1, c1, rfl, l1, g1⟩⟩ := h
 exact ⟨A1, c1, rfl, l1, g1⟩
theorem k24_mk (w : World) (x : S24) {A1 : Option Addr} {c1 : Nat} (l1 : x.f1.length ≤ c1) (g1 : (Kd.int .u64).C w A1 x.f1.length x.f1) : k24.K w x [.bool x.f0, .slice A1 x.f1.length c1] := ⟨[.bool x.f0], [.slice A1 x.f1.length c1], rfl, rfl, ⟨A1, c1, rfl, l1, g1⟩⟩
structure S28 where
 f0 : Int
 f1 : Bool
 f2 : S24
 f3 : Int
 f4 : ByteArray
 f5 : (List S28)
def F28 (d : Kd S28) : Kd S28 := Kd.iso (Kd.pair (Kd.int .i64) (Kd.pair Kd.bool (Kd.pair k24 (Kd.pair (Kd.int .u64) (Kd.pair Kd.string (Kd.slice 28 d)))))) (fun x : S28 => (x.f0, x.f1, x.f2, x.f3, x.f4, x.f5))
theorem mono28 : Kd.Mono F28 := Kd.mono_iso _ (Kd.mono_pair (Kd.mono_const _) (Kd.mono_pair (Kd.mono_const _) (Kd.mono_pair (Kd.mono_const _) (Kd.mono_pair (Kd.mono_const _) (Kd.mono_pair (Kd.mono_const _) (Kd.mono_slice 28 Kd.mono_id))))))
theorem sub28 : Kd.Sub F28 [25, 28] := Kd.sub_iso _ (Kd.sub_pair (Kd.sub_const _ (by decide)) (Kd.sub_pair (Kd.sub_const _ (by decide)) (Kd.sub_pair (Kd.sub_const _ (by decide)) (Kd.sub_pair (Kd.sub_const _ (by decide)) (Kd.sub_pair (Kd.sub_const _ (by decide)) (Kd.sub_slice 28 (by decide) Kd.sub_id))))))
theorem sz28 : ∀ n, (Kd.upto F28 7 [25, 28] n).sz = 7 := Kd.upto_sz (fun _ => rfl)
def k28 : Kd S28 := Kd.fix F28 7 [25, 28] sz28 (Kd.upto_E sub28)
theorem k28_open {w : World} {x : S28} {cs : List Value} (h : k28.K w x cs) : ∃ A3 c3 A6 c6, cs = [.int .i64 x.f0, .bool x.f1, .bool x.f2.f0, .slice A3 x.f2.f1.length c3, .int .u64 x.f3, .string x.f4, .slice A6 x.f5.length c6] ∧ x.f2.f1.length ≤ c3 ∧ (Kd.int .u64).C w A3 x.f2.f1.length x.f2.f1 ∧ x.f5.length ≤ c6 ∧ k28.C w A6 x.f5.length x.f5 := by
 obtain ⟨n, h⟩ := h
 cases n with
 | zero => exact h.elim
 | succ n =>
  obtain ⟨_, _, rfl, rfl, ⟨_, _, rfl, rfl, ⟨_, _, rfl, s2, ⟨_, _, rfl, rfl, ⟨_, _, rfl, rfl, ⟨A6, c6, rfl, l6, g6⟩⟩⟩⟩⟩⟩ := h
  obtain ⟨A3, c3, rfl, l3, g3⟩ := k24_open s2
  exact ⟨A3, c3, A6, c6, rfl, l3, g3, l6, Kd.fix_C g6⟩
theorem k28_mk (w : World) (x : S28) {A3 : Option Addr} {c3 : Nat} (l3 : x.f2.f1.length ≤ c3) (g3 : (Kd.int .u64).C w A3 x.f2.f1.length x.f2.f1) {A6 : Option Addr} {c6 : Nat} (l6 : x.f5.length ≤ c6) (g6 : k28.C w A6 x.f5.length x.f5) : k28.K w x [.int .i64 x.f0, .bool x.f1, .bool x.f2.f0, .slice A3 x.f2.f1.length c3, .int .u64 x.f3, .string x.f4, .slice A6 x.f5.length c6] := by
 obtain ⟨n6, q6⟩ := Kd.fix_C_back mono28 g6
 have r6 := Kd.upto_C_le mono28 sz28 (show n6 ≤ n6 by omega) q6
 exact ⟨n6 + 1, ⟨[.int .i64 x.f0], [.bool x.f1, .bool x.f2.f0, .slice A3 x.f2.f1.length c3, .int .u64 x.f3, .string x.f4, .slice A6 x.f5.length c6], rfl, rfl, ⟨[.bool x.f1], [.bool x.f2.f0, .slice A3 x.f2.f1.length c3, .int .u64 x.f3, .string x.f4, .slice A6 x.f5.length c6], rfl, rfl, ⟨[.bool x.f2.f0, .slice A3 x.f2.f1.length c3], [.int .u64 x.f3, .string x.f4, .slice A6 x.f5.length c6], rfl, (k24_mk w x.f2 l3 g3), ⟨[.int .u64 x.f3], [.string x.f4, .slice A6 x.f5.length c6], rfl, rfl, ⟨[.string x.f4], [.slice A6 x.f5.length c6], rfl, rfl, ⟨A6, c6, rfl, l6, r6⟩⟩⟩⟩⟩⟩⟩
end Go.Proofs.YtkenmmfplnheaaaGreatDoor.P
