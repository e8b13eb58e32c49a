/- The row and the card. -/
import Derived.ProofKit
import Derived.ChangeArms
import Derived.WalkKit
import Derived.OpenShut
import Derived.Below
import Derived.Lay
import Derived.LaidOnce
import Derived.SevenTiedAt
import Derived.Test.YtkenmmfplnheaaaGreatDoorCards
import Derived.Test.YtkenmmfplnheaaaGreatDoorTie
import Derived.Test.YtkenmmfplnheaaaGreatDoorLaw1
set_option linter.unusedVariables false
set_option linter.unusedSimpArgs false
namespace Go.Proofs.YtkenmmfplnheaaaGreatDoor.P
open Go.RowKit Go.ChangeShapes Go.WideShapes Go.Proofs.YtkenmmfplnheaaaGreatDoorW.PrintWords Go.Proofs.YtkenmmfplnheaaaGreatDoorW.PrintLast Go.Proofs.YtkenmmfplnheaaaGreatDoorW.PrintMore Go.Proofs.YtkenmmfplnheaaaGreatDoor.Giv
abbrev SX := S28
abbrev kX : Kd SX := k28
def U64' (l : List Int) : Prop := ∀ x ∈ l, 0 ≤ x ∧ x ≤ 18446744073709551615
structure Bd (x : SX) : Prop where
 u : U64' x.f2.f1
 b0 : 0 ≤ x.f3
 b1 : x.f3 ≤ 18446744073709551615
 ll : x.f2.f1.length ≤ 9223372036854775807
section
variable {H : Type} {enc : TypeId × Value → H} {W : World} {sp : Nat → Bool} {held : Bool}
theorem cellsOf_u64 : Tryz.prog.cellsOf 25 = 1 := by kernel_rfl
theorem cellsOf_v : Tryz.prog.cellsOf 28 = 7 := by kernel_rfl
theorem cellsOf_big : Tryz.prog.cellsOf 24 = 2 := by kernel_rfl
theorem cellsOf_int : Tryz.prog.cellsOf 3 = 1 := by kernel_rfl
theorem cellsOf_bool : Tryz.prog.cellsOf 4 = 1 := by kernel_rfl
theorem cellsOf_str : Tryz.prog.cellsOf 9 = 1 := by kernel_rfl
theorem cellsOf_sl : Tryz.prog.cellsOf 22 = 1 := by kernel_rfl
theorem cellsOf_sv : Tryz.prog.cellsOf 26 = 1 := by kernel_rfl
theorem limbs_of {fuel : Nat} {cs : List Value} {y : DataW H × List MemPlace} (h : DataW.trod enc Tryz.prog W 0 sp held fuel 22 cs = some y) :
  ∃ A c l, cs = [.slice A l.length c] ∧ l.length ≤ c ∧ (Kd.int .u64).C W A l.length l ∧ U64' l ∧ l.length ≤ 9223372036854775807 := by
 rcases open_ints Tryz.underlying22 Tryz.underlying25 cellsOf_u64 h with ⟨rfl, _⟩ | ⟨a, len, cap, zs, rfl, _, hl, hm, hz, _, hcell, hwf⟩
 ·exact ⟨none, 0, [], rfl, Nat.le_refl _, ⟨rfl, by decide, fun h => absurd h (by decide)⟩, fun x hx => absurd hx (by simp), by decide⟩
 ·have hlz : len ≤ zs.length := by rw [hz]; split <;> omega
  have ht : (zs.take len).length = len := by rw [List.length_take]; omega
  have hmax : len ≤ 9223372036854775807 := by unfold maxLen at hm; omega
  refine ⟨some a, cap, zs.take len, by rw [ht], by rw [ht]; exact hl, ⟨rfl, by rw [ht]; exact hmax, fun _ => ⟨a, rfl, fun j p hj => ?_⟩⟩, fun x hx => ?_, by rw [ht]; exact hmax⟩
  ·rw [List.getElem?_take] at hj
   split at hj
   ·rename_i hjl
    refine ⟨[.int .u64 p], rfl, rfl, fun i u hi => ?_⟩
    cases i with
    | zero =>
     simp only [List.getElem?_cons_zero, Option.some.injEq] at hi
     subst hi
     have hsz : (Kd.int .u64).sz = 1 := rfl
     rw [hsz, Nat.mul_one, Nat.add_zero, hcell j (by omega), List.getD_eq_getElem?_getD, hj]; rfl
    | succ i => simp at hi
   ·cases hj
  ·have := hwf x (List.mem_of_mem_take hx)
   have h2 : 0 ≤ x ∧ x ≤ 18446744073709551615 := by simpa [Lit.wf, IntKind.min, IntKind.max, IntKind.signed, IntKind.bits] using this
   exact h2
theorem build {α : Type} {p : Nat → α → Prop} : ∀ n, (∀ i, i < n → ∃ x, p i x) → ∃ l : List α, l.length = n ∧ ∀ i x, l[i]? = some x → p i x := by
 intro n
 induction n with
 | zero => intro _; exact ⟨[], rfl, fun i x h => by simp at h⟩
 | succ n ih =>
  intro h
  obtain ⟨l, hl, hp⟩ := ih (fun i hi => h i (by omega))
  obtain ⟨x, hx⟩ := h n (by omega)
  refine ⟨l ++ [x], by simp [hl], fun i y hy => ?_⟩
  by_cases hi : i < l.length
  ·rw [List.getElem?_append_left hi] at hy; exact hp i y hy
  ·rw [List.getElem?_append_right (by omega)] at hy
   have : i - l.length = 0 := by
    rcases Nat.eq_zero_or_pos (i - l.length) with h0 | h0
    ·exact h0
    ·rw [List.getElem?_eq_none (by simp; omega)] at hy; cases hy
   rw [this] at hy
   simp only [List.getElem?_cons_zero, Option.some.injEq] at hy
   subst hy
   have : i = n := by omega
   subst this; exact hx
theorem l7 {α : Type} : ∀ {cs : List α}, cs.length = 7 → ∃ c0 c1 c2 c3 c4 c5 c6, cs = [c0, c1, c2, c3, c4, c5, c6]
 | [c0, c1, c2, c3, c4, c5, c6], _ => ⟨c0, c1, c2, c3, c4, c5, c6, rfl⟩
theorem l6 {α : Type} : ∀ {cs : List α}, cs.length = 6 → ∃ c0 c1 c2 c3 c4 c5, cs = [c0, c1, c2, c3, c4, c5]
 | [c0, c1, c2, c3, c4, c5], _ => ⟨c0, c1, c2, c3, c4, c5, rfl⟩
theorem l2 {α : Type} : ∀ {cs : List α}, cs.length = 2 → ∃ c0 c1, cs = [c0, c1]
 | [c0, c1], _ => ⟨c0, c1, rfl⟩
theorem value_of : ∀ (fuel : Nat) (cs : List Value) (y : DataW H × List MemPlace), DataW.trod enc Tryz.prog W 0 sp held fuel 28 cs = some y → ∃ x : SX, kX.K W x cs ∧ Bd x := by
 intro fuel
 induction fuel using Nat.strongRecOn with
 | ind fuel ih =>
  intro cs y h
  obtain ⟨xs, n, rfl, _, hlen, hxs, hf⟩ := DataW.trod_struct Tryz.underlying28 h
  rw [cellsOf_v] at hlen
  obtain ⟨c0, c1, c2, c3, c4, c5, c6, rfl⟩ := l7 hlen
  obtain ⟨y0, y1, y2, y3, y4, y5, rfl⟩ := l6 (show xs.length = 6 from hxs)
  have f0 := hf 0 _ rfl; have f1 := hf 1 _ rfl; have f2 := hf 2 _ rfl; have f3 := hf 3 _ rfl; have f4 := hf 4 _ rfl; have f5 := hf 5 _ rfl
  clear hf h
  simp only [List.getElem_toArray, List.getElem_cons_zero, List.getElem_cons_succ, cellsOf_int, cellsOf_bool, cellsOf_big, cellsOf_u64, cellsOf_str, cellsOf_sv, cellsOf_sl, List.drop_zero, List.drop_succ_cons, List.take_succ_cons, List.take_zero, List.getElem?_cons_zero, List.getElem?_cons_succ] at f0 f1 f2 f3 f4 f5
  obtain ⟨k, e0, _, _⟩ := DataW.trod_int Tryz.underlying3 f0
  obtain ⟨yy, e1, _⟩ := DataW.trod_bool Tryz.underlying4 f1
  obtain ⟨zs, m, rfl, _, _, hzs, hg⟩ := DataW.trod_struct Tryz.underlying24 f2
  obtain ⟨b, e3, _, hb⟩ := DataW.trod_int Tryz.underlying25 f3
  obtain ⟨s, e4, _, _⟩ := DataW.trod_string Tryz.underlying9 f4
  obtain ⟨z0, z1, rfl⟩ := l2 (show zs.length = 2 from hzs)
  have g0 := hg 0 _ rfl; have g1 := hg 1 _ rfl
  clear hg
  simp only [List.getElem_toArray, List.getElem_cons_zero, List.getElem_cons_succ, cellsOf_int, cellsOf_bool, cellsOf_big, cellsOf_u64, cellsOf_str, cellsOf_sv, cellsOf_sl, List.drop_zero, List.drop_succ_cons, List.take_succ_cons, List.take_zero, List.getElem?_cons_zero, List.getElem?_cons_succ] at g0 g1
  obtain ⟨ng, e2, _⟩ := DataW.trod_bool Tryz.underlying4 g0
  obtain ⟨A3, cap3, l, e2b, l3, h3, hu, hll⟩ := limbs_of g1
  simp only [List.cons.injEq, and_true] at e0 e1 e2 e2b e3 e4
  subst e0 e1 e2 e2b e3 e4
  have hbb : 0 ≤ b ∧ b ≤ 18446744073709551615 := by simpa [Lit.wf, IntKind.min, IntKind.max, IntKind.signed, IntKind.bits] using hb
  have items : ∃ (A6 : Option Addr) (cap6 : Nat) (l6 : List SX), c6 = .slice A6 l6.length cap6 ∧ l6.length ≤ cap6 ∧ kX.C W A6 l6.length l6 := by
   rcases DataW.trod_slice Tryz.underlying26 f5 with ⟨e, _⟩ | ⟨a, len, cap, elems, rest, q, hq, e, _, _, hl, hm, hle, hel, _⟩
   ·simp only [List.cons.injEq, and_true] at e
    exact ⟨none, 0, [], e, Nat.le_refl _, ⟨rfl, by decide, fun h => absurd h (by decide)⟩⟩
   ·simp only [List.cons.injEq, and_true] at e
    rw [cellsOf_v] at hel
    have each : ∀ i, i < len → ∃ x : SX, ∃ ci, ci.length = 7 ∧ kX.K W x ci ∧ ∀ j u, ci[j]? = some u → W.cell? (a.add (i * 7 + j)) = some u := by
     intro i hi
     have hi2 := hel i hi
     obtain ⟨ei, hei⟩ : ∃ ei, elems[i]? = some ei := ⟨elems[i]'(by omega), List.getElem?_eq_getElem (by omega)⟩
     rw [hei] at hi2
     obtain ⟨ci, hc, ht⟩ := Option.bind_eq_some_iff.1 hi2
     obtain ⟨_, hcl, hcell⟩ := World.cells?_some hc
     obtain ⟨x, hx, _⟩ := ih q (by omega) ci ei ht
     refine ⟨x, ci, hcl, hx, fun j u hj => ?_⟩
     have hjl : j < 7 := by rw [← hcl]; exact (List.getElem?_eq_some_iff.1 hj).1
     have := hcell j hjl
     rw [add_add] at this
     rw [this]; exact hj
    obtain ⟨l6, hl6, hp⟩ := build len each
    refine ⟨some a, cap, l6, by rw [e, hl6], by rw [hl6]; exact hl, ⟨rfl, by rw [hl6]; unfold maxLen at hm; omega, fun _ => ⟨a, rfl, fun j p hj => ?_⟩⟩⟩
    obtain ⟨ci, h1, h2, h3⟩ := hp j p hj
    exact ⟨ci, h1, h2, h3⟩
  obtain ⟨A6, cap6, l6, rfl, h6, g6⟩ := items
  exact ⟨⟨k, yy, ⟨ng, l⟩, b, s, l6⟩, k28_mk W ⟨k, yy, ⟨ng, l⟩, b, s, l6⟩ l3 h3 h6 g6, hu, hbb.1, hbb.2, hll⟩
end
end Go.Proofs.YtkenmmfplnheaaaGreatDoor.P
set_option linter.unusedVariables false
namespace Go.Proofs.YtkenmmfplnheaaaGreatDoor
open Go.RowKit Go.ChangeShapes Go.WideShapes Go.ChangeAt
open P
theorem own : ownKnob Tryz.prog.godebug = none := by kernel_rfl
theorem laidOut : laidOutB Tryz.prog = true := by kernel_rfl
def v0 : Value := .agg #[.int .i64 0, .bool false, .bool false, .slice none 0 0, .int .u64 0, .string ByteArray.empty, .slice none 0 0]
theorem wf_of {x : SX} (h : Bd x) : Wf ⟨x.f0, x.f1, x.f2.f0, x.f2.f1, x.f3.toNat, x.f4, x.f5⟩ :=
 ⟨h.u, h.ll, by have := h.b0; have := h.b1; show x.f3.toNat < _; omega⟩
theorem walk {W : World} {x y : SX} {cs es : List Value} (hx : kX.K W x cs) (bx : Bd x) (hy : kX.K W y es) (by_ : Bd y) :
  Calls Tryz.prog 4 #[.agg cs.toArray, .agg es.toArray] W fun e w' => e = .returned (.bool true) ∧ Below W.heap.size W w' := by
 obtain ⟨A3, c3, A6, c6, rfl, l3, g3, l6, g6⟩ := k28_open hx
 obtain ⟨B3, d3, B6, d6, rfl, m3, h3, m6, h6⟩ := k28_open hy
 obtain ⟨k, hk⟩ := agree_ev (wf_of bx) (wf_of by_)
 have hk := hk k (Nat.le_refl _)
 have ex : ((x.f3.toNat : Nat) : Int) = x.f3 := Int.toNat_of_nonneg bx.b0
 have ey : ((y.f3.toNat : Nat) : Int) = y.f3 := Int.toNat_of_nonneg by_.b0
 simp only [ex, ey] at hk
 exact w5_PlainAgree.calls k x.f0 x.f1 x.f2.f0 A3 c3 x.f2.f1 x.f3 x.f4 A6 c6 x.f5 y.f0 y.f1 y.f2.f0 B3 d3 y.f2.f1 y.f3 y.f4 B6 d6 y.f5 true W g3 l3 g6 l6 h3 m3 h6 m6 hk
set_option maxRecDepth 100000 in
theorem lifted (os : Os) (started : os.Started) (H : Type) (enc : TypeId × Value → H) :
  ReturnsInHanded {} Tryz.checked os 4 .any (fun w args => (Rows.plainAgreeSpec.pre enc Tryz.prog Tryz.f4 [] false w args ∧ laidMetH Tryz.prog Rows.plainAgreeRow.laid w) ∧ sizedMet enc Tryz.prog Tryz.f4 (OpenSpec.ofChange Rows.plainAgreeSpec) false w args)
   (Rows.plainAgreeSpec.post enc Tryz.prog Tryz.f4 false true false false) := by
 refine returnsInHanded_of_change_and (C := Tryz.checked) (X := fun w _ => laidMetH Tryz.prog Rows.plainAgreeRow.laid w) (fun _ _ _ hh h => h.of_heap hh) own started (by kernel_rfl) Tryz.func4
  (ChangeSpec.witness_shaped (enc := enc) (C := Tryz.checked) (os := os) (X := fun w _ => laidMetH Tryz.prog Rows.plainAgreeRow.laid w) false (World.laidAll Tryz.prog os Rows.plainAgreeRow.laid) #[v0, v0] 8 (World.laidAll_os _ _ _)
   (World.shaped_of_ZipB (by kernel_rfl) (by kernel_rfl)) (by kernel_rfl) (by kernel_rfl) (by kernel_rfl)
   (by rw [MakeChecks.laidMetH_plain _ _ _ (by kernel_rfl)]; exact laidMet_laidAll _ (by kernel_rfl) (by kernel_rfl))) ?_
 intro W base args ds gs before hval0 hW _ _ hL _
 have hval : ∀ (j : Nat) t v, Tryz.f4.params[j]? = some t → args[j]? = some v → Value.okWide Tryz.prog W .any base t v := hval0
 have hW' := hW
 obtain ⟨p, q, hA0, hV, rfl, _, _⟩ := hW
 have hA : DataW.TrodAll enc Tryz.prog W 0 (fun _ => true) true Tryz.f4.params.toList args.toList ds p := hA0
 rw [Tryz.params4] at hA hval
 obtain ⟨u0, u1, d0, d1, p0, p1, rfl, rfl, rfl, h0, h1⟩ := trodAll_two hA
 obtain ⟨rfl, rfl⟩ := trodVars_none hV
 have lt0 : ∀ x ∈ p0, x.block < W.heap.size := by obtain ⟨m, hm⟩ := h0; exact DataW.trod_lt m _ _ _ hm
 have lt1 : ∀ x ∈ p1, x.block < W.heap.size := by obtain ⟨m, hm⟩ := h1; exact DataW.trod_lt m _ _ _ hm
 have o0 := hval 0 _ u0 rfl rfl
 have o1 := hval 1 _ u1 rfl rfl
 simp only [Value.okWide] at o0 o1
 obtain ⟨cs, rfl, _, _⟩ := o0
 obtain ⟨es, rfl, _, _⟩ := o1
 have k0 := h0
 have k1 := h1
 obtain ⟨n0, e0⟩ := k0
 obtain ⟨n1, e1⟩ := k1
 obtain ⟨x, hx, bx⟩ := value_of n0 _ _ e0
 obtain ⟨y, hy, bY⟩ := value_of n1 _ _ e1
 simp only [List.append_nil] at hW'
 clear hA0 hval0
 refine (walk hx bx hy bY).mono fun e W' ⟨he, bel⟩ => ?_
 subst he
 exact ⟨_, rfl, _, _, _, [], _, [], hW', trodAll_mk1 (shut_bool Tryz.underlying4 _), trodAll_mk2 (Below.trod laidOut (by kernel_rfl) (of_decide_eq_true (by kernel_rfl)) h0 bel lt0) (Below.trod laidOut (by kernel_rfl) (of_decide_eq_true (by kernel_rfl)) h1 bel lt1), rfl, bel.frame _, fun h => by cases h⟩
end Go.Proofs.YtkenmmfplnheaaaGreatDoor
