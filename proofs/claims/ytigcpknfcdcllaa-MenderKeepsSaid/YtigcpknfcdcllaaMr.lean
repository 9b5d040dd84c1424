/- MenderKeeps: for every n and every list of events the law answers true, and both arguments read as they did. Conditions: none. -/
import Derived.Test.YtigcpknfcdcllaaRows
import Derived.Test.YtigcpknfcdcllaaMw
import Derived.WalkKit
import Derived.ProofKit
import Derived.OpenShut
import Derived.ChangeOld
import Derived.Below
import Derived.Deep.Slices
namespace Go.Proofs.Ytigcpknfcdcllaa.menderKeeps
open Go.ChangeShapes Go.WideShapes Go.ChangeAt Go.RowKit
set_option linter.unusedVariables false
theorem own : ownKnob Try.prog.godebug = none := by kernel_rfl
theorem laidOut : laidOutB Try.prog = true := by kernel_rfl
theorem cells41 : Try.prog.cellsOf 41 = 4 := by kernel_rfl
theorem cells5 : Try.prog.cellsOf 5 = 1 := by kernel_rfl
theorem cells4 : Try.prog.cellsOf 4 = 1 := by kernel_rfl
set_option maxRecDepth 100000 in
theorem acts_open {H : Type} {enc : TypeId × Value → H} {w : World} {base fuel : Nat} {spare : Nat → Bool} {held : Bool} {A : Option Addr} {len cap : Nat} {x : DataW H × List MemPlace} (h : DataW.trod enc Try.prog w base spare held fuel 23 [.slice A len cap] = some x) : ActsC w A len := by
  rcases Deep.open_slice Try.underlying23 h with ⟨hcs, _⟩ | ⟨a, l, c, m, n, D, Pl, hcs, _, hl, hm, hmm, hx, hall⟩
  · simp at hcs
    obtain ⟨rfl, rfl, rfl⟩ := hcs
    exact ⟨by omega, fun h => absurd h (by omega)⟩
  · simp at hcs
    obtain ⟨rfl, rfl, rfl⟩ := hcs
    have hlm : len ≤ m := by rw [hmm]; split <;> omega
    have each : ∀ i, i < len → ∃ (K P W : Nat) (L : Bool), K < 256 ∧ P < 256 ∧ W < 256 ∧ w.cell? (a.add (i * 4)) = some (.int .u8 K) ∧ w.cell? (a.add (i * 4 + 1)) = some (.int .u8 P) ∧ w.cell? (a.add (i * 4 + 2)) = some (.int .u8 W) ∧ w.cell? (a.add (i * 4 + 3)) = some (.bool L) := by
      intro i hi
      obtain ⟨cs', h1, h2⟩ := hall i (by omega)
      rw [cells41] at h1
      obtain ⟨_, hlen, hcell⟩ := World.cells?_some h1
      obtain ⟨xs, k, hk, hxy, _, hxl, hf⟩ := DataW.trod_struct Try.underlying41 h2
      match xs, hxl, cs', hlen with
      | [y0, y1, y2, y3], _, [v0, v1, v2, v3], _ =>
        have g0 := hf 0 _ rfl
        have g1 := hf 1 _ rfl
        have g2 := hf 2 _ rfl
        have g3 := hf 3 _ rfl
        simp [cells5, cells4] at g0 g1 g2 g3
        obtain ⟨z0, e0, _, b0⟩ := DataW.trod_int Try.underlying5 g0
        obtain ⟨z1, e1, _, b1⟩ := DataW.trod_int Try.underlying5 g1
        obtain ⟨z2, e2, _, b2⟩ := DataW.trod_int Try.underlying5 g2
        obtain ⟨z3, e3, _⟩ := DataW.trod_bool Try.underlying4 g3
        have d0 := hcell 0 (by omega)
        have d1 := hcell 1 (by omega)
        have d2 := hcell 2 (by omega)
        have d3 := hcell 3 (by omega)
        rw [Deep.add_add] at d0 d1 d2 d3
        have c0 := bounds_u8 b0
        have c1 := bounds_u8 b1
        have c2 := bounds_u8 b2
        injection e0 with e0 _
        injection e1 with e1 _
        injection e2 with e2 _
        injection e3 with e3 _
        subst e0; subst e1; subst e2; subst e3
        refine ⟨z0.toNat, z1.toNat, z2.toNat, z3, by omega, by omega, by omega, ?_, ?_, ?_, ?_⟩
        · rw [show ((z0.toNat : Nat) : Int) = z0 by omega]; simpa using d0
        · rw [show ((z1.toNat : Nat) : Int) = z1 by omega]; simpa using d1
        · rw [show ((z2.toNat : Nat) : Int) = z2 by omega]; simpa using d2
        · simpa using d3
    refine ⟨by unfold maxLen at hm; omega, fun h0 => ?_⟩
    obtain ⟨b, off, spot⟩ := a
    obtain ⟨_, _, _, _, _, _, _, e0, _⟩ := each 0 h0
    have hspot : spot = none := by simpa [Addr.add] using World.cell?_spot e0
    subst hspot
    refine ⟨b, off, rfl, fun i hi => ?_⟩
    obtain ⟨K, P, W, L, h1, h2, h3, h4, h5, h6, h7⟩ := each i hi
    rw [add_plain] at h4 h5 h6 h7
    exact ⟨K, P, W, L, h1, h2, h3, h4, by rw [Nat.add_assoc]; exact h5, by rw [Nat.add_assoc]; exact h6, by rw [Nat.add_assoc]; exact h7⟩
set_option maxRecDepth 100000 in
theorem lifted (os : Os) (started : os.Started) (H : Type) (enc : TypeId × Value → H) :
    ReturnsInHanded {} Try.checked os 3 .any (Rows.menderKeepsSpec.pre6 enc Try.prog Try.f3 Rows.menderKeepsRow.domain false) (Rows.menderKeepsSpec.post enc Try.prog Try.f3 false true false false) := by
  refine returnsInHanded_of_change (C := Try.checked) own started (by kernel_rfl) Try.func3
    (ChangeSpec.witness6 (enc := enc) (C := Try.checked) false ⟨#[], #[.int .u16 0, .slice none 0 0], []⟩ 8 (by kernel_rfl) (by kernel_rfl) (by kernel_rfl) (by kernel_rfl)) ?_
  intro W base args ds gs before hval0 hW hcnd _
  have hval : ∀ (j : Nat) t v, Try.f3.params[j]? = some t → args[j]? = some v → Value.okWide Try.prog W .any base t v := hval0
  have hW' := hW
  obtain ⟨p, q, hA0, hV, rfl, hfz, hnd⟩ := hW
  have hA : DataW.TrodAll enc Try.prog W 0 (fun _ => true) true Try.f3.params.toList args.toList ds p := hA0
  rw [Try.params3] at hA hval
  obtain ⟨v0, v1, d0, d1, p0, p1, rfl, rfl, rfl, h0, h1⟩ := trodAll_two hA
  obtain ⟨rfl, rfl⟩ := trodVars_none hV
  obtain ⟨n, rfl, rfl, rfl, wn⟩ := open_int Try.underlying22 (hval 0 22 v0 rfl rfl) h0
  obtain ⟨A, len, cap, rfl⟩ := okWide_slice Try.underlying23 (hval 1 23 v1 rfl rfl)
  have k1 := h1
  have lt1 : ∀ x ∈ p1, x.block < W.heap.size := by obtain ⟨m, hm⟩ := k1; exact DataW.trod_lt m _ _ _ hm
  have hac : ActsC W A len := by
    obtain ⟨fuel, hf⟩ := h1
    exact acts_open (by simpa [Value.cells] using hf)
  have hb := bounds_u16 wn
  obtain ⟨m, rfl⟩ : ∃ m : Nat, n = (m : Int) := ⟨n.toNat, by omega⟩
  clear hA0 hval0
  refine (law_calls m (by omega) A len cap W hac).mono fun e W' ⟨he, bel⟩ => ?_
  subst he
  exact ⟨_, rfl, _, _, _, [], _, [], hW', trodAll_mk1 (shut_bool Try.underlying4 _), trodAll_mk2 (shut_int Try.underlying22 wn) (Below.trod laidOut (by kernel_rfl) (of_decide_eq_true (by kernel_rfl)) k1 bel lt1), rfl, bel.frame _, fun h => by cases h⟩
theorem over : Rows.menderKeepsRow.holds Try.pinned (OpenSpec.ofChange Rows.menderKeepsSpec) :=
  OpenClaim.holds_of_wide 3 Try.f3 rfl rfl rfl rfl rfl rfl rfl ⟨rfl, rfl, rfl, rfl, rfl⟩ rfl rfl rfl rfl rfl (by kernel_rfl) Try.func3 (by kernel_rfl)
    (of_decide_eq_true (by kernel_rfl)) (by unfold Func.isWrapper; first | (rw [if_pos (by decide +kernel)]; kernel_rfl) | (rw [if_neg (by decide +kernel)]; exact ⟨rfl, rfl⟩))
    (fun os started H enc _ => lifted os started H enc)
theorem proved : Rows.MenderKeepsSaid := over
#print axioms proved
end Go.Proofs.Ytigcpknfcdcllaa.menderKeeps
namespace Go.Proofs.Ytigcpknfcdcllaa
/-- The row, under a short name, for the claim. -/
theorem menderKeeps_holds : Rows.MenderKeepsSaid := menderKeeps.proved
end Go.Proofs.Ytigcpknfcdcllaa
