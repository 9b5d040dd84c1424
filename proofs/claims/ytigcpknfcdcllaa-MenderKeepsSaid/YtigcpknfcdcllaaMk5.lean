/- Hear's test over a list: nothing differs; Hear. -/
import Derived.Test.YtigcpknfcdcllaaMk4
namespace Go.Proofs.Ytigcpknfcdcllaa
open Go.RowKit Go.Proofs.YtigcpknfcdcllaaW.PrintWords Go.Proofs.YtigcpknfcdcllaaW.PrintLast Go.Proofs.YtigcpknfcdcllaaLb
set_option linter.unusedSimpArgs false
set_option linter.unusedVariables false

/-- A list of entries in memory, each with its bytes by T. -/
structure ItC (w : World) (T : Nat → List Int) (A : Option Addr) (its : List (Nat × Value)) : Prop where
  max : its.length ≤ 1000000
  cells : 0 < its.length → ∃ g o, A = some ⟨g, o, none⟩ ∧ ∀ (i e : Nat) (v : Value), its[i]? = some (e, v) → w.cell? ⟨g, o + i * 2, none⟩ = some (.int .u64 e) ∧ w.cell? ⟨g, o + i * 2 + 1, none⟩ = some v
  bytes : ∀ (i e : Nat) (v : Value), its[i]? = some (e, v) → Bs w v (T e) ∧ e < 18446744073709551616
theorem ItC.below {w w' : World} {T : Nat → List Int} {A : Option Addr} {its : List (Nat × Value)} (h : ItC w T A its) (k : Below w.heap.size w w') : ItC w' T A its :=
  ⟨h.max, fun hn => by
    obtain ⟨g, o, e1, hc⟩ := h.cells hn
    refine ⟨g, o, e1, fun i e v hi => ?_⟩
    obtain ⟨a1, a2⟩ := hc i e v hi
    exact ⟨(k.cell (World.block_lt_of_cell? _ _ a1)).trans a1, (k.cell (World.block_lt_of_cell? _ _ a2)).trans a2⟩,
   fun i e v hi => ⟨(h.bytes i e v hi).1.kp (Kp.of_below (fun _ => False) k), (h.bytes i e v hi).2⟩⟩

theorem ItC.kp {S : Nat → Prop} {w w' : World} {T : Nat → List Int} {A : Option Addr} {its : List (Nat × Value)} (h : ItC w T A its) (k : Kp S w w') (hd : ∀ g o, A = some ⟨g, o, none⟩ → ¬ S g) : ItC w' T A its :=
  ⟨h.max, fun hn => by
    obtain ⟨g, o, e1, hc⟩ := h.cells hn
    refine ⟨g, o, e1, fun i e v hi => ?_⟩
    obtain ⟨a1, a2⟩ := hc i e v hi
    exact ⟨k.cell a1 (hd g o e1), k.cell a2 (hd g o e1)⟩,
   fun i e v hi => ⟨(h.bytes i e v hi).1.kp k, (h.bytes i e v hi).2⟩⟩

set_option maxRecDepth 100000 in
set_option maxHeartbeats 1000000 in
theorem index_other (T : Nat → List Int) (A : Option Addr) (c : Nat) (its : List (Nat × Value)) (ex : Nat) (vx : Value) (gx : Nat) (w : World) (hI : ItC w T A its) (hvx : Bs w vx (T ex)) (h0 : w.cell? ⟨gx, 0, none⟩ = some (.int .u64 ex)) (h1 : w.cell? ⟨gx, 1, none⟩ = some vx) :
    Calls Try.prog 125 #[.slice A its.length c, .func (.func 77) #[] #[.pointer (some ⟨gx, 0, none⟩)]] w fun e w' => e = .returned (.int .i64 (-1)) ∧ Below w.heap.size w w' := by
  have HI := Lib.hid hI
  have HVX := Lib.hid hvx
  have hmax := hI.max
  have H0 := Lib.hid h0
  have H1 := Lib.hid h1
  clear hI hvx h0 h1
  obtain ⟨n, hn⟩ : ∃ n, n = its.length := ⟨_, rfl⟩
  rw [← hn] at hmax ⊢
  have HN := Lib.hid hn
  clear hn
  go_enter Try.func125, Try.ntmps125
  go_wp2
  go_loopw [5, 8] (fun _ v wr => ∃ j : Nat, v = .int .i64 j ∧ j ≤ n ∧ Aside0 (Below w.heap.size w wr)) (fun _ v _ => n - (intOf v).toNat)
  case atStart => exact ⟨0, rfl, Nat.zero_le _, ⟨Below.refl _ _⟩⟩
  case round =>
    obtain ⟨j, rfl, hj, HB⟩ := hrel
    by_cases hlt : j < n
    · obtain ⟨g, o, rfl, hc⟩ := (HI.out.below HB.out).cells (by have := HN.out; omega)
      obtain ⟨x, hx⟩ : ∃ x, its[j]? = some x := ⟨_, List.getElem?_eq_getElem (by have := HN.out; omega)⟩
      obtain ⟨e, v⟩ := x
      obtain ⟨a1, a2⟩ := hc j e v hx
      have hbv := ((HI.out.below HB.out).bytes j e v hx).1
      have HBV := Aside0.mk hbv
      obtain ⟨Av, cv, rfl, _⟩ := hbv
      clear hc hx
      go_wp2_with (go_at_call 77; refine (other_calls T e ex (.slice Av (T e).length cv) vx gx _ HBV.out (HVX.out.kp (Kp.of_below (fun _ => False) HB.out)) ((HB.out.cell (World.block_lt_of_cell? _ _ H0.out)).trans H0.out) ((HB.out.cell (World.block_lt_of_cell? _ _ H1.out)).trans H1.out)).mono ?_; rintro e1 w1 ⟨rfl, hb1⟩)
      go_roundw
      case rel => exact ⟨j + 1, by go_num, by omega, ⟨below_step HB.out hb1⟩⟩
      case measure => simp [intOf]; omega
    · go_wp2
      go_ret
      exact ⟨rfl, HB.out⟩

theorem contains_other (T : Nat → List Int) (A : Option Addr) (c : Nat) (its : List (Nat × Value)) (ex : Nat) (vx : Value) (gx : Nat) (w : World) (hI : ItC w T A its) (hvx : Bs w vx (T ex)) (h0 : w.cell? ⟨gx, 0, none⟩ = some (.int .u64 ex)) (h1 : w.cell? ⟨gx, 1, none⟩ = some vx) :
    Calls Try.prog 79 #[.slice A its.length c, .func (.func 77) #[] #[.pointer (some ⟨gx, 0, none⟩)]] w fun e w' => e = .returned (.bool false) ∧ Below w.heap.size w w' := by
  have HC := Lib.hid (index_other T A c its ex vx gx w hI hvx h0 h1)
  clear hI hvx h0 h1
  generalize its.length = n at HC ⊢
  go_enter Try.func79, Try.ntmps79
  go_wp2_with (go_at_call 125; refine HC.out.mono ?_; rintro e1 w1 ⟨rfl, hb1⟩)
  go_ret
  exact ⟨rfl, hb1⟩

end Go.Proofs.Ytigcpknfcdcllaa
