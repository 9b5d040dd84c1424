/- The small functions under the mender's law: contracts. -/
import Derived.Test.YtigcpknfcdcllaaPMenderKeepsx2
import Derived.Test.YtigcpknfcdcllaaLb
import Derived.WalkKit
import Derived.WalkSpells
import Derived.RegionTactic
import Derived.BigQuiet
import Derived.Deep.QuietTactic
import Derived.Lib.Hide
import Derived.Outline
namespace Go.Proofs.Ytigcpknfcdcllaa
open Go.RowKit Go.Proofs.YtigcpknfcdcllaaW.PrintWords Go.Proofs.YtigcpknfcdcllaaLb

theorem Try.info5 : (Try.prog.info? 5).map (fun i => (i.zero, i.size, i.bytes)) = some (some (.int .u8 0), 1, 1) := by kernel_rfl

/-- 'Count' at a writer. -/
theorem count_any (b : Nat) (s : Int) (A : Option Addr) (n c : Nat) (w : World) (h1 : w.cell? ⟨b, 3, none⟩ = some (.int .u64 s)) (h2 : w.cell? ⟨b, 4, none⟩ = some (.slice A n c)) :
    Calls Try.prog 71 #[.pointer (some ⟨b, 0, none⟩)] w fun e w' => e = .returned (.int .u64 (IntKind.u64.wrap (s + IntKind.u64.wrap n))) ∧ Drawn0 w w' := by
  go_enter Try.func71, Try.ntmps71
  go_wp2
  go_quiet (fail)
  go_wp2
  go_ret
  exact ⟨rfl, ⟨_, rfl⟩⟩

theorem sure_any (b : Nat) (s : Int) (w : World) (h1 : w.cell? ⟨b, 3, none⟩ = some (.int .u64 s)) :
    Calls Try.prog 21 #[.pointer (some ⟨b, 0, none⟩)] w fun e w' => e = .returned (.int .u64 s) ∧ w = w' := by
  go_enter Try.func21, Try.ntmps21
  go_wp2
  go_ret
  exact ⟨rfl, rfl⟩

theorem clone_bytes (v : Value) (xs : List Int) (w : World) (h : Bs w v xs) (hl : xs.length ≤ 140737488355328) :
    Calls Try.prog 72 #[v] w fun e w' => ∃ A' c', e = .returned (.slice A' xs.length c') ∧ Bs w' (.slice A' xs.length c') xs ∧ Below w.heap.size w w' := by
  obtain ⟨A, c, rfl, hc, hC, hb⟩ := h
  cases A with
  | none =>
    have : xs = [] := by
      cases xs with
      | nil => rfl
      | cons x xs => obtain ⟨ad, he, _⟩ := hC.2.2 (by simp); cases he
    subst this
    have k1 := fun (wx : World) => Lib.run_eql_slice_nil (P := Try.prog) wx 42 5 none 0 c 0 0 Try.underlying42
    go_enter Try.func72, Try.ntmps72
    go_wp2
    go_ret
    exact ⟨_, _, rfl, Bs.nil _, Below.refl _ _⟩
  | some ad =>
    cases xs with
    | nil =>
      clear hl hb hC hc
      have k1 := fun (wx : World) => Lib.run_eql_slice_nil (P := Try.prog) wx 42 5 (some ad) 0 c 0 0 Try.underlying42
      go_enter Try.func72, Try.ntmps72
      go_wp2
      go_ret
      exact ⟨_, _, rfl, bs_of_q (q_fresh w 0 5 1 (Nat.zero_le _)), below_alloc (Below.refl _ _) _⟩
    | cons x xs =>
      obtain ⟨i0, hi, hz0, hz1, hz2⟩ := info_parts Try.info5
      have hbc : ByC (w.alloc (.cells #[] 5)) (some ad) (x :: xs) := Kd.C_below hC (below_alloc (Below.refl _ _) _)
      obtain ⟨v', w', hrun, hq, hg, hat⟩ := q_append (P := Try.prog) (w.alloc (.cells #[] 5)) w.heap.size 42 42 5 i0 (.int .u8 0) 1 1 Try.underlying42 hi hz0 hz1 hz2 rfl (by decide)
        (.slice (some ⟨w.heap.size, 0, none⟩) 0 0) 0 [] (q_fresh w w.heap.size 5 1 (Nat.le_refl _)) ad (x :: xs).length c (nums .u8 (x :: xs)) (by simp [nums]) (byc_cells hbc) (nums_one _ _) (by simp) (by unfold maxLen; omega) (by omega) (by simp)
      simp only [Nat.zero_add, List.nil_append] at hq
      have hB : Below w.heap.size w w' := (below_alloc (Below.refl _ _) _).grown hg (by simp) (fun k hk => by simp [Value.ownBlock] at hk; omega)
      obtain ⟨A', c', rfl, _⟩ := q_slice hq
      have Hq := Lib.hid hq
      have HB := Lib.hid hB
      have Hg := Lib.hid hg
      clear hq hB hg hat hbc hl hb hC hc hi hz0 hz1 hz2
      generalize hxs : x :: xs = ys at Hq hrun ⊢
      clear hxs
      generalize hn : ys.length = n at hrun ⊢
      have Hn := Lib.hid hn
      clear hn
      have k1 := fun (wx : World) => Lib.run_eql_slice_nil (P := Try.prog) wx 42 5 (some ad) n c 0 0 Try.underlying42
      go_enter Try.func72, Try.ntmps72
      go_wp2_with (at_builtin; refine app_event rfl (.tmp 5) (.tmp 6) 42 rfl rfl rfl hrun ?_)
      go_ret
      exact ⟨_, _, rfl, by have h1 := Hn.out; subst h1; exact bs_of_q Hq.out, HB.out⟩

end Go.Proofs.Ytigcpknfcdcllaa
