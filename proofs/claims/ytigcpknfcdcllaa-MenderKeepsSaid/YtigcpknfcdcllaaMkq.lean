/- Quorums in plain numbers: what Set, count, Enough, Covered and Contains come to; their contracts in these words. -/
import Derived.Test.YtigcpknfcdcllaaMk2
namespace Go.Proofs.Ytigcpknfcdcllaa
open Go.RowKit Go.Proofs.YtigcpknfcdcllaaW.PrintWords Go.Proofs.YtigcpknfcdcllaaLb
set_option linter.unusedSimpArgs false
set_option linter.unusedVariables false

/-- The places of entry n. -/
def setN (Q : Qm) (n : Nat) : List Nat := (List.range Q.q).map fun i => (n + i) % Q.p
def ints (l : List Nat) : List Int := l.map fun (x : Nat) => (x : Int)
theorem setN_length (Q : Qm) (n : Nat) : (setN Q n).length = Q.q := by simp [setN]
theorem setN_lt (Q : Qm) (n : Nat) : ∀ x ∈ setN Q n, x < Q.p := by
  intro x hx
  simp only [setN, List.mem_map] at hx
  obtain ⟨i, _, rfl⟩ := hx
  exact Nat.mod_lt _ (by have := Q.h1; have := Q.h2; have := Q.h3; omega)
/-- How many of entry n's places are marked. -/
def cnt (Q : Qm) (n : Nat) (s : List Bool) : Nat := ((setN Q n).filter fun p => s.getD p false).length
theorem cnt_le (Q : Qm) (n : Nat) (s : List Bool) : cnt Q n s ≤ Q.q := by
  have := List.length_filter_le (fun p => s.getD p false) (setN Q n)
  rw [setN_length] at this
  exact this

theorem place_num (Q : Qm) (n i : Nat) (hn : n < 18446744073709551616) (hi : i ≤ 7) :
    wrap64 (Int.tmod (IntKind.u64.wrap ((Int.tmod (n : Int) (IntKind.u64.wrap (Q.p : Int))) + (IntKind.u64.wrap (i : Int)))) (IntKind.u64.wrap (Q.p : Int))) = (((n + i) % Q.p : Nat) : Int) := by
  have h1 := Q.h1
  have h2 := Q.h2
  have h3 := Q.h3
  have h4 := Q.h4
  rw [IntWalk.u64_in (Q.p : Int) (by omega), IntWalk.u64_in (i : Int) (by omega), IntWalk.rem_in (n : Int) _ (by omega)]
  have hm : (n : Int) % (Q.p : Int) = ((n % Q.p : Nat) : Int) := by simp
  have hlt := Nat.mod_lt n (show 0 < Q.p by omega)
  rw [hm, IntWalk.u64_in _ (by omega), IntWalk.rem_in _ _ (by omega)]
  have hm2 : ((n % Q.p : Nat) : Int) + (i : Int) = ((n % Q.p + i : Nat) : Int) := by omega
  rw [hm2]
  have hm3 : ((n % Q.p + i : Nat) : Int) % (Q.p : Int) = (((n % Q.p + i) % Q.p : Nat) : Int) := by simp
  have hlt2 := Nat.mod_lt (n % Q.p + i) (show 0 < Q.p by omega)
  rw [hm3, Nat.mod_add_mod]
  rw [Nat.mod_add_mod] at hlt2
  unfold wrap64
  omega

theorem set_l0 (Q : Qm) (n : Nat) (hn : n < 18446744073709551616) : ∀ (d k i : Nat) (acc : List Int), i + d = Q.q → d < k → acc.length = i →
    PMenderKeeps.quorum_Set.l0 k n acc Q.q i Q.p Q.q Q.a = some (acc ++ (List.range d).map fun j => (((n + (i + j)) % Q.p : Nat) : Int)) := by
  have h1 := Q.h1
  have h2 := Q.h2
  have h3 := Q.h3
  have h4 := Q.h4
  intro d
  induction d with
  | zero =>
    intro k i acc hi hk _
    obtain ⟨k, rfl⟩ : ∃ m, k = m + 1 := ⟨k - 1, by omega⟩
    simp only [PMenderKeeps.quorum_Set.l0]
    rw [if_neg (by omega)]
    simp
  | succ d ih =>
    intro k i acc hi hk hl
    obtain ⟨k, rfl⟩ : ∃ m, k = m + 1 := ⟨k - 1, by omega⟩
    simp only [PMenderKeeps.quorum_Set.l0]
    rw [if_pos (by omega), if_neg (by rw [IntWalk.u64_in (Q.p : Int) (by omega)]; omega), if_pos (by omega), place_num Q n i hn (by omega)]
    have hw : wrap64 ((i : Int) + 1) = ((i + 1 : Nat) : Int) := by unfold wrap64; omega
    rw [hw, ih k (i + 1) _ (by omega) (by omega) (by simp [hl]), List.range_succ_eq_map, List.map_cons, List.map_map, List.append_assoc]
    congr 2
    simp only [Nat.add_zero, List.cons_append, List.nil_append, Function.comp_def]
    congr 1
    refine List.map_congr_left (fun j _ => ?_)
    rw [show n + (i + 1 + j) = n + (i + j.succ) by omega]
theorem check_f (Q : Qm) : PMenderKeeps.quorum_Check.f Q.p Q.q Q.a = some true := by
  have := Q.h1; have := Q.h2; have := Q.h3; have := Q.h4
  unfold PMenderKeeps.quorum_Check.f
  rw [if_pos (by omega), if_pos (by omega), if_pos (by omega), decide_eq_true (by omega)]
theorem set_f (Q : Qm) (n : Nat) (hn : n < 18446744073709551616) (k : Nat) (hk : Q.q < k) : PMenderKeeps.quorum_Set.f k Q.p Q.q Q.a n = some (ints (setN Q n)) := by
  unfold PMenderKeeps.quorum_Set.f
  rw [check_f]
  simp only [Option.bind_some, if_true]
  rw [show (0 : Int) = ((0 : Nat) : Int) from rfl, set_l0 Q n hn Q.q k 0 [] (by omega) hk rfl]
  simp [ints, setN, List.map_map, Function.comp_def]
theorem set_calls (Q : Qm) (n : Nat) (hn : n < 18446744073709551616) (w : World) : Calls Try.prog 75 #[Q.val, .int .u64 n] w fun e w' => ∃ (A : Option Addr) (c : Nat), e = .returned (.slice A Q.q c) ∧ (Kd.int .i64).C w' A Q.q (ints (setN Q n)) ∧ Q.q ≤ c ∧ Below w.heap.size w w' := by
  refine (PMenderKeeps.quorum_Set.calls 8 Q.p Q.q Q.a n _ w (set_f Q n hn 8 (by have := Q.h3; have := Q.h4; omega))).mono ?_
  rintro e w' ⟨v, rfl, hr, hb⟩
  obtain ⟨A, c, rfl, hc, hC⟩ := Kd.R_reads hr
  have hl : (ints (setN Q n)).length = Q.q := by simp [ints, setN_length]
  rw [hl] at hc hC
  rw [hl]
  exact ⟨A, c, rfl, hC, hc, hb⟩

theorem refset_l0 (Q : Qm) (n : Nat) : ∀ (d k i : Nat) (acc : List Int), i + d = Q.q → d < k → acc.length = i →
    PMenderKeeps.mailcoachref10_Set.l0 k acc (((n + i) % Q.p : Nat) : Int) i Q.p Q.q Q.a = some (acc ++ (List.range d).map fun j => (((n + (i + j)) % Q.p : Nat) : Int)) := by
  have h1 := Q.h1
  have h2 := Q.h2
  have h3 := Q.h3
  have h4 := Q.h4
  intro d
  induction d with
  | zero =>
    intro k i acc hi hk _
    obtain ⟨k, rfl⟩ : ∃ m, k = m + 1 := ⟨k - 1, by omega⟩
    simp only [PMenderKeeps.mailcoachref10_Set.l0]
    rw [if_neg (by omega)]
    simp
  | succ d ih =>
    intro k i acc hi hk hl
    obtain ⟨k, rfl⟩ : ∃ m, k = m + 1 := ⟨k - 1, by omega⟩
    have hlt := Nat.mod_lt (n + i) (show 0 < Q.p by omega)
    have hw : wrap64 ((i : Int) + 1) = ((i + 1 : Nat) : Int) := by unfold wrap64; omega
    have hp : wrap64 ((((n + i) % Q.p : Nat) : Int) + 1) = (((n + i) % Q.p + 1 : Nat) : Int) := by unfold wrap64; omega
    have hgo := ih k (i + 1) (acc ++ [(((n + i) % Q.p : Nat) : Int)]) (by omega) (by omega) (by simp [hl])
    have hlist : acc ++ [(((n + i) % Q.p : Nat) : Int)] ++ (List.range d).map (fun j => (((n + (i + 1 + j)) % Q.p : Nat) : Int)) = acc ++ (List.range (d + 1)).map (fun j => (((n + (i + j)) % Q.p : Nat) : Int)) := by
      rw [List.range_succ_eq_map, List.map_cons, List.map_map, List.append_assoc]
      congr 1
      simp only [Nat.add_zero, List.cons_append, List.nil_append, Function.comp_def]
      congr 1
      refine List.map_congr_left (fun j _ => ?_)
      rw [show n + (i + 1 + j) = n + (i + j.succ) by omega]
    rw [hlist] at hgo
    simp only [PMenderKeeps.mailcoachref10_Set.l0]
    rw [if_pos (by omega), if_pos (by omega), Option.bind_some, hp, hw]
    have hstep : (n + (i + 1)) % Q.p = if (n + i) % Q.p + 1 = Q.p then 0 else (n + i) % Q.p + 1 := by
      rw [show n + (i + 1) = n + i + 1 by omega, Nat.add_mod]
      split
      · rename_i h
        by_cases hp1 : Q.p = 1
        · rw [hp1]; exact Nat.mod_one _
        · rw [Nat.mod_eq_of_lt (show 1 < Q.p by omega), h, Nat.mod_self]
      · rename_i h
        have : Q.p ≠ 1 := fun e => by rw [e] at h hlt; omega
        rw [Nat.mod_eq_of_lt (show 1 < Q.p by omega), Nat.mod_eq_of_lt (by omega)]
    by_cases he : (n + i) % Q.p + 1 = Q.p
    · rw [if_pos (by omega)]
      rw [hstep, if_pos he] at hgo
      exact hgo
    · rw [if_neg (by omega)]
      rw [hstep, if_neg he] at hgo
      exact hgo
theorem refset_calls (Q : Qm) (n : Nat) (hn : n < 1000000) (w : World) : Calls Try.prog 17 #[Q.val, .int .u64 n] w fun e w' => ∃ (A : Option Addr) (c : Nat), e = .returned (.slice A Q.q c) ∧ (Kd.int .i64).C w' A Q.q (ints (setN Q n)) ∧ Q.q ≤ c ∧ Below w.heap.size w w' := by
  have h1 := Q.h1
  have h2 := Q.h2
  have h3 := Q.h3
  have h4 := Q.h4
  have hf : PMenderKeeps.mailcoachref10_Set.f 8 Q.p Q.q Q.a n = some (ints (setN Q n)) := by
    unfold PMenderKeeps.mailcoachref10_Set.f PMenderKeeps.mailcoachref10_Check.f
    rw [if_pos (by omega), if_pos (by omega), if_pos (by omega), decide_eq_true (by omega)]
    simp only [Option.bind_some, if_true]
    rw [IntWalk.u64_in (Q.p : Int) (by omega), if_neg (by omega), IntWalk.rem_in (n : Int) _ (by omega)]
    have hlt := Nat.mod_lt n (show 0 < Q.p by omega)
    have hm : wrap64 ((n : Int) % (Q.p : Int)) = (((n + 0) % Q.p : Nat) : Int) := by
      have : (n : Int) % (Q.p : Int) = ((n % Q.p : Nat) : Int) := by simp
      rw [this]
      unfold wrap64
      simp only [Nat.add_zero]
      omega
    rw [hm, show (0 : Int) = ((0 : Nat) : Int) from rfl, refset_l0 Q n Q.q 8 0 [] (by omega) (by omega) rfl]
    simp [ints, setN, List.map_map, Function.comp_def]
  refine (PMenderKeeps.mailcoachref10_Set.calls 8 Q.p Q.q Q.a n _ w hf).mono ?_
  rintro e w' ⟨v, rfl, hr, hb⟩
  obtain ⟨A, c, rfl, hc, hC⟩ := Kd.R_reads hr
  have hl : (ints (setN Q n)).length = Q.q := by simp [ints, setN_length]
  rw [hl] at hc hC
  rw [hl]
  exact ⟨A, c, rfl, hC, hc, hb⟩

theorem count_l0 (s : List Bool) (l : List Nat) (hl : ∀ x ∈ l, x < s.length) (hlen : l.length ≤ 7) : ∀ (d k i acc : Nat), i + d = l.length → d < k → acc ≤ i →
    PMenderKeeps.quorum_count.l0 k s acc (ints l) ((ints l).length : Int) i = some ((acc + ((l.drop i).filter fun p => s.getD p false).length : Nat) : Int) := by
  have hil : (ints l).length = l.length := by simp [ints]
  intro d
  induction d with
  | zero =>
    intro k i acc hi hk ha
    obtain ⟨k, rfl⟩ : ∃ m, k = m + 1 := ⟨k - 1, by omega⟩
    simp only [PMenderKeeps.quorum_count.l0]
    rw [if_neg (by omega), List.drop_of_length_le (by omega)]
    simp
  | succ d ih =>
    intro k i acc hi hk ha
    obtain ⟨k, rfl⟩ : ∃ m, k = m + 1 := ⟨k - 1, by omega⟩
    have hi' : i < l.length := by omega
    have hx : l[i] < s.length := hl _ (List.getElem_mem hi')
    have hgo1 := ih k (i + 1) (acc + 1) (by omega) (by omega) (by omega)
    have hgo0 := ih k (i + 1) acc (by omega) (by omega) (by omega)
    have f1 : (i : Int) < ((ints l).length : Int) := by omega
    have f2 : (0 : Int) ≤ (i : Int) := by omega
    have f3 : (l[i] : Int) < (s.length : Int) := by omega
    have f4 : (0 : Int) ≤ (l[i] : Int) := by omega
    have hrd : rd (ints l) (i : Int) = (l[i] : Int) := by
      simp [rd, ints, List.getD_eq_getElem?_getD, List.getElem?_map, List.getElem?_eq_getElem hi']
    have hro : rdOf false s (l[i] : Int) = s.getD l[i] false := by simp [rdOf]
    have hwi : wrap64 ((i : Int) + 1) = ((i + 1 : Nat) : Int) := by unfold wrap64; omega
    have hwa : wrap64 ((acc : Int) + 1) = ((acc + 1 : Nat) : Int) := by unfold wrap64; omega
    simp only [PMenderKeeps.quorum_count.l0]
    rw [if_pos f1, if_pos f2, if_pos f1, hrd, if_pos f3, if_pos f4, hro, hwi, hwa]
    rw [List.drop_eq_getElem_cons hi', List.filter_cons]
    by_cases hs : s.getD l[i] false = true
    · rw [if_pos hs, if_pos hs]
      refine hgo1.trans ?_
      refine congrArg (fun x : Nat => some (x : Int)) ?_
      generalize ((l.drop (i + 1)).filter fun p => s.getD p false) = L
      rw [List.length_cons, Nat.add_assoc acc 1, Nat.add_comm 1]
    · rw [if_neg hs, if_neg hs]
      exact hgo0
theorem count_f (Q : Qm) (n : Nat) (hn : n < 18446744073709551616) (s : List Bool) (hs : s.length = Q.p) (k : Nat) (hk : 8 ≤ k) : PMenderKeeps.quorum_count.f k Q.p Q.q Q.a n s = some (cnt Q n s : Int) := by
  have h3 := Q.h3
  have h4 := Q.h4
  unfold PMenderKeeps.quorum_count.f
  rw [set_f Q n hn k (by omega)]
  simp only [Option.bind_some]
  rw [show (0 : Int) = ((0 : Nat) : Int) from rfl, count_l0 s (setN Q n) (by rw [hs]; exact setN_lt Q n) (by rw [setN_length]; omega) Q.q k 0 0 (by rw [setN_length]; omega) (by omega) (by omega)]
  simp [cnt]
theorem count_calls (Q : Qm) (n : Nat) (hn : n < 18446744073709551616) (s : List Bool) (hs : s.length = Q.p) (A : Option Addr) (c : Nat) (w : World) (hC : Kd.C Kd.bool w A Q.p s) (hc : Q.p ≤ c) :
    Calls Try.prog 123 #[Q.val, .int .u64 n, .slice A Q.p c] w fun e w' => e = .returned (.int .i64 (cnt Q n s)) ∧ Below w.heap.size w w' := by
  rw [← hs] at hC hc ⊢
  exact PMenderKeeps.quorum_count.calls 8 Q.p Q.q Q.a n A c s _ w hC hc (count_f Q n hn s hs 8 (Nat.le_refl _))

/-- Do the marked places cover? -/
def covB (Q : Qm) (s : List Bool) : Bool := (List.range Q.p).all fun i => decide (Q.q - Q.a < cnt Q i s)
theorem cov_l0 (Q : Qm) (s : List Bool) (hs : s.length = Q.p) : ∀ (d k i : Nat), i + d = Q.p → d + 8 < k →
    PMenderKeeps.quorum_Covered.l0 k s Q.p i Q.p Q.q Q.a = some ((List.range d).all fun j => decide (Q.q - Q.a < cnt Q (i + j) s)) := by
  have h1 := Q.h1
  have h2 := Q.h2
  have h3 := Q.h3
  have h4 := Q.h4
  intro d
  induction d with
  | zero =>
    intro k i hi hk
    obtain ⟨k, rfl⟩ : ∃ m, k = m + 1 := ⟨k - 1, by omega⟩
    simp only [PMenderKeeps.quorum_Covered.l0]
    rw [if_neg (by omega)]
    simp
  | succ d ih =>
    intro k i hi hk
    obtain ⟨k, rfl⟩ : ∃ m, k = m + 1 := ⟨k - 1, by omega⟩
    have hgo := ih k (i + 1) (by omega) (by omega)
    have f1 : (i : Int) < (Q.p : Int) := by omega
    have f2 : i < 18446744073709551616 := by omega
    have f3 : 8 ≤ k := by omega
    have f4 : Q.q - Q.a < cnt Q i s → ¬ ((cnt Q i s : Int) ≤ ((Q.q - Q.a : Nat) : Int)) := by omega
    have f5 : ¬ Q.q - Q.a < cnt Q i s → ((cnt Q i s : Int) ≤ ((Q.q - Q.a : Nat) : Int)) := by omega
    have hwu : IntKind.u64.wrap (i : Int) = (i : Int) := IntWalk.u64_in (i : Int) (by omega)
    have hwd : wrap64 ((Q.q : Int) - (Q.a : Int)) = ((Q.q - Q.a : Nat) : Int) := by unfold wrap64; omega
    have hwi : wrap64 ((i : Int) + 1) = ((i + 1 : Nat) : Int) := by unfold wrap64; omega
    simp only [PMenderKeeps.quorum_Covered.l0]
    rw [if_pos f1, hwu, count_f Q i f2 s hs k f3, Option.bind_some, hwi, hwd, hgo, List.range_succ_eq_map, List.all_cons, List.all_map]
    by_cases hq : Q.q - Q.a < cnt Q i s
    · rw [if_neg (f4 hq), decide_eq_true (show Q.q - Q.a < cnt Q (i + 0) s from hq), Bool.true_and]
      refine congrArg (fun g : Nat → Bool => some ((List.range d).all g)) (funext fun j => ?_)
      show decide (Q.q - Q.a < cnt Q (i + 1 + j) s) = decide (Q.q - Q.a < cnt Q (i + j.succ) s)
      rw [show i + 1 + j = i + j.succ from Nat.succ_add_eq_add_succ i j]
    · rw [if_pos (f5 hq), decide_eq_false (show ¬ Q.q - Q.a < cnt Q (i + 0) s from hq), Bool.false_and]
theorem covered_calls (Q : Qm) (s : List Bool) (hs : s.length = Q.p) (A : Option Addr) (c : Nat) (w : World) (hC : Kd.C Kd.bool w A Q.p s) (hc : Q.p ≤ c) :
    Calls Try.prog 70 #[Q.val, .slice A Q.p c] w fun e w' => e = .returned (.bool (covB Q s)) ∧ Below w.heap.size w w' := by
  have h4 := Q.h4
  have hf : PMenderKeeps.quorum_Covered.f 20 Q.p Q.q Q.a s = some (covB Q s) := by
    unfold PMenderKeeps.quorum_Covered.f
    rw [check_f]
    simp only [Option.bind_some, if_true]
    rw [show (0 : Int) = ((0 : Nat) : Int) from rfl, cov_l0 Q s hs Q.p 20 0 (by omega) (by omega)]
    simp [covB]
  rw [← hs] at hC hc ⊢
  exact PMenderKeeps.quorum_Covered.calls 20 Q.p Q.q Q.a A c s _ w hC hc hf

theorem index_l0 (l : List Nat) (x : Nat) (hlen : l.length ≤ 7) : ∀ (d k i : Nat), i + d = l.length → d < k →
    ∃ r, PMenderKeeps.slices_Index_int_int.l0 k (ints l) x ((ints l).length : Int) i = some r ∧ (decide (r ≥ 0) = decide (x ∈ l.drop i)) := by
  have hil : (ints l).length = l.length := by simp [ints]
  intro d
  induction d with
  | zero =>
    intro k i hi hk
    obtain ⟨k, rfl⟩ : ∃ m, k = m + 1 := ⟨k - 1, by omega⟩
    refine ⟨-1, ?_, ?_⟩
    · simp only [PMenderKeeps.slices_Index_int_int.l0]
      rw [if_neg (by omega)]
    · rw [List.drop_of_length_le (by omega)]
      simp
  | succ d ih =>
    intro k i hi hk
    obtain ⟨k, rfl⟩ : ∃ m, k = m + 1 := ⟨k - 1, by omega⟩
    have hi' : i < l.length := by omega
    have hrd : rd (ints l) (i : Int) = (l[i] : Int) := by
      simp [rd, ints, List.getD_eq_getElem?_getD, List.getElem?_map, List.getElem?_eq_getElem hi']
    obtain ⟨r, hr, hd⟩ := ih k (i + 1) (by omega) (by omega)
    have f1 : (i : Int) < ((ints l).length : Int) := by omega
    have f2 : (0 : Int) ≤ (i : Int) := by omega
    have f3 : x = l[i] → (x : Int) = (l[i] : Int) := by omega
    have f4 : ¬ x = l[i] → ¬ (x : Int) = (l[i] : Int) := by omega
    have hwi : wrap64 ((i : Int) + 1) = ((i + 1 : Nat) : Int) := by unfold wrap64; omega
    rw [List.drop_eq_getElem_cons hi']
    by_cases he : x = l[i]
    · refine ⟨i, ?_, ?_⟩
      · simp only [PMenderKeeps.slices_Index_int_int.l0]
        rw [if_pos f1, if_pos f2, if_pos f1, hrd, if_pos (f3 he)]
      · rw [decide_eq_true (show (i : Int) ≥ 0 from f2), decide_eq_true (List.mem_cons.2 (.inl he))]
    · refine ⟨r, ?_, ?_⟩
      · simp only [PMenderKeeps.slices_Index_int_int.l0]
        rw [if_pos f1, if_pos f2, if_pos f1, hrd, if_neg (f4 he), hwi]
        exact hr
      · rw [hd]
        exact decide_eq_decide.2 ⟨fun h => List.mem_cons.2 (.inr h), fun h => (List.mem_cons.1 h).resolve_left he⟩
theorem contains_calls (l : List Nat) (x : Nat) (hlen : l.length ≤ 7) (A : Option Addr) (c : Nat) (w : World) (hC : (Kd.int .i64).C w A l.length (ints l)) (hc : l.length ≤ c) :
    Calls Try.prog 74 #[.slice A l.length c, .int .i64 x] w fun e w' => e = .returned (.bool (decide (x ∈ l))) ∧ ∃ m, w' = w.drewN m := by
  have hil : (ints l).length = l.length := by simp [ints]
  obtain ⟨r, hr, hd⟩ := index_l0 l x hlen l.length 8 0 (by omega) (by omega)
  have hf : PMenderKeeps.slices_Contains_int_int.f 8 (ints l) x = some (decide (x ∈ l)) := by
    unfold PMenderKeeps.slices_Contains_int_int.f PMenderKeeps.slices_Index_int_int.f
    rw [show (0 : Int) = ((0 : Nat) : Int) from rfl, hr]
    rw [Option.bind_some]
    exact congrArg some (hd.trans (by rw [List.drop_zero]))
  rw [← hil] at hC hc ⊢
  refine (PMenderKeeps.slices_Contains_int_int.calls 8 A c (ints l) x _ w hC hc hf).mono ?_
  rintro e w' ⟨rfl, ⟨m, rfl⟩⟩
  exact ⟨rfl, m, rfl⟩
theorem set_contains (Q : Qm) (n x : Nat) (A : Option Addr) (c : Nat) (w : World) (hC : (Kd.int .i64).C w A Q.q (ints (setN Q n))) (hc : Q.q ≤ c) :
    Calls Try.prog 74 #[.slice A Q.q c, .int .i64 x] w fun e w' => e = .returned (.bool (decide (x ∈ setN Q n))) ∧ ∃ m, w' = w.drewN m := by
  have h := contains_calls (setN Q n) x (by rw [setN_length]; have := Q.h3; have := Q.h4; omega) A c w (by rw [setN_length]; exact hC) (by rw [setN_length]; exact hc)
  rw [setN_length] at h
  exact h

end Go.Proofs.Ytigcpknfcdcllaa
