/- The row of what is under way: appended to, cut out of. -/
import Derived.Test.YtigcpknfcdcllaaMk9
import Derived.Deep.Upon
namespace Go.Proofs.Ytigcpknfcdcllaa
open Go.RowKit Go.Proofs.YtigcpknfcdcllaaW.PrintWords Go.Proofs.YtigcpknfcdcllaaW.PrintLast Go.Proofs.YtigcpknfcdcllaaLb
set_option linter.unusedSimpArgs false
set_option linter.unusedVariables false

theorem Try.info51 : (Try.prog.info? 51).map (fun i => (i.zero, i.size, i.bytes)) = some (some (.agg #[.int .i64 0, .int .u64 0, .slice none 0 0]), 3, 40) := by kernel_rfl

/-- What is under way: place, entry, its bytes. -/
def flat3 : List (Nat × Nat × Value) → List Value
  | [] => []
  | (p, e, v) :: r => .int .i64 p :: .int .u64 e :: v :: flat3 r
theorem flat3_length : ∀ l : List (Nat × Nat × Value), (flat3 l).length = l.length * 3
  | [] => rfl
  | (p, e, v) :: r => by simp only [flat3, List.length_cons, flat3_length r]; omega
theorem flat3_snoc (p e : Nat) (v : Value) : ∀ l : List (Nat × Nat × Value), flat3 (l ++ [(p, e, v)]) = flat3 l ++ [.int .i64 p, .int .u64 e, v]
  | [] => rfl
  | (a, b, c) :: r => by simp only [List.cons_append, flat3, flat3_snoc p e v r]
theorem flat3_get : ∀ (l : List (Nat × Nat × Value)) (i p e : Nat) (v : Value), l[i]? = some (p, e, v) → (flat3 l)[i * 3]? = some (.int .i64 p) ∧ (flat3 l)[i * 3 + 1]? = some (.int .u64 e) ∧ (flat3 l)[i * 3 + 2]? = some v
  | [], _, _, _, _, h => by simp at h
  | (a, b, c) :: r, 0, p, e, v, h => by
    have h' : (a, b, c) = (p, e, v) := by simpa using h
    injection h' with h1 h2
    injection h2 with h2 h3
    subst h1; subst h2; subst h3
    exact ⟨rfl, rfl, rfl⟩
  | (a, b, c) :: r, i + 1, p, e, v, h => by
    have h' : r[i]? = some (p, e, v) := by simpa using h
    obtain ⟨a1, a2, a3⟩ := flat3_get r i p e v h'
    rw [show (i + 1) * 3 = i * 3 + 1 + 1 + 1 by omega]
    exact ⟨by simpa [flat3] using a1, by simpa [flat3] using a2, by simpa [flat3] using a3⟩
theorem flat3_cut : ∀ (l : List (Nat × Nat × Value)) (k : Nat), (flat3 l).take (k * 3) ++ (flat3 l).drop ((k + 1) * 3) = flat3 (l.eraseIdx k)
  | [], k => by simp [flat3]
  | (a, b, c) :: r, 0 => by simp [flat3]
  | (a, b, c) :: r, k + 1 => by
    have := flat3_cut r k
    rw [show (k + 1) * 3 = k * 3 + 1 + 1 + 1 by omega, show (k + 1 + 1) * 3 = (k + 1) * 3 + 1 + 1 + 1 by omega]
    simp only [flat3, List.take_succ_cons, List.drop_succ_cons, List.eraseIdx_cons_succ, List.cons_append]
    rw [this]

/-- A row of one's own; or a full one, of a block that may be longer. -/
def WayC (w : World) (base : Nat) (v : Value) (n : Nat) (xs : List Value) : Prop :=
  QRow w base 51 3 v n xs ∨ (0 < n ∧ n ≤ maxLen ∧ xs.length = n * 3 ∧ ∃ g o, v = .slice (some ⟨g, o, none⟩) n n ∧ base ≤ g ∧ (∃ cur, w.heap[g]? = some (.cells cur 51 (0, 0))) ∧ ∀ j u, xs[j]? = some u → w.cell? ⟨g, o + j, none⟩ = some u)
section
variable {w w' : World} {base n : Nat} {v : Value} {xs : List Value}
theorem WayC.nil : WayC w base (.slice none 0 0) 0 [] := .inl (q_of_own (own_nil _ _ _ _))
theorem WayC.typed (h : WayC w base v n xs) (k : Nat) (hk : v.ownBlock = some k) : base ≤ k ∧ ∃ cells, w.heap[k]? = some (.cells cells 51 (0, 0)) := by
  rcases h with h | ⟨h0, hm, hl, g, o, rfl, hb, ⟨cur, hc⟩, hx⟩
  · exact q_typed h k hk
  · have : g = k := by simpa [Value.ownBlock] using hk
    subst this
    exact ⟨hb, cur, hc⟩
theorem WayC.lt (h : WayC w base v n xs) (k : Nat) (hk : v.ownBlock = some k) : k < w.heap.size := by
  obtain ⟨_, cells, hc⟩ := h.typed k hk
  exact lt_of_blk hc
theorem WayC.len (h : WayC w base v n xs) : xs.length = n * 3 := by
  rcases h with h | ⟨h0, hm, hl, _⟩
  · exact h.1
  · exact hl
theorem WayC.slice (h : WayC w base v n xs) : ∃ A c, v = .slice A n c ∧ n ≤ c ∧ n ≤ maxLen := by
  rcases h with h | ⟨h0, hm, hl, g, o, rfl, _⟩
  · obtain ⟨A, c, h1, h2⟩ := q_slice h
    exact ⟨A, c, h1, h2, by have := q_max h; unfold maxLen; omega⟩
  · exact ⟨_, _, rfl, Nat.le_refl _, hm⟩
theorem WayC.cells (h : WayC w base v n xs) (hn : 0 < n) : ∃ g o c, v = .slice (some ⟨g, o, none⟩) n c ∧ n ≤ c ∧ base ≤ g ∧ (∃ cur, w.heap[g]? = some (.cells cur 51 (0, 0))) ∧ ∀ j u, xs[j]? = some u → w.cell? ⟨g, o + j, none⟩ = some u := by
  have ht := h.typed
  rcases h with h | ⟨h0, hm, hl, g, o, rfl, hb, hc, hx⟩
  · obtain ⟨g, o, c, rfl, h1, h2, h3⟩ := q_form h hn
    exact ⟨g, o, c, rfl, h1, (ht g rfl).1, h2, h3⟩
  · exact ⟨g, o, n, rfl, Nat.le_refl _, hb, hc, hx⟩
theorem WayC.move (h : WayC w base v n xs) (hk : ∀ b, v.ownBlock = some b → w'.heap[b]? = w.heap[b]?) : WayC w' base v n xs := by
  rcases h with h | ⟨h0, hm, hl, g, o, rfl, hb, ⟨cur, hc⟩, hx⟩
  · exact .inl (q_move h hk)
  · have hg := hk g rfl
    exact .inr ⟨h0, hm, hl, g, o, rfl, hb, ⟨cur, hg.trans hc⟩, fun j u hu => (World.cell?_of_block (w := w) (a := ⟨g, o + j, none⟩) hg).trans (hx j u hu)⟩
/-- One more. -/
theorem way_add (h : WayC w base v n xs) (hbase : base ≤ w.heap.size) (hn : n ≤ 1000000) (a : Addr) (news : List Value) (hl : news.length = 3) (hnews : ∀ j u, news[j]? = some u → w.cell? (a.add j) = some u) (h1 : ∀ u ∈ news, u.oneCell' = true) :
    ∃ v' w', (Builtin.append_ #[38, 38] 38 #[v, .slice (some a) 1 1]).run Try.prog w = .ok v' w' ∧ WayC w' base v' (n + 1) (xs ++ news) ∧ w.grownBy w' v.ownBlock ∧ (v'.ownBlock = v.ownBlock ∨ ∃ b, v'.ownBlock = some b ∧ w.heap.size ≤ b) := by
  obtain ⟨i0, hi, hz0, hz1, hz2⟩ := info_parts Try.info51
  rcases h with h | ⟨h0, hm, hlx, g, o, rfl, hb, ⟨cur, hc⟩, hx⟩
  · obtain ⟨v', w', a1, a2, a3, a4⟩ := q_append (P := Try.prog) w base 38 38 51 i0 _ 3 40 Try.underlying38 hi hz0 hz1 hz2 rfl (by decide) v n xs h a 1 1 news (by omega) hnews h1 (by decide) (by unfold maxLen; omega) (by omega) hbase
    exact ⟨v', w', a1, .inl a2, a3, a4⟩
  · obtain ⟨v', w', hr, ho, hg⟩ := run_append_arg_grows (P := Try.prog) (w := w) 38 38 51 i0 _ 3 40 Try.underlying38 hi hz0 hz1 hz2 rfl (by decide) ⟨g, o, none⟩ n n xs hlx (fun j u hu => by rw [add_at]; exact hx j u hu) a 1 1 news (by omega) hnews (by omega) (by unfold maxLen; omega) (by omega)
    refine ⟨v', w', hr, .inl (q_lower (q_of_own ho) hbase), hg.but _, ?_⟩
    obtain ⟨g', cap', he, hb', _⟩ := ho.form (by omega)
    exact .inr ⟨g', by rw [he]; simp [Value.ownBlock], hb'⟩
/-- One less. -/
theorem way_cut {A : Option Addr} {c : Nat} (h : WayC w base (.slice A n c) n xs) (hbase : base ≤ w.heap.size) (hn : n ≤ 1000000) (k : Nat) (hk : k < n) :
    ∃ v' w', (Builtin.append_ #[38, 38] 38 #[.slice A k k, .slice (if c = k + 1 then A else A.map (·.add ((k + 1) * 3))) (n - (k + 1)) (c - (k + 1))]).run Try.prog w = .ok v' w' ∧ WayC w' base v' (n - 1) (xs.take (k * 3) ++ xs.drop ((k + 1) * 3)) ∧ w.grownBy w' none ∧ (v'.ownBlock = (Value.slice A n c).ownBlock ∨ ∃ b, v'.ownBlock = some b ∧ w.heap.size ≤ b) := by
  obtain ⟨i0, hi, hz0, hz1, hz2⟩ := info_parts Try.info51
  have hlx := h.len
  obtain ⟨g, o, c', he, hnc, hbg, ⟨cur, hc⟩, hx⟩ := h.cells (by omega)
  injection he with hA _ hcc
  subst hA; subst hcc
  have hlt : (xs.take (k * 3)).length = k * 3 := by rw [List.length_take]; omega
  by_cases hr : n - (k + 1) = 0
  · have hs : Src Try.prog i0.size 38 (.slice (if c = k + 1 then some ⟨g, o, none⟩ else (some ⟨g, o, none⟩ : Option Addr).map (·.add ((k + 1) * 3))) (n - (k + 1)) (c - (k + 1))) 0 [] w := by
      rw [hr]
      split
      · exact Src.ofSlice w Try.underlying38 _ 0 _ [] (by simp) (fun j u hu => by simp at hu) (fun u hu => by simp at hu)
      · exact Src.ofSlice w Try.underlying38 _ 0 _ [] (by simp) (fun j u hu => by simp at hu) (fun u hu => by simp at hu)
    refine ⟨_, _, run_append_nothing w 38 38 38 51 i0 Try.underlying38 hi _ k k (Nat.le_refl _) _ hs, ?_, ⟨rfl, rfl, rfl, Nat.le_refl _, fun _ _ _ => rfl⟩, .inl rfl⟩
    have hd : xs.drop ((k + 1) * 3) = [] := List.drop_eq_nil_of_le (by omega)
    rw [hd, List.append_nil, show n - 1 = k by omega]
    by_cases h0 : k = 0
    · subst h0
      exact .inl ⟨by simp, .inl ⟨rfl, _, rfl, fun a ha => by injection ha with ha; subst ha; exact ⟨hbg, cur, hc⟩⟩⟩
    · exact .inr ⟨by omega, by unfold maxLen; omega, hlt, g, o, rfl, hbg, ⟨cur, hc⟩, fun j u hu => hx j u (by rw [List.getElem?_take] at hu; split at hu; exact hu; cases hu)⟩
  · rw [if_neg (by omega), Option.map_some, add_at]
    obtain ⟨v', w', hrun, ho, hg⟩ := run_append_arg_grows (P := Try.prog) (w := w) 38 38 51 i0 _ 3 40 Try.underlying38 hi hz0 hz1 hz2 rfl (by decide) ⟨g, o, none⟩ k k (xs.take (k * 3)) hlt
      (fun j u hu => by rw [add_at]; exact hx j u (by rw [List.getElem?_take] at hu; split at hu; exact hu; cases hu)) ⟨g, o + (k + 1) * 3, none⟩ (n - (k + 1)) (c - (k + 1)) (xs.drop ((k + 1) * 3)) (by rw [List.length_drop]; omega)
      (fun j u hu => by rw [add_at, Nat.add_assoc]; exact hx _ u (by rw [List.getElem?_drop] at hu; exact hu)) (by omega) (by unfold maxLen; omega) (by omega)
    rw [show k + (n - (k + 1)) = n - 1 by omega] at ho
    refine ⟨v', w', hrun, .inl (q_lower (q_of_own ho) hbase), hg, ?_⟩
    obtain ⟨g', cap', he, hb', _⟩ := ho.form (by omega)
    exact .inr ⟨g', by rw [he]; simp [Value.ownBlock], hb'⟩
end
theorem cut_three {P : Program} (t e : TypeId) (kh km : IntKind) {i : TypeInfo} (ht : P.underlying t = some (.slice e)) (hi : P.info? e = some i) (A : Option Addr) (n c : Nat) (j : Int) (h0 : 0 ≤ j) (hc : j ≤ c) :
    ∀ W : World, (Instr.slice t (.slice A n c) none (some (.int kh j)) (some (.int km j))).run P W = .ok (.slice A j.toNat j.toNat) W := by
  intro W
  have hel : P.elem t = e := by simp [Program.elem, ht]
  have hu : P.underlying t = some (.slice (P.elem t)) := by rw [hel]; exact ht
  have ha : (A.map fun x => x.add 0) = A := by cases A <;> simp [Addr.add]
  rw [run_slice_hm W t A n c hu kh km j j h0 (Int.le_refl _) hc, hel]
  simp [sizeOf, typeInfo, hi, sliced, Result.andThen, ha]
end Go.Proofs.Ytigcpknfcdcllaa
