/- The plain law: what is confirmed was heard. -/
import Derived.Test.YtigcpknfcdcllaaLr
namespace Go.Proofs.Ytigcpknfcdcllaa
open Go.RowKit Go.Proofs.YtigcpknfcdcllaaW.PrintWords Go.Proofs.YtigcpknfcdcllaaW.PrintLast Go.Proofs.YtigcpknfcdcllaaLb
set_option linter.unusedSimpArgs false
set_option linter.unusedVariables false

theorem filters_le {α : Type} (f g : α → Bool) : ∀ l : List α, (∀ x ∈ l, ¬ (f x = true ∧ g x = true)) → (l.filter f).length + (l.filter g).length ≤ l.length
  | [], _ => by simp
  | a :: r, h => by
    have ih := filters_le f g r (fun x hx => h x (List.mem_cons_of_mem _ hx))
    have ha := h a List.mem_cons_self
    simp only [List.filter_cons, List.length_cons]
    cases hf : f a <;> cases hg : g a
    · simp; omega
    · simp; omega
    · simp; omega
    · exact absurd ⟨hf, hg⟩ ha
theorem setN_mod (Q : Qm) (n : Nat) : setN Q (n % Q.p) = setN Q n := by
  unfold setN
  apply List.map_congr_left
  intro i _
  simp [Nat.mod_add_mod]
theorem cover_meets (Q : Qm) (n : Nat) (s fe : List Bool) (h1 : Q.a ≤ cnt Q n s) (h2 : covB Q fe = true) : ∃ pl, s.getD pl false = true ∧ fe.getD pl false = true := by
  have hp : 0 < Q.p := by have := Q.h1; have := Q.h2; have := Q.h3; omega
  have h3 : Q.q - Q.a < cnt Q (n % Q.p) fe := by
    have := List.all_eq_true.1 h2 (n % Q.p) (List.mem_range.2 (Nat.mod_lt _ hp))
    simpa using this
  have h4 : cnt Q (n % Q.p) fe = ((setN Q n).filter fun p => fe.getD p false).length := by unfold cnt; rw [setN_mod]
  by_cases hx : ∃ pl ∈ setN Q n, s.getD pl false = true ∧ fe.getD pl false = true
  · obtain ⟨pl, _, h⟩ := hx
    exact ⟨pl, h⟩
  · exfalso
    have h5 := filters_le (fun p => s.getD p false) (fun p => fe.getD p false) (setN Q n) (fun x hm hxx => hx ⟨x, hm, hxx⟩)
    have h6 := setN_length Q n
    unfold cnt at h1
    have h7 := Q.h2
    omega

/-- Whoever has said so is ok; of what is confirmed, enough are. -/
structure LA (Q : Qm) (ok : Nat → Nat → Prop) (sure : Nat) (es : List Ent) : Prop where
  wait : ∀ j e, es[j]? = some e → ∀ pl, e.s.getD pl false = true → ok pl (sure + j)
  done : ∀ n, n < sure → ∃ s, Q.a ≤ cnt Q n s ∧ ∀ pl, s.getD pl false = true → ok pl n
theorem LA.mono {Q : Qm} {ok ok' : Nat → Nat → Prop} {sure : Nat} {es : List Ent} (h : LA Q ok sure es) (hk : ∀ pl e, ok pl e → ok' pl e) : LA Q ok' sure es :=
  ⟨fun j e he pl hp => hk _ _ (h.wait j e he pl hp), fun n hn => by obtain ⟨s, h1, h2⟩ := h.done n hn; exact ⟨s, h1, fun pl hp => hk _ _ (h2 pl hp)⟩⟩
theorem getD_replicate_false (n pl : Nat) : (List.replicate n false).getD pl false = false := by
  simp only [List.getD, List.getElem?_replicate]
  split <;> rfl
theorem LA.add {Q : Qm} {ok : Nat → Nat → Prop} {sure : Nat} {es : List Ent} (h : LA Q ok sure es) {x : Ent} (hx : x.s = List.replicate Q.p false) : LA Q ok sure (es ++ [x]) :=
  ⟨fun j e he pl hp => by
    rcases Nat.lt_or_ge j es.length with hl | hl
    · rw [List.getElem?_append_left hl] at he
      exact h.wait j e he pl hp
    · rw [List.getElem?_append_right hl] at he
      have hj0 : j - es.length = 0 := by
        have := (List.getElem?_eq_some_iff.1 he).1
        simpa using this
      rw [hj0] at he
      have he' : x = e := by simpa using he
      subst he'
      rw [hx, getD_replicate_false] at hp
      exact absurd hp (by decide), h.done⟩
theorem LA.ack {Q : Qm} {ok : Nat → Nat → Prop} {sure j place k : Nat} {es : List Ent} (h : LA Q ok sure es) (hj : j < es.length) (ho : ok place (sure + j)) (hk : k ≤ es.length)
    (hc : ∀ i e, i < k → (markE es j place)[i]? = some e → Q.a ≤ cnt Q (sure + i) e.s) : LA Q ok (sure + k) ((markE es j place).drop k) := by
  have hm : ∀ i e, (markE es j place)[i]? = some e → ∀ pl, e.s.getD pl false = true → ok pl (sure + i) := by
    intro i e he pl hp
    obtain ⟨x, hx⟩ : ∃ x, es[j]? = some x := ⟨_, List.getElem?_eq_getElem hj⟩
    rcases markE_get es j place x hx i e he with ⟨rfl, rfl⟩ | ⟨hne, he'⟩
    · by_cases hpl : pl = place
      · subst hpl
        exact ho
      · refine h.wait i x hx pl ?_
        have : (x.s.set place true).getD pl false = x.s.getD pl false := by
          simp only [List.getD, List.getElem?_set_ne (fun e1 => hpl e1.symm)]
        rw [← this]
        exact hp
    · exact h.wait i e he' pl hp
  refine ⟨fun i e he pl hp => ?_, fun n hn => ?_⟩
  · rw [List.getElem?_drop] at he
    have := hm _ e he pl hp
    rwa [show sure + k + i = sure + (k + i) by omega]
  · by_cases hs : n < sure
    · exact h.done n hs
    · obtain ⟨i, rfl⟩ : ∃ i, n = sure + i := ⟨n - sure, by omega⟩
      have hik : i < k := by omega
      obtain ⟨e, he⟩ : ∃ e, (markE es j place)[i]? = some e := ⟨_, List.getElem?_eq_getElem (by rw [markE_length]; omega)⟩
      exact ⟨e.s, hc i e hik he, hm i e he⟩

/-- What is so all along. -/
structure LI (Q : Qm) (σ : LS) (i : Nat) : Prop where
  all : σ.ws.length = σ.sure + σ.es.length
  la : LA Q σ.has σ.sure σ.es
  told : ∀ pl, σ.fe.getD pl false = true → ∀ e, σ.has pl e → σ.hm e
  hml : ∀ e, σ.hm e → e < σ.ws.length
  hasl : ∀ pl e, σ.has pl e → e < σ.ws.length
  fel : σ.fe.length = Q.p
  short : ∀ d ∈ σ.ws, d.length ≤ 256
  few : σ.es.length ≤ 64
  heard : σ.hs = σ.fe
  nws : σ.ws.length ≤ i
  nnp : σ.np ≤ i
  nway : σ.way.length ≤ 7 * i
  nnm : σ.nm ≤ 201 * i
theorem LI.short' {Q : Qm} {σ : LS} {i : Nat} (h : LI Q σ i) (e : Nat) : (Tw σ.ws e).length ≤ 256 := by
  unfold Tw List.getD
  cases hh : σ.ws[e]? with
  | none => simp
  | some d => exact h.short d (List.mem_of_getElem? hh)
/-- The end: all that is confirmed was heard. -/
theorem all_heard {Q : Qm} {fe : List Bool} {has : Nat → Nat → Prop} {hm : Nat → Prop} {sure : Nat} {es : List Ent} (h : LA Q (fun pl e => has pl e ∨ fe.getD pl false = false) sure es) (hc : covB Q fe = true) (ht : ∀ pl, fe.getD pl false = true → ∀ e, has pl e → hm e) :
    ∀ n, n < sure → hm n := by
  intro n hn
  obtain ⟨s, h1, h2⟩ := h.done n hn
  obtain ⟨pl, h3, h4⟩ := cover_meets Q n s fe h1 hc
  rcases h2 pl h3 with h5 | h5
  · exact ht pl h4 n h5
  · rw [h4] at h5
    cases h5
/-- The first entry that is lacking. -/
theorem first_missing (P : Nat → Prop) (m : Nat) (h : ∀ e, P e → e < m) : ∃ k, k ≤ m ∧ (∀ i, i < k → P i) ∧ ¬ P k := by
  have key : ∀ m, (∀ i, i < m → P i) ∨ ∃ k, k < m ∧ (∀ i, i < k → P i) ∧ ¬ P k := by
    intro m
    induction m with
    | zero => exact .inl fun i hi => absurd hi (by omega)
    | succ m ih =>
      rcases ih with h | ⟨k, h1, h2⟩
      · by_cases hm : P m
        · refine .inl fun i hi => ?_
          by_cases hi' : i = m
          · subst hi'; exact hm
          · exact h i (by omega)
        · exact .inr ⟨m, by omega, h, hm⟩
      · exact .inr ⟨k, by omega, h2⟩
  rcases key m with h1 | ⟨k, h1, h2⟩
  · exact ⟨m, Nat.le_refl _, h1, fun hp => absurd (h m hp) (by omega)⟩
  · exact ⟨k, by omega, h2⟩
end Go.Proofs.Ytigcpknfcdcllaa
