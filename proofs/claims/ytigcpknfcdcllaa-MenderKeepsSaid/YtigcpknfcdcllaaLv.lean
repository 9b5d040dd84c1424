/- The law's walk: what a fenced place says: the range over its map. -/
import Derived.Test.YtigcpknfcdcllaaLu
import Derived.Maps.Ext
namespace Go.Proofs.Ytigcpknfcdcllaa
open Go.RowKit Go.Proofs.YtigcpknfcdcllaaW.PrintWords Go.Proofs.YtigcpknfcdcllaaW.PrintLast Go.Proofs.YtigcpknfcdcllaaLb
set_option linter.unusedSimpArgs false
set_option linter.unusedVariables false

theorem ranges_kp {w w' : World} {S : Nat → Prop} {b r n : Nat} {D : DataW Value} {left : Lit → Bool} {cnt : Nat} (h : w.ranges Try.prog 43 tok b r n D left cnt) (k : Kp S w w') (hb : ¬ S b) (hr : ¬ S r) : w'.ranges Try.prog 43 tok b r n D left cnt := by
  obtain ⟨es, clock, since, seen, c0, h1, h2, h3, h4, h5, h6⟩ := h
  exact ⟨es, clock, since, seen, c0, k.blk h1 hb, h2, h3, h4, k.blk h5 hr, h6⟩
/-- The list of what a place has, under way. -/
structure FenceC (w0 w : World) (b np : Nat) (D : DataW Value) (T : Nat → List Int) (has : Nat → Prop) (its : List (Nat × Value)) (v : Value) (left : Lit → Bool) (cnt : Nat) : Prop where
  rg : w.ranges Try.prog 43 tok b w0.heap.size np D left cnt
  bl : Below w0.heap.size w0 w
  row : QRow w (w0.heap.size + 1) 49 2 v its.length (flat its)
  got : ∀ (i e : Nat) (u : Value), its[i]? = some (e, u) → Bs w u (T e) ∧ e < 18446744073709551616 ∧ has e
  all : ∀ e, has e → left (.int .u64 e) = true ∨ ∃ (i : Nat) (u : Value), its[i]? = some (e, u)
  few : its.length + cnt ≤ np
  sz : w0.heap.size + 1 ≤ w.heap.size
  mb : b < w0.heap.size
def MapAs (D : DataW Value) (f : Lit → Option Value) : Prop := ∀ k, (∀ v, f k = some v → Maps.has D k = true ∧ ∀ z, D.atKey k z = .held v) ∧ (f k = none → Maps.has D k = false)
theorem fence_start {w w' : World} {b np : Nat} {D : DataW Value} {T : Nat → List Int} {has : Nat → Prop} {f : Lit → Option Value} (hD : MapAs D f) (ht : Told w T f has) (hl : ∀ e, has e → e < 18446744073709551616) (hown : w.ownsMap Try.prog 43 tok b np D)
    (hrg : w'.ranges Try.prog 43 tok b w.heap.size np D (Maps.has D) (Maps.size D)) (hg : w.grownBy w' none) (hs : w'.heap.size = w.heap.size + 1) :
    FenceC w w' b np D T has [] (.slice none 0 0) (Maps.has D) (Maps.size D) :=
  ⟨hrg, ⟨hg.os, hg.tape, hg.output, hg.size, fun i hi => hg.block i hi (by simp)⟩, q_of_own (own_nil _ _ _ _), fun i e u h => by simp at h, fun e he => by
    obtain ⟨v, h1, _⟩ := (ht e (hl e he)).1 he
    exact .inl ((hD _).1 v h1).1, by simpa using hown.size_le, by omega, hown.lt⟩
set_option maxRecDepth 100000 in
theorem fence_round {w0 w w1 : World} {b np c cnt cnt1 : Nat} {D : DataW Value} {T : Nat → List Int} {has : Nat → Prop} {its : List (Nat × Value)} {A : Option Addr} {left : Lit → Bool} {f : Lit → Option Value}
    (h : FenceC w0 w b np D T has its (.slice A its.length c) left cnt) (hD : MapAs D f) (ht : Told w0 T f has) {x : Int} {u : Value} {kl : Lit} {y : DataW Value × List MemPlace}
    (hkey : keyOf Try.prog 43 (.int .u64 x) = some kl) (hv : tok u = some y) (hat : ∀ zd, D.atKey kl zd = y.1) (hrg1 : w1.ranges Try.prog 43 tok b w0.heap.size np D (fun z => left z && !z.sameKey kl) cnt1) (hlt : cnt1 < cnt)
    (hg : w.grownBy w1 (some w0.heap.size)) (hs : w1.heap.size = w.heap.size) (hnp : np ≤ 1000000) :
    ∃ (e : Nat) (Au : Option Addr) (nu cu : Nat) (A6 : Option Addr) (c6 : Nat) (w6 : World), x = (e : Int) ∧ u = .slice Au nu cu ∧ (Builtin.append_ #[52, 52] 52 #[.slice A its.length c, .slice (some ⟨w1.heap.size, 0, none⟩) 1 1]).run Try.prog (w1.alloc (.cells #[.int .u64 (e : Int), u] 49)) = .ok (.slice A6 (its.length + 1) c6) w6 ∧
      FenceC w0 w6 b np D T has (its ++ [(e, u)]) (.slice A6 (its.length + 1) c6) (fun z => left z && !z.sameKey kl) cnt1 := by
  obtain ⟨x', hx, hkl, hwf⟩ := Maps.keyOf_int_inv Try.underlying43 hkey
  injection hx with _ hx
  subst hx
  subst hkl
  have hb : 0 ≤ x ∧ x ≤ 18446744073709551615 := by
    simp [Lit.wf, IntKind.min, IntKind.max, IntKind.signed, IntKind.bits] at hwf
    omega
  obtain ⟨e, rfl⟩ : ∃ e : Nat, x = (e : Int) := ⟨x.toNat, by omega⟩
  simp only [tok, Option.some.injEq] at hv
  subst hv
  have hf : f (.int .u64 e) = some u := by
    cases hfe : f (.int .u64 e) with
    | none =>
      have h1 := (hD _).2 hfe
      have h2 := hat (.map [])
      rw [Maps.atKey_of_not_has h1] at h2
      cases h2
    | some v =>
      have h1 := ((hD _).1 v hfe).2 (.held u)
      rw [hat] at h1
      injection h1 with h1
      rw [h1]
  have he : e < 18446744073709551616 := by omega
  have hh : has e := by
    refine Classical.byContradiction fun hn => ?_
    rw [(ht e he).2 hn] at hf
    cases hf
  obtain ⟨v, hv1, hbs⟩ := (ht e he).1 hh
  rw [hf] at hv1
  injection hv1 with hv1
  subst hv1
  obtain ⟨es, clock, since, seen, c0, hmap, _, _, _, hit, _⟩ := h.rg
  have K1 : Kp (fun k => k = w0.heap.size) w w1 := (Kp.refl (fun k => k = w0.heap.size) w).grown hg (fun k hk _ => by injection hk with hk; exact hk.symm) (fun k hk cs fr hcc => by
    injection hk with hk
    subst hk
    rw [hit] at hcc
    cases hcc)
  have hb1 : Below w0.heap.size w0 w1 := Kp.below_new h.bl K1 (fun k hk => by subst hk; exact Nat.le_refl _)
  have hbs1 := hbs.kp (Kp.of_below (fun _ => False) hb1)
  have hlen : its.length ≤ 1000000 := by have := h.few; omega
  have hrow1 : QRow w1 (w0.heap.size + 1) 49 2 (.slice A its.length c) its.length (flat its) := q_move h.row (fun k hk => K1.block k (q_lt h.row k hk) (fun e => by have := (q_typed h.row k hk).1; omega))
  obtain ⟨A6, c6, w6, hrun, hrow6, K6⟩ := item_round (e := e) hbs1.one hrow1 hlen (by have := h.sz; omega)
  have hmb := h.mb
  have hb6 : Below w0.heap.size w0 w6 := Kp.below_new hb1 K6 (fun k hk => by omega)
  obtain ⟨Au, cu, hu, _⟩ := hbs
  refine ⟨e, Au, _, cu, A6, c6, w6, rfl, hu, hrun, ranges_kp hrg1 K6 (by omega) (by omega), hb6, by simpa using hrow6, fun i e' u' hi => ?_, fun e' he' => ?_, by have := h.few; simp; omega, Nat.le_trans (by have := h.sz; omega) K6.size, hmb⟩
  · rcases Nat.lt_or_ge i its.length with hl | hl
    · rw [List.getElem?_append_left hl] at hi
      obtain ⟨a1, a2, a3⟩ := h.got i e' u' hi
      exact ⟨(a1.kp K1).kp K6, a2, a3⟩
    · rw [List.getElem?_append_right hl] at hi
      have hi0 : i - its.length = 0 := by
        have := (List.getElem?_eq_some_iff.1 hi).1
        simpa using this
      rw [hi0] at hi
      have hi' : (e, u) = (e', u') := by simpa using hi
      injection hi' with h1 h2
      subst h1
      subst h2
      exact ⟨hbs1.kp K6, he, hh⟩
  · by_cases hee : e' = e
    · subst hee
      exact .inr ⟨its.length, u, by simp⟩
    · rcases h.all e' he' with hl | ⟨i, u', hi⟩
      · left
        show (left (.int .u64 e') && !(Lit.int .u64 e').sameKey (.int .u64 e)) = true
        rw [hl, Maps.sameKey_ne (by intro hx; injection hx with _ hx; omega)]
        rfl
      · refine .inr ⟨i, u', ?_⟩
        rw [List.getElem?_append_left (List.getElem?_eq_some_iff.1 hi).1]
        exact hi
/-- The list is whole. -/
theorem FenceC.done {w0 w : World} {b np c cnt : Nat} {D : DataW Value} {T : Nat → List Int} {has : Nat → Prop} {its : List (Nat × Value)} {A : Option Addr} {left : Lit → Bool} (h : FenceC w0 w b np D T has its (.slice A its.length c) left cnt) (hnp : np ≤ 1000000) (hl : ∀ kl, left kl = false) :
    ItC w T A its ∧ its.length ≤ c ∧ (∀ g o, A = some ⟨g, o, none⟩ → w0.heap.size ≤ g) ∧ (∀ e, has e → ∃ (i : Nat) (u : Value), its[i]? = some (e, u)) ∧ its.length ≤ np := by
  have hlen := h.few
  obtain ⟨A', c', he, hc⟩ := q_slice h.row
  injection he with _ _ he
  refine ⟨itc_of_q h.row (by omega) (fun i e v hi => ⟨(h.got i e v hi).1, (h.got i e v hi).2.1⟩), by omega, fun g o hA => ?_, fun e he => ?_, by omega⟩
  · subst hA
    have := (q_typed h.row g rfl).1
    omega
  · rcases h.all e he with h1 | h1
    · rw [hl] at h1
      cases h1
    · exact h1
section
variable {w w' : World} {Q : Qm} {F : Fix} {col : Nat → Nat} {Sw : Nat → Prop} {σ : LS} {wv uv : Value}
/-- A place was fenced, and heard. -/
theorem LI.heard_ {i pl : Nat} {its : List (Nat × Value)} (hi : LI Q σ i) (hi2 : i ≤ 200) (hin : ∀ (j e : Nat) (u : Value), its[j]? = some (e, u) → σ.has pl e) (hall : ∀ e, σ.has pl e → ∃ (j : Nat) (u : Value), its[j]? = some (e, u)) (hl : its.length ≤ σ.np) :
    LI Q { σ with fe := σ.fe.set pl true, hs := σ.hs.set pl true, nm := σ.nm + its.length, hm := hasTo σ.hm its its.length } (i + 1) := by
  have hnp := hi.nnp
  have hnm := hi.nnm
  refine ⟨hi.all, hi.la, fun pl' hpl e he => ?_, fun e he => ?_, hi.hasl, by simp [hi.fel], hi.short, hi.few, by show σ.hs.set pl true = σ.fe.set pl true; rw [hi.heard], Nat.le_trans hi.nws (Nat.le_succ _), Nat.le_trans hi.nnp (Nat.le_succ _), Nat.le_trans hi.nway (by omega), by show σ.nm + its.length ≤ _; omega⟩
  · by_cases h : pl' = pl
    · subst h
      obtain ⟨j, u, hj⟩ := hall e he
      exact .inr ⟨j, u, (List.getElem?_eq_some_iff.1 hj).1, hj⟩
    · refine .inl (hi.told pl' ?_ e he)
      have : (σ.fe.set pl true).getD pl' false = σ.fe.getD pl' false := by
        simp only [List.getD, List.getElem?_set_ne (fun e1 => h e1.symm)]
      rw [← this]
      exact hpl
  · rcases he with he | ⟨j, u, _, hj⟩
    · exact hi.hml e he
    · exact hi.hasl pl e (hin j e u hj)
/-- The mender has heard. -/
theorem heard (h : LRep w Q F col Sw wv uv σ) {nm : Nat} {hm : Nat → Prop} {hs : List Bool} (hw : MRep w' F.mb F.Sm Q (Tw σ.ws) hs 0 nm hm) (hk : Kp F.Sm w w') :
    LRep w' Q F (ncol w.heap.size col 61) Sw wv uv { σ with nm := nm, hm := hm, hs := hs } ∧ Kp (fun k => F.base ≤ k) w w' := by
  obtain ⟨a, b⟩ := h.mr (by decide)
  have h1 := h.frame hk 2 (fun k _ hk => b k hk) (fun k hk => ncol_old (c := 61) hk)
  exact ⟨h1.close2 hw (fun k hk => (ncol_old (a.lt k hk)).trans (b k hk)), hk.mono (fun k _ hk => h.up (by rw [b k hk]; decide))⟩
end
end Go.Proofs.Ytigcpknfcdcllaa
