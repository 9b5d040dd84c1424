/- The law's walk: an ack's step; what lies at a place of what is under way. -/
import Derived.Test.YtigcpknfcdcllaaLt
namespace Go.Proofs.Ytigcpknfcdcllaa
open Go.RowKit Go.Proofs.YtigcpknfcdcllaaW.PrintWords Go.Proofs.YtigcpknfcdcllaaW.PrintLast Go.Proofs.YtigcpknfcdcllaaLb
set_option linter.unusedSimpArgs false
set_option linter.unusedVariables false
theorem WRep.sure_cell {w : World} {b : Nat} {S : Nat → Prop} {Q : Qm} {sure : Nat} {es : List Ent} (h : WRep w b S Q sure es) : w.cell? ⟨b, 3, none⟩ = some (.int .u64 sure) := by
  obtain ⟨v, h1, _⟩ := h.at_
  exact (blk_cell h1 3).trans rfl
theorem way_cut3 (g o k : Nat) {n c : Nat} (hc : k ≤ c) : ∀ W : World, (Instr.slice 38 (.slice (some ⟨g, o, none⟩) n c) none (some (.int .i64 (k : Int))) (some (.int .i64 (k : Int)))).run Try.prog W = .ok (.slice (some ⟨g, o, none⟩) k k) W := by
  obtain ⟨i0, hi, hz0, hz1, hz2⟩ := info_parts Try.info51
  have h := cut_three (P := Try.prog) 38 51 .i64 .i64 Try.underlying38 hi (some ⟨g, o, none⟩) n c (k : Int) (by omega) (by omega)
  simpa only [Int.toNat_natCast] using h
theorem way_cutf (g o k : Nat) {n c : Nat} (hc : k + 1 ≤ n) : ∀ W : World, (Instr.slice 38 (.slice (some ⟨g, o, none⟩) n c) (some (.int .i64 ((k : Int) + 1))) none none).run Try.prog W = .ok (.slice (if c = k + 1 then some ⟨g, o, none⟩ else (some (⟨g, o, none⟩ : Addr)).map (·.add ((k + 1) * 3))) (n - (k + 1)) (c - (k + 1))) W := by
  obtain ⟨i0, hi, hz0, hz1, hz2⟩ := info_parts Try.info51
  have h := cut_from (P := Try.prog) 38 51 .i64 Try.underlying38 hi 3 hz1 (some ⟨g, o, none⟩) n c ((k : Int) + 1) (by omega) (by omega)
  simpa only [show ((k : Int) + 1).toNat = k + 1 from by omega] using h
section
variable {w : World} {Q : Qm} {F : Fix} {col : Nat → Nat} {Sw : Nat → Prop} {σ : LS} {wv uv : Value}
/-- A place of what is under way. -/
theorem LOpen.way_at {c : Nat} {Ay : Option Addr} {n cy : Nat} (h : LOpen c w Q F col Sw (.slice Ay n cy) uv σ) (hc : c ≠ 40) {j p e : Nat} {v : Value} (hx : σ.way[j]? = some (p, e, v)) :
    ∃ g o, Ay = some ⟨g, o, none⟩ ∧ n ≤ cy ∧ w.cell? ⟨g, o + j * 3, none⟩ = some (.int .i64 p) ∧ w.cell? ⟨g, o + j * 3 + 1, none⟩ = some (.int .u64 e) ∧ w.cell? ⟨g, o + j * 3 + 2, none⟩ = some v := by
  have hlt := (List.getElem?_eq_some_iff.1 hx).1
  obtain ⟨g, o, c', he, hn, _, _, hcc⟩ := (h.way hc).1.cells (by omega)
  injection he with hA hn2 hc2
  obtain ⟨a, b, d⟩ := flat3_get _ _ _ _ _ hx
  exact ⟨g, o, hA, by omega, hcc _ _ a, by have := hcc _ _ b; rwa [← Nat.add_assoc] at this, by have := hcc _ _ d; rwa [← Nat.add_assoc] at this⟩
/-- An ack of what was written. -/
theorem ack_law (h : LRep w Q F col Sw wv uv σ) (hall : σ.sure + σ.es.length = σ.ws.length) (hes : σ.es.length ≤ 64) (hws : σ.ws.length ≤ 1000) {p e : Nat} (hp : p < Q.p) (he : e < σ.ws.length) (hm : p ∈ setN Q e) {ok : Nat → Nat → Prop} (hla : LA Q ok σ.sure σ.es) (ho : ok p e) :
    Calls Try.prog 18 #[.pointer (some ⟨F.wb, 0, none⟩), .int .i64 p, .int .u64 e] w fun ex w' => ∃ (k : Nat) (A : Option Addr) (c : Nat) (es' : List Ent) (col' : Nat → Nat), ex = .returned (.slice A k c) ∧ LRep w' Q F col' Sw wv uv { σ with sure := σ.sure + k, es := es' } ∧ LA Q ok (σ.sure + k) es' ∧ σ.sure + k + es'.length = σ.ws.length ∧ es'.length ≤ 64 ∧ Kp (fun k => F.base ≤ k) w w' := by
  by_cases hs : e < σ.sure
  · refine (ack_old Q F.wb Sw σ.sure e p σ.es w (h.wr (by decide)).1 hs).mono ?_
    rintro ex w' ⟨rfl, rfl⟩
    exact ⟨0, none, 0, σ.es, col, rfl, h, hla, hall, hes, Kp.refl _ _⟩
  · obtain ⟨j, rfl⟩ : ∃ j, e = σ.sure + j := ⟨e - σ.sure, by omega⟩
    refine (ack_new Q F.wb Sw σ.sure j _ p σ.es w (h.wr (by decide)).1 rfl (by omega) hes hp hm (by omega)).mono ?_
    rintro ex w' ⟨k, A, c, rfl, hk, hw', hc, hkp⟩
    obtain ⟨col', hr', hkp'⟩ := wrote h hw' hkp (fun k hk => .inl hk)
    have hl : ((markE σ.es j p).drop k).length = σ.es.length - k := by rw [List.length_drop, markE_length]
    exact ⟨k, A, c, _, col', rfl, hr', hla.ack (by omega) ho hk hc, by rw [hl]; omega, by rw [hl]; omega, hkp'⟩
/-- A place's fence. -/
theorem LOpen.fence_at {c : Nat} (h : LOpen c w Q F col Sw wv uv σ) (hc : c ≠ 5) (hl : σ.fe.length = Q.p) {p : Nat} (hp : p < Q.p) : w.cell? ⟨F.gf, p, none⟩ = some (.bool (σ.fe.getD p false)) := by
  refine (blk_cell (h.fe hc).1 p).trans ?_
  simp [List.getD, List.getElem?_eq_getElem (show p < σ.fe.length by omega)]
/-- What was written, for the last look. -/
theorem LOpen.wrc {c : Nat} {Au : Option Addr} {n cu : Nat} (h : LOpen c w Q F col Sw wv (.slice Au n cu) σ) (hc : c ≠ 41) (hn : σ.us.length ≤ 1000000) : WrC w (Tw σ.ws) Au σ.us :=
  ⟨hn, fun h0 => by
    obtain ⟨g, o, c', he, _, _, hcc⟩ := q_form (h.ur hc).1 h0
    injection he with hA _ _
    exact ⟨g, o, hA, hcc⟩, h.ub⟩
set_option maxRecDepth 100000 in
/-- What came to a place lies there. -/
theorem stored (h : LRep w Q F col Sw wv uv σ) {p e m : Nat} {v : Value} (hm : F.ms[p]? = some m) (hv : Bs w v (Tw σ.ws e)) (he : e < 1000000) (hn : σ.np ≤ 1000000) :
    ∃ w', (Instr.mapUpdate 36 (.map (some m)) (.int .u64 e) v).run Try.prog w = .ok () w' ∧ LRep w' Q F col Sw wv uv { σ with np := σ.np + 1, has := fun i => if i = p then (fun x => σ.has p x ∨ x = e) else σ.has i } ∧ Kp (fun k => k = m) w w' := by
  obtain ⟨hc, f, hf, ht⟩ := h.maps p m hm (by omega)
  obtain ⟨w', hrun, hf', hg⟩ := hf.put (Maps.int_keyed Try.underlying43) Try.underlying36 (by unfold maxLen; omega) (val := v) (key_u64 e (by omega))
  obtain ⟨es, clock, hmap⟩ := hf.isMap
  have K : Kp (fun k => k = m) w w' := (Kp.refl (fun k => k = m) w).grown hg (fun k hk _ => by injection hk with hk; exact hk.symm) (fun k hk cs fr hcc => by
    injection hk with hk
    subst hk
    rw [hmap] at hcc
    injection hcc with hcc
    cases hcc)
  have hp7 := h.small hm
  have h6 := h.frame K (6 + p) (fun k _ hk => by subst hk; exact hc) (fun k _ => rfl)
  exact ⟨w', hrun, h6.close6 hp7 hm hc hf' (ht.put K (hv.kp K) (by omega)), K⟩
/-- The place's map. -/
theorem LOpen.map_at {c : Nat} (h : LOpen c w Q F col Sw wv uv σ) (hc : c ≠ 4) {p : Nat} (hp : p < Q.p) : ∃ m, F.ms[p]? = some m ∧ w.cell? ⟨F.gp, p, none⟩ = some (.map (some m)) := by
  have hl : p < F.ms.length := by rw [h.ml]; exact hp
  refine ⟨F.ms[p], List.getElem?_eq_getElem hl, (blk_cell (h.pl hc).1 p).trans ?_⟩
  simp [List.getElem?_eq_getElem hl]
theorem LOpen.not_map {c : Nat} (h : LOpen c w Q F col Sw wv uv σ) {p m g : Nat} (hm : F.ms[p]? = some m) (hc : c ≠ 6 + p) {cs : Array Value} {t : TypeId} {fr : Nat × Nat} (hg : w.heap[g]? = some (.cells cs t fr)) : ¬ g = m := by
  intro hgm
  subst hgm
  obtain ⟨_, f, hf, _⟩ := h.maps p _ hm hc
  obtain ⟨es, clock, hmap⟩ := hf.isMap
  rw [hmap] at hg
  injection hg with hg
  cases hg
theorem LOpen.map_up (h : LOpen 0 w Q F col Sw wv uv σ) {p m : Nat} (hm : F.ms[p]? = some m) : F.base ≤ m :=
  h.up (by rw [(h.maps p m hm (by omega)).1]; omega)
theorem LI.way_ {i : Nat} (hi : LI Q σ i) {way' : List (Nat × Nat × Value)} (hw : way'.length ≤ 7 * (i + 1)) : LI Q { σ with way := way' } (i + 1) :=
  ⟨hi.all, hi.la, hi.told, hi.hml, hi.hasl, hi.fel, hi.short, hi.few, hi.heard, Nat.le_trans hi.nws (Nat.le_succ _), Nat.le_trans hi.nnp (Nat.le_succ _), hw, Nat.le_trans hi.nnm (by omega)⟩
theorem LI.stored_ {i : Nat} (hi : LI Q σ i) {way' : List (Nat × Nat × Value)} (hw : way'.length ≤ 7 * (i + 1)) {p e sure : Nat} {es : List Ent} (hp : σ.fe.getD p false = false) (he : e < σ.ws.length)
    (hla : LA Q (fun i => if i = p then (fun x => σ.has p x ∨ x = e) else σ.has i) sure es) (hall : sure + es.length = σ.ws.length) (hfew : es.length ≤ 64) :
    LI Q { σ with way := way', np := σ.np + 1, has := (fun i => if i = p then (fun x => σ.has p x ∨ x = e) else σ.has i), sure := sure, es := es } (i + 1) :=
  ⟨hall.symm, hla, fun pl hpl x hx => by
    by_cases h : pl = p
    · subst h
      rw [hp] at hpl
      cases hpl
    · simp only [if_neg h] at hx
      exact hi.told pl hpl x hx, hi.hml, fun pl x hx => by
    by_cases h : pl = p
    · simp only [if_pos h] at hx
      rcases hx with hx | hx
      · exact hi.hasl p x hx
      · subst hx; exact he
    · simp only [if_neg h] at hx
      exact hi.hasl pl x hx, hi.fel, hi.short, hfew, hi.heard, Nat.le_trans hi.nws (Nat.le_succ _), Nat.succ_le_succ hi.nnp, hw, Nat.le_trans hi.nnm (by omega)⟩
theorem LA.store {Q : Qm} {has : Nat → Nat → Prop} {sure : Nat} {es : List Ent} {p e : Nat} (h : LA Q has sure es) : LA Q (fun i => if i = p then (fun x => has p x ∨ x = e) else has i) sure es :=
  h.mono fun pl x hx => by
    by_cases hp : pl = p
    · subst hp; simp only [if_pos]; exact .inl hx
    · simp only [if_neg hp]; exact hx
end
end Go.Proofs.Ytigcpknfcdcllaa
