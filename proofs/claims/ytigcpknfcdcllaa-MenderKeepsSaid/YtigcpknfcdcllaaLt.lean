/- The law's walk: its steps on what lies in memory. -/
import Derived.Test.YtigcpknfcdcllaaLs
namespace Go.Proofs.Ytigcpknfcdcllaa
open Go.RowKit Go.Proofs.YtigcpknfcdcllaaW.PrintWords Go.Proofs.YtigcpknfcdcllaaW.PrintLast Go.Proofs.YtigcpknfcdcllaaLb
set_option linter.unusedSimpArgs false
set_option linter.unusedVariables false

theorem Try.info42 : (Try.prog.info? 42).map (fun i => (i.zero, i.size, i.bytes)) = some (some (.slice none 0 0), 1, 24) := by kernel_rfl
theorem cells4 {w : World} {g : Nat} {x y z u : Value} {t : TypeId} (h : w.heap[g]? = some (.cells #[x, y, z, u] t (0, 0))) : w.cell? ⟨g, 0, none⟩ = some x ∧ w.cell? ⟨g, 1, none⟩ = some y ∧ w.cell? ⟨g, 2, none⟩ = some z ∧ w.cell? ⟨g, 3, none⟩ = some u :=
  ⟨(blk_cell h 0).trans rfl, (blk_cell h 1).trans rfl, (blk_cell h 2).trans rfl, (blk_cell h 3).trans rfl⟩
theorem bs_block2 {w : World} {g : Nat} {x y : Int} {fr : Nat × Nat} (h : w.heap[g]? = some (.cells #[.int .u8 x, .int .u8 y] 5 fr)) : Bs w (.slice (some ⟨g, 0, none⟩) 2 2) [x, y] :=
  ⟨some ⟨g, 0, none⟩, 2, rfl, Nat.le_refl _, ⟨rfl, by simp, fun _ => ⟨_, rfl, fun j p hj => ⟨[.int .u8 p], rfl, rfl, fun i u hu => by
    have hi : i = 0 := by
      have := (List.getElem?_eq_some_iff.1 hu).1
      simpa using this
    subst hi
    have hu' : Value.int .u8 p = u := by simpa using hu
    subst hu'
    rw [add_plain]
    match j, hj with
    | 0, hj =>
      have hj' : x = p := by simpa using hj
      subst hj'
      unfold World.cell?
      simp only [h]
      rfl
    | 1, hj =>
      have hj' : y = p := by simpa using hj
      subst hj'
      unfold World.cell?
      simp only [h]
      rfl
    | j + 2, hj => simp at hj⟩⟩⟩, fun a ha => by injection ha with ha; subst ha; exact ⟨_, _, h⟩⟩
section
variable {w : World} {Q : Qm} {F : Fix} {col : Nat → Nat} {Sw : Nat → Prop} {σ : LS}
set_option maxRecDepth 100000 in
/-- What was written, one more. -/
theorem wr_round {wv : Value} {Au : Option Addr} {cu : Nat} (h : LRep w Q F col Sw wv (.slice Au σ.us.length cu) σ) {v : Value} {d : List Int} (hd : Bs w v d) (hn : σ.us.length ≤ 1000000) (hh : ∀ i e, σ.has i e → e < σ.ws.length) (hm : ∀ e, σ.hm e → e < σ.ws.length) :
    ∃ (Au' : Option Addr) (cu' : Nat) (w' : World) (col' : Nat → Nat), (Builtin.append_ #[39, 39] 39 #[.slice Au σ.us.length cu, .slice (some ⟨w.heap.size, 0, none⟩) 1 1]).run Try.prog (w.alloc (.cells #[v] 42)) = .ok (.slice Au' (σ.us.length + 1) cu') w' ∧
      LRep w' Q F col' Sw wv (.slice Au' (σ.us.length + 1) cu') { σ with ws := σ.ws ++ [d], us := σ.us ++ [v] } ∧ Kp (fun k => F.base ≤ k) w w' := by
  obtain ⟨i0, hi, hz0, hz1, hz2⟩ := info_parts Try.info42
  obtain ⟨hq, hc⟩ := h.ur (by decide)
  have hB : Below w.heap.size w (w.alloc (.cells #[v] 42)) := below_alloc (Below.refl _ _) _
  have hq2 := q_move hq (fun k hk => hB.block k (q_lt hq k hk))
  obtain ⟨v', w', hrun, hq', hg, hat⟩ := q_append (P := Try.prog) (w.alloc (.cells #[v] 42)) F.base 39 39 42 i0 _ 1 24 Try.underlying39 hi hz0 hz1 hz2 rfl (by decide) _ σ.us.length σ.us hq2 ⟨w.heap.size, 0, none⟩ 1 1 [v] rfl
    (blk_news (blk_new w (.cells #[v] 42 (0, 0)))) (by intro u hu; simp only [List.mem_cons, List.not_mem_nil, or_false] at hu; subst hu; exact hd.one) (by decide) (by unfold maxLen; omega) (by omega) (Nat.le_trans h.sz hB.size)
  obtain ⟨Au', cu', rfl, _⟩ := q_slice hq'
  have K0 : Kp (fun k => (Value.slice Au σ.us.length cu).ownBlock = some k) w w' := (Kp.of_below _ hB).grown hg (fun k hk _ => hk) (fun k hk cs fr hcc => by
    obtain ⟨_, cells', hc'⟩ := q_typed hq2 k hk
    rw [hcc] at hc'
    injection hc' with hc'
    injection hc' with _ hc'
    cases hc')
  have h41 := h.frame K0 41 (fun k _ hk => hc k hk) (fun k hk => ncol_old (c := 41) hk)
  refine ⟨Au', cu', w', _, hrun, h41.close41 (hd.kp K0) hq' (fun k hk => ?_) hh hm, K0.mono (fun k _ hk => (q_typed hq k hk).1)⟩
  rcases hat with hat | ⟨b, hb, hlt⟩
  · rw [hat] at hk
    exact (ncol_old (q_lt hq k hk)).trans (hc k hk)
  · have hk' : b = k := Option.some.inj (hb.symm.trans hk)
    subst hk'
    exact ncol_new (Nat.le_trans hB.size hlt)
set_option maxRecDepth 100000 in
/-- One more under way. -/
theorem way_round {uv : Value} {Ay : Option Addr} {cy : Nat} (h : LRep w Q F col Sw (.slice Ay σ.way.length cy) uv σ) {v : Value} {p e : Nat} (hp : p < Q.p) (he : e < σ.ws.length) (hs : p ∈ setN Q e) (hd : Bs w v (Tw σ.ws e)) (hn : σ.way.length ≤ 1000000) :
    ∃ (Ay' : Option Addr) (cy' : Nat) (w' : World) (col' : Nat → Nat), (Builtin.append_ #[38, 38] 38 #[.slice Ay σ.way.length cy, .slice (some ⟨w.heap.size, 0, none⟩) 1 1]).run Try.prog (w.alloc (.cells #[.int .i64 p, .int .u64 e, v] 51)) = .ok (.slice Ay' (σ.way.length + 1) cy') w' ∧
      LRep w' Q F col' Sw (.slice Ay' (σ.way.length + 1) cy') uv { σ with way := σ.way ++ [(p, e, v)] } ∧ Kp (fun k => col k = 40) w w' ∧ ∀ k, k < w.heap.size → col' k = col k := by
  obtain ⟨hq, hc⟩ := h.way (by decide)
  have hB : Below w.heap.size w (w.alloc (.cells #[.int .i64 p, .int .u64 e, v] 51)) := below_alloc (Below.refl _ _) _
  have hq2 := hq.move (fun k hk => hB.block k (hq.lt k hk))
  obtain ⟨v', w', hrun, hq', hg, hat⟩ := way_add hq2 (Nat.le_trans h.sz hB.size) hn ⟨w.heap.size, 0, none⟩ [.int .i64 p, .int .u64 e, v] rfl (blk_news (blk_new w (.cells #[.int .i64 p, .int .u64 e, v] 51 (0, 0))))
    (by intro u hu; simp only [List.mem_cons, List.not_mem_nil, or_false] at hu; rcases hu with rfl | rfl | rfl <;> first | rfl | exact hd.one)
  obtain ⟨Ay', cy', rfl, _⟩ := hq'.slice
  have K0 : Kp (fun k => (Value.slice Ay σ.way.length cy).ownBlock = some k) w w' := (Kp.of_below _ hB).grown hg (fun k hk _ => hk) (fun k hk cs fr hcc => by
    obtain ⟨_, cells', hc'⟩ := hq2.typed k hk
    rw [hcc] at hc'
    injection hc' with hc'
    injection hc' with _ hc'
    cases hc')
  have h40 := h.frame K0 40 (fun k _ hk => hc k hk) (fun k hk => ncol_old (c := 40) hk)
  refine ⟨Ay', cy', w', _, hrun, h40.close40 (by rw [flat3_snoc]; simpa using hq') (fun k hk => ?_) (fun p' e' v' hx => ?_), K0.mono (fun k _ hk => hc k hk), fun k hk => ncol_old hk⟩
  · rcases hat with hat | ⟨b, hb, hlt⟩
    · rw [hat] at hk
      exact (ncol_old (hq.lt k hk)).trans (hc k hk)
    · have hk' : b = k := Option.some.inj (hb.symm.trans hk)
      subst hk'
      exact ncol_new (Nat.le_trans hB.size hlt)
  · rcases List.mem_append.1 hx with hx | hx
    · exact h40.yb p' e' v' hx
    · have hx' : (p', e', v') = (p, e, v) := by simpa using hx
      injection hx' with h1 h2
      injection h2 with h2 h3
      subst h1; subst h2; subst h3
      exact ⟨hp, he, hs, hd.kp K0⟩
set_option maxRecDepth 100000 in
/-- One less under way. -/
theorem way_less {uv : Value} {Ay : Option Addr} {cy : Nat} (h : LRep w Q F col Sw (.slice Ay σ.way.length cy) uv σ) {k : Nat} (hk : k < σ.way.length) (hn : σ.way.length ≤ 1000000) :
    ∃ (Ay' : Option Addr) (cy' : Nat) (w' : World) (col' : Nat → Nat), (Builtin.append_ #[38, 38] 38 #[.slice Ay k k, .slice (if cy = k + 1 then Ay else Ay.map (·.add ((k + 1) * 3))) (σ.way.length - (k + 1)) (cy - (k + 1))]).run Try.prog w = .ok (.slice Ay' (σ.way.length - 1) cy') w' ∧
      LRep w' Q F col' Sw (.slice Ay' (σ.way.length - 1) cy') uv { σ with way := σ.way.eraseIdx k } ∧ Below w.heap.size w w' := by
  obtain ⟨hq, hc⟩ := h.way (by decide)
  obtain ⟨v', w', hrun, hq', hg, hat⟩ := way_cut hq h.sz hn k hk
  obtain ⟨Ay', cy', rfl, _⟩ := hq'.slice
  have hB : Below w.heap.size w w' := ⟨hg.os, hg.tape, hg.output, hg.size, fun i hi => hg.block i hi (by simp)⟩
  have K0 : Kp (fun _ => False) w w' := Kp.of_below _ hB
  have h40 := h.frame K0 40 (fun k _ hk => hk.elim) (fun k hk => ncol_old (c := 40) hk)
  have hl : (σ.way.eraseIdx k).length = σ.way.length - 1 := List.length_eraseIdx_of_lt hk
  refine ⟨Ay', cy', w', _, hrun, h40.close40 (by rw [hl, ← flat3_cut]; exact hq') (fun j hj => ?_) (fun p' e' v' hx => h40.yb p' e' v' ((List.eraseIdx_sublist _ _).subset hx)), hB⟩
  rcases hat with hat | ⟨b, hb, hlt⟩
  · rw [hat] at hj
    exact (ncol_old (hq.lt j hj)).trans (hc j hj)
  · have hk' : b = j := Option.some.inj (hb.symm.trans hj)
    subst hk'
    exact ncol_new hlt
theorem LI.next {i : Nat} (hi : LI Q σ i) : LI Q σ (i + 1) :=
  ⟨hi.all, hi.la, hi.told, hi.hml, hi.hasl, hi.fel, hi.short, hi.few, hi.heard, Nat.le_trans hi.nws (Nat.le_succ _), Nat.le_trans hi.nnp (Nat.le_succ _), Nat.le_trans hi.nway (by omega), Nat.le_trans hi.nnm (by omega)⟩
/-- What is of a colour is not below. -/
theorem LOpen.up {c : Nat} {wv uv : Value} (h : LOpen c w Q F col Sw wv uv σ) {k : Nat} (hk : col k ≠ 0) : F.base ≤ k := by
  rcases Nat.lt_or_ge k F.base with hl | hl
  · exact absurd (h.lo k hl) hk
  · exact hl
/-- The writer has turned. -/
theorem wrote {w' : World} {wv uv : Value} (h : LRep w Q F col Sw wv uv σ) {S' : Nat → Prop} {sure : Nat} {es : List Ent} (hw : WRep w' F.wb S' Q sure es) (hk : Kp Sw w w') (hS : ∀ k, S' k → Sw k ∨ w.heap.size ≤ k) :
    ∃ col', LRep w' Q F col' S' wv uv { σ with sure := sure, es := es } ∧ Kp (fun k => F.base ≤ k) w w' := by
  obtain ⟨a, b⟩ := h.wr (by decide)
  have h1 := h.frame hk 1 (fun k _ hk => b k hk) (fun k hk => ncol_old (c := 1) hk)
  refine ⟨_, h1.close1 hw (fun k hk => ?_), hk.mono (fun k _ hk => h.up (by rw [b k hk]; decide))⟩
  rcases hS k hk with h | h
  · exact (ncol_old (a.lt k h)).trans (b k h)
  · exact ncol_new h
/-- An entry was taken: it is written down, too. -/
theorem added {w' : World} {i : Nat} {Ay Au : Option Addr} {cy cu : Nat} (h : LRep w Q F col Sw (.slice Ay σ.way.length cy) (.slice Au σ.us.length cu) σ) (hi : LI Q σ i) (hi2 : i ≤ 200) (hes : σ.es.length < 64) {S' : Nat → Prop} {x : Ent} (hw : WRep w' F.wb S' Q σ.sure (σ.es ++ [x])) (hk : Kp Sw w w') (hS : ∀ k, S' k → Sw k ∨ w.heap.size ≤ k)
    (hxs : x.s = List.replicate Q.p false) {v : Value} {d : List Int} (hd : Bs w v d) (hd2 : d.length ≤ 256) :
    ∃ (Au' : Option Addr) (cu' : Nat) (w6 : World) (col6 : Nat → Nat) (σ2 : LS), (Builtin.append_ #[39, 39] 39 #[.slice Au σ.us.length cu, .slice (some ⟨w'.heap.size, 0, none⟩) 1 1]).run Try.prog (w'.alloc (.cells #[v] 42)) = .ok (.slice Au' (σ.us.length + 1) cu') w6 ∧
      LRep w6 Q F col6 S' (.slice Ay σ.way.length cy) (.slice Au' (σ.us.length + 1) cu') σ2 ∧ σ2.way = σ.way ∧ σ2.us.length = σ.us.length + 1 ∧ σ2.sure = σ.sure ∧ σ2.ws.length = σ.sure + σ.es.length + 1 ∧ Tw σ2.ws (σ.sure + σ.es.length) = d ∧ Bs w6 v d ∧ Kp (fun k => F.base ≤ k) w w6 ∧
      ∀ way', way'.length ≤ 7 * (i + 1) → LI Q { σ2 with way := way' } (i + 1) := by
  have hul := h.ul
  have hall := hi.all
  have hnws := hi.nws
  obtain ⟨col5, hr5, hkb⟩ := wrote h hw hk hS
  obtain ⟨Au', cu', w6, col6, hrun, hr6, hk6⟩ := wr_round (σ := { σ with sure := σ.sure, es := σ.es ++ [x] }) hr5 (hd.kp hk) (by show σ.us.length ≤ _; omega) hi.hasl hi.hml
  refine ⟨Au', cu', w6, col6, _, hrun, hr6, rfl, by simp, rfl, by simp; omega, ?_, (hd.kp hk).kp hk6, hkb.trans (hk6.mono (fun _ _ h => h)), fun way' hw' => ?_⟩
  · rw [← hall]
    exact Tw_last σ.ws d
  · refine ⟨by simp; omega, hi.la.add hxs, hi.told, fun e he => ?_, fun pl e he => ?_, hi.fel, fun d' hd' => ?_, by simp; omega, hi.heard, by simp; omega, Nat.le_trans hi.nnp (Nat.le_succ _), hw', Nat.le_trans hi.nnm (by omega)⟩
    · have := hi.hml e he
      simp; omega
    · have := hi.hasl pl e he
      simp; omega
    · rcases List.mem_append.1 hd' with h | h
      · exact hi.short d' h
      · have : d' = d := by simpa using h
        subst this
        exact hd2
end
/-- The places of an entry, in a row of the call's own. -/
structure SetC (w : World) (base : Nat) (Q : Qm) (n : Nat) (A : Option Addr) : Prop where
  own : ∃ g, A = some ⟨g, 0, none⟩ ∧ base ≤ g ∧ g < w.heap.size ∧ ∀ j p : Nat, (setN Q n)[j]? = some p → w.cell? ⟨g, j, none⟩ = some (.int .i64 p)
theorem SetC.move {w w' : World} {base n : Nat} {Q : Qm} {A : Option Addr} (h : SetC w base Q n A) (hk : ∀ k, base ≤ k → k < w.heap.size → (∃ a, A = some a ∧ a.block = k) → w'.heap[k]? = w.heap[k]?) (hs : w.heap.size ≤ w'.heap.size) : SetC w' base Q n A := by
  obtain ⟨⟨g, rfl, h1, h2, h3⟩⟩ := h
  exact ⟨⟨g, rfl, h1, Nat.lt_of_lt_of_le h2 hs, fun j p hj => (World.cell?_of_block (w := w) (a := ⟨g, j, none⟩) (hk g h1 h2 ⟨_, rfl, rfl⟩)).trans (h3 j p hj)⟩⟩
theorem SetC.at {w : World} {base n j : Nat} {Q : Qm} {A : Option Addr} (h : SetC w base Q n A) (hj : j < Q.q) : ∃ (g p : Nat), A = some ⟨g, 0, none⟩ ∧ p < Q.p ∧ p ∈ setN Q n ∧ w.cell? ⟨g, j, none⟩ = some (.int .i64 p) := by
  obtain ⟨⟨g, rfl, h1, h2, h3⟩⟩ := h
  obtain ⟨p, hp⟩ : ∃ p, (setN Q n)[j]? = some p := ⟨_, List.getElem?_eq_getElem (by rw [setN_length]; exact hj)⟩
  have hm := List.mem_of_getElem? hp
  exact ⟨g, p, rfl, setN_lt Q n p hm, hm, h3 j p hp⟩
theorem SetC.col {w : World} {base n : Nat} {Q : Qm} {A : Option Addr} (h : SetC w base Q n A) (col : Nat → Nat) (c : Nat) : ∀ a, A = some a → ncol base col c a.block = c := by
  obtain ⟨⟨g, rfl, h1, _⟩⟩ := h
  intro a ha
  injection ha with ha
  subst ha
  exact ncol_new h1
theorem refset_f (Q : Qm) (n : Nat) (hn : n < 1000000) : PMenderKeeps.mailcoachref10_Set.f 8 Q.p Q.q Q.a n = some (ints (setN Q n)) := by
  have h1 := Q.h1
  have h2 := Q.h2
  have h3 := Q.h3
  have h4 := Q.h4
  unfold PMenderKeeps.mailcoachref10_Set.f PMenderKeeps.mailcoachref10_Check.f
  rw [if_pos (by omega), if_pos (by omega), if_pos (by omega), decide_eq_true (by omega)]
  simp only [Option.bind_some, if_true]
  rw [IntWalk.u64_in (Q.p : Int) (by omega), if_neg (by omega), IntWalk.rem_in (n : Int) _ (by omega)]
  have hlt := Nat.mod_lt n (show 0 < Q.p by omega)
  have hm : wrap64 ((n : Int) % (Q.p : Int)) = (((n + 0) % Q.p : Nat) : Int) := by
    have : (n : Int) % (Q.p : Int) = ((n % Q.p : Nat) : Int) := by simp
    rw [this]
    unfold wrap64
    simp only [Nat.add_zero]
    omega
  rw [hm, show (0 : Int) = ((0 : Nat) : Int) from rfl, refset_l0 Q n Q.q 8 0 [] (by omega) (by omega) rfl]
  simp [ints, setN, List.map_map, Function.comp_def]
theorem refset_own (Q : Qm) (n : Nat) (hn : n < 1000000) (w : World) : Calls Try.prog 17 #[Q.val, .int .u64 n] w fun e w' => ∃ (A : Option Addr) (c : Nat), e = .returned (.slice A Q.q c) ∧ SetC w' w.heap.size Q n A ∧ Q.q ≤ c ∧ Below w.heap.size w w' := by
  refine (PMenderKeeps.mailcoachref10_Set.calls 8 Q.p Q.q Q.a n _ w (refset_f Q n hn)).mono ?_
  rintro e w' ⟨v, rfl, hr, hb⟩
  have hl : (ints (setN Q n)).length = Q.q := by simp [ints, setN_length]
  obtain ⟨h0, inner, hown, hrp⟩ := id hr
  have hq0 : 0 < Q.q := by have := Q.h1; have := Q.h2; omega
  obtain ⟨A, c, rfl, hc, hC⟩ := Kd.R_reads hr
  rw [hl] at hc hC hown
  obtain ⟨g, cap, he, hbg, hh⟩ := hown.form (by omega)
  injection he with hA _ _
  subst hA
  rw [hl]
  refine ⟨_, c, rfl, ⟨⟨g, rfl, hbg, ?_, fun j p hj => ?_⟩⟩, hc, hb⟩
  · exact q_lt (q_of_own hown) g rfl
  · obtain ⟨ad, hA, hcc⟩ := hC.2.2 (by omega)
    injection hA with hA
    subst hA
    obtain ⟨cl, hl2, hp, hce⟩ := hcc j (p : Int) (by simp [ints, hj])
    have hp' : cl = [Value.int .i64 p] := hp
    subst hp'
    have := hce 0 _ rfl
    rw [add_plain] at this
    simpa [Kd.int, Kd.scalar] using this
section
variable {w : World} {Q : Qm} {F : Fix} {col : Nat → Nat} {Sw : Nat → Prop} {σ : LS} {wv uv : Value}
/-- What is of no part's colour may turn. -/
theorem LOpen.free (h : LOpen 61 w Q F col Sw wv uv σ) : LRep w Q F col Sw wv uv σ :=
  ⟨fun _ => h.q (by decide), fun _ => h.wr (by decide), fun _ => h.mr (by decide), fun _ => h.pl (by decide), h.ml, fun i m hi _ => h.maps i m hi (by have := h.small hi; omega), fun _ => h.fe (by decide), fun _ => h.way (by decide), h.yb, fun _ => h.ur (by decide), h.ul, h.ub, h.lo, h.sz⟩
/-- A fence. -/
theorem fence_step (h : LRep w Q F col Sw wv uv σ) (pl : Nat) : LRep (w.setCell ⟨F.gf, pl, none⟩ (.bool true)) Q F col Sw wv uv { σ with fe := σ.fe.set pl true } ∧ Kp (fun k => F.base ≤ k) w (w.setCell ⟨F.gf, pl, none⟩ (.bool true)) := by
  obtain ⟨a, b⟩ := h.fe (by decide)
  have K : Kp (fun k => k = F.gf) w (w.setCell ⟨F.gf, pl, none⟩ (.bool true)) := (Kp.refl (fun k => k = F.gf) w).set (p := ⟨F.gf, pl, none⟩) (fun _ => rfl) a (by decide) _
  have h5 := h.frame K 5 (fun k _ hk => by subst hk; exact b) (fun k _ => rfl)
  refine ⟨h5.close5 ?_ b, K.mono (fun k _ hk => by subst hk; exact h.up (by rw [b]; decide))⟩
  refine (blk_set a pl _).trans ?_
  congr 2
  simp [List.map_set]
end
end Go.Proofs.Ytigcpknfcdcllaa
