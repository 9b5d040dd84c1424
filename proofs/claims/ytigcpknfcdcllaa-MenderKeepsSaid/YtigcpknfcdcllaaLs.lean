/- The law's walk: its start. -/
import Derived.Test.YtigcpknfcdcllaaLq
import Derived.Deep.DeepCutAuto
import Derived.Deep.CutBlock
namespace Go.Proofs.Ytigcpknfcdcllaa
open Go.RowKit Go.Proofs.YtigcpknfcdcllaaW.PrintWords Go.Proofs.YtigcpknfcdcllaaW.PrintLast Go.Proofs.YtigcpknfcdcllaaLb
set_option linter.unusedSimpArgs false
set_option linter.unusedVariables false

/-- The events that came in. -/
structure ActsC (w : World) (A : Option Addr) (m : Nat) : Prop where
  max : m ≤ 9223372036854775807
  cells : 0 < m → ∃ g o, A = some ⟨g, o, none⟩ ∧ ∀ i, i < m → ∃ (K P W : Nat) (L : Bool), K < 256 ∧ P < 256 ∧ W < 256 ∧ w.cell? ⟨g, o + i * 4, none⟩ = some (.int .u8 K) ∧ w.cell? ⟨g, o + i * 4 + 1, none⟩ = some (.int .u8 P) ∧ w.cell? ⟨g, o + i * 4 + 2, none⟩ = some (.int .u8 W) ∧ w.cell? ⟨g, o + i * 4 + 3, none⟩ = some (.bool L)

theorem Try.info36 : (Try.prog.info? 36).map (fun i => (i.zero, i.size, i.bytes)) = some (some (.map none), 1, 8) := by kernel_rfl
theorem run_make_places (p : Nat) (hp : p ≤ 7) (W : World) : (Instr.makeSlice 35 (.int .i64 (p : Int)) (.int .i64 (p : Int))).run Try.prog W = .ok (.slice (some ⟨W.heap.size, 0, none⟩) p p) (W.alloc (.cells (madeCells #[.map none] p) 36)) :=
  run_make_row' 35 36 (.map none) 8 Try.underlying35 Try.info36 rfl .i64 .i64 p (by omega) (by omega) W
theorem made_places (p : Nat) : madeCells #[.map none] p = (List.replicate p (Value.map none)).toArray := by
  have h : ∀ i : Nat, [Value.map none][i % 1]?.getD default = Value.map none := fun i => by rw [Nat.mod_one]; rfl
  simp only [madeCells]
  apply Array.ext
  · simp
  · intro i h1 h2
    simp [h]

/-- As far as the maps and the fences. -/
structure LPre (w : World) (Q : Qm) (gq wb mb : Nat) (Sm : Nat → Prop) (base : Nat) (col : Nat → Nat) : Prop where
  q : w.heap[gq]? = some (.cells #[.int .i64 Q.p, .int .i64 Q.q, .int .i64 Q.a] 26 (0, 0)) ∧ col gq = 3
  wr : WRep w wb (fun k => k = wb) Q 0 [] ∧ col wb = 1
  mr : MRep w mb Sm Q (Tw []) (List.replicate Q.p false) 0 0 (fun _ => False) ∧ ∀ k, Sm k → col k = 2
  lo : ∀ k, k < base → col k = 0
  sz : base ≤ w.heap.size
theorem LPre.frame {w w' : World} {Q : Qm} {gq wb mb base : Nat} {Sm X : Nat → Prop} {col col' : Nat → Nat} (h : LPre w Q gq wb mb Sm base col) (k : Kp X w w') (hX : ∀ i, i < w.heap.size → X i → col i = 4) (hcol : ∀ i, i < w.heap.size → col' i = col i) : LPre w' Q gq wb mb Sm base col' := by
  have nx : ∀ i d, i < w.heap.size → col i = d → d ≠ 4 → ¬ X i := fun i d hi hd hc hx => hc (hd.symm.trans (hX i hi hx))
  obtain ⟨⟨a1, a2⟩, ⟨b1, b2⟩, ⟨c1, c2⟩, lo, sz⟩ := h
  have hwb := b1.lt wb rfl
  exact ⟨⟨k.blk a1 (nx _ _ (lt_of_blk a1) a2 (by decide)), (hcol _ (lt_of_blk a1)).trans a2⟩, ⟨b1.kp k (fun i hi => by subst hi; exact nx _ _ hwb b2 (by decide)), (hcol _ hwb).trans b2⟩,
    ⟨c1.kp k (fun i hi => nx _ _ (c1.lt i hi) (c2 i hi) (by decide)), fun i hi => (hcol _ (c1.lt i hi)).trans (c2 i hi)⟩, fun i hi => (hcol _ (Nat.lt_of_lt_of_le hi sz)).trans (lo i hi), Nat.le_trans sz k.size⟩
theorem pre_made {w w2 w3 w4 : World} {Q : Qm} {wb mb : Nat} {Sm : Nat → Prop} (h2 : Below w.heap.size w w2) (h3 : Below (w2.alloc (.cells #[.int .i64 Q.p, .int .i64 Q.q, .int .i64 Q.a] 26)).heap.size (w2.alloc (.cells #[.int .i64 Q.p, .int .i64 Q.q, .int .i64 Q.a] 26)) w3)
    (hw : WRep w3 wb (fun k => k = wb) Q 0 []) (hwb : (w2.alloc (.cells #[.int .i64 Q.p, .int .i64 Q.q, .int .i64 Q.a] 26)).heap.size ≤ wb) (h4 : Below w3.heap.size w3 w4) (hm : MRep w4 mb Sm Q (Tw []) (List.replicate Q.p false) 0 0 (fun _ => False)) (hS : ∀ k, Sm k → w3.heap.size ≤ k) :
    ∃ col, LPre w4 Q w2.heap.size wb mb Sm w.heap.size col := by
  have hs2 := h2.size
  have hs3 := h3.size
  have hs4 := h4.size
  rw [size_alloc1] at hs3 hwb
  have hwl := hw.lt wb rfl
  have hq := blk_new w2 (.cells #[.int .i64 Q.p, .int .i64 Q.q, .int .i64 Q.a] 26)
  refine ⟨fun k => if k < w2.heap.size then 0 else if k = w2.heap.size then 3 else if k < w3.heap.size then 1 else 2, ⟨h4.block _ (by omega) |>.trans ((h3.block _ (by rw [size_alloc1]; omega)).trans hq), ?_⟩, ⟨hw.kp (Kp.of_below (fun _ => False) h4) (fun _ _ h => h), ?_⟩, ⟨hm, fun k hk => ?_⟩, fun k hk => ?_, by omega⟩
  · rw [if_neg (by omega), if_pos rfl]
  · rw [if_neg (by omega), if_neg (by omega), if_pos hwl]
  · have := hS k hk
    rw [if_neg (by omega), if_neg (by omega), if_neg (by omega)]
  · rw [if_pos (by omega)]

/-- The first j places have their maps. -/
structure LMaps (w : World) (Q : Qm) (gq wb mb gp : Nat) (Sm : Nat → Prop) (base : Nat) (j : Nat) (ms : List Nat) (col : Nat → Nat) : Prop where
  pre : LPre w Q gq wb mb Sm base col
  pl : w.heap[gp]? = some (.cells (ms.map (fun m => Value.map (some m)) ++ List.replicate (Q.p - j) (Value.map none)).toArray 36 (0, 0)) ∧ col gp = 4
  ml : ms.length = j
  maps : ∀ i m, ms[i]? = some m → col m = 6 + i ∧ MapF Try.prog 43 w m 0 (fun _ => none)
theorem maps_start {w : World} {Q : Qm} {gq wb mb base : Nat} {Sm : Nat → Prop} {col : Nat → Nat} (h : LPre w Q gq wb mb Sm base col) : ∃ col', LMaps (w.alloc (.cells (madeCells #[.map none] Q.p) 36)) Q gq wb mb w.heap.size Sm base 0 [] col' :=
  ⟨ncol w.heap.size col 4, h.frame ((Kp.refl (fun _ => False) w).alloc _) (fun _ _ hf => hf.elim) (fun i hi => ncol_old hi), ⟨by rw [blk_new, made_places]; rfl, ncol_new (Nat.le_refl _)⟩, rfl, fun i m hi => by simp at hi⟩
theorem maps_step {w : World} {Q : Qm} {gq wb mb gp base j : Nat} {Sm : Nat → Prop} {ms : List Nat} {col : Nat → Nat} (h : LMaps w Q gq wb mb gp Sm base j ms col) (hj : j < Q.p) :
    ∃ ms' col', LMaps ((w.alloc (.map #[] 0)).setCell ⟨gp, j, none⟩ (.map (some w.heap.size))) Q gq wb mb gp Sm base (j + 1) ms' col' ∧ Kp (fun k => k = gp) w ((w.alloc (.map #[] 0)).setCell ⟨gp, j, none⟩ (.map (some w.heap.size))) := by
  obtain ⟨hp, ⟨hl, hc⟩, hml, hm⟩ := h
  have hgp := lt_of_blk hl
  have hl2 : (w.alloc (.map #[] 0)).heap[gp]? = _ := (Below.heap_alloc w _ gp hgp).trans hl
  have K : Kp (fun k => k = gp) w ((w.alloc (.map #[] 0)).setCell ⟨gp, j, none⟩ (.map (some w.heap.size))) := ((Kp.refl (fun k => k = gp) w).alloc (.map #[] 0)).set (p := ⟨gp, j, none⟩) (fun _ => rfl) hl2 (by decide) _
  have hq7 := Q.h4
  refine ⟨ms ++ [w.heap.size], ncol w.heap.size col (6 + j), ⟨hp.frame K (fun i hi hx => by subst hx; exact hc) (fun i hi => ncol_old hi), ⟨?_, (ncol_old hgp).trans hc⟩, by simp [hml], fun i m hi => ?_⟩, K⟩
  · refine (blk_set hl2 j _).trans ?_
    congr 2
    apply Array.ext'
    simp only [Array.toList_setIfInBounds]
    rw [List.set_append_right _ _ (by simp [hml]), List.map_append, show Q.p - j = (Q.p - (j + 1)) + 1 by omega, List.replicate_succ]
    simp [hml]
  · rcases Nat.lt_or_ge i ms.length with hlt | hge
    · rw [List.getElem?_append_left hlt] at hi
      obtain ⟨a, b⟩ := hm i m hi
      exact ⟨(ncol_old b.lt).trans a, b.kp K (fun e => by
        subst e
        obtain ⟨es, cl, hh⟩ := b.isMap
        rw [hl] at hh
        cases hh)⟩
    · rw [List.getElem?_append_right hge] at hi
      have hi0 : i - ms.length = 0 := by
        have := (List.getElem?_eq_some_iff.1 hi).1
        simpa using this
      rw [hi0] at hi
      have hm' : w.heap.size = m := by simpa using hi
      subst hm'
      have hij : i = j := by omega
      subst hij
      exact ⟨ncol_new (Nat.le_refl _), (MapF.made w).moved (Below.heap_setCell _ ⟨gp, i, none⟩ _ _ (by show w.heap.size ≠ gp; omega))⟩
theorem maps_end {w : World} {Q : Qm} {gq wb mb gp base : Nat} {Sm : Nat → Prop} {ms : List Nat} {col : Nat → Nat} (h : LMaps w Q gq wb mb gp Sm base Q.p ms col) :
    ∃ (F : Fix) (col' : Nat → Nat), F.base = base ∧ F.gq = gq ∧ F.wb = wb ∧ F.mb = mb ∧ F.gp = gp ∧ F.gf = w.heap.size ∧ LRep (w.alloc (.cells (madeCells #[.bool false] Q.p) 4)) Q F col' (fun k => k = wb) (.slice none 0 0) (.slice none 0 0) ⟨0, [], [], [], [], List.replicate Q.p false, List.replicate Q.p false, fun _ _ => False, fun _ => False, 0, 0⟩ := by
  have hb : Below w.heap.size w (w.alloc (.cells (madeCells #[.bool false] Q.p) 4)) := below_alloc (Below.refl _ _) _
  have K := Kp.of_below (fun _ => False) hb
  obtain ⟨⟨q1, q2⟩, ⟨w1, w2⟩, ⟨m1, m2⟩, lo, sz⟩ := h.pre.frame (col' := ncol w.heap.size col 5) K (fun _ _ hf => hf.elim) (fun i hi => ncol_old hi)
  obtain ⟨hl, hc⟩ := h.pl
  have hl' := K.blk hl (fun h => h)
  rw [Nat.sub_self, List.replicate_zero, List.append_nil] at hl'
  exact ⟨⟨base, gq, wb, mb, gp, w.heap.size, ms, Sm⟩, ncol w.heap.size col 5, rfl, rfl, rfl, rfl, rfl, rfl, fun _ => ⟨q1, q2⟩, fun _ => ⟨w1, fun k hk => by subst hk; exact w2⟩, fun _ => ⟨m1, m2⟩, fun _ => ⟨hl', (ncol_old (lt_of_blk hl)).trans hc⟩, h.ml, fun i m hi _ => by
    obtain ⟨a, b⟩ := h.maps i m hi
    exact ⟨(ncol_old b.lt).trans a, _, b.kp K (fun h => h), fun e he => ⟨fun h => h.elim, fun _ => rfl⟩⟩, fun _ => ⟨by rw [blk_new, made_said], ncol_new (Nat.le_refl _)⟩,
    fun _ => ⟨WayC.nil, fun k hk => by simp [Value.ownBlock] at hk⟩, fun p e v hx => by simp at hx, fun _ => ⟨q_of_own (own_nil _ _ _ _), fun k hk => by simp [Value.ownBlock] at hk⟩, rfl, fun i v hv => by simp at hv, lo, sz⟩

theorem li_start (Q : Qm) : LI Q ⟨0, [], [], [], [], List.replicate Q.p false, List.replicate Q.p false, fun _ _ => False, fun _ => False, 0, 0⟩ 0 :=
  ⟨rfl, ⟨fun j e he => by simp at he, fun n hn => absurd hn (Nat.not_lt_zero n)⟩, fun _ _ _ h => h, fun _ h => h.elim, fun _ _ h => h.elim, by simp, fun d hd => by simp at hd, by simp, rfl, by simp, by simp, by simp, by simp⟩
end Go.Proofs.Ytigcpknfcdcllaa
