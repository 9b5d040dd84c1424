/- What the law's walk holds in memory. -/
import Derived.Test.YtigcpknfcdcllaaLw
namespace Go.Proofs.Ytigcpknfcdcllaa
open Go.RowKit Go.Proofs.YtigcpknfcdcllaaW.PrintWords Go.Proofs.YtigcpknfcdcllaaW.PrintLast Go.Proofs.YtigcpknfcdcllaaLb
set_option linter.unusedSimpArgs false
set_option linter.unusedVariables false

/-- The bytes of entry e. -/
def Tw (ws : List (List Int)) (e : Nat) : List Int := ws.getD e []
theorem Tw_snoc (ws : List (List Int)) (d : List Int) (e : Nat) (h : e < ws.length) : Tw (ws ++ [d]) e = Tw ws e := by
  simp [Tw, List.getD, List.getElem?_append_left h]
theorem Tw_last (ws : List (List Int)) (d : List Int) : Tw (ws ++ [d]) ws.length = d := by simp [Tw, List.getD]
theorem Told.turn {w : World} {T T' : Nat → List Int} {f : Lit → Option Value} {has : Nat → Prop} (h : Told w T f has) (ht : ∀ e, has e → T e = T' e) : Told w T' f has :=
  fun i hi => ⟨fun hh => by obtain ⟨v, h1, h2⟩ := (h i hi).1 hh; exact ⟨v, h1, ht i hh ▸ h2⟩, (h i hi).2⟩
theorem MRep.turn {w : World} {b : Nat} {S : Nat → Prop} {Q : Qm} {T T' : Nat → List Int} {hs : List Bool} {su n : Nat} {has : Nat → Prop} (h : MRep w b S Q T hs su n has) (ht : ∀ e, has e → T e = T' e) : MRep w b S Q T' hs su n has := by
  obtain ⟨⟨hb, mb, f, h1, h2, h3, h4, h5, h6⟩, h7, h8, h9⟩ := h
  exact ⟨⟨hb, mb, f, h1, h2, h3, h4, h5, h6.turn ht⟩, h7, h8, h9⟩

/-- Where things lie. -/
structure Fix where
  base : Nat
  gq : Nat
  wb : Nat
  mb : Nat
  gp : Nat
  gf : Nat
  ms : List Nat
  Sm : Nat → Prop
/-- What is so, so far. -/
structure LS where
  sure : Nat
  es : List Ent
  ws : List (List Int)
  us : List Value
  way : List (Nat × Nat × Value)
  fe : List Bool
  hs : List Bool
  has : Nat → Nat → Prop
  hm : Nat → Prop
  np : Nat
  nm : Nat

/-- All of it lies in memory, but for what is of colour c. -/
structure LOpen (c : Nat) (w : World) (Q : Qm) (F : Fix) (col : Nat → Nat) (Sw : Nat → Prop) (wv uv : Value) (σ : LS) : Prop where
  q : c ≠ 3 → w.heap[F.gq]? = some (.cells #[.int .i64 Q.p, .int .i64 Q.q, .int .i64 Q.a] 26 (0, 0)) ∧ col F.gq = 3
  wr : c ≠ 1 → WRep w F.wb Sw Q σ.sure σ.es ∧ ∀ k, Sw k → col k = 1
  mr : c ≠ 2 → MRep w F.mb F.Sm Q (Tw σ.ws) σ.hs 0 σ.nm σ.hm ∧ ∀ k, F.Sm k → col k = 2
  pl : c ≠ 4 → w.heap[F.gp]? = some (.cells (F.ms.map (fun m => Value.map (some m))).toArray 36 (0, 0)) ∧ col F.gp = 4
  ml : F.ms.length = Q.p
  maps : ∀ i m, F.ms[i]? = some m → c ≠ 6 + i → col m = 6 + i ∧ ∃ f, MapF Try.prog 43 w m σ.np f ∧ Told w (Tw σ.ws) f (σ.has i)
  fe : c ≠ 5 → w.heap[F.gf]? = some (.cells (σ.fe.map Value.bool).toArray 4 (0, 0)) ∧ col F.gf = 5
  way : c ≠ 40 → WayC w F.base wv σ.way.length (flat3 σ.way) ∧ ∀ k, wv.ownBlock = some k → col k = 40
  yb : ∀ p e v, (p, e, v) ∈ σ.way → p < Q.p ∧ e < σ.ws.length ∧ p ∈ setN Q e ∧ Bs w v (Tw σ.ws e)
  ur : c ≠ 41 → QRow w F.base 42 1 uv σ.us.length σ.us ∧ ∀ k, uv.ownBlock = some k → col k = 41
  ul : σ.us.length = σ.ws.length
  ub : ∀ i v, σ.us[i]? = some v → Bs w v (Tw σ.ws i)
  lo : ∀ k, k < F.base → col k = 0
  sz : F.base ≤ w.heap.size
abbrev LRep := LOpen 0

theorem LOpen.frame {w w' : World} {Q : Qm} {F : Fix} {col col' : Nat → Nat} {Sw X : Nat → Prop} {wv uv : Value} {σ : LS} (h : LRep w Q F col Sw wv uv σ) (k : Kp X w w') (c : Nat) (hX : ∀ i, i < w.heap.size → X i → col i = c) (hcol : ∀ i, i < w.heap.size → col' i = col i) :
    LOpen c w' Q F col' Sw wv uv σ := by
  have nx : ∀ i d, i < w.heap.size → col i = d → c ≠ d → ¬ X i := fun i d hi hd hc hx => hc ((hX i hi hx).symm.trans hd)
  refine ⟨fun hc => ?_, fun hc => ?_, fun hc => ?_, fun hc => ?_, h.ml, fun i m hi hc => ?_, fun hc => ?_, fun hc => ?_, fun p e v hx => ?_, fun hc => ?_, h.ul, fun i v hv => (h.ub i v hv).kp k, fun i hi => ?_, Nat.le_trans h.sz k.size⟩
  · obtain ⟨a, b⟩ := h.q (by decide)
    exact ⟨k.blk a (nx _ _ (lt_of_blk a) b hc), (hcol _ (lt_of_blk a)).trans b⟩
  · obtain ⟨a, b⟩ := h.wr (by decide)
    exact ⟨a.kp k (fun i hi => nx i _ (a.lt i hi) (b i hi) hc), fun i hi => (hcol _ (a.lt i hi)).trans (b i hi)⟩
  · obtain ⟨a, b⟩ := h.mr (by decide)
    exact ⟨a.kp k (fun i hi => nx i _ (a.lt i hi) (b i hi) hc), fun i hi => (hcol _ (a.lt i hi)).trans (b i hi)⟩
  · obtain ⟨a, b⟩ := h.pl (by decide)
    exact ⟨k.blk a (nx _ _ (lt_of_blk a) b hc), (hcol _ (lt_of_blk a)).trans b⟩
  · obtain ⟨a, f, b1, b2⟩ := h.maps i m hi (by omega)
    exact ⟨(hcol _ b1.lt).trans a, f, b1.kp k (nx _ _ b1.lt a hc), b2.kp k⟩
  · obtain ⟨a, b⟩ := h.fe (by decide)
    exact ⟨k.blk a (nx _ _ (lt_of_blk a) b hc), (hcol _ (lt_of_blk a)).trans b⟩
  · obtain ⟨a, b⟩ := h.way (by decide)
    exact ⟨a.move (fun j hj => k.block j (a.lt j hj) (nx _ _ (a.lt j hj) (b j hj) hc)), fun j hj => (hcol _ (a.lt j hj)).trans (b j hj)⟩
  · obtain ⟨a1, a2, a3, a4⟩ := h.yb p e v hx
    exact ⟨a1, a2, a3, a4.kp k⟩
  · obtain ⟨a, b⟩ := h.ur (by decide)
    exact ⟨q_move a (fun j hj => k.block j (q_lt a j hj) (nx _ _ (q_lt a j hj) (b j hj) hc)), fun j hj => (hcol _ (q_lt a j hj)).trans (b j hj)⟩
  · exact (hcol i (Nat.lt_of_lt_of_le hi h.sz)).trans (h.lo i hi)
/-- New blocks are of colour c. -/
def ncol (n : Nat) (col : Nat → Nat) (c : Nat) : Nat → Nat := fun k => if k < n then col k else c
theorem ncol_old {n : Nat} {col : Nat → Nat} {c : Nat} {i : Nat} (h : i < n) : ncol n col c i = col i := if_pos h
theorem ncol_new {n : Nat} {col : Nat → Nat} {c : Nat} {i : Nat} (h : n ≤ i) : ncol n col c i = c := if_neg (by omega)
theorem LOpen.below {w w' : World} {Q : Qm} {F : Fix} {col : Nat → Nat} {Sw : Nat → Prop} {wv uv : Value} {σ : LS} (h : LRep w Q F col Sw wv uv σ) (k : Below w.heap.size w w') : LRep w' Q F col Sw wv uv σ :=
  h.frame (Kp.of_below (fun _ => False) k) 0 (fun _ _ hf => hf.elim) (fun _ _ => rfl)

variable {w : World} {Q : Qm} {F : Fix} {col : Nat → Nat} {Sw : Nat → Prop} {wv uv : Value} {σ : LS}
theorem LOpen.small {c : Nat} (h : LOpen c w Q F col Sw wv uv σ) {i m : Nat} (hi : F.ms[i]? = some m) : i < 7 := by
  have h1 := (List.getElem?_eq_some_iff.1 hi).1
  have h2 := h.ml
  have h3 := Q.h4
  omega
theorem LOpen.close1 (h : LOpen 1 w Q F col Sw wv uv σ) {Sw' : Nat → Prop} {sure : Nat} {es : List Ent} (hw : WRep w F.wb Sw' Q sure es) (hc : ∀ k, Sw' k → col k = 1) : LRep w Q F col Sw' wv uv { σ with sure := sure, es := es } :=
  ⟨fun _ => h.q (by decide), fun _ => ⟨hw, hc⟩, fun _ => h.mr (by decide), fun _ => h.pl (by decide), h.ml, fun i m hi _ => h.maps i m hi (by omega), fun _ => h.fe (by decide), fun _ => h.way (by decide), h.yb, fun _ => h.ur (by decide), h.ul, h.ub, h.lo, h.sz⟩
theorem LOpen.close2 (h : LOpen 2 w Q F col Sw wv uv σ) {nm : Nat} {hm : Nat → Prop} {hs : List Bool} (hw : MRep w F.mb F.Sm Q (Tw σ.ws) hs 0 nm hm) (hc : ∀ k, F.Sm k → col k = 2) : LRep w Q F col Sw wv uv { σ with nm := nm, hm := hm, hs := hs } :=
  ⟨fun _ => h.q (by decide), fun _ => h.wr (by decide), fun _ => ⟨hw, hc⟩, fun _ => h.pl (by decide), h.ml, fun i m hi _ => h.maps i m hi (by omega), fun _ => h.fe (by decide), fun _ => h.way (by decide), h.yb, fun _ => h.ur (by decide), h.ul, h.ub, h.lo, h.sz⟩
theorem LOpen.close5 (h : LOpen 5 w Q F col Sw wv uv σ) {fe : List Bool} (hw : w.heap[F.gf]? = some (.cells (fe.map Value.bool).toArray 4 (0, 0))) (hc : col F.gf = 5) : LRep w Q F col Sw wv uv { σ with fe := fe } :=
  ⟨fun _ => h.q (by decide), fun _ => h.wr (by decide), fun _ => h.mr (by decide), fun _ => h.pl (by decide), h.ml, fun i m hi _ => h.maps i m hi (by omega), fun _ => ⟨hw, hc⟩, fun _ => h.way (by decide), h.yb, fun _ => h.ur (by decide), h.ul, h.ub, h.lo, h.sz⟩
theorem LOpen.close6 {j : Nat} (hj : j < 7) (h : LOpen (6 + j) w Q F col Sw wv uv σ) {m : Nat} (hm : F.ms[j]? = some m) {f : Lit → Option Value} {has : Nat → Prop} (hc : col m = 6 + j) (hf : MapF Try.prog 43 w m (σ.np + 1) f) (ht : Told w (Tw σ.ws) f has) : LRep w Q F col Sw wv uv { σ with np := σ.np + 1, has := fun i => if i = j then has else σ.has i } :=
  ⟨fun _ => h.q (by omega), fun _ => h.wr (by omega), fun _ => h.mr (by omega), fun _ => h.pl (by omega), h.ml, fun i m' hi _ => by
    by_cases hij : i = j
    · subst hij
      rw [hm] at hi
      injection hi with hi
      subst hi
      exact ⟨hc, f, hf, by simpa using ht⟩
    · obtain ⟨a, g, b1, b2⟩ := h.maps i m' hi (by omega)
      exact ⟨a, g, b1.mono (Nat.le_succ _), by simpa [hij] using b2⟩, fun _ => h.fe (by omega), fun _ => h.way (by omega), h.yb, fun _ => h.ur (by omega), h.ul, h.ub, h.lo, h.sz⟩
theorem LOpen.close40 (h : LOpen 40 w Q F col Sw wv uv σ) {wv' : Value} {way : List (Nat × Nat × Value)} (hw : WayC w F.base wv' way.length (flat3 way)) (hc : ∀ k, wv'.ownBlock = some k → col k = 40)
    (hb : ∀ p e v, (p, e, v) ∈ way → p < Q.p ∧ e < σ.ws.length ∧ p ∈ setN Q e ∧ Bs w v (Tw σ.ws e)) : LRep w Q F col Sw wv' uv { σ with way := way } :=
  ⟨fun _ => h.q (by decide), fun _ => h.wr (by decide), fun _ => h.mr (by decide), fun _ => h.pl (by decide), h.ml, fun i m hi _ => h.maps i m hi (by have := h.small hi; omega), fun _ => h.fe (by decide), fun _ => ⟨hw, hc⟩, hb, fun _ => h.ur (by decide), h.ul, h.ub, h.lo, h.sz⟩
theorem LOpen.close41 (h : LOpen 41 w Q F col Sw wv uv σ) {uv' v : Value} {d : List Int} (hv : Bs w v d) (hw : QRow w F.base 42 1 uv' (σ.us.length + 1) (σ.us ++ [v])) (hc : ∀ k, uv'.ownBlock = some k → col k = 41)
    (hh : ∀ i e, σ.has i e → e < σ.ws.length) (hm : ∀ e, σ.hm e → e < σ.ws.length) : LRep w Q F col Sw wv uv' { σ with ws := σ.ws ++ [d], us := σ.us ++ [v] } :=
  ⟨fun _ => h.q (by decide), fun _ => h.wr (by decide), fun _ => by
    obtain ⟨a, b⟩ := h.mr (by decide)
    exact ⟨a.turn fun e he => (Tw_snoc _ _ e (hm e he)).symm, b⟩, fun _ => h.pl (by decide), h.ml, fun i m hi _ => by
    obtain ⟨a, f, b1, b2⟩ := h.maps i m hi (by have := h.small hi; omega)
    exact ⟨a, f, b1, b2.turn fun e he => (Tw_snoc _ _ e (hh i e he)).symm⟩, fun _ => h.fe (by decide), fun _ => h.way (by decide), fun p e v hx => by
    obtain ⟨a1, a2, a3, a4⟩ := h.yb p e v hx
    exact ⟨a1, by simp only [List.length_append]; omega, a3, by rw [Tw_snoc _ _ _ a2]; exact a4⟩, fun _ => ⟨by simpa using hw, hc⟩, by simp [h.ul], fun i u hu => by
    rcases Nat.lt_or_ge i σ.us.length with hl | hl
    · rw [List.getElem?_append_left hl] at hu
      rw [Tw_snoc _ _ i (by have := h.ul; omega)]
      exact h.ub i u hu
    · rw [List.getElem?_append_right hl] at hu
      have hi0 : i - σ.us.length = 0 := by
        have := (List.getElem?_eq_some_iff.1 hu).1
        simpa using this
      rw [hi0] at hu
      have hu' : v = u := by simpa using hu
      subst hu'
      have hi : i = σ.ws.length := by have := h.ul; omega
      rw [hi, Tw_last]
      exact hv, h.lo, h.sz⟩
end Go.Proofs.Ytigcpknfcdcllaa
