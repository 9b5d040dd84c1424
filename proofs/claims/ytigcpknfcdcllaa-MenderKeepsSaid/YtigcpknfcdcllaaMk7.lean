/- The mender's Result; the law's test of it. -/
import Derived.Test.YtigcpknfcdcllaaMk6
namespace Go.Proofs.Ytigcpknfcdcllaa
open Go.RowKit Go.Proofs.YtigcpknfcdcllaaW.PrintWords Go.Proofs.YtigcpknfcdcllaaW.PrintLast Go.Proofs.YtigcpknfcdcllaaLb
set_option linter.unusedSimpArgs false
set_option linter.unusedVariables false

/-- Entries' cells, one behind the other. -/
def flat : List (Nat × Value) → List Value
  | [] => []
  | (e, v) :: r => .int .u64 e :: v :: flat r
theorem flat_length : ∀ l : List (Nat × Value), (flat l).length = l.length * 2
  | [] => rfl
  | (e, v) :: r => by simp only [flat, List.length_cons, flat_length r]; omega
theorem flat_snoc (e : Nat) (v : Value) : ∀ l : List (Nat × Value), flat (l ++ [(e, v)]) = flat l ++ [.int .u64 e, v]
  | [] => rfl
  | (a, b) :: r => by simp only [List.cons_append, flat, flat_snoc e v r]
theorem flat_get : ∀ (l : List (Nat × Value)) (i : Nat) (e : Nat) (v : Value), l[i]? = some (e, v) → (flat l)[i * 2]? = some (.int .u64 e) ∧ (flat l)[i * 2 + 1]? = some v
  | [], _, _, _, h => by simp at h
  | (a, b) :: r, 0, e, v, h => by
    have h' : (a, b) = (e, v) := by simpa using h
    injection h' with h1 h2
    subst h1; subst h2
    exact ⟨rfl, rfl⟩
  | (a, b) :: r, i + 1, e, v, h => by
    have h' : r[i]? = some (e, v) := by simpa using h
    obtain ⟨a1, a2⟩ := flat_get r i e v h'
    rw [show (i + 1) * 2 = i * 2 + 1 + 1 by omega]
    exact ⟨by simpa [flat] using a1, by simpa [flat] using a2⟩
/-- A row of entries of one's own is a list of entries. -/
theorem itc_of_q {w : World} {base : Nat} {T : Nat → List Int} {A : Option Addr} {c : Nat} {its : List (Nat × Value)} (h : QRow w base 49 2 (.slice A its.length c) its.length (flat its)) (hm : its.length ≤ 1000000) (hb : ∀ (i e : Nat) (v : Value), its[i]? = some (e, v) → Bs w v (T e) ∧ e < 18446744073709551616) : ItC w T A its :=
  ⟨hm, fun hn => by
    obtain ⟨g, o, c', he, _, _, hc⟩ := q_form h hn
    injection he with he _ _
    refine ⟨g, o, he, fun i e v hi => ?_⟩
    obtain ⟨a1, a2⟩ := flat_get its i e v hi
    exact ⟨hc _ _ a1, by have := hc _ _ a2; rwa [← Nat.add_assoc] at this⟩, hb⟩

/-- An entry behind others, in a row of one's own: ahead of the walk of 'append'. -/
theorem item_round {w1 : World} {base j c e : Nat} {A : Option Addr} {its : List (Nat × Value)} {v : Value} (hd : v.oneCell' = true) (h5 : QRow w1 base 49 2 (.slice A j c) j (flat its)) (hj : j ≤ 1000000) (hw : base ≤ w1.heap.size) :
    ∃ (A6 : Option Addr) (c6 : Nat) (w6 : World), (Builtin.append_ #[52, 52] 52 #[.slice A j c, .slice (some ⟨w1.heap.size, 0, none⟩) 1 1]).run Try.prog (w1.alloc (.cells #[.int .u64 e, v] 49)) = .ok (.slice A6 (j + 1) c6) w6 ∧
      QRow w6 base 49 2 (.slice A6 (j + 1) c6) (j + 1) (flat (its ++ [(e, v)])) ∧ Kp (fun i => base ≤ i) w1 w6 := by
  obtain ⟨i0, hi, hz0, hz1, hz2⟩ := info_parts Try.info49
  have hB : Below w1.heap.size w1 (w1.alloc (.cells #[.int .u64 e, v] 49)) := below_alloc (Below.refl _ _) _
  have hq6 : QRow (w1.alloc (.cells #[.int .u64 e, v] 49)) base 49 2 (.slice A j c) j (flat its) := q_move h5 (fun k hk => hB.block k (q_lt h5 k hk))
  obtain ⟨v6, w6, hrun, hq7, hg6, hat6⟩ := q_append (P := Try.prog) (w1.alloc (.cells #[.int .u64 e, v] 49)) base 52 52 49 i0 _ 2 32 Try.underlying52 hi hz0 hz1 hz2 rfl (by decide) (.slice A j c) j (flat its) hq6 ⟨w1.heap.size, 0, none⟩ 1 1 [.int .u64 e, v] rfl
    (blk_news (blk_new w1 (.cells #[.int .u64 e, v] 49 (0, 0)))) (by intro u hu; simp only [List.mem_cons, List.not_mem_nil, or_false] at hu; rcases hu with rfl | rfl <;> first | exact hd | rfl) (by decide) (by unfold maxLen; omega) (by omega) (Nat.le_trans hw hB.size)
  obtain ⟨A6, c6, rfl, _⟩ := q_slice hq7
  refine ⟨A6, c6, w6, hrun, by rw [flat_snoc]; exact hq7, (Kp.of_below (fun i => base ≤ i) hB).grown hg6 (fun k hk _ => (q_typed h5 k hk).1) (fun k hk cs fr hc => ?_)⟩
  obtain ⟨_, cells', hc'⟩ := q_typed hq6 k hk
  rw [hc] at hc'
  injection hc' with hc'
  injection hc' with _ hc'
  cases hc'
theorem Kp.base_below {w w1 w2 : World} (h : Below w.heap.size w w1) (k : Kp (fun i => w.heap.size ≤ i) w1 w2) : Below w.heap.size w w2 :=
  h.trans ⟨k.os, k.tape, k.output, k.size, fun i hi => k.block i (Nat.lt_of_lt_of_le hi h.size) (by omega)⟩

set_option maxRecDepth 100000 in
set_option maxHeartbeats 4000000 in
theorem mender_result (Q : Qm) (T : Nat → List Int) (hT : ∀ e, (T e).length ≤ 256) (b : Nat) (S : Nat → Prop) (hs : List Bool) (n k0 : Nat) (has : Nat → Prop) (w : World) (h : MRep w b S Q T hs 0 n has) (hcov : covB Q hs = true) (hk : ∀ i, i < k0 → has i) (hk0 : ¬ has k0) (hkb : k0 ≤ 1000) :
    Calls Try.prog 20 #[.pointer (some ⟨b, 0, none⟩)] w fun e w' => ∃ (A : Option Addr) (c : Nat) (its : List (Nat × Value)), e = .returned (.tuple #[.slice A k0 c, .int .i64 0]) ∧ its.length = k0 ∧ (∀ (i e : Nat) (v : Value), its[i]? = some (e, v) → e = i) ∧ ItC w' T A its ∧ Below w.heap.size w w' := by
  have HR := Lib.hid h
  have HT := Lib.hid hT
  obtain ⟨⟨hb, mb, f, h1, h2, h3, h4, h5, h6⟩, h7, h8, h9⟩ := id h
  have c4 : w.cell? ⟨b, 4, none⟩ = some (.int .u64 0) := (blk_cell h1 4).trans rfl
  have c5 : w.cell? ⟨b, 5, none⟩ = some (.map (some mb)) := (blk_cell h1 5).trans rfl
  have H5 := Lib.hid h5
  have H6 := Lib.hid h6
  have HK := Lib.hid hk
  have HK0 := Lib.hid hk0
  clear h hT h1 h2 h3 h4 h5 h6 h7 h8 h9 hk hk0
  go_enter Try.func20, Try.ntmps20
  go_wp2_with (go_at_call 15; refine (mender_ready Q T b S hs 0 n has _ HR.out).mono ?_; rintro e1 w1 ⟨rfl, hb1⟩)
  have HB1 := Aside0.mk hb1
  clear hb1 HR hcov
  go_loopw [4, 5] (fun v4 v5 wr => ∃ (j : Nat) (A : Option Addr) (c : Nat) (its : List (Nat × Value)), v4 = .slice A j c ∧ v5 = .int .u64 j ∧ j ≤ k0 ∧ Aside0 (QRow wr w.heap.size 49 2 (.slice A j c) j (flat its) ∧ its.length = j ∧ (∀ (i e : Nat) (v : Value), its[i]? = some (e, v) → e = i ∧ Bs wr v (T e)) ∧ Below w.heap.size w wr)) (fun _ v _ => k0 - (intOf v).toNat)
  case atStart => exact ⟨0, none, 0, [], rfl, rfl, Nat.zero_le _, ⟨q_of_own (own_nil _ _ _ _), rfl, fun i e v hi => by simp at hi, HB1.out⟩⟩
  case round =>
    obtain ⟨j, A, c, its, rfl, rfl, hj, HI⟩ := hrel
    obtain ⟨i1, i2, i3, i4⟩ := HI.out
    have H1 := Aside0.mk i1
    have H2 := Aside0.mk i2
    have H3 := Aside0.mk i3
    have HW := Aside0.mk i4
    have c5r := (i4.cell (World.block_lt_of_cell? _ _ c5)).trans c5
    have c4r := (i4.cell (World.block_lt_of_cell? _ _ c4)).trans c4
    clear HI i1 i2 i3 i4
    by_cases hlt : j < k0
    · obtain ⟨Ao, co, hbo, hlk0⟩ := (H6.out.kp (Kp.of_below (fun _ => False) HW.out)).look (H5.out.moved (HW.out.block mb H5.out.lt)) j (by omega) (HK.out j hlt)
      have hlk := hlk0 wr rfl
      have HBO := Aside0.mk hbo
      have hTj := HT.out j
      clear hlk0 hbo
      go_wp2_with (first
        | (go_at_call 72; refine (clone_bytes _ (T j) _ HBO.out (by omega)).mono ?_; rintro e1 w2 ⟨dA', dc', rfl, hbs, hb2⟩; obtain ⟨A6, c6, w6, hrun, hq6, hk6⟩ := item_round (e := j) (v := .slice dA' (T j).length dc') rfl (q_move H1.out (fun k hk => hb2.block k (q_lt H1.out k hk))) (by omega) (Nat.le_trans HW.out.size hb2.size); have HQ6 := Aside0.mk hq6; have HK6 := Aside0.mk hk6; have HBS := Aside0.mk hbs; have HB2 := Aside0.mk hb2; clear hq6 hk6 hbs hb2)
        | (at_builtin; refine app_event rfl (.tmp 28) (.tmp 33) 52 rfl rfl rfl hrun ?_))
      go_roundw
      case rel => exact ⟨j + 1, A6, c6, its ++ [(j, .slice dA' (T j).length dc')], rfl, by go_num, by omega, ⟨HQ6.out, by rw [List.length_append, H2.out]; rfl, fun i e v hi => by
        rcases Nat.lt_or_ge i its.length with hl | hl
        · rw [List.getElem?_append_left hl] at hi
          obtain ⟨a1, a2⟩ := H3.out i e v hi
          exact ⟨a1, (a2.kp (Kp.of_below (fun _ => False) HB2.out)).kp HK6.out⟩
        · rw [List.getElem?_append_right hl] at hi
          have hi0 : i - its.length = 0 := by
            have := (List.getElem?_eq_some_iff.1 hi).1
            simpa using this
          rw [hi0] at hi
          have hi' : ((j, Value.slice dA' (T j).length dc') : Nat × Value) = (e, v) := by simpa using hi
          injection hi' with a1 a2
          subst a1; subst a2
          exact ⟨by have := H2.out; omega, HBS.out.kp HK6.out⟩, Kp.base_below (below_step HW.out HB2.out) HK6.out⟩⟩
      case measure => simp [intOf]; omega
    · have hjk : j = k0 := by omega
      have HJK := Lib.hid hjk
      have hn : ¬ has j := by rw [hjk]; exact HK0.out
      have hlk := (H6.out.kp (Kp.of_below (fun _ => False) HW.out)).look_none (H5.out.moved (HW.out.block mb H5.out.lt)) j (by omega) hn wr rfl
      clear hjk hn
      go_wp2
      go_ret2
      refine ⟨A, c, its, by have h9 := HJK.out; subst h9; rfl, H2.out.trans HJK.out, fun i e v hi => (H3.out i e v hi).1, itc_of_q (base := w.heap.size) (c := c) ?_ (by have := H2.out; omega) (fun i e v hi => ⟨(H3.out i e v hi).2, ?_⟩), HW.out⟩
      · rw [H2.out]; exact H1.out
      · have h1 := (H3.out i e v hi).1
        have h2 := (List.getElem?_eq_some_iff.1 hi).1
        have h3 := H2.out
        omega

end Go.Proofs.Ytigcpknfcdcllaa
