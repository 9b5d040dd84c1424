/- The mender's Hear. -/
import Derived.Test.YtigcpknfcdcllaaMk5
namespace Go.Proofs.Ytigcpknfcdcllaa
open Go.RowKit Go.Proofs.YtigcpknfcdcllaaW.PrintWords Go.Proofs.YtigcpknfcdcllaaW.PrintLast Go.Proofs.YtigcpknfcdcllaaLb
set_option linter.unusedSimpArgs false
set_option linter.unusedVariables false

theorem Try.zero42 (w : World) : (zeroValue 42).run Try.prog w = .ok (.slice none 0 0) w := by kernel_rfl
theorem key_u64 (e : Nat) (h : e < 18446744073709551616) : keyOf Try.prog 43 (.int .u64 e) = some (.int .u64 e) := Maps.keyOf_int_mk Try.underlying43 (WalkArith.wf_u64 (by omega))
theorem Told.look {w : World} {T : Nat → List Int} {f : Lit → Option Value} {has : Nat → Prop} {mb n : Nat} (h : Told w T f has) (hm : MapF Try.prog 43 w mb n f) (e : Nat) (he : e < 18446744073709551616) (hh : has e) :
    ∃ A c, Bs w (.slice A (T e).length c) (T e) ∧ ∀ w' : World, w'.heap[mb]? = w.heap[mb]? → (Instr.lookup 36 (.map (some mb)) (.int .u64 e) true).run Try.prog w' = .ok (.tuple #[.slice A (T e).length c, .bool true]) w' := by
  obtain ⟨v, h1, h2⟩ := (h e he).1 hh
  obtain ⟨A, c, rfl, h3⟩ := id h2
  exact ⟨A, c, h2, fun w' hw => (hm.moved hw).look (Maps.int_keyed Try.underlying43) Try.underlying36 (Try.zero42 w') (key_u64 e he) h1⟩
theorem Told.look_none {w : World} {T : Nat → List Int} {f : Lit → Option Value} {has : Nat → Prop} {mb n : Nat} (h : Told w T f has) (hm : MapF Try.prog 43 w mb n f) (e : Nat) (he : e < 18446744073709551616) (hh : ¬ has e) :
    ∀ w' : World, w'.heap[mb]? = w.heap[mb]? → (Instr.lookup 36 (.map (some mb)) (.int .u64 e) true).run Try.prog w' = .ok (.tuple #[.slice none 0 0, .bool false]) w' :=
  fun w' hw => (hm.moved hw).look_none (Maps.int_keyed Try.underlying43) Try.underlying36 (Try.zero42 w') (key_u64 e he) ((h e he).2 hh)
theorem Told.put {w w' : World} {S : Nat → Prop} {T : Nat → List Int} {f : Lit → Option Value} {has : Nat → Prop} (h : Told w T f has) (k : Kp S w w') {e : Nat} {v : Value} (hv : Bs w' v (T e)) (he : e < 18446744073709551616) : Told w' T (upd f (.int .u64 e) v) (fun i => has i ∨ i = e) := by
  intro i hi
  by_cases hie : i = e
  · subst hie
    exact ⟨fun _ => ⟨v, upd_same _ _ _, hv⟩, fun hn => absurd (.inr rfl) hn⟩
  · have hne : (Lit.int .u64 (i : Int)) ≠ .int .u64 (e : Int) := fun hh => by
      injection hh with _ hh
      exact hie (by omega)
    rw [upd_other _ _ hne]
    refine ⟨fun hh => ?_, fun hn => (h i hi).2 (fun h1 => hn (.inl h1))⟩
    rcases hh with hh | hh
    · obtain ⟨v', a1, a2⟩ := (h i hi).1 hh
      exact ⟨v', a1, a2.kp k⟩
    · exact absurd hh hie
theorem Told.ext {w : World} {T : Nat → List Int} {f : Lit → Option Value} {has has' : Nat → Prop} (h : Told w T f has) (hh : ∀ i, has i ↔ has' i) : Told w T f has' :=
  fun i hi => ⟨fun h1 => (h i hi).1 ((hh i).2 h1), fun h1 => (h i hi).2 (fun h2 => h1 ((hh i).1 h2))⟩

/-- Those of the first j of a list, too. -/
def hasTo (has : Nat → Prop) (its : List (Nat × Value)) (j : Nat) : Nat → Prop := fun k => has k ∨ ∃ i v, i < j ∧ its[i]? = some (k, v)

theorem mrep_put {w W w2 : World} {b mb hb : Nat} {S : Nat → Prop} {Q : Qm} {T : Nat → List Int} {hs : List Bool} {su n : Nat} {has : Nat → Prop} {f : Lit → Option Value} {e : Nat} {v : Value} (h : MRep w b S Q T hs su n has)
    (h1 : w.heap[b]? = some (.cells #[.int .i64 Q.p, .int .i64 Q.q, .int .i64 Q.a, .slice (some ⟨hb, 0, none⟩) Q.p Q.p, .int .u64 su, .map (some mb)] 156 (0, 0))) (h2 : w.heap[hb]? = some (.cells (hs.map Value.bool).toArray 4 (0, 0))) (h3 : S hb) (h4 : S mb) (h6 : Told w T f has)
    (hW : Below w.heap.size w W) (hm : MapF Try.prog 43 w2 mb (n + 1) (upd f (.int .u64 e) v)) (hg : W.grownBy w2 (some mb)) (hmw : ∃ es cl, w.heap[mb]? = some (.map es cl)) (hv : Bs W v (T e)) (he : e < 18446744073709551616) :
    MRep w2 b S Q T hs su (n + 1) (fun i => has i ∨ i = e) ∧ Kp S w w2 := by
  obtain ⟨es, cl, hmw⟩ := hmw
  have nb : ∀ k cs t, w.heap[k]? = some (Obj.cells cs t (0, 0)) → k ≠ mb := fun k cs t hk e1 => by
    subst e1
    rw [hmw] at hk
    cases hk
  have Kg : Kp (fun k => k = mb) W w2 := (Kp.refl _ W).grown hg (fun k hk _ => by injection hk with hk; exact hk.symm) (fun k hk cs fr hc => by
    injection hk with hk
    subst hk
    rw [hW.block _ (lt_of_blk hmw), hmw] at hc
    cases hc)
  have K : Kp (fun k => k = mb) w w2 := (Kp.of_below (fun k => k = mb) hW).trans Kg
  have hmS : ∀ k, k < w.heap.size → k = mb → S k := fun k _ hk => hk ▸ h4
  exact ⟨⟨⟨hb, mb, _, K.blk h1 (nb _ _ _ h1), K.blk h2 (nb _ _ _ h2), h3, h4, hm, h6.put K (hv.kp Kg) he⟩, h.sb, h.hl, fun k hk => Nat.lt_of_lt_of_le (h.lt k hk) K.size⟩, K.mono hmS⟩

theorem MRep.ext {w : World} {b : Nat} {S : Nat → Prop} {Q : Qm} {T : Nat → List Int} {hs : List Bool} {su n : Nat} {has has' : Nat → Prop} (h : MRep w b S Q T hs su n has) (hh : ∀ i, has i ↔ has' i) : MRep w b S Q T hs su n has' := by
  obtain ⟨⟨hb, mb, f, h1, h2, h3, h4, h5, h6⟩, h7, h8, h9⟩ := h
  exact ⟨⟨hb, mb, f, h1, h2, h3, h4, h5, h6.ext hh⟩, h7, h8, h9⟩
theorem hasTo_zero (has : Nat → Prop) (its : List (Nat × Value)) (i : Nat) : has i ↔ hasTo has its 0 i := ⟨fun h => .inl h, fun h => h.elim id fun ⟨_, _, hlt, _⟩ => absurd hlt (by omega)⟩
theorem hasTo_succ (has : Nat → Prop) (its : List (Nat × Value)) (j : Nat) {e : Nat} {v : Value} (hj : its[j]? = some (e, v)) (i : Nat) : (hasTo has its j i ∨ i = e) ↔ hasTo has its (j + 1) i := by
  constructor
  · rintro ((h | ⟨i', v', hlt, hi⟩) | rfl)
    · exact .inl h
    · exact .inr ⟨i', v', by omega, hi⟩
    · exact .inr ⟨j, v, by omega, hj⟩
  · rintro (h | ⟨i', v', hlt, hi⟩)
    · exact .inl (.inl h)
    · rcases Nat.lt_or_ge i' j with hl | hl
      · exact .inl (.inr ⟨i', v', hl, hi⟩)
      · obtain rfl : i' = j := by omega
        rw [hj] at hi
        injection hi with hi
        injection hi with hi _
        exact .inr hi.symm

theorem mrep_heard {w : World} {b mb hb place : Nat} {S : Nat → Prop} {Q : Qm} {T : Nat → List Int} {hs : List Bool} {n : Nat} {has : Nat → Prop} {f : Lit → Option Value} (h : MRep w b S Q T hs 0 n has)
    (h1 : w.heap[b]? = some (.cells #[.int .i64 Q.p, .int .i64 Q.q, .int .i64 Q.a, .slice (some ⟨hb, 0, none⟩) Q.p Q.p, .int .u64 0, .map (some mb)] 156 (0, 0))) (h2 : w.heap[hb]? = some (.cells (hs.map Value.bool).toArray 4 (0, 0))) (h3 : S hb) (h4 : S mb) (h5 : MapF Try.prog 43 w mb n f) (h6 : Told w T f has) :
    MRep ((w.setCell ⟨hb, place, none⟩ (.bool true)).setCell ⟨b, 4, none⟩ (.int .u64 0)) b S Q T (hs.set place true) 0 n has ∧ Kp S w ((w.setCell ⟨hb, place, none⟩ (.bool true)).setCell ⟨b, 4, none⟩ (.int .u64 0)) := by
  have nhb : b ≠ hb := fun e => by
    rw [← e, h1] at h2
    injection h2 with h2
    injection h2 with _ h2
    cases h2
  obtain ⟨es, cl, hmw⟩ := h5.isMap
  have nb : ∀ k cs t, w.heap[k]? = some (Obj.cells cs t (0, 0)) → k ≠ mb := fun k cs t hk e1 => by
    subst e1
    rw [hmw] at hk
    cases hk
  have K1 : Kp S w (w.setCell ⟨hb, place, none⟩ (.bool true)) := (Kp.refl S w).set (p := ⟨hb, place, none⟩) (fun _ => h3) h2 (by decide) _
  have hb1 := (Below.heap_setCell w ⟨hb, place, none⟩ (.bool true) b nhb).trans h1
  have K2 : Kp S w ((w.setCell ⟨hb, place, none⟩ (.bool true)).setCell ⟨b, 4, none⟩ (.int .u64 0)) := K1.set (p := ⟨b, 4, none⟩) (fun _ => h.sb) hb1 (by decide) _
  have hh1 := blk_set h2 place (.bool true)
  refine ⟨⟨⟨hb, mb, f, blk_set hb1 4 _, ?_, h3, h4, h5.moved ?_, h6.kp K2⟩, h.sb, by simp [h.hl], fun k hk => Nat.lt_of_lt_of_le (h.lt k hk) K2.size⟩, K2⟩
  · refine (Below.heap_setCell _ ⟨b, 4, none⟩ _ hb (Ne.symm nhb)).trans (hh1.trans ?_)
    congr 2
    simp [List.map_set]
  · exact (Below.heap_setCell _ ⟨b, 4, none⟩ _ mb (fun e => nb _ _ _ h1 e.symm)).trans (Below.heap_setCell w ⟨hb, place, none⟩ _ mb (fun e => nb _ _ _ h2 e.symm))

theorem contains_take (T : Nat → List Int) (A : Option Addr) (c j : Nat) (its : List (Nat × Value)) (ex : Nat) (vx : Value) (gx : Nat) (w : World) (hI : ItC w T A its) (hj : j ≤ its.length) (hvx : Bs w vx (T ex)) (h0 : w.cell? ⟨gx, 0, none⟩ = some (.int .u64 ex)) (h1 : w.cell? ⟨gx, 1, none⟩ = some vx) :
    Calls Try.prog 79 #[.slice A j c, .func (.func 77) #[] #[.pointer (some ⟨gx, 0, none⟩)]] w fun e w' => e = .returned (.bool false) ∧ Below w.heap.size w w' := by
  have hl : (its.take j).length = j := by rw [List.length_take]; omega
  have hI2 : ItC w T A (its.take j) := ⟨by have := hI.max; omega, fun hn => by
    obtain ⟨g, o, e1, hc⟩ := hI.cells (by omega)
    exact ⟨g, o, e1, fun i e v hi => hc i e v (by rw [List.getElem?_take] at hi; split at hi; exact hi; cases hi)⟩,
    fun i e v hi => hI.bytes i e v (by rw [List.getElem?_take] at hi; split at hi; exact hi; cases hi)⟩
  have h := contains_other T A c (its.take j) ex vx gx w hI2 hvx h0 h1
  rw [hl] at h
  exact h

def g19_8.T : Bool × List (List Nat × List Nat) := (true, [([], []), ([0], [0]), ([1], [1]), ([2], [2]), ([], []), ([4], [4]), ([3, 5], [3, 5]), ([6], [6]), ([7], [7]), ([7], [7]), ([8, 0, 1, 2, 3, 4, 5, 6, 7, 8], [8]), ([9, 10, 0, 1, 2, 3, 4, 5, 6, 7, 8, 9, 10], [9])])
def g19_8.B : List Nat := [0, 1, 3, 7, 0, 16, 63, 127, 255, 255, 511, 2047]
theorem g19_8.tab : rtab .any (opsOf Try.f19 8) = g19_8.T := by kernel_rfl
theorem g19_8.bits : waitsOk g19_8.T.2 g19_8.B = true := by kernel_rfl

def g19_16.T : Bool × List (List Nat × List Nat) := (true, [([], []), ([0], [0]), ([1], [1]), ([2], [2]), ([], []), ([4], [4]), ([], []), ([6], [6]), ([7], [7]), ([3, 5, 8, 8, 0, 1, 2, 3, 4, 5, 6, 7, 8], [3, 5, 8])])
def g19_16.B : List Nat := [0, 1, 3, 7, 0, 16, 0, 64, 192, 511]
theorem g19_16.tab : rtab .any (opsOf Try.f19 16) = g19_16.T := by kernel_rfl
theorem g19_16.bits : waitsOk g19_16.T.2 g19_16.B = true := by kernel_rfl

def g19_18.T : Bool × List (List Nat × List Nat) := (true, [([], []), ([0], [0]), ([1], [1]), ([2], [2]), ([], []), ([], []), ([], []), ([6], [6]), ([7], [7]), ([8], [8]), ([], []), ([9, 10], [9, 10]), ([3, 4, 0, 1, 2, 3, 4, 9], [3, 4]), ([12, 0, 1, 2, 3, 4, 9], [12]), ([5, 0, 1, 2, 3, 4, 5, 6, 7, 8, 9, 10, 11, 12, 13], [5]), ([14, 0, 1, 2, 3, 4, 5, 6, 7, 8, 9, 10, 11, 12, 13], [14]), ([15, 11, 13, 0, 1, 2, 3, 4, 5, 6, 7, 8, 9, 10, 11, 12, 13], [11, 15])])
def g19_18.B : List Nat := [0, 1, 3, 7, 0, 0, 0, 64, 192, 448, 0, 1984, 991, 5087, 16383, 32767, 65535]
theorem g19_18.tab : rtab .any (opsOf Try.f19 18) = g19_18.T := by kernel_rfl
theorem g19_18.bits : waitsOk g19_18.T.2 g19_18.B = true := by kernel_rfl

set_option maxRecDepth 100000 in
set_option maxHeartbeats 4000000 in
theorem mender_hear (Q : Qm) (T : Nat → List Int) (hT : ∀ e, (T e).length ≤ 256) (b : Nat) (S : Nat → Prop) (hs : List Bool) (n place : Nat) (has : Nat → Prop) (A : Option Addr) (c : Nat) (its : List (Nat × Value)) (w : World) (h : MRep w b S Q T hs 0 n has) (hp : place < Q.p) (hI : ItC w T A its) (hlc : its.length ≤ c) (hn : n ≤ 1000000) (hdis : ∀ g o, A = some ⟨g, o, none⟩ → ¬ S g) :
    Calls Try.prog 19 #[.pointer (some ⟨b, 0, none⟩), .int .i64 place, .int .u64 0, .slice A its.length c] w fun e w' => e = .returned (.int .i64 0) ∧ MRep w' b S Q T (hs.set place true) 0 (n + its.length) (hasTo has its its.length) ∧ Kp S w w' := by
  have HR := Lib.hid h
  have HI := Lib.hid hI
  have HT := Lib.hid hT
  have HD := Lib.hid hdis
  clear hdis
  have hmax := hI.max
  obtain ⟨⟨hb, mb, f, h1, h2, h3, h4, h5, h6⟩, h7, h8, h9⟩ := h
  have c0 : w.cell? ⟨b, 0, none⟩ = some (.int .i64 Q.p) := (blk_cell h1 0).trans rfl
  have c5 : w.cell? ⟨b, 5, none⟩ = some (.map (some mb)) := (blk_cell h1 5).trans rfl
  have hmf : ∀ (fn : Fn) (first cap : Array Value) (w : World), (Instr.makeFunc fn first cap).run Try.prog w = .ok (.func fn first cap) w := fun _ _ _ _ => rfl
  have hd : decide (Q.p ≤ place) = false := decide_eq_false (by omega)
  have H5 := Lib.hid h5
  have H6 := Lib.hid h6
  have HB := Lib.hid h1
  have hz49 : ∀ w : World, (zeroValue 49).run Try.prog w = .ok (.agg #[.int .u64 0, .slice none 0 0]) w := fun w => by kernel_rfl
  clear hI hT h1 h2 h3 h4 h5 h6 h7 h8 h9
  obtain ⟨m, hm⟩ : ∃ m, m = its.length := ⟨_, rfl⟩
  have HM := Lib.hid hm
  rw [← hm] at hmax hlc ⊢
  clear hm
  go_enter Try.func19, Try.ntmps19
  go_wp2
  go_loopw [37] (fun v wr => ∃ j : Nat, v = .int .i64 j ∧ j ≤ m ∧ Aside0 (Below w.heap.size w wr)) (fun v _ => m - (intOf v).toNat)
  case atStart => exact ⟨0, rfl, Nat.zero_le _, ⟨Below.refl _ _⟩⟩
  case round =>
    obtain ⟨j, rfl, hj, HW⟩ := hrel
    by_cases hlt : j < m
    · obtain ⟨g, o, rfl, hc⟩ := (HI.out.below HW.out).cells (by have := HM.out; omega)
      obtain ⟨x, hx⟩ : ∃ x, its[j]? = some x := ⟨_, List.getElem?_eq_getElem (by have := HM.out; omega)⟩
      obtain ⟨e, v⟩ := x
      obtain ⟨a1, a2⟩ := hc j e v hx
      obtain ⟨hbv, he⟩ := (HI.out.below HW.out).bytes j e v hx
      have HBV := Aside0.mk hbv
      have HE := Aside0.mk he
      obtain ⟨Av, cv, rfl, _⟩ := hbv
      clear hc hx he
      have c5r := (HW.out.cell (World.block_lt_of_cell? _ _ c5)).trans c5
      have hmlt : mb < wr.heap.size := Nat.lt_of_lt_of_le H5.out.lt HW.out.size
      have hmr := H5.out.moved (HW.out.block mb H5.out.lt)
      have hcut0 := cut_to (P := Try.prog) 52 49 .i64 Try.underlying52 (info_parts Try.info49).choose_spec.1 (some ⟨g, o, none⟩) m c (j : Int) (by omega) (by omega) hlc
      simp only [Int.toNat_natCast] at hcut0
      have HJL := Aside0.mk (show j ≤ its.length by have := HM.out; omega)
      by_cases hh : has e
      · obtain ⟨Ao, co, hbo, hlk⟩ := (H6.out.kp (Kp.of_below (fun _ => False) HW.out)).look hmr e HE.out hh
        clear hmr hh
        go_wp2
        refine start_ (n := 12) (S := fun w' => w'.cell? ⟨b, 5, none⟩ = some (.map (some mb)) ∧ w'.cell? ⟨wr.heap.size, 0, none⟩ = some (.int .u64 e) ∧ w'.heap[mb]? = wr.heap[mb]?) (ds := []) #[false, false, false, false, false, false, false, false, false, false, false, false] (by kernel_rfl) rfl rfl (⟨((below_alloc (Below.refl _ _) _).cell (World.block_lt_of_cell? _ _ c5r)).trans c5r, by go_simp, Below.heap_alloc wr _ mb hmlt⟩) (fun hHeld => ?_)
        refine with_tabW g19_8.tab g19_8.bits (fun HT_ HW_ => ?_)
        generalize hgen : (wr.alloc _).drew = W0 at hHeld ⊢; have HW2 : Aside0 (Below wr.heap.size wr W0) := ⟨by rw [← hgen]; exact below_drew1 (below_alloc (Below.refl _ _) _)⟩; have hX : W0.heap[wr.heap.size]? = some (.cells #[.int .u64 e, .slice Av (T e).length cv] 49 (0, 0)) := by rw [← hgen]; exact blk_drew (blk_new wr _)
        refine pure_ (i := 0) (N := (some 43)) (v := ?_) (a' := ?_) #[true, false, false, false, false, false, false, false, false, false, false, false] rfl rfl (any_of HT_.out (by kernel_rfl)) (fun _ _ _ h => h) (Or.inl ⟨by rfl, ?_⟩) ?_ ?_
        rotate_left
        · (intro w'; go_simp; try with_reducible rfl)
        rotate_left
        · simp only [Act.put, List.setIfInBounds_toArray, List.set_cons_zero, List.set_cons_succ, i64_w, i32_w]
          rfl
        refine pure_ (i := 1) (N := (some 44)) (v := ?_) (a' := ?_) #[true, true, false, false, false, false, false, false, false, false, false, false] rfl rfl (any_of HT_.out (by kernel_rfl)) (fun _ _ _ h => h) (Or.inl ⟨by rfl, ?_⟩) ?_ ?_
        rotate_left
        · (intro w'; go_simp; try with_reducible rfl)
        rotate_left
        · simp only [Act.put, List.setIfInBounds_toArray, List.set_cons_zero, List.set_cons_succ, i64_w, i32_w]
          rfl
        refine pure_ (i := 2) (N := (some 45)) (v := ?_) (a' := ?_) #[true, true, true, false, false, false, false, false, false, false, false, false] rfl rfl (any_of HT_.out (by kernel_rfl)) (fun _ _ _ h => h) (Or.inl ⟨by rfl, ?_⟩) ?_ ?_
        rotate_left
        · (intro w'; go_simp; try with_reducible rfl)
        rotate_left
        · simp only [Act.put, List.setIfInBounds_toArray, List.set_cons_zero, List.set_cons_succ, i64_w, i32_w]
          rfl
        refine take_ (i := 3) (N := (some 46)) (v := ?_) (a' := ?_) #[true, true, true, true, false, false, false, false, false, false, false, false] rfl rfl (take_ofW HT_.out HW_.out (by kernel_rfl)) (fun _ _ _ h => h) (Or.inl ⟨by rfl, ?_⟩) hHeld ?_ ?_
        rotate_left
        · (intro w' hSw; (try dsimp only at hSw); go_split_ands; go_simp; try with_reducible rfl)
        rotate_left
        · simp only [Act.put, List.setIfInBounds_toArray, List.set_cons_zero, List.set_cons_succ, i64_w, i32_w]
          rfl
        refine pure_ (i := 4) (N := (some 47)) (v := ?_) (a' := ?_) #[true, true, true, true, true, false, false, false, false, false, false, false] rfl rfl (any_of HT_.out (by kernel_rfl)) (fun _ _ _ h => h) (Or.inl ⟨by rfl, ?_⟩) ?_ ?_
        rotate_left
        · (intro w'; go_simp; try with_reducible rfl)
        rotate_left
        · simp only [Act.put, List.setIfInBounds_toArray, List.set_cons_zero, List.set_cons_succ, i64_w, i32_w]
          rfl
        refine take_ (i := 5) (N := (some 48)) (v := ?_) (a' := ?_) #[true, true, true, true, true, true, false, false, false, false, false, false] rfl rfl (take_ofW HT_.out HW_.out (by kernel_rfl)) (fun _ _ _ h => h) (Or.inl ⟨by rfl, ?_⟩) hHeld ?_ ?_
        rotate_left
        · (intro w' hSw; (try dsimp only at hSw); go_split_ands; go_simp; try with_reducible rfl)
        rotate_left
        · simp only [Act.put, List.setIfInBounds_toArray, List.set_cons_zero, List.set_cons_succ, i64_w, i32_w]
          rfl
        refine take_ (i := 6) (N := (some 49)) (v := ?_) (a' := ?_) #[true, true, true, true, true, true, true, false, false, false, false, false] rfl rfl (take_ofW HT_.out HW_.out (by kernel_rfl)) (fun _ _ _ h => h) (Or.inl ⟨by rfl, ?_⟩) hHeld ?_ ?_
        rotate_left
        · (intro w' hSw; have hl := hlk w' hSw.2.2; go_simp; rfl)
        rotate_left
        · simp only [Act.put, List.setIfInBounds_toArray, List.set_cons_zero, List.set_cons_succ, i64_w, i32_w]
          rfl
        refine pure_ (i := 7) (N := (some 42)) (v := ?_) (a' := ?_) #[true, true, true, true, true, true, true, true, false, false, false, false] rfl rfl (any_of HT_.out (by kernel_rfl)) (fun _ _ _ h => h) (Or.inl ⟨by rfl, ?_⟩) ?_ ?_
        rotate_left
        · (intro w'; go_simp; try with_reducible rfl)
        rotate_left
        · simp only [Act.put, List.setIfInBounds_toArray, List.set_cons_zero, List.set_cons_succ, i64_w, i32_w]
          rfl
        refine pure_ (i := 8) (N := (some 50)) (v := ?_) (a' := ?_) #[true, true, true, true, true, true, true, true, true, false, false, false] rfl rfl (any_of HT_.out (by kernel_rfl)) (fun _ _ _ h => h) (Or.inl ⟨by rfl, ?_⟩) ?_ ?_
        rotate_left
        · (intro w'; go_simp; try with_reducible rfl)
        rotate_left
        · simp only [Act.put, List.setIfInBounds_toArray, List.set_cons_zero, List.set_cons_succ, i64_w, i32_w]
          rfl
        refine pure_ (i := 9) (N := (some 51)) (v := ?_) (a' := ?_) #[true, true, true, true, true, true, true, true, true, true, false, false] rfl rfl (any_of HT_.out (by kernel_rfl)) (fun _ _ _ h => h) (Or.inl ⟨by rfl, ?_⟩) ?_ ?_
        rotate_left
        · (intro w'; go_simp; try with_reducible rfl)
        rotate_left
        · simp only [Act.put, List.setIfInBounds_toArray, List.set_cons_zero, List.set_cons_succ, i64_w, i32_w]
          rfl
        refine pure_ (i := 10) (N := (some 11)) (v := ?_) (a' := ?_) #[true, true, true, true, true, true, true, true, true, true, true, false] rfl rfl (any_of HT_.out (by kernel_rfl)) (fun _ _ _ h => h) (Or.inl ⟨by rfl, ?_⟩) ?_ ?_
        rotate_left
        · (intro w'; go_simp; try with_reducible rfl)
        rotate_left
        · simp only [Act.put, List.setIfInBounds_toArray, List.set_cons_zero, List.set_cons_succ, i64_w, i32_w]
          rfl
        refine pure_ (i := 11) (N := (some 12)) (v := ?_) (a' := ?_) #[true, true, true, true, true, true, true, true, true, true, true, true] rfl rfl (any_of HT_.out (by kernel_rfl)) (fun _ _ _ h => h) (Or.inl ⟨by rfl, ?_⟩) ?_ ?_
        rotate_left
        · (intro w'; go_simp; try with_reducible rfl)
        rotate_left
        · simp only [Act.put, List.setIfInBounds_toArray, List.set_cons_zero, List.set_cons_succ, i64_w, i32_w]
          rfl
        refine done_ (done_of HT_.out (by kernel_rfl)) ?_
        clear HT_ HW_ hHeld hgen hlk c5r
        have d0 := (blk_cell hX 0).trans rfl
        have d1 := (blk_cell hX 1).trans rfl
        have HVB := Aside0.mk (HBV.out.kp (Kp.of_below (fun _ => False) HW2.out))
        have HOB := Aside0.mk (hbo.kp (Kp.of_below (fun _ => False) HW2.out))
        clear hX hmlt
        go_wp2_with (first
          | (go_at_call 78; refine (equal_bytes _ _ (T e) _ HOB.out HVB.out).mono ?_; rintro e1 w1 ⟨rfl, ⟨m1, rfl⟩⟩)
          | (go_at_call 79; refine (contains_take T (some ⟨g, o, none⟩) c j its e (.slice Av (T e).length cv) wr.heap.size _ (HI.out.below (pw_below_drewN (below_step HW.out HW2.out) m1)) HJL.out (HVB.out.kp ((Kp.refl (fun _ => False) W0).drewN m1)) (show (W0.drewN m1).cell? _ = _ from d0) (show (W0.drewN m1).cell? _ = _ from d1)).mono ?_; rintro e1 w1 ⟨rfl, hb1⟩))
        go_roundw
        case rel => exact ⟨j + 1, by go_num, by omega, ⟨below_step (below_step HW.out HW2.out) (below_step (pw_below_drewN (Below.refl _ _) _) hb1)⟩⟩
        case measure => simp [intOf]; omega
      · have hlk := (H6.out.kp (Kp.of_below (fun _ => False) HW.out)).look_none hmr e HE.out hh
        clear hmr hh
        go_wp2
        refine start_ (n := 12) (S := fun w' => w'.cell? ⟨b, 5, none⟩ = some (.map (some mb)) ∧ w'.cell? ⟨wr.heap.size, 0, none⟩ = some (.int .u64 e) ∧ w'.heap[mb]? = wr.heap[mb]?) (ds := []) #[false, false, false, false, false, false, false, false, false, false, false, false] (by kernel_rfl) rfl rfl (⟨((below_alloc (Below.refl _ _) _).cell (World.block_lt_of_cell? _ _ c5r)).trans c5r, by go_simp, Below.heap_alloc wr _ mb hmlt⟩) (fun hHeld => ?_)
        refine with_tabW g19_8.tab g19_8.bits (fun HT_ HW_ => ?_)
        generalize hgen : (wr.alloc _).drew = W0 at hHeld ⊢; have HW2 : Aside0 (Below wr.heap.size wr W0) := ⟨by rw [← hgen]; exact below_drew1 (below_alloc (Below.refl _ _) _)⟩; have hX : W0.heap[wr.heap.size]? = some (.cells #[.int .u64 e, .slice Av (T e).length cv] 49 (0, 0)) := by rw [← hgen]; exact blk_drew (blk_new wr _)
        refine pure_ (i := 0) (N := (some 43)) (v := ?_) (a' := ?_) #[true, false, false, false, false, false, false, false, false, false, false, false] rfl rfl (any_of HT_.out (by kernel_rfl)) (fun _ _ _ h => h) (Or.inl ⟨by rfl, ?_⟩) ?_ ?_
        rotate_left
        · (intro w'; go_simp; try with_reducible rfl)
        rotate_left
        · simp only [Act.put, List.setIfInBounds_toArray, List.set_cons_zero, List.set_cons_succ, i64_w, i32_w]
          rfl
        refine pure_ (i := 1) (N := (some 44)) (v := ?_) (a' := ?_) #[true, true, false, false, false, false, false, false, false, false, false, false] rfl rfl (any_of HT_.out (by kernel_rfl)) (fun _ _ _ h => h) (Or.inl ⟨by rfl, ?_⟩) ?_ ?_
        rotate_left
        · (intro w'; go_simp; try with_reducible rfl)
        rotate_left
        · simp only [Act.put, List.setIfInBounds_toArray, List.set_cons_zero, List.set_cons_succ, i64_w, i32_w]
          rfl
        refine pure_ (i := 2) (N := (some 45)) (v := ?_) (a' := ?_) #[true, true, true, false, false, false, false, false, false, false, false, false] rfl rfl (any_of HT_.out (by kernel_rfl)) (fun _ _ _ h => h) (Or.inl ⟨by rfl, ?_⟩) ?_ ?_
        rotate_left
        · (intro w'; go_simp; try with_reducible rfl)
        rotate_left
        · simp only [Act.put, List.setIfInBounds_toArray, List.set_cons_zero, List.set_cons_succ, i64_w, i32_w]
          rfl
        refine take_ (i := 3) (N := (some 46)) (v := ?_) (a' := ?_) #[true, true, true, true, false, false, false, false, false, false, false, false] rfl rfl (take_ofW HT_.out HW_.out (by kernel_rfl)) (fun _ _ _ h => h) (Or.inl ⟨by rfl, ?_⟩) hHeld ?_ ?_
        rotate_left
        · (intro w' hSw; (try dsimp only at hSw); go_split_ands; go_simp; try with_reducible rfl)
        rotate_left
        · simp only [Act.put, List.setIfInBounds_toArray, List.set_cons_zero, List.set_cons_succ, i64_w, i32_w]
          rfl
        refine pure_ (i := 4) (N := (some 47)) (v := ?_) (a' := ?_) #[true, true, true, true, true, false, false, false, false, false, false, false] rfl rfl (any_of HT_.out (by kernel_rfl)) (fun _ _ _ h => h) (Or.inl ⟨by rfl, ?_⟩) ?_ ?_
        rotate_left
        · (intro w'; go_simp; try with_reducible rfl)
        rotate_left
        · simp only [Act.put, List.setIfInBounds_toArray, List.set_cons_zero, List.set_cons_succ, i64_w, i32_w]
          rfl
        refine take_ (i := 5) (N := (some 48)) (v := ?_) (a' := ?_) #[true, true, true, true, true, true, false, false, false, false, false, false] rfl rfl (take_ofW HT_.out HW_.out (by kernel_rfl)) (fun _ _ _ h => h) (Or.inl ⟨by rfl, ?_⟩) hHeld ?_ ?_
        rotate_left
        · (intro w' hSw; (try dsimp only at hSw); go_split_ands; go_simp; try with_reducible rfl)
        rotate_left
        · simp only [Act.put, List.setIfInBounds_toArray, List.set_cons_zero, List.set_cons_succ, i64_w, i32_w]
          rfl
        refine take_ (i := 6) (N := (some 49)) (v := ?_) (a' := ?_) #[true, true, true, true, true, true, true, false, false, false, false, false] rfl rfl (take_ofW HT_.out HW_.out (by kernel_rfl)) (fun _ _ _ h => h) (Or.inl ⟨by rfl, ?_⟩) hHeld ?_ ?_
        rotate_left
        · (intro w' hSw; have hl := hlk w' hSw.2.2; go_simp; rfl)
        rotate_left
        · simp only [Act.put, List.setIfInBounds_toArray, List.set_cons_zero, List.set_cons_succ, i64_w, i32_w]
          rfl
        refine pure_ (i := 7) (N := (some 42)) (v := ?_) (a' := ?_) #[true, true, true, true, true, true, true, true, false, false, false, false] rfl rfl (any_of HT_.out (by kernel_rfl)) (fun _ _ _ h => h) (Or.inl ⟨by rfl, ?_⟩) ?_ ?_
        rotate_left
        · (intro w'; go_simp; try with_reducible rfl)
        rotate_left
        · simp only [Act.put, List.setIfInBounds_toArray, List.set_cons_zero, List.set_cons_succ, i64_w, i32_w]
          rfl
        refine pure_ (i := 8) (N := (some 50)) (v := ?_) (a' := ?_) #[true, true, true, true, true, true, true, true, true, false, false, false] rfl rfl (any_of HT_.out (by kernel_rfl)) (fun _ _ _ h => h) (Or.inl ⟨by rfl, ?_⟩) ?_ ?_
        rotate_left
        · (intro w'; go_simp; try with_reducible rfl)
        rotate_left
        · simp only [Act.put, List.setIfInBounds_toArray, List.set_cons_zero, List.set_cons_succ, i64_w, i32_w]
          rfl
        refine pure_ (i := 9) (N := (some 51)) (v := ?_) (a' := ?_) #[true, true, true, true, true, true, true, true, true, true, false, false] rfl rfl (any_of HT_.out (by kernel_rfl)) (fun _ _ _ h => h) (Or.inl ⟨by rfl, ?_⟩) ?_ ?_
        rotate_left
        · (intro w'; go_simp; try with_reducible rfl)
        rotate_left
        · simp only [Act.put, List.setIfInBounds_toArray, List.set_cons_zero, List.set_cons_succ, i64_w, i32_w]
          rfl
        refine pure_ (i := 10) (N := (some 11)) (v := ?_) (a' := ?_) #[true, true, true, true, true, true, true, true, true, true, true, false] rfl rfl (any_of HT_.out (by kernel_rfl)) (fun _ _ _ h => h) (Or.inl ⟨by rfl, ?_⟩) ?_ ?_
        rotate_left
        · (intro w'; go_simp; try with_reducible rfl)
        rotate_left
        · simp only [Act.put, List.setIfInBounds_toArray, List.set_cons_zero, List.set_cons_succ, i64_w, i32_w]
          rfl
        refine pure_ (i := 11) (N := (some 12)) (v := ?_) (a' := ?_) #[true, true, true, true, true, true, true, true, true, true, true, true] rfl rfl (any_of HT_.out (by kernel_rfl)) (fun _ _ _ h => h) (Or.inl ⟨by rfl, ?_⟩) ?_ ?_
        rotate_left
        · (intro w'; go_simp; try with_reducible rfl)
        rotate_left
        · simp only [Act.put, List.setIfInBounds_toArray, List.set_cons_zero, List.set_cons_succ, i64_w, i32_w]
          rfl
        refine done_ (done_of HT_.out (by kernel_rfl)) ?_
        clear HT_ HW_ hHeld hgen hlk c5r
        have d0 := (blk_cell hX 0).trans rfl
        have d1 := (blk_cell hX 1).trans rfl
        have HVB := Aside0.mk (HBV.out.kp (Kp.of_below (fun _ => False) HW2.out))
        skip
        clear hX hmlt
        go_wp2_with (first
          | (go_at_call 79; refine (contains_take T (some ⟨g, o, none⟩) c j its e (.slice Av (T e).length cv) wr.heap.size _ (HI.out.below (by first | exact below_step HW.out HW2.out | exact pw_below_drewN (below_step HW.out HW2.out) _)) HJL.out (by first | exact HVB.out | exact HVB.out.kp ((Kp.refl (fun _ => False) _).drewN _)) d0 d1).mono ?_; rintro e1 w1 ⟨rfl, hb1⟩))
        go_roundw
        case rel => exact ⟨j + 1, by go_num, by omega, ⟨below_step (below_step HW.out HW2.out) hb1⟩⟩
        case measure => simp [intOf]; omega
    · clear hmf c0 c5 hd hlc
      have HR1 := Aside0.mk (HR.out.kp (Kp.of_below (fun _ => False) HW.out) (fun _ _ h => h))
      have HK1 := Aside0.mk (Kp.of_below S HW.out)
      clear HW H5 H6 HB
      go_wp2
      clear hlt
      go_loopw [71] (fun v wx => ∃ j : Nat, v = .int .i64 j ∧ j ≤ m ∧ Aside0 (MRep wx b S Q T hs 0 (n + j) (hasTo has its j) ∧ Kp S w wx)) (fun v _ => m - (intOf v).toNat)
      case atStart => exact ⟨0, rfl, Nat.zero_le _, ⟨HR1.out.ext (hasTo_zero has its), HK1.out⟩⟩
      case round =>
        clear HR1 HK1
        obtain ⟨j, rfl, hj, HI2⟩ := hrel
        obtain ⟨hr, hk⟩ := HI2.out
        have HR2 := Aside0.mk hr
        have HK2 := Aside0.mk hk
        obtain ⟨⟨hb, mb, f, h1, h2, h3, h4, h5, h6⟩, h7, h8, h9⟩ := hr
        clear HI2 hk
        by_cases hlt : j < m
        · have hIx := HI.out.kp HK2.out HD.out
          obtain ⟨g, o, rfl, hc⟩ := hIx.cells (by have := HM.out; omega)
          obtain ⟨x, hx⟩ : ∃ x, its[j]? = some x := ⟨_, List.getElem?_eq_getElem (by have := HM.out; omega)⟩
          obtain ⟨e, v⟩ := x
          obtain ⟨a1, a2⟩ := hc j e v hx
          obtain ⟨hbv, he⟩ := hIx.bytes j e v hx
          have HBV := Aside0.mk hbv
          have HE := Aside0.mk he
          have HX := Aside0.mk hx
          obtain ⟨Av, cv, rfl, _⟩ := hbv
          have c5 : wr.cell? ⟨b, 5, none⟩ = some (.map (some mb)) := (blk_cell h1 5).trans rfl
          have HB1 := Aside0.mk h1
          have HB2 := Aside0.mk h2
          have HS3 := Aside0.mk h3
          have HS4 := Aside0.mk h4
          have H5 := Aside0.mk h5
          have H6 := Aside0.mk h6
          have hTe : (T e).length ≤ 256 := HT.out e
          clear hc hx he h1 h2 h3 h4 h5 h6 h7 h8 h9 hIx
          go_wp2
          refine start_ (n := 10) (S := fun w' => w'.cell? ⟨b, 5, none⟩ = some (.map (some mb)) ∧ w'.cell? ⟨wr.heap.size, 0, none⟩ = some (.int .u64 e) ∧ w'.cell? ⟨wr.heap.size, 1, none⟩ = some (.slice Av (T e).length cv)) (ds := [9]) #[false, false, false, false, false, false, false, false, false, false] (by kernel_rfl) rfl rfl (⟨((below_alloc (Below.refl _ _) _).cell (World.block_lt_of_cell? _ _ c5)).trans c5, by go_simp, by go_simp⟩) (fun hHeld => ?_)
          refine with_tabW g19_16.tab g19_16.bits (fun HT_ HW_ => ?_)
          generalize hgen : (wr.alloc _).drew = W0 at hHeld ⊢; have HW2 : Aside0 (Below wr.heap.size wr W0) := ⟨by rw [← hgen]; exact below_drew1 (below_alloc (Below.refl _ _) _)⟩; clear hgen c5 a1 a2
          refine pure_ (i := 0) (N := (some 75)) (v := ?_) (a' := ?_) #[true, false, false, false, false, false, false, false, false, false] rfl rfl (any_of HT_.out (by kernel_rfl)) (fun _ _ _ h => h) (Or.inl ⟨by rfl, ?_⟩) ?_ ?_
          rotate_left
          · (intro w'; go_simp; try with_reducible rfl)
          rotate_left
          · simp only [Act.put, List.setIfInBounds_toArray, List.set_cons_zero, List.set_cons_succ, i64_w, i32_w]
            rfl
          refine pure_ (i := 1) (N := (some 76)) (v := ?_) (a' := ?_) #[true, true, false, false, false, false, false, false, false, false] rfl rfl (any_of HT_.out (by kernel_rfl)) (fun _ _ _ h => h) (Or.inl ⟨by rfl, ?_⟩) ?_ ?_
          rotate_left
          · (intro w'; go_simp; try with_reducible rfl)
          rotate_left
          · simp only [Act.put, List.setIfInBounds_toArray, List.set_cons_zero, List.set_cons_succ, i64_w, i32_w]
            rfl
          refine pure_ (i := 2) (N := (some 77)) (v := ?_) (a' := ?_) #[true, true, true, false, false, false, false, false, false, false] rfl rfl (any_of HT_.out (by kernel_rfl)) (fun _ _ _ h => h) (Or.inl ⟨by rfl, ?_⟩) ?_ ?_
          rotate_left
          · (intro w'; go_simp; try with_reducible rfl)
          rotate_left
          · simp only [Act.put, List.setIfInBounds_toArray, List.set_cons_zero, List.set_cons_succ, i64_w, i32_w]
            rfl
          refine take_ (i := 3) (N := (some 78)) (v := ?_) (a' := ?_) #[true, true, true, true, false, false, false, false, false, false] rfl rfl (take_ofW HT_.out HW_.out (by kernel_rfl)) (fun _ _ _ h => h) (Or.inl ⟨by rfl, ?_⟩) hHeld ?_ ?_
          rotate_left
          · (intro w' hSw; (try dsimp only at hSw); go_split_ands; go_simp; try with_reducible rfl)
          rotate_left
          · simp only [Act.put, List.setIfInBounds_toArray, List.set_cons_zero, List.set_cons_succ, i64_w, i32_w]
            rfl
          refine pure_ (i := 4) (N := (some 79)) (v := ?_) (a' := ?_) #[true, true, true, true, true, false, false, false, false, false] rfl rfl (any_of HT_.out (by kernel_rfl)) (fun _ _ _ h => h) (Or.inl ⟨by rfl, ?_⟩) ?_ ?_
          rotate_left
          · (intro w'; go_simp; try with_reducible rfl)
          rotate_left
          · simp only [Act.put, List.setIfInBounds_toArray, List.set_cons_zero, List.set_cons_succ, i64_w, i32_w]
            rfl
          refine take_ (i := 5) (N := (some 80)) (v := ?_) (a' := ?_) #[true, true, true, true, true, true, false, false, false, false] rfl rfl (take_ofW HT_.out HW_.out (by kernel_rfl)) (fun _ _ _ h => h) (Or.inl ⟨by rfl, ?_⟩) hHeld ?_ ?_
          rotate_left
          · (intro w' hSw; (try dsimp only at hSw); go_split_ands; go_simp; try with_reducible rfl)
          rotate_left
          · simp only [Act.put, List.setIfInBounds_toArray, List.set_cons_zero, List.set_cons_succ, i64_w, i32_w]
            rfl
          refine pure_ (i := 6) (N := (some 81)) (v := ?_) (a' := ?_) #[true, true, true, true, true, true, true, false, false, false] rfl rfl (any_of HT_.out (by kernel_rfl)) (fun _ _ _ h => h) (Or.inl ⟨by rfl, ?_⟩) ?_ ?_
          rotate_left
          · (intro w'; go_simp; try with_reducible rfl)
          rotate_left
          · simp only [Act.put, List.setIfInBounds_toArray, List.set_cons_zero, List.set_cons_succ, i64_w, i32_w]
            rfl
          refine take_ (i := 7) (N := (some 82)) (v := ?_) (a' := ?_) #[true, true, true, true, true, true, true, true, false, false] rfl rfl (take_ofW HT_.out HW_.out (by kernel_rfl)) (fun _ _ _ h => h) (Or.inl ⟨by rfl, ?_⟩) hHeld ?_ ?_
          rotate_left
          · (intro w' hSw; (try dsimp only at hSw); go_split_ands; go_simp; try with_reducible rfl)
          rotate_left
          · simp only [Act.put, List.setIfInBounds_toArray, List.set_cons_zero, List.set_cons_succ, i64_w, i32_w]
            rfl
          refine one_ (i := 8) (N := (some 83)) #[true, true, true, true, true, true, true, true, true, false] rfl rfl (one_of HT_.out (by kernel_rfl)) (by decide) (fun K hK => ?_)
          refine goes_ Try.func72 (by kernel_rfl) rfl #[.slice Av (T e).length cv] (by rfl) rfl rfl (by (try simp only [List.map_toArray, List.map_cons, List.map_nil]); rfl) ((clone_bytes _ (T e) _ (HBV.out.kp (Kp.of_below (fun _ => False) HW2.out)) (by omega)).mono ?_)
          rintro e1 w1 ⟨dA', dc', rfl, hbs, hb1⟩
          refine ⟨_, rfl, ?_⟩
          have n0 := Aside0.mk (below_step HW2.out hb1)
          have HD2 := Aside0.mk hbs
          clear HW2 hbs
          have HW2 := n0
          clear n0
          refine hK.out _ _ (⟨(hb1.cell (World.block_lt_of_cell? _ _ hHeld.1)).trans hHeld.1, (hb1.cell (World.block_lt_of_cell? _ _ hHeld.2.1)).trans hHeld.2.1, (hb1.cell (World.block_lt_of_cell? _ _ hHeld.2.2)).trans hHeld.2.2⟩) (fun hHeld => ?_)
          clear hK K
          refine norm_ (a' := ?_) ?_ ?_
          rotate_left
          · show Act.put _ (some 83) _ = _
            simp only [Act.put, List.setIfInBounds_toArray, List.set_cons_zero, List.set_cons_succ, i64_w, i32_w]
            rfl
          clear hb1
          refine last_ (i := 9) (N := none) #[true, true, true, true, true, true, true, true, true, true] rfl rfl (one_of HT_.out (by kernel_rfl)) (by decide) (fun K hK => ?_)
          obtain ⟨w2, hrun, hm2, hg2⟩ := (H5.out.moved (HW2.out.block mb H5.out.lt)).put (Maps.int_keyed Try.underlying43) Try.underlying36 (by unfold maxLen; omega) (val := .slice dA' (T e).length dc') (key_u64 e HE.out)
          obtain ⟨p1, p2⟩ := mrep_put HR2.out HB1.out HB2.out HS3.out HS4.out H6.out HW2.out hm2 hg2 H5.out.isMap HD2.out HE.out
          have P1 := Aside0.mk (p1.ext (hasTo_succ has its j HX.out))
          have P2 := Aside0.mk (HK2.out.trans p2)
          clear hm2 hg2 p1 p2
          refine put_step (by rfl) rfl (.tmp 78) (.tmp 80) (.tmp 83) 36 rfl rfl rfl rfl hrun ?_
          clear hrun
          refine hK.out _ _ ?_
          clear hK K
          refine done_ (done_of HT_.out (by kernel_rfl)) ?_
          clear HT_ HW_ hHeld
          go_wp2
          go_roundw
          case rel => exact ⟨j + 1, by go_num, by omega, ⟨P1.out, P2.out⟩⟩
          case measure => simp [intOf]; omega
        · have hjm : j = m := by omega
          have HJM := Lib.hid hjm
          clear hjm
          have c3 : wr.cell? ⟨b, 3, none⟩ = some (.slice (some ⟨hb, 0, none⟩) Q.p Q.p) := (blk_cell h1 3).trans rfl
          have c4 : wr.cell? ⟨b, 4, none⟩ = some (.int .u64 0) := (blk_cell h1 4).trans rfl
          obtain ⟨p1, p2⟩ := mrep_heard (w := wr.drew) (place := place) (HR2.out.kp ((Kp.refl (fun _ => False) wr).drew) (fun _ _ h => h)) (blk_drew h1) (blk_drew h2) h3 h4 (h5.moved rfl) (h6.kp ((Kp.refl (fun _ => False) wr).drew))
          have hblt : b ≠ hb := fun e => by
            rw [← e, h1] at h2
            injection h2 with h2
            injection h2 with _ h2
            cases h2
          have P1 := Aside0.mk p1
          have P2 := Aside0.mk (HK2.out.drew.trans p2)
          have HB1 := Aside0.mk (blk_drew h1)
          have HB2 := Aside0.mk (blk_drew h2)
          have HNE := Aside0.mk hblt
          have HL8 := Aside0.mk h8
          clear p1 p2 h1 h2 h3 h4 h5 h6 h7 h8 h9 hblt
          go_wp2
          refine start_ (n := 17) (S := fun w' => w'.cell? ⟨b, 3, none⟩ = some (.slice (some ⟨hb, 0, none⟩) Q.p Q.p) ∧ w'.cell? ⟨b, 4, none⟩ = some (.int .u64 0)) (ds := [16]) #[false, false, false, false, false, false, false, false, false, false, false, false, false, false, false, false, false] (by kernel_rfl) rfl rfl (⟨by go_simp, by go_simp⟩) (fun hHeld => ?_)
          refine with_tabW g19_18.tab g19_18.bits (fun HT_ HW_ => ?_)
          generalize wr.drew = W0 at hHeld HB1 HB2 P1 P2 ⊢; clear c3 c4
          refine pure_ (i := 0) (N := (some 85)) (v := ?_) (a' := ?_) #[true, false, false, false, false, false, false, false, false, false, false, false, false, false, false, false, false] rfl rfl (any_of HT_.out (by kernel_rfl)) (fun _ _ _ h => h) (Or.inl ⟨by rfl, ?_⟩) ?_ ?_
          rotate_left
          · (intro w'; go_simp; try with_reducible rfl)
          rotate_left
          · simp only [Act.put, List.setIfInBounds_toArray, List.set_cons_zero, List.set_cons_succ, i64_w, i32_w]
            rfl
          refine pure_ (i := 1) (N := (some 86)) (v := ?_) (a' := ?_) #[true, true, false, false, false, false, false, false, false, false, false, false, false, false, false, false, false] rfl rfl (any_of HT_.out (by kernel_rfl)) (fun _ _ _ h => h) (Or.inl ⟨by rfl, ?_⟩) ?_ ?_
          rotate_left
          · (intro w'; go_simp; try with_reducible rfl)
          rotate_left
          · simp only [Act.put, List.setIfInBounds_toArray, List.set_cons_zero, List.set_cons_succ, i64_w, i32_w]
            rfl
          refine pure_ (i := 2) (N := (some 87)) (v := ?_) (a' := ?_) #[true, true, true, false, false, false, false, false, false, false, false, false, false, false, false, false, false] rfl rfl (any_of HT_.out (by kernel_rfl)) (fun _ _ _ h => h) (Or.inl ⟨by rfl, ?_⟩) ?_ ?_
          rotate_left
          · (intro w'; go_simp; try with_reducible rfl)
          rotate_left
          · simp only [Act.put, List.setIfInBounds_toArray, List.set_cons_zero, List.set_cons_succ, i64_w, i32_w]
            rfl
          refine take_ (i := 3) (N := (some 88)) (v := ?_) (a' := ?_) #[true, true, true, true, false, false, false, false, false, false, false, false, false, false, false, false, false] rfl rfl (take_ofW HT_.out HW_.out (by kernel_rfl)) (fun _ _ _ h => h) (Or.inl ⟨by rfl, ?_⟩) hHeld ?_ ?_
          rotate_left
          · (intro w' hSw; (try dsimp only at hSw); go_split_ands; go_simp; try with_reducible rfl)
          rotate_left
          · simp only [Act.put, List.setIfInBounds_toArray, List.set_cons_zero, List.set_cons_succ, i64_w, i32_w]
            rfl
          refine pure_ (i := 4) (N := (some 89)) (v := ?_) (a' := ?_) #[true, true, true, true, true, false, false, false, false, false, false, false, false, false, false, false, false] rfl rfl (any_of HT_.out (by kernel_rfl)) (fun _ _ _ h => h) (Or.inl ⟨by rfl, ?_⟩) ?_ ?_
          rotate_left
          · (intro w'; go_simp; try with_reducible rfl)
          rotate_left
          · simp only [Act.put, List.setIfInBounds_toArray, List.set_cons_zero, List.set_cons_succ, i64_w, i32_w]
            rfl
          refine pure_ (i := 5) (N := (some 90)) (v := ?_) (a' := ?_) #[true, true, true, true, true, true, false, false, false, false, false, false, false, false, false, false, false] rfl rfl (any_of HT_.out (by kernel_rfl)) (fun _ _ _ h => h) (Or.inl ⟨by rfl, ?_⟩) ?_ ?_
          rotate_left
          · (intro w'; go_simp; try with_reducible rfl)
          rotate_left
          · simp only [Act.put, List.setIfInBounds_toArray, List.set_cons_zero, List.set_cons_succ, i64_w, i32_w]
            rfl
          refine pure_ (i := 6) (N := (some 91)) (v := ?_) (a' := ?_) #[true, true, true, true, true, true, true, false, false, false, false, false, false, false, false, false, false] rfl rfl (any_of HT_.out (by kernel_rfl)) (fun _ _ _ h => h) (Or.inl ⟨by rfl, ?_⟩) ?_ ?_
          rotate_left
          · (intro w'; go_simp; try with_reducible rfl)
          rotate_left
          · simp only [Act.put, List.setIfInBounds_toArray, List.set_cons_zero, List.set_cons_succ, i64_w, i32_w]
            rfl
          refine pure_ (i := 7) (N := (some 92)) (v := ?_) (a' := ?_) #[true, true, true, true, true, true, true, true, false, false, false, false, false, false, false, false, false] rfl rfl (any_of HT_.out (by kernel_rfl)) (fun _ _ _ h => h) (Or.inl ⟨by rfl, ?_⟩) ?_ ?_
          rotate_left
          · (intro w'; go_simp; try with_reducible rfl)
          rotate_left
          · simp only [Act.put, List.setIfInBounds_toArray, List.set_cons_zero, List.set_cons_succ, i64_w, i32_w]
            rfl
          refine pure_ (i := 8) (N := (some 93)) (v := ?_) (a' := ?_) #[true, true, true, true, true, true, true, true, true, false, false, false, false, false, false, false, false] rfl rfl (any_of HT_.out (by kernel_rfl)) (fun _ _ _ h => h) (Or.inl ⟨by rfl, ?_⟩) ?_ ?_
          rotate_left
          · (intro w'; go_simp; try with_reducible rfl)
          rotate_left
          · simp only [Act.put, List.setIfInBounds_toArray, List.set_cons_zero, List.set_cons_succ, i64_w, i32_w]
            rfl
          refine take_ (i := 9) (N := (some 94)) (v := ?_) (a' := ?_) #[true, true, true, true, true, true, true, true, true, true, false, false, false, false, false, false, false] rfl rfl (take_ofW HT_.out HW_.out (by kernel_rfl)) (fun _ _ _ h => h) (Or.inl ⟨by rfl, ?_⟩) hHeld ?_ ?_
          rotate_left
          · (intro w' hSw; (try dsimp only at hSw); go_split_ands; go_simp; try with_reducible rfl)
          rotate_left
          · simp only [Act.put, List.setIfInBounds_toArray, List.set_cons_zero, List.set_cons_succ, i64_w, i32_w]
            rfl
          refine pure_ (i := 10) (N := (some 95)) (v := ?_) (a' := ?_) #[true, true, true, true, true, true, true, true, true, true, true, false, false, false, false, false, false] rfl rfl (any_of HT_.out (by kernel_rfl)) (fun _ _ _ h => h) (Or.inl ⟨by rfl, ?_⟩) ?_ ?_
          rotate_left
          · (intro w'; go_simp; try with_reducible rfl)
          rotate_left
          · simp only [Act.put, List.setIfInBounds_toArray, List.set_cons_zero, List.set_cons_succ, i64_w, i32_w]
            rfl
          refine pure_ (i := 11) (N := (some 96)) (v := ?_) (a' := ?_) #[true, true, true, true, true, true, true, true, true, true, true, true, false, false, false, false, false] rfl rfl (any_of HT_.out (by kernel_rfl)) (fun _ _ _ h => h) (Or.inl ⟨by rfl, ?_⟩) ?_ ?_
          rotate_left
          · (intro w'; go_simp; try with_reducible rfl)
          rotate_left
          · simp only [Act.put, List.setIfInBounds_toArray, List.set_cons_zero, List.set_cons_succ, i64_w, i32_w]
            rfl
          refine pure_ (i := 12) (N := (some 97)) (v := ?_) (a' := ?_) #[true, true, true, true, true, true, true, true, true, true, true, true, true, false, false, false, false] rfl rfl (any_of HT_.out (by kernel_rfl)) (fun _ _ _ h => h) (Or.inl ⟨by rfl, ?_⟩) ?_ ?_
          rotate_left
          · (intro w'; go_simp; try with_reducible rfl)
          rotate_left
          · simp only [Act.put, List.setIfInBounds_toArray, List.set_cons_zero, List.set_cons_succ, i64_w, i32_w]
            rfl
          refine one_ (i := 13) (N := none) #[true, true, true, true, true, true, true, true, true, true, true, true, true, true, false, false, false] rfl rfl (one_of HT_.out (by kernel_rfl)) (by decide) (fun K hK => ?_)
          have hcx : W0.cell? ⟨hb, place, none⟩ = some (.bool (hs.getD place false)) := by
            rw [blk_cell HB2.out place]
            have h5 := HL8.out
            simp [List.getElem?_map, List.getElem?_eq_getElem (show place < hs.length by omega)]
          have hfx := blk_frozen HB2.out place
          refine skip_ (w1 := W0.setCell ⟨hb, place, none⟩ (.bool true)) (by rfl) rfl ?_ ?_
          · go_simp
          clear hcx hfx
          have hb9 := (Below.heap_setCell W0 ⟨hb, place, none⟩ (.bool true) b HNE.out).trans HB1.out
          refine hK.out _ _ (⟨(blk_cell hb9 3).trans rfl, (blk_cell hb9 4).trans rfl⟩) (fun hHeld => ?_)
          clear hK K
          refine pure_ (i := 14) (N := (some 98)) (v := ?_) (a' := ?_) #[true, true, true, true, true, true, true, true, true, true, true, true, true, true, true, false, false] rfl rfl (any_of HT_.out (by kernel_rfl)) (fun _ _ _ h => h) (Or.inl ⟨by rfl, ?_⟩) ?_ ?_
          rotate_left
          · (intro w'; go_simp; try with_reducible rfl)
          rotate_left
          · simp only [Act.put, List.setIfInBounds_toArray, List.set_cons_zero, List.set_cons_succ, i64_w, i32_w]
            rfl
          refine pure_ (i := 15) (N := (some 99)) (v := ?_) (a' := ?_) #[true, true, true, true, true, true, true, true, true, true, true, true, true, true, true, true, false] rfl rfl (any_of HT_.out (by kernel_rfl)) (fun _ _ _ h => h) (Or.inl ⟨by rfl, ?_⟩) ?_ ?_
          rotate_left
          · (intro w'; go_simp; try with_reducible rfl)
          rotate_left
          · simp only [Act.put, List.setIfInBounds_toArray, List.set_cons_zero, List.set_cons_succ, i64_w, i32_w]
            rfl
          refine last_ (i := 16) (N := none) #[true, true, true, true, true, true, true, true, true, true, true, true, true, true, true, true, true] rfl rfl (one_of HT_.out (by kernel_rfl)) (by decide) (fun K hK => ?_)
          have hcx := (blk_cell hb9 4).trans rfl
          have hfx := blk_frozen hb9 4
          refine skip_ (w1 := (W0.setCell ⟨hb, place, none⟩ (.bool true)).setCell ⟨b, 4, none⟩ (.int .u64 0)) (by rfl) rfl ?_ ?_
          · go_simp
          clear hcx hfx hb9
          refine hK.out _ _ ?_
          clear hK K
          refine done_ (done_of HT_.out (by kernel_rfl)) ?_
          clear HT_ HW_ hHeld
          go_wp2
          go_ret
          refine ⟨rfl, ?_, P2.out⟩
          have h10 := P1.out
          rw [HJM.out] at h10
          rw [HM.out] at h10 ⊢
          exact h10

end Go.Proofs.Ytigcpknfcdcllaa
