/- The mender: what it holds in memory; New, Ready, the test in Hear. -/
import Derived.Test.YtigcpknfcdcllaaMk3
namespace Go.Proofs.Ytigcpknfcdcllaa
open Go.RowKit Go.Proofs.YtigcpknfcdcllaaW.PrintWords Go.Proofs.YtigcpknfcdcllaaW.PrintLast Go.Proofs.YtigcpknfcdcllaaLb
set_option linter.unusedSimpArgs false
set_option linter.unusedVariables false

/-- Map f holds just the entries of 'has', each with its bytes by T. -/
def Told (w : World) (T : Nat → List Int) (f : Lit → Option Value) (has : Nat → Prop) : Prop :=
  ∀ k : Nat, k < 18446744073709551616 → (has k → ∃ v, f (.int .u64 k) = some v ∧ Bs w v (T k)) ∧ (¬ has k → f (.int .u64 k) = none)
theorem Told.kp {S : Nat → Prop} {w w' : World} {T : Nat → List Int} {f : Lit → Option Value} {has : Nat → Prop} (h : Told w T f has) (k : Kp S w w') : Told w' T f has :=
  fun i hi => ⟨fun hh => by obtain ⟨v, h1, h2⟩ := (h i hi).1 hh; exact ⟨v, h1, h2.kp k⟩, (h i hi).2⟩

/-- The mender at block b, over the blocks S. -/
structure MRep (w : World) (b : Nat) (S : Nat → Prop) (Q : Qm) (T : Nat → List Int) (hs : List Bool) (su n : Nat) (has : Nat → Prop) : Prop where
  at_ : ∃ hb mb f, w.heap[b]? = some (.cells #[.int .i64 Q.p, .int .i64 Q.q, .int .i64 Q.a, .slice (some ⟨hb, 0, none⟩) Q.p Q.p, .int .u64 su, .map (some mb)] 156 (0, 0)) ∧
    w.heap[hb]? = some (.cells (hs.map Value.bool).toArray 4 (0, 0)) ∧ S hb ∧ S mb ∧ MapF Try.prog 43 w mb n f ∧ Told w T f has
  sb : S b
  hl : hs.length = Q.p
  lt : ∀ k, S k → k < w.heap.size
theorem MRep.kp {w w' : World} {b : Nat} {S X : Nat → Prop} {Q : Qm} {T : Nat → List Int} {hs : List Bool} {su n : Nat} {has : Nat → Prop} (h : MRep w b S Q T hs su n has) (k : Kp X w w') (hd : ∀ i, S i → ¬ X i) : MRep w' b S Q T hs su n has := by
  obtain ⟨⟨hb, mb, f, h1, h2, h3, h4, h5, h6⟩, h7, h8, h9⟩ := h
  exact ⟨⟨hb, mb, f, k.blk h1 (hd _ h7), k.blk h2 (hd _ h3), h3, h4, h5.kp k (hd _ h4), h6.kp k⟩, h7, h8, fun i hi => Nat.lt_of_lt_of_le (h9 i hi) k.size⟩

theorem Try.info156z (w : World) : (zeroValue 156).run Try.prog w = .ok (.agg #[.int .i64 0, .int .i64 0, .int .i64 0, .slice none 0 0, .int .u64 0, .map none]) w := by kernel_rfl

theorem map_step {ops : Array Oper} {o : Oper} {a : Act} {Q : Exit → Act → World → Prop} {K : Act → World → Prop} {N : Option Tmp} {W : World} (hw : Region.wanted o (yielded ops a.tmps) = true) (hN : o.dst = N)
    (hrun : (execOp a.eval o).run Try.prog W = .ok (.value (.map (some W.heap.size))) (W.alloc (.map #[] 0)))
    (h : ∀ m w1, W.heap.size ≤ m → MapF Try.prog 43 w1 m 0 (fun _ => none) → Below W.heap.size W w1 → K (a.put N (.map (some m))) w1) : if Region.wanted o (yielded ops a.tmps) = true then Oper.wp Try.prog o a W K Q else K (a.put N undef) W := by
  rw [if_pos hw]
  subst hN
  unfold Oper.wp
  rw [hrun]
  exact h _ _ (Nat.le_refl _) (MapF.made W) (below_alloc (Below.refl _ _) _)

def g14_3.T : Bool × List (List Nat × List Nat) := (true, [([], []), ([], []), ([1], [1]), ([2, 2], [2]), ([], []), ([0, 3, 4], [0, 3, 4]), ([5], [5]), ([6, 0, 1, 2, 3, 4, 5, 6], [6]), ([7, 0, 1, 2, 3, 4, 5, 6, 7], [])])
def g14_3.B : List Nat := [0, 0, 2, 6, 0, 31, 63, 127, 255]
theorem g14_3.tab : rtab .any (opsOf Try.f14 3) = g14_3.T := by kernel_rfl
theorem g14_3.bits : waitsOk g14_3.T.2 g14_3.B = true := by kernel_rfl

set_option maxRecDepth 100000 in
set_option maxHeartbeats 1000000 in
theorem mender_new (Q : Qm) (T : Nat → List Int) (w : World) : Calls Try.prog 14 #[Q.val] w fun e w' => ∃ b S, e = .returned (.tuple #[.pointer (some ⟨b, 0, none⟩), .int .i64 0]) ∧ MRep w' b S Q T (List.replicate Q.p false) 0 0 (fun _ => False) ∧ (∀ k, S k → w.heap.size ≤ k) ∧ Below w.heap.size w w' := by
  have hz := Try.info156z
  have hmk := run_make_said Q.p Q.h4
  have hmm := @run_makeMap Try.prog
  unfold Qm.val
  go_enter Try.func14, Try.ntmps14
  go_wp2_with (first
    | ((with_reducible refine gate_dst (N := 1) rfl ?_); refine alloc_event (N := 1) rfl rfl (cs := #[.int .i64 Q.p, .int .i64 Q.q, .int .i64 Q.a]) (t := 26) (fun g => .pointer (some ⟨g, 0, none⟩)) ?hr ?_; (case hr => first | (go_simp; done) | (go_simp; rfl)); intro g w0 hg hbox hb0; obtain ⟨c0, c1, c2⟩ := cells3 hbox)
    | (go_at_call 69; refine (check_yes Q _).mono ?_; rintro e w1 ⟨rfl, hb⟩; obtain ⟨d0, d1, d2⟩ := cells3 (blk_below hbox hb)))
  have HW0 := Aside0.mk (below_step hb0 hb)
  clear hb0 hb hbox hg c0 c1 c2
  refine start_ (n := 9) (S := fun w' => w'.cell? ⟨g, 0, none⟩ = some (.int .i64 Q.p) ∧ w'.cell? ⟨g, 1, none⟩ = some (.int .i64 Q.q) ∧ w'.cell? ⟨g, 2, none⟩ = some (.int .i64 Q.a)) (ds := []) #[false, false, false, false, false, false, false, false, false] (by kernel_rfl) rfl rfl (⟨by go_simp, by go_simp, by go_simp⟩) (fun hHeld => ?_)
  refine with_tabW g14_3.tab g14_3.bits (fun HT_ HW_ => ?_)
  generalize hgen : w1.drew = W0 at hHeld ⊢; have HW : Aside0 (Below w.heap.size w W0) := ⟨by rw [← hgen]; exact below_drew1 HW0.out⟩; clear hgen HW0 d0 d1 d2
  refine take_ (i := 0) (N := (some 7)) (v := ?_) (a' := ?_) #[true, false, false, false, false, false, false, false, false] rfl rfl (take_ofW HT_.out HW_.out (by kernel_rfl)) (fun _ _ _ h => h) (Or.inl ⟨by rfl, ?_⟩) hHeld ?_ ?_
  rotate_left
  · (intro w' hSw; (try dsimp only at hSw); go_split_ands; go_simp; try with_reducible rfl)
  rotate_left
  · simp only [Act.put, List.setIfInBounds_toArray, List.set_cons_zero, List.set_cons_succ, i64_w, i32_w]
    rfl
  refine pure_ (i := 1) (N := (some 8)) (v := ?_) (a' := ?_) #[true, true, false, false, false, false, false, false, false] rfl rfl (any_of HT_.out (by kernel_rfl)) (fun _ _ _ h => h) (Or.inl ⟨by rfl, ?_⟩) ?_ ?_
  rotate_left
  · (intro w'; go_simp; try with_reducible rfl)
  rotate_left
  · simp only [Act.put, List.setIfInBounds_toArray, List.set_cons_zero, List.set_cons_succ, i64_w, i32_w]
    rfl
  refine take_ (i := 2) (N := (some 9)) (v := ?_) (a' := ?_) #[true, true, true, false, false, false, false, false, false] rfl rfl (take_ofW HT_.out HW_.out (by kernel_rfl)) (fun _ _ _ h => h) (Or.inl ⟨by rfl, ?_⟩) hHeld ?_ ?_
  rotate_left
  · (intro w' hSw; (try dsimp only at hSw); go_split_ands; go_simp; try with_reducible rfl)
  rotate_left
  · simp only [Act.put, List.setIfInBounds_toArray, List.set_cons_zero, List.set_cons_succ, i64_w, i32_w]
    rfl
  refine two_ (i := 3) (j := 4) (Ni := (some 10)) (Nj := (some 11)) #[true, true, true, true, false, false, false, false, false] #[true, true, true, false, true, false, false, false, false] rfl rfl rfl rfl (two_of HT_.out (by kernel_rfl)) (by decide) (by decide) (fun K hK => ?_) (fun K hK => ?_)
  · refine alloc_step (by rfl) rfl (cs := madeCells #[.bool false] Q.p) (t := 4) (fun g => .slice (some ⟨g, 0, none⟩) Q.p Q.p) ?_ ?_
    · go_simp
    intro h w2 hg hblk hb1
    have HG := Aside0.mk (Nat.le_trans HW.out.size hg)
    have n0 := Aside0.mk (below_step HW.out hb1)
    have HH := Aside0.mk hblk
    (try have n1 := Aside0.mk (HM.out.moved (hb1.block _ HM.out.lt)); clear HM; have HM := n1; clear n1)
    clear HW hblk hg
    have HW := n0
    clear n0
    refine hK.out _ _ (⟨(hb1.cell (World.block_lt_of_cell? _ _ hHeld.1)).trans hHeld.1, (hb1.cell (World.block_lt_of_cell? _ _ hHeld.2.1)).trans hHeld.2.1, (hb1.cell (World.block_lt_of_cell? _ _ hHeld.2.2)).trans hHeld.2.2⟩) (fun hHeld => ?_)
    clear hK K
    refine norm_ (a' := ?_) ?_ ?_
    rotate_left
    · show Act.put _ (some 10) _ = _
      simp only [Act.put, List.setIfInBounds_toArray, List.set_cons_zero, List.set_cons_succ, i64_w, i32_w]
      rfl
    clear hb1
    refine one_ (i := 4) (N := (some 11)) #[true, true, true, true, true, false, false, false, false] rfl rfl (one_of HT_.out (by kernel_rfl)) (by decide) (fun K hK => ?_)
    refine map_step (by rfl) rfl ?_ ?_
    · go_simp
    intro mb w2 hg hmap hb1
    have HGM := Aside0.mk (Nat.le_trans HW.out.size hg)
    have n0 := Aside0.mk (below_step HW.out hb1)
    have HM := Aside0.mk hmap
    (try have n1 := Aside0.mk (blk_below HH.out hb1); clear HH; have HH := n1; clear n1)
    clear HW hmap hg
    have HW := n0
    clear n0
    refine hK.out _ _ (⟨(hb1.cell (World.block_lt_of_cell? _ _ hHeld.1)).trans hHeld.1, (hb1.cell (World.block_lt_of_cell? _ _ hHeld.2.1)).trans hHeld.2.1, (hb1.cell (World.block_lt_of_cell? _ _ hHeld.2.2)).trans hHeld.2.2⟩) (fun hHeld => ?_)
    clear hK K
    refine norm_ (a' := ?_) ?_ ?_
    rotate_left
    · show Act.put _ (some 11) _ = _
      simp only [Act.put, List.setIfInBounds_toArray, List.set_cons_zero, List.set_cons_succ, i64_w, i32_w]
      rfl
    clear hb1
    refine pure_ (i := 5) (N := (some 12)) (v := ?_) (a' := ?_) #[true, true, true, true, true, true, false, false, false] rfl rfl (any_of HT_.out (by kernel_rfl)) (fun _ _ _ h => h) (Or.inl ⟨by rfl, ?_⟩) ?_ ?_
    rotate_left
    · (intro w'; go_simp; try with_reducible rfl)
    rotate_left
    · simp only [Act.put, List.setIfInBounds_toArray, List.set_cons_zero, List.set_cons_succ, i64_w, i32_w]
      rfl
    refine one_ (i := 6) (N := (some 13)) #[true, true, true, true, true, true, true, false, false] rfl rfl (one_of HT_.out (by kernel_rfl)) (by decide) (fun K hK => ?_)
    refine alloc_step (by rfl) rfl (cs := #[.int .i64 Q.p, .int .i64 Q.q, .int .i64 Q.a, .slice (some ⟨h, 0, none⟩) Q.p Q.p, .int .u64 0, .map (some mb)]) (t := 156) (fun g => .pointer (some ⟨g, 0, none⟩)) ?_ ?_
    · go_simp
    intro b w2 hg hblk hb1
    have HGB := Aside0.mk (Nat.le_trans HW.out.size hg)
    have n0 := Aside0.mk (below_step HW.out hb1)
    have HB := Aside0.mk hblk
    have n1 := Aside0.mk (blk_below HH.out hb1)
    have n2 := Aside0.mk (HM.out.moved (hb1.block _ HM.out.lt))
    clear HW HH HM hblk hg
    have HW := n0
    have HH := n1
    have HM := n2
    clear n0 n1 n2
    refine hK.out _ _ (⟨(hb1.cell (World.block_lt_of_cell? _ _ hHeld.1)).trans hHeld.1, (hb1.cell (World.block_lt_of_cell? _ _ hHeld.2.1)).trans hHeld.2.1, (hb1.cell (World.block_lt_of_cell? _ _ hHeld.2.2)).trans hHeld.2.2⟩) (fun hHeld => ?_)
    clear hK K
    refine norm_ (a' := ?_) ?_ ?_
    rotate_left
    · show Act.put _ (some 13) _ = _
      simp only [Act.put, List.setIfInBounds_toArray, List.set_cons_zero, List.set_cons_succ, i64_w, i32_w]
      rfl
    clear hb1
    refine pure_ (i := 7) (N := (some 2)) (v := ?_) (a' := ?_) #[true, true, true, true, true, true, true, true, false] rfl rfl (any_of HT_.out (by kernel_rfl)) (fun _ _ _ h => h) (Or.inl ⟨by rfl, ?_⟩) ?_ ?_
    rotate_left
    · (intro w'; go_simp; try with_reducible rfl)
    rotate_left
    · simp only [Act.put, List.setIfInBounds_toArray, List.set_cons_zero, List.set_cons_succ, i64_w, i32_w]
      rfl
    refine pure_ (i := 8) (N := (some 3)) (v := ?_) (a' := ?_) #[true, true, true, true, true, true, true, true, true] rfl rfl (any_of HT_.out (by kernel_rfl)) (fun _ _ _ h => h) (Or.inl ⟨by rfl, ?_⟩) ?_ ?_
    rotate_left
    · (intro w'; go_simp; try with_reducible rfl)
    rotate_left
    · simp only [Act.put, List.setIfInBounds_toArray, List.set_cons_zero, List.set_cons_succ, i64_w, i32_w]
      rfl
    refine done_ (done_of HT_.out (by kernel_rfl)) ?_
    clear HT_ HW_ hHeld
    go_wp2
    go_ret2
    exact ⟨b, fun k => k = b ∨ k = h ∨ k = mb, rfl, ⟨⟨h, mb, _, HB.out, by have := HH.out; rwa [made_said] at this, .inr (.inl rfl), .inr (.inr rfl), HM.out, fun k hk => ⟨fun hf => hf.elim, fun _ => rfl⟩⟩, .inl rfl, by simp, fun k hk => by
      rcases hk with rfl | rfl | rfl
      · exact lt_of_blk HB.out
      · exact lt_of_blk HH.out
      · exact HM.out.lt⟩, fun k hk => by
      rcases hk with rfl | rfl | rfl
      · exact HGB.out
      · exact HG.out
      · exact HGM.out, HW.out⟩
  · refine map_step (by rfl) rfl ?_ ?_
    · go_simp
    intro mb w2 hg hmap hb1
    have HGM := Aside0.mk (Nat.le_trans HW.out.size hg)
    have n0 := Aside0.mk (below_step HW.out hb1)
    have HM := Aside0.mk hmap
    (try have n1 := Aside0.mk (blk_below HH.out hb1); clear HH; have HH := n1; clear n1)
    clear HW hmap hg
    have HW := n0
    clear n0
    refine hK.out _ _ (⟨(hb1.cell (World.block_lt_of_cell? _ _ hHeld.1)).trans hHeld.1, (hb1.cell (World.block_lt_of_cell? _ _ hHeld.2.1)).trans hHeld.2.1, (hb1.cell (World.block_lt_of_cell? _ _ hHeld.2.2)).trans hHeld.2.2⟩) (fun hHeld => ?_)
    clear hK K
    refine norm_ (a' := ?_) ?_ ?_
    rotate_left
    · show Act.put _ (some 11) _ = _
      simp only [Act.put, List.setIfInBounds_toArray, List.set_cons_zero, List.set_cons_succ, i64_w, i32_w]
      rfl
    clear hb1
    refine one_ (i := 3) (N := (some 10)) #[true, true, true, true, true, false, false, false, false] rfl rfl (one_of HT_.out (by kernel_rfl)) (by decide) (fun K hK => ?_)
    refine alloc_step (by rfl) rfl (cs := madeCells #[.bool false] Q.p) (t := 4) (fun g => .slice (some ⟨g, 0, none⟩) Q.p Q.p) ?_ ?_
    · go_simp
    intro h w2 hg hblk hb1
    have HG := Aside0.mk (Nat.le_trans HW.out.size hg)
    have n0 := Aside0.mk (below_step HW.out hb1)
    have HH := Aside0.mk hblk
    (try have n1 := Aside0.mk (HM.out.moved (hb1.block _ HM.out.lt)); clear HM; have HM := n1; clear n1)
    clear HW hblk hg
    have HW := n0
    clear n0
    refine hK.out _ _ (⟨(hb1.cell (World.block_lt_of_cell? _ _ hHeld.1)).trans hHeld.1, (hb1.cell (World.block_lt_of_cell? _ _ hHeld.2.1)).trans hHeld.2.1, (hb1.cell (World.block_lt_of_cell? _ _ hHeld.2.2)).trans hHeld.2.2⟩) (fun hHeld => ?_)
    clear hK K
    refine norm_ (a' := ?_) ?_ ?_
    rotate_left
    · show Act.put _ (some 10) _ = _
      simp only [Act.put, List.setIfInBounds_toArray, List.set_cons_zero, List.set_cons_succ, i64_w, i32_w]
      rfl
    clear hb1
    refine pure_ (i := 5) (N := (some 12)) (v := ?_) (a' := ?_) #[true, true, true, true, true, true, false, false, false] rfl rfl (any_of HT_.out (by kernel_rfl)) (fun _ _ _ h => h) (Or.inl ⟨by rfl, ?_⟩) ?_ ?_
    rotate_left
    · (intro w'; go_simp; try with_reducible rfl)
    rotate_left
    · simp only [Act.put, List.setIfInBounds_toArray, List.set_cons_zero, List.set_cons_succ, i64_w, i32_w]
      rfl
    refine one_ (i := 6) (N := (some 13)) #[true, true, true, true, true, true, true, false, false] rfl rfl (one_of HT_.out (by kernel_rfl)) (by decide) (fun K hK => ?_)
    refine alloc_step (by rfl) rfl (cs := #[.int .i64 Q.p, .int .i64 Q.q, .int .i64 Q.a, .slice (some ⟨h, 0, none⟩) Q.p Q.p, .int .u64 0, .map (some mb)]) (t := 156) (fun g => .pointer (some ⟨g, 0, none⟩)) ?_ ?_
    · go_simp
    intro b w2 hg hblk hb1
    have HGB := Aside0.mk (Nat.le_trans HW.out.size hg)
    have n0 := Aside0.mk (below_step HW.out hb1)
    have HB := Aside0.mk hblk
    have n1 := Aside0.mk (blk_below HH.out hb1)
    have n2 := Aside0.mk (HM.out.moved (hb1.block _ HM.out.lt))
    clear HW HH HM hblk hg
    have HW := n0
    have HH := n1
    have HM := n2
    clear n0 n1 n2
    refine hK.out _ _ (⟨(hb1.cell (World.block_lt_of_cell? _ _ hHeld.1)).trans hHeld.1, (hb1.cell (World.block_lt_of_cell? _ _ hHeld.2.1)).trans hHeld.2.1, (hb1.cell (World.block_lt_of_cell? _ _ hHeld.2.2)).trans hHeld.2.2⟩) (fun hHeld => ?_)
    clear hK K
    refine norm_ (a' := ?_) ?_ ?_
    rotate_left
    · show Act.put _ (some 13) _ = _
      simp only [Act.put, List.setIfInBounds_toArray, List.set_cons_zero, List.set_cons_succ, i64_w, i32_w]
      rfl
    clear hb1
    refine pure_ (i := 7) (N := (some 2)) (v := ?_) (a' := ?_) #[true, true, true, true, true, true, true, true, false] rfl rfl (any_of HT_.out (by kernel_rfl)) (fun _ _ _ h => h) (Or.inl ⟨by rfl, ?_⟩) ?_ ?_
    rotate_left
    · (intro w'; go_simp; try with_reducible rfl)
    rotate_left
    · simp only [Act.put, List.setIfInBounds_toArray, List.set_cons_zero, List.set_cons_succ, i64_w, i32_w]
      rfl
    refine pure_ (i := 8) (N := (some 3)) (v := ?_) (a' := ?_) #[true, true, true, true, true, true, true, true, true] rfl rfl (any_of HT_.out (by kernel_rfl)) (fun _ _ _ h => h) (Or.inl ⟨by rfl, ?_⟩) ?_ ?_
    rotate_left
    · (intro w'; go_simp; try with_reducible rfl)
    rotate_left
    · simp only [Act.put, List.setIfInBounds_toArray, List.set_cons_zero, List.set_cons_succ, i64_w, i32_w]
      rfl
    refine done_ (done_of HT_.out (by kernel_rfl)) ?_
    clear HT_ HW_ hHeld
    go_wp2
    go_ret2
    exact ⟨b, fun k => k = b ∨ k = h ∨ k = mb, rfl, ⟨⟨h, mb, _, HB.out, by have := HH.out; rwa [made_said] at this, .inr (.inl rfl), .inr (.inr rfl), HM.out, fun k hk => ⟨fun hf => hf.elim, fun _ => rfl⟩⟩, .inl rfl, by simp, fun k hk => by
      rcases hk with rfl | rfl | rfl
      · exact lt_of_blk HB.out
      · exact lt_of_blk HH.out
      · exact HM.out.lt⟩, fun k hk => by
      rcases hk with rfl | rfl | rfl
      · exact HGB.out
      · exact HG.out
      · exact HGM.out, HW.out⟩

def g15_1.T : Bool × List (List Nat × List Nat) := (true, [([], []), ([0], [0]), ([1], [1]), ([2], [2]), ([3, 2], [2, 3]), ([4, 2], [2, 4]), ([5, 2], [2, 5]), ([2], [2]), ([7, 2], [2, 7]), ([8, 2], [2, 8]), ([9, 2], [2, 9]), ([6, 10, 2, 2], [2, 6, 10]), ([2, 11], [2, 11]), ([12, 11, 0, 1, 2, 3, 4, 5, 6, 7, 8, 9, 10, 11, 12], [12])])
def g15_1.B : List Nat := [0, 1, 3, 7, 15, 31, 63, 7, 135, 391, 903, 2047, 4095, 8191]
theorem g15_1.tab : rtab .any (opsOf Try.f15 1) = g15_1.T := by kernel_rfl
theorem g15_1.bits : waitsOk g15_1.T.2 g15_1.B = true := by kernel_rfl

set_option maxRecDepth 100000 in
set_option maxHeartbeats 1000000 in
theorem mender_ready (Q : Qm) (T : Nat → List Int) (b : Nat) (S : Nat → Prop) (hs : List Bool) (su n : Nat) (has : Nat → Prop) (w : World) (h : MRep w b S Q T hs su n has) :
    Calls Try.prog 15 #[.pointer (some ⟨b, 0, none⟩)] w fun e w' => e = .returned (.bool (covB Q hs)) ∧ Below w.heap.size w w' := by
  obtain ⟨⟨hb, mb, f, hblk, hh, _, _, _, _⟩, _, hl, _⟩ := h
  have c0 : w.cell? ⟨b, 0, none⟩ = some (.int .i64 Q.p) := (blk_cell hblk 0).trans rfl
  have c1 : w.cell? ⟨b, 1, none⟩ = some (.int .i64 Q.q) := (blk_cell hblk 1).trans rfl
  have c2 : w.cell? ⟨b, 2, none⟩ = some (.int .i64 Q.a) := (blk_cell hblk 2).trans rfl
  have c3 : w.cell? ⟨b, 3, none⟩ = some (.slice (some ⟨hb, 0, none⟩) Q.p Q.p) := (blk_cell hblk 3).trans rfl
  have HC := Aside0.mk (show Kd.C Kd.bool w (some ⟨hb, 0, none⟩) Q.p hs by have := c_of_blk hh (by have := Q.h4; omega); rwa [hl] at this)
  have HL := Aside0.mk hl
  clear hblk hh hl
  go_enter Try.func15, Try.ntmps15
  go_wp2
  refine start_ (n := 14) (S := fun w' => w'.cell? ⟨b, 0, none⟩ = some (.int .i64 Q.p) ∧ w'.cell? ⟨b, 1, none⟩ = some (.int .i64 Q.q) ∧ w'.cell? ⟨b, 2, none⟩ = some (.int .i64 Q.a) ∧ w'.cell? ⟨b, 3, none⟩ = some (.slice (some ⟨hb, 0, none⟩) Q.p Q.p)) (ds := []) #[false, false, false, false, false, false, false, false, false, false, false, false, false, false] (by kernel_rfl) rfl rfl (⟨by go_simp, by go_simp, by go_simp, by go_simp⟩) (fun hHeld => ?_)
  refine with_tabW g15_1.tab g15_1.bits (fun HT_ HW_ => ?_)
  generalize hgen : w.drew = W0 at hHeld ⊢; have HW : Aside0 (Below w.heap.size w W0) := ⟨by rw [← hgen]; exact below_drew1 (Below.refl _ _)⟩; clear hgen c0 c1 c2 c3
  refine pure_ (i := 0) (N := (some 3)) (v := ?_) (a' := ?_) #[true, false, false, false, false, false, false, false, false, false, false, false, false, false] rfl rfl (any_of HT_.out (by kernel_rfl)) (fun _ _ _ h => h) (Or.inl ⟨by rfl, ?_⟩) ?_ ?_
  rotate_left
  · (intro w'; go_simp; try with_reducible rfl)
  rotate_left
  · simp only [Act.put, List.setIfInBounds_toArray, List.set_cons_zero, List.set_cons_succ, i64_w, i32_w]
    rfl
  refine pure_ (i := 1) (N := (some 4)) (v := ?_) (a' := ?_) #[true, true, false, false, false, false, false, false, false, false, false, false, false, false] rfl rfl (any_of HT_.out (by kernel_rfl)) (fun _ _ _ h => h) (Or.inl ⟨by rfl, ?_⟩) ?_ ?_
  rotate_left
  · (intro w'; go_simp; try with_reducible rfl)
  rotate_left
  · simp only [Act.put, List.setIfInBounds_toArray, List.set_cons_zero, List.set_cons_succ, i64_w, i32_w]
    rfl
  refine pure_ (i := 2) (N := (some 5)) (v := ?_) (a' := ?_) #[true, true, true, false, false, false, false, false, false, false, false, false, false, false] rfl rfl (any_of HT_.out (by kernel_rfl)) (fun _ _ _ h => h) (Or.inl ⟨by rfl, ?_⟩) ?_ ?_
  rotate_left
  · (intro w'; go_simp; try with_reducible rfl)
  rotate_left
  · simp only [Act.put, List.setIfInBounds_toArray, List.set_cons_zero, List.set_cons_succ, i64_w, i32_w]
    rfl
  refine pure_ (i := 3) (N := (some 6)) (v := ?_) (a' := ?_) #[true, true, true, true, false, false, false, false, false, false, false, false, false, false] rfl rfl (any_of HT_.out (by kernel_rfl)) (fun _ _ _ h => h) (Or.inl ⟨by rfl, ?_⟩) ?_ ?_
  rotate_left
  · (intro w'; go_simp; try with_reducible rfl)
  rotate_left
  · simp only [Act.put, List.setIfInBounds_toArray, List.set_cons_zero, List.set_cons_succ, i64_w, i32_w]
    rfl
  refine pure_ (i := 4) (N := (some 7)) (v := ?_) (a' := ?_) #[true, true, true, true, true, false, false, false, false, false, false, false, false, false] rfl rfl (any_of HT_.out (by kernel_rfl)) (fun _ _ _ h => h) (Or.inl ⟨by rfl, ?_⟩) ?_ ?_
  rotate_left
  · (intro w'; go_simp; try with_reducible rfl)
  rotate_left
  · simp only [Act.put, List.setIfInBounds_toArray, List.set_cons_zero, List.set_cons_succ, i64_w, i32_w]
    rfl
  refine pure_ (i := 5) (N := (some 8)) (v := ?_) (a' := ?_) #[true, true, true, true, true, true, false, false, false, false, false, false, false, false] rfl rfl (any_of HT_.out (by kernel_rfl)) (fun _ _ _ h => h) (Or.inl ⟨by rfl, ?_⟩) ?_ ?_
  rotate_left
  · (intro w'; go_simp; try with_reducible rfl)
  rotate_left
  · simp only [Act.put, List.setIfInBounds_toArray, List.set_cons_zero, List.set_cons_succ, i64_w, i32_w]
    rfl
  refine take_ (i := 6) (N := (some 9)) (v := ?_) (a' := ?_) #[true, true, true, true, true, true, true, false, false, false, false, false, false, false] rfl rfl (take_ofW HT_.out HW_.out (by kernel_rfl)) (fun _ _ _ h => h) (Or.inl ⟨by rfl, ?_⟩) hHeld ?_ ?_
  rotate_left
  · (intro w' hSw; (try dsimp only at hSw); go_split_ands; go_simp; try with_reducible rfl)
  rotate_left
  · simp only [Act.put, List.setIfInBounds_toArray, List.set_cons_zero, List.set_cons_succ, i64_w, i32_w]
    rfl
  refine pure_ (i := 7) (N := (some 10)) (v := ?_) (a' := ?_) #[true, true, true, true, true, true, true, true, false, false, false, false, false, false] rfl rfl (any_of HT_.out (by kernel_rfl)) (fun _ _ _ h => h) (Or.inl ⟨by rfl, ?_⟩) ?_ ?_
  rotate_left
  · (intro w'; go_simp; try with_reducible rfl)
  rotate_left
  · simp only [Act.put, List.setIfInBounds_toArray, List.set_cons_zero, List.set_cons_succ, i64_w, i32_w]
    rfl
  refine pure_ (i := 8) (N := (some 11)) (v := ?_) (a' := ?_) #[true, true, true, true, true, true, true, true, true, false, false, false, false, false] rfl rfl (any_of HT_.out (by kernel_rfl)) (fun _ _ _ h => h) (Or.inl ⟨by rfl, ?_⟩) ?_ ?_
  rotate_left
  · (intro w'; go_simp; try with_reducible rfl)
  rotate_left
  · simp only [Act.put, List.setIfInBounds_toArray, List.set_cons_zero, List.set_cons_succ, i64_w, i32_w]
    rfl
  refine pure_ (i := 9) (N := (some 12)) (v := ?_) (a' := ?_) #[true, true, true, true, true, true, true, true, true, true, false, false, false, false] rfl rfl (any_of HT_.out (by kernel_rfl)) (fun _ _ _ h => h) (Or.inl ⟨by rfl, ?_⟩) ?_ ?_
  rotate_left
  · (intro w'; go_simp; try with_reducible rfl)
  rotate_left
  · simp only [Act.put, List.setIfInBounds_toArray, List.set_cons_zero, List.set_cons_succ, i64_w, i32_w]
    rfl
  refine take_ (i := 10) (N := (some 13)) (v := ?_) (a' := ?_) #[true, true, true, true, true, true, true, true, true, true, true, false, false, false] rfl rfl (take_ofW HT_.out HW_.out (by kernel_rfl)) (fun _ _ _ h => h) (Or.inl ⟨by rfl, ?_⟩) hHeld ?_ ?_
  rotate_left
  · (intro w' hSw; (try dsimp only at hSw); go_split_ands; go_simp; try with_reducible rfl)
  rotate_left
  · simp only [Act.put, List.setIfInBounds_toArray, List.set_cons_zero, List.set_cons_succ, i64_w, i32_w]
    rfl
  refine one_ (i := 11) (N := (some 14)) #[true, true, true, true, true, true, true, true, true, true, true, true, false, false] rfl rfl (one_of HT_.out (by kernel_rfl)) (by decide) (fun K hK => ?_)
  refine goes_ Try.func70 (by kernel_rfl) rfl #[.agg #[.int .i64 Q.p, .int .i64 Q.q, .int .i64 Q.a], .slice (some ⟨hb, 0, none⟩) Q.p Q.p] (by rfl) rfl rfl (by (try simp only [List.map_toArray, List.map_cons, List.map_nil]); rfl) ((covered_calls Q hs HL.out _ _ _ (Kd.C_below HC.out HW.out) (Nat.le_refl _)).mono ?_)
  rintro e w1 ⟨rfl, hb1⟩
  refine ⟨_, rfl, ?_⟩
  have n0 := Aside0.mk (below_step HW.out hb1)
  clear HW
  have HW := n0
  clear n0
  refine hK.out _ _ (⟨(hb1.cell (World.block_lt_of_cell? _ _ hHeld.1)).trans hHeld.1, (hb1.cell (World.block_lt_of_cell? _ _ hHeld.2.1)).trans hHeld.2.1, (hb1.cell (World.block_lt_of_cell? _ _ hHeld.2.2.1)).trans hHeld.2.2.1, (hb1.cell (World.block_lt_of_cell? _ _ hHeld.2.2.2)).trans hHeld.2.2.2⟩) (fun hHeld => ?_)
  clear hK K
  refine norm_ (a' := ?_) ?_ ?_
  rotate_left
  · show Act.put _ (some 14) _ = _
    simp only [Act.put, List.setIfInBounds_toArray, List.set_cons_zero, List.set_cons_succ, i64_w, i32_w]
    rfl
  clear hb1
  refine pure_ (i := 12) (N := (some 15)) (v := ?_) (a' := ?_) #[true, true, true, true, true, true, true, true, true, true, true, true, true, false] rfl rfl (any_of HT_.out (by kernel_rfl)) (fun _ _ _ h => h) (Or.inl ⟨by rfl, ?_⟩) ?_ ?_
  rotate_left
  · (intro w'; go_simp; try with_reducible rfl)
  rotate_left
  · simp only [Act.put, List.setIfInBounds_toArray, List.set_cons_zero, List.set_cons_succ, i64_w, i32_w]
    rfl
  refine pure_ (i := 13) (N := (some 2)) (v := ?_) (a' := ?_) #[true, true, true, true, true, true, true, true, true, true, true, true, true, true] rfl rfl (any_of HT_.out (by kernel_rfl)) (fun _ _ _ h => h) (Or.inl ⟨by rfl, ?_⟩) ?_ ?_
  rotate_left
  · (intro w'; go_simp; try with_reducible rfl)
  rotate_left
  · simp only [Act.put, List.setIfInBounds_toArray, List.set_cons_zero, List.set_cons_succ, i64_w, i32_w]
    rfl
  refine done_ (done_of HT_.out (by kernel_rfl)) ?_
  clear HT_ HW_ hHeld
  go_wp2
  go_ret
  exact ⟨rfl, HW.out⟩

theorem equal_bytes (v1 v2 : Value) (xs : List Int) (w : World) (h1 : Bs w v1 xs) (h2 : Bs w v2 xs) : Calls Try.prog 78 #[v1, v2] w fun e w' => e = .returned (.bool true) ∧ ∃ m, w' = w.drewN m := by
  obtain ⟨A1, c1, rfl, l1, C1, _⟩ := h1
  obtain ⟨A2, c2, rfl, l2, C2, _⟩ := h2
  refine (PMenderKeeps.bytes_Equal.calls A1 c1 xs A2 c2 xs true w C1 l1 C2 l2 (by simp [PMenderKeeps.bytes_Equal.f])).mono ?_
  rintro e w' ⟨rfl, ⟨m, rfl⟩⟩
  exact ⟨rfl, m, rfl⟩

set_option maxRecDepth 100000 in
theorem other_calls (T : Nat → List Int) (e ex : Nat) (v vx : Value) (gx : Nat) (w : World) (hv : Bs w v (T e)) (hvx : Bs w vx (T ex)) (h0 : w.cell? ⟨gx, 0, none⟩ = some (.int .u64 ex)) (h1 : w.cell? ⟨gx, 1, none⟩ = some vx) :
    Calls Try.prog 77 #[.agg #[.int .u64 e, v], .pointer (some ⟨gx, 0, none⟩)] w fun e w' => e = .returned (.bool false) ∧ Below w.heap.size w w' := by
  have HV := Lib.hid hv
  have HVX := Lib.hid hvx
  obtain ⟨A, c, rfl, _⟩ := hv
  obtain ⟨Ax, cx, rfl, _⟩ := hvx
  by_cases he : e = ex
  · subst he
    go_enter Try.func77, Try.ntmps77
    go_wp2_with (first
      | ((with_reducible refine gate_dst (N := 2) rfl ?_); refine alloc_event (N := 2) rfl rfl (cs := #[.int .u64 e, .slice A (T e).length c]) (t := 49) (fun g => .pointer (some ⟨g, 0, none⟩)) ?hr ?_; (case hr => first | (go_simp; done) | (go_simp; rfl)); intro g w0 hg hbox hb0; have c0 := (blk_cell hbox 0).trans rfl; have c1 := (blk_cell hbox 1).trans rfl; have d0 := (hb0.cell (World.block_lt_of_cell? _ _ h0)).trans h0; have d1 := (hb0.cell (World.block_lt_of_cell? _ _ h1)).trans h1)
      | (go_at_call 78; refine (equal_bytes _ _ (T e) _ (HV.out.kp (Kp.of_below (fun _ => False) hb0)) (HVX.out.kp (Kp.of_below (fun _ => False) hb0))).mono ?_; rintro e w1 ⟨rfl, ⟨m, rfl⟩⟩))
    go_ret
    exact ⟨rfl, pw_below_drewN hb0 _⟩
  · have hd : ((e : Int) == (ex : Int)) = false := by
      rw [beq_eq_false_iff_ne]
      omega
    clear he
    go_enter Try.func77, Try.ntmps77
    go_wp2_with (first
      | ((with_reducible refine gate_dst (N := 2) rfl ?_); refine alloc_event (N := 2) rfl rfl (cs := #[.int .u64 e, .slice A (T e).length c]) (t := 49) (fun g => .pointer (some ⟨g, 0, none⟩)) ?hr ?_; (case hr => first | (go_simp; done) | (go_simp; rfl)); intro g w0 hg hbox hb0; have c0 := (blk_cell hbox 0).trans rfl; have c1 := (blk_cell hbox 1).trans rfl; have d0 := (hb0.cell (World.block_lt_of_cell? _ _ h0)).trans h0; have d1 := (hb0.cell (World.block_lt_of_cell? _ _ h1)).trans h1))
    go_ret
    exact ⟨rfl, hb0⟩

end Go.Proofs.Ytigcpknfcdcllaa
