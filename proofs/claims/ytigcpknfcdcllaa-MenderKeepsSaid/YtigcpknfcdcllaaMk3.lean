/- The writer's Ack; quorum.Enough. -/
import Derived.Test.YtigcpknfcdcllaaMkq
namespace Go.Proofs.Ytigcpknfcdcllaa
open Go.RowKit Go.Proofs.YtigcpknfcdcllaaW.PrintWords Go.Proofs.YtigcpknfcdcllaaW.PrintLast Go.Proofs.YtigcpknfcdcllaaLb
set_option linter.unusedSimpArgs false
set_option linter.unusedVariables false

def g76_1.T : Bool × List (List Nat × List Nat) := (true, [([], []), ([0], [0]), ([1, 1], [1]), ([2], [2]), ([2], [2]), ([2], [2]), ([3, 4, 5, 2, 2], [2, 3, 4, 5]), ([2], [2]), ([7, 2], [2, 7]), ([6, 8, 2], [2, 6, 8]), ([2, 9], [2, 9]), ([10, 6, 0, 1, 2, 3, 4, 5, 6, 7, 8, 9, 10], [10])])
def g76_1.B : List Nat := [0, 1, 3, 7, 7, 7, 63, 7, 135, 511, 1023, 2047]
theorem g76_1.tab : rtab .any (opsOf Try.f76 1) = g76_1.T := by kernel_rfl
theorem g76_1.bits : waitsOk g76_1.T.2 g76_1.B = true := by kernel_rfl

set_option maxRecDepth 100000 in
set_option maxHeartbeats 1000000 in
theorem enough_calls (Q : Qm) (n : Nat) (hn : n < 18446744073709551616) (s : List Bool) (hs : s.length = Q.p) (A : Option Addr) (c : Nat) (w : World) (hC : Kd.C Kd.bool w A Q.p s) (hc : Q.p ≤ c) :
    Calls Try.prog 76 #[Q.val, .int .u64 n, .slice A Q.p c] w fun e w' => e = .returned (.bool (decide (Q.a ≤ cnt Q n s))) ∧ Below w.heap.size w w' := by
  have HN := Lib.hid hn
  have HS := Lib.hid hs
  have HC := Lib.hid hC
  have HCc := Lib.hid hc
  clear hn hs hC hc
  unfold Qm.val
  go_enter Try.func76, Try.ntmps76
  go_wp2_with (first
    | ((with_reducible refine gate_dst (N := 3) rfl ?_); refine alloc_event (N := 3) rfl rfl (cs := #[.int .i64 Q.p, .int .i64 Q.q, .int .i64 Q.a]) (t := 26) (fun g => .pointer (some ⟨g, 0, none⟩)) ?hr ?_; (case hr => first | (go_simp; done) | (go_simp; rfl)); intro g w0 hg hbox hb0; obtain ⟨c0, c1, c2⟩ := cells3 hbox))
  have HB := Aside0.mk hb0
  have HX := Aside0.mk hbox
  clear hb0 hbox hg
  refine start_ (n := 12) (S := fun w' => w'.cell? ⟨g, 0, none⟩ = some (.int .i64 Q.p) ∧ w'.cell? ⟨g, 1, none⟩ = some (.int .i64 Q.q) ∧ w'.cell? ⟨g, 2, none⟩ = some (.int .i64 Q.a)) (ds := []) #[false, false, false, false, false, false, false, false, false, false, false, false] (by kernel_rfl) rfl rfl (⟨by go_simp, by go_simp, by go_simp⟩) (fun hHeld => ?_)
  refine with_tabW g76_1.tab g76_1.bits (fun HT_ HW_ => ?_)
  generalize hgen : w0.drew = W0 at hHeld ⊢; have HW : Aside0 (Below w.heap.size w W0) := ⟨by rw [← hgen]; exact below_drew1 HB.out⟩; have HX0 : Aside0 (W0.heap[g]? = some (.cells #[.int .i64 Q.p, .int .i64 Q.q, .int .i64 Q.a] 26 (0, 0))) := ⟨by rw [← hgen]; exact blk_drew HX.out⟩; clear hgen c0 c1 c2 HB HX
  refine take_ (i := 0) (N := (some 7)) (v := ?_) (a' := ?_) #[true, false, false, false, false, false, false, false, false, false, false, false] rfl rfl (take_ofW HT_.out HW_.out (by kernel_rfl)) (fun _ _ _ h => h) (Or.inl ⟨by rfl, ?_⟩) hHeld ?_ ?_
  rotate_left
  · (intro w' hSw; (try dsimp only at hSw); go_split_ands; go_simp; try with_reducible rfl)
  rotate_left
  · simp only [Act.put, List.setIfInBounds_toArray, List.set_cons_zero, List.set_cons_succ, i64_w, i32_w]
    rfl
  refine one_ (i := 1) (N := (some 8)) #[true, true, false, false, false, false, false, false, false, false, false, false] rfl rfl (one_of HT_.out (by kernel_rfl)) (by decide) (fun K hK => ?_)
  refine goes_ Try.func69 (by kernel_rfl) rfl #[.agg #[.int .i64 Q.p, .int .i64 Q.q, .int .i64 Q.a]] (by rfl) rfl rfl (by (try simp only [List.map_toArray, List.map_cons, List.map_nil]); rfl) ((check_yes Q _).mono ?_)
  rintro e w1 ⟨rfl, hb1⟩
  refine ⟨_, rfl, ?_⟩
  have n0 := Aside0.mk (below_step HW.out hb1)
  have n1 := Aside0.mk (blk_below HX0.out hb1)
  clear HW HX0 hb1
  have HW := n0
  have HX0 := n1
  clear n0 n1
  refine hK.out _ _ (cells3 HX0.out) (fun hHeld => ?_)
  clear hK K
  refine norm_ (a' := ?_) ?_ ?_
  rotate_left
  · show Act.put _ (some 8) _ = _
    simp only [Act.put, List.setIfInBounds_toArray, List.set_cons_zero, List.set_cons_succ, i64_w, i32_w]
    rfl
  refine pure_ (i := 2) (N := (some 9)) (v := ?_) (a' := ?_) #[true, true, true, false, false, false, false, false, false, false, false, false] rfl rfl (any_of HT_.out (by kernel_rfl)) (fun _ _ _ h => h) (Or.inl ⟨by rfl, ?_⟩) ?_ ?_
  rotate_left
  · (intro w'; go_simp; try with_reducible rfl)
  rotate_left
  · simp only [Act.put, List.setIfInBounds_toArray, List.set_cons_zero, List.set_cons_succ, i64_w, i32_w]
    rfl
  refine take_ (i := 3) (N := (some 10)) (v := ?_) (a' := ?_) #[true, true, true, true, false, false, false, false, false, false, false, false] rfl rfl (take_ofW HT_.out HW_.out (by kernel_rfl)) (fun _ _ _ h => h) (Or.inl ⟨by rfl, ?_⟩) hHeld ?_ ?_
  rotate_left
  · (intro w' hSw; (try dsimp only at hSw); go_split_ands; go_simp; try with_reducible rfl)
  rotate_left
  · simp only [Act.put, List.setIfInBounds_toArray, List.set_cons_zero, List.set_cons_succ, i64_w, i32_w]
    rfl
  refine pure_ (i := 4) (N := (some 11)) (v := ?_) (a' := ?_) #[true, true, true, true, true, false, false, false, false, false, false, false] rfl rfl (any_of HT_.out (by kernel_rfl)) (fun _ _ _ h => h) (Or.inl ⟨by rfl, ?_⟩) ?_ ?_
  rotate_left
  · (intro w'; go_simp; try with_reducible rfl)
  rotate_left
  · simp only [Act.put, List.setIfInBounds_toArray, List.set_cons_zero, List.set_cons_succ, i64_w, i32_w]
    rfl
  refine pure_ (i := 5) (N := (some 12)) (v := ?_) (a' := ?_) #[true, true, true, true, true, true, false, false, false, false, false, false] rfl rfl (any_of HT_.out (by kernel_rfl)) (fun _ _ _ h => h) (Or.inl ⟨by rfl, ?_⟩) ?_ ?_
  rotate_left
  · (intro w'; go_simp; try with_reducible rfl)
  rotate_left
  · simp only [Act.put, List.setIfInBounds_toArray, List.set_cons_zero, List.set_cons_succ, i64_w, i32_w]
    rfl
  refine pure_ (i := 7) (N := (some 14)) (v := ?_) (a' := ?_) #[true, true, true, true, true, true, false, true, false, false, false, false] rfl rfl (any_of HT_.out (by kernel_rfl)) (fun _ _ _ h => h) (Or.inl ⟨by rfl, ?_⟩) ?_ ?_
  rotate_left
  · (intro w'; go_simp; try with_reducible rfl)
  rotate_left
  · simp only [Act.put, List.setIfInBounds_toArray, List.set_cons_zero, List.set_cons_succ, i64_w, i32_w]
    rfl
  refine take_ (i := 8) (N := (some 15)) (v := ?_) (a' := ?_) #[true, true, true, true, true, true, false, true, true, false, false, false] rfl rfl (take_ofW HT_.out HW_.out (by kernel_rfl)) (fun _ _ _ h => h) (Or.inl ⟨by rfl, ?_⟩) hHeld ?_ ?_
  rotate_left
  · (intro w' hSw; (try dsimp only at hSw); go_split_ands; go_simp; try with_reducible rfl)
  rotate_left
  · simp only [Act.put, List.setIfInBounds_toArray, List.set_cons_zero, List.set_cons_succ, i64_w, i32_w]
    rfl
  refine one_ (i := 6) (N := (some 13)) #[true, true, true, true, true, true, true, true, true, false, false, false] rfl rfl (one_of HT_.out (by kernel_rfl)) (by decide) (fun K hK => ?_)
  refine goes_ Try.func123 (by kernel_rfl) rfl #[.agg #[.int .i64 Q.p, .int .i64 Q.q, .int .i64 Q.a], .int .u64 n, .slice A Q.p c] (by rfl) rfl rfl (by (try simp only [List.map_toArray, List.map_cons, List.map_nil]); rfl) ((count_calls Q n HN.out s HS.out A c _ (Kd.C_below HC.out HW.out) HCc.out).mono ?_)
  rintro e w1 ⟨rfl, hb1⟩
  refine ⟨_, rfl, ?_⟩
  have n0 := Aside0.mk (below_step HW.out hb1)
  have n1 := Aside0.mk (blk_below HX0.out hb1)
  clear HW HX0 hb1
  have HW := n0
  have HX0 := n1
  clear n0 n1
  refine hK.out _ _ (cells3 HX0.out) (fun hHeld => ?_)
  clear hK K
  refine norm_ (a' := ?_) ?_ ?_
  rotate_left
  · show Act.put _ (some 13) _ = _
    simp only [Act.put, List.setIfInBounds_toArray, List.set_cons_zero, List.set_cons_succ, i64_w, i32_w]
    rfl
  refine pure_ (i := 9) (N := (some 16)) (v := ?_) (a' := ?_) #[true, true, true, true, true, true, true, true, true, true, false, false] rfl rfl (any_of HT_.out (by kernel_rfl)) (fun _ _ _ h => h) (Or.inl ⟨by rfl, ?_⟩) ?_ ?_
  rotate_left
  · (intro w'; go_simp; try with_reducible rfl)
  rotate_left
  · simp only [Act.put, List.setIfInBounds_toArray, List.set_cons_zero, List.set_cons_succ, i64_w, i32_w]
    rfl
  refine pure_ (i := 10) (N := (some 17)) (v := ?_) (a' := ?_) #[true, true, true, true, true, true, true, true, true, true, true, false] rfl rfl (any_of HT_.out (by kernel_rfl)) (fun _ _ _ h => h) (Or.inl ⟨by rfl, ?_⟩) ?_ ?_
  rotate_left
  · (intro w'; go_simp; try with_reducible rfl)
  rotate_left
  · simp only [Act.put, List.setIfInBounds_toArray, List.set_cons_zero, List.set_cons_succ, i64_w, i32_w]
    rfl
  refine pure_ (i := 11) (N := (some 6)) (v := ?_) (a' := ?_) #[true, true, true, true, true, true, true, true, true, true, true, true] rfl rfl (any_of HT_.out (by kernel_rfl)) (fun _ _ _ h => h) (Or.inl ⟨by rfl, ?_⟩) ?_ ?_
  rotate_left
  · (intro w'; go_simp; try with_reducible rfl)
  rotate_left
  · simp only [Act.put, List.setIfInBounds_toArray, List.set_cons_zero, List.set_cons_succ, i64_w, i32_w]
    rfl
  refine done_ (done_of HT_.out (by kernel_rfl)) ?_
  clear HT_ HW_
  go_wp2
  go_ret
  exact ⟨rfl, HW.out⟩

/-- Place p of the entry at i has said so. -/
def markE (es : List Ent) (i p : Nat) : List Ent := es.modify i fun e => { e with s := e.s.set p true }

set_option maxRecDepth 100000 in
theorem ack_old (Q : Qm) (b : Nat) (S : Nat → Prop) (sure n place : Nat) (es : List Ent) (w : World) (h : WRep w b S Q sure es) (hn : n < sure) :
    Calls Try.prog 18 #[.pointer (some ⟨b, 0, none⟩), .int .i64 place, .int .u64 n] w fun e w' => e = .returned (.slice none 0 0) ∧ w = w' := by
  obtain ⟨⟨v, hb, hq, hv⟩, hsb, hents, hdist, hlt⟩ := h
  have c3 : w.cell? ⟨b, 3, none⟩ = some (.int .u64 sure) := (blk_cell hb 3).trans rfl
  have hd : decide (n < sure) = true := decide_eq_true hn
  clear hq hb hents hlt hsb hv hdist
  go_enter Try.func18, Try.ntmps18
  go_wp2
  go_ret
  exact ⟨rfl, rfl⟩

/-- A row that is not empty begins somewhere. -/
theorem q_form {w : World} {base n size : Nat} {e : TypeId} {v : Value} {xs : List Value} (h : QRow w base e size v n xs) (hn : 0 < n) : ∃ g o c, v = .slice (some ⟨g, o, none⟩) n c ∧ n ≤ c ∧ (∃ cur, w.heap[g]? = some (.cells cur e (0, 0))) ∧ ∀ j u, xs[j]? = some u → w.cell? ⟨g, o + j, none⟩ = some u := by
  obtain ⟨A, c, rfl, hc⟩ := q_slice h
  obtain ⟨ad, rfl, hcc⟩ := q_cells h hn
  rcases h.2 with ⟨h0, _⟩ | ⟨g, off, cap, cur, hv, _, hg, _⟩
  · omega
  · injection hv with hv _ _
    injection hv with hv
    subst hv
    exact ⟨g, off * size, c, rfl, hc, ⟨cur, hg⟩, fun j u hu => by have := hcc j u hu; rwa [add_at] at this⟩

theorem markE_get (es : List Ent) (j p : Nat) (x : Ent) (hx : es[j]? = some x) (i : Nat) (e : Ent) (h : (markE es j p)[i]? = some e) : (i = j ∧ e = { x with s := x.s.set p true }) ∨ (i ≠ j ∧ es[i]? = some e) := by
  unfold markE at h
  rw [List.getElem?_modify] at h
  change ((es[i]?).map fun a => if j = i then { a with s := a.s.set p true } else a) = some e at h
  by_cases hi : j = i
  · subst hi
    rw [hx] at h
    exact .inl ⟨rfl, by simpa using h.symm⟩
  · exact .inr ⟨fun e1 => hi e1.symm, by simpa [hi] using h⟩
theorem markE_length (es : List Ent) (j p : Nat) : (markE es j p).length = es.length := by simp [markE]
theorem entCells_mark (q : Nat) (p : Nat) : ∀ (n : Nat) (es : List Ent) (j : Nat), entCells q n (markE es j p) = entCells q n es
  | _, [], _ => by simp [markE]
  | n, e :: r, 0 => by simp [markE, List.modify_zero_cons, entCells]
  | n, e :: r, j + 1 => by
    have h := entCells_mark q p (n + 1) r j
    unfold markE at h ⊢
    rw [List.modify_succ_cons, entCells, entCells, h]
theorem map_g_mark (p : Nat) : ∀ (es : List Ent) (j : Nat), (markE es j p).map Ent.g = es.map Ent.g
  | [], _ => by simp [markE]
  | e :: r, 0 => by simp [markE, List.modify_zero_cons]
  | e :: r, j + 1 => by
    have h := map_g_mark p r j
    unfold markE at h ⊢
    rw [List.modify_succ_cons, List.map_cons, List.map_cons, h]

/-- A place has said so. -/
theorem wrep_mark {w : World} {b : Nat} {S : Nat → Prop} {Q : Qm} {sure : Nat} {es : List Ent} {j place : Nat} {x : Ent} (h : WRep w b S Q sure es) (hx : es[j]? = some x) (hp : place < Q.p) :
    WRep (w.setCell ⟨x.g, place, none⟩ (.bool true)) b S Q sure (markE es j place) ∧ Kp S w (w.setCell ⟨x.g, place, none⟩ (.bool true)) := by
  obtain ⟨⟨v, h1, h2, h3⟩, h4, h5, h6, h7⟩ := h
  obtain ⟨x1, x2, x3, x4⟩ := h5 j x hx
  have K : Kp S w (w.setCell ⟨x.g, place, none⟩ (.bool true)) := (Kp.refl S w).set (p := ⟨x.g, place, none⟩) (fun _ => x4) x2 (by decide) _
  have hgb : b ≠ x.g := fun e1 => by
    rw [← e1, h1] at x2
    injection x2 with x2
    injection x2 with _ x2
    cases x2
  have hgv : ∀ k, v.ownBlock = some k → k ≠ x.g := fun k hk e1 => by
    obtain ⟨_, cells, hc⟩ := q_typed h2 k hk
    rw [e1, x2] at hc
    injection hc with hc
    injection hc with _ hc
    cases hc
  refine ⟨⟨⟨v, (Below.heap_setCell w ⟨x.g, place, none⟩ _ b hgb).trans h1, ?_, h3⟩, h4, fun i e he => ?_, ?_, fun k hk => Nat.lt_of_lt_of_le (h7 k hk) K.size⟩, K⟩
  · rw [entCells_mark, markE_length]
    exact q_move h2 (fun k hk => Below.heap_setCell w ⟨x.g, place, none⟩ _ k (hgv k hk))
  · rcases markE_get es j place x hx i e he with ⟨rfl, rfl⟩ | ⟨hne, he'⟩
    · refine ⟨x1.kp K, ?_, by simp [x3], x4⟩
      have := blk_set x2 place (.bool true)
      rw [this]
      congr 2
      simp [List.map_set]
    · obtain ⟨a1, a2, a3, a4⟩ := h5 i e he'
      have hg : e.g ≠ x.g := by
        obtain ⟨hi, rfl⟩ := List.getElem?_eq_some_iff.1 he'
        obtain ⟨hj, rfl⟩ := List.getElem?_eq_some_iff.1 hx
        rw [List.pairwise_iff_getElem] at h6
        rcases Nat.lt_or_ge i j with hlt | hge
        · exact h6 i j hi hj hlt
        · exact fun e1 => h6 j i hj hi (by omega) e1.symm
      exact ⟨a1.kp K, (Below.heap_setCell w ⟨x.g, place, none⟩ _ e.g hg).trans a2, a3, a4⟩
  · have h8 : (es.map Ent.g).Pairwise (· ≠ ·) := List.pairwise_map.2 h6
    rw [← map_g_mark place es j] at h8
    exact List.pairwise_map.1 h8

theorem entCells_drop (q : Nat) : ∀ (n : Nat) (es : List Ent) (k : Nat), (entCells q n es).drop (k * 3) = entCells q (n + k) (es.drop k)
  | n, es, 0 => by simp
  | n, [], k + 1 => by simp [entCells]
  | n, e :: r, k + 1 => by
    rw [show (k + 1) * 3 = k * 3 + 1 + 1 + 1 by omega, entCells, List.drop_succ_cons, List.drop_succ_cons, List.drop_succ_cons, entCells_drop q (n + 1) r k, List.drop_succ_cons, show n + 1 + k = n + (k + 1) by omega]

def lenOf : Value → Nat
  | .slice _ n _ => n
  | _ => 0
theorem c_of_blk {w : World} {g : Nat} {s : List Bool} (h : w.heap[g]? = some (.cells (s.map Value.bool).toArray 4 (0, 0))) (hs : s.length ≤ 1000) : Kd.C Kd.bool w (some ⟨g, 0, none⟩) s.length s := by
  refine ⟨rfl, by omega, fun _ => ⟨_, rfl, fun j p hj => ⟨[.bool p], rfl, rfl, fun i u hu => ?_⟩⟩⟩
  have hi : i = 0 := by
    have := (List.getElem?_eq_some_iff.1 hu).1
    simpa using this
  subst hi
  have hu' : Value.bool p = u := by simpa using hu
  subst hu'
  rw [show j * Kd.bool.sz + 0 = j by simp [Kd.bool, Kd.scalar], add_plain, blk_cell h j]
  simp [hj]

/-- The first of those that wait is confirmed, and goes. -/
theorem wrep_pop {w : World} {b : Nat} {S : Nat → Prop} {Q : Qm} {s : Nat} {x : Ent} {r : List Ent} {A : Option Addr} {c : Nat} (h : WRep w b S Q s (x :: r))
    (hb : w.heap[b]? = some (.cells #[.int .i64 Q.p, .int .i64 Q.q, .int .i64 Q.a, .int .u64 s, .slice A (r.length + 1) c, .bool false] 154 (0, 0))) :
    WRep ((w.setCell ⟨b, 4, none⟩ (.slice (if c = 1 then A else A.map (·.add (1 * 3))) (r.length + 1 - 1) (c - 1))).setCell ⟨b, 3, none⟩ (.int .u64 (s + 1 : Nat))) b S Q (s + 1) r ∧
      Kp S w ((w.setCell ⟨b, 4, none⟩ (.slice (if c = 1 then A else A.map (·.add (1 * 3))) (r.length + 1 - 1) (c - 1))).setCell ⟨b, 3, none⟩ (.int .u64 (s + 1 : Nat))) := by
  obtain ⟨⟨v, h1, h2, h3⟩, h4, h5, h6, h7⟩ := h
  have hv : v = .slice A (r.length + 1) c := by
    rw [hb] at h1
    injection h1 with h1
    injection h1 with h1 _ _
    injection h1 with h1
    injection h1 with _ h1
    injection h1 with _ h1
    injection h1 with _ h1
    injection h1 with _ h1
    injection h1 with h1 _
    exact h1.symm
  subst hv
  have hbv : ∀ k, (Value.slice A (r.length + 1) c).ownBlock = some k → k ≠ b := fun k hk e => by
    subst e
    obtain ⟨_, cells, hc⟩ := q_typed h2 k hk
    rw [hc] at hb
    injection hb with hb
    injection hb with _ hb
    cases hb
  have hd := q_drop h2 (k := 1) (by simp)
  have hbv2 : (Value.slice (if c = 1 then A else A.map (·.add (1 * 3))) (r.length + 1 - 1) (c - 1)).ownBlock = (Value.slice A (r.length + 1) c).ownBlock := by
    split
    · cases A <;> rfl
    · cases A with
      | none => rfl
      | some a => simp [Value.ownBlock]; unfold Addr.add; split <;> rfl
  generalize hnv : (Value.slice (if c = 1 then A else A.map (·.add (1 * 3))) (r.length + 1 - 1) (c - 1)) = nv at *
  have K1 : Kp S w (w.setCell ⟨b, 4, none⟩ nv) := (Kp.refl S w).set (p := ⟨b, 4, none⟩) (fun _ => h4) h1 (by decide) _
  have hb1 := blk_set h1 4 nv
  have K2 : Kp S w ((w.setCell ⟨b, 4, none⟩ nv).setCell ⟨b, 3, none⟩ (.int .u64 (s + 1 : Nat))) := K1.set (p := ⟨b, 3, none⟩) (fun _ => h4) hb1 (by decide) _
  have far : ∀ k, k ≠ b → ((w.setCell ⟨b, 4, none⟩ nv).setCell ⟨b, 3, none⟩ (.int .u64 (s + 1 : Nat))).heap[k]? = w.heap[k]? := fun k hk =>
    (Below.heap_setCell _ ⟨b, 3, none⟩ _ k hk).trans (Below.heap_setCell w ⟨b, 4, none⟩ _ k hk)
  refine ⟨⟨⟨nv, blk_set hb1 3 _, ?_, fun k hk => h3 k (hbv2 ▸ hk)⟩, h4, fun i e he => ?_, (List.pairwise_cons.1 h6).2, fun k hk => Nat.lt_of_lt_of_le (h7 k hk) K2.size⟩, K2⟩
  · have e1 : (entCells Q.p s (x :: r)).drop (1 * 3) = entCells Q.p (s + 1) r := rfl
    rw [e1] at hd
    exact q_move hd (fun k hk => far k (hbv k (hbv2 ▸ hk)))
  · obtain ⟨a1, a2, a3, a4⟩ := h5 (i + 1) e (by simpa using he)
    refine ⟨a1.kp K2, (far e.g (fun e1 => ?_)).trans a2, a3, a4⟩
    rw [e1, h1] at a2
    injection a2 with a2
    injection a2 with _ a2
    cases a2

theorem Try.info49 : (Try.prog.info? 49).map (fun i => (i.zero, i.size, i.bytes)) = some (some (.agg #[.int .u64 0, .slice none 0 0]), 2, 32) := by kernel_rfl

/-- What the round of Ack's loop comes to, ahead of its walk. -/
theorem ack_round {w wr w1 : World} {b : Nat} {S : Nat → Prop} {Q : Qm} {sk k c nn cw : Nat} {A : Option Addr} {cells : List Value} {x : Ent} {r : List Ent} {gw ow : Nat} {dv : Value} (hS : ∀ i, S i → i < w.heap.size) (h3 : WRep wr b S Q sk (x :: r)) (hn : nn = r.length) (hd : dv.oneCell' = true)
    (hb : wr.heap[b]? = some (.cells #[.int .i64 Q.p, .int .i64 Q.q, .int .i64 Q.a, .int .u64 sk, .slice (some ⟨gw, ow, none⟩) (nn + 1) cw, .bool false] 154 (0, 0)))
    (h4 : Kp S w wr) (h5 : QRow wr w.heap.size 49 2 (.slice A k c) k cells) (hk : k ≤ 64) (hW : Below wr.heap.size wr w1) :
    ∃ (A6 A7 : Option Addr) (c6 : Nat) (w6 : World), (Builtin.append_ #[52, 52] 52 #[.slice A k c, .slice (some ⟨w1.heap.size, 0, none⟩) 1 1]).run Try.prog (w1.alloc (.cells #[.int .u64 sk, dv] 49)) = .ok (.slice A6 (k + 1) c6) w6 ∧
      (∀ W : World, (Instr.slice 152 (.slice (some ⟨gw, ow, none⟩) (nn + 1) cw) (some (.int .i64 1)) none none).run Try.prog W = .ok (.slice A7 nn (cw - 1)) W) ∧
      w6.heap[b]? = some (.cells #[.int .i64 Q.p, .int .i64 Q.q, .int .i64 Q.a, .int .u64 sk, .slice (some ⟨gw, ow, none⟩) (nn + 1) cw, .bool false] 154 (0, 0)) ∧
      (∃ cells', QRow ((w6.setCell ⟨b, 4, none⟩ (.slice A7 nn (cw - 1))).setCell ⟨b, 3, none⟩ (.int .u64 (sk + 1 : Nat))) w.heap.size 49 2 (.slice A6 (k + 1) c6) (k + 1) cells') ∧
      WRep ((w6.setCell ⟨b, 4, none⟩ (.slice A7 nn (cw - 1))).setCell ⟨b, 3, none⟩ (.int .u64 (sk + 1 : Nat))) b S Q (sk + 1) r ∧
      Kp S w ((w6.setCell ⟨b, 4, none⟩ (.slice A7 nn (cw - 1))).setCell ⟨b, 3, none⟩ (.int .u64 (sk + 1 : Nat))) := by
  subst hn
  obtain ⟨i0, hi, hz0, hz1, hz2⟩ := info_parts Try.info49
  obtain ⟨j0, hj, _, hj1, _⟩ := info_parts Try.info159
  have hbS := hS b h3.sb
  have hB : Below wr.heap.size wr (w1.alloc (.cells #[.int .u64 sk, dv] 49)) := below_alloc hW _
  have hq6 : QRow (w1.alloc (.cells #[.int .u64 sk, dv] 49)) w.heap.size 49 2 (.slice A k c) k cells := q_move h5 (fun j hj => hB.block j (q_lt h5 j hj))
  obtain ⟨v6, w6, hrun, hq7, hg6, hat6⟩ := q_append (P := Try.prog) (w1.alloc (.cells #[.int .u64 sk, dv] 49)) w.heap.size 52 52 49 i0 _ 2 32 Try.underlying52 hi hz0 hz1 hz2 rfl (by decide) (.slice A k c) k cells hq6 ⟨w1.heap.size, 0, none⟩ 1 1 [.int .u64 sk, dv] rfl
    (blk_news (blk_new w1 (.cells #[.int .u64 sk, dv] 49 (0, 0)))) (by intro u hu; simp only [List.mem_cons, List.not_mem_nil, or_false] at hu; rcases hu with rfl | rfl <;> first | exact hd | rfl) (by decide) (by unfold maxLen; omega) (by omega) (Nat.le_trans h4.size hB.size)
  obtain ⟨A6, c6, rfl, _⟩ := q_slice hq7
  have hrow : ∀ j, (Value.slice A k c).ownBlock = some j → w.heap.size ≤ j := fun j hj => (q_typed h5 j hj).1
  have K6 : Kp (fun i => w.heap.size ≤ i) wr w6 := (Kp.of_below (fun i => w.heap.size ≤ i) hB).grown hg6 (fun j hj _ => hrow j hj) (fun j hj cs fr hc => by
    obtain ⟨_, cells', hc'⟩ := q_typed hq6 j hj
    rw [hc] at hc'
    injection hc' with hc'
    injection hc' with _ hc'
    cases hc')
  have hb6 := K6.blk hb (by omega)
  have h6 := h3.kp K6 (fun i hi hle => by have := hS i hi; omega)
  have hcut := cut_from (P := Try.prog) 152 159 .i64 Try.underlying152 hj 3 hj1 (some ⟨gw, ow, none⟩) (r.length + 1) cw 1 (by omega) (by omega)
  obtain ⟨p1, p2⟩ := wrep_pop h6 hb6
  refine ⟨A6, _, c6, w6, hrun, hcut, hb6, ⟨_, q_move hq7 (fun j hj => ?_)⟩, p1, ?_⟩
  · have hjb : j ≠ b := fun e => by
      subst e
      obtain ⟨hle, _⟩ := q_typed hq7 j hj
      omega
    exact (Below.heap_setCell _ ⟨b, 3, none⟩ _ j hjb).trans (Below.heap_setCell w6 ⟨b, 4, none⟩ _ j hjb)
  · exact (h4.then K6 (fun i hi hlt => absurd hlt (by omega))).trans p2

theorem ack_end {w w' : World} {b : Nat} {S : Nat → Prop} {Q : Qm} {es es2 : List Ent} {sure sk k j place c : Nat} {A : Option Addr} {x : Ent} (he : es2 = markE es j place) (hsk : sk = sure + k) (hk : k ≤ es2.length) (hl : es2.length = es.length)
    (hr : WRep w' b S Q sk (x :: es2.drop (k + 1))) (hx : es2[k]? = some x) (h3 : ∀ (i : Nat) (e : Ent), i < k → es2[i]? = some e → Q.a ≤ cnt Q (sure + i) e.s) (h4 : Kp S w w') :
    ∃ (k' : Nat) (A' : Option Addr) (c' : Nat), Ending.returned (.slice A k c) = .returned (.slice A' k' c') ∧ k' ≤ es.length ∧ WRep w' b S Q (sure + k') ((markE es j place).drop k') ∧ (∀ i e, i < k' → (markE es j place)[i]? = some e → Q.a ≤ cnt Q (sure + i) e.s) ∧ Kp S w w' := by
  subst he
  subst hsk
  refine ⟨k, A, c, rfl, hl ▸ hk, ?_, h3, h4⟩
  obtain ⟨hlt, he⟩ := List.getElem?_eq_some_iff.1 hx
  rw [List.drop_eq_getElem_cons hlt, he]
  exact hr

theorem ack_end0 {w w' : World} {b : Nat} {S : Nat → Prop} {Q : Qm} {es es2 : List Ent} {sure sk k j place c : Nat} {A : Option Addr} (he : es2 = markE es j place) (hsk : sk = sure + k) (hk : k = es2.length) (hl : es2.length = es.length)
    (hr : WRep w' b S Q sk []) (h3 : ∀ (i : Nat) (e : Ent), i < k → es2[i]? = some e → Q.a ≤ cnt Q (sure + i) e.s) (h4 : Kp S w w') :
    ∃ (k' : Nat) (A' : Option Addr) (c' : Nat), Ending.returned (.slice A k c) = .returned (.slice A' k' c') ∧ k' ≤ es.length ∧ WRep w' b S Q (sure + k') ((markE es j place).drop k') ∧ (∀ i e, i < k' → (markE es j place)[i]? = some e → Q.a ≤ cnt Q (sure + i) e.s) ∧ Kp S w w' := by
  subst he
  subst hsk
  refine ⟨k, A, c, rfl, by omega, ?_, h3, h4⟩
  rw [List.drop_of_length_le (by omega)]
  exact hr

def g18_3.T : Bool × List (List Nat × List Nat) := (true, [([], []), ([0], [0]), ([1], [1]), ([2], [2]), ([], []), ([], []), ([5], [5]), ([6], [6]), ([7], [7]), ([4, 8], [4, 8]), ([3, 9], [3, 9]), ([10], [10]), ([11], [11]), ([], []), ([12, 13, 0, 1, 2, 3, 4, 5, 6, 7, 8, 9, 10, 11, 12, 13], [12, 13]), ([14, 0, 1, 2, 3, 4, 5, 6, 7, 8, 9, 10, 11, 12, 13], [14])])
def g18_3.B : List Nat := [0, 1, 3, 7, 0, 0, 32, 96, 224, 496, 1023, 2047, 4095, 0, 16383, 32767]
theorem g18_3.tab : rtab .any (opsOf Try.f18 3) = g18_3.T := by kernel_rfl
theorem g18_3.bits : waitsOk g18_3.T.2 g18_3.B = true := by kernel_rfl

def g18_5.T : Bool × List (List Nat × List Nat) := (true, [([], []), ([0], [0]), ([1], [1]), ([2], [2]), ([3], [3]), ([4], [4]), ([5], [5]), ([6], [6]), ([7, 6], [6, 7]), ([8, 6], [6, 8]), ([9, 6], [6, 9]), ([6], [6]), ([11, 6], [6, 11]), ([12, 6], [6, 12]), ([13, 6], [6, 13]), ([6], [6]), ([15, 6], [6, 15]), ([16, 6], [6, 16]), ([17, 6], [6, 17]), ([18, 6], [6, 18]), ([19, 6], [6, 19]), ([20, 6], [6, 20]), ([10, 14, 21, 6, 6], [6, 10, 14, 21]), ([6, 22], [6, 22])])
def g18_5.B : List Nat := [0, 1, 3, 7, 15, 31, 63, 127, 255, 511, 1023, 127, 2175, 6271, 14463, 127, 32895, 98431, 229503, 491647, 1015935, 2064511, 4194303, 8388607]
theorem g18_5.tab : rtab .any (opsOf Try.f18 5) = g18_5.T := by kernel_rfl
theorem g18_5.bits : waitsOk g18_5.T.2 g18_5.B = true := by kernel_rfl

set_option maxRecDepth 100000 in
set_option maxHeartbeats 4000000 in
theorem ack_new (Q : Qm) (b : Nat) (S : Nat → Prop) (sure j n place : Nat) (es : List Ent) (w : World) (h : WRep w b S Q sure es) (hn : n = sure + j) (hj : j < es.length) (hes : es.length ≤ 64) (hp : place < Q.p) (hm : place ∈ setN Q n) (hsu : sure ≤ 1000000) :
    Calls Try.prog 18 #[.pointer (some ⟨b, 0, none⟩), .int .i64 place, .int .u64 n] w fun e w' => ∃ (k : Nat) (A : Option Addr) (c : Nat), e = .returned (.slice A k c) ∧ k ≤ es.length ∧ WRep w' b S Q (sure + k) ((markE es j place).drop k) ∧ (∀ i e, i < k → (markE es j place)[i]? = some e → Q.a ≤ cnt Q (sure + i) e.s) ∧ Kp S w w' := by
  have HR := Lib.hid h
  obtain ⟨⟨v, hb, hq, hv⟩, hsb, hents, hdist, hlt⟩ := h
  obtain ⟨gw, ow, cw, rfl, hnc, hcur, hcells⟩ := q_form hq (by omega)
  obtain ⟨xe, hxe⟩ : ∃ xe, es[j]? = some xe := ⟨_, List.getElem?_eq_getElem hj⟩
  have c0 : w.cell? ⟨b, 0, none⟩ = some (.int .i64 Q.p) := (blk_cell hb 0).trans rfl
  have c1 : w.cell? ⟨b, 1, none⟩ = some (.int .i64 Q.q) := (blk_cell hb 1).trans rfl
  have c2 : w.cell? ⟨b, 2, none⟩ = some (.int .i64 Q.a) := (blk_cell hb 2).trans rfl
  have c3 : w.cell? ⟨b, 3, none⟩ = some (.int .u64 sure) := (blk_cell hb 3).trans rfl
  have c4 : w.cell? ⟨b, 4, none⟩ = some (.slice (some ⟨gw, ow, none⟩) es.length cw) := (blk_cell hb 4).trans rfl
  have ce : w.cell? ⟨gw, ow + j * 3 + 2, none⟩ = some (.slice (some ⟨xe.g, 0, none⟩) Q.p Q.p) := by
    have := hcells (j * 3 + 2) _ (entCells_get Q.p sure es j xe hxe).2.2
    rwa [← Nat.add_assoc] at this
  have hd1 : decide (n < sure) = false := decide_eq_false (by omega)
  have hd2 : decide (sure + es.length ≤ n) = false := decide_eq_false (by omega)
  have hd3 : decide (place ∈ setN Q n) = true := decide_eq_true hm
  have hlen := setN_length Q n
  have hnb : n ≤ 2000000 := by omega
  have hsub : (n : Int) - (sure : Int) = (j : Int) := by omega
  have HN := Lib.hid hn
  clear hn
  have HQ := Lib.hid hq
  have HV := Lib.hid hv
  have HB := Lib.hid hb
  have HE := Lib.hid hents
  have HM := Lib.hid hm
  have HL := Lib.hid hlen
  have HXE := Lib.hid hxe
  have h3 := Q.h3
  have h4 := Q.h4
  clear hq hb hents hlt hsb hv hdist hcur hcells hm hlen hxe
  go_enter Try.func18, Try.ntmps18
  go_wp2_with (first
    | (go_at_call 71; refine (count_rep b sure (some ⟨gw, ow, none⟩) es.length cw _ (by omega) (by omega) (by go_simp) (by go_simp)).mono ?_; rintro e w1 ⟨rfl, ⟨m, rfl⟩⟩)
    | (go_at_call 75; refine (set_calls Q n (by omega) _).mono ?_; rintro e w1 ⟨A1, cc1, rfl, hC1, hc1, hb1⟩)
    | (go_at_call 74; refine (set_contains Q n place _ _ _ (by assumption) (by assumption)).mono ?_; rintro e w1 ⟨rfl, ⟨m2, rfl⟩⟩))
  have HW1 := Aside0.mk (below_drew1 (pw_below_drewN (below_step (pw_below_drewN (Below.refl w.heap.size w) m) hb1) m2))
  have s3 := (HW1.out.cell (World.block_lt_of_cell? _ _ c3)).trans c3
  have s4 := (HW1.out.cell (World.block_lt_of_cell? _ _ c4)).trans c4
  have se := (HW1.out.cell (World.block_lt_of_cell? _ _ ce)).trans ce
  clear hb1 hC1 hc1 hd3
  have hplt : place < xe.s.length := by have h5 := (HE.out j xe HXE.out).2.2.1; omega
  have hju : IntKind.u64.wrap (j : Int) = (j : Int) := IntWalk.u64_in _ (by omega)
  refine start_ (n := 16) (S := fun w' => w'.cell? ⟨b, 3, none⟩ = some (.int .u64 sure) ∧ w'.cell? ⟨b, 4, none⟩ = some (.slice (some ⟨gw, ow, none⟩) es.length cw) ∧ w'.cell? ⟨gw, ow + j * 3 + 2, none⟩ = some (.slice (some ⟨xe.g, 0, none⟩) Q.p Q.p)) (ds := [15]) #[false, false, false, false, false, false, false, false, false, false, false, false, false, false, false, false] (by kernel_rfl) rfl rfl (⟨s3, s4, se⟩) (fun hHeld => ?_)
  refine with_tabW g18_3.tab g18_3.bits (fun HT_ HW_ => ?_)
  generalize hgen : (w1.drewN _).drew = W0 at hHeld HW1 ⊢; clear hgen s3 s4 se c0 c1 c2 c3 c4 ce
  refine pure_ (i := 0) (N := (some 35)) (v := ?_) (a' := ?_) #[true, false, false, false, false, false, false, false, false, false, false, false, false, false, false, false] rfl rfl (any_of HT_.out (by kernel_rfl)) (fun _ _ _ h => h) (Or.inl ⟨by rfl, ?_⟩) ?_ ?_
  rotate_left
  · (intro w'; go_simp; try with_reducible rfl)
  rotate_left
  · simp only [Act.put, List.setIfInBounds_toArray, List.set_cons_zero, List.set_cons_succ, i64_w, i32_w]
    rfl
  refine pure_ (i := 1) (N := (some 36)) (v := ?_) (a' := ?_) #[true, true, false, false, false, false, false, false, false, false, false, false, false, false, false, false] rfl rfl (any_of HT_.out (by kernel_rfl)) (fun _ _ _ h => h) (Or.inl ⟨by rfl, ?_⟩) ?_ ?_
  rotate_left
  · (intro w'; go_simp; try with_reducible rfl)
  rotate_left
  · simp only [Act.put, List.setIfInBounds_toArray, List.set_cons_zero, List.set_cons_succ, i64_w, i32_w]
    rfl
  refine pure_ (i := 2) (N := (some 37)) (v := ?_) (a' := ?_) #[true, true, true, false, false, false, false, false, false, false, false, false, false, false, false, false] rfl rfl (any_of HT_.out (by kernel_rfl)) (fun _ _ _ h => h) (Or.inl ⟨by rfl, ?_⟩) ?_ ?_
  rotate_left
  · (intro w'; go_simp; try with_reducible rfl)
  rotate_left
  · simp only [Act.put, List.setIfInBounds_toArray, List.set_cons_zero, List.set_cons_succ, i64_w, i32_w]
    rfl
  refine take_ (i := 3) (N := (some 38)) (v := ?_) (a' := ?_) #[true, true, true, true, false, false, false, false, false, false, false, false, false, false, false, false] rfl rfl (take_ofW HT_.out HW_.out (by kernel_rfl)) (fun _ _ _ h => h) (Or.inl ⟨by rfl, ?_⟩) hHeld ?_ ?_
  rotate_left
  · (intro w' hSw; (try dsimp only at hSw); go_split_ands; go_simp; try with_reducible rfl)
  rotate_left
  · simp only [Act.put, List.setIfInBounds_toArray, List.set_cons_zero, List.set_cons_succ, i64_w, i32_w]
    rfl
  refine pure_ (i := 4) (N := (some 39)) (v := ?_) (a' := ?_) #[true, true, true, true, true, false, false, false, false, false, false, false, false, false, false, false] rfl rfl (any_of HT_.out (by kernel_rfl)) (fun _ _ _ h => h) (Or.inl ⟨by rfl, ?_⟩) ?_ ?_
  rotate_left
  · (intro w'; go_simp; try with_reducible rfl)
  rotate_left
  · simp only [Act.put, List.setIfInBounds_toArray, List.set_cons_zero, List.set_cons_succ, i64_w, i32_w]
    rfl
  refine pure_ (i := 5) (N := (some 40)) (v := ?_) (a' := ?_) #[true, true, true, true, true, true, false, false, false, false, false, false, false, false, false, false] rfl rfl (any_of HT_.out (by kernel_rfl)) (fun _ _ _ h => h) (Or.inl ⟨by rfl, ?_⟩) ?_ ?_
  rotate_left
  · (intro w'; go_simp; try with_reducible rfl)
  rotate_left
  · simp only [Act.put, List.setIfInBounds_toArray, List.set_cons_zero, List.set_cons_succ, i64_w, i32_w]
    rfl
  refine pure_ (i := 6) (N := (some 41)) (v := ?_) (a' := ?_) #[true, true, true, true, true, true, true, false, false, false, false, false, false, false, false, false] rfl rfl (any_of HT_.out (by kernel_rfl)) (fun _ _ _ h => h) (Or.inl ⟨by rfl, ?_⟩) ?_ ?_
  rotate_left
  · (intro w'; go_simp; try with_reducible rfl)
  rotate_left
  · simp only [Act.put, List.setIfInBounds_toArray, List.set_cons_zero, List.set_cons_succ, i64_w, i32_w]
    rfl
  refine pure_ (i := 7) (N := (some 42)) (v := ?_) (a' := ?_) #[true, true, true, true, true, true, true, true, false, false, false, false, false, false, false, false] rfl rfl (any_of HT_.out (by kernel_rfl)) (fun _ _ _ h => h) (Or.inl ⟨by rfl, ?_⟩) ?_ ?_
  rotate_left
  · (intro w'; go_simp; try with_reducible rfl)
  rotate_left
  · simp only [Act.put, List.setIfInBounds_toArray, List.set_cons_zero, List.set_cons_succ, i64_w, i32_w]
    rfl
  refine take_ (i := 8) (N := (some 43)) (v := ?_) (a' := ?_) #[true, true, true, true, true, true, true, true, true, false, false, false, false, false, false, false] rfl rfl (take_ofW HT_.out HW_.out (by kernel_rfl)) (fun _ _ _ h => h) (Or.inl ⟨by rfl, ?_⟩) hHeld ?_ ?_
  rotate_left
  · (intro w' hSw; (try dsimp only at hSw); go_split_ands; go_simp; try with_reducible rfl)
  rotate_left
  · simp only [Act.put, List.setIfInBounds_toArray, List.set_cons_zero, List.set_cons_succ, i64_w, i32_w]
    rfl
  refine pure_ (i := 9) (N := (some 44)) (v := ?_) (a' := ?_) #[true, true, true, true, true, true, true, true, true, true, false, false, false, false, false, false] rfl rfl (any_of HT_.out (by kernel_rfl)) (fun _ _ _ h => h) (Or.inl ⟨by rfl, ?_⟩) ?_ ?_
  rotate_left
  · (intro w'; go_simp; try with_reducible rfl)
  rotate_left
  · simp only [Act.put, List.setIfInBounds_toArray, List.set_cons_zero, List.set_cons_succ, i64_w, i32_w]
    rfl
  refine pure_ (i := 10) (N := (some 45)) (v := ?_) (a' := ?_) #[true, true, true, true, true, true, true, true, true, true, true, false, false, false, false, false] rfl rfl (any_of HT_.out (by kernel_rfl)) (fun _ _ _ h => h) (Or.inl ⟨by rfl, ?_⟩) ?_ ?_
  rotate_left
  · (intro w'; go_simp; try with_reducible rfl)
  rotate_left
  · simp only [Act.put, List.setIfInBounds_toArray, List.set_cons_zero, List.set_cons_succ, i64_w, i32_w]
    rfl
  refine pure_ (i := 11) (N := (some 46)) (v := ?_) (a' := ?_) #[true, true, true, true, true, true, true, true, true, true, true, true, false, false, false, false] rfl rfl (any_of HT_.out (by kernel_rfl)) (fun _ _ _ h => h) (Or.inl ⟨by rfl, ?_⟩) ?_ ?_
  rotate_left
  · (intro w'; go_simp; try with_reducible rfl)
  rotate_left
  · simp only [Act.put, List.setIfInBounds_toArray, List.set_cons_zero, List.set_cons_succ, i64_w, i32_w]
    rfl
  refine take_ (i := 12) (N := (some 47)) (v := ?_) (a' := ?_) #[true, true, true, true, true, true, true, true, true, true, true, true, true, false, false, false] rfl rfl (take_ofW HT_.out HW_.out (by kernel_rfl)) (fun _ _ _ h => h) (Or.inl ⟨by rfl, ?_⟩) hHeld ?_ ?_
  rotate_left
  · (intro w' hSw; (try dsimp only at hSw); go_split_ands; go_simp; try with_reducible rfl)
  rotate_left
  · simp only [Act.put, List.setIfInBounds_toArray, List.set_cons_zero, List.set_cons_succ, i64_w, i32_w]
    rfl
  refine pure_ (i := 13) (N := (some 48)) (v := ?_) (a' := ?_) #[true, true, true, true, true, true, true, true, true, true, true, true, true, true, false, false] rfl rfl (any_of HT_.out (by kernel_rfl)) (fun _ _ _ h => h) (Or.inl ⟨by rfl, ?_⟩) ?_ ?_
  rotate_left
  · (intro w'; go_simp; try with_reducible rfl)
  rotate_left
  · simp only [Act.put, List.setIfInBounds_toArray, List.set_cons_zero, List.set_cons_succ, i64_w, i32_w]
    rfl
  refine pure_ (i := 14) (N := (some 49)) (v := ?_) (a' := ?_) #[true, true, true, true, true, true, true, true, true, true, true, true, true, true, true, false] rfl rfl (any_of HT_.out (by kernel_rfl)) (fun _ _ _ h => h) (Or.inl ⟨by rfl, ?_⟩) ?_ ?_
  rotate_left
  · (intro w'; go_simp; try with_reducible rfl)
  rotate_left
  · simp only [Act.put, List.setIfInBounds_toArray, List.set_cons_zero, List.set_cons_succ, i64_w, i32_w]
    rfl
  refine last_ (i := 15) (N := none) #[true, true, true, true, true, true, true, true, true, true, true, true, true, true, true, true] rfl rfl (one_of HT_.out (by kernel_rfl)) (by decide) (fun K hK => ?_)
  have hbx := (HW1.out.block xe.g (HR.out.lt _ (HE.out j xe HXE.out).2.2.2)).trans (HE.out j xe HXE.out).2.1
  have hcx : W0.cell? ⟨xe.g, place, none⟩ = some (.bool (xe.s.getD place false)) := by
    rw [blk_cell hbx place]
    simp [List.getElem?_map, List.getElem?_eq_getElem hplt]
  have hfx := blk_frozen hbx place
  refine skip_ (w1 := W0.setCell ⟨xe.g, place, none⟩ (.bool true)) (by rfl) rfl ?_ ?_
  · go_simp
  clear hbx hcx hfx
  refine hK.out _ _ ?_
  clear hK K
  refine done_ (done_of HT_.out (by kernel_rfl)) ?_
  clear HT_ HW_ hHeld hju hplt
  have hrep := wrep_mark (HR.out.kp (Kp.of_below (fun _ => False) HW1.out) (fun _ _ h => h)) HXE.out hp
  have HR2 := Aside0.mk hrep.1
  have HK2 := Aside0.mk ((Kp.of_below S HW1.out).trans hrep.2)
  clear hrep HW1
  generalize W0.setCell ⟨xe.g, place, none⟩ (.bool true) = W1 at HR2 HK2 ⊢
  obtain ⟨es2, hes2⟩ : ∃ x, x = markE es j place := ⟨_, rfl⟩
  have hl2 : es2.length ≤ 64 := by rw [hes2, markE_length]; exact hes
  have HL2 := Aside0.mk (show es2.length = es.length by rw [hes2, markE_length])
  rw [← hes2] at HR2
  have Hes2 := Lib.hid hes2
  have HRS := Aside0.mk HR.out.lt
  clear hes2 HQ HV HB HE HM HL HXE HR hd1 hd2 hsub hnc hj hes hp
  go_wp2
  go_loopw [7] (fun v wr => ∃ (k : Nat) (A : Option Addr) (c : Nat), v = .slice A k c ∧ Aside0 (k ≤ es2.length ∧ WRep wr b S Q (sure + k) (es2.drop k) ∧ (∀ i e, i < k → es2[i]? = some e → Q.a ≤ cnt Q (sure + i) e.s) ∧ Kp S w wr ∧ ∃ cells, QRow wr w.heap.size 49 2 (.slice A k c) k cells)) (fun v _ => es2.length - lenOf v)
  case atStart => exact ⟨0, none, 0, rfl, ⟨Nat.zero_le _, by simpa using HR2.out, fun i e hi => absurd hi (by omega), HK2.out, [], q_of_own (own_nil _ _ _ _)⟩⟩
  case round =>
    obtain ⟨k, A, c, rfl, HI⟩ := hrel
    obtain ⟨sk, hsk⟩ : ∃ x, x = sure + k := ⟨_, rfl⟩
    obtain ⟨i1, i2, i3, i4, cells, i5⟩ := HI.out
    have hskb : sk ≤ 2000000 := by omega
    rw [← hsk] at i2
    have Hsk := Lib.hid hsk
    have hkl : k ≤ 64 := by omega
    by_cases hk : k < es2.length
    · obtain ⟨x, hx⟩ : ∃ x, x = es2[k] := ⟨_, rfl⟩
      have hdr : es2.drop k = x :: es2.drop (k + 1) := by rw [hx]; exact List.drop_eq_getElem_cons hk
      have hxg : es2[k]? = some x := by rw [hx]; exact List.getElem?_eq_getElem hk
      rw [hdr] at i2
      have HR3 := Aside0.mk i2
      obtain ⟨⟨v, hb, hq, hv⟩, hsb, hents, hdist, hlt⟩ := i2
      obtain ⟨a1, a2, a3, a4⟩ := hents 0 x rfl
      obtain ⟨gw, ow, cw, rfl, hnc, hcur, hcells⟩ := q_form hq (by simp)
      obtain ⟨dA, dc, hdv, hdl, hdC, hdb⟩ := id a1
      have hrl : (x :: es2.drop (k + 1)).length = (es2.drop (k + 1)).length + 1 := rfl
      rw [hrl] at hb hnc
      obtain ⟨nn, hnn⟩ : ∃ nn, nn = (es2.drop (k + 1)).length := ⟨_, rfl⟩
      rw [← hnn] at hb hnc
      have c0 : wr.cell? ⟨b, 0, none⟩ = some (.int .i64 Q.p) := (blk_cell hb 0).trans rfl
      have c1 : wr.cell? ⟨b, 1, none⟩ = some (.int .i64 Q.q) := (blk_cell hb 1).trans rfl
      have c2 : wr.cell? ⟨b, 2, none⟩ = some (.int .i64 Q.a) := (blk_cell hb 2).trans rfl
      have c3 : wr.cell? ⟨b, 3, none⟩ = some (.int .u64 sk) := (blk_cell hb 3).trans rfl
      have c4 : wr.cell? ⟨b, 4, none⟩ = some (.slice (some ⟨gw, ow, none⟩) (nn + 1) cw) := (blk_cell hb 4).trans rfl
      have e0 : wr.cell? ⟨gw, ow, none⟩ = some (.int .u64 sk) := hcells 0 _ rfl
      have e1 : wr.cell? ⟨gw, ow + 1, none⟩ = some (.slice dA x.xs.length dc) := by rw [← hdv]; exact hcells 1 _ rfl
      have e2 : wr.cell? ⟨gw, ow + 2, none⟩ = some (.slice (some ⟨x.g, 0, none⟩) Q.p Q.p) := hcells 2 _ rfl
      have HB := Aside0.mk hb
      have HC := Aside0.mk (show Kd.C Kd.bool wr (some ⟨x.g, 0, none⟩) Q.p x.s by have := c_of_blk a2 (by omega); rwa [a3] at this)
      have HS := Aside0.mk a3
      have H3 := Aside0.mk i3
      have H4 := Aside0.mk i4
      have H5 := Aside0.mk i5
      have HXG := Aside0.mk hxg
      have HNN := Aside0.mk hnn
      have hnnb : nn ≤ 64 := by have := hnn; rw [List.length_drop] at this; omega
      clear hb hq hv hsb hents hdist hlt a1 a2 a3 a4 hcur hcells hdv hdl hdC hdb i3 i4 i5 hnn hnc hxg hdr HI hrl hsk hx
      by_cases hE : Q.a ≤ cnt Q sk x.s
      · have hd := decide_eq_true hE
        have HE := Aside0.mk hE
        clear hE
        go_wp2
        refine start_ (n := 24) (S := fun w' => w'.cell? ⟨b, 0, none⟩ = some (.int .i64 Q.p) ∧ w'.cell? ⟨b, 1, none⟩ = some (.int .i64 Q.q) ∧ w'.cell? ⟨b, 2, none⟩ = some (.int .i64 Q.a) ∧ w'.cell? ⟨b, 3, none⟩ = some (.int .u64 sk) ∧ w'.cell? ⟨b, 4, none⟩ = some (.slice (some ⟨gw, ow, none⟩) (nn + 1) cw) ∧ w'.cell? ⟨gw, ow + 2, none⟩ = some (.slice (some ⟨x.g, 0, none⟩) Q.p Q.p)) (ds := []) #[false, false, false, false, false, false, false, false, false, false, false, false, false, false, false, false, false, false, false, false, false, false, false, false] (by kernel_rfl) rfl rfl (⟨by go_simp, by go_simp, by go_simp, by go_simp, by go_simp, by go_simp⟩) (fun hHeld => ?_)
        refine with_tabW g18_5.tab g18_5.bits (fun HT_ HW_ => ?_)
        generalize hgen : wr.drew = W0 at hHeld ⊢; have HW : Aside0 (Below wr.heap.size wr W0) := ⟨by rw [← hgen]; exact below_drew1 (Below.refl _ _)⟩; clear hgen
        refine pure_ (i := 0) (N := (some 50)) (v := ?_) (a' := ?_) #[true, false, false, false, false, false, false, false, false, false, false, false, false, false, false, false, false, false, false, false, false, false, false, false] rfl rfl (any_of HT_.out (by kernel_rfl)) (fun _ _ _ h => h) (Or.inl ⟨by rfl, ?_⟩) ?_ ?_
        rotate_left
        · (intro w'; go_simp; try with_reducible rfl)
        rotate_left
        · simp only [Act.put, List.setIfInBounds_toArray, List.set_cons_zero, List.set_cons_succ, i64_w, i32_w]
          rfl
        refine pure_ (i := 1) (N := (some 51)) (v := ?_) (a' := ?_) #[true, true, false, false, false, false, false, false, false, false, false, false, false, false, false, false, false, false, false, false, false, false, false, false] rfl rfl (any_of HT_.out (by kernel_rfl)) (fun _ _ _ h => h) (Or.inl ⟨by rfl, ?_⟩) ?_ ?_
        rotate_left
        · (intro w'; go_simp; try with_reducible rfl)
        rotate_left
        · simp only [Act.put, List.setIfInBounds_toArray, List.set_cons_zero, List.set_cons_succ, i64_w, i32_w]
          rfl
        refine pure_ (i := 2) (N := (some 52)) (v := ?_) (a' := ?_) #[true, true, true, false, false, false, false, false, false, false, false, false, false, false, false, false, false, false, false, false, false, false, false, false] rfl rfl (any_of HT_.out (by kernel_rfl)) (fun _ _ _ h => h) (Or.inl ⟨by rfl, ?_⟩) ?_ ?_
        rotate_left
        · (intro w'; go_simp; try with_reducible rfl)
        rotate_left
        · simp only [Act.put, List.setIfInBounds_toArray, List.set_cons_zero, List.set_cons_succ, i64_w, i32_w]
          rfl
        refine take_ (i := 3) (N := (some 53)) (v := ?_) (a' := ?_) #[true, true, true, true, false, false, false, false, false, false, false, false, false, false, false, false, false, false, false, false, false, false, false, false] rfl rfl (take_ofW HT_.out HW_.out (by kernel_rfl)) (fun _ _ _ h => h) (Or.inl ⟨by rfl, ?_⟩) hHeld ?_ ?_
        rotate_left
        · (intro w' hSw; (try dsimp only at hSw); go_split_ands; go_simp; try with_reducible rfl)
        rotate_left
        · simp only [Act.put, List.setIfInBounds_toArray, List.set_cons_zero, List.set_cons_succ, i64_w, i32_w]
          rfl
        refine pure_ (i := 4) (N := (some 54)) (v := ?_) (a' := ?_) #[true, true, true, true, true, false, false, false, false, false, false, false, false, false, false, false, false, false, false, false, false, false, false, false] rfl rfl (any_of HT_.out (by kernel_rfl)) (fun _ _ _ h => h) (Or.inl ⟨by rfl, ?_⟩) ?_ ?_
        rotate_left
        · (intro w'; go_simp; try with_reducible rfl)
        rotate_left
        · simp only [Act.put, List.setIfInBounds_toArray, List.set_cons_zero, List.set_cons_succ, i64_w, i32_w]
          rfl
        refine pure_ (i := 5) (N := (some 55)) (v := ?_) (a' := ?_) #[true, true, true, true, true, true, false, false, false, false, false, false, false, false, false, false, false, false, false, false, false, false, false, false] rfl rfl (any_of HT_.out (by kernel_rfl)) (fun _ _ _ h => h) (Or.inl ⟨by rfl, ?_⟩) ?_ ?_
        rotate_left
        · (intro w'; go_simp; try with_reducible rfl)
        rotate_left
        · simp only [Act.put, List.setIfInBounds_toArray, List.set_cons_zero, List.set_cons_succ, i64_w, i32_w]
          rfl
        refine pure_ (i := 6) (N := (some 56)) (v := ?_) (a' := ?_) #[true, true, true, true, true, true, true, false, false, false, false, false, false, false, false, false, false, false, false, false, false, false, false, false] rfl rfl (any_of HT_.out (by kernel_rfl)) (fun _ _ _ h => h) (Or.inl ⟨by rfl, ?_⟩) ?_ ?_
        rotate_left
        · (intro w'; go_simp; try with_reducible rfl)
        rotate_left
        · simp only [Act.put, List.setIfInBounds_toArray, List.set_cons_zero, List.set_cons_succ, i64_w, i32_w]
          rfl
        refine pure_ (i := 7) (N := (some 57)) (v := ?_) (a' := ?_) #[true, true, true, true, true, true, true, true, false, false, false, false, false, false, false, false, false, false, false, false, false, false, false, false] rfl rfl (any_of HT_.out (by kernel_rfl)) (fun _ _ _ h => h) (Or.inl ⟨by rfl, ?_⟩) ?_ ?_
        rotate_left
        · (intro w'; go_simp; try with_reducible rfl)
        rotate_left
        · simp only [Act.put, List.setIfInBounds_toArray, List.set_cons_zero, List.set_cons_succ, i64_w, i32_w]
          rfl
        refine pure_ (i := 8) (N := (some 58)) (v := ?_) (a' := ?_) #[true, true, true, true, true, true, true, true, true, false, false, false, false, false, false, false, false, false, false, false, false, false, false, false] rfl rfl (any_of HT_.out (by kernel_rfl)) (fun _ _ _ h => h) (Or.inl ⟨by rfl, ?_⟩) ?_ ?_
        rotate_left
        · (intro w'; go_simp; try with_reducible rfl)
        rotate_left
        · simp only [Act.put, List.setIfInBounds_toArray, List.set_cons_zero, List.set_cons_succ, i64_w, i32_w]
          rfl
        refine pure_ (i := 9) (N := (some 59)) (v := ?_) (a' := ?_) #[true, true, true, true, true, true, true, true, true, true, false, false, false, false, false, false, false, false, false, false, false, false, false, false] rfl rfl (any_of HT_.out (by kernel_rfl)) (fun _ _ _ h => h) (Or.inl ⟨by rfl, ?_⟩) ?_ ?_
        rotate_left
        · (intro w'; go_simp; try with_reducible rfl)
        rotate_left
        · simp only [Act.put, List.setIfInBounds_toArray, List.set_cons_zero, List.set_cons_succ, i64_w, i32_w]
          rfl
        refine take_ (i := 10) (N := (some 60)) (v := ?_) (a' := ?_) #[true, true, true, true, true, true, true, true, true, true, true, false, false, false, false, false, false, false, false, false, false, false, false, false] rfl rfl (take_ofW HT_.out HW_.out (by kernel_rfl)) (fun _ _ _ h => h) (Or.inl ⟨by rfl, ?_⟩) hHeld ?_ ?_
        rotate_left
        · (intro w' hSw; (try dsimp only at hSw); go_split_ands; go_simp; try with_reducible rfl)
        rotate_left
        · simp only [Act.put, List.setIfInBounds_toArray, List.set_cons_zero, List.set_cons_succ, i64_w, i32_w]
          rfl
        refine pure_ (i := 11) (N := (some 61)) (v := ?_) (a' := ?_) #[true, true, true, true, true, true, true, true, true, true, true, true, false, false, false, false, false, false, false, false, false, false, false, false] rfl rfl (any_of HT_.out (by kernel_rfl)) (fun _ _ _ h => h) (Or.inl ⟨by rfl, ?_⟩) ?_ ?_
        rotate_left
        · (intro w'; go_simp; try with_reducible rfl)
        rotate_left
        · simp only [Act.put, List.setIfInBounds_toArray, List.set_cons_zero, List.set_cons_succ, i64_w, i32_w]
          rfl
        refine pure_ (i := 12) (N := (some 62)) (v := ?_) (a' := ?_) #[true, true, true, true, true, true, true, true, true, true, true, true, true, false, false, false, false, false, false, false, false, false, false, false] rfl rfl (any_of HT_.out (by kernel_rfl)) (fun _ _ _ h => h) (Or.inl ⟨by rfl, ?_⟩) ?_ ?_
        rotate_left
        · (intro w'; go_simp; try with_reducible rfl)
        rotate_left
        · simp only [Act.put, List.setIfInBounds_toArray, List.set_cons_zero, List.set_cons_succ, i64_w, i32_w]
          rfl
        refine pure_ (i := 13) (N := (some 63)) (v := ?_) (a' := ?_) #[true, true, true, true, true, true, true, true, true, true, true, true, true, true, false, false, false, false, false, false, false, false, false, false] rfl rfl (any_of HT_.out (by kernel_rfl)) (fun _ _ _ h => h) (Or.inl ⟨by rfl, ?_⟩) ?_ ?_
        rotate_left
        · (intro w'; go_simp; try with_reducible rfl)
        rotate_left
        · simp only [Act.put, List.setIfInBounds_toArray, List.set_cons_zero, List.set_cons_succ, i64_w, i32_w]
          rfl
        refine take_ (i := 14) (N := (some 64)) (v := ?_) (a' := ?_) #[true, true, true, true, true, true, true, true, true, true, true, true, true, true, true, false, false, false, false, false, false, false, false, false] rfl rfl (take_ofW HT_.out HW_.out (by kernel_rfl)) (fun _ _ _ h => h) (Or.inl ⟨by rfl, ?_⟩) hHeld ?_ ?_
        rotate_left
        · (intro w' hSw; (try dsimp only at hSw); go_split_ands; go_simp; try with_reducible rfl)
        rotate_left
        · simp only [Act.put, List.setIfInBounds_toArray, List.set_cons_zero, List.set_cons_succ, i64_w, i32_w]
          rfl
        refine pure_ (i := 15) (N := (some 65)) (v := ?_) (a' := ?_) #[true, true, true, true, true, true, true, true, true, true, true, true, true, true, true, true, false, false, false, false, false, false, false, false] rfl rfl (any_of HT_.out (by kernel_rfl)) (fun _ _ _ h => h) (Or.inl ⟨by rfl, ?_⟩) ?_ ?_
        rotate_left
        · (intro w'; go_simp; try with_reducible rfl)
        rotate_left
        · simp only [Act.put, List.setIfInBounds_toArray, List.set_cons_zero, List.set_cons_succ, i64_w, i32_w]
          rfl
        refine pure_ (i := 16) (N := (some 66)) (v := ?_) (a' := ?_) #[true, true, true, true, true, true, true, true, true, true, true, true, true, true, true, true, true, false, false, false, false, false, false, false] rfl rfl (any_of HT_.out (by kernel_rfl)) (fun _ _ _ h => h) (Or.inl ⟨by rfl, ?_⟩) ?_ ?_
        rotate_left
        · (intro w'; go_simp; try with_reducible rfl)
        rotate_left
        · simp only [Act.put, List.setIfInBounds_toArray, List.set_cons_zero, List.set_cons_succ, i64_w, i32_w]
          rfl
        refine pure_ (i := 17) (N := (some 67)) (v := ?_) (a' := ?_) #[true, true, true, true, true, true, true, true, true, true, true, true, true, true, true, true, true, true, false, false, false, false, false, false] rfl rfl (any_of HT_.out (by kernel_rfl)) (fun _ _ _ h => h) (Or.inl ⟨by rfl, ?_⟩) ?_ ?_
        rotate_left
        · (intro w'; go_simp; try with_reducible rfl)
        rotate_left
        · simp only [Act.put, List.setIfInBounds_toArray, List.set_cons_zero, List.set_cons_succ, i64_w, i32_w]
          rfl
        refine take_ (i := 18) (N := (some 68)) (v := ?_) (a' := ?_) #[true, true, true, true, true, true, true, true, true, true, true, true, true, true, true, true, true, true, true, false, false, false, false, false] rfl rfl (take_ofW HT_.out HW_.out (by kernel_rfl)) (fun _ _ _ h => h) (Or.inl ⟨by rfl, ?_⟩) hHeld ?_ ?_
        rotate_left
        · (intro w' hSw; (try dsimp only at hSw); go_split_ands; go_simp; try with_reducible rfl)
        rotate_left
        · simp only [Act.put, List.setIfInBounds_toArray, List.set_cons_zero, List.set_cons_succ, i64_w, i32_w]
          rfl
        refine pure_ (i := 19) (N := (some 69)) (v := ?_) (a' := ?_) #[true, true, true, true, true, true, true, true, true, true, true, true, true, true, true, true, true, true, true, true, false, false, false, false] rfl rfl (any_of HT_.out (by kernel_rfl)) (fun _ _ _ h => h) (Or.inl ⟨by rfl, ?_⟩) ?_ ?_
        rotate_left
        · (intro w'; go_simp; try with_reducible rfl)
        rotate_left
        · simp only [Act.put, List.setIfInBounds_toArray, List.set_cons_zero, List.set_cons_succ, i64_w, i32_w]
          rfl
        refine pure_ (i := 20) (N := (some 70)) (v := ?_) (a' := ?_) #[true, true, true, true, true, true, true, true, true, true, true, true, true, true, true, true, true, true, true, true, true, false, false, false] rfl rfl (any_of HT_.out (by kernel_rfl)) (fun _ _ _ h => h) (Or.inl ⟨by rfl, ?_⟩) ?_ ?_
        rotate_left
        · (intro w'; go_simp; try with_reducible rfl)
        rotate_left
        · simp only [Act.put, List.setIfInBounds_toArray, List.set_cons_zero, List.set_cons_succ, i64_w, i32_w]
          rfl
        refine take_ (i := 21) (N := (some 71)) (v := ?_) (a' := ?_) #[true, true, true, true, true, true, true, true, true, true, true, true, true, true, true, true, true, true, true, true, true, true, false, false] rfl rfl (take_ofW HT_.out HW_.out (by kernel_rfl)) (fun _ _ _ h => h) (Or.inl ⟨by rfl, ?_⟩) hHeld ?_ ?_
        rotate_left
        · (intro w' hSw; (try dsimp only at hSw); go_split_ands; go_simp; try with_reducible rfl)
        rotate_left
        · simp only [Act.put, List.setIfInBounds_toArray, List.set_cons_zero, List.set_cons_succ, i64_w, i32_w]
          rfl
        refine one_ (i := 22) (N := (some 72)) #[true, true, true, true, true, true, true, true, true, true, true, true, true, true, true, true, true, true, true, true, true, true, true, false] rfl rfl (one_of HT_.out (by kernel_rfl)) (by decide) (fun K hK => ?_)
        refine goes_ Try.func76 (by kernel_rfl) rfl #[.agg #[.int .i64 Q.p, .int .i64 Q.q, .int .i64 Q.a], .int .u64 sk, .slice (some ⟨x.g, 0, none⟩) Q.p Q.p] (by rfl) rfl rfl (by (try simp only [List.map_toArray, List.map_cons, List.map_nil]); rfl) ((enough_calls Q sk (by omega) x.s HS.out _ _ _ (Kd.C_below HC.out HW.out) (Nat.le_refl _)).mono ?_)
        rintro e w1 ⟨rfl, hb1⟩
        refine ⟨_, rfl, ?_⟩
        have n0 := Aside0.mk (below_step HW.out hb1)
        have k0 := (n0.out.cell (World.block_lt_of_cell? _ _ c0)).trans c0
        have k1 := (n0.out.cell (World.block_lt_of_cell? _ _ c1)).trans c1
        have k2 := (n0.out.cell (World.block_lt_of_cell? _ _ c2)).trans c2
        have k3 := (n0.out.cell (World.block_lt_of_cell? _ _ c3)).trans c3
        have k4 := (n0.out.cell (World.block_lt_of_cell? _ _ c4)).trans c4
        have l0 := (n0.out.cell (World.block_lt_of_cell? _ _ e0)).trans e0
        have l1 := (n0.out.cell (World.block_lt_of_cell? _ _ e1)).trans e1
        have l2 := (n0.out.cell (World.block_lt_of_cell? _ _ e2)).trans e2
        clear HW hb1 c0 c1 c2 c3 c4 e0 e1 e2
        have HW := n0
        clear n0
        refine hK.out _ _ (⟨k0, k1, k2, k3, k4, l2⟩) (fun hHeld => ?_)
        clear hK K
        refine norm_ (a' := ?_) ?_ ?_
        rotate_left
        · show Act.put _ (some 72) _ = _
          simp only [Act.put, List.setIfInBounds_toArray, List.set_cons_zero, List.set_cons_succ, i64_w, i32_w]
          rfl
        refine pure_ (i := 23) (N := (some 73)) (v := ?_) (a' := ?_) #[true, true, true, true, true, true, true, true, true, true, true, true, true, true, true, true, true, true, true, true, true, true, true, true] rfl rfl (any_of HT_.out (by kernel_rfl)) (fun _ _ _ h => h) (Or.inl ⟨by rfl, ?_⟩) ?_ ?_
        rotate_left
        · (intro w'; go_simp; try with_reducible rfl)
        rotate_left
        · simp only [Act.put, List.setIfInBounds_toArray, List.set_cons_zero, List.set_cons_succ, i64_w, i32_w]
          rfl
        refine done_ (done_of HT_.out (by kernel_rfl)) ?_
        clear HT_ HW_ hHeld
        obtain ⟨A6, A7, c6, w6, hrun, hcut, hb6, hq6, hr6, hk6⟩ := ack_round (dv := .slice dA x.xs.length dc) HRS.out HR3.out HNN.out rfl HB.out H4.out H5.out hkl HW.out
        have k3 := (blk_cell hb6 3).trans rfl
        have k4 := (blk_cell hb6 4).trans rfl
        have f3 := blk_frozen hb6 3
        have f4 := blk_frozen hb6 4
        have Hq6 := Aside0.mk hq6
        have Hr6 := Aside0.mk hr6
        have Hk6 := Aside0.mk hk6
        clear hb6 hq6 hr6 hk6
        go_wp2_with (at_builtin; refine app_event rfl (.tmp 74) (.tmp 82) 52 rfl rfl rfl hrun ?_)
        go_roundw
        case rel => exact ⟨k + 1, A6, c6, rfl, ⟨by omega, by rw [show sure + (k + 1) = sk + 1 by have := Hsk.out; omega]; exact Hr6.out, fun i e hi he => by
          rcases Nat.lt_or_ge i k with hlt | hge
          · exact H3.out i e hlt he
          · obtain rfl : i = k := by omega
            have hxe := HXG.out
            rw [he] at hxe
            injection hxe with hxe
            subst hxe
            have := HE.out
            rw [Hsk.out] at this
            exact this, Hk6.out, Hq6.out⟩⟩
        case measure => simp [lenOf]; omega
      · have hd : decide (Q.a ≤ cnt Q sk x.s) = false := decide_eq_false hE
        clear hE
        go_wp2
        refine start_ (n := 24) (S := fun w' => w'.cell? ⟨b, 0, none⟩ = some (.int .i64 Q.p) ∧ w'.cell? ⟨b, 1, none⟩ = some (.int .i64 Q.q) ∧ w'.cell? ⟨b, 2, none⟩ = some (.int .i64 Q.a) ∧ w'.cell? ⟨b, 3, none⟩ = some (.int .u64 sk) ∧ w'.cell? ⟨b, 4, none⟩ = some (.slice (some ⟨gw, ow, none⟩) (nn + 1) cw) ∧ w'.cell? ⟨gw, ow + 2, none⟩ = some (.slice (some ⟨x.g, 0, none⟩) Q.p Q.p)) (ds := []) #[false, false, false, false, false, false, false, false, false, false, false, false, false, false, false, false, false, false, false, false, false, false, false, false] (by kernel_rfl) rfl rfl (⟨by go_simp, by go_simp, by go_simp, by go_simp, by go_simp, by go_simp⟩) (fun hHeld => ?_)
        refine with_tabW g18_5.tab g18_5.bits (fun HT_ HW_ => ?_)
        generalize hgen : wr.drew = W0 at hHeld ⊢; have HW : Aside0 (Below wr.heap.size wr W0) := ⟨by rw [← hgen]; exact below_drew1 (Below.refl _ _)⟩; clear hgen
        refine pure_ (i := 0) (N := (some 50)) (v := ?_) (a' := ?_) #[true, false, false, false, false, false, false, false, false, false, false, false, false, false, false, false, false, false, false, false, false, false, false, false] rfl rfl (any_of HT_.out (by kernel_rfl)) (fun _ _ _ h => h) (Or.inl ⟨by rfl, ?_⟩) ?_ ?_
        rotate_left
        · (intro w'; go_simp; try with_reducible rfl)
        rotate_left
        · simp only [Act.put, List.setIfInBounds_toArray, List.set_cons_zero, List.set_cons_succ, i64_w, i32_w]
          rfl
        refine pure_ (i := 1) (N := (some 51)) (v := ?_) (a' := ?_) #[true, true, false, false, false, false, false, false, false, false, false, false, false, false, false, false, false, false, false, false, false, false, false, false] rfl rfl (any_of HT_.out (by kernel_rfl)) (fun _ _ _ h => h) (Or.inl ⟨by rfl, ?_⟩) ?_ ?_
        rotate_left
        · (intro w'; go_simp; try with_reducible rfl)
        rotate_left
        · simp only [Act.put, List.setIfInBounds_toArray, List.set_cons_zero, List.set_cons_succ, i64_w, i32_w]
          rfl
        refine pure_ (i := 2) (N := (some 52)) (v := ?_) (a' := ?_) #[true, true, true, false, false, false, false, false, false, false, false, false, false, false, false, false, false, false, false, false, false, false, false, false] rfl rfl (any_of HT_.out (by kernel_rfl)) (fun _ _ _ h => h) (Or.inl ⟨by rfl, ?_⟩) ?_ ?_
        rotate_left
        · (intro w'; go_simp; try with_reducible rfl)
        rotate_left
        · simp only [Act.put, List.setIfInBounds_toArray, List.set_cons_zero, List.set_cons_succ, i64_w, i32_w]
          rfl
        refine take_ (i := 3) (N := (some 53)) (v := ?_) (a' := ?_) #[true, true, true, true, false, false, false, false, false, false, false, false, false, false, false, false, false, false, false, false, false, false, false, false] rfl rfl (take_ofW HT_.out HW_.out (by kernel_rfl)) (fun _ _ _ h => h) (Or.inl ⟨by rfl, ?_⟩) hHeld ?_ ?_
        rotate_left
        · (intro w' hSw; (try dsimp only at hSw); go_split_ands; go_simp; try with_reducible rfl)
        rotate_left
        · simp only [Act.put, List.setIfInBounds_toArray, List.set_cons_zero, List.set_cons_succ, i64_w, i32_w]
          rfl
        refine pure_ (i := 4) (N := (some 54)) (v := ?_) (a' := ?_) #[true, true, true, true, true, false, false, false, false, false, false, false, false, false, false, false, false, false, false, false, false, false, false, false] rfl rfl (any_of HT_.out (by kernel_rfl)) (fun _ _ _ h => h) (Or.inl ⟨by rfl, ?_⟩) ?_ ?_
        rotate_left
        · (intro w'; go_simp; try with_reducible rfl)
        rotate_left
        · simp only [Act.put, List.setIfInBounds_toArray, List.set_cons_zero, List.set_cons_succ, i64_w, i32_w]
          rfl
        refine pure_ (i := 5) (N := (some 55)) (v := ?_) (a' := ?_) #[true, true, true, true, true, true, false, false, false, false, false, false, false, false, false, false, false, false, false, false, false, false, false, false] rfl rfl (any_of HT_.out (by kernel_rfl)) (fun _ _ _ h => h) (Or.inl ⟨by rfl, ?_⟩) ?_ ?_
        rotate_left
        · (intro w'; go_simp; try with_reducible rfl)
        rotate_left
        · simp only [Act.put, List.setIfInBounds_toArray, List.set_cons_zero, List.set_cons_succ, i64_w, i32_w]
          rfl
        refine pure_ (i := 6) (N := (some 56)) (v := ?_) (a' := ?_) #[true, true, true, true, true, true, true, false, false, false, false, false, false, false, false, false, false, false, false, false, false, false, false, false] rfl rfl (any_of HT_.out (by kernel_rfl)) (fun _ _ _ h => h) (Or.inl ⟨by rfl, ?_⟩) ?_ ?_
        rotate_left
        · (intro w'; go_simp; try with_reducible rfl)
        rotate_left
        · simp only [Act.put, List.setIfInBounds_toArray, List.set_cons_zero, List.set_cons_succ, i64_w, i32_w]
          rfl
        refine pure_ (i := 7) (N := (some 57)) (v := ?_) (a' := ?_) #[true, true, true, true, true, true, true, true, false, false, false, false, false, false, false, false, false, false, false, false, false, false, false, false] rfl rfl (any_of HT_.out (by kernel_rfl)) (fun _ _ _ h => h) (Or.inl ⟨by rfl, ?_⟩) ?_ ?_
        rotate_left
        · (intro w'; go_simp; try with_reducible rfl)
        rotate_left
        · simp only [Act.put, List.setIfInBounds_toArray, List.set_cons_zero, List.set_cons_succ, i64_w, i32_w]
          rfl
        refine pure_ (i := 8) (N := (some 58)) (v := ?_) (a' := ?_) #[true, true, true, true, true, true, true, true, true, false, false, false, false, false, false, false, false, false, false, false, false, false, false, false] rfl rfl (any_of HT_.out (by kernel_rfl)) (fun _ _ _ h => h) (Or.inl ⟨by rfl, ?_⟩) ?_ ?_
        rotate_left
        · (intro w'; go_simp; try with_reducible rfl)
        rotate_left
        · simp only [Act.put, List.setIfInBounds_toArray, List.set_cons_zero, List.set_cons_succ, i64_w, i32_w]
          rfl
        refine pure_ (i := 9) (N := (some 59)) (v := ?_) (a' := ?_) #[true, true, true, true, true, true, true, true, true, true, false, false, false, false, false, false, false, false, false, false, false, false, false, false] rfl rfl (any_of HT_.out (by kernel_rfl)) (fun _ _ _ h => h) (Or.inl ⟨by rfl, ?_⟩) ?_ ?_
        rotate_left
        · (intro w'; go_simp; try with_reducible rfl)
        rotate_left
        · simp only [Act.put, List.setIfInBounds_toArray, List.set_cons_zero, List.set_cons_succ, i64_w, i32_w]
          rfl
        refine take_ (i := 10) (N := (some 60)) (v := ?_) (a' := ?_) #[true, true, true, true, true, true, true, true, true, true, true, false, false, false, false, false, false, false, false, false, false, false, false, false] rfl rfl (take_ofW HT_.out HW_.out (by kernel_rfl)) (fun _ _ _ h => h) (Or.inl ⟨by rfl, ?_⟩) hHeld ?_ ?_
        rotate_left
        · (intro w' hSw; (try dsimp only at hSw); go_split_ands; go_simp; try with_reducible rfl)
        rotate_left
        · simp only [Act.put, List.setIfInBounds_toArray, List.set_cons_zero, List.set_cons_succ, i64_w, i32_w]
          rfl
        refine pure_ (i := 11) (N := (some 61)) (v := ?_) (a' := ?_) #[true, true, true, true, true, true, true, true, true, true, true, true, false, false, false, false, false, false, false, false, false, false, false, false] rfl rfl (any_of HT_.out (by kernel_rfl)) (fun _ _ _ h => h) (Or.inl ⟨by rfl, ?_⟩) ?_ ?_
        rotate_left
        · (intro w'; go_simp; try with_reducible rfl)
        rotate_left
        · simp only [Act.put, List.setIfInBounds_toArray, List.set_cons_zero, List.set_cons_succ, i64_w, i32_w]
          rfl
        refine pure_ (i := 12) (N := (some 62)) (v := ?_) (a' := ?_) #[true, true, true, true, true, true, true, true, true, true, true, true, true, false, false, false, false, false, false, false, false, false, false, false] rfl rfl (any_of HT_.out (by kernel_rfl)) (fun _ _ _ h => h) (Or.inl ⟨by rfl, ?_⟩) ?_ ?_
        rotate_left
        · (intro w'; go_simp; try with_reducible rfl)
        rotate_left
        · simp only [Act.put, List.setIfInBounds_toArray, List.set_cons_zero, List.set_cons_succ, i64_w, i32_w]
          rfl
        refine pure_ (i := 13) (N := (some 63)) (v := ?_) (a' := ?_) #[true, true, true, true, true, true, true, true, true, true, true, true, true, true, false, false, false, false, false, false, false, false, false, false] rfl rfl (any_of HT_.out (by kernel_rfl)) (fun _ _ _ h => h) (Or.inl ⟨by rfl, ?_⟩) ?_ ?_
        rotate_left
        · (intro w'; go_simp; try with_reducible rfl)
        rotate_left
        · simp only [Act.put, List.setIfInBounds_toArray, List.set_cons_zero, List.set_cons_succ, i64_w, i32_w]
          rfl
        refine take_ (i := 14) (N := (some 64)) (v := ?_) (a' := ?_) #[true, true, true, true, true, true, true, true, true, true, true, true, true, true, true, false, false, false, false, false, false, false, false, false] rfl rfl (take_ofW HT_.out HW_.out (by kernel_rfl)) (fun _ _ _ h => h) (Or.inl ⟨by rfl, ?_⟩) hHeld ?_ ?_
        rotate_left
        · (intro w' hSw; (try dsimp only at hSw); go_split_ands; go_simp; try with_reducible rfl)
        rotate_left
        · simp only [Act.put, List.setIfInBounds_toArray, List.set_cons_zero, List.set_cons_succ, i64_w, i32_w]
          rfl
        refine pure_ (i := 15) (N := (some 65)) (v := ?_) (a' := ?_) #[true, true, true, true, true, true, true, true, true, true, true, true, true, true, true, true, false, false, false, false, false, false, false, false] rfl rfl (any_of HT_.out (by kernel_rfl)) (fun _ _ _ h => h) (Or.inl ⟨by rfl, ?_⟩) ?_ ?_
        rotate_left
        · (intro w'; go_simp; try with_reducible rfl)
        rotate_left
        · simp only [Act.put, List.setIfInBounds_toArray, List.set_cons_zero, List.set_cons_succ, i64_w, i32_w]
          rfl
        refine pure_ (i := 16) (N := (some 66)) (v := ?_) (a' := ?_) #[true, true, true, true, true, true, true, true, true, true, true, true, true, true, true, true, true, false, false, false, false, false, false, false] rfl rfl (any_of HT_.out (by kernel_rfl)) (fun _ _ _ h => h) (Or.inl ⟨by rfl, ?_⟩) ?_ ?_
        rotate_left
        · (intro w'; go_simp; try with_reducible rfl)
        rotate_left
        · simp only [Act.put, List.setIfInBounds_toArray, List.set_cons_zero, List.set_cons_succ, i64_w, i32_w]
          rfl
        refine pure_ (i := 17) (N := (some 67)) (v := ?_) (a' := ?_) #[true, true, true, true, true, true, true, true, true, true, true, true, true, true, true, true, true, true, false, false, false, false, false, false] rfl rfl (any_of HT_.out (by kernel_rfl)) (fun _ _ _ h => h) (Or.inl ⟨by rfl, ?_⟩) ?_ ?_
        rotate_left
        · (intro w'; go_simp; try with_reducible rfl)
        rotate_left
        · simp only [Act.put, List.setIfInBounds_toArray, List.set_cons_zero, List.set_cons_succ, i64_w, i32_w]
          rfl
        refine take_ (i := 18) (N := (some 68)) (v := ?_) (a' := ?_) #[true, true, true, true, true, true, true, true, true, true, true, true, true, true, true, true, true, true, true, false, false, false, false, false] rfl rfl (take_ofW HT_.out HW_.out (by kernel_rfl)) (fun _ _ _ h => h) (Or.inl ⟨by rfl, ?_⟩) hHeld ?_ ?_
        rotate_left
        · (intro w' hSw; (try dsimp only at hSw); go_split_ands; go_simp; try with_reducible rfl)
        rotate_left
        · simp only [Act.put, List.setIfInBounds_toArray, List.set_cons_zero, List.set_cons_succ, i64_w, i32_w]
          rfl
        refine pure_ (i := 19) (N := (some 69)) (v := ?_) (a' := ?_) #[true, true, true, true, true, true, true, true, true, true, true, true, true, true, true, true, true, true, true, true, false, false, false, false] rfl rfl (any_of HT_.out (by kernel_rfl)) (fun _ _ _ h => h) (Or.inl ⟨by rfl, ?_⟩) ?_ ?_
        rotate_left
        · (intro w'; go_simp; try with_reducible rfl)
        rotate_left
        · simp only [Act.put, List.setIfInBounds_toArray, List.set_cons_zero, List.set_cons_succ, i64_w, i32_w]
          rfl
        refine pure_ (i := 20) (N := (some 70)) (v := ?_) (a' := ?_) #[true, true, true, true, true, true, true, true, true, true, true, true, true, true, true, true, true, true, true, true, true, false, false, false] rfl rfl (any_of HT_.out (by kernel_rfl)) (fun _ _ _ h => h) (Or.inl ⟨by rfl, ?_⟩) ?_ ?_
        rotate_left
        · (intro w'; go_simp; try with_reducible rfl)
        rotate_left
        · simp only [Act.put, List.setIfInBounds_toArray, List.set_cons_zero, List.set_cons_succ, i64_w, i32_w]
          rfl
        refine take_ (i := 21) (N := (some 71)) (v := ?_) (a' := ?_) #[true, true, true, true, true, true, true, true, true, true, true, true, true, true, true, true, true, true, true, true, true, true, false, false] rfl rfl (take_ofW HT_.out HW_.out (by kernel_rfl)) (fun _ _ _ h => h) (Or.inl ⟨by rfl, ?_⟩) hHeld ?_ ?_
        rotate_left
        · (intro w' hSw; (try dsimp only at hSw); go_split_ands; go_simp; try with_reducible rfl)
        rotate_left
        · simp only [Act.put, List.setIfInBounds_toArray, List.set_cons_zero, List.set_cons_succ, i64_w, i32_w]
          rfl
        refine one_ (i := 22) (N := (some 72)) #[true, true, true, true, true, true, true, true, true, true, true, true, true, true, true, true, true, true, true, true, true, true, true, false] rfl rfl (one_of HT_.out (by kernel_rfl)) (by decide) (fun K hK => ?_)
        refine goes_ Try.func76 (by kernel_rfl) rfl #[.agg #[.int .i64 Q.p, .int .i64 Q.q, .int .i64 Q.a], .int .u64 sk, .slice (some ⟨x.g, 0, none⟩) Q.p Q.p] (by rfl) rfl rfl (by (try simp only [List.map_toArray, List.map_cons, List.map_nil]); rfl) ((enough_calls Q sk (by omega) x.s HS.out _ _ _ (Kd.C_below HC.out HW.out) (Nat.le_refl _)).mono ?_)
        rintro e w1 ⟨rfl, hb1⟩
        refine ⟨_, rfl, ?_⟩
        have n0 := Aside0.mk (below_step HW.out hb1)
        have k0 := (n0.out.cell (World.block_lt_of_cell? _ _ c0)).trans c0
        have k1 := (n0.out.cell (World.block_lt_of_cell? _ _ c1)).trans c1
        have k2 := (n0.out.cell (World.block_lt_of_cell? _ _ c2)).trans c2
        have k3 := (n0.out.cell (World.block_lt_of_cell? _ _ c3)).trans c3
        have k4 := (n0.out.cell (World.block_lt_of_cell? _ _ c4)).trans c4
        have l2 := (n0.out.cell (World.block_lt_of_cell? _ _ e2)).trans e2
        clear HW hb1 c0 c1 c2 c3 c4 e0 e1 e2
        have HW := n0
        clear n0
        refine hK.out _ _ (⟨k0, k1, k2, k3, k4, l2⟩) (fun hHeld => ?_)
        clear hK K
        refine norm_ (a' := ?_) ?_ ?_
        rotate_left
        · show Act.put _ (some 72) _ = _
          simp only [Act.put, List.setIfInBounds_toArray, List.set_cons_zero, List.set_cons_succ, i64_w, i32_w]
          rfl
        refine pure_ (i := 23) (N := (some 73)) (v := ?_) (a' := ?_) #[true, true, true, true, true, true, true, true, true, true, true, true, true, true, true, true, true, true, true, true, true, true, true, true] rfl rfl (any_of HT_.out (by kernel_rfl)) (fun _ _ _ h => h) (Or.inl ⟨by rfl, ?_⟩) ?_ ?_
        rotate_left
        · (intro w'; go_simp; try with_reducible rfl)
        rotate_left
        · simp only [Act.put, List.setIfInBounds_toArray, List.set_cons_zero, List.set_cons_succ, i64_w, i32_w]
          rfl
        refine done_ (done_of HT_.out (by kernel_rfl)) ?_
        clear HT_ HW_ hHeld
        go_wp2
        go_ret
        exact ack_end Hes2.out Hsk.out i1 HL2.out ((HR3.out.kp (Kp.of_below (fun _ => False) HW.out) (fun _ _ h => h))) HXG.out H3.out (H4.out.by_ HW.out)
    · have hke : k = es2.length := by omega
      have HKE := Lib.hid hke
      have hdr : es2.drop k = [] := List.drop_of_length_le (by omega)
      rw [hdr] at i2
      have HR3 := Aside0.mk i2
      obtain ⟨⟨v, hb, hq, hv⟩, hsb, hents, hdist, hlt⟩ := i2
      obtain ⟨A4, cw4, rfl, _⟩ := q_slice hq
      have c0 : wr.cell? ⟨b, 0, none⟩ = some (.int .i64 Q.p) := (blk_cell hb 0).trans rfl
      have c4 : wr.cell? ⟨b, 4, none⟩ = some (.slice A4 0 cw4) := (blk_cell hb 4).trans rfl
      have H3 := Aside0.mk i3
      have H4 := Aside0.mk i4
      clear hb hq hv hsb hents hdist hlt i3 i4 i5 hke hdr HI hsk hk
      go_wp2
      refine start_ (n := 24) (S := fun w' => w'.cell? ⟨b, 4, none⟩ = some (.slice A4 0 cw4) ∧ True) (ds := []) #[false, false, false, false, false, false, false, false, false, false, false, false, false, false, false, false, false, false, false, false, false, false, false, false] (by kernel_rfl) rfl rfl (⟨by go_simp, trivial⟩) (fun hHeld => ?_)
      refine with_tabW g18_5.tab g18_5.bits (fun HT_ HW_ => ?_)
      generalize hgen : wr.drew = W0 at hHeld ⊢; have HW : Aside0 (Below wr.heap.size wr W0) := ⟨by rw [← hgen]; exact below_drew1 (Below.refl _ _)⟩; clear hgen
      refine pure_ (i := 0) (N := (some 50)) (v := ?_) (a' := ?_) #[true, false, false, false, false, false, false, false, false, false, false, false, false, false, false, false, false, false, false, false, false, false, false, false] rfl rfl (any_of HT_.out (by kernel_rfl)) (fun _ _ _ h => h) (Or.inl ⟨by rfl, ?_⟩) ?_ ?_
      rotate_left
      · (intro w'; go_simp; try with_reducible rfl)
      rotate_left
      · simp only [Act.put, List.setIfInBounds_toArray, List.set_cons_zero, List.set_cons_succ, i64_w, i32_w]
        rfl
      refine pure_ (i := 1) (N := (some 51)) (v := ?_) (a' := ?_) #[true, true, false, false, false, false, false, false, false, false, false, false, false, false, false, false, false, false, false, false, false, false, false, false] rfl rfl (any_of HT_.out (by kernel_rfl)) (fun _ _ _ h => h) (Or.inl ⟨by rfl, ?_⟩) ?_ ?_
      rotate_left
      · (intro w'; go_simp; try with_reducible rfl)
      rotate_left
      · simp only [Act.put, List.setIfInBounds_toArray, List.set_cons_zero, List.set_cons_succ, i64_w, i32_w]
        rfl
      refine pure_ (i := 2) (N := (some 52)) (v := ?_) (a' := ?_) #[true, true, true, false, false, false, false, false, false, false, false, false, false, false, false, false, false, false, false, false, false, false, false, false] rfl rfl (any_of HT_.out (by kernel_rfl)) (fun _ _ _ h => h) (Or.inl ⟨by rfl, ?_⟩) ?_ ?_
      rotate_left
      · (intro w'; go_simp; try with_reducible rfl)
      rotate_left
      · simp only [Act.put, List.setIfInBounds_toArray, List.set_cons_zero, List.set_cons_succ, i64_w, i32_w]
        rfl
      refine take_ (i := 3) (N := (some 53)) (v := ?_) (a' := ?_) #[true, true, true, true, false, false, false, false, false, false, false, false, false, false, false, false, false, false, false, false, false, false, false, false] rfl rfl (take_ofW HT_.out HW_.out (by kernel_rfl)) (fun _ _ _ h => h) (Or.inl ⟨by rfl, ?_⟩) hHeld ?_ ?_
      rotate_left
      · (intro w' hSw; (try dsimp only at hSw); go_split_ands; go_simp; try with_reducible rfl)
      rotate_left
      · simp only [Act.put, List.setIfInBounds_toArray, List.set_cons_zero, List.set_cons_succ, i64_w, i32_w]
        rfl
      refine pure_ (i := 4) (N := (some 54)) (v := ?_) (a' := ?_) #[true, true, true, true, true, false, false, false, false, false, false, false, false, false, false, false, false, false, false, false, false, false, false, false] rfl rfl (any_of HT_.out (by kernel_rfl)) (fun _ _ _ h => h) (Or.inl ⟨by rfl, ?_⟩) ?_ ?_
      rotate_left
      · (intro w'; go_simp; try with_reducible rfl)
      rotate_left
      · simp only [Act.put, List.setIfInBounds_toArray, List.set_cons_zero, List.set_cons_succ, i64_w, i32_w]
        rfl
      refine pure_ (i := 5) (N := (some 55)) (v := ?_) (a' := ?_) #[true, true, true, true, true, true, false, false, false, false, false, false, false, false, false, false, false, false, false, false, false, false, false, false] rfl rfl (any_of HT_.out (by kernel_rfl)) (fun _ _ _ h => h) (Or.inl ⟨by rfl, ?_⟩) ?_ ?_
      rotate_left
      · (intro w'; go_simp; try with_reducible rfl)
      rotate_left
      · simp only [Act.put, List.setIfInBounds_toArray, List.set_cons_zero, List.set_cons_succ, i64_w, i32_w]
        rfl
      refine pure_ (i := 6) (N := (some 56)) (v := ?_) (a' := ?_) #[true, true, true, true, true, true, true, false, false, false, false, false, false, false, false, false, false, false, false, false, false, false, false, false] rfl rfl (any_of HT_.out (by kernel_rfl)) (fun _ _ _ h => h) (Or.inl ⟨by rfl, ?_⟩) ?_ ?_
      rotate_left
      · (intro w'; go_simp; try with_reducible rfl)
      rotate_left
      · simp only [Act.put, List.setIfInBounds_toArray, List.set_cons_zero, List.set_cons_succ, i64_w, i32_w]
        rfl
      refine pure_ (i := 7) (N := (some 57)) (v := undef) (a' := ?_) #[true, true, true, true, true, true, true, true, false, false, false, false, false, false, false, false, false, false, false, false, false, false, false, false] rfl rfl (any_of HT_.out (by kernel_rfl)) (fun _ _ _ h => h) (Or.inr ⟨by rfl, rfl⟩) ?_ ?_
      rotate_left
      · simp only [Act.put, List.setIfInBounds_toArray, List.set_cons_zero, List.set_cons_succ, i64_w, i32_w]
        rfl
      refine pure_ (i := 8) (N := (some 58)) (v := undef) (a' := ?_) #[true, true, true, true, true, true, true, true, true, false, false, false, false, false, false, false, false, false, false, false, false, false, false, false] rfl rfl (any_of HT_.out (by kernel_rfl)) (fun _ _ _ h => h) (Or.inr ⟨by rfl, rfl⟩) ?_ ?_
      rotate_left
      · simp only [Act.put, List.setIfInBounds_toArray, List.set_cons_zero, List.set_cons_succ, i64_w, i32_w]
        rfl
      refine pure_ (i := 9) (N := (some 59)) (v := undef) (a' := ?_) #[true, true, true, true, true, true, true, true, true, true, false, false, false, false, false, false, false, false, false, false, false, false, false, false] rfl rfl (any_of HT_.out (by kernel_rfl)) (fun _ _ _ h => h) (Or.inr ⟨by rfl, rfl⟩) ?_ ?_
      rotate_left
      · simp only [Act.put, List.setIfInBounds_toArray, List.set_cons_zero, List.set_cons_succ, i64_w, i32_w]
        rfl
      refine pure_ (i := 10) (N := (some 60)) (v := undef) (a' := ?_) #[true, true, true, true, true, true, true, true, true, true, true, false, false, false, false, false, false, false, false, false, false, false, false, false] rfl rfl (any_of HT_.out (by kernel_rfl)) (fun _ _ _ h => h) (Or.inr ⟨by rfl, rfl⟩) ?_ ?_
      rotate_left
      · simp only [Act.put, List.setIfInBounds_toArray, List.set_cons_zero, List.set_cons_succ, i64_w, i32_w]
        rfl
      refine pure_ (i := 11) (N := (some 61)) (v := undef) (a' := ?_) #[true, true, true, true, true, true, true, true, true, true, true, true, false, false, false, false, false, false, false, false, false, false, false, false] rfl rfl (any_of HT_.out (by kernel_rfl)) (fun _ _ _ h => h) (Or.inr ⟨by rfl, rfl⟩) ?_ ?_
      rotate_left
      · simp only [Act.put, List.setIfInBounds_toArray, List.set_cons_zero, List.set_cons_succ, i64_w, i32_w]
        rfl
      refine pure_ (i := 12) (N := (some 62)) (v := undef) (a' := ?_) #[true, true, true, true, true, true, true, true, true, true, true, true, true, false, false, false, false, false, false, false, false, false, false, false] rfl rfl (any_of HT_.out (by kernel_rfl)) (fun _ _ _ h => h) (Or.inr ⟨by rfl, rfl⟩) ?_ ?_
      rotate_left
      · simp only [Act.put, List.setIfInBounds_toArray, List.set_cons_zero, List.set_cons_succ, i64_w, i32_w]
        rfl
      refine pure_ (i := 13) (N := (some 63)) (v := undef) (a' := ?_) #[true, true, true, true, true, true, true, true, true, true, true, true, true, true, false, false, false, false, false, false, false, false, false, false] rfl rfl (any_of HT_.out (by kernel_rfl)) (fun _ _ _ h => h) (Or.inr ⟨by rfl, rfl⟩) ?_ ?_
      rotate_left
      · simp only [Act.put, List.setIfInBounds_toArray, List.set_cons_zero, List.set_cons_succ, i64_w, i32_w]
        rfl
      refine pure_ (i := 14) (N := (some 64)) (v := undef) (a' := ?_) #[true, true, true, true, true, true, true, true, true, true, true, true, true, true, true, false, false, false, false, false, false, false, false, false] rfl rfl (any_of HT_.out (by kernel_rfl)) (fun _ _ _ h => h) (Or.inr ⟨by rfl, rfl⟩) ?_ ?_
      rotate_left
      · simp only [Act.put, List.setIfInBounds_toArray, List.set_cons_zero, List.set_cons_succ, i64_w, i32_w]
        rfl
      refine pure_ (i := 15) (N := (some 65)) (v := undef) (a' := ?_) #[true, true, true, true, true, true, true, true, true, true, true, true, true, true, true, true, false, false, false, false, false, false, false, false] rfl rfl (any_of HT_.out (by kernel_rfl)) (fun _ _ _ h => h) (Or.inr ⟨by rfl, rfl⟩) ?_ ?_
      rotate_left
      · simp only [Act.put, List.setIfInBounds_toArray, List.set_cons_zero, List.set_cons_succ, i64_w, i32_w]
        rfl
      refine pure_ (i := 16) (N := (some 66)) (v := undef) (a' := ?_) #[true, true, true, true, true, true, true, true, true, true, true, true, true, true, true, true, true, false, false, false, false, false, false, false] rfl rfl (any_of HT_.out (by kernel_rfl)) (fun _ _ _ h => h) (Or.inr ⟨by rfl, rfl⟩) ?_ ?_
      rotate_left
      · simp only [Act.put, List.setIfInBounds_toArray, List.set_cons_zero, List.set_cons_succ, i64_w, i32_w]
        rfl
      refine pure_ (i := 17) (N := (some 67)) (v := undef) (a' := ?_) #[true, true, true, true, true, true, true, true, true, true, true, true, true, true, true, true, true, true, false, false, false, false, false, false] rfl rfl (any_of HT_.out (by kernel_rfl)) (fun _ _ _ h => h) (Or.inr ⟨by rfl, rfl⟩) ?_ ?_
      rotate_left
      · simp only [Act.put, List.setIfInBounds_toArray, List.set_cons_zero, List.set_cons_succ, i64_w, i32_w]
        rfl
      refine pure_ (i := 18) (N := (some 68)) (v := undef) (a' := ?_) #[true, true, true, true, true, true, true, true, true, true, true, true, true, true, true, true, true, true, true, false, false, false, false, false] rfl rfl (any_of HT_.out (by kernel_rfl)) (fun _ _ _ h => h) (Or.inr ⟨by rfl, rfl⟩) ?_ ?_
      rotate_left
      · simp only [Act.put, List.setIfInBounds_toArray, List.set_cons_zero, List.set_cons_succ, i64_w, i32_w]
        rfl
      refine pure_ (i := 19) (N := (some 69)) (v := undef) (a' := ?_) #[true, true, true, true, true, true, true, true, true, true, true, true, true, true, true, true, true, true, true, true, false, false, false, false] rfl rfl (any_of HT_.out (by kernel_rfl)) (fun _ _ _ h => h) (Or.inr ⟨by rfl, rfl⟩) ?_ ?_
      rotate_left
      · simp only [Act.put, List.setIfInBounds_toArray, List.set_cons_zero, List.set_cons_succ, i64_w, i32_w]
        rfl
      refine pure_ (i := 20) (N := (some 70)) (v := undef) (a' := ?_) #[true, true, true, true, true, true, true, true, true, true, true, true, true, true, true, true, true, true, true, true, true, false, false, false] rfl rfl (any_of HT_.out (by kernel_rfl)) (fun _ _ _ h => h) (Or.inr ⟨by rfl, rfl⟩) ?_ ?_
      rotate_left
      · simp only [Act.put, List.setIfInBounds_toArray, List.set_cons_zero, List.set_cons_succ, i64_w, i32_w]
        rfl
      refine pure_ (i := 21) (N := (some 71)) (v := undef) (a' := ?_) #[true, true, true, true, true, true, true, true, true, true, true, true, true, true, true, true, true, true, true, true, true, true, false, false] rfl rfl (any_of HT_.out (by kernel_rfl)) (fun _ _ _ h => h) (Or.inr ⟨by rfl, rfl⟩) ?_ ?_
      rotate_left
      · simp only [Act.put, List.setIfInBounds_toArray, List.set_cons_zero, List.set_cons_succ, i64_w, i32_w]
        rfl
      refine pure_ (i := 22) (N := (some 72)) (v := undef) (a' := ?_) #[true, true, true, true, true, true, true, true, true, true, true, true, true, true, true, true, true, true, true, true, true, true, true, false] rfl rfl (any_of HT_.out (by kernel_rfl)) (fun _ _ _ h => h) (Or.inr ⟨by rfl, rfl⟩) ?_ ?_
      rotate_left
      · simp only [Act.put, List.setIfInBounds_toArray, List.set_cons_zero, List.set_cons_succ, i64_w, i32_w]
        rfl
      refine pure_ (i := 23) (N := (some 73)) (v := ?_) (a' := ?_) #[true, true, true, true, true, true, true, true, true, true, true, true, true, true, true, true, true, true, true, true, true, true, true, true] rfl rfl (any_of HT_.out (by kernel_rfl)) (fun _ _ _ h => h) (Or.inl ⟨by rfl, ?_⟩) ?_ ?_
      rotate_left
      · (intro w'; go_simp; try with_reducible rfl)
      rotate_left
      · simp only [Act.put, List.setIfInBounds_toArray, List.set_cons_zero, List.set_cons_succ, i64_w, i32_w]
        rfl
      refine done_ (done_of HT_.out (by kernel_rfl)) ?_
      clear HT_ HW_ hHeld
      go_wp2
      go_ret
      exact ack_end0 Hes2.out Hsk.out HKE.out HL2.out ((HR3.out.kp (Kp.of_below (fun _ => False) HW.out) (fun _ _ h => h))) H3.out (H4.out.by_ HW.out)

end Go.Proofs.Ytigcpknfcdcllaa
