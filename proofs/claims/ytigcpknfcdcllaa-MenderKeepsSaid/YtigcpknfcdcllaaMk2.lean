/- The writer: what it holds in memory; contracts of New, Add, Ack. -/
import Derived.Test.YtigcpknfcdcllaaMk1
import Derived.Deep.LoopGhost
namespace Go.Proofs.Ytigcpknfcdcllaa
open Go.RowKit Go.Proofs.YtigcpknfcdcllaaW.PrintWords Go.Proofs.YtigcpknfcdcllaaW.PrintLast Go.Proofs.YtigcpknfcdcllaaLb

/-- An entry that waits: its data's value and bytes, its row of who said so. -/
structure Ent where
  d : Value
  xs : List Int
  g : Nat
  s : List Bool

def entCells (p : Nat) : Nat → List Ent → List Value
  | _, [] => []
  | n, e :: r => .int .u64 n :: e.d :: .slice (some ⟨e.g, 0, none⟩) p p :: entCells p (n + 1) r
theorem entCells_length (p : Nat) : ∀ (n : Nat) (es : List Ent), (entCells p n es).length = es.length * 3
  | _, [] => rfl
  | n, e :: r => by simp only [entCells, List.length_cons, entCells_length p (n + 1) r]; omega
theorem entCells_snoc (p : Nat) (e : Ent) : ∀ (n : Nat) (es : List Ent), entCells p n (es ++ [e]) = entCells p n es ++ [.int .u64 (n + es.length : Nat), e.d, .slice (some ⟨e.g, 0, none⟩) p p]
  | n, [] => rfl
  | n, x :: r => by
    simp only [List.cons_append, entCells, entCells_snoc p e (n + 1) r, List.length_cons]
    rw [show n + 1 + r.length = n + (r.length + 1) by omega]
theorem entCells_get (p : Nat) : ∀ (n : Nat) (es : List Ent) (i : Nat) (e : Ent), es[i]? = some e → (entCells p n es)[i * 3]? = some (.int .u64 (n + i : Nat)) ∧ (entCells p n es)[i * 3 + 1]? = some e.d ∧ (entCells p n es)[i * 3 + 2]? = some (.slice (some ⟨e.g, 0, none⟩) p p)
  | _, [], _, _, h => by simp at h
  | n, x :: r, 0, e, h => by
    have : x = e := by simpa using h
    subst this
    exact ⟨rfl, rfl, rfl⟩
  | n, x :: r, i + 1, e, h => by
    have h' : r[i]? = some e := by simpa using h
    obtain ⟨h1, h2, h3⟩ := entCells_get p (n + 1) r i e h'
    rw [show (i + 1) * 3 = i * 3 + 1 + 1 + 1 by omega]
    simp only [entCells, List.getElem?_cons_succ]
    rw [show n + (i + 1) = n + 1 + i by omega]
    exact ⟨h1, h2, h3⟩

/-- What a right quorum is. -/
structure Qm where
  p : Nat
  q : Nat
  a : Nat
  h1 : 1 ≤ a
  h2 : a ≤ q
  h3 : q ≤ p
  h4 : p ≤ 7
def Qm.val (Q : Qm) : Value := .agg #[.int .i64 Q.p, .int .i64 Q.q, .int .i64 Q.a]

/-- The writer at block b, over the blocks S: the first 'sure' entries are confirmed, es wait. -/
structure WRep (w : World) (b : Nat) (S : Nat → Prop) (Q : Qm) (sure : Nat) (es : List Ent) : Prop where
  at_ : ∃ v, w.heap[b]? = some (.cells #[.int .i64 Q.p, .int .i64 Q.q, .int .i64 Q.a, .int .u64 sure, v, .bool false] 154 (0, 0)) ∧ QRow w 0 159 3 v es.length (entCells Q.p sure es) ∧ (∀ k, v.ownBlock = some k → S k)
  sb : S b
  ents : ∀ (i : Nat) (e : Ent), es[i]? = some e → Bs w e.d e.xs ∧ w.heap[e.g]? = some (Obj.cells (e.s.map Value.bool).toArray 4 (0, 0)) ∧ e.s.length = Q.p ∧ S e.g
  dist : es.Pairwise (fun x y => x.g ≠ y.g)
  lt : ∀ k, S k → k < w.heap.size

/-- It stays what it is while its blocks do. -/
theorem WRep.kp {w w' : World} {b : Nat} {S T : Nat → Prop} {Q : Qm} {sure : Nat} {es : List Ent} (h : WRep w b S Q sure es) (k : Kp T w w') (hd : ∀ i, S i → ¬ T i) : WRep w' b S Q sure es := by
  obtain ⟨⟨v, h1, h2, h3⟩, h4, h5, h6, h7⟩ := h
  refine ⟨⟨v, k.blk h1 (hd _ h4), q_move h2 (fun i hi => k.block i (h7 i (h3 i hi)) (hd i (h3 i hi))), h3⟩, h4, fun i e he => ?_, h6, fun i hi => Nat.lt_of_lt_of_le (h7 i hi) k.size⟩
  obtain ⟨a1, a2, a3, a4⟩ := h5 i e he
  exact ⟨a1.kp k, k.blk a2 (hd _ a4), a3, a4⟩

theorem Try.info154z (w : World) : (zeroValue 154).run Try.prog w = .ok (.agg #[.int .i64 0, .int .i64 0, .int .i64 0, .int .u64 0, .slice none 0 0, .bool false]) w := by kernel_rfl
theorem Try.info4 : (Try.prog.info? 4).map (fun i => (i.zero, i.size, i.bytes)) = some (some (.bool false), 1, 1) := by kernel_rfl
theorem Try.info159 : (Try.prog.info? 159).map (fun i => (i.zero, i.size, i.bytes)) = some (some (.agg #[.int .u64 0, .slice none 0 0, .slice none 0 0]), 3, 56) := by kernel_rfl

theorem check_yes (Q : Qm) (w : World) : Calls Try.prog 69 #[Q.val] w fun e w' => e = .returned (.bool true) ∧ Below w.heap.size w w' :=
  PMenderKeeps.quorum_Check.calls Q.p Q.q Q.a true w (by
    have := Q.h1; have := Q.h2; have := Q.h3; have := Q.h4
    unfold PMenderKeeps.quorum_Check.f
    rw [if_pos (by omega), if_pos (by omega), if_pos (by omega), decide_eq_true (by omega)])

theorem cells3 {w : World} {g : Nat} {x y z : Value} {t : TypeId} (h : w.heap[g]? = some (.cells #[x, y, z] t (0, 0))) : w.cell? ⟨g, 0, none⟩ = some x ∧ w.cell? ⟨g, 1, none⟩ = some y ∧ w.cell? ⟨g, 2, none⟩ = some z :=
  ⟨(blk_cell h 0).trans rfl, (blk_cell h 1).trans rfl, (blk_cell h 2).trans rfl⟩

set_option maxRecDepth 100000 in
theorem writer_new (Q : Qm) (w : World) : Calls Try.prog 13 #[Q.val] w fun e w' => ∃ b, e = .returned (.tuple #[.pointer (some ⟨b, 0, none⟩), .int .i64 0]) ∧ WRep w' b (fun k => k = b) Q 0 [] ∧ w.heap.size ≤ b ∧ Below w.heap.size w w' := by
  unfold Qm.val
  have hz := Try.info154z
  go_enter Try.func13, Try.ntmps13
  go_wp2_with (first
    | ((with_reducible refine gate_dst (N := 1) rfl ?_); refine alloc_event (N := 1) rfl rfl (cs := #[.int .i64 Q.p, .int .i64 Q.q, .int .i64 Q.a]) (t := 26) (fun g => .pointer (some ⟨g, 0, none⟩)) ?hr ?_; (case hr => first | (go_simp; done) | (go_simp; rfl)); intro g w0 hg hbox hb0; obtain ⟨c0, c1, c2⟩ := cells3 hbox)
    | (go_at_call 69; refine (check_yes Q _).mono ?_; rintro e w1 ⟨rfl, hb⟩; obtain ⟨d0, d1, d2⟩ := cells3 (blk_below hbox hb))
    | ((with_reducible refine gate_dst (N := 9) rfl ?_); refine alloc_event (N := 9) rfl rfl (cs := #[.int .i64 Q.p, .int .i64 Q.q, .int .i64 Q.a, .int .u64 0, .slice none 0 0, .bool false]) (t := 154) (fun g => .pointer (some ⟨g, 0, none⟩)) ?hr2 ?_; (case hr2 => first | (go_simp; done) | (go_simp; rfl)); intro b w2 hb2 hbox2 hb3))
  go_ret2
  have hsz := hb.size
  have hs0 := hb0.size
  exact ⟨b, rfl, ⟨⟨_, hbox2, q_of_own (own_nil _ _ _ _), fun k hk => by simp [Value.ownBlock] at hk⟩, rfl, fun i e he => by simp at he, List.Pairwise.nil, fun k hk => by subst hk; exact lt_of_blk hbox2⟩, by omega, below_step (below_step hb0 hb) hb3⟩

theorem run_make_said (p : Nat) (hp : p ≤ 7) (W : World) : (Instr.makeSlice 37 (.int .i64 (p : Int)) (.int .i64 (p : Int))).run Try.prog W = .ok (.slice (some ⟨W.heap.size, 0, none⟩) p p) (W.alloc (.cells (madeCells #[.bool false] p) 4)) :=
  run_make_row' 37 4 (.bool false) 1 Try.underlying37 Try.info4 rfl .i64 .i64 p (by omega) (by omega) W

theorem count_rep (b sure : Nat) (A : Option Addr) (n c : Nat) (w : World) (hs : sure ≤ 1000000) (hn : n ≤ 1000000) (h1 : w.cell? ⟨b, 3, none⟩ = some (.int .u64 sure)) (h2 : w.cell? ⟨b, 4, none⟩ = some (.slice A n c)) :
    Calls Try.prog 71 #[.pointer (some ⟨b, 0, none⟩)] w fun e w' => e = .returned (.int .u64 (sure + n : Nat)) ∧ ∃ m, w' = w.drewN m := by
  refine (count_any b sure A n c w h1 h2).mono ?_
  rintro e w' ⟨rfl, ⟨m, rfl⟩⟩
  refine ⟨?_, m, rfl⟩
  rw [IntWalk.u64_in n (by omega), IntWalk.u64_in _ (by omega)]
  rfl

theorem made_said (p : Nat) : madeCells #[.bool false] p = ((List.replicate p false).map Value.bool).toArray := by
  have h : ∀ i : Nat, [Value.bool false][i % 1]?.getD default = Value.bool false := fun i => by rw [Nat.mod_one]; rfl
  simp only [madeCells, List.map_replicate]
  apply Array.ext
  · simp
  · intro i h1 h2
    simp [h]

/-- An entry put behind those that wait. -/
theorem wrep_added {w W w1 : World} {b : Nat} {S : Nat → Prop} {Q : Qm} {sure : Nat} {es : List Ent} {v v' dv : Value} {ds : List Int} {g : Nat} (h : WRep w b S Q sure es)
    (hb : w.heap[b]? = some (.cells #[.int .i64 Q.p, .int .i64 Q.q, .int .i64 Q.a, .int .u64 sure, v, .bool false] 154 (0, 0))) (hq : QRow w 0 159 3 v es.length (entCells Q.p sure es)) (hv : ∀ k, v.ownBlock = some k → S k)
    (hW : Below w.heap.size w W) (hx : QRow w1 0 159 3 v' (es.length + 1) (entCells Q.p sure es ++ [.int .u64 (sure + es.length : Nat), dv, .slice (some ⟨g, 0, none⟩) Q.p Q.p])) (hg : W.grownBy w1 v.ownBlock)
    (hat : v'.ownBlock = v.ownBlock ∨ ∃ k, v'.ownBlock = some k ∧ W.heap.size ≤ k) (hM : W.heap[g]? = some (.cells (madeCells #[.bool false] Q.p) 4 (0, 0))) (hgn : w.heap.size ≤ g) (hD : Bs W dv ds) :
    w1.heap[b]? = some (.cells #[.int .i64 Q.p, .int .i64 Q.q, .int .i64 Q.a, .int .u64 sure, v, .bool false] 154 (0, 0)) ∧ ∃ (S' : Nat → Prop) (x : Ent), x.xs = ds ∧ x.s = List.replicate Q.p false ∧ WRep (w1.setCell ⟨b, 4, none⟩ v') b S' Q sure (es ++ [x]) ∧ Kp S w (w1.setCell ⟨b, 4, none⟩ v') ∧ (∀ k, S' k → S k ∨ w.heap.size ≤ k) ∧ ∀ k, S k → S' k := by
  have hbv : ∀ k, v.ownBlock = some k → k ≠ b := fun k hk e => by
    subst e
    obtain ⟨_, cells, hc⟩ := q_typed hq k hk
    rw [hc] at hb
    injection hb with hb
    injection hb with _ hb
    cases hb
  have K1 : Kp S w w1 := (Kp.of_below S hW).grown hg (fun k hk _ => hv k hk) (fun k hk cs fr hc => by
    obtain ⟨_, cells, hc'⟩ := q_typed hq k hk
    rw [hW.block k (q_lt hq k hk), hc'] at hc
    injection hc with hc
    injection hc with _ hc
    cases hc)
  have hb1 : w1.heap[b]? = some (.cells #[.int .i64 Q.p, .int .i64 Q.q, .int .i64 Q.a, .int .u64 sure, v, .bool false] 154 (0, 0)) :=
    (hg.block b (Nat.lt_of_lt_of_le (lt_of_blk hb) hW.size) (fun e => hbv b e.symm rfl)).trans ((hW.block b (lt_of_blk hb)).trans hb)
  have K2 : Kp S w (w1.setCell ⟨b, 4, none⟩ v') := K1.set (p := ⟨b, 4, none⟩) (fun _ => h.sb) hb1 (by decide) _
  have gt : ∀ k, v'.ownBlock = some k → k ≠ b := fun k hk e => by
    rcases hat with hat | ⟨k', hk', hle⟩
    · exact hbv k (hat ▸ hk) e
    · rw [hk] at hk'
      injection hk' with hk'
      have := lt_of_blk hb
      have := hW.size
      omega
  have hgv : some g ≠ v.ownBlock := fun e => by have := q_lt hq g e.symm; omega
  have hM1 : w1.heap[g]? = some (.cells (madeCells #[.bool false] Q.p) 4 (0, 0)) := (hg.block g (lt_of_blk hM) hgv).trans hM
  have hgb : g ≠ b := fun e => by have := lt_of_blk hb; omega
  refine ⟨hb1, fun k => S k ∨ k = g ∨ v'.ownBlock = some k, ⟨dv, ds, g, List.replicate Q.p false⟩, rfl, rfl, ⟨⟨v', blk_set hb1 4 v', ?_, fun k hk => .inr (.inr hk)⟩, .inl h.sb, ?_, ?_, ?_⟩, K2, ?_, fun k hk => .inl hk⟩
  · rw [entCells_snoc, List.length_append]
    exact q_move hx (fun k hk => Below.heap_setCell w1 ⟨b, 4, none⟩ v' k (gt k hk))
  · intro i e he
    rcases Nat.lt_or_ge i es.length with hi | hi
    · rw [List.getElem?_append_left hi] at he
      obtain ⟨a1, a2, a3, a4⟩ := h.ents i e he
      have hne : e.g ≠ b := fun e1 => by
        rw [e1, hb] at a2
        injection a2 with a2
        injection a2 with _ a2
        cases a2
      have hnv : some e.g ≠ v.ownBlock := fun e1 => by
        obtain ⟨_, cells, hc⟩ := q_typed hq e.g e1.symm
        rw [hc] at a2
        injection a2 with a2
        injection a2 with _ a2
        cases a2
      refine ⟨a1.kp K2, ?_, a3, .inl a4⟩
      exact (Below.heap_setCell w1 ⟨b, 4, none⟩ v' e.g hne).trans ((hg.block e.g (Nat.lt_of_lt_of_le (h.lt _ a4) hW.size) hnv).trans ((hW.block e.g (h.lt _ a4)).trans a2))
    · rw [List.getElem?_append_right hi] at he
      have hi0 : i - es.length = 0 := by
        have := (List.getElem?_eq_some_iff.1 he).1
        simpa using this
      rw [hi0] at he
      have he' : (⟨dv, ds, g, List.replicate Q.p false⟩ : Ent) = e := by simpa using he
      subst he'
      refine ⟨?_, ?_, by simp, .inr (.inl rfl)⟩
      · have Kg : Kp (fun k => v.ownBlock = some k) W w1 := (Kp.refl _ W).grown hg (fun k hk _ => hk) (fun k hk cs fr hc => by
          obtain ⟨_, cells, hc'⟩ := q_typed hq k hk
          rw [hW.block k (q_lt hq k hk), hc'] at hc
          injection hc with hc
          injection hc with _ hc
          cases hc)
        have Ks : Kp (fun k => k = b) w1 (w1.setCell ⟨b, 4, none⟩ v') := (Kp.refl (fun k => k = b) w1).set (p := ⟨b, 4, none⟩) (fun _ => rfl) hb1 (by decide) _
        exact (hD.kp Kg).kp Ks
      · rw [← made_said]
        exact (Below.heap_setCell w1 ⟨b, 4, none⟩ v' g hgb).trans hM1
  · rw [List.pairwise_append]
    refine ⟨h.dist, List.pairwise_singleton _ _, fun x hx y hy => ?_⟩
    have hy' := List.mem_singleton.1 hy
    subst hy'
    obtain ⟨i, hi, rfl⟩ := List.mem_iff_getElem.1 hx
    have := h.lt _ (h.ents i _ (List.getElem?_eq_getElem hi)).2.2.2
    show es[i].g ≠ g
    omega
  · intro k hk
    rcases hk with hk | rfl | hk
    · exact Nat.lt_of_lt_of_le (h.lt k hk) K2.size
    · exact Nat.lt_of_lt_of_le (lt_of_blk hM1) (by simp [World.setCell])
    · exact Nat.lt_of_lt_of_le (q_lt hx k hk) (by simp [World.setCell])
  · intro k hk
    rcases hk with hk | rfl | hk
    · exact .inl hk
    · exact .inr hgn
    · rcases hat with hat | ⟨k', hk', hle⟩
      · exact .inl (hv k (hat ▸ hk))
      · rw [hk] at hk'
        injection hk' with hk'
        have := hW.size
        exact .inr (by omega)

def g16_10.T : Bool × List (List Nat × List Nat) := (true, [([], []), ([], []), ([1], [1]), ([2], [2]), ([3], [3]), ([], []), ([], []), ([6], [6]), ([5, 7], [5, 7]), ([], []), ([9], [9]), ([10], [10]), ([11], [11]), ([12], [12]), ([13, 13], [13]), ([8, 14], [8, 14]), ([15], [15]), ([4, 16, 7], [4, 16]), ([0, 0, 1, 2, 3, 4, 5, 6, 7, 8, 9, 10, 11, 12, 13, 14, 15, 16, 17], [0]), ([18, 0, 1, 2, 3, 4, 5, 6, 7, 8, 9, 10, 11, 12, 13, 14, 15, 16, 17], [18]), ([19, 17, 17, 0, 1, 2, 3, 4, 5, 6, 7, 8, 9, 10, 11, 12, 13, 14, 15, 16, 17], [17, 19])])
def g16_10.B : List Nat := [0, 0, 2, 6, 14, 0, 0, 64, 224, 0, 512, 1536, 3584, 7680, 15872, 32736, 65504, 131070, 262143, 524287, 1048575]
theorem g16_10.tab : rtab .any (opsOf Try.f16 10) = g16_10.T := by kernel_rfl
theorem g16_10.bits : waitsOk g16_10.T.2 g16_10.B = true := by kernel_rfl

set_option maxRecDepth 100000 in
set_option maxHeartbeats 1000000 in
theorem writer_add (Q : Qm) (b : Nat) (S : Nat → Prop) (sure : Nat) (es : List Ent) (dv : Value) (ds : List Int) (w : World) (h : WRep w b S Q sure es) (hd : Bs w dv ds) (hdl : ds.length ≤ 256) (hes : es.length < 64) (hsu : sure ≤ 1000000) :
    Calls Try.prog 16 #[.pointer (some ⟨b, 0, none⟩), dv] w fun e w' => ∃ (S' : Nat → Prop) (x : Ent), e = .returned (.tuple #[.int .u64 (sure + es.length : Nat), .int .i64 0]) ∧ x.xs = ds ∧ x.s = List.replicate Q.p false ∧ WRep w' b S' Q sure (es ++ [x]) ∧ Kp S w w' ∧ (∀ k, S' k → S k ∨ w.heap.size ≤ k) ∧ ∀ k, S k → S' k := by
  have HR := Lib.hid h
  obtain ⟨⟨v, hb, hq, hv⟩, hsb, hents, hdist, hlt⟩ := h
  obtain ⟨A, c, rfl, hnc⟩ := q_slice hq
  obtain ⟨dA, dc, rfl, hdc, hdC, hdb⟩ := id hd
  have c0 : w.cell? ⟨b, 0, none⟩ = some (.int .i64 Q.p) := (blk_cell hb 0).trans rfl
  have c3 : w.cell? ⟨b, 3, none⟩ = some (.int .u64 sure) := (blk_cell hb 3).trans rfl
  have c4 : w.cell? ⟨b, 4, none⟩ = some (.slice A es.length c) := (blk_cell hb 4).trans rfl
  have c5 : w.cell? ⟨b, 5, none⟩ = some (.bool false) := (blk_cell hb 5).trans rfl
  have HQ := Lib.hid hq
  have HV := Lib.hid hv
  have HB := Lib.hid hb
  have HD := Lib.hid hd
  have Hl := Lib.hid hdl
  clear hq hb hd hdC hdb hents hlt hsb hv hdist hdc hnc
  have hes63 : es.length + 1 ≤ 64 := hes
  go_enter Try.func16, Try.ntmps16
  go_wp2_with (go_at_call 71; refine (count_rep b sure A es.length c _ (by omega) (by omega) (by go_simp) (by go_simp)).mono ?_; rintro e w1 ⟨rfl, ⟨m, rfl⟩⟩)
  have hmk := run_make_said Q.p Q.h4
  refine start_ (n := 21) (S := fun w' => w'.cell? ⟨b, 0, none⟩ = some (.int .i64 Q.p) ∧ w'.cell? ⟨b, 4, none⟩ = some (.slice A es.length c)) (ds := [20]) #[false, false, false, false, false, false, false, false, false, false, false, false, false, false, false, false, false, false, false, false, false] (by kernel_rfl) rfl rfl (⟨by go_simp, by go_simp⟩) (fun hHeld => ?_)
  refine with_tabW g16_10.tab g16_10.bits (fun HT_ HW_ => ?_)
  generalize hgen : (w.drewN _).drew = W0 at hHeld ⊢; have HW : Aside0 (Below w.heap.size w W0) := ⟨by rw [← hgen]; exact below_drew1 (pw_below_drewN (Below.refl _ _) _)⟩; clear hgen c3 c4 c5 c0
  refine pure_ (i := 0) (N := (some 33)) (v := ?_) (a' := ?_) #[true, false, false, false, false, false, false, false, false, false, false, false, false, false, false, false, false, false, false, false, false] rfl rfl (any_of HT_.out (by kernel_rfl)) (fun _ _ _ h => h) (Or.inl ⟨by rfl, ?_⟩) ?_ ?_
  rotate_left
  · (intro w'; go_simp; try with_reducible rfl)
  rotate_left
  · simp only [Act.put, List.setIfInBounds_toArray, List.set_cons_zero, List.set_cons_succ, i64_w, i32_w]
    rfl
  refine pure_ (i := 1) (N := (some 34)) (v := ?_) (a' := ?_) #[true, true, false, false, false, false, false, false, false, false, false, false, false, false, false, false, false, false, false, false, false] rfl rfl (any_of HT_.out (by kernel_rfl)) (fun _ _ _ h => h) (Or.inl ⟨by rfl, ?_⟩) ?_ ?_
  rotate_left
  · (intro w'; go_simp; try with_reducible rfl)
  rotate_left
  · simp only [Act.put, List.setIfInBounds_toArray, List.set_cons_zero, List.set_cons_succ, i64_w, i32_w]
    rfl
  refine pure_ (i := 2) (N := (some 35)) (v := ?_) (a' := ?_) #[true, true, true, false, false, false, false, false, false, false, false, false, false, false, false, false, false, false, false, false, false] rfl rfl (any_of HT_.out (by kernel_rfl)) (fun _ _ _ h => h) (Or.inl ⟨by rfl, ?_⟩) ?_ ?_
  rotate_left
  · (intro w'; go_simp; try with_reducible rfl)
  rotate_left
  · simp only [Act.put, List.setIfInBounds_toArray, List.set_cons_zero, List.set_cons_succ, i64_w, i32_w]
    rfl
  refine pure_ (i := 3) (N := (some 36)) (v := ?_) (a' := ?_) #[true, true, true, true, false, false, false, false, false, false, false, false, false, false, false, false, false, false, false, false, false] rfl rfl (any_of HT_.out (by kernel_rfl)) (fun _ _ _ h => h) (Or.inl ⟨by rfl, ?_⟩) ?_ ?_
  rotate_left
  · (intro w'; go_simp; try with_reducible rfl)
  rotate_left
  · simp only [Act.put, List.setIfInBounds_toArray, List.set_cons_zero, List.set_cons_succ, i64_w, i32_w]
    rfl
  refine take_ (i := 4) (N := (some 37)) (v := ?_) (a' := ?_) #[true, true, true, true, true, false, false, false, false, false, false, false, false, false, false, false, false, false, false, false, false] rfl rfl (take_ofW HT_.out HW_.out (by kernel_rfl)) (fun _ _ _ h => h) (Or.inl ⟨by rfl, ?_⟩) hHeld ?_ ?_
  rotate_left
  · (intro w' hSw; (try dsimp only at hSw); go_split_ands; go_simp; try with_reducible rfl)
  rotate_left
  · simp only [Act.put, List.setIfInBounds_toArray, List.set_cons_zero, List.set_cons_succ, i64_w, i32_w]
    rfl
  refine pure_ (i := 5) (N := (some 38)) (v := ?_) (a' := ?_) #[true, true, true, true, true, true, false, false, false, false, false, false, false, false, false, false, false, false, false, false, false] rfl rfl (any_of HT_.out (by kernel_rfl)) (fun _ _ _ h => h) (Or.inl ⟨by rfl, ?_⟩) ?_ ?_
  rotate_left
  · (intro w'; go_simp; try with_reducible rfl)
  rotate_left
  · simp only [Act.put, List.setIfInBounds_toArray, List.set_cons_zero, List.set_cons_succ, i64_w, i32_w]
    rfl
  refine pure_ (i := 6) (N := (some 39)) (v := ?_) (a' := ?_) #[true, true, true, true, true, true, true, false, false, false, false, false, false, false, false, false, false, false, false, false, false] rfl rfl (any_of HT_.out (by kernel_rfl)) (fun _ _ _ h => h) (Or.inl ⟨by rfl, ?_⟩) ?_ ?_
  rotate_left
  · (intro w'; go_simp; try with_reducible rfl)
  rotate_left
  · simp only [Act.put, List.setIfInBounds_toArray, List.set_cons_zero, List.set_cons_succ, i64_w, i32_w]
    rfl
  refine pure_ (i := 9) (N := (some 42)) (v := ?_) (a' := ?_) #[true, true, true, true, true, true, true, false, false, true, false, false, false, false, false, false, false, false, false, false, false] rfl rfl (any_of HT_.out (by kernel_rfl)) (fun _ _ _ h => h) (Or.inl ⟨by rfl, ?_⟩) ?_ ?_
  rotate_left
  · (intro w'; go_simp; try with_reducible rfl)
  rotate_left
  · simp only [Act.put, List.setIfInBounds_toArray, List.set_cons_zero, List.set_cons_succ, i64_w, i32_w]
    rfl
  refine pure_ (i := 10) (N := (some 43)) (v := ?_) (a' := ?_) #[true, true, true, true, true, true, true, false, false, true, true, false, false, false, false, false, false, false, false, false, false] rfl rfl (any_of HT_.out (by kernel_rfl)) (fun _ _ _ h => h) (Or.inl ⟨by rfl, ?_⟩) ?_ ?_
  rotate_left
  · (intro w'; go_simp; try with_reducible rfl)
  rotate_left
  · simp only [Act.put, List.setIfInBounds_toArray, List.set_cons_zero, List.set_cons_succ, i64_w, i32_w]
    rfl
  refine pure_ (i := 11) (N := (some 44)) (v := ?_) (a' := ?_) #[true, true, true, true, true, true, true, false, false, true, true, true, false, false, false, false, false, false, false, false, false] rfl rfl (any_of HT_.out (by kernel_rfl)) (fun _ _ _ h => h) (Or.inl ⟨by rfl, ?_⟩) ?_ ?_
  rotate_left
  · (intro w'; go_simp; try with_reducible rfl)
  rotate_left
  · simp only [Act.put, List.setIfInBounds_toArray, List.set_cons_zero, List.set_cons_succ, i64_w, i32_w]
    rfl
  refine pure_ (i := 12) (N := (some 45)) (v := ?_) (a' := ?_) #[true, true, true, true, true, true, true, false, false, true, true, true, true, false, false, false, false, false, false, false, false] rfl rfl (any_of HT_.out (by kernel_rfl)) (fun _ _ _ h => h) (Or.inl ⟨by rfl, ?_⟩) ?_ ?_
  rotate_left
  · (intro w'; go_simp; try with_reducible rfl)
  rotate_left
  · simp only [Act.put, List.setIfInBounds_toArray, List.set_cons_zero, List.set_cons_succ, i64_w, i32_w]
    rfl
  refine take_ (i := 13) (N := (some 46)) (v := ?_) (a' := ?_) #[true, true, true, true, true, true, true, false, false, true, true, true, true, true, false, false, false, false, false, false, false] rfl rfl (take_ofW HT_.out HW_.out (by kernel_rfl)) (fun _ _ _ h => h) (Or.inl ⟨by rfl, ?_⟩) hHeld ?_ ?_
  rotate_left
  · (intro w' hSw; (try dsimp only at hSw); go_split_ands; go_simp; try with_reducible rfl)
  rotate_left
  · simp only [Act.put, List.setIfInBounds_toArray, List.set_cons_zero, List.set_cons_succ, i64_w, i32_w]
    rfl
  refine two_ (i := 7) (j := 14) (Ni := (some 40)) (Nj := (some 47)) #[true, true, true, true, true, true, true, true, false, true, true, true, true, true, false, false, false, false, false, false, false] #[true, true, true, true, true, true, true, false, false, true, true, true, true, true, true, false, false, false, false, false, false] rfl rfl rfl rfl (two_of HT_.out (by kernel_rfl)) (by decide) (by decide) (fun K hK => ?_) (fun K hK => ?_)
  · refine goes_ Try.func72 (by kernel_rfl) rfl #[.slice dA ds.length dc] (by rfl) rfl rfl (by (try simp only [List.map_toArray, List.map_cons, List.map_nil]); rfl) ((clone_bytes _ ds _ (HD.out.kp (Kp.of_below (fun _ => False) HW.out)) (by have := Hl.out; omega)).mono ?_)
    rintro e w1 ⟨dA', dc', rfl, hbs, hb1⟩
    refine ⟨_, rfl, ?_⟩
    have n0 := Aside0.mk (below_step HW.out hb1)
    have HD2 := Aside0.mk hbs
    (try have n1 := Aside0.mk (blk_below HM.out hb1); clear HM; have HM := n1; clear n1)
    clear HW hbs
    have HW := n0
    clear n0
    refine hK.out _ _ (⟨(hb1.cell (p := ⟨b, 0, none⟩) (World.block_lt_of_cell? _ _ hHeld.1)).trans hHeld.1, (hb1.cell (p := ⟨b, 4, none⟩) (World.block_lt_of_cell? _ _ hHeld.2)).trans hHeld.2⟩) (fun hHeld => ?_)
    clear hK K
    refine norm_ (a' := ?_) ?_ ?_
    rotate_left
    · show Act.put _ (some 40) _ = _
      simp only [Act.put, List.setIfInBounds_toArray, List.set_cons_zero, List.set_cons_succ, i64_w, i32_w]
      rfl
    clear hb1
    refine pure_ (i := 8) (N := (some 41)) (v := ?_) (a' := ?_) #[true, true, true, true, true, true, true, true, true, true, true, true, true, true, false, false, false, false, false, false, false] rfl rfl (any_of HT_.out (by kernel_rfl)) (fun _ _ _ h => h) (Or.inl ⟨by rfl, ?_⟩) ?_ ?_
    rotate_left
    · (intro w'; go_simp; try with_reducible rfl)
    rotate_left
    · simp only [Act.put, List.setIfInBounds_toArray, List.set_cons_zero, List.set_cons_succ, i64_w, i32_w]
      rfl
    refine one_ (i := 14) (N := (some 47)) #[true, true, true, true, true, true, true, true, true, true, true, true, true, true, true, false, false, false, false, false, false] rfl rfl (one_of HT_.out (by kernel_rfl)) (by decide) (fun K hK => ?_)
    refine alloc_step (by rfl) rfl (cs := madeCells #[.bool false] Q.p) (t := 4) (fun g => .slice (some ⟨g, 0, none⟩) Q.p Q.p) ?_ ?_
    · go_simp
    intro g w1 hg hblk hb1
    have HG := Aside0.mk (Nat.le_trans HW.out.size hg)
    have n0 := Aside0.mk (below_step HW.out hb1)
    have HM := Aside0.mk hblk
    (try have n1 := Aside0.mk (HD2.out.kp (Kp.of_below (fun _ => False) hb1)); clear HD2; have HD2 := n1; clear n1)
    clear HW hblk hg
    have HW := n0
    clear n0
    refine hK.out _ _ (⟨(hb1.cell (p := ⟨b, 0, none⟩) (World.block_lt_of_cell? _ _ hHeld.1)).trans hHeld.1, (hb1.cell (p := ⟨b, 4, none⟩) (World.block_lt_of_cell? _ _ hHeld.2)).trans hHeld.2⟩) (fun hHeld => ?_)
    clear hK K
    refine norm_ (a' := ?_) ?_ ?_
    rotate_left
    · show Act.put _ (some 47) _ = _
      simp only [Act.put, List.setIfInBounds_toArray, List.set_cons_zero, List.set_cons_succ, i64_w, i32_w]
      rfl
    clear hb1
    refine pure_ (i := 15) (N := (some 48)) (v := ?_) (a' := ?_) #[true, true, true, true, true, true, true, true, true, true, true, true, true, true, true, true, false, false, false, false, false] rfl rfl (any_of HT_.out (by kernel_rfl)) (fun _ _ _ h => h) (Or.inl ⟨by rfl, ?_⟩) ?_ ?_
    rotate_left
    · (intro w'; go_simp; try with_reducible rfl)
    rotate_left
    · simp only [Act.put, List.setIfInBounds_toArray, List.set_cons_zero, List.set_cons_succ, i64_w, i32_w]
      rfl
    refine one_ (i := 16) (N := (some 49)) #[true, true, true, true, true, true, true, true, true, true, true, true, true, true, true, true, true, false, false, false, false] rfl rfl (one_of HT_.out (by kernel_rfl)) (by decide) (fun K hK => ?_)
    refine alloc_step (by rfl) rfl (cs := #[.int .u64 (sure + es.length), .slice dA' ds.length dc', .slice (some ⟨g, 0, none⟩) Q.p Q.p]) (t := 159) (fun g => .slice (some ⟨g, 0, none⟩) 1 1) ?_ ?_
    · go_simp
    intro g2 w1 hg hblk hb1
    have n0 := Aside0.mk (below_step HW.out hb1)
    have HN := Aside0.mk hblk
    have n1 := Aside0.mk (HD2.out.kp (Kp.of_below (fun _ => False) hb1))
    have n2 := Aside0.mk (blk_below HM.out hb1)
    clear HW hblk hg HD2 HM
    have HW := n0
    have HD2 := n1
    have HM := n2
    clear n0 n1 n2
    refine hK.out _ _ (⟨(hb1.cell (p := ⟨b, 0, none⟩) (World.block_lt_of_cell? _ _ hHeld.1)).trans hHeld.1, (hb1.cell (p := ⟨b, 4, none⟩) (World.block_lt_of_cell? _ _ hHeld.2)).trans hHeld.2⟩) (fun hHeld => ?_)
    clear hK K
    refine norm_ (a' := ?_) ?_ ?_
    rotate_left
    · show Act.put _ (some 49) _ = _
      simp only [Act.put, List.setIfInBounds_toArray, List.set_cons_zero, List.set_cons_succ, i64_w, i32_w]
      rfl
    clear hb1
    refine one_ (i := 17) (N := (some 50)) #[true, true, true, true, true, true, true, true, true, true, true, true, true, true, true, true, true, true, false, false, false] rfl rfl (one_of HT_.out (by kernel_rfl)) (by decide) (fun K hK => ?_)
    obtain ⟨i0, hi, hz0, hz1, hz2⟩ := info_parts Try.info159
    have hN : w1.heap[g2]? = some (.cells #[.int .u64 ((sure + es.length : Nat) : Int), .slice dA' ds.length dc', .slice (some ⟨g, 0, none⟩) Q.p Q.p] 159 (0, 0)) := HN.out
    obtain ⟨v1, w2, hrun, hq1, hg1, hat1⟩ := q_append (P := Try.prog) w1 0 152 152 159 i0 _ 3 56 Try.underlying152 hi hz0 hz1 hz2 rfl (by decide) (.slice A es.length c) es.length (entCells Q.p sure es) (q_move HQ.out (fun k hk => HW.out.block k (q_lt HQ.out k hk))) ⟨g2, 0, none⟩ 1 1 [.int .u64 ((sure + es.length : Nat) : Int), .slice dA' ds.length dc', .slice (some ⟨g, 0, none⟩) Q.p Q.p] rfl (blk_news hN) (by intro u hu; simp only [List.mem_cons, List.not_mem_nil, or_false] at hu; rcases hu with rfl | rfl | rfl <;> rfl) (by decide) (by unfold maxLen; omega) (by omega) (Nat.zero_le _)
    obtain ⟨A2, c2, rfl, _⟩ := q_slice hq1
    obtain ⟨hb2, S', x, hx⟩ := wrep_added HR.out HB.out HQ.out HV.out HW.out hq1 hg1 hat1 HM.out HG.out HD2.out
    have HX := Aside0.mk hx
    have HB2 := Aside0.mk hb2
    clear hx hq1 hg1 hat1 hN hi hz0 hz1 hz2
    refine app_step (by rfl) rfl (.tmp 37) (.tmp 49) 152 rfl rfl rfl hrun ?_
    clear hrun HN
    refine hK.out _ _ (⟨(blk_cell hb2 0).trans rfl, (blk_cell hb2 4).trans rfl⟩) (fun hHeld => ?_)
    clear hK K
    refine norm_ (a' := ?_) ?_ ?_
    rotate_left
    · show Act.put _ (some 50) _ = _
      simp only [Act.put, List.setIfInBounds_toArray, List.set_cons_zero, List.set_cons_succ, i64_w, i32_w]
      rfl
    clear hb2
    refine pure_ (i := 18) (N := (some 51)) (v := ?_) (a' := ?_) #[true, true, true, true, true, true, true, true, true, true, true, true, true, true, true, true, true, true, true, false, false] rfl rfl (any_of HT_.out (by kernel_rfl)) (fun _ _ _ h => h) (Or.inl ⟨by rfl, ?_⟩) ?_ ?_
    rotate_left
    · (intro w'; go_simp; try with_reducible rfl)
    rotate_left
    · simp only [Act.put, List.setIfInBounds_toArray, List.set_cons_zero, List.set_cons_succ, i64_w, i32_w]
      rfl
    refine pure_ (i := 19) (N := (some 52)) (v := ?_) (a' := ?_) #[true, true, true, true, true, true, true, true, true, true, true, true, true, true, true, true, true, true, true, true, false] rfl rfl (any_of HT_.out (by kernel_rfl)) (fun _ _ _ h => h) (Or.inl ⟨by rfl, ?_⟩) ?_ ?_
    rotate_left
    · (intro w'; go_simp; try with_reducible rfl)
    rotate_left
    · simp only [Act.put, List.setIfInBounds_toArray, List.set_cons_zero, List.set_cons_succ, i64_w, i32_w]
      rfl
    refine last_ (i := 20) (N := none) #[true, true, true, true, true, true, true, true, true, true, true, true, true, true, true, true, true, true, true, true, true] rfl rfl (one_of HT_.out (by kernel_rfl)) (by decide) (fun K hK => ?_)
    have hc4 := hHeld.2
    have hf4 := blk_frozen HB2.out 4
    refine skip_ (w1 := w2.setCell ⟨b, 4, none⟩ (.slice A2 (es.length + 1) c2)) (by rfl) rfl ?_ ?_
    · go_simp
    clear hc4 hf4
    refine hK.out _ _ ?_
    clear hK K
    refine done_ (done_of HT_.out (by kernel_rfl)) ?_
    clear HT_ HW_
    go_wp2
    go_ret2
    exact ⟨S', x, rfl, HX.out⟩
  · refine alloc_step (by rfl) rfl (cs := madeCells #[.bool false] Q.p) (t := 4) (fun g => .slice (some ⟨g, 0, none⟩) Q.p Q.p) ?_ ?_
    · go_simp
    intro g w1 hg hblk hb1
    have HG := Aside0.mk (Nat.le_trans HW.out.size hg)
    have n0 := Aside0.mk (below_step HW.out hb1)
    have HM := Aside0.mk hblk
    (try have n1 := Aside0.mk (HD2.out.kp (Kp.of_below (fun _ => False) hb1)); clear HD2; have HD2 := n1; clear n1)
    clear HW hblk hg
    have HW := n0
    clear n0
    refine hK.out _ _ (⟨(hb1.cell (p := ⟨b, 0, none⟩) (World.block_lt_of_cell? _ _ hHeld.1)).trans hHeld.1, (hb1.cell (p := ⟨b, 4, none⟩) (World.block_lt_of_cell? _ _ hHeld.2)).trans hHeld.2⟩) (fun hHeld => ?_)
    clear hK K
    refine norm_ (a' := ?_) ?_ ?_
    rotate_left
    · show Act.put _ (some 47) _ = _
      simp only [Act.put, List.setIfInBounds_toArray, List.set_cons_zero, List.set_cons_succ, i64_w, i32_w]
      rfl
    clear hb1
    refine one_ (i := 7) (N := (some 40)) #[true, true, true, true, true, true, true, true, false, true, true, true, true, true, true, false, false, false, false, false, false] rfl rfl (one_of HT_.out (by kernel_rfl)) (by decide) (fun K hK => ?_)
    refine goes_ Try.func72 (by kernel_rfl) rfl #[.slice dA ds.length dc] (by rfl) rfl rfl (by (try simp only [List.map_toArray, List.map_cons, List.map_nil]); rfl) ((clone_bytes _ ds _ (HD.out.kp (Kp.of_below (fun _ => False) HW.out)) (by have := Hl.out; omega)).mono ?_)
    rintro e w1 ⟨dA', dc', rfl, hbs, hb1⟩
    refine ⟨_, rfl, ?_⟩
    have n0 := Aside0.mk (below_step HW.out hb1)
    have HD2 := Aside0.mk hbs
    (try have n1 := Aside0.mk (blk_below HM.out hb1); clear HM; have HM := n1; clear n1)
    clear HW hbs
    have HW := n0
    clear n0
    refine hK.out _ _ (⟨(hb1.cell (p := ⟨b, 0, none⟩) (World.block_lt_of_cell? _ _ hHeld.1)).trans hHeld.1, (hb1.cell (p := ⟨b, 4, none⟩) (World.block_lt_of_cell? _ _ hHeld.2)).trans hHeld.2⟩) (fun hHeld => ?_)
    clear hK K
    refine norm_ (a' := ?_) ?_ ?_
    rotate_left
    · show Act.put _ (some 40) _ = _
      simp only [Act.put, List.setIfInBounds_toArray, List.set_cons_zero, List.set_cons_succ, i64_w, i32_w]
      rfl
    clear hb1
    refine pure_ (i := 8) (N := (some 41)) (v := ?_) (a' := ?_) #[true, true, true, true, true, true, true, true, true, true, true, true, true, true, true, false, false, false, false, false, false] rfl rfl (any_of HT_.out (by kernel_rfl)) (fun _ _ _ h => h) (Or.inl ⟨by rfl, ?_⟩) ?_ ?_
    rotate_left
    · (intro w'; go_simp; try with_reducible rfl)
    rotate_left
    · simp only [Act.put, List.setIfInBounds_toArray, List.set_cons_zero, List.set_cons_succ, i64_w, i32_w]
      rfl
    refine pure_ (i := 15) (N := (some 48)) (v := ?_) (a' := ?_) #[true, true, true, true, true, true, true, true, true, true, true, true, true, true, true, true, false, false, false, false, false] rfl rfl (any_of HT_.out (by kernel_rfl)) (fun _ _ _ h => h) (Or.inl ⟨by rfl, ?_⟩) ?_ ?_
    rotate_left
    · (intro w'; go_simp; try with_reducible rfl)
    rotate_left
    · simp only [Act.put, List.setIfInBounds_toArray, List.set_cons_zero, List.set_cons_succ, i64_w, i32_w]
      rfl
    refine one_ (i := 16) (N := (some 49)) #[true, true, true, true, true, true, true, true, true, true, true, true, true, true, true, true, true, false, false, false, false] rfl rfl (one_of HT_.out (by kernel_rfl)) (by decide) (fun K hK => ?_)
    refine alloc_step (by rfl) rfl (cs := #[.int .u64 (sure + es.length), .slice dA' ds.length dc', .slice (some ⟨g, 0, none⟩) Q.p Q.p]) (t := 159) (fun g => .slice (some ⟨g, 0, none⟩) 1 1) ?_ ?_
    · go_simp
    intro g2 w1 hg hblk hb1
    have n0 := Aside0.mk (below_step HW.out hb1)
    have HN := Aside0.mk hblk
    have n1 := Aside0.mk (HD2.out.kp (Kp.of_below (fun _ => False) hb1))
    have n2 := Aside0.mk (blk_below HM.out hb1)
    clear HW hblk hg HD2 HM
    have HW := n0
    have HD2 := n1
    have HM := n2
    clear n0 n1 n2
    refine hK.out _ _ (⟨(hb1.cell (p := ⟨b, 0, none⟩) (World.block_lt_of_cell? _ _ hHeld.1)).trans hHeld.1, (hb1.cell (p := ⟨b, 4, none⟩) (World.block_lt_of_cell? _ _ hHeld.2)).trans hHeld.2⟩) (fun hHeld => ?_)
    clear hK K
    refine norm_ (a' := ?_) ?_ ?_
    rotate_left
    · show Act.put _ (some 49) _ = _
      simp only [Act.put, List.setIfInBounds_toArray, List.set_cons_zero, List.set_cons_succ, i64_w, i32_w]
      rfl
    clear hb1
    refine one_ (i := 17) (N := (some 50)) #[true, true, true, true, true, true, true, true, true, true, true, true, true, true, true, true, true, true, false, false, false] rfl rfl (one_of HT_.out (by kernel_rfl)) (by decide) (fun K hK => ?_)
    obtain ⟨i0, hi, hz0, hz1, hz2⟩ := info_parts Try.info159
    have hN : w1.heap[g2]? = some (.cells #[.int .u64 ((sure + es.length : Nat) : Int), .slice dA' ds.length dc', .slice (some ⟨g, 0, none⟩) Q.p Q.p] 159 (0, 0)) := HN.out
    obtain ⟨v1, w2, hrun, hq1, hg1, hat1⟩ := q_append (P := Try.prog) w1 0 152 152 159 i0 _ 3 56 Try.underlying152 hi hz0 hz1 hz2 rfl (by decide) (.slice A es.length c) es.length (entCells Q.p sure es) (q_move HQ.out (fun k hk => HW.out.block k (q_lt HQ.out k hk))) ⟨g2, 0, none⟩ 1 1 [.int .u64 ((sure + es.length : Nat) : Int), .slice dA' ds.length dc', .slice (some ⟨g, 0, none⟩) Q.p Q.p] rfl (blk_news hN) (by intro u hu; simp only [List.mem_cons, List.not_mem_nil, or_false] at hu; rcases hu with rfl | rfl | rfl <;> rfl) (by decide) (by unfold maxLen; omega) (by omega) (Nat.zero_le _)
    obtain ⟨A2, c2, rfl, _⟩ := q_slice hq1
    obtain ⟨hb2, S', x, hx⟩ := wrep_added HR.out HB.out HQ.out HV.out HW.out hq1 hg1 hat1 HM.out HG.out HD2.out
    have HX := Aside0.mk hx
    have HB2 := Aside0.mk hb2
    clear hx hq1 hg1 hat1 hN hi hz0 hz1 hz2
    refine app_step (by rfl) rfl (.tmp 37) (.tmp 49) 152 rfl rfl rfl hrun ?_
    clear hrun HN
    refine hK.out _ _ (⟨(blk_cell hb2 0).trans rfl, (blk_cell hb2 4).trans rfl⟩) (fun hHeld => ?_)
    clear hK K
    refine norm_ (a' := ?_) ?_ ?_
    rotate_left
    · show Act.put _ (some 50) _ = _
      simp only [Act.put, List.setIfInBounds_toArray, List.set_cons_zero, List.set_cons_succ, i64_w, i32_w]
      rfl
    clear hb2
    refine pure_ (i := 18) (N := (some 51)) (v := ?_) (a' := ?_) #[true, true, true, true, true, true, true, true, true, true, true, true, true, true, true, true, true, true, true, false, false] rfl rfl (any_of HT_.out (by kernel_rfl)) (fun _ _ _ h => h) (Or.inl ⟨by rfl, ?_⟩) ?_ ?_
    rotate_left
    · (intro w'; go_simp; try with_reducible rfl)
    rotate_left
    · simp only [Act.put, List.setIfInBounds_toArray, List.set_cons_zero, List.set_cons_succ, i64_w, i32_w]
      rfl
    refine pure_ (i := 19) (N := (some 52)) (v := ?_) (a' := ?_) #[true, true, true, true, true, true, true, true, true, true, true, true, true, true, true, true, true, true, true, true, false] rfl rfl (any_of HT_.out (by kernel_rfl)) (fun _ _ _ h => h) (Or.inl ⟨by rfl, ?_⟩) ?_ ?_
    rotate_left
    · (intro w'; go_simp; try with_reducible rfl)
    rotate_left
    · simp only [Act.put, List.setIfInBounds_toArray, List.set_cons_zero, List.set_cons_succ, i64_w, i32_w]
      rfl
    refine last_ (i := 20) (N := none) #[true, true, true, true, true, true, true, true, true, true, true, true, true, true, true, true, true, true, true, true, true] rfl rfl (one_of HT_.out (by kernel_rfl)) (by decide) (fun K hK => ?_)
    have hc4 := hHeld.2
    have hf4 := blk_frozen HB2.out 4
    refine skip_ (w1 := w2.setCell ⟨b, 4, none⟩ (.slice A2 (es.length + 1) c2)) (by rfl) rfl ?_ ?_
    · go_simp
    clear hc4 hf4
    refine hK.out _ _ ?_
    clear hK K
    refine done_ (done_of HT_.out (by kernel_rfl)) ?_
    clear HT_ HW_
    go_wp2
    go_ret2
    exact ⟨S', x, rfl, HX.out⟩

end Go.Proofs.Ytigcpknfcdcllaa
