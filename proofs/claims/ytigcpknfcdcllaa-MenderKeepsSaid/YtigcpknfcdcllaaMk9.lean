/- Of small numbers; the fixed fact; a writer that is full. -/
import Derived.Test.YtigcpknfcdcllaaMk8
import Derived.Lib.SlBytesConst
namespace Go.Proofs.Ytigcpknfcdcllaa
open Go.RowKit Go.Proofs.YtigcpknfcdcllaaW.PrintWords Go.Proofs.YtigcpknfcdcllaaW.PrintLast Go.Proofs.YtigcpknfcdcllaaLb
set_option linter.unusedSimpArgs false
set_option linter.unusedVariables false

theorem Kp.below_new {S : Nat → Prop} {w w1 w2 : World} (h : Below w.heap.size w w1) (k : Kp S w1 w2) (hS : ∀ i, S i → w.heap.size ≤ i) : Below w.heap.size w w2 :=
  h.trans ⟨k.os, k.tape, k.output, k.size, fun i hi => k.block i (Nat.lt_of_lt_of_le hi h.size) (fun hs => by have := hS i hs; omega)⟩

theorem quorum_f (n : Nat) (hn : n < 65536) : ∃ Q : Qm, PMenderKeeps.mailcoachlaw10_Quorum.f n = some ((Q.p : Int), (Q.q : Int), (Q.a : Int)) := by
  have e7 : wrap64 (Int.tmod (n : Int) 7) = ((n % 7 : Nat) : Int) := by
    rw [Int.tmod_eq_emod_of_nonneg (by omega)]
    rw [show (n : Int) % 7 = ((n % 7 : Nat) : Int) by omega]
    exact IntWalk.wrap64_in _ (by omega)
  have ep : wrap64 (1 + ((n % 7 : Nat) : Int)) = ((1 + n % 7 : Nat) : Int) := by
    rw [show (1 : Int) + ((n % 7 : Nat) : Int) = ((1 + n % 7 : Nat) : Int) by omega]
    exact IntWalk.wrap64_in _ (by omega)
  have hq : ∀ k : Nat, 0 < k → wrap64 (IntKind.u16.wrap (Int.tdiv (n : Int) (k : Int))) = ((n / k : Nat) : Int) := by
    intro k hk
    have h0 : Int.tdiv (n : Int) (k : Int) = ((n / k : Nat) : Int) := by
      rw [Int.tdiv_eq_ediv_of_nonneg (by omega)]
      rfl
    have hle : n / k ≤ n := Nat.div_le_self n k
    rw [h0, IntKind.wrap_u16]
    generalize hg : n / k = y at hle ⊢
    rw [show (y : Int) % 65536 = (y : Int) by omega]
    exact IntWalk.wrap64_in _ (by omega)
  have em : ∀ a p : Nat, 0 < p → p ≤ 7 → wrap64 (1 + Int.tmod (a : Int) (p : Int)) = ((1 + a % p : Nat) : Int) := by
    intro a p hp hp7
    have : a % p < p := Nat.mod_lt _ hp
    rw [Int.tmod_eq_emod_of_nonneg (by omega)]
    rw [show (1 : Int) + (a : Int) % (p : Int) = ((1 + a % p : Nat) : Int) by push_cast; rfl]
    exact IntWalk.wrap64_in _ (by omega)
  have hq7 := hq 7 (by omega)
  have hq49 := hq 49 (by omega)
  have l7 : n % 7 < 7 := Nat.mod_lt _ (by omega)
  have lw : (n / 7) % (1 + n % 7) < 1 + n % 7 := Nat.mod_lt _ (by omega)
  have la : (n / 49) % (1 + (n / 7) % (1 + n % 7)) < 1 + (n / 7) % (1 + n % 7) := Nat.mod_lt _ (by omega)
  refine ⟨⟨1 + n % 7, 1 + (n / 7) % (1 + n % 7), 1 + (n / 49) % (1 + (n / 7) % (1 + n % 7)), by omega, by omega, by omega, by omega⟩, ?_⟩
  unfold PMenderKeeps.mailcoachlaw10_Quorum.f
  have hq7' : wrap64 (IntKind.u16.wrap (Int.tdiv (n : Int) 7)) = ((n / 7 : Nat) : Int) := hq7
  have hq49' : wrap64 (IntKind.u16.wrap (Int.tdiv (n : Int) 49)) = ((n / 49 : Nat) : Int) := hq49
  rw [e7, ep, hq7', hq49', em _ _ (by omega) (by omega), em _ _ (by omega) (by omega), if_neg (by omega), if_neg (by omega)]
theorem quorum_calls (n : Nat) (hn : n < 65536) (w : World) : ∃ Q : Qm, Calls Try.prog 12 #[.int .u16 n] w fun e w' => e = .returned Q.val ∧ Below w.heap.size w w' := by
  obtain ⟨Q, h⟩ := quorum_f n hn
  exact ⟨Q, PMenderKeeps.mailcoachlaw10_Quorum.calls _ _ _ _ w h⟩

set_option maxRecDepth 100000 in
set_option maxHeartbeats 1000000 in
theorem writer_full (Q : Qm) (b : Nat) (S : Nat → Prop) (sure : Nat) (es : List Ent) (dv : Value) (ds : List Int) (w : World) (h : WRep w b S Q sure es) (hd : Bs w dv ds) (hdl : ds.length ≤ 256) (hes : 64 ≤ es.length) (hem : es.length ≤ 1000000) :
    Calls Try.prog 16 #[.pointer (some ⟨b, 0, none⟩), dv] w fun e w' => e = .returned (.tuple #[.int .u64 0, .int .i64 14]) ∧ Below w.heap.size w w' := by
  obtain ⟨⟨v, hb, hq, hv⟩, hsb, hents, hdist, hlt⟩ := h
  obtain ⟨A, c, rfl, hnc⟩ := q_slice hq
  obtain ⟨dA, dc, rfl, hdc, hdC, hdb⟩ := id hd
  have c4 : w.cell? ⟨b, 4, none⟩ = some (.slice A es.length c) := (blk_cell hb 4).trans rfl
  have c5 : w.cell? ⟨b, 5, none⟩ = some (.bool false) := (blk_cell hb 5).trans rfl
  have hd1 : decide ((64 : Int) ≤ (es.length : Int)) = true := decide_eq_true (by omega)
  clear hq hb hd hdC hdb hents hlt hsb hv hdist hdc hnc
  go_enter Try.func16, Try.ntmps16
  go_wp2
  go_ret2
  exact ⟨rfl, Below.refl _ _⟩

def Q3 : Qm := ⟨3, 3, 2, by decide, by decide, by decide, by decide⟩
def T3 (e : Nat) : List Int := if e = 0 then [97] else if e = 2 then [99] else []
theorem T3_le (e : Nat) : (T3 e).length ≤ 256 := by unfold T3; split <;> (try split) <;> simp
theorem size_alloc1 (w : World) (o : Obj) : (w.alloc o).heap.size = w.heap.size + 1 := Array.size_push _
def A3 (w : World) : World := ((w.alloc (.cells #[.int .u8 97] 5 (1, 2))).alloc (.cells #[.int .u8 99] 5 (1, 2))).alloc (.cells #[.int .u64 0, .slice (some ⟨w.heap.size, 0, none⟩) 1 1, .int .u64 2, .slice (some ⟨w.heap.size + 1, 0, none⟩) 1 1] 49)
theorem a3_below (w : World) : Below w.heap.size w (A3 w) := below_step (below_step (below_alloc (Below.refl _ _) _) (below_alloc (Below.refl _ _) _)) (below_alloc (Below.refl _ _) _)
theorem bs_block {w : World} {g : Nat} {x : Int} {fr : Nat × Nat} (h : w.heap[g]? = some (.cells #[.int .u8 x] 5 fr)) : Bs w (.slice (some ⟨g, 0, none⟩) 1 1) [x] :=
  ⟨some ⟨g, 0, none⟩, 1, rfl, Nat.le_refl _, ⟨rfl, by simp, fun _ => ⟨_, rfl, fun j p hj => ⟨[.int .u8 p], rfl, rfl, fun i u hu => by
    have hi : i = 0 := by
      have := (List.getElem?_eq_some_iff.1 hu).1
      simpa using this
    subst hi
    have hj0 : j = 0 := by
      have := (List.getElem?_eq_some_iff.1 hj).1
      simpa using this
    subst hj0
    have hu' : Value.int .u8 p = u := by simpa using hu
    have hj' : x = p := by simpa using hj
    subst hu'; subst hj'
    have : (⟨g, 0, none⟩ : Addr).add (0 * (Kd.int .u8).sz + 0) = ⟨g, 0, none⟩ := by rw [add_plain]; simp
    rw [this]
    unfold World.cell?
    simp only [h]
    rfl⟩⟩⟩, fun a ha => by injection ha with ha; subst ha; exact ⟨_, _, h⟩⟩
theorem a3_items (w : World) : ItC (A3 w) T3 (some ⟨w.heap.size + 1 + 1, 0, none⟩) [(0, .slice (some ⟨w.heap.size, 0, none⟩) 1 1), (2, .slice (some ⟨w.heap.size + 1, 0, none⟩) 1 1)] := by
  have h0 : (A3 w).heap[w.heap.size]? = some (.cells #[.int .u8 97] 5 (1, 2)) := by
    unfold A3
    rw [Below.heap_alloc _ _ _ (by rw [size_alloc1, size_alloc1]; omega), Below.heap_alloc _ _ _ (by rw [size_alloc1]; omega)]
    exact blk_new _ _
  have h1 : (A3 w).heap[w.heap.size + 1]? = some (.cells #[.int .u8 99] 5 (1, 2)) := by
    unfold A3
    rw [Below.heap_alloc _ _ _ (by rw [size_alloc1, size_alloc1]; omega)]
    have := blk_new (w.alloc (.cells #[.int .u8 97] 5 (1, 2))) (.cells #[.int .u8 99] 5 (1, 2))
    rw [size_alloc1] at this
    exact this
  have h2 : (A3 w).heap[w.heap.size + 1 + 1]? = some (.cells #[.int .u64 0, .slice (some ⟨w.heap.size, 0, none⟩) 1 1, .int .u64 2, .slice (some ⟨w.heap.size + 1, 0, none⟩) 1 1] 49) := by
    have := blk_new ((w.alloc (.cells #[.int .u8 97] 5 (1, 2))).alloc (.cells #[.int .u8 99] 5 (1, 2))) (.cells #[.int .u64 0, .slice (some ⟨w.heap.size, 0, none⟩) 1 1, .int .u64 2, .slice (some ⟨w.heap.size + 1, 0, none⟩) 1 1] 49)
    rw [size_alloc1, size_alloc1] at this
    exact this
  refine ⟨by simp, fun _ => ⟨_, _, rfl, fun i e v hi => ?_⟩, fun i e v hi => ?_⟩
  · match i, hi with
    | 0, hi =>
      obtain ⟨rfl, rfl⟩ : 0 = e ∧ _ = v := by simpa using hi
      exact ⟨(blk_cell h2 0).trans rfl, (blk_cell h2 1).trans rfl⟩
    | 1, hi =>
      obtain ⟨rfl, rfl⟩ : 2 = e ∧ _ = v := by simpa using hi
      exact ⟨(blk_cell h2 2).trans rfl, (blk_cell h2 3).trans rfl⟩
    | i + 2, hi => simp at hi
  · match i, hi with
    | 0, hi =>
      obtain ⟨rfl, rfl⟩ : 0 = e ∧ _ = v := by simpa using hi
      exact ⟨bs_block h0, by decide⟩
    | 1, hi =>
      obtain ⟨rfl, rfl⟩ : 2 = e ∧ _ = v := by simpa using hi
      exact ⟨bs_block h1, by decide⟩
    | i + 2, hi => simp at hi

theorem a3_has0 {v1 v2 : Value} : ∀ i, i < 1 → hasTo (hasTo (fun _ => False) [(0, v1), (2, v2)] 2) [] 0 i := fun i hi => by
  obtain rfl : i = 0 := by omega
  exact .inl (.inr ⟨0, v1, by decide, rfl⟩)
theorem a3_not1 {v1 v2 : Value} : ¬ hasTo (hasTo (fun _ => False) [(0, v1), (2, v2)] 2) [] 0 1 := by
  rintro ((h | ⟨i, v, h1, h2⟩) | ⟨i, v, h1, h2⟩)
  · exact h
  · match i, h2 with
    | 0, h2 => simp at h2
    | 1, h2 => simp at h2
    | i + 2, h2 => simp at h2
  · simp at h1
set_option maxRecDepth 100000 in
set_option maxHeartbeats 4000000 in
theorem awake_calls (w : World) : Calls Try.prog 11 #[] w fun e w' => e = .returned (.bool true) ∧ Below w.heap.size w w' := by
  have kc := fun (w : World) (C : Array Value) (n c : Nat) => Lib.run_convert_bytes_const (P := Try.prog) w 42 5 C n c Try.underlying42 Try.underlying5
  have kc2 : ∀ (w : World) (X : Obj) (C : Array Value) (n c : Nat), (convert 42 42 (.slice (some ⟨w.heap.size + 1, 0, none⟩) n c)).run Try.prog ((w.alloc X).alloc (.cells C 5)) = .ok (.slice (some ⟨w.heap.size + 1, 0, none⟩) n c) ((w.alloc X).alloc (.cells C 5 (C.size, C.size + 1))) := by
    intro w X C n c
    have h1 := kc (w.alloc X) C n c
    rw [size_alloc1] at h1
    exact h1
  go_enter Try.func11, Try.ntmps11
  go_wp2_with (first
    | (go_at_call 14; refine (mender_new Q3 T3 _).mono ?_; rintro e w1 ⟨b, S, rfl, hm, hS, hb⟩; have HM := Lib.hid hm; have HS := Lib.hid hS; have HB := Lib.hid hb; clear hm hS hb)
    | (go_at_call 19; refine (mender_hear Q3 T3 T3_le b S (List.replicate Q3.p false) 0 0 (fun _ => False) (some ⟨w1.heap.size + 1 + 1, 0, none⟩) 2 [(0, .slice (some ⟨w1.heap.size, 0, none⟩) 1 1), (2, .slice (some ⟨w1.heap.size + 1, 0, none⟩) 1 1)] (A3 w1) (HM.out.kp (Kp.of_below (fun _ => False) (a3_below w1)) (fun _ _ h => h)) (by decide) (a3_items w1) (Nat.le_refl _) (by omega) (fun g o he hs => by injection he with he; injection he with he _ _; have := HM.out.lt g hs; omega)).mono ?_; rintro e w2 ⟨rfl, hm, hk⟩; have HM2 := Lib.hid hm; have HB2 := Lib.hid (Kp.below_new (below_step HB.out (a3_below w1)) hk HS.out); clear hm hk HM HB kc kc2))
  go_wp2_with (go_at_call 15; refine (mender_ready Q3 T3 b S _ 0 2 _ _ HM2.out).mono ?_; rintro e w3 ⟨rfl, hb⟩; have HM3 := Lib.hid (HM2.out.kp (Kp.of_below (fun _ => False) hb) (fun _ _ h => h)); have HB3 := Lib.hid (below_step HB2.out hb); clear hb HM2 HB2; rw [show covB Q3 ((List.replicate Q3.p false).set 0 true) = false from rfl])
  go_wp2_with (first
    | (go_at_call 20; refine (mender_result Q3 T3 T3_le b S _ _ 1 _ _ HM4.out (by rfl) a3_has0 a3_not1 (by decide)).mono ?_; rintro e w5 ⟨A, c, its, rfl, hil, hidx, hit, hb⟩; obtain ⟨x, hx⟩ : ∃ x, its[0]? = some x := ⟨_, List.getElem?_eq_getElem (by omega)⟩; obtain ⟨e0, v0⟩ := x; obtain rfl : e0 = 0 := hidx 0 e0 v0 hx; have HI := Lib.hid hit; have HL := Lib.hid hil; have HXX := Lib.hid hx; have HM5 := Lib.hid (HM4.out.kp (Kp.of_below (fun _ => False) hb) (fun _ _ h => h)); have HB5 := Lib.hid (below_step HB4.out hb); clear hb HM4 HB4 hit hil hx hidx)
    | (go_at_call 15; refine (mender_ready Q3 T3 b S _ 0 _ _ _ HM5.out).mono ?_; rintro e w6 ⟨rfl, hb⟩; have HB6 := Lib.hid (below_step HB5.out hb); have HI6 := Lib.hid (HI.out.below hb); clear hb HM5 HB5 HI; rw [show covB Q3 (((List.replicate Q3.p false).set 0 true).set 1 true) = true from rfl]; obtain ⟨g, o, hA, hc⟩ := HI6.out.cells (by have := HL.out; omega); cases hA; obtain ⟨a1, a2⟩ := hc 0 0 v0 HXX.out; have hcv := bs_string (HI6.out.bytes 0 0 v0 HXX.out).1; clear hc)
    | (go_at_call 19; refine (mender_hear Q3 T3 T3_le b S _ _ 1 _ none 0 [] _ HM3.out (by decide) ⟨by simp, fun h => absurd h (by simp), fun i e v hi => by simp at hi⟩ (Nat.le_refl _) (by simp) (fun g o he hs => by cases he)).mono ?_; rintro e w4 ⟨rfl, hm, hk⟩; have HM4 := Lib.hid hm; have HB4 := Lib.hid (Kp.below_new HB3.out hk HS.out); clear hm hk HM3 HB3))
  rw [show ((strOfNums (T3 0)).toList == [97]) = true by kernel_rfl]
  go_ret
  exact ⟨rfl, HB6.out⟩
end Go.Proofs.Ytigcpknfcdcllaa
