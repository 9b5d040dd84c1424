/- The law's walk. -/
import Derived.Test.YtigcpknfcdcllaaLv
import Derived.Deep.DeepCutAuto
import Derived.Deep.CutBlock
namespace Go.Proofs.Ytigcpknfcdcllaa
open Go.RowKit Go.Proofs.YtigcpknfcdcllaaW.PrintWords Go.Proofs.YtigcpknfcdcllaaW.PrintLast Go.Proofs.YtigcpknfcdcllaaLb
set_option linter.unusedSimpArgs false
set_option linter.unusedVariables false

def g3_35.T : Bool × List (List Nat × List Nat) := (true, [([], []), ([], []), ([], []), ([0, 1, 2], [0, 1, 2]), ([], []), ([], []), ([5], [5]), ([4, 6], [4, 6]), ([3, 7], [3, 7]), ([8, 8, 0, 1, 2, 3, 4, 5, 6, 7, 8], [0, 4, 8])])
def g3_35.B : List Nat := [0, 0, 0, 7, 0, 0, 32, 112, 255, 511]
theorem g3_35.tab : rtab .any (opsOf Try.f3 35) = g3_35.T := by kernel_rfl
theorem g3_35.bits : waitsOk g3_35.T.2 g3_35.B = true := by kernel_rfl

def g3_37.T : Bool × List (List Nat × List Nat) := (true, [([], []), ([], []), ([1], [1]), ([0, 2], [0, 2]), ([3], [3]), ([], []), ([5], [5]), ([6], [6]), ([], []), ([8], [8]), ([9], [9]), ([4, 7, 10, 0, 1, 2, 3, 4, 5, 6, 7, 8, 9, 10], [4, 7, 10])])
def g3_37.B : List Nat := [0, 0, 2, 7, 15, 0, 32, 96, 0, 256, 768, 2047]
theorem g3_37.tab : rtab .any (opsOf Try.f3 37) = g3_37.T := by kernel_rfl
theorem g3_37.bits : waitsOk g3_37.T.2 g3_37.B = true := by kernel_rfl

set_option maxRecDepth 100000 in
set_option maxHeartbeats 8000000 in
theorem law_calls (n : Nat) (hn : n < 65536) (A : Option Addr) (m c : Nat) (w : World) (hA : ActsC w A m) :
    Calls Try.prog 3 #[.int .u16 n, .slice A m c] w fun e w' => e = .returned (.bool true) ∧ Below w.heap.size w w' := by
  obtain ⟨Q, hQ⟩ := quorum_f n hn
  have HQ := Lib.hid hQ
  have HA := Lib.hid hA
  have hmax := hA.max
  clear hQ hA
  have hmk := run_make_places Q.p Q.h4
  have hmk2 := run_make_said Q.p Q.h4
  have hmm := @run_makeMap Try.prog
  have hq7 := Q.h4
  go_enter Try.func3, Try.ntmps3
  go_wp2_with (first
    | (go_at_call 11; refine (awake_calls _).mono ?_; rintro e w1 ⟨rfl, hb1⟩; have HB1 := Lib.hid hb1; clear hb1)
    | (go_at_call 12; refine (PMenderKeeps.mailcoachlaw10_Quorum.calls _ _ _ _ _ HQ.out).mono ?_; rintro e w2 ⟨rfl, hb2⟩; have HB2 := Lib.hid (below_step HB1.out hb2); clear hb2 HB1)
    | (go_at_call 13; refine (writer_new Q _).mono ?_; rintro e w3 ⟨wb, rfl, hw, hwb, hb3⟩; have HW3 := Lib.hid hw; have HWB := Lib.hid hwb; have HB3 := Lib.hid hb3; have hq3 := (hb3.block w2.heap.size (by rw [size_alloc1]; omega)).trans (blk_new w2 _); obtain ⟨c0, c1, c2⟩ := cells3 hq3; clear hw hwb hb3 hq3)
    | (go_at_call 14; refine (mender_new Q (Tw []) _).mono ?_; rintro e w4 ⟨mb, Sm, rfl, hm, hS, hb4⟩; obtain ⟨col, hpre⟩ := pre_made HB2.out HB3.out HW3.out HWB.out hb4 hm hS; have HP := Lib.hid hpre; have HB4 := Lib.hid ((below_step (below_step (below_alloc HB2.out _) HB3.out) hb4)); have d0 := (hb4.cell (World.block_lt_of_cell? _ _ c0)).trans c0; clear hm hS hb4 hpre c0 c1 c2 HB2 HB3 HW3 HWB))
  obtain ⟨gq, hgq⟩ : ∃ g, g = w2.heap.size := ⟨_, rfl⟩
  rw [← hgq] at HP d0 ⊢
  clear hgq
  obtain ⟨col0, hm0⟩ := maps_start HP.out
  have HM0 := Lib.hid hm0
  have HW0 := Lib.hid (below_alloc HB4.out (.cells (madeCells #[.map none] Q.p) 36))
  have HGP := Lib.hid (show w.heap.size ≤ w4.heap.size from HB4.out.size)
  clear hm0 HP HB4 d0 hmk
  generalize hW5 : w4.alloc (.cells (madeCells #[.map none] Q.p) 36) = w5 at HM0 HW0 ⊢
  generalize hgp : w4.heap.size = gp at HM0 HGP ⊢
  clear hW5 hgp
  go_loopw [52] (fun v wr => ∃ j : Nat, v = .int .i64 j ∧ j ≤ Q.p ∧ Aside0 (∃ ms col, LMaps wr Q gq wb mb gp Sm w.heap.size j ms col ∧ Below w.heap.size w wr)) (fun v _ => Q.p - (intOf v).toNat)
  case atStart => exact ⟨0, rfl, Nat.zero_le _, ⟨_, _, HM0.out, HW0.out⟩⟩
  case round =>
    clear HM0 HW0
    obtain ⟨j, rfl, hj, ⟨ms, col, hm, hb⟩⟩ := hrel
    have HM := Lib.hid hm
    have HB := Lib.hid hb
    clear hm hb
    by_cases hlt : j < Q.p
    · have hcell : wr.cell? ⟨gp, j, none⟩ = some (.map none) := by
        refine (blk_cell HM.out.pl.1 j).trans ?_
        have := HM.out.ml
        simp [List.getElem?_append_right, this, List.getElem?_replicate]
        omega
      have hcell2 : (wr.alloc (.map #[] 0)).cell? ⟨gp, j, none⟩ = some (.map none) := ((below_alloc (Below.refl _ _) (.map #[] 0)).cell (World.block_lt_of_cell? _ _ hcell)).trans hcell
      have hfz2 : (wr.alloc (.map #[] 0)).frozen? ⟨gp, j, none⟩ = false := blk_frozen ((Below.heap_alloc wr _ gp (lt_of_blk HM.out.pl.1)).trans HM.out.pl.1) j
      clear hcell
      obtain ⟨ms', col', hs1, hs2⟩ := maps_step HM.out hlt
      have HS1 := Lib.hid hs1
      have HS2 := Lib.hid (Kp.below_new HB.out hs2 (fun i hi => by subst hi; exact HGP.out))
      clear hs1 hs2
      go_wp2
      go_roundw
      case rel => exact ⟨j + 1, by go_num, by omega, ⟨ms', col', HS1.out, HS2.out⟩⟩
      case measure => simp [intOf]; omega
    · have hjp : j = Q.p := by omega
      subst hjp
      have cq : wr.cell? ⟨gq, 0, none⟩ = some (.int .i64 Q.p) := (blk_cell HM.out.pre.q.1 0).trans rfl
      obtain ⟨F, colf, hFb, rfl, rfl, rfl, rfl, hFf, hr0⟩ := maps_end HM.out
      have HR0 := Lib.hid hr0
      have HB0 := Lib.hid (below_alloc HB.out (.cells (madeCells #[.bool false] Q.p) 4))
      clear hr0 HM HB HGP hlt
      go_upto_block 2 with fail
      rw [← hFf]
      generalize wr.alloc (.cells (madeCells #[.bool false] Q.p) 4) = w6 at HR0 HB0 ⊢
      clear hmk2 hFf cq
      go_cut [13, 14, 15] (fun s13 s14 s15 wx => ∃ (i : Nat) (Ay Au : Option Addr) (cy cu : Nat) (σ : LS), s13 = .slice Ay σ.way.length cy ∧ s14 = .slice Au σ.us.length cu ∧ s15 = .int .i64 σ.sure ∧ i ≤ 201 ∧ Aside0 (∃ (col : Nat → Nat) (Sw : Nat → Prop), LRep wx Q F col Sw (.slice Ay σ.way.length cy) (.slice Au σ.us.length cu) σ ∧ LI Q σ i ∧ Below w.heap.size w wx))
      case first =>
        go_wp2_with fail
        go_loopw [13, 14, 15, 65] (fun v13 v14 v15 v65 wr => ∃ (i : Nat) (Ay Au : Option Addr) (cy cu : Nat) (σ : LS), v13 = .slice Ay σ.way.length cy ∧ v14 = .slice Au σ.us.length cu ∧ v15 = .int .i64 σ.sure ∧ v65 = .int .i64 i ∧ i ≤ m ∧ i ≤ 201 ∧ Aside0 (∃ (col : Nat → Nat) (Sw : Nat → Prop), LRep wr Q F col Sw (.slice Ay σ.way.length cy) (.slice Au σ.us.length cu) σ ∧ LI Q σ i ∧ Below w.heap.size w wr)) (fun _ _ _ v _ => m - (intOf v).toNat)
        case atStart => exact ⟨0, none, none, 0, 0, _, rfl, rfl, rfl, rfl, Nat.zero_le _, by omega, ⟨_, _, HR0.out, li_start Q, HB0.out⟩⟩
        case round =>
          clear HR0 HB0
          obtain ⟨i, Ay, Au, cy, cu, σ, rfl, rfl, rfl, rfl, him, hi201, ⟨col, Sw, hr, hli, hb⟩⟩ := hrel
          have HR := Lib.hid hr
          have HI := Lib.hid hli
          have HB := Lib.hid hb
          clear hr hb hli
          by_cases hlt : i < m
          · obtain ⟨g, o, rfl, hcells⟩ := HA.out.cells (by omega)
            obtain ⟨kd, pp, wh, L, hkd, hpp, hwh, a0, a1, a2, a3⟩ := hcells i hlt
            replace a0 := (HB.out.cell (World.block_lt_of_cell? _ _ a0)).trans a0
            replace a1 := (HB.out.cell (World.block_lt_of_cell? _ _ a1)).trans a1
            replace a2 := (HB.out.cell (World.block_lt_of_cell? _ _ a2)).trans a2
            replace a3 := (HB.out.cell (World.block_lt_of_cell? _ _ a3)).trans a3
            clear hcells
            by_cases h200 : 200 < i
            · have HR2 := Lib.hid (HR.out.below (below_alloc (Below.refl _ _) (.cells #[.int .u8 kd, .int .u8 pp, .int .u8 wh, .bool L] 41)))
              have HB2 := Lib.hid (below_alloc HB.out (.cells #[.int .u8 kd, .int .u8 pp, .int .u8 wh, .bool L] 41))
              clear HR HB
              go_wp2_with fail
              go_meet
              case rel => exact ⟨i, Ay, Au, cy, cu, σ, rfl, rfl, rfl, hi201, ⟨_, Sw, HR2.out, HI.out, HB2.out⟩⟩
            · go_upto_region 19 with fail
              have hx : (wr.alloc (.cells #[.int .u8 kd, .int .u8 pp, .int .u8 wh, .bool L] 41)).heap[wr.heap.size]? = some (.cells #[.int .u8 kd, .int .u8 pp, .int .u8 wh, .bool L] 41 (0, 0)) := blk_new _ _
              have HR2 := Lib.hid (HR.out.frame ((Kp.refl (fun _ => False) wr).alloc (.cells #[.int .u8 kd, .int .u8 pp, .int .u8 wh, .bool L] 41)) 0 (fun _ _ hf => hf.elim) (fun k hk => ncol_old (c := 50) hk))
              have HB2 := Lib.hid (below_alloc HB.out (.cells #[.int .u8 kd, .int .u8 pp, .int .u8 wh, .bool L] 41))
              have hcx : ncol wr.heap.size col 50 wr.heap.size = 50 := ncol_new (Nat.le_refl _)
              generalize hWn : wr.alloc (.cells #[.int .u8 kd, .int .u8 pp, .int .u8 wh, .bool L] 41) = wn at hx HR2 HB2 ⊢
              generalize ncol wr.heap.size col 50 = col2 at HR2 hcx
              generalize wr.heap.size = gx at hx hcx ⊢
              clear HR HB a0 a1 a2 a3 hWn
              have hp1 : 1 ≤ Q.p := by have := Q.h1; have := Q.h2; have := Q.h3; omega
              have hp0 : ((Q.p : Int) == 0) = false := by simp; omega
              go_upto_if 82 with (go_at_call 15; refine (mender_ready Q (Tw σ.ws) F.mb F.Sm σ.hs 0 σ.nm σ.hm _ (HR2.out.mr (by decide)).1).mono ?_; rintro e w3 ⟨rfl, hb3⟩; have HR3 := Lib.hid (HR2.out.below hb3); have HB3 := Lib.hid (below_step HB2.out hb3); have HX3 := Lib.hid (blk_below hx hb3); obtain ⟨x0, x1, x2, x3⟩ := cells4 HX3.out; have cq : w3.cell? ⟨F.gq, 0, none⟩ = some (.int .i64 Q.p) := (blk_cell (HR3.out.q (by decide)).1 0).trans rfl; obtain ⟨cv, hcv⟩ : ∃ cv, covB Q σ.hs = cv := ⟨_, rfl⟩; rw [hcv]; clear hb3 HR2 HB2 hx; cases cv)
              · have hi200 : i ≤ 200 := by omega
                clear hi201 h200
                by_cases hk1 : (kd : Int) % 6 < 2
                · have hk1d : decide ((kd : Int) % 6 < 2) = true := decide_eq_true hk1
                  as_aux_lemma =>
                    have hB4 : Below w3.heap.size w3 (w3.alloc (.cells #[.int .u8 i, .int .u8 wh] 5)) := below_alloc (Below.refl _ _) _
                    have hbx : (w3.alloc (.cells #[.int .u8 i, .int .u8 wh] 5)).heap[w3.heap.size]? = some (.cells #[.int .u8 i, .int .u8 wh] 5 (0, 0)) := blk_new _ _
                    have HBS := Lib.hid (bs_block2 hbx)
                    have HR4 := Lib.hid (HR3.out.below hB4)
                    have HB4 := Lib.hid (below_step HB3.out hB4)
                    have hnws := HI.out.nws
                    have hall := HI.out.all
                    have hul := HR3.out.ul
                    have hfew := HI.out.few
                    have hway := HI.out.nway
                    clear hbx hB4 HX3 cq x0 x1 x3
                    by_cases hes : σ.es.length < 64
                    · as_aux_lemma =>
                        obtain ⟨n0, hn0⟩ : ∃ n0, n0 = σ.sure + σ.es.length := ⟨_, rfl⟩
                        have hn0l : n0 ≤ 200 := by omega
                        have HN0 := Lib.hid hn0
                        clear hnws hall hul hfew hway
                        go_wp2_with (first
                          | (go_at_call 16; refine (writer_add Q F.wb Sw σ.sure σ.es _ [(i : Int), (wh : Int)] _ (HR4.out.wr (by decide)).1 HBS.out (by simp) hes (by omega)).mono ?_; rintro e w5 ⟨S', x, rfl, hxx, hxs, hwr, hk5, hS1, hS2⟩; obtain ⟨Au', cu', w6, col6, σ2, hrun, hr6, e1, e2, e3, e4, e5, hb6, hk6, hli6⟩ := added HR4.out HI.out hi200 hes hwr hk5 hS1 hxs HBS.out (by simp); rw [← hn0] at e4 e5 ⊢; have HR6 := Lib.hid hr6; have HBS6 := Lib.hid hb6; have HB6 := Lib.hid (Kp.below_new HB4.out hk6 (fun k hk => by rw [← hFb]; exact hk)); have HLI6 := Lib.hid hli6; have HE4 := Lib.hid e4; have HE5 := Lib.hid e5; obtain ⟨b0, b1, b2⟩ := cells3 (hr6.q (by decide)).1; clear hwr hk5 hS1 hS2 hr6 hk6 HR4 HB4 HBS hxx hxs hli6 hb6 e4 e5 hn0)
                          | (at_builtin; refine app_event rfl (.tmp 100) (.tmp 102) 39 rfl rfl rfl hrun ?_)
                          | (go_at_call 17; refine (refset_own Q n0 (by omega) _).mono ?_; rintro e w7 ⟨As, cs, rfl, hC, hcs, hb7⟩; have HC := Lib.hid hC; have HR7 := Lib.hid (HR6.out.frame (Kp.of_below (fun _ => False) hb7) 0 (fun _ _ hf => hf.elim) (fun k hk => ncol_old (c := 60) hk)); have HAS := Lib.hid (hC.col col6 60); have HB7 := Lib.hid (below_step HB6.out hb7); have HBS7 := Lib.hid (HBS6.out.kp (Kp.of_below (fun _ => False) hb7)); clear hC hb7 HR6 HB6 HBS6))
                        generalize w6.heap.size = sz6 at HC HR7 HAS
                        generalize ncol sz6 col6 60 = col7 at HR7 HAS
                        go_loopw [13, 108] (fun v13 v108 wz => ∃ (j : Nat) (Az : Option Addr) (cz : Nat) (way' : List (Nat × Nat × Value)), v13 = .slice Az way'.length cz ∧ v108 = .int .i64 j ∧ j ≤ Q.q ∧ way'.length = σ.way.length + j ∧ Aside0 (∃ colz : Nat → Nat, LRep wz Q F colz S' (.slice Az way'.length cz) (.slice Au' (σ.us.length + 1) cu') { σ2 with way := way' } ∧ Below w.heap.size w wz ∧ Bs wz (.slice (some ⟨w3.heap.size, 0, none⟩) 2 2) [(i : Int), (wh : Int)] ∧ SetC wz sz6 Q n0 As ∧ ∀ a, As = some a → colz a.block = 60)) (fun _ v _ => Q.q - (intOf v).toNat)
                        case atStart => exact ⟨0, Ay, cy, σ.way, rfl, rfl, Nat.zero_le _, rfl, ⟨col7, by have h7 := HR7.out; rw [← e1] at h7 ⊢; exact h7, HB7.out, HBS7.out, HC.out, HAS.out⟩⟩
                        case round =>
                          clear HR7 HB7 HBS7 HC HAS
                          obtain ⟨j, Az, cz, way', rfl, rfl, hj, hwl, ⟨colz, hr, hb, hbs, hset, hcol⟩⟩ := hrel
                          have hq77 : Q.q ≤ 7 := by have := Q.h3; omega
                          by_cases hlt : j < Q.q
                          · obtain ⟨ga, pl, rfl, hpl, hmem, hcell⟩ := hset.at hlt
                            have hw1 := HI.out.nway
                            have hq3 := Q.h3
                            have hwl2 : way'.length ≤ 1000000 := by omega
                            obtain ⟨Az', cz', wq, colq, hrun2, hrq, hkq, hcq⟩ := way_round (σ := { σ2 with way := way' }) hr hpl (e := n0) (by show n0 < σ2.ws.length; rw [HE4.out]; omega) hmem (by show Bs _ _ (Tw σ2.ws n0); rw [HE5.out]; exact hbs) hwl2
                            dsimp only at hrun2 hrq
                            have HRQ := Lib.hid hrq
                            have HBQ := Lib.hid (Kp.below_new hb hkq (fun k hk => by rw [← hFb]; exact hr.up (by rw [hk]; decide)))
                            have HBSQ := Lib.hid (hbs.kp hkq)
                            have HCQ := Lib.hid (hset.move (fun k _ hk2 ⟨a, ha, hak⟩ => hkq.block k hk2 (fun h40 => by have := hcol a ha; rw [hak, h40] at this; exact absurd this (by decide))) hkq.size)
                            have HCC := Lib.hid (fun a (ha : some (⟨ga, 0, none⟩ : Addr) = some a) => (hcq a.block (by obtain ⟨⟨g, hg, _, h2, _⟩⟩ := hset; have h9 := ha.symm.trans hg; injection h9 with h9; rw [h9]; exact h2)).trans (hcol a ha))
                            have HWL := Lib.hid hwl
                            clear hr hb hbs hset hcol hrq hkq hcq hw1 hq3 hwl hwl2 e1 e2 e3
                            go_wp2_with (at_builtin; refine app_event rfl (.tmp 114) (.tmp 120) 38 rfl rfl rfl hrun2 ?_)
                            go_roundw
                            case rel => exact ⟨j + 1, Az', cz', way' ++ [(pl, n0, .slice (some ⟨w3.heap.size, 0, none⟩) 2 2)], by rw [List.length_append]; rfl, by go_num, by omega, by rw [List.length_append, HWL.out]; rfl, ⟨colq, by rw [List.length_append]; exact HRQ.out, HBQ.out, HBSQ.out, HCQ.out, HCC.out⟩⟩
                            case measure => simp [intOf]; omega
                          · have hw1 := HI.out.nway
                            have hq3 := Q.h3
                            have HLI := Lib.hid (HLI6.out way' (by omega))
                            have HRZ := Lib.hid hr
                            have HBZ := Lib.hid hb
                            have E2 := Lib.hid e2
                            have E3 := Lib.hid e3
                            clear hr hb hbs hset hcol hw1 hq3 hwl e1 e2 e3
                            go_wp2
                            go_roundw
                            case rel => exact ⟨i + 1, Az, Au', cz, cu', { σ2 with way := way' }, rfl, by show _ = Value.slice Au' σ2.us.length cu'; rw [E2.out], by show _ = Value.int .i64 (σ2.sure : Int); rw [E3.out], by go_num, by omega, by omega, ⟨colz, S', by show LOpen 0 _ _ _ _ _ _ (Value.slice Au' σ2.us.length cu') _; rw [E2.out]; exact HRZ.out, HLI.out, HBZ.out⟩⟩
                            case measure => simp [intOf]; omega
                    · as_aux_lemma =>
                        have hfew2 : σ.es.length ≤ 1000000 := by omega
                        have hqq := HR4.out.q (by decide)
                        clear hnws hall hul hfew hway
                        go_wp2_with (first
                          | (go_at_call 16; refine (writer_full Q F.wb Sw σ.sure σ.es _ [(i : Int), (wh : Int)] _ (HR4.out.wr (by decide)).1 HBS.out (by simp) (by omega) hfew2).mono ?_; rintro e w5 ⟨rfl, hb5⟩; have HR5 := Lib.hid (HR4.out.below hb5); have HB5 := Lib.hid (below_step HB4.out hb5); obtain ⟨b0, b1, b2⟩ := cells3 (blk_below hqq.1 hb5); clear hb5 HR4 HB4 HBS hqq)
                          | (go_at_call 17; refine (refset_own Q 0 (by omega) _).mono ?_; rintro e w7 ⟨As, cs, rfl, hC, hcs, hb7⟩; have HC := Lib.hid hC; have HR7 := Lib.hid (HR5.out.below hb7); have HB7 := Lib.hid (below_step HB5.out hb7); clear hC hb7 HR5 HB5))
                        generalize w5.heap.size = sz5 at HC
                        go_loopw [13, 108] (fun v13 v108 wz => ∃ (j : Nat), v13 = .slice Ay σ.way.length cy ∧ v108 = .int .i64 j ∧ j ≤ Q.q ∧ wz = w7) (fun _ v _ => Q.q - (intOf v).toNat)
                        case atStart => exact ⟨0, rfl, rfl, Nat.zero_le _, rfl⟩
                        case round =>
                          obtain ⟨j, rfl, rfl, hj, rfl⟩ := hrel
                          have hq77 : Q.q ≤ 7 := by have := Q.h3; omega
                          by_cases hlt : j < Q.q
                          · obtain ⟨ga, pl, rfl, hpl, hmem, hcell⟩ := HC.out.at hlt
                            go_wp2
                            go_roundw
                            case rel => exact ⟨j + 1, by first | rfl | trivial, by go_num, by omega, by first | rfl | trivial⟩
                            case measure => simp [intOf]; omega
                          · go_wp2
                            go_roundw
                            case rel => exact ⟨i + 1, Ay, Au, cy, cu, σ, rfl, rfl, rfl, by go_num, by omega, by omega, ⟨_, Sw, HR7.out, HI.out.next, HB7.out⟩⟩
                            case measure => simp [intOf]; omega
                · have hk1d : decide ((kd : Int) % 6 < 2) = false := decide_eq_false hk1
                  as_aux_lemma =>
                    have hplz : (pp : Int) % (Q.p : Int) = ((pp % Q.p : Nat) : Int) := by simp
                    have hpl : pp % Q.p < Q.p := Nat.mod_lt _ (by omega)
                    rw [hplz]
                    generalize pp % Q.p = pl at hpl
                    clear hplz
                    by_cases hk2 : (kd : Int) % 6 < 5
                    · have hk2d : decide ((kd : Int) % 6 < 5) = true := decide_eq_true hk2
                      have hk5 : ((kd : Int) % 6 == 5) = false := by simp; omega
                      by_cases hw0 : 0 < σ.way.length
                      · have hw0d : decide (0 < (σ.way.length : Int)) = true := decide_eq_true (by omega)
                        as_aux_lemma =>
                          have hway := HI.out.nway
                          have hkz : (wh : Int) % (σ.way.length : Int) = ((wh % σ.way.length : Nat) : Int) := by simp
                          have hkl : wh % σ.way.length < σ.way.length := Nat.mod_lt _ hw0
                          obtain ⟨⟨p, e, v⟩, hx⟩ : ∃ x, σ.way[wh % σ.way.length]? = some x := ⟨_, List.getElem?_eq_getElem hkl⟩
                          have hyb := HR3.out.yb p e v (List.mem_of_getElem? hx)
                          have hp := hyb.1
                          have HE := Lib.hid hyb.2
                          obtain ⟨g, o, rfl, hcy, b0, b1, b2⟩ := HR3.out.way_at (by decide) hx
                          obtain ⟨Av, nv, cav, rfl⟩ : ∃ Av nv cav, v = .slice Av nv cav := by obtain ⟨Av, cav, h1, _⟩ := hyb.2.2.2; exact ⟨Av, _, cav, h1⟩
                          have HX := Lib.hid hx
                          have hwz : ((σ.way.length : Int) == 0) = false := by rw [beq_eq_false_iff_ne]; omega
                          have hway2 : σ.way.length ≤ 1400 := by omega
                          clear hyb hx hway
                          go_upto_region 34 with fail
                          rw [hkz]
                          obtain ⟨k, hk⟩ : ∃ k, wh % σ.way.length = k := ⟨_, rfl⟩
                          rw [hk] at hkl b0 b1 b2 HX ⊢
                          clear hkz hk
                          go_upto_region 35 with fail
                          have hB4 : Below w3.heap.size w3 (w3.alloc (.cells #[.int .i64 p, .int .u64 e, .slice Av nv cav] 51)) := below_alloc (Below.refl _ _) _
                          have hx4 : (w3.alloc (.cells #[.int .i64 p, .int .u64 e, .slice Av nv cav] 51)).heap[w3.heap.size]? = some (.cells #[.int .i64 p, .int .u64 e, .slice Av nv cav] 51 (0, 0)) := blk_new _ _
                          have HR4 := Lib.hid (HR3.out.below hB4)
                          have HB4 := Lib.hid (below_step HB3.out hB4)
                          have HY4 := Lib.hid hx4
                          have HX4 := Lib.hid (blk_below HX3.out hB4)
                          have HBS4 := Lib.hid (HE.out.2.2.kp (Kp.of_below (fun _ => False) hB4))
                          generalize w3.alloc (.cells #[.int .i64 p, .int .u64 e, .slice Av nv cav] 51) = w4 at HR4 HB4 HY4 HX4 HBS4 ⊢
                          generalize w3.heap.size = gy at HY4 ⊢
                          clear hB4 hx4 HR3 HB3 HX3 b0 b1 b2 x0 x1 x2 x3 cq
                          have hc3 : ∀ W : World, (Instr.slice 38 (.slice (some ⟨g, o, none⟩) σ.way.length cy) none (some (.int .i64 (k : Int))) (some (.int .i64 (k : Int)))).run Try.prog W = .ok (.slice (some ⟨g, o, none⟩) k k) W := way_cut3 g o k (by omega)
                          have hcf : ∀ W : World, (Instr.slice 38 (.slice (some ⟨g, o, none⟩) σ.way.length cy) (some (.int .i64 ((k : Int) + 1))) none none).run Try.prog W = .ok (.slice (if cy = k + 1 then some ⟨g, o, none⟩ else (some (⟨g, o, none⟩ : Addr)).map (·.add ((k + 1) * 3))) (σ.way.length - (k + 1)) (cy - (k + 1))) W := way_cutf g o k (by omega)
                          obtain ⟨Ac, hAc⟩ : ∃ Ac, (if cy = k + 1 then some ⟨g, o, none⟩ else (some (⟨g, o, none⟩ : Addr)).map (·.add ((k + 1) * 3))) = Ac := ⟨_, rfl⟩
                          rw [hAc] at hcf
                          have HAC := Lib.hid hAc
                          clear hAc
                          have hkw : wrap64 ((k : Int) + 1) = (k : Int) + 1 := by unfold wrap64; omega
                          refine start_ (n := 10) (S := fun w' => True) (ds := []) #[false, false, false, false, false, false, false, false, false, false] (by kernel_rfl) rfl rfl (trivial) (fun hHeld => ?_)
                          refine with_tabW g3_35.tab g3_35.bits (fun HT_ HW_ => ?_)
                          generalize hgen : w4.drew = W0 at hHeld ⊢; have HW0 : Aside0 (Below w4.heap.size w4 W0) := ⟨by rw [← hgen]; exact below_drew1 (Below.refl _ _)⟩; clear hgen
                          refine pure_ (i := 0) (N := (some 143)) (v := ?_) (a' := ?_) #[true, false, false, false, false, false, false, false, false, false] rfl rfl (any_of HT_.out (by kernel_rfl)) (fun _ _ _ h => h) (Or.inl ⟨by rfl, ?_⟩) ?_ ?_
                          rotate_left
                          · (intro w'; go_simp; try with_reducible rfl)
                          rotate_left
                          · simp only [Act.put, List.setIfInBounds_toArray, List.set_cons_zero, List.set_cons_succ, i64_w, i32_w]
                            rfl
                          refine pure_ (i := 1) (N := (some 144)) (v := ?_) (a' := ?_) #[true, true, false, false, false, false, false, false, false, false] rfl rfl (any_of HT_.out (by kernel_rfl)) (fun _ _ _ h => h) (Or.inl ⟨by rfl, ?_⟩) ?_ ?_
                          rotate_left
                          · (intro w'; go_simp; try with_reducible rfl)
                          rotate_left
                          · simp only [Act.put, List.setIfInBounds_toArray, List.set_cons_zero, List.set_cons_succ, i64_w, i32_w]
                            rfl
                          refine pure_ (i := 2) (N := (some 145)) (v := ?_) (a' := ?_) #[true, true, true, false, false, false, false, false, false, false] rfl rfl (any_of HT_.out (by kernel_rfl)) (fun _ _ _ h => h) (Or.inl ⟨by rfl, ?_⟩) ?_ ?_
                          rotate_left
                          · (intro w'; go_simp; try with_reducible rfl)
                          rotate_left
                          · simp only [Act.put, List.setIfInBounds_toArray, List.set_cons_zero, List.set_cons_succ, i64_w, i32_w]
                            rfl
                          refine pure_ (i := 3) (N := (some 146)) (v := ?_) (a' := ?_) #[true, true, true, true, false, false, false, false, false, false] rfl rfl (any_of HT_.out (by kernel_rfl)) (fun _ _ _ h => h) (Or.inl ⟨by rfl, ?_⟩) ?_ ?_
                          rotate_left
                          · (intro w'; have h3 := hc3 w'; go_simp; rfl)
                          rotate_left
                          · simp only [Act.put, List.setIfInBounds_toArray, List.set_cons_zero, List.set_cons_succ, i64_w, i32_w]
                            rfl
                          refine pure_ (i := 4) (N := (some 147)) (v := ?_) (a' := ?_) #[true, true, true, true, true, false, false, false, false, false] rfl rfl (any_of HT_.out (by kernel_rfl)) (fun _ _ _ h => h) (Or.inl ⟨by rfl, ?_⟩) ?_ ?_
                          rotate_left
                          · (intro w'; go_simp; try with_reducible rfl)
                          rotate_left
                          · simp only [Act.put, List.setIfInBounds_toArray, List.set_cons_zero, List.set_cons_succ, i64_w, i32_w]
                            rfl
                          refine pure_ (i := 5) (N := (some 148)) (v := ?_) (a' := ?_) #[true, true, true, true, true, true, false, false, false, false] rfl rfl (any_of HT_.out (by kernel_rfl)) (fun _ _ _ h => h) (Or.inl ⟨by rfl, ?_⟩) ?_ ?_
                          rotate_left
                          · (intro w'; go_simp; try with_reducible rfl)
                          rotate_left
                          · simp only [Act.put, List.setIfInBounds_toArray, List.set_cons_zero, List.set_cons_succ, i64_w, i32_w]
                            rfl
                          refine pure_ (i := 6) (N := (some 149)) (v := ?_) (a' := ?_) #[true, true, true, true, true, true, true, false, false, false] rfl rfl (any_of HT_.out (by kernel_rfl)) (fun _ _ _ h => h) (Or.inl ⟨by rfl, ?_⟩) ?_ ?_
                          rotate_left
                          · (intro w'; go_simp; try with_reducible rfl)
                          rotate_left
                          · simp only [Act.put, List.setIfInBounds_toArray, List.set_cons_zero, List.set_cons_succ, i64_w, i32_w]
                            rfl
                          refine pure_ (i := 7) (N := (some 150)) (v := ?_) (a' := ?_) #[true, true, true, true, true, true, true, true, false, false] rfl rfl (any_of HT_.out (by kernel_rfl)) (fun _ _ _ h => h) (Or.inl ⟨by rfl, ?_⟩) ?_ ?_
                          rotate_left
                          · (intro w'; have h3 := hcf w'; go_simp; rfl)
                          rotate_left
                          · simp only [Act.put, List.setIfInBounds_toArray, List.set_cons_zero, List.set_cons_succ, i64_w, i32_w]
                            rfl
                          refine one_ (i := 8) (N := (some 151)) #[true, true, true, true, true, true, true, true, true, false] rfl rfl (one_of HT_.out (by kernel_rfl)) (by decide) (fun K hK => ?_)
                          obtain ⟨Ay', cy', w5, col5, hrun, hr5, hb5⟩ := way_less (HR4.out.below HW0.out) hkl (by omega)
                          rw [HAC.out] at hrun
                          have HR5 := Lib.hid hr5
                          have HB5 := Lib.hid (below_step (below_step HB4.out HW0.out) hb5)
                          have HY5 := Lib.hid (blk_below (blk_below HY4.out HW0.out) hb5)
                          have HX5 := Lib.hid (blk_below (blk_below HX4.out HW0.out) hb5)
                          have HBS5 := Lib.hid ((HBS4.out.kp (Kp.of_below (fun _ => False) HW0.out)).kp (Kp.of_below (fun _ => False) hb5))
                          clear hr5 hb5 HR4 HB4 HY4 HX4 HBS4 HW0
                          refine app_oper (.tmp 146) (.tmp 150) 38 rfl rfl rfl hrun ?_
                          clear hrun
                          refine hK.out _ _ (trivial) (fun hHeld => ?_)
                          clear hK K
                          refine norm_ (a' := ?_) ?_ ?_
                          rotate_left
                          · show Act.put _ (some 151) _ = _
                            simp only [Act.put, List.setIfInBounds_toArray, List.set_cons_zero, List.set_cons_succ, i64_w, i32_w]
                            rfl
                          refine pure_ (i := 9) (N := (some 13)) (v := ?_) (a' := ?_) #[true, true, true, true, true, true, true, true, true, true] rfl rfl (any_of HT_.out (by kernel_rfl)) (fun _ _ _ h => h) (Or.inl ⟨by rfl, ?_⟩) ?_ ?_
                          rotate_left
                          · (intro w'; go_simp; try with_reducible rfl)
                          rotate_left
                          · simp only [Act.put, List.setIfInBounds_toArray, List.set_cons_zero, List.set_cons_succ, i64_w, i32_w]
                            rfl
                          refine done_ (done_of HT_.out (by kernel_rfl)) ?_
                          clear HT_ HW_ hHeld
                          obtain ⟨y0, y1, y2⟩ := cells3 HY5.out
                          obtain ⟨x0, x1, x2, x3⟩ := cells4 HX5.out
                          have hf5 : w5.cell? ⟨F.gf, p, none⟩ = some (.bool (σ.fe.getD p false)) := HR5.out.fence_at (by decide) HI.out.fel hp
                          have HWL := Lib.hid (List.length_eraseIdx_of_lt hkl)
                          have HW7 := Lib.hid (show (σ.way.eraseIdx k).length ≤ 7 * (i + 1) by rw [HWL.out]; have := HI.out.nway; omega)
                          obtain ⟨fb, hfb⟩ : ∃ fb, σ.fe.getD p false = fb := ⟨_, rfl⟩
                          rw [hfb] at hf5
                          have HFB := Lib.hid hfb
                          clear hfb hc3 hcf hkw
                          cases fb
                          · cases L
                            · obtain ⟨m0, hm0, hmc⟩ := HR5.out.map_at (by decide) hp
                              have HM0 := Lib.hid hm0
                              have HNM := Lib.hid (HR5.out.not_map hm0 (by omega) HY5.out)
                              clear hm0
                              go_upto_region 37 with fail
                              refine start_ (n := 12) (S := fun w' => w'.cell? ⟨F.gp, p, none⟩ = some (.map (some m0)) ∧ w'.cell? ⟨gy, 0, none⟩ = some (.int .i64 p) ∧ w'.cell? ⟨gy, 1, none⟩ = some (.int .u64 e) ∧ w'.cell? ⟨gy, 2, none⟩ = some (.slice Av nv cav)) (ds := [11]) #[false, false, false, false, false, false, false, false, false, false, false, false] (by kernel_rfl) rfl rfl (⟨hmc, y0, y1, y2⟩) (fun hHeld => ?_)
                              refine with_tabW g3_37.tab g3_37.bits (fun HT_ HW_ => ?_)
                              generalize hgen : w5.drew = W0 at hHeld ⊢; have HW0 : Aside0 (Below w5.heap.size w5 W0) := ⟨by rw [← hgen]; exact below_drew1 (Below.refl _ _)⟩; clear hgen hmc y0 y1 y2 x0 x1 x2 x3 hf5
                              refine pure_ (i := 0) (N := (some 163)) (v := ?_) (a' := ?_) #[true, false, false, false, false, false, false, false, false, false, false, false] rfl rfl (any_of HT_.out (by kernel_rfl)) (fun _ _ _ h => h) (Or.inl ⟨by rfl, ?_⟩) ?_ ?_
                              rotate_left
                              · (intro w'; go_simp; try with_reducible rfl)
                              rotate_left
                              · simp only [Act.put, List.setIfInBounds_toArray, List.set_cons_zero, List.set_cons_succ, i64_w, i32_w]
                                rfl
                              refine pure_ (i := 1) (N := (some 164)) (v := ?_) (a' := ?_) #[true, true, false, false, false, false, false, false, false, false, false, false] rfl rfl (any_of HT_.out (by kernel_rfl)) (fun _ _ _ h => h) (Or.inl ⟨by rfl, ?_⟩) ?_ ?_
                              rotate_left
                              · (intro w'; go_simp; try with_reducible rfl)
                              rotate_left
                              · simp only [Act.put, List.setIfInBounds_toArray, List.set_cons_zero, List.set_cons_succ, i64_w, i32_w]
                                rfl
                              refine take_ (i := 2) (N := (some 165)) (v := ?_) (a' := ?_) #[true, true, true, false, false, false, false, false, false, false, false, false] rfl rfl (take_ofW HT_.out HW_.out (by kernel_rfl)) (fun _ _ _ h => h) (Or.inl ⟨by rfl, ?_⟩) hHeld ?_ ?_
                              rotate_left
                              · (intro w' hSw; (try dsimp only at hSw); go_split_ands; go_simp; try with_reducible rfl)
                              rotate_left
                              · simp only [Act.put, List.setIfInBounds_toArray, List.set_cons_zero, List.set_cons_succ, i64_w, i32_w]
                                rfl
                              refine pure_ (i := 3) (N := (some 166)) (v := ?_) (a' := ?_) #[true, true, true, true, false, false, false, false, false, false, false, false] rfl rfl (any_of HT_.out (by kernel_rfl)) (fun _ _ _ h => h) (Or.inl ⟨by rfl, ?_⟩) ?_ ?_
                              rotate_left
                              · (intro w'; go_simp; try with_reducible rfl)
                              rotate_left
                              · simp only [Act.put, List.setIfInBounds_toArray, List.set_cons_zero, List.set_cons_succ, i64_w, i32_w]
                                rfl
                              refine take_ (i := 4) (N := (some 167)) (v := ?_) (a' := ?_) #[true, true, true, true, true, false, false, false, false, false, false, false] rfl rfl (take_ofW HT_.out HW_.out (by kernel_rfl)) (fun _ _ _ h => h) (Or.inl ⟨by rfl, ?_⟩) hHeld ?_ ?_
                              rotate_left
                              · (intro w' hSw; (try dsimp only at hSw); go_split_ands; go_simp; try with_reducible rfl)
                              rotate_left
                              · simp only [Act.put, List.setIfInBounds_toArray, List.set_cons_zero, List.set_cons_succ, i64_w, i32_w]
                                rfl
                              refine pure_ (i := 5) (N := (some 168)) (v := ?_) (a' := ?_) #[true, true, true, true, true, true, false, false, false, false, false, false] rfl rfl (any_of HT_.out (by kernel_rfl)) (fun _ _ _ h => h) (Or.inl ⟨by rfl, ?_⟩) ?_ ?_
                              rotate_left
                              · (intro w'; go_simp; try with_reducible rfl)
                              rotate_left
                              · simp only [Act.put, List.setIfInBounds_toArray, List.set_cons_zero, List.set_cons_succ, i64_w, i32_w]
                                rfl
                              refine pure_ (i := 6) (N := (some 169)) (v := ?_) (a' := ?_) #[true, true, true, true, true, true, true, false, false, false, false, false] rfl rfl (any_of HT_.out (by kernel_rfl)) (fun _ _ _ h => h) (Or.inl ⟨by rfl, ?_⟩) ?_ ?_
                              rotate_left
                              · (intro w'; go_simp; try with_reducible rfl)
                              rotate_left
                              · simp only [Act.put, List.setIfInBounds_toArray, List.set_cons_zero, List.set_cons_succ, i64_w, i32_w]
                                rfl
                              refine take_ (i := 7) (N := (some 170)) (v := ?_) (a' := ?_) #[true, true, true, true, true, true, true, true, false, false, false, false] rfl rfl (take_ofW HT_.out HW_.out (by kernel_rfl)) (fun _ _ _ h => h) (Or.inl ⟨by rfl, ?_⟩) hHeld ?_ ?_
                              rotate_left
                              · (intro w' hSw; (try dsimp only at hSw); go_split_ands; go_simp; try with_reducible rfl)
                              rotate_left
                              · simp only [Act.put, List.setIfInBounds_toArray, List.set_cons_zero, List.set_cons_succ, i64_w, i32_w]
                                rfl
                              refine pure_ (i := 8) (N := (some 171)) (v := ?_) (a' := ?_) #[true, true, true, true, true, true, true, true, true, false, false, false] rfl rfl (any_of HT_.out (by kernel_rfl)) (fun _ _ _ h => h) (Or.inl ⟨by rfl, ?_⟩) ?_ ?_
                              rotate_left
                              · (intro w'; go_simp; try with_reducible rfl)
                              rotate_left
                              · simp only [Act.put, List.setIfInBounds_toArray, List.set_cons_zero, List.set_cons_succ, i64_w, i32_w]
                                rfl
                              refine pure_ (i := 9) (N := (some 172)) (v := ?_) (a' := ?_) #[true, true, true, true, true, true, true, true, true, true, false, false] rfl rfl (any_of HT_.out (by kernel_rfl)) (fun _ _ _ h => h) (Or.inl ⟨by rfl, ?_⟩) ?_ ?_
                              rotate_left
                              · (intro w'; go_simp; try with_reducible rfl)
                              rotate_left
                              · simp only [Act.put, List.setIfInBounds_toArray, List.set_cons_zero, List.set_cons_succ, i64_w, i32_w]
                                rfl
                              refine take_ (i := 10) (N := (some 173)) (v := ?_) (a' := ?_) #[true, true, true, true, true, true, true, true, true, true, true, false] rfl rfl (take_ofW HT_.out HW_.out (by kernel_rfl)) (fun _ _ _ h => h) (Or.inl ⟨by rfl, ?_⟩) hHeld ?_ ?_
                              rotate_left
                              · (intro w' hSw; (try dsimp only at hSw); go_split_ands; go_simp; try with_reducible rfl)
                              rotate_left
                              · simp only [Act.put, List.setIfInBounds_toArray, List.set_cons_zero, List.set_cons_succ, i64_w, i32_w]
                                rfl
                              refine last_ (i := 11) (N := none) #[true, true, true, true, true, true, true, true, true, true, true, true] rfl rfl (one_of HT_.out (by kernel_rfl)) (by decide) (fun K hK => ?_)
                              obtain ⟨w6, hrun, hr6, hk6⟩ := stored (HR5.out.below HW0.out) HM0.out (HBS5.out.kp (Kp.of_below (fun _ => False) HW0.out)) (by have h8 := HI.out.nws; have h9 := HE.out.1; omega) (by have h8 := HI.out.nnp; show σ.np ≤ _; omega)
                              have HR6 := Lib.hid hr6
                              have HY6 := Lib.hid (hk6.blk (blk_below HY5.out HW0.out) HNM.out)
                              have HB6 := Lib.hid (Kp.below_new (below_step HB5.out HW0.out) hk6 (fun k hk => by subst hk; rw [← hFb]; exact HR5.out.map_up HM0.out))
                              clear hr6 hk6 HR5 HB5 HY5 HX5 HBS5 HW0 HNM HM0
                              refine put_step (by rfl) rfl (.tmp 167) (.tmp 170) (.tmp 173) 36 rfl rfl rfl rfl hrun ?_
                              clear hrun
                              refine hK.out _ _ ?_
                              clear hK K
                              refine done_ (done_of HT_.out (by kernel_rfl)) ?_
                              clear HT_ HW_ hHeld
                              obtain ⟨y0, y1, y2⟩ := cells3 HY6.out
                              go_wp2_with fail
                              refine (ack_law HR6.out HI.out.all.symm HI.out.few (by have h8 := HI.out.nws; show σ.ws.length ≤ 1000; omega) hp HE.out.1 HE.out.2.1 (LA.store HI.out.la) (show (if p = p then (fun x => σ.has p x ∨ x = e) else σ.has p) e by rw [if_pos rfl]; exact .inr rfl)).mono ?_
                              rintro e1 w7 ⟨k7, A7, c7, es7, col7, rfl, hr7, hla7, hall7, hfew7, hk7⟩
                              have HR7 := Lib.hid hr7
                              have HB7 := Lib.hid (Kp.below_new HB6.out hk7 (fun k hk => by rw [← hFb]; exact hk))
                              have h9 := HI.out.nws
                              have h8 : σ.sure + k7 + es7.length = σ.ws.length := hall7
                              have hsk : σ.sure + k7 ≤ 1000 := by omega
                              have HLI := Lib.hid (HI.out.stored_ HW7.out HFB.out HE.out.1 hla7 h8 hfew7)
                              clear hr7 hla7 hall7 hfew7 hk7 HR6 HB6 HY6 h9 h8
                              go_wp2
                              go_roundw
                              case rel => exact ⟨i + 1, Ay', Au, cy', cu, { σ with way := σ.way.eraseIdx k, np := σ.np + 1, has := (fun i => if i = p then (fun x => σ.has p x ∨ x = e) else σ.has i), sure := σ.sure + k7, es := es7 }, by show _ = Value.slice Ay' (σ.way.eraseIdx k).length cy'; rw [HWL.out], rfl, by go_num, by go_num, by omega, by omega, ⟨col7, Sw, by show LOpen 0 _ _ _ _ _ (Value.slice Ay' (σ.way.eraseIdx k).length cy') _ _; rw [HWL.out]; exact HR7.out, HLI.out, HB7.out⟩⟩
                              case measure => simp [intOf]; omega
                            · go_wp2
                              go_roundw
                              case rel => exact ⟨i + 1, Ay', Au, cy', cu, { σ with way := σ.way.eraseIdx k }, by show _ = Value.slice Ay' (σ.way.eraseIdx k).length cy'; rw [HWL.out], rfl, rfl, by go_num, by omega, by omega, ⟨col5, Sw, by show LOpen 0 _ _ _ _ _ (Value.slice Ay' (σ.way.eraseIdx k).length cy') _ _; rw [HWL.out]; exact HR5.out, HI.out.way_ HW7.out, HB5.out⟩⟩
                              case measure => simp [intOf]; omega
                          · go_wp2
                            go_roundw
                            case rel => exact ⟨i + 1, Ay', Au, cy', cu, { σ with way := σ.way.eraseIdx k }, by show _ = Value.slice Ay' (σ.way.eraseIdx k).length cy'; rw [HWL.out], rfl, rfl, by go_num, by omega, by omega, ⟨col5, Sw, by show LOpen 0 _ _ _ _ _ (Value.slice Ay' (σ.way.eraseIdx k).length cy') _ _; rw [HWL.out]; exact HR5.out, HI.out.way_ HW7.out, HB5.out⟩⟩
                            case measure => simp [intOf]; omega
                      · have hw0d : decide (0 < (σ.way.length : Int)) = false := decide_eq_false (by omega)
                        have hm1 := HR3.out
                        go_wp2
                        go_roundw
                        case rel => exact ⟨i + 1, Ay, Au, cy, cu, σ, rfl, rfl, rfl, by go_num, by omega, by omega, ⟨_, Sw, HR3.out, HI.out.next, HB3.out⟩⟩
                        case measure => simp [intOf]; omega
                    · have hk2d : decide ((kd : Int) % 6 < 5) = false := decide_eq_false hk2
                      have hk5 : ((kd : Int) % 6 == 5) = true := by simp; omega
                      obtain ⟨fb, hfb⟩ : ∃ fb, σ.fe[pl]? = some fb := ⟨_, List.getElem?_eq_getElem (by rw [HI.out.fel]; exact hpl)⟩
                      have hfc : w3.cell? ⟨F.gf, pl, none⟩ = some (.bool fb) := by
                        refine (blk_cell (HR3.out.fe (by decide)).1 pl).trans ?_
                        simp [hfb]
                      cases fb
                      · as_aux_lemma =>
                          have hfz : w3.frozen? ⟨F.gf, pl, none⟩ = false := blk_frozen (HR3.out.fe (by decide)).1 pl
                          obtain ⟨hr4, hk4⟩ := fence_step HR3.out pl
                          have HR4 := Lib.hid hr4
                          have HB4 := Lib.hid (Kp.below_new HB3.out hk4 (fun k hk => by rw [← hFb]; exact hk))
                          clear hr4 hk4
                          go_upto_region 42 with fail
                          clear hfz HR3 HB3 HX3 x0 x1 x2 x3 cq hfc
                          generalize w3.setCell ⟨F.gf, pl, none⟩ (.bool true) = w4 at HR4 HB4 ⊢
                          obtain ⟨m0, hm0, hmc⟩ := HR4.out.map_at (by decide) hpl
                          obtain ⟨hcm, f, hf, ht⟩ := HR4.out.maps pl m0 hm0 (by omega)
                          obtain ⟨D, hown, hfD⟩ := hf
                          have HT := Lib.hid ht
                          have HD := Lib.hid (show MapAs D f from hfD)
                          have HOWN := Lib.hid hown
                          have hnp : σ.np ≤ 200 := Nat.le_trans HI.out.nnp hi200
                          clear hcm hm0 ht hfD
                          go_wp2_with (at_range; refine wpList_range_own _ rfl _ 36 rfl 43 42 (Maps.int_keyed Try.underlying43) Try.underlying36 tok m0 _ D rfl hown ?_; intro w5 hrg5 hg5 hs5)
                          have HF := Lib.hid (fence_start HD.out HT.out (fun e he => by have h8 := HI.out.hasl pl e he; have h9 := HI.out.nws; omega) HOWN.out hrg5 hg5 hs5)
                          clear hrg5 hg5 hs5 hown hmc
                          go_loopw [26] (fun v26 wr => ∃ (its : List (Nat × Value)) (Al : Option Addr) (cl : Nat) (left : Lit → Bool) (cnt : Nat), v26 = .slice Al its.length cl ∧ Aside0 (FenceC w4 wr m0 σ.np D (Tw σ.ws) (σ.has pl) its (.slice Al its.length cl) left cnt)) (fun _ wr => wr.rangeLeft m0 w4.heap.size)
                          case atStart => exact ⟨[], none, 0, _, _, rfl, ⟨HF.out⟩⟩
                          case round =>
                            clear HF
                            obtain ⟨its, Al, cl, left, cnt, rfl, ⟨hF⟩⟩ := hrel
                            have HF := Lib.hid hF
                            have hrg := hF.rg
                            clear hF
                            go_wp2_with (at_next; refine wpList_next_ranges _ rfl _ rfl 43 (Maps.int_keyed Try.underlying43) tok (fun x : Int => Value.int .u64 x) (fun v : Value => v) (fun key kl h => by obtain ⟨x, rfl, _⟩ := Maps.keyOf_int_inv Try.underlying43 h; exact ⟨x, rfl⟩) (fun v y _ => ⟨v, rfl⟩) m0 w4.heap.size σ.np D left cnt rfl hrg ?_ ?_)
                            · intro _ hl0
                              obtain ⟨hic, hcl, hgl, hall, hle⟩ := HF.out.done (by omega) hl0
                              have HIN := Lib.hid (fun (j e : Nat) (u : Value) (hj : its[j]? = some (e, u)) => (HF.out.got j e u hj).2.2)
                              have HR5 := Lib.hid (HR4.out.below HF.out.bl)
                              have HB5 := Lib.hid (below_step HB4.out HF.out.bl)
                              have HS := Lib.hid (show ∀ g o, Al = some ⟨g, o, none⟩ → ¬ F.Sm g from fun g o hA hs => by have h1 := (HR4.out.mr (by decide)).1.lt g hs; have h2 := hgl g o hA; omega)
                              have HIC := Lib.hid hic
                              have HALL := Lib.hid hall
                              have HCL := Lib.hid hcl
                              have HLE := Lib.hid hle
                              clear hic hall hcl hle hgl hl0 hrg HF HR4 HB4 HT HD HOWN
                              go_wp2_with fail
                              refine (mender_hear Q (Tw σ.ws) HI.out.short' F.mb F.Sm σ.hs σ.nm pl σ.hm Al cl its _ (HR5.out.mr (by decide)).1 hpl HIC.out HCL.out (by have h8 := HI.out.nnm; omega) HS.out).mono ?_
                              rintro e1 w7 ⟨rfl, hm7, hk7⟩
                              obtain ⟨hr8, hk8⟩ := heard HR5.out hm7 hk7
                              have HR8 := Lib.hid hr8
                              have HB8 := Lib.hid (Kp.below_new HB5.out hk8 (fun k hk => by rw [← hFb]; exact hk))
                              have HLI := Lib.hid (HI.out.heard_ hi200 HIN.out HALL.out HLE.out)
                              clear hr8 hk8 hm7 hk7 HR5 HB5 HIN HALL HLE HIC HCL HS
                              go_wp2
                              go_roundw
                              case rel => exact ⟨i + 1, Ay, Au, cy, cu, { σ with fe := σ.fe.set pl true, hs := σ.hs.set pl true, nm := σ.nm + its.length, hm := hasTo σ.hm its its.length }, rfl, rfl, rfl, by go_num, by omega, by omega, ⟨_, Sw, HR8.out, HLI.out, HB8.out⟩⟩
                              case measure => simp [intOf]; omega
                            · intro x u kl y ps w1 cnt1 hkey hlk hv hat hrg1 hlt1 hg1 hs1 hen
                              obtain ⟨e, Au2, nu, cu2, A6, c6, w6, rfl, rfl, hrun, hF6⟩ := fence_round HF.out HD.out HT.out hkey hv hat hrg1 hlt1 hg1 hs1 (by omega)
                              have HF6 := Lib.hid hF6
                              have HL := Lib.hid hlt1
                              clear hF6 hlt1 hkey hv hat hrg1 hg1 hs1 hlk hrg
                              go_wp2_with (at_builtin; refine app_event rfl (.tmp 209) (.tmp 213) 52 rfl rfl rfl hrun ?_)
                              go_roundw
                              case rel => exact ⟨its ++ [(e, .slice Au2 nu cu2)], A6, c6, _, cnt1, by rw [List.length_append]; rfl, ⟨by rw [List.length_append]; exact HF6.out⟩⟩
                              case measure => rw [HF6.out.rg.left_eq, HF.out.rg.left_eq]; exact HL.out
                      · go_wp2
                        go_roundw
                        case rel => exact ⟨i + 1, Ay, Au, cy, cu, σ, rfl, rfl, rfl, by go_num, by omega, by omega, ⟨_, Sw, HR3.out, HI.out.next, HB3.out⟩⟩
                        case measure => simp [intOf]; omega
              · go_meet
                case rel => exact ⟨i, Ay, Au, cy, cu, σ, rfl, rfl, rfl, hi201, ⟨_, Sw, HR3.out, HI.out, HB3.out⟩⟩
          · go_wp2_with fail
            go_meet
            case rel => exact ⟨i, Ay, Au, cy, cu, σ, rfl, rfl, rfl, hi201, ⟨col, Sw, HR.out, HI.out, HB.out⟩⟩
      case rest =>
        obtain ⟨i, Ay, Au, cy, cu, σ, rfl, rfl, rfl, hi201, ⟨col, Sw, hr, hli, hb⟩⟩ := hcut
        as_aux_lemma =>
          have HR := Lib.hid hr
          have HI := Lib.hid hli
          have HB := Lib.hid hb
          clear hr hb hli HR0 HB0
          have hws := Lib.hid (Nat.le_trans HI.out.nws hi201)
          have hway : σ.way.length ≤ 2000 := by have := HI.out.nway; omega
          go_wp2_with (go_at_call 15; refine (mender_ready Q (Tw σ.ws) F.mb F.Sm σ.hs 0 σ.nm σ.hm _ (HR.out.mr (by decide)).1).mono ?_; rintro e w3 ⟨rfl, hb3⟩; have HR3 := Lib.hid (HR.out.below hb3); have HB3 := Lib.hid (below_step HB.out hb3); obtain ⟨cv, hcv⟩ : ∃ cv, covB Q σ.hs = cv := ⟨_, rfl⟩; rw [hcv]; clear hb3 HR HB; cases cv)
          · go_ret
            exact ⟨rfl, HB3.out⟩
          · have HCV := Lib.hid hcv
            clear hcv
            have HLA := Lib.hid (HI.out.la.mono (ok' := fun pl e => σ.has pl e ∨ σ.fe.getD pl false = false) (fun _ _ h => .inl h))
            go_loopw [15, 226] (fun v15 v226 wr => ∃ (j sure : Nat) (es : List Ent), v15 = .int .i64 sure ∧ v226 = .int .i64 j ∧ j ≤ σ.way.length ∧ Aside0 (∃ (col : Nat → Nat) (Sw : Nat → Prop), LRep wr Q F col Sw (.slice Ay σ.way.length cy) (.slice Au σ.us.length cu) { σ with sure := sure, es := es } ∧ LA Q (fun pl e => σ.has pl e ∨ σ.fe.getD pl false = false) sure es ∧ sure + es.length = σ.ws.length ∧ es.length ≤ 64 ∧ Below w.heap.size w wr)) (fun _ v _ => σ.way.length - (intOf v).toNat)
            case atStart => exact ⟨0, σ.sure, σ.es, rfl, rfl, Nat.zero_le _, ⟨col, Sw, HR3.out, HLA.out, HI.out.all.symm, HI.out.few, HB3.out⟩⟩
            case round =>
              clear HR3 HB3 HLA
              obtain ⟨j, sure, es, rfl, rfl, hj, ⟨col, Sw, hr, hla, hall, hfew, hb⟩⟩ := hrel
              have HR := Lib.hid hr
              have HB := Lib.hid hb
              have HLA := Lib.hid hla
              have HALL := Lib.hid hall
              have HFEW := Lib.hid hfew
              clear hr hb hla hall hfew
              by_cases hlt : j < σ.way.length
              · obtain ⟨⟨p, e, v⟩, hx⟩ : ∃ x, σ.way[j]? = some x := ⟨_, List.getElem?_eq_getElem hlt⟩
                have hp := (HR.out.yb p e v (List.mem_of_getElem? hx)).1
                have he := Lib.hid (HR.out.yb p e v (List.mem_of_getElem? hx)).2
                obtain ⟨g, o, rfl, hcy, a0, a1, a2⟩ := HR.out.way_at (by decide) hx
                obtain ⟨Av, nv, cav, rfl⟩ : ∃ Av nv cav, v = .slice Av nv cav := by obtain ⟨Av, cav, h1, _⟩ := he.out.2.2; exact ⟨Av, _, cav, h1⟩
                go_upto_region 54 with fail
                have hB4 : Below wr.heap.size wr (wr.alloc (.cells #[.int .i64 p, .int .u64 e, .slice Av nv cav] 51)) := below_alloc (Below.refl _ _) _
                have hx4 : (wr.alloc (.cells #[.int .i64 p, .int .u64 e, .slice Av nv cav] 51)).heap[wr.heap.size]? = some (.cells #[.int .i64 p, .int .u64 e, .slice Av nv cav] 51 (0, 0)) := blk_new _ _
                have HR4 := Lib.hid (HR.out.below hB4)
                have HB4 := Lib.hid (below_step HB.out hB4)
                have hf4 := HR4.out.fence_at (by decide) HI.out.fel hp
                obtain ⟨x0, x1, x2⟩ := cells3 hx4
                generalize wr.alloc (.cells #[.int .i64 p, .int .u64 e, .slice Av nv cav] 51) = w4 at HR4 HB4 hf4 x0 x1 x2 ⊢
                generalize wr.heap.size = gx at x0 x1 x2 ⊢
                clear hB4 hx4 HR HB a0 a1 a2
                obtain ⟨fb, hfb⟩ : ∃ fb, σ.fe.getD p false = fb := ⟨_, rfl⟩
                dsimp only at hf4
                rw [hfb] at hf4
                have HFB := Lib.hid hfb
                clear hfb
                cases fb
                · have HX4 := Lib.hid x2
                  go_wp2_with fail
                  refine (ack_law HR4.out HALL.out HFEW.out (by have := hws.out; show σ.ws.length ≤ 1000; omega) hp he.out.1 he.out.2.1 HLA.out (.inr HFB.out)).mono ?_
                  rintro e1 w5 ⟨k, A5, c5, es5, col5, rfl, hr5, hla5, hall5, hfew5, hk5⟩
                  have HR5 := Lib.hid hr5; have HLA5 := Lib.hid hla5; have HALL5 := Lib.hid hall5; have HFEW5 := Lib.hid hfew5; have HB5 := Lib.hid (Kp.below_new HB4.out hk5 (fun k hk => by rw [← hFb]; exact hk)); have h9 := hws.out; have h8 : sure + k + es5.length = σ.ws.length := hall5; have hsk : sure + k ≤ 1000 := (by omega); clear h9 h8; clear hr5 hla5 hall5 hfew5 hk5 HR4 HB4
                  go_wp2
                  go_roundw
                  case rel => exact ⟨j + 1, sure + k, es5, by go_num, by go_num, by omega, ⟨col5, Sw, HR5.out, HLA5.out, HALL5.out, HFEW5.out, HB5.out⟩⟩
                  case measure => simp [intOf]; omega
                · go_wp2
                  go_roundw
                  case rel => exact ⟨j + 1, sure, es, rfl, by go_num, by omega, ⟨col, Sw, HR4.out, HLA.out, HALL.out, HFEW.out, HB4.out⟩⟩
                  case measure => simp [intOf]; omega
              · have hjm : j = σ.way.length := by omega
                obtain ⟨k0, hk1, hk2, hk3⟩ := first_missing σ.hm σ.ws.length HI.out.hml
                have hle : sure ≤ k0 := by
                  rcases Nat.lt_or_ge k0 sure with hl | hl
                  · exact absurd (all_heard HLA.out (by rw [← HI.out.heard]; exact HCV.out) HI.out.told k0 hl) hk3
                  · exact hl
                have hk0 : k0 ≤ 201 := Nat.le_trans hk1 hws.out
                have hul := HR.out.ul
                have HUL := Lib.hid (show σ.us.length = σ.ws.length from hul)
                clear hul
                have hlei : (sure : Int) ≤ (k0 : Int) := by omega
                have HK := Lib.hid (And.intro hk1 (And.intro hk2 hk3))
                clear hk1 hk2 hk3 hle
                go_wp2_with (first
                  | (go_at_call 20; refine (mender_result Q (Tw σ.ws) HI.out.short' F.mb F.Sm σ.hs σ.nm k0 σ.hm _ (HR.out.mr (by decide)).1 HCV.out HK.out.2.1 HK.out.2.2 (by omega)).mono ?_; rintro e1 w5 ⟨A5, c5, its, rfl, hil, hidx, hitc, hb5⟩; have HR5 := Lib.hid (HR.out.below hb5); subst hil; have HB5 := Lib.hid (below_step HB.out hb5); have HIX := Lib.hid hidx; have HIC := Lib.hid hitc; clear hidx hitc hb5 HR HB)
                  | (go_at_call 21; refine (sure_any F.wb sure _ ((HR5.out.wr (by decide)).1.sure_cell)).mono ?_; rintro e1 w6 ⟨rfl, rfl⟩)
                  | (go_at_call 22; refine (held_calls (Tw σ.ws) _ _ c5 cu its σ.us _ HIC.out (HR5.out.wrc (by decide) (by have h8 := hws.out; have h9 := HUL.out; show σ.us.length ≤ _; omega)) HIX.out (by have h9 := HUL.out; have h8 := HK.out.1; omega)).mono ?_; rintro e1 w7 ⟨rfl, hb7⟩))
                go_ret
                exact ⟨rfl, below_step HB5.out hb7⟩
end Go.Proofs.Ytigcpknfcdcllaa
