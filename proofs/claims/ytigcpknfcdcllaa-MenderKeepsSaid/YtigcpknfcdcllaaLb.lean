/- Words on worlds, bytes and maps that the contracts of this seat use. -/
import Derived.Test.YtigcpknfcdcllaaWMore
import Derived.Maps.OwnSet
import Derived.Maps.RangeWalk
import Derived.Lib.Hide
namespace Go.Proofs.YtigcpknfcdcllaaLb
open Go.RowKit Go.Proofs.YtigcpknfcdcllaaW Go.Proofs.YtigcpknfcdcllaaW.PrintWords

/-- What a call leaves as it was: all blocks but those of S; and bytes (type 5) always. -/
structure Kp (S : Nat → Prop) (w w' : World) : Prop where
  os : w'.os = w.os
  tape : w'.tape = w.tape
  output : w'.output = w.output
  size : w.heap.size ≤ w'.heap.size
  block : ∀ k, k < w.heap.size → ¬ S k → w'.heap[k]? = w.heap[k]?
  bytes : ∀ (k : Nat) (cs : Array Value) (fr : Nat × Nat), w.heap[k]? = some (Obj.cells cs 5 fr) → w'.heap[k]? = some (Obj.cells cs 5 fr)

theorem Kp.refl (S : Nat → Prop) (w : World) : Kp S w w := ⟨rfl, rfl, rfl, Nat.le_refl _, fun _ _ _ => rfl, fun _ _ _ h => h⟩
theorem Kp.trans {S : Nat → Prop} {a b c : World} (h : Kp S a b) (k : Kp S b c) : Kp S a c :=
  ⟨k.os.trans h.os, k.tape.trans h.tape, k.output.trans h.output, Nat.le_trans h.size k.size,
   fun i hi hs => (k.block i (Nat.lt_of_lt_of_le hi h.size) hs).trans (h.block i hi hs), fun i cs fr hb => k.bytes i cs fr (h.bytes i cs fr hb)⟩
/-- What the second call may turn is of the first one's, or new. -/
theorem Kp.then {S T : Nat → Prop} {a b c : World} (h : Kp S a b) (k : Kp T b c) (hT : ∀ i, T i → i < a.heap.size → S i) : Kp S a c :=
  ⟨k.os.trans h.os, k.tape.trans h.tape, k.output.trans h.output, Nat.le_trans h.size k.size,
   fun i hi hs => (k.block i (Nat.lt_of_lt_of_le hi h.size) (fun ht => hs (hT i ht hi))).trans (h.block i hi hs), fun i cs fr hb => k.bytes i cs fr (h.bytes i cs fr hb)⟩
theorem Kp.mono {S T : Nat → Prop} {a b : World} (h : Kp S a b) (hT : ∀ i, i < a.heap.size → S i → T i) : Kp T a b :=
  ⟨h.os, h.tape, h.output, h.size, fun i hi ht => h.block i hi (fun hs => ht (hT i hi hs)), h.bytes⟩
theorem lt_of_blk {w : World} {k : Nat} {o : Obj} (h : w.heap[k]? = some o) : k < w.heap.size := (Array.getElem?_eq_some_iff.1 h).1
theorem Kp.of_below {w w' : World} (S : Nat → Prop) (h : Below w.heap.size w w') : Kp S w w' :=
  ⟨h.os, h.tape, h.output, h.size, fun k hk _ => h.block k hk, fun k _ _ hb => (h.block k (lt_of_blk hb)).trans hb⟩
theorem Kp.below {w w' : World} (h : Kp (fun _ => False) w w') : Below w.heap.size w w' := ⟨h.os, h.tape, h.output, h.size, fun k hk => h.block k hk (fun x => x)⟩
theorem Kp.drew {S : Nat → Prop} {a b : World} (h : Kp S a b) : Kp S a b.drew := ⟨h.os, h.tape, h.output, h.size, h.block, h.bytes⟩
theorem Kp.drewN {S : Nat → Prop} {a b : World} (h : Kp S a b) (n : Nat) : Kp S a (b.drewN n) := ⟨h.os, h.tape, h.output, h.size, h.block, h.bytes⟩
theorem Kp.alloc {S : Nat → Prop} {a b : World} (h : Kp S a b) (o : Obj) : Kp S a (b.alloc o) :=
  h.then (Kp.of_below (fun _ => False) (below_alloc (Below.refl _ _) o)) (fun _ hf _ => hf.elim)
theorem Kp.by_ {S : Nat → Prop} {a b c : World} (h : Kp S a b) (k : Below b.heap.size b c) : Kp S a c := h.then (Kp.of_below (fun _ => False) k) (fun _ hf _ => hf.elim)
/-- A store into a cell of a block that is no row of bytes. -/
theorem Kp.set {S : Nat → Prop} {a b : World} (h : Kp S a b) {p : Addr} (hp : p.block < a.heap.size → S p.block) {cs : Array Value} {t : TypeId} {fr : Nat × Nat} (hb : b.heap[p.block]? = some (.cells cs t fr)) (ht : t ≠ 5) (u : Value) : Kp S a (b.setCell p u) :=
  h.then (T := fun k => k = p.block) ⟨rfl, rfl, rfl, by simp [World.setCell], fun k _ hn => Below.heap_setCell b p u k hn, fun k cs' fr' h' => by
    by_cases hk : k = p.block
    · subst hk; rw [hb] at h'; injection h' with h'; injection h' with _ h2; exact absurd h2 ht
    · exact (Below.heap_setCell b p u k hk).trans h'⟩ (fun i hi hlt => by subst hi; exact hp hlt)
theorem Kp.grown {S : Nat → Prop} {a b c : World} (h : Kp S a b) {row : Option Nat} (hg : b.grownBy c row) (hr : ∀ k, row = some k → k < a.heap.size → S k)
    (hb : ∀ k, row = some k → ∀ (cs : Array Value) (fr : Nat × Nat), b.heap[k]? ≠ some (Obj.cells cs 5 fr)) : Kp S a c :=
  h.then (T := fun k => row = some k) ⟨hg.os, hg.tape, hg.output, hg.size, fun k hk hn => hg.block k hk (fun e => hn e.symm), fun k cs fr hc => by
    by_cases hk : row = some k
    · exact absurd hc (hb k hk cs fr)
    · exact (hg.block k (lt_of_blk hc) (fun e => hk e.symm)).trans hc⟩ (fun i hi hlt => hr i hi hlt)
theorem Kp.blk {S : Nat → Prop} {a b : World} (h : Kp S a b) {k : Nat} {o : Obj} (hb : a.heap[k]? = some o) (hs : ¬ S k) : b.heap[k]? = some o := (h.block k (lt_of_blk hb) hs).trans hb
theorem Kp.cell {S : Nat → Prop} {a b : World} (h : Kp S a b) {p : Addr} {v : Value} (hc : a.cell? p = some v) (hs : ¬ S p.block) : b.cell? p = some v :=
  (World.cell?_of_block (w := a) (h.block p.block (World.block_lt_of_cell? a p hc) hs)).trans hc

/-- The cells of a slice of bytes. -/
abbrev ByC (w : World) (A : Option Addr) (xs : List Int) : Prop := (Kd.int .u8).C w A xs.length xs

/-- v is a slice of bytes that reads xs; its block, if any, holds bytes. -/
def Bs (w : World) (v : Value) (xs : List Int) : Prop :=
  ∃ A c, v = .slice A xs.length c ∧ xs.length ≤ c ∧ ByC w A xs ∧ ∀ a, A = some a → ∃ (cs : Array Value) (fr : Nat × Nat), w.heap[a.block]? = some (Obj.cells cs 5 fr)
theorem ByC.kp {S : Nat → Prop} {w w' : World} {A : Option Addr} {xs : List Int} (h : ByC w A xs) (k : Kp S w w') (hb : ∀ a, A = some a → ∃ (cs : Array Value) (fr : Nat × Nat), w.heap[a.block]? = some (Obj.cells cs 5 fr)) : ByC w' A xs := by
  obtain ⟨h1, h2, h3⟩ := h
  refine ⟨h1, h2, fun hn => ?_⟩
  obtain ⟨ad, rfl, hc⟩ := h3 hn
  obtain ⟨cs, fr, hcs⟩ := hb ad rfl
  refine ⟨ad, rfl, fun j p hj => ?_⟩
  obtain ⟨c, hl, hp, hcc⟩ := hc j p hj
  refine ⟨c, hl, hp, fun i u hu => ?_⟩
  have h4 := hcc i u hu
  have hblk : (ad.add (j * (Kd.int .u8).sz + i)).block = ad.block := by unfold Addr.add; split <;> rfl
  refine (World.cell?_of_block (w := w) (a := ad.add (j * (Kd.int .u8).sz + i)) ?_).trans h4
  rw [hblk, hcs]; exact k.bytes _ _ _ hcs
theorem Bs.kp {S : Nat → Prop} {w w' : World} {v : Value} {xs : List Int} (h : Bs w v xs) (k : Kp S w w') : Bs w' v xs := by
  obtain ⟨A, c, rfl, hl, hc, hb⟩ := h
  exact ⟨A, c, rfl, hl, hc.kp k hb, fun a ha => by obtain ⟨cs, fr, h1⟩ := hb a ha; exact ⟨cs, fr, k.bytes _ _ _ h1⟩⟩
theorem Bs.nil (w : World) : Bs w (.slice none 0 0) [] := ⟨none, 0, rfl, Nat.le_refl _, Kd.C_nil _ _, fun a ha => by cases ha⟩
theorem Bs.one {w : World} {v : Value} {xs : List Int} (h : Bs w v xs) : v.oneCell' = true := by obtain ⟨A, c, rfl, _⟩ := h; rfl

/-! ### maps whose elements are told as they are -/
open Classical in
/-- f, but v at key kl. -/
noncomputable def upd (f : Lit → Option Value) (kl : Lit) (v : Value) : Lit → Option Value := fun k => if k = kl then some v else f k
theorem upd_same (f : Lit → Option Value) (kl : Lit) (v : Value) : upd f kl v kl = some v := if_pos rfl
theorem upd_other (f : Lit → Option Value) {kl k : Lit} (v : Value) (h : k ≠ kl) : upd f kl v k = f k := if_neg h
def tok (v : Value) : Option (DataW Value × List MemPlace) := some (.held v, [])
/-- Block b is a map of at most n entries: at key k what f says. -/
def MapF (P : Program) (K : TypeId) (w : World) (b n : Nat) (f : Lit → Option Value) : Prop :=
  ∃ D : DataW Value, w.ownsMap P K tok b n D ∧ ∀ k, (∀ v, f k = some v → Maps.has D k = true ∧ ∀ z, D.atKey k z = .held v) ∧ (f k = none → Maps.has D k = false)
section
variable {P : Program} {K : TypeId} {w w' : World} {b n : Nat} {f : Lit → Option Value}
theorem MapF.made (w : World) : MapF P K (w.alloc (.map #[] 0)) w.heap.size 0 (fun _ => none) :=
  ⟨.map [], World.ownsMap_made w P K tok, fun k => ⟨fun v h => by (cases h), fun _ => rfl⟩⟩
theorem MapF.moved (h : MapF P K w b n f) (hb : w'.heap[b]? = w.heap[b]?) : MapF P K w' b n f := by
  obtain ⟨D, ⟨es, clock, h1, h2⟩, hf⟩ := h
  exact ⟨D, ⟨es, clock, hb.trans h1, h2⟩, hf⟩
theorem MapF.lt (h : MapF P K w b n f) : b < w.heap.size := by obtain ⟨D, h, _⟩ := h; exact h.lt
theorem MapF.isMap (h : MapF P K w b n f) : ∃ es clock, w.heap[b]? = some (.map es clock) := by obtain ⟨D, ⟨es, clock, h1, _⟩, _⟩ := h; exact ⟨es, clock, h1⟩
theorem MapF.mono (h : MapF P K w b n f) {m : Nat} (hm : n ≤ m) : MapF P K w b m f := by
  obtain ⟨D, h, hf⟩ := h; exact ⟨D, h.mono hm, hf⟩
theorem MapF.kp {S : Nat → Prop} (h : MapF P K w b n f) (k : Kp S w w') (hs : ¬ S b) : MapF P K w' b n f := h.moved (k.block b h.lt hs)
theorem MapF.look (h : MapF P K w b n f) (KK : Maps.Keyed P K) {t e : TypeId} (ht : P.underlying t = some (.map K e)) {z : Value} (hz : (zeroValue e).run P w = .ok z w) {key : Value} {kl : Lit} (hkey : keyOf P K key = some kl) {v : Value} (hf : f kl = some v) :
    (Instr.lookup t (.map (some b)) key true).run P w = .ok (.tuple #[v, .bool true]) w := by
  obtain ⟨D, h, hD⟩ := h
  obtain ⟨v', ps, hrun, hv⟩ := h.look_ok KK ht hz (zd := .held z) (zp := []) rfl hkey
  obtain ⟨h1, h2⟩ := (hD kl).1 v hf
  rw [hrun, h1]
  simp only [tok, Option.some.injEq, Prod.mk.injEq] at hv
  rw [h2] at hv
  injection hv.1 with hv
  rw [hv]
theorem MapF.look_none (h : MapF P K w b n f) (KK : Maps.Keyed P K) {t e : TypeId} (ht : P.underlying t = some (.map K e)) {z : Value} (hz : (zeroValue e).run P w = .ok z w) {key : Value} {kl : Lit} (hkey : keyOf P K key = some kl) (hf : f kl = none) :
    (Instr.lookup t (.map (some b)) key true).run P w = .ok (.tuple #[z, .bool false]) w := by
  obtain ⟨D, h, hD⟩ := h
  obtain ⟨v', ps, hrun, hv⟩ := h.look_ok KK ht hz (zd := .held z) (zp := []) rfl hkey
  have h1 := (hD kl).2 hf
  rw [hrun, h1]
  simp only [tok, Option.some.injEq, Prod.mk.injEq] at hv
  rw [Maps.atKey_of_not_has h1] at hv
  injection hv.1 with hv
  rw [hv]
theorem MapF.put (h : MapF P K w b n f) (KK : Maps.Keyed P K) {t e : TypeId} (ht : P.underlying t = some (.map K e)) (hn : n < maxLen) {key val : Value} {kl : Lit} (hkey : keyOf P K key = some kl) :
    ∃ w', (Instr.mapUpdate t (.map (some b)) key val).run P w = .ok () w' ∧ MapF P K w' b (n + 1) (upd f kl val) ∧ w.grownBy w' (some b) := by
  obtain ⟨D, h, hD⟩ := h
  obtain ⟨w', hrun, h1, hg⟩ := h.update KK ht hn (val := val) (d := .held val) (ps := []) hkey rfl
  refine ⟨w', hrun, ⟨_, h1, fun k => ⟨fun v hv => ?_, fun hv => ?_⟩⟩, hg⟩
  · by_cases hk : k = kl
    · subst hk
      rw [upd_same] at hv
      injection hv with hv
      subst hv
      exact ⟨Maps.has_put_same h.isMap (KK.key hkey) _, fun z => Maps.atKey_put_same h.isMap (KK.key hkey) _ z⟩
    · rw [upd_other _ _ hk] at hv
      obtain ⟨a1, a2⟩ := (hD k).1 v hv
      exact ⟨(Maps.has_put_other hk _).trans a1, fun z => (Maps.atKey_put_other hk _ z).trans (a2 z)⟩
  · by_cases hk : k = kl
    · subst hk; rw [upd_same] at hv; cases hv
    · rw [upd_other _ _ hk] at hv
      exact (Maps.has_put_other hk _).trans ((hD k).2 hv)
end

/-! ### laws at an operation -/
section
variable {P : Program} {ops : Array Oper} {rest : List Oper} {o : Oper} {a : Act} {Q : Exit → Act → World → Prop} {Kc : Act → World → Prop}
/-- append, its run known. -/
theorem app_event {W w1 : World} {v y v1 : Value} (hgd : o.guard = none) (s x : Operand) (t : TypeId) (ho : o.op = .call { callee := .builtin .append, args := #[s, x], argTypes := #[t, t] }) (hs : a.eval s = v) (hx : a.eval x = y)
    (hrun : (Builtin.append_ #[t, t] o.type #[v, y]).run P W = .ok v1 w1) (h : wpList P ops Q rest (a.put o.dst v1) w1) : wpList P ops Q (o :: rest) a W := by
  refine wpList_plain hgd fun K hK => ?_
  unfold Oper.wp execOp
  simp only [ho, resolve, invoke, builtin, Sem.run_bind, Sem.run_pure, Result.andThen_ok, List.map_toArray, List.map_cons, List.map_nil, hs, hx, hrun]
  exact hK _ _ h
theorem app_oper {W w1 : World} {v y v1 : Value} (s x : Operand) (t : TypeId) (ho : o.op = .call { callee := .builtin .append, args := #[s, x], argTypes := #[t, t] }) (hs : a.eval s = v) (hx : a.eval x = y)
    (hrun : (Builtin.append_ #[t, t] o.type #[v, y]).run P W = .ok v1 w1) (h : Kc (a.put o.dst v1) w1) : Oper.wp P o a W Kc Q := by
  unfold Oper.wp execOp
  simp only [ho, resolve, invoke, builtin, Sem.run_bind, Sem.run_pure, Result.andThen_ok, List.map_toArray, List.map_cons, List.map_nil, hs, hx, hrun]
  exact h
/-- A store into a map, its run known. -/
theorem put_event {W w1 : World} {mv kv vv : Value} (hgd : o.guard = none) (m k v : Operand) (t : TypeId) (ho : o.op = .mapUpdate t m k v) (hm : a.eval m = mv) (hk : a.eval k = kv) (hv : a.eval v = vv)
    (hrun : (Instr.mapUpdate t mv kv vv).run P W = .ok () w1) (h : wpList P ops Q rest (a.put o.dst undef) w1) : wpList P ops Q (o :: rest) a W := by
  refine wpList_plain hgd fun K hK => ?_
  unfold Oper.wp
  simp [execOp, ho, hm, hk, hv, hrun, Result.andThen]
  exact hK _ _ h
theorem put_oper {W w1 : World} {mv kv vv : Value} (m k v : Operand) (t : TypeId) (ho : o.op = .mapUpdate t m k v) (hm : a.eval m = mv) (hk : a.eval k = kv) (hv : a.eval v = vv)
    (hrun : (Instr.mapUpdate t mv kv vv).run P W = .ok () w1) (h : Kc (a.put o.dst undef) w1) : Oper.wp P o a W Kc Q := by
  unfold Oper.wp
  simp [execOp, ho, hm, hk, hv, hrun, Result.andThen]
  exact h
end
section
variable {P : Program} {ops : Array Oper} {rest : List Oper} {o : Oper} {a : Act} {Q : Exit → Act → World → Prop} {K : Act → World → Prop}
/-- One block more, in a region that draws its order. -/
theorem alloc_step {N : Option Tmp} {W : World} {cs : Array Value} {t : TypeId} (hw : Region.wanted o (yielded ops a.tmps) = true) (hN : o.dst = N) (f : Nat → Value)
    (hrun : (execOp a.eval o).run P W = .ok (.value (f W.heap.size)) (W.alloc (.cells cs t (0, 0))))
    (h : ∀ g w1, W.heap.size ≤ g → w1.heap[g]? = some (.cells cs t (0, 0)) → Below W.heap.size W w1 → K (a.put N (f g)) w1) : if Region.wanted o (yielded ops a.tmps) = true then Oper.wp P o a W K Q else K (a.put N undef) W := by
  rw [if_pos hw]
  subst hN
  unfold Oper.wp
  rw [hrun]
  exact h _ _ (Nat.le_refl _) (blk_new W _) (below_alloc (Below.refl _ _) _)
/-- The same in a plain region. -/
theorem alloc_event {N : Tmp} {W : World} {cs : Array Value} {t : TypeId} (hd : o.dst = some N) (hgd : o.guard = none) (f : Nat → Value)
    (hrun : (execOp a.eval o).run P W = .ok (.value (f W.heap.size)) (W.alloc (.cells cs t (0, 0))))
    (h : ∀ g w1, W.heap.size ≤ g → w1.heap[g]? = some (.cells cs t (0, 0)) → Below W.heap.size W w1 → wpList P ops Q rest (a.put (some N) (f g)) w1) : wpList P ops Q (o :: rest) a W :=
  Kd.event_run hgd hrun (by rw [hd]; exact h _ _ (Nat.le_refl _) (blk_new W _) (below_alloc (Below.refl _ _) _))
/-- append in a region that draws, its run known. -/
theorem app_step {N : Option Tmp} {W w1 : World} {v y v1 : Value} (hw : Region.wanted o (yielded ops a.tmps) = true) (hN : o.dst = N) (s x : Operand) (t : TypeId) (ho : o.op = .call { callee := .builtin .append, args := #[s, x], argTypes := #[t, t] }) (hs : a.eval s = v) (hx : a.eval x = y)
    (hrun : (Builtin.append_ #[t, t] o.type #[v, y]).run P W = .ok v1 w1) (h : K (a.put N v1) w1) : if Region.wanted o (yielded ops a.tmps) = true then Oper.wp P o a W K Q else K (a.put N undef) W := by
  rw [if_pos hw]; subst hN
  exact app_oper s x t ho hs hx hrun h
/-- A store into a map in a region that draws. -/
theorem put_step {W w1 : World} {mv kv vv : Value} (hw : Region.wanted o (yielded ops a.tmps) = true) (hN : o.dst = none) (m k v : Operand) (t : TypeId) (ho : o.op = .mapUpdate t m k v) (hm : a.eval m = mv) (hk : a.eval k = kv) (hv : a.eval v = vv)
    (hrun : (Instr.mapUpdate t mv kv vv).run P W = .ok () w1) (h : K a w1) : if Region.wanted o (yielded ops a.tmps) = true then Oper.wp P o a W K Q else K (a.put none undef) W := by
  rw [if_pos hw]
  refine put_oper m k v t ho hm hk hv hrun ?_
  rw [hN]
  exact h
end
theorem blk_news {w : World} {g : Nat} {cs : Array Value} {t : TypeId} (h : w.heap[g]? = some (.cells cs t (0, 0))) : ∀ j u, cs.toList[j]? = some u → w.cell? ((⟨g, 0, none⟩ : Addr).add j) = some u := by
  intro j u hu
  rw [add_plain, blk_cell h j, ← Array.getElem?_toList]
  exact hu
/-- An empty row, not nil, just made. -/
theorem q_fresh (W : World) (base : Nat) (e size : Nat) (hb : base ≤ W.heap.size) : QRow (W.alloc (.cells #[] e)) base e size (.slice (some ⟨W.heap.size, 0, none⟩) 0 0) 0 [] :=
  ⟨by simp, .inl ⟨rfl, some ⟨W.heap.size, 0, none⟩, rfl, fun a ha => by injection ha with ha; subst ha; exact ⟨hb, #[], blk_new W _⟩⟩⟩
theorem byc_cells {w : World} {ad : Addr} {xs : List Int} (h : ByC w (some ad) xs) : ∀ j u, (nums .u8 xs)[j]? = some u → w.cell? (ad.add j) = some u := by
  intro j u hu
  simp only [nums, List.getElem?_map, Option.map_eq_some_iff] at hu
  obtain ⟨x, hx, rfl⟩ := hu
  have hj := (List.getElem?_eq_some_iff.1 hx).1
  obtain ⟨ad', he, hc⟩ := h.2.2 (by omega)
  injection he with he
  subst he
  obtain ⟨c, hl, hp, hcc⟩ := hc j x hx
  have hp' : c = [Value.int .u8 x] := hp
  subst hp'
  have := hcc 0 _ rfl
  simpa [Kd.int, Kd.scalar] using this
theorem nums_one (k : IntKind) (xs : List Int) : ∀ u ∈ nums k xs, u.oneCell' = true := by
  intro u hu
  simp only [nums, List.mem_map] at hu
  obtain ⟨x, _, rfl⟩ := hu
  rfl
/-- An own row of bytes is a slice of bytes. -/
theorem bs_of_q {w : World} {base : Nat} {v : Value} {xs : List Int} (h : QRow w base 5 1 v xs.length (nums .u8 xs)) : Bs w v xs := by
  obtain ⟨A, c, rfl, hc⟩ := q_slice h
  refine ⟨A, c, rfl, hc, ⟨rfl, q_max h, fun hn => ?_⟩, fun a ha => ?_⟩
  · obtain ⟨ad, he, hcc⟩ := q_cells h hn
    refine ⟨ad, he, fun j p hj => ⟨[.int .u8 p], rfl, rfl, fun i u hu => ?_⟩⟩
    have hi : i = 0 := by
      have := (List.getElem?_eq_some_iff.1 hu).1
      simpa using this
    subst hi
    have hu' : Value.int .u8 p = u := by simpa using hu
    subst hu'
    have := hcc j (.int .u8 p) (by simp only [nums, List.getElem?_map, hj, Option.map_some])
    simpa [Kd.int, Kd.scalar] using this
  · obtain ⟨_, cells, hcl⟩ := q_typed h a.block (by subst ha; simp [Value.ownBlock])
    exact ⟨cells, (0, 0), hcl⟩
end Go.Proofs.YtigcpknfcdcllaaLb
