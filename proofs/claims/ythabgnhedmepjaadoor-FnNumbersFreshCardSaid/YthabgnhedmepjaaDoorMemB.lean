/- Words for memory, second part: blocks of a call's own (Good), stores into slices, reading by index. No function of the program occurs here. -/
import Derived.Test.YthabgnhedmepjaaDoorMem
import Derived.Lib.SlicesS
namespace Go.Proofs.YthabgnhedmepjaaDoor
open Go.RowKit

theorem add_off (a : Addr) (n : Nat) : (a.add n).off = a.off + n := by unfold Addr.add; split <;> simp_all

/-- Different blocks, each of them plain cells that nobody froze, or a map. -/
def Plain : Obj → Prop
  | .cells _ _ fr => fr = (0, 0)
  | .map _ _ => True
  | _ => False
def Good (w : World) (F : List Nat) : Prop := F.Nodup ∧ ∀ g ∈ F, ∃ o, w.heap[g]? = some o ∧ Plain o
section
variable {w w' : World} {F G : List Nat}
theorem Good.nil (w : World) : Good w [] := ⟨List.nodup_nil, fun _ h => by cases h⟩
theorem Good.lt (h : Good w F) : ∀ g ∈ F, g < w.heap.size := by
  intro g hg
  obtain ⟨o, hh, hp⟩ := h.2 g hg
  exact (Array.getElem?_eq_some_iff.1 hh).1
theorem Good.mod (h : Good w F) (hm : Mod G w w') (hd : ∀ g ∈ F, g ∉ G) : Good w' F :=
  ⟨h.1, fun g hg => by rw [hm.block g (h.lt g hg) (hd g hg)]; exact h.2 g hg⟩
theorem Good.mod0 (h : Good w F) (hm : Mod [] w w') : Good w' F := h.mod hm (by simp)
theorem Good.frozen (h : Good w F) {a : Addr} (ha : a.block ∈ F) : w.frozen? a = false := by
  obtain ⟨o, hh, hp⟩ := h.2 _ ha
  unfold World.frozen?
  rw [hh]
  cases o <;> simp_all [Plain]
theorem Good.setCell (h : Good w F) (p : Addr) (u : Value) : Good (w.setCell p u) F := by
  refine ⟨h.1, fun g hg => ?_⟩
  obtain ⟨o, hh, hp⟩ := h.2 g hg
  simp only [World.setCell, Array.getElem?_modify]
  split
  · rw [hh]; exact ⟨_, rfl, by cases o <;> first | exact hp | exact hp.elim⟩
  · exact ⟨o, hh, hp⟩
theorem Good.append (h : Good w F) (k : Good w G) (hd : ∀ g ∈ F, g ∉ G) : Good w (F ++ G) :=
  ⟨List.nodup_append.2 ⟨h.1, k.1, fun a ha b hb e => hd a ha (by rw [e]; exact hb)⟩, fun g hg => (List.mem_append.1 hg).elim (h.2 g) (k.2 g)⟩
theorem Good.left (h : Good w (F ++ G)) : Good w F := ⟨(List.nodup_append.1 h.1).1, fun g hg => h.2 g (by simp [hg])⟩
theorem Good.right (h : Good w (F ++ G)) : Good w G := ⟨(List.nodup_append.1 h.1).2.1, fun g hg => h.2 g (by simp [hg])⟩
theorem Good.apart (h : Good w (F ++ G)) : ∀ g ∈ F, g ∉ G := fun g hf hg => (List.nodup_append.1 h.1).2.2 g hf g hg rfl
end

section
variable {α : Type} {e : Rep α} {w w' : World} {F : List Nat} {xs : List α}
theorem SliceHas.form' {v : Value} (h : SliceHas e w F [v] xs) : ∃ a cap, v = .slice a xs.length cap ∧ xs.length ≤ 9223372036854775807 ∧ xs.length ≤ cap := by
  obtain ⟨a, n, cap, rfl, rfl, h2, h3⟩ := h.form
  exact ⟨a, cap, rfl, by unfold maxLen at h3; omega, h2⟩
theorem cellsAt_set {w : World} {ad : Addr} {ces : List Value} (h : CellsAt w ad ces) {i : Nat} (hi : i < ces.length) (u : Value) : CellsAt (w.setCell (ad.add i) u) ad (ces.set i u) := by
  intro j v hv
  have hold := h i _ (List.getElem?_eq_getElem hi)
  by_cases hij : j = i
  · subst hij
    rw [List.getElem?_set_self hi] at hv
    cases hv
    exact World.cell?_setCell_same _ _ _ hold
  · rw [List.getElem?_set_ne (Ne.symm hij)] at hv
    rw [World.cell?_setCell_other _ _ _ _ (fun e => hij (by have := congrArg Addr.off e; simp only [add_off] at this; omega))]
    exact h j v hv
/-- A store into cell j of element k of a slice of one's own. -/
theorem SliceHas.store {a : Option Addr} {n cap k j : Nat} (h : SliceHas e w F [.slice a n cap] xs) (hF : Good w F) (hk : k < n) (hj : j < e.size) (u : Value) (x' : α)
    (upd : ∀ (w : World) (Fk : List Nat) (ck : List Value), e.has w Fk ck (xs[k]'(by rw [h.n]; exact hk)) → e.has w Fk (ck.set j u) x') :
    ∃ ad, a = some ad ∧ ad.block ∈ F ∧ (w.cell? ((ad.add (k * e.size)).add j)).isSome = true ∧ w.frozen? ((ad.add (k * e.size)).add j) = false ∧
      SliceHas e (w.setCell ((ad.add (k * e.size)).add j) u) F [.slice a n cap] (xs.set k x') ∧ Good (w.setCell ((ad.add (k * e.size)).add j) u) F ∧ Mod F w (w.setCell ((ad.add (k * e.size)).add j) u) := by
  have hn := h.n
  obtain ⟨a', n', cap', ces, F', hv, h1, h2, h3, h4, h5⟩ := h
  simp only [List.cons.injEq, Value.slice.injEq, and_true] at hv
  obtain ⟨rfl, rfl, rfl⟩ := hv
  rcases h5 with ⟨rfl, _⟩ | ⟨ad, rfl, rfl, hb, hc⟩
  · omega
  have hkx : k < xs.length := by omega
  obtain ⟨Fa, Fk, Fb, ca, ck, cb, rfl, rfl, hl, ha, hh, hbb⟩ := Rep.all_get h4 (k := k) hkx
  have hcl : ck.length = e.size := e.len hh
  have hi : k * e.size + j < (ca ++ ck ++ cb).length := by simp only [List.length_append]; omega
  have hset : (ca ++ ck ++ cb).set (k * e.size + j) u = ca ++ ck.set j u ++ cb := by
    rw [List.append_assoc, List.set_append_right _ _ (by omega), List.set_append_left _ _ (by omega), ← List.append_assoc]
    congr 3
    omega
  have hcs := cellsAt_set hc hi u
  rw [hset] at hcs
  have hne : ∀ g ∈ Fa ++ Fk ++ Fb, g ≠ ad.block := by
    rintro g hg rfl
    exact (List.nodup_cons.1 hF.1).1 hg
  have hsame : ∀ g ∈ Fa ++ Fk ++ Fb, (w.setCell (ad.add (k * e.size + j)) u).heap[g]? = w.heap[g]? := fun g hg => Below.heap_setCell _ _ _ _ (by rw [add_block]; exact hne g hg)
  refine ⟨ad, rfl, ?_⟩
  rw [add_add']
  refine ⟨by simp, ?_, hF.frozen (by rw [add_block]; simp), ⟨_, _, cap, ca ++ ck.set j u ++ cb, Fa ++ Fk ++ Fb, rfl, by simpa using h1, h2, h3, ?_, .inr ⟨ad, rfl, rfl, ?_, hcs⟩⟩, hF.setCell _ _, ?_⟩
  · rw [hc _ _ (List.getElem?_eq_getElem hi)]; rfl
  · have hxs : xs.set k x' = xs.take k ++ x' :: xs.drop (k + 1) := by rw [List.set_eq_take_append_cons_drop, if_pos hkx]
    rw [hxs, List.append_assoc, List.append_assoc]
    refine Rep.all_append (Rep.all_keep ha (fun g hg => hsame g (by simp [hg]))) ⟨Fk, Fb, ck.set j u, cb, rfl, rfl, upd _ _ _ (e.keep hh (fun g hg => hsame g (by simp [hg]))), Rep.all_keep hbb (fun g hg => hsame g (by simp [hg]))⟩
  · simpa [World.setCell] using hb
  · exact (Mod.refl _ _).setCell (by rw [add_block]; simp) u
end

/-! ### Reading by index, element type by element type -/
section
variable {w w' : World} {F : List Nat} {a : Option Addr} {cap : Nat}
theorem SliceHas.int_at {xs : List Int} (h : SliceHas Rep.int w F [.slice a xs.length cap] xs) {k : Nat} (hk : k < xs.length) :
    ∃ ad, a = some ad ∧ w.cell? (ad.add k) = some (.int .i64 xs[k]) ∧ I64 xs[k] := by
  obtain ⟨ad, Fk, ck, rfl, hb, _, _, hc, rfl, rfl, hi⟩ := SliceHas.get h hk
  have h0 := hc 0 _ rfl
  rw [add_add'] at h0
  exact ⟨ad, rfl, by simpa [Rep.int] using h0, hi⟩
theorem SliceHas.bool_at {xs : List Bool} (h : SliceHas Rep.bool w F [.slice a xs.length cap] xs) {k : Nat} (hk : k < xs.length) :
    ∃ ad, a = some ad ∧ w.cell? (ad.add k) = some (.bool xs[k]) := by
  obtain ⟨ad, Fk, ck, rfl, hb, _, _, hc, rfl, rfl⟩ := SliceHas.get h hk
  have h0 := hc 0 _ rfl
  rw [add_add'] at h0
  exact ⟨ad, rfl, by simpa [Rep.bool] using h0⟩
theorem SliceHas.u8_at {xs : List UInt8} (h : SliceHas Rep.u8 w F [.slice a xs.length cap] xs) {k : Nat} (hk : k < xs.length) :
    ∃ ad, a = some ad ∧ w.cell? (ad.add k) = some (.int .u8 xs[k].toNat) := by
  obtain ⟨ad, Fk, ck, rfl, hb, _, _, hc, rfl, rfl⟩ := SliceHas.get h hk
  have h0 := hc 0 _ rfl
  rw [add_add'] at h0
  exact ⟨ad, rfl, by simpa [Rep.u8] using h0⟩
theorem SliceHas.str_at {xs : List ByteArray} (h : SliceHas Rep.str w F [.slice a xs.length cap] xs) {k : Nat} (hk : k < xs.length) :
    ∃ ad, a = some ad ∧ w.cell? (ad.add k) = some (.string xs[k]) ∧ xs[k].size ≤ maxLen := by
  obtain ⟨ad, Fk, ck, rfl, hb, _, _, hc, rfl, rfl, hi⟩ := SliceHas.get h hk
  have h0 := hc 0 _ rfl
  rw [add_add'] at h0
  exact ⟨ad, rfl, by simpa [Rep.str] using h0, hi⟩
/-- An element that is a slice. -/
theorem SliceHas.slice_at {α : Type} {e : Rep α} {xs : List (List α)} (h : SliceHas e.slice w F [.slice a xs.length cap] xs) {k : Nat} (hk : k < xs.length) :
    ∃ ad u Fk, a = some ad ∧ w.cell? (ad.add k) = some u ∧ SliceHas e w Fk [u] xs[k] ∧ ∀ g ∈ Fk, g ∈ F := by
  obtain ⟨ad, Fk, ck, rfl, hb, hs, _, hc, hh⟩ := SliceHas.get h hk
  obtain ⟨a', n', cap', ces, F', rfl, h1⟩ := hh
  have h0 := hc 0 _ rfl
  rw [add_add'] at h0
  exact ⟨ad, _, Fk, rfl, by simpa [Rep.slice] using h0, ⟨a', n', cap', ces, F', rfl, h1⟩, hs⟩
/-- A store into a slice of ints. -/
theorem SliceHas.int_set {xs : List Int} {n k : Nat} (h : SliceHas Rep.int w F [.slice a n cap] xs) (hF : Good w F) (hk : k < n) {m : Int} (hm : I64 m) :
    ∃ ad, a = some ad ∧ ad.block ∈ F ∧ (w.cell? (ad.add k)).isSome = true ∧ w.frozen? (ad.add k) = false ∧
      SliceHas Rep.int (w.setCell (ad.add k) (.int .i64 m)) F [.slice a n cap] (xs.set k m) ∧ Good (w.setCell (ad.add k) (.int .i64 m)) F ∧ Mod F w (w.setCell (ad.add k) (.int .i64 m)) := by
  have hs := SliceHas.store (j := 0) h hF hk (by decide) (.int .i64 m) m (by
    rintro w Fk ck ⟨rfl, rfl, _⟩
    exact ⟨rfl, rfl, hm⟩)
  simpa [add_add', Rep.int] using hs
end

theorem list_set_take {α : Type} (p : List α) (xs : List α) (k : Nat) (x : α) (hp : p.length = k) (hk : k < xs.length) : (p ++ xs.drop k).set k x = (p ++ [x]) ++ xs.drop (k + 1) := by
  subst hp
  have e := List.drop_eq_getElem_cons hk
  rw [List.set_append_right _ _ (Nat.le_refl _), Nat.sub_self, e, List.set_cons_zero, List.append_assoc]
  rfl
theorem take_eq_succ {α : Type} {xs ys : List α} {k : Nat} (h : xs.take k = ys.take k) (hx : k < xs.length) (hy : k < ys.length) (e : xs[k] = ys[k]) : xs.take (k + 1) = ys.take (k + 1) := by
  rw [List.take_succ_eq_append_getElem hx, List.take_succ_eq_append_getElem hy, h, e]
theorem eq_of_take {α : Type} {xs ys : List α} {k : Nat} (h : xs.take k = ys.take k) (hx : xs.length ≤ k) (hy : ys.length ≤ k) : xs = ys := by
  rwa [List.take_of_length_le hx, List.take_of_length_le hy] at h
theorem ne_of_getElem {α : Type} {xs ys : List α} {k : Nat} (hx : k < xs.length) (hy : k < ys.length) (e : xs[k] ≠ ys[k]) : xs ≠ ys := by
  rintro rfl; exact e rfl
theorem ne_of_len {α : Type} {xs ys : List α} (h : xs.length ≠ ys.length) : xs ≠ ys := by rintro rfl; exact h rfl
theorem ret_int {k : IntKind} {a b : Int} (h : a = b) : Ending.returned (.int k a) = .returned (.int k b) := by rw [h]
theorem ret_bool {a b : Bool} (h : a = b) : Ending.returned (.bool a) = .returned (.bool b) := by rw [h]
theorem ret_true {b : Bool} (h : b = true) : Ending.returned (.bool true) = .returned (.bool b) := by rw [h]
theorem ret_false {b : Bool} (h : b = false) : Ending.returned (.bool false) = .returned (.bool b) := by rw [h]
/-- Whether two data are equal; a word that the walk does not open. -/
def eqB {α : Type} [DecidableEq α] (x y : α) : Bool := decide (x = y)
theorem eqB_t {α : Type} [DecidableEq α] {x y : α} (h : x = y) : eqB x y = true := by simp [eqB, h]
theorem eqB_f {α : Type} [DecidableEq α] {x y : α} (h : x ≠ y) : eqB x y = false := by simp [eqB, h]
theorem eqB_rfl {α : Type} [DecidableEq α] (x : α) : eqB x x = true := eqB_t rfl
theorem eqB_iff {α : Type} [DecidableEq α] {x y : α} : eqB x y = true ↔ x = y := by simp [eqB]
theorem toList_t {x y : ByteArray} (h : x = y) : (x.toList == y.toList) = true := by simp [h]
theorem toList_f {x y : ByteArray} (h : x ≠ y) : (x.toList == y.toList) = false := (Lib.bytes_beq_false_iff _ _).2 h
theorem bneL_f {x y : ByteArray} (h : x = y) : (x.toList != y.toList) = false := by unfold bne; rw [toList_t h]; rfl
theorem bneL_t {x y : ByteArray} (h : x ≠ y) : (x.toList != y.toList) = true := by unfold bne; rw [toList_f h]; rfl
theorem dec_t {p : Prop} [Decidable p] (h : p) : decide p = true := by simp [h]
theorem dec_f {p : Prop} [Decidable p] (h : ¬ p) : decide p = false := by simp [h]

/-! ### Results in new memory -/
/-- What a call hands back in memory of its own: the cells cs are the datum x; its blocks are new, each is met once, none is frozen; what was there is as it was. -/
def Fresh {α : Type} (e : Rep α) (w w' : World) (cs : List Value) (x : α) : Prop := ∃ F, e.has w' F cs x ∧ Good w' F ∧ (∀ g ∈ F, w.heap.size ≤ g) ∧ Mod [] w w'
section
variable {α : Type} {e : Rep α} {w : World} {F : List Nat} {xs : List α}
theorem Good.cons (h : Good w F) (arr : Array Value) (t : TypeId) : Good (w.alloc (.cells arr t)) (w.heap.size :: F) := by
  refine ⟨List.nodup_cons.2 ⟨fun hg => Nat.lt_irrefl _ (h.lt _ hg), h.1⟩, fun g hg => ?_⟩
  rcases List.mem_cons.1 hg with rfl | hg
  · exact ⟨_, heap_alloc_new w _, rfl⟩
  · obtain ⟨o', hh, hp⟩ := h.2 g hg
    exact ⟨o', by rw [Below.heap_alloc _ _ _ (h.lt g hg)]; exact hh, hp⟩
theorem Mod.alloc0 (w : World) (o : Obj) : Mod [] w (w.alloc o) := (Mod.refl _ _).alloc o
theorem SliceHas.lit {arr : Array Value} {t : TypeId} {n : Nat} (h : e.all w F arr.toList xs) (hn : xs.length = n) (hm : n ≤ maxLen) :
    SliceHas e (w.alloc (.cells arr t)) (w.heap.size :: F) [.slice (some ⟨w.heap.size, 0, none⟩) n n] xs := by
  refine ⟨_, n, n, arr.toList, F, rfl, hn, Nat.le_refl _, hm, Rep.all_keep h (fun g hg => Below.heap_alloc _ _ _ (Rep.all_lt h g hg)), .inr ⟨_, rfl, rfl, by simp, fun j u hu => ?_⟩⟩
  rw [Addr.add_lit, Nat.zero_add, cell_of_row _ _ _ arr t (0, 0) (heap_alloc_new w _)]
  simpa using hu
theorem Fresh.lit {arr : Array Value} {t : TypeId} {n : Nat} (h : e.all w [] arr.toList xs) (hn : xs.length = n) (hm : n ≤ maxLen) :
    Fresh e.slice w (w.alloc (.cells arr t)) [.slice (some ⟨w.heap.size, 0, none⟩) n n] xs :=
  ⟨[w.heap.size], SliceHas.lit h hn hm, (Good.nil w).cons arr t, by simp, Mod.alloc0 _ _⟩
theorem Fresh.nil (w : World) : Fresh e.slice w w [.slice none 0 0] [] := ⟨[], SliceHas.nil w, Good.nil w, by simp, Mod.refl _ _⟩
theorem all_ints (w : World) : ∀ l : List Int, (∀ n ∈ l, I64 n) → Rep.int.all w [] (l.map (Value.int .i64)) l
  | [], _ => ⟨rfl, rfl⟩
  | n :: l, h => ⟨[], [], [.int .i64 n], _, rfl, rfl, ⟨rfl, rfl, h n (by simp)⟩, all_ints w l (fun m hm => h m (by simp [hm]))⟩
end

end Go.Proofs.YthabgnhedmepjaaDoor
