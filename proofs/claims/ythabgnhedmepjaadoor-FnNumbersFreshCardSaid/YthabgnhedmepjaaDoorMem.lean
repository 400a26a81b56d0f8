/- Words for memory: data of any shape that lie in memory (Rep), slices of them, what a call leaves alone (Mod), and slices that a call builds (Bld). No function of the program occurs here. -/
import Derived.WalkKit
import Derived.WalkSpells
import Derived.WalkLawsBesides
import Derived.Maps.AppendAt
import Derived.Deep.AppendLies
import Derived.Lib.Hide
namespace Go.Proofs.YthabgnhedmepjaaDoor
open Go.RowKit

/-! ### What a call leaves alone -/
/-- All blocks that were there, but for those of F, are as they were. -/
structure Mod (F : List Nat) (w w' : World) : Prop where
  os : w'.os = w.os
  tape : w'.tape = w.tape
  output : w'.output = w.output
  size : w.heap.size ≤ w'.heap.size
  block : ∀ g, g < w.heap.size → g ∉ F → w'.heap[g]? = w.heap[g]?

section
variable {F G : List Nat} {w w' w'' : World}
theorem Mod.refl (F : List Nat) (w : World) : Mod F w w := ⟨rfl, rfl, rfl, Nat.le_refl _, fun _ _ _ => rfl⟩
theorem Mod.below (h : Mod [] w w') : Below w.heap.size w w' := ⟨h.os, h.tape, h.output, h.size, fun g hg => h.block g hg (by simp)⟩
theorem Mod.of_below (h : Below w.heap.size w w') (F : List Nat) : Mod F w w' := ⟨h.os, h.tape, h.output, h.size, fun g hg _ => h.block g hg⟩
theorem Mod.trans (h : Mod F w w') (k : Mod G w' w'') : Mod (F ++ G) w w'' :=
  ⟨k.os.trans h.os, k.tape.trans h.tape, k.output.trans h.output, Nat.le_trans h.size k.size, fun g hg hn => by
    rw [List.mem_append, not_or] at hn
    exact (k.block g (Nat.lt_of_lt_of_le hg h.size) hn.2).trans (h.block g hg hn.1)⟩
theorem Mod.mono (h : Mod F w w') (hs : ∀ g ∈ F, g < w.heap.size → g ∈ G) : Mod G w w' :=
  ⟨h.os, h.tape, h.output, h.size, fun g hg hn => h.block g hg (fun hf => hn (hs g hf hg))⟩
theorem Mod.seq (h : Mod F w w') (k : Mod F w' w'') : Mod F w w'' := (h.trans k).mono (by intro g hg _; simpa using hg)
theorem Mod.drop (h : Mod F w w') (hs : ∀ g ∈ F, w.heap.size ≤ g) : Mod [] w w' := h.mono (fun g hg hl => absurd hl (by have := hs g hg; omega))
theorem Mod.drew (h : Mod F w w') : Mod F w w'.drew := ⟨h.os, h.tape, h.output, h.size, h.block⟩
theorem Mod.drewN (h : Mod F w w') (n : Nat) : Mod F w (w'.drewN n) := ⟨h.os, h.tape, h.output, h.size, h.block⟩
theorem Mod.alloc (h : Mod F w w') (o : Obj) : Mod F w (w'.alloc o) :=
  ⟨h.os, h.tape, h.output, Nat.le_trans h.size (by simp), fun g hg hn => (Below.heap_alloc w' o g (Nat.lt_of_lt_of_le hg h.size)).trans (h.block g hg hn)⟩
theorem Mod.grown {r : Option Nat} (h : Mod F w w') (hg : w'.grownBy w'' r) (hr : ∀ g, r = some g → g < w.heap.size → g ∈ F) : Mod F w w'' :=
  ⟨hg.os.trans h.os, hg.tape.trans h.tape, hg.output.trans h.output, Nat.le_trans h.size hg.size, fun g hl hn =>
    (hg.block g (Nat.lt_of_lt_of_le hl h.size) (fun e => hn (hr g e.symm hl))).trans (h.block g hl hn)⟩
theorem Mod.setCell (h : Mod F w w') {p : Addr} (hp : p.block < w.heap.size → p.block ∈ F) (u : Value) : Mod F w (w'.setCell p u) :=
  ⟨h.os, h.tape, h.output, by simpa [World.setCell] using h.size, fun g hg hn => (Below.heap_setCell w' p u g (by rintro rfl; exact hn (hp hg))).trans (h.block g hg hn)⟩
theorem Mod.cell (h : Mod F w w') {p : Addr} (hp : p.block < w.heap.size) (hn : p.block ∉ F) : w'.cell? p = w.cell? p := World.cell?_of_block (h.block _ hp hn)
end

/-! ### Data in memory -/
theorem add_block (a : Addr) (n : Nat) : (a.add n).block = a.block := by unfold Addr.add; split <;> rfl
theorem add_add' (a : Addr) (i j : Nat) : (a.add i).add j = a.add (i + j) := by
  unfold Addr.add
  by_cases hi : i = 0 <;> by_cases hj : j = 0 <;> simp [hi, hj, Nat.add_assoc]
/-- The cells from an address on. -/
def CellsAt (w : World) (ad : Addr) (cs : List Value) : Prop := ∀ j u, cs[j]? = some u → w.cell? (ad.add j) = some u
theorem CellsAt.keep {w w' : World} {ad : Addr} {cs : List Value} (h : CellsAt w ad cs) (hk : w'.heap[ad.block]? = w.heap[ad.block]?) : CellsAt w' ad cs :=
  fun j u hu => (World.cell?_of_block (a := ad.add j) (by rw [add_block]; exact hk)).trans (h j u hu)

/-- Data of one Lean type in cells: 'has w F cs x': the cells cs, in the world w, are the datum x; the blocks that a reading passes through are F, one entry for each time. -/
structure Rep (α : Type) where
  size : Nat
  has : World → List Nat → List Value → α → Prop
  len : ∀ {w F cs x}, has w F cs x → cs.length = size
  keep : ∀ {w w' F cs x}, has w F cs x → (∀ g ∈ F, w'.heap[g]? = w.heap[g]?) → has w' F cs x
  lt : ∀ {w F cs x}, has w F cs x → ∀ g ∈ F, g < w.heap.size
  one : ∀ {w F cs x}, has w F cs x → ∀ u ∈ cs, u.oneCell' = true

def I64 (n : Int) : Prop := -9223372036854775808 ≤ n ∧ n ≤ 9223372036854775807

def Rep.int : Rep Int where
  size := 1
  has _ F cs n := F = [] ∧ cs = [.int .i64 n] ∧ I64 n
  len h := by rw [h.2.1]; rfl
  keep h _ := h
  lt h := by rw [h.1]; simp
  one h := by rw [h.2.1]; simp [Value.oneCell']
def Rep.bool : Rep Bool where
  size := 1
  has _ F cs b := F = [] ∧ cs = [.bool b]
  len h := by rw [h.2]; rfl
  keep h _ := h
  lt h := by rw [h.1]; simp
  one h := by rw [h.2]; simp [Value.oneCell']
def Rep.str : Rep ByteArray where
  size := 1
  has _ F cs s := F = [] ∧ cs = [.string s] ∧ s.size ≤ maxLen
  len h := by rw [h.2.1]; rfl
  keep h _ := h
  lt h := by rw [h.1]; simp
  one h := by rw [h.2.1]; simp [Value.oneCell']
def Rep.u8 : Rep UInt8 where
  size := 1
  has _ F cs b := F = [] ∧ cs = [.int .u8 b.toNat]
  len h := by rw [h.2]; rfl
  keep h _ := h
  lt h := by rw [h.1]; simp
  one h := by rw [h.2]; simp [Value.oneCell']
/-- Two data, one behind the other. -/
def Rep.pair {α β : Type} (a : Rep α) (b : Rep β) : Rep (α × β) where
  size := a.size + b.size
  has w F cs x := ∃ F1 F2 c1 c2, F = F1 ++ F2 ∧ cs = c1 ++ c2 ∧ a.has w F1 c1 x.1 ∧ b.has w F2 c2 x.2
  len := by
    rintro w F cs x ⟨F1, F2, c1, c2, rfl, rfl, h1, h2⟩
    rw [List.length_append, a.len h1, b.len h2]
  keep := by
    rintro w w' F cs x ⟨F1, F2, c1, c2, rfl, rfl, h1, h2⟩ hk
    exact ⟨F1, F2, c1, c2, rfl, rfl, a.keep h1 (fun g hg => hk g (by simp [hg])), b.keep h2 (fun g hg => hk g (by simp [hg]))⟩
  lt := by
    rintro w F cs x ⟨F1, F2, c1, c2, rfl, rfl, h1, h2⟩ g hg
    rcases List.mem_append.1 hg with h | h
    · exact a.lt h1 g h
    · exact b.lt h2 g h
  one := by
    rintro w F cs x ⟨F1, F2, c1, c2, rfl, rfl, h1, h2⟩ g hg
    rcases List.mem_append.1 hg with h | h
    · exact a.one h1 g h
    · exact b.one h2 g h
/-- The same cells, read as another type. -/
def Rep.via {α β : Type} (a : Rep α) (f : β → α) : Rep β where
  size := a.size
  has w F cs x := a.has w F cs (f x)
  len h := a.len h
  keep h := a.keep h
  lt h := a.lt h
  one h := a.one h

section
variable {α : Type} (e : Rep α)
/-- Many data, one behind the other. -/
def Rep.all (w : World) : List Nat → List Value → List α → Prop
  | F, cs, [] => F = [] ∧ cs = []
  | F, cs, x :: xs => ∃ F1 F2 c1 c2, F = F1 ++ F2 ∧ cs = c1 ++ c2 ∧ e.has w F1 c1 x ∧ Rep.all w F2 c2 xs

variable {e} {w w' : World}
theorem Rep.all_len : ∀ {xs : List α} {F cs}, e.all w F cs xs → cs.length = xs.length * e.size
  | [], _, _, h => by rw [h.2]; simp
  | x :: xs, _, _, h => by
    obtain ⟨F1, F2, c1, c2, rfl, rfl, h1, h2⟩ := h
    rw [List.length_append, e.len h1, Rep.all_len h2, List.length_cons, Nat.add_mul]; omega
theorem Rep.all_keep : ∀ {xs : List α} {F cs}, e.all w F cs xs → (∀ g ∈ F, w'.heap[g]? = w.heap[g]?) → e.all w' F cs xs
  | [], _, _, h, _ => h
  | x :: xs, _, _, h, hk => by
    obtain ⟨F1, F2, c1, c2, rfl, rfl, h1, h2⟩ := h
    exact ⟨F1, F2, c1, c2, rfl, rfl, e.keep h1 (fun g hg => hk g (by simp [hg])), Rep.all_keep h2 (fun g hg => hk g (by simp [hg]))⟩
theorem Rep.all_lt : ∀ {xs : List α} {F cs}, e.all w F cs xs → ∀ g ∈ F, g < w.heap.size
  | [], _, _, h, _, hg => by rw [h.1] at hg; cases hg
  | x :: xs, _, _, h, g, hg => by
    obtain ⟨F1, F2, c1, c2, rfl, rfl, h1, h2⟩ := h
    rcases List.mem_append.1 hg with h | h
    · exact e.lt h1 g h
    · exact Rep.all_lt h2 g h
theorem Rep.all_one : ∀ {xs : List α} {F cs}, e.all w F cs xs → ∀ u ∈ cs, u.oneCell' = true
  | [], _, _, h, _, hg => by rw [h.2] at hg; cases hg
  | x :: xs, _, _, h, g, hg => by
    obtain ⟨F1, F2, c1, c2, rfl, rfl, h1, h2⟩ := h
    rcases List.mem_append.1 hg with h | h
    · exact e.one h1 g h
    · exact Rep.all_one h2 g h
theorem Rep.all_append : ∀ {xs ys : List α} {F G cs ds}, e.all w F cs xs → e.all w G ds ys → e.all w (F ++ G) (cs ++ ds) (xs ++ ys)
  | [], _, _, _, _, _, h, k => by rw [h.1, h.2]; exact k
  | x :: xs, ys, _, G, _, ds, h, k => by
    obtain ⟨F1, F2, c1, c2, rfl, rfl, h1, h2⟩ := h
    exact ⟨F1, F2 ++ G, c1, c2 ++ ds, by simp, by simp, h1, Rep.all_append h2 k⟩
theorem Rep.all_one' {x : α} {F cs} (h : e.has w F cs x) : e.all w F cs [x] := ⟨F, [], cs, [], by simp, by simp, h, rfl, rfl⟩
theorem Rep.all_split : ∀ {xs ys : List α} {F cs}, e.all w F cs (xs ++ ys) → ∃ F1 F2 c1 c2, F = F1 ++ F2 ∧ cs = c1 ++ c2 ∧ e.all w F1 c1 xs ∧ e.all w F2 c2 ys
  | [], ys, F, cs, h => ⟨[], F, [], cs, rfl, rfl, ⟨rfl, rfl⟩, h⟩
  | x :: xs, ys, _, _, h => by
    obtain ⟨F1, F2, c1, c2, rfl, rfl, h1, h2⟩ := h
    obtain ⟨G1, G2, d1, d2, rfl, rfl, k1, k2⟩ := Rep.all_split h2
    exact ⟨F1 ++ G1, G2, c1 ++ d1, d2, by simp, by simp, ⟨F1, G1, c1, d1, rfl, rfl, h1, k1⟩, k2⟩
/-- Datum k, out of many. -/
theorem Rep.all_get {xs : List α} {F cs} (h : e.all w F cs xs) {k : Nat} (hk : k < xs.length) :
    ∃ Fa Fk Fb ca ck cb, F = Fa ++ Fk ++ Fb ∧ cs = ca ++ ck ++ cb ∧ ca.length = k * e.size ∧ e.all w Fa ca (xs.take k) ∧ e.has w Fk ck xs[k] ∧ e.all w Fb cb (xs.drop (k + 1)) := by
  have hx : xs = xs.take k ++ (xs[k] :: xs.drop (k + 1)) := by rw [← List.drop_eq_getElem_cons hk, List.take_append_drop]
  rw [hx] at h
  obtain ⟨F1, F2, c1, c2, rfl, rfl, h1, F3, F4, c3, c4, rfl, rfl, h3, h4⟩ := Rep.all_split h
  refine ⟨F1, F3, F4, c1, c3, c4, by simp, by simp, ?_, h1, h3, h4⟩
  rw [Rep.all_len h1, List.length_take, Nat.min_eq_left (Nat.le_of_lt hk)]
end

/-! ### Slices -/
/-- A slice value that reads as a list. -/
def SliceHas {α : Type} (e : Rep α) (w : World) (F : List Nat) (cs : List Value) (xs : List α) : Prop :=
  ∃ a n cap ces F', cs = [.slice a n cap] ∧ xs.length = n ∧ n ≤ cap ∧ cap ≤ maxLen ∧ e.all w F' ces xs ∧
    ((n = 0 ∧ F = []) ∨ ∃ ad, a = some ad ∧ F = ad.block :: F' ∧ ad.block < w.heap.size ∧ CellsAt w ad ces)
def Rep.slice {α : Type} (e : Rep α) : Rep (List α) where
  size := 1
  has := SliceHas e
  len := by
    rintro w F cs x ⟨a, n, cap, ces, F', rfl, _⟩
    rfl
  keep := by
    rintro w w' F cs x ⟨a, n, cap, ces, F', rfl, h1, h2, h3, h4, h5⟩ hk
    rcases h5 with ⟨rfl, rfl⟩ | ⟨ad, rfl, rfl, hb, hc⟩
    · refine ⟨a, 0, cap, ces, F', rfl, h1, h2, h3, ?_, .inl ⟨rfl, rfl⟩⟩
      have hx : x = [] := List.eq_nil_of_length_eq_zero h1
      subst hx
      exact h4
    · refine ⟨_, n, cap, ces, F', rfl, h1, h2, h3, Rep.all_keep h4 (fun g hg => hk g (by simp [hg])), .inr ⟨ad, rfl, rfl, ?_, hc.keep (hk _ (by simp))⟩⟩
      have h0 := hk ad.block (by simp)
      rcases Nat.lt_or_ge ad.block w'.heap.size with h | h
      · exact h
      · rw [Array.getElem?_eq_none h, Array.getElem?_eq_getElem hb] at h0; cases h0
  lt := by
    rintro w F cs x ⟨a, n, cap, ces, F', rfl, h1, h2, h3, h4, h5⟩ g hg
    rcases h5 with ⟨rfl, rfl⟩ | ⟨ad, rfl, rfl, hb, hc⟩
    · cases hg
    · rcases List.mem_cons.1 hg with rfl | h
      · exact hb
      · exact Rep.all_lt h4 g h
  one := by
    rintro w F cs x ⟨a, n, cap, ces, F', rfl, _⟩ u hu
    simp at hu
    subst hu
    rfl

section
variable {α : Type} {e : Rep α} {w w' : World} {F : List Nat} {xs : List α}
theorem SliceHas.form {v : Value} (h : SliceHas e w F [v] xs) : ∃ a n cap, v = .slice a n cap ∧ xs.length = n ∧ n ≤ cap ∧ cap ≤ maxLen := by
  obtain ⟨a, n, cap, ces, F', hv, h1, h2, h3, _⟩ := h
  exact ⟨a, n, cap, by simpa using hv, h1, h2, h3⟩
theorem SliceHas.nil (w : World) : SliceHas e w [] [.slice none 0 0] [] := ⟨none, 0, 0, [], [], rfl, rfl, Nat.le_refl _, Nat.zero_le _, ⟨rfl, rfl⟩, .inl ⟨rfl, rfl⟩⟩
theorem SliceHas.n {a : Option Addr} {n cap : Nat} (h : SliceHas e w F [.slice a n cap] xs) : xs.length = n := by
  obtain ⟨a', n', cap', ces, F', hv, h1, _⟩ := h
  simp only [List.cons.injEq, Value.slice.injEq, and_true] at hv
  rw [h1, ← hv.2.1]
/-- Element k: its address, its cells, its datum. -/
theorem SliceHas.get {a : Option Addr} {n cap : Nat} (h : SliceHas e w F [.slice a n cap] xs) {k : Nat} (hk : k < n) :
    ∃ ad Fk ck, a = some ad ∧ ad.block < w.heap.size ∧ (∀ g ∈ Fk, g ∈ F) ∧ ad.block ∈ F ∧ CellsAt w (ad.add (k * e.size)) ck ∧ e.has w Fk ck (xs[k]'(by rw [h.n]; exact hk)) := by
  have hn := h.n
  obtain ⟨a', n', cap', ces, F', hv, h1, h2, h3, h4, h5⟩ := h
  simp only [List.cons.injEq, Value.slice.injEq, and_true] at hv
  obtain ⟨rfl, rfl, rfl⟩ := hv
  rcases h5 with ⟨rfl, _⟩ | ⟨ad, rfl, rfl, hb, hc⟩
  · omega
  obtain ⟨Fa, Fk, Fb, ca, ck, cb, rfl, rfl, hl, _, hh, _⟩ := Rep.all_get h4 (k := k) (by omega)
  refine ⟨ad, Fk, ck, rfl, hb, fun g hg => by simp [hg], by simp, fun j u hu => ?_, hh⟩
  rw [add_add']
  refine hc _ u ?_
  rw [← hl, List.append_assoc, List.getElem?_append_right (by omega), Nat.add_sub_cancel_left]
  have hj : j < ck.length := (List.getElem?_eq_some_iff.1 hu).1
  rw [List.getElem?_append_left hj]
  exact hu
end

/-- The data of a struct value, in a slot. -/
def StructHas {α : Type} (e : Rep α) (w : World) (F : List Nat) (v : Value) (x : α) : Prop := ∃ cs : List Value, v = .agg cs.toArray ∧ e.has w F cs x

/-- What is read below a call stays. -/
theorem Rep.mod {α : Type} (e : Rep α) {w w' : World} {F G : List Nat} {cs : List Value} {x : α} (h : e.has w F cs x) (hm : Mod G w w') (hd : ∀ g ∈ F, g ∉ G) : e.has w' F cs x :=
  e.keep h (fun g hg => hm.block g (e.lt h g hg) (hd g hg))
theorem Rep.mod0 {α : Type} (e : Rep α) {w w' : World} {F : List Nat} {cs : List Value} {x : α} (h : e.has w F cs x) (hm : Mod [] w w') : e.has w' F cs x :=
  e.mod h hm (by simp)

end Go.Proofs.YthabgnhedmepjaaDoor
