/- Words for memory: data of any shape that lie in memory (Rep), slices of them, what a call leaves alone (Mod), and slices that a call builds (Bld). No function of the program occurs here. -/
import Derived.WalkKit
import Derived.WalkSpells
import Derived.WalkLawsBesides
import Derived.Maps.AppendAt
import Derived.Deep.AppendLies
import Derived.Lib.Hide
import Derived.Lib.SlicesS
import Derived.Deep.QuietTactic
import Derived.BigQuiet
import Derived.Test.YtnbaekjednmfjaaDoorRows
section
namespace Go.Proofs.YtnbaekjednmfjaaDoor
open Go.RowKit

/-! ### What a call leaves alone -/
/-- All blocks that were there, but for those of F, are as they were. -/
structure Mod (F : List Nat) (w w' : World) : Prop where
  os : w'.os = w.os
  tape : w'.tape = w.tape
  output : w'.output = w.output
  size : w.heap.size ≤ w'.heap.size
  block : ∀ g, g < w.heap.size → g ∉ F → w'.heap[g]? = w.heap[g]?

section
variable {F G : List Nat} {w w' w'' : World}
theorem Mod.refl (F : List Nat) (w : World) : Mod F w w := ⟨rfl, rfl, rfl, Nat.le_refl _, fun _ _ _ => rfl⟩
theorem Mod.below (h : Mod [] w w') : Below w.heap.size w w' := ⟨h.os, h.tape, h.output, h.size, fun g hg => h.block g hg (by simp)⟩
theorem Mod.of_below (h : Below w.heap.size w w') (F : List Nat) : Mod F w w' := ⟨h.os, h.tape, h.output, h.size, fun g hg _ => h.block g hg⟩
theorem Mod.trans (h : Mod F w w') (k : Mod G w' w'') : Mod (F ++ G) w w'' :=
  ⟨k.os.trans h.os, k.tape.trans h.tape, k.output.trans h.output, Nat.le_trans h.size k.size, fun g hg hn => by
    rw [List.mem_append, not_or] at hn
    exact (k.block g (Nat.lt_of_lt_of_le hg h.size) hn.2).trans (h.block g hg hn.1)⟩
theorem Mod.mono (h : Mod F w w') (hs : ∀ g ∈ F, g < w.heap.size → g ∈ G) : Mod G w w' :=
  ⟨h.os, h.tape, h.output, h.size, fun g hg hn => h.block g hg (fun hf => hn (hs g hf hg))⟩
theorem Mod.seq (h : Mod F w w') (k : Mod F w' w'') : Mod F w w'' := (h.trans k).mono (by intro g hg _; simpa using hg)
theorem Mod.drop (h : Mod F w w') (hs : ∀ g ∈ F, w.heap.size ≤ g) : Mod [] w w' := h.mono (fun g hg hl => absurd hl (by have := hs g hg; omega))
theorem Mod.drew (h : Mod F w w') : Mod F w w'.drew := ⟨h.os, h.tape, h.output, h.size, h.block⟩
theorem Mod.drewN (h : Mod F w w') (n : Nat) : Mod F w (w'.drewN n) := ⟨h.os, h.tape, h.output, h.size, h.block⟩
theorem Mod.alloc (h : Mod F w w') (o : Obj) : Mod F w (w'.alloc o) :=
  ⟨h.os, h.tape, h.output, Nat.le_trans h.size (by simp), fun g hg hn => (Below.heap_alloc w' o g (Nat.lt_of_lt_of_le hg h.size)).trans (h.block g hg hn)⟩
theorem Mod.grown {r : Option Nat} (h : Mod F w w') (hg : w'.grownBy w'' r) (hr : ∀ g, r = some g → g < w.heap.size → g ∈ F) : Mod F w w'' :=
  ⟨hg.os.trans h.os, hg.tape.trans h.tape, hg.output.trans h.output, Nat.le_trans h.size hg.size, fun g hl hn =>
    (hg.block g (Nat.lt_of_lt_of_le hl h.size) (fun e => hn (hr g e.symm hl))).trans (h.block g hl hn)⟩
theorem Mod.setCell (h : Mod F w w') {p : Addr} (hp : p.block < w.heap.size → p.block ∈ F) (u : Value) : Mod F w (w'.setCell p u) :=
  ⟨h.os, h.tape, h.output, by simpa [World.setCell] using h.size, fun g hg hn => (Below.heap_setCell w' p u g (by rintro rfl; exact hn (hp hg))).trans (h.block g hg hn)⟩
theorem Mod.cell (h : Mod F w w') {p : Addr} (hp : p.block < w.heap.size) (hn : p.block ∉ F) : w'.cell? p = w.cell? p := World.cell?_of_block (h.block _ hp hn)
end

/-! ### Data in memory -/
theorem add_block (a : Addr) (n : Nat) : (a.add n).block = a.block := by unfold Addr.add; split <;> rfl
theorem add_add' (a : Addr) (i j : Nat) : (a.add i).add j = a.add (i + j) := by
  unfold Addr.add
  by_cases hi : i = 0 <;> by_cases hj : j = 0 <;> simp [hi, hj, Nat.add_assoc]
/-- The cells from an address on. -/
def CellsAt (w : World) (ad : Addr) (cs : List Value) : Prop := ∀ j u, cs[j]? = some u → w.cell? (ad.add j) = some u
theorem CellsAt.keep {w w' : World} {ad : Addr} {cs : List Value} (h : CellsAt w ad cs) (hk : w'.heap[ad.block]? = w.heap[ad.block]?) : CellsAt w' ad cs :=
  fun j u hu => (World.cell?_of_block (a := ad.add j) (by rw [add_block]; exact hk)).trans (h j u hu)

/-- Data of one Lean type in cells: 'has w F cs x': the cells cs, in the world w, are the datum x; the blocks that a reading passes through are F, one entry for each time. -/
structure Rep (α : Type) where
  size : Nat
  has : World → List Nat → List Value → α → Prop
  len : ∀ {w F cs x}, has w F cs x → cs.length = size
  keep : ∀ {w w' F cs x}, has w F cs x → (∀ g ∈ F, w'.heap[g]? = w.heap[g]?) → has w' F cs x
  lt : ∀ {w F cs x}, has w F cs x → ∀ g ∈ F, g < w.heap.size
  one : ∀ {w F cs x}, has w F cs x → ∀ u ∈ cs, u.oneCell' = true

def I64 (n : Int) : Prop := -9223372036854775808 ≤ n ∧ n ≤ 9223372036854775807

def Rep.int : Rep Int where
  size := 1
  has _ F cs n := F = [] ∧ cs = [.int .i64 n] ∧ I64 n
  len h := by rw [h.2.1]; rfl
  keep h _ := h
  lt h := by rw [h.1]; simp
  one h := by rw [h.2.1]; simp [Value.oneCell']
def Rep.bool : Rep Bool where
  size := 1
  has _ F cs b := F = [] ∧ cs = [.bool b]
  len h := by rw [h.2]; rfl
  keep h _ := h
  lt h := by rw [h.1]; simp
  one h := by rw [h.2]; simp [Value.oneCell']
def Rep.str : Rep ByteArray where
  size := 1
  has _ F cs s := F = [] ∧ cs = [.string s] ∧ s.size ≤ maxLen
  len h := by rw [h.2.1]; rfl
  keep h _ := h
  lt h := by rw [h.1]; simp
  one h := by rw [h.2.1]; simp [Value.oneCell']
def Rep.u8 : Rep UInt8 where
  size := 1
  has _ F cs b := F = [] ∧ cs = [.int .u8 b.toNat]
  len h := by rw [h.2]; rfl
  keep h _ := h
  lt h := by rw [h.1]; simp
  one h := by rw [h.2]; simp [Value.oneCell']
/-- Two data, one behind the other. -/
def Rep.pair {α β : Type} (a : Rep α) (b : Rep β) : Rep (α × β) where
  size := a.size + b.size
  has w F cs x := ∃ F1 F2 c1 c2, F = F1 ++ F2 ∧ cs = c1 ++ c2 ∧ a.has w F1 c1 x.1 ∧ b.has w F2 c2 x.2
  len := by
    rintro w F cs x ⟨F1, F2, c1, c2, rfl, rfl, h1, h2⟩
    rw [List.length_append, a.len h1, b.len h2]
  keep := by
    rintro w w' F cs x ⟨F1, F2, c1, c2, rfl, rfl, h1, h2⟩ hk
    exact ⟨F1, F2, c1, c2, rfl, rfl, a.keep h1 (fun g hg => hk g (by simp [hg])), b.keep h2 (fun g hg => hk g (by simp [hg]))⟩
  lt := by
    rintro w F cs x ⟨F1, F2, c1, c2, rfl, rfl, h1, h2⟩ g hg
    rcases List.mem_append.1 hg with h | h
    · exact a.lt h1 g h
    · exact b.lt h2 g h
  one := by
    rintro w F cs x ⟨F1, F2, c1, c2, rfl, rfl, h1, h2⟩ g hg
    rcases List.mem_append.1 hg with h | h
    · exact a.one h1 g h
    · exact b.one h2 g h
/-- The same cells, read as another type. -/
def Rep.via {α β : Type} (a : Rep α) (f : β → α) : Rep β where
  size := a.size
  has w F cs x := a.has w F cs (f x)
  len h := a.len h
  keep h := a.keep h
  lt h := a.lt h
  one h := a.one h

section
variable {α : Type} (e : Rep α)
/-- Many data, one behind the other. -/
def Rep.all (w : World) : List Nat → List Value → List α → Prop
  | F, cs, [] => F = [] ∧ cs = []
  | F, cs, x :: xs => ∃ F1 F2 c1 c2, F = F1 ++ F2 ∧ cs = c1 ++ c2 ∧ e.has w F1 c1 x ∧ Rep.all w F2 c2 xs

variable {e} {w w' : World}
theorem Rep.all_len : ∀ {xs : List α} {F cs}, e.all w F cs xs → cs.length = xs.length * e.size
  | [], _, _, h => by rw [h.2]; simp
  | x :: xs, _, _, h => by
    obtain ⟨F1, F2, c1, c2, rfl, rfl, h1, h2⟩ := h
    rw [List.length_append, e.len h1, Rep.all_len h2, List.length_cons, Nat.add_mul]; omega
theorem Rep.all_keep : ∀ {xs : List α} {F cs}, e.all w F cs xs → (∀ g ∈ F, w'.heap[g]? = w.heap[g]?) → e.all w' F cs xs
  | [], _, _, h, _ => h
  | x :: xs, _, _, h, hk => by
    obtain ⟨F1, F2, c1, c2, rfl, rfl, h1, h2⟩ := h
    exact ⟨F1, F2, c1, c2, rfl, rfl, e.keep h1 (fun g hg => hk g (by simp [hg])), Rep.all_keep h2 (fun g hg => hk g (by simp [hg]))⟩
theorem Rep.all_lt : ∀ {xs : List α} {F cs}, e.all w F cs xs → ∀ g ∈ F, g < w.heap.size
  | [], _, _, h, _, hg => by rw [h.1] at hg; cases hg
  | x :: xs, _, _, h, g, hg => by
    obtain ⟨F1, F2, c1, c2, rfl, rfl, h1, h2⟩ := h
    rcases List.mem_append.1 hg with h | h
    · exact e.lt h1 g h
    · exact Rep.all_lt h2 g h
theorem Rep.all_one : ∀ {xs : List α} {F cs}, e.all w F cs xs → ∀ u ∈ cs, u.oneCell' = true
  | [], _, _, h, _, hg => by rw [h.2] at hg; cases hg
  | x :: xs, _, _, h, g, hg => by
    obtain ⟨F1, F2, c1, c2, rfl, rfl, h1, h2⟩ := h
    rcases List.mem_append.1 hg with h | h
    · exact e.one h1 g h
    · exact Rep.all_one h2 g h
theorem Rep.all_append : ∀ {xs ys : List α} {F G cs ds}, e.all w F cs xs → e.all w G ds ys → e.all w (F ++ G) (cs ++ ds) (xs ++ ys)
  | [], _, _, _, _, _, h, k => by rw [h.1, h.2]; exact k
  | x :: xs, ys, _, G, _, ds, h, k => by
    obtain ⟨F1, F2, c1, c2, rfl, rfl, h1, h2⟩ := h
    exact ⟨F1, F2 ++ G, c1, c2 ++ ds, by simp, by simp, h1, Rep.all_append h2 k⟩
theorem Rep.all_one' {x : α} {F cs} (h : e.has w F cs x) : e.all w F cs [x] := ⟨F, [], cs, [], by simp, by simp, h, rfl, rfl⟩
theorem Rep.all_split : ∀ {xs ys : List α} {F cs}, e.all w F cs (xs ++ ys) → ∃ F1 F2 c1 c2, F = F1 ++ F2 ∧ cs = c1 ++ c2 ∧ e.all w F1 c1 xs ∧ e.all w F2 c2 ys
  | [], ys, F, cs, h => ⟨[], F, [], cs, rfl, rfl, ⟨rfl, rfl⟩, h⟩
  | x :: xs, ys, _, _, h => by
    obtain ⟨F1, F2, c1, c2, rfl, rfl, h1, h2⟩ := h
    obtain ⟨G1, G2, d1, d2, rfl, rfl, k1, k2⟩ := Rep.all_split h2
    exact ⟨F1 ++ G1, G2, c1 ++ d1, d2, by simp, by simp, ⟨F1, G1, c1, d1, rfl, rfl, h1, k1⟩, k2⟩
/-- Datum k, out of many. -/
theorem Rep.all_get {xs : List α} {F cs} (h : e.all w F cs xs) {k : Nat} (hk : k < xs.length) :
    ∃ Fa Fk Fb ca ck cb, F = Fa ++ Fk ++ Fb ∧ cs = ca ++ ck ++ cb ∧ ca.length = k * e.size ∧ e.all w Fa ca (xs.take k) ∧ e.has w Fk ck xs[k] ∧ e.all w Fb cb (xs.drop (k + 1)) := by
  have hx : xs = xs.take k ++ (xs[k] :: xs.drop (k + 1)) := by rw [← List.drop_eq_getElem_cons hk, List.take_append_drop]
  rw [hx] at h
  obtain ⟨F1, F2, c1, c2, rfl, rfl, h1, F3, F4, c3, c4, rfl, rfl, h3, h4⟩ := Rep.all_split h
  refine ⟨F1, F3, F4, c1, c3, c4, by simp, by simp, ?_, h1, h3, h4⟩
  rw [Rep.all_len h1, List.length_take, Nat.min_eq_left (Nat.le_of_lt hk)]
end

/-! ### Slices -/
/-- A slice value that reads as a list. -/
def SliceHas {α : Type} (e : Rep α) (w : World) (F : List Nat) (cs : List Value) (xs : List α) : Prop :=
  ∃ a n cap ces F', cs = [.slice a n cap] ∧ xs.length = n ∧ n ≤ cap ∧ cap ≤ maxLen ∧ e.all w F' ces xs ∧
    ((n = 0 ∧ F = []) ∨ ∃ ad, a = some ad ∧ F = ad.block :: F' ∧ ad.block < w.heap.size ∧ CellsAt w ad ces)
def Rep.slice {α : Type} (e : Rep α) : Rep (List α) where
  size := 1
  has := SliceHas e
  len := by
    rintro w F cs x ⟨a, n, cap, ces, F', rfl, _⟩
    rfl
  keep := by
    rintro w w' F cs x ⟨a, n, cap, ces, F', rfl, h1, h2, h3, h4, h5⟩ hk
    rcases h5 with ⟨rfl, rfl⟩ | ⟨ad, rfl, rfl, hb, hc⟩
    · refine ⟨a, 0, cap, ces, F', rfl, h1, h2, h3, ?_, .inl ⟨rfl, rfl⟩⟩
      have hx : x = [] := List.eq_nil_of_length_eq_zero h1
      subst hx
      exact h4
    · refine ⟨_, n, cap, ces, F', rfl, h1, h2, h3, Rep.all_keep h4 (fun g hg => hk g (by simp [hg])), .inr ⟨ad, rfl, rfl, ?_, hc.keep (hk _ (by simp))⟩⟩
      have h0 := hk ad.block (by simp)
      rcases Nat.lt_or_ge ad.block w'.heap.size with h | h
      · exact h
      · rw [Array.getElem?_eq_none h, Array.getElem?_eq_getElem hb] at h0; cases h0
  lt := by
    rintro w F cs x ⟨a, n, cap, ces, F', rfl, h1, h2, h3, h4, h5⟩ g hg
    rcases h5 with ⟨rfl, rfl⟩ | ⟨ad, rfl, rfl, hb, hc⟩
    · cases hg
    · rcases List.mem_cons.1 hg with rfl | h
      · exact hb
      · exact Rep.all_lt h4 g h
  one := by
    rintro w F cs x ⟨a, n, cap, ces, F', rfl, _⟩ u hu
    simp at hu
    subst hu
    rfl

section
variable {α : Type} {e : Rep α} {w w' : World} {F : List Nat} {xs : List α}
theorem SliceHas.form {v : Value} (h : SliceHas e w F [v] xs) : ∃ a n cap, v = .slice a n cap ∧ xs.length = n ∧ n ≤ cap ∧ cap ≤ maxLen := by
  obtain ⟨a, n, cap, ces, F', hv, h1, h2, h3, _⟩ := h
  exact ⟨a, n, cap, by simpa using hv, h1, h2, h3⟩
theorem SliceHas.nil (w : World) : SliceHas e w [] [.slice none 0 0] [] := ⟨none, 0, 0, [], [], rfl, rfl, Nat.le_refl _, Nat.zero_le _, ⟨rfl, rfl⟩, .inl ⟨rfl, rfl⟩⟩
theorem SliceHas.n {a : Option Addr} {n cap : Nat} (h : SliceHas e w F [.slice a n cap] xs) : xs.length = n := by
  obtain ⟨a', n', cap', ces, F', hv, h1, _⟩ := h
  simp only [List.cons.injEq, Value.slice.injEq, and_true] at hv
  rw [h1, ← hv.2.1]
/-- Element k: its address, its cells, its datum. -/
theorem SliceHas.get {a : Option Addr} {n cap : Nat} (h : SliceHas e w F [.slice a n cap] xs) {k : Nat} (hk : k < n) :
    ∃ ad Fk ck, a = some ad ∧ ad.block < w.heap.size ∧ (∀ g ∈ Fk, g ∈ F) ∧ ad.block ∈ F ∧ CellsAt w (ad.add (k * e.size)) ck ∧ e.has w Fk ck (xs[k]'(by rw [h.n]; exact hk)) := by
  have hn := h.n
  obtain ⟨a', n', cap', ces, F', hv, h1, h2, h3, h4, h5⟩ := h
  simp only [List.cons.injEq, Value.slice.injEq, and_true] at hv
  obtain ⟨rfl, rfl, rfl⟩ := hv
  rcases h5 with ⟨rfl, _⟩ | ⟨ad, rfl, rfl, hb, hc⟩
  · omega
  obtain ⟨Fa, Fk, Fb, ca, ck, cb, rfl, rfl, hl, _, hh, _⟩ := Rep.all_get h4 (k := k) (by omega)
  refine ⟨ad, Fk, ck, rfl, hb, fun g hg => by simp [hg], by simp, fun j u hu => ?_, hh⟩
  rw [add_add']
  refine hc _ u ?_
  rw [← hl, List.append_assoc, List.getElem?_append_right (by omega), Nat.add_sub_cancel_left]
  have hj : j < ck.length := (List.getElem?_eq_some_iff.1 hu).1
  rw [List.getElem?_append_left hj]
  exact hu
end

/-- The data of a struct value, in a slot. -/
def StructHas {α : Type} (e : Rep α) (w : World) (F : List Nat) (v : Value) (x : α) : Prop := ∃ cs : List Value, v = .agg cs.toArray ∧ e.has w F cs x

/-- What is read below a call stays. -/
theorem Rep.mod {α : Type} (e : Rep α) {w w' : World} {F G : List Nat} {cs : List Value} {x : α} (h : e.has w F cs x) (hm : Mod G w w') (hd : ∀ g ∈ F, g ∉ G) : e.has w' F cs x :=
  e.keep h (fun g hg => hm.block g (e.lt h g hg) (hd g hg))
theorem Rep.mod0 {α : Type} (e : Rep α) {w w' : World} {F : List Nat} {cs : List Value} {x : α} (h : e.has w F cs x) (hm : Mod [] w w') : e.has w' F cs x :=
  e.mod h hm (by simp)

end Go.Proofs.YtnbaekjednmfjaaDoor
end

section
namespace Go.Proofs.YtnbaekjednmfjaaDoor
open Go.RowKit

theorem add_off (a : Addr) (n : Nat) : (a.add n).off = a.off + n := by unfold Addr.add; split <;> simp_all

/-- Different blocks, each of them plain cells that nobody froze, or a map. -/
def Plain : Obj → Prop
  | .cells _ _ fr => fr = (0, 0)
  | .map _ _ => True
  | _ => False
def Good (w : World) (F : List Nat) : Prop := F.Nodup ∧ ∀ g ∈ F, ∃ o, w.heap[g]? = some o ∧ Plain o
section
variable {w w' : World} {F G : List Nat}
theorem Good.nil (w : World) : Good w [] := ⟨List.nodup_nil, fun _ h => by cases h⟩
theorem Good.lt (h : Good w F) : ∀ g ∈ F, g < w.heap.size := by
  intro g hg
  obtain ⟨o, hh, hp⟩ := h.2 g hg
  exact (Array.getElem?_eq_some_iff.1 hh).1
theorem Good.mod (h : Good w F) (hm : Mod G w w') (hd : ∀ g ∈ F, g ∉ G) : Good w' F :=
  ⟨h.1, fun g hg => by rw [hm.block g (h.lt g hg) (hd g hg)]; exact h.2 g hg⟩
theorem Good.mod0 (h : Good w F) (hm : Mod [] w w') : Good w' F := h.mod hm (by simp)
theorem Good.frozen (h : Good w F) {a : Addr} (ha : a.block ∈ F) : w.frozen? a = false := by
  obtain ⟨o, hh, hp⟩ := h.2 _ ha
  unfold World.frozen?
  rw [hh]
  cases o <;> simp_all [Plain]
theorem Good.setCell (h : Good w F) (p : Addr) (u : Value) : Good (w.setCell p u) F := by
  refine ⟨h.1, fun g hg => ?_⟩
  obtain ⟨o, hh, hp⟩ := h.2 g hg
  simp only [World.setCell, Array.getElem?_modify]
  split
  · rw [hh]; exact ⟨_, rfl, by cases o <;> first | exact hp | exact hp.elim⟩
  · exact ⟨o, hh, hp⟩
theorem Good.append (h : Good w F) (k : Good w G) (hd : ∀ g ∈ F, g ∉ G) : Good w (F ++ G) :=
  ⟨List.nodup_append.2 ⟨h.1, k.1, fun a ha b hb e => hd a ha (by rw [e]; exact hb)⟩, fun g hg => (List.mem_append.1 hg).elim (h.2 g) (k.2 g)⟩
theorem Good.left (h : Good w (F ++ G)) : Good w F := ⟨(List.nodup_append.1 h.1).1, fun g hg => h.2 g (by simp [hg])⟩
theorem Good.right (h : Good w (F ++ G)) : Good w G := ⟨(List.nodup_append.1 h.1).2.1, fun g hg => h.2 g (by simp [hg])⟩
theorem Good.apart (h : Good w (F ++ G)) : ∀ g ∈ F, g ∉ G := fun g hf hg => (List.nodup_append.1 h.1).2.2 g hf g hg rfl
end

section
variable {α : Type} {e : Rep α} {w w' : World} {F : List Nat} {xs : List α}
theorem SliceHas.form' {v : Value} (h : SliceHas e w F [v] xs) : ∃ a cap, v = .slice a xs.length cap ∧ xs.length ≤ 9223372036854775807 ∧ xs.length ≤ cap := by
  obtain ⟨a, n, cap, rfl, rfl, h2, h3⟩ := h.form
  exact ⟨a, cap, rfl, by unfold maxLen at h3; omega, h2⟩
theorem cellsAt_set {w : World} {ad : Addr} {ces : List Value} (h : CellsAt w ad ces) {i : Nat} (hi : i < ces.length) (u : Value) : CellsAt (w.setCell (ad.add i) u) ad (ces.set i u) := by
  intro j v hv
  have hold := h i _ (List.getElem?_eq_getElem hi)
  by_cases hij : j = i
  · subst hij
    rw [List.getElem?_set_self hi] at hv
    cases hv
    exact World.cell?_setCell_same _ _ _ hold
  · rw [List.getElem?_set_ne (Ne.symm hij)] at hv
    rw [World.cell?_setCell_other _ _ _ _ (fun e => hij (by have := congrArg Addr.off e; simp only [add_off] at this; omega))]
    exact h j v hv
/-- A store into cell j of element k of a slice of one's own. -/
theorem SliceHas.store {a : Option Addr} {n cap k j : Nat} (h : SliceHas e w F [.slice a n cap] xs) (hF : Good w F) (hk : k < n) (hj : j < e.size) (u : Value) (x' : α)
    (upd : ∀ (w : World) (Fk : List Nat) (ck : List Value), e.has w Fk ck (xs[k]'(by rw [h.n]; exact hk)) → e.has w Fk (ck.set j u) x') :
    ∃ ad, a = some ad ∧ ad.block ∈ F ∧ (w.cell? ((ad.add (k * e.size)).add j)).isSome = true ∧ w.frozen? ((ad.add (k * e.size)).add j) = false ∧
      SliceHas e (w.setCell ((ad.add (k * e.size)).add j) u) F [.slice a n cap] (xs.set k x') ∧ Good (w.setCell ((ad.add (k * e.size)).add j) u) F ∧ Mod F w (w.setCell ((ad.add (k * e.size)).add j) u) := by
  have hn := h.n
  obtain ⟨a', n', cap', ces, F', hv, h1, h2, h3, h4, h5⟩ := h
  simp only [List.cons.injEq, Value.slice.injEq, and_true] at hv
  obtain ⟨rfl, rfl, rfl⟩ := hv
  rcases h5 with ⟨rfl, _⟩ | ⟨ad, rfl, rfl, hb, hc⟩
  · omega
  have hkx : k < xs.length := by omega
  obtain ⟨Fa, Fk, Fb, ca, ck, cb, rfl, rfl, hl, ha, hh, hbb⟩ := Rep.all_get h4 (k := k) hkx
  have hcl : ck.length = e.size := e.len hh
  have hi : k * e.size + j < (ca ++ ck ++ cb).length := by simp only [List.length_append]; omega
  have hset : (ca ++ ck ++ cb).set (k * e.size + j) u = ca ++ ck.set j u ++ cb := by
    rw [List.append_assoc, List.set_append_right _ _ (by omega), List.set_append_left _ _ (by omega), ← List.append_assoc]
    congr 3
    omega
  have hcs := cellsAt_set hc hi u
  rw [hset] at hcs
  have hne : ∀ g ∈ Fa ++ Fk ++ Fb, g ≠ ad.block := by
    rintro g hg rfl
    exact (List.nodup_cons.1 hF.1).1 hg
  have hsame : ∀ g ∈ Fa ++ Fk ++ Fb, (w.setCell (ad.add (k * e.size + j)) u).heap[g]? = w.heap[g]? := fun g hg => Below.heap_setCell _ _ _ _ (by rw [add_block]; exact hne g hg)
  refine ⟨ad, rfl, ?_⟩
  rw [add_add']
  refine ⟨by simp, ?_, hF.frozen (by rw [add_block]; simp), ⟨_, _, cap, ca ++ ck.set j u ++ cb, Fa ++ Fk ++ Fb, rfl, by simpa using h1, h2, h3, ?_, .inr ⟨ad, rfl, rfl, ?_, hcs⟩⟩, hF.setCell _ _, ?_⟩
  · rw [hc _ _ (List.getElem?_eq_getElem hi)]; rfl
  · have hxs : xs.set k x' = xs.take k ++ x' :: xs.drop (k + 1) := by rw [List.set_eq_take_append_cons_drop, if_pos hkx]
    rw [hxs, List.append_assoc, List.append_assoc]
    refine Rep.all_append (Rep.all_keep ha (fun g hg => hsame g (by simp [hg]))) ⟨Fk, Fb, ck.set j u, cb, rfl, rfl, upd _ _ _ (e.keep hh (fun g hg => hsame g (by simp [hg]))), Rep.all_keep hbb (fun g hg => hsame g (by simp [hg]))⟩
  · simpa [World.setCell] using hb
  · exact (Mod.refl _ _).setCell (by rw [add_block]; simp) u
end

/-! ### Reading by index, element type by element type -/
section
variable {w w' : World} {F : List Nat} {a : Option Addr} {cap : Nat}
theorem SliceHas.int_at {xs : List Int} (h : SliceHas Rep.int w F [.slice a xs.length cap] xs) {k : Nat} (hk : k < xs.length) :
    ∃ ad, a = some ad ∧ w.cell? (ad.add k) = some (.int .i64 xs[k]) ∧ I64 xs[k] := by
  obtain ⟨ad, Fk, ck, rfl, hb, _, _, hc, rfl, rfl, hi⟩ := SliceHas.get h hk
  have h0 := hc 0 _ rfl
  rw [add_add'] at h0
  exact ⟨ad, rfl, by simpa [Rep.int] using h0, hi⟩
theorem SliceHas.bool_at {xs : List Bool} (h : SliceHas Rep.bool w F [.slice a xs.length cap] xs) {k : Nat} (hk : k < xs.length) :
    ∃ ad, a = some ad ∧ w.cell? (ad.add k) = some (.bool xs[k]) := by
  obtain ⟨ad, Fk, ck, rfl, hb, _, _, hc, rfl, rfl⟩ := SliceHas.get h hk
  have h0 := hc 0 _ rfl
  rw [add_add'] at h0
  exact ⟨ad, rfl, by simpa [Rep.bool] using h0⟩
theorem SliceHas.u8_at {xs : List UInt8} (h : SliceHas Rep.u8 w F [.slice a xs.length cap] xs) {k : Nat} (hk : k < xs.length) :
    ∃ ad, a = some ad ∧ w.cell? (ad.add k) = some (.int .u8 xs[k].toNat) := by
  obtain ⟨ad, Fk, ck, rfl, hb, _, _, hc, rfl, rfl⟩ := SliceHas.get h hk
  have h0 := hc 0 _ rfl
  rw [add_add'] at h0
  exact ⟨ad, rfl, by simpa [Rep.u8] using h0⟩
theorem SliceHas.str_at {xs : List ByteArray} (h : SliceHas Rep.str w F [.slice a xs.length cap] xs) {k : Nat} (hk : k < xs.length) :
    ∃ ad, a = some ad ∧ w.cell? (ad.add k) = some (.string xs[k]) ∧ xs[k].size ≤ maxLen := by
  obtain ⟨ad, Fk, ck, rfl, hb, _, _, hc, rfl, rfl, hi⟩ := SliceHas.get h hk
  have h0 := hc 0 _ rfl
  rw [add_add'] at h0
  exact ⟨ad, rfl, by simpa [Rep.str] using h0, hi⟩
/-- An element that is a slice. -/
theorem SliceHas.slice_at {α : Type} {e : Rep α} {xs : List (List α)} (h : SliceHas e.slice w F [.slice a xs.length cap] xs) {k : Nat} (hk : k < xs.length) :
    ∃ ad u Fk, a = some ad ∧ w.cell? (ad.add k) = some u ∧ SliceHas e w Fk [u] xs[k] ∧ ∀ g ∈ Fk, g ∈ F := by
  obtain ⟨ad, Fk, ck, rfl, hb, hs, _, hc, hh⟩ := SliceHas.get h hk
  obtain ⟨a', n', cap', ces, F', rfl, h1⟩ := hh
  have h0 := hc 0 _ rfl
  rw [add_add'] at h0
  exact ⟨ad, _, Fk, rfl, by simpa [Rep.slice] using h0, ⟨a', n', cap', ces, F', rfl, h1⟩, hs⟩
/-- A store into a slice of ints. -/
theorem SliceHas.int_set {xs : List Int} {n k : Nat} (h : SliceHas Rep.int w F [.slice a n cap] xs) (hF : Good w F) (hk : k < n) {m : Int} (hm : I64 m) :
    ∃ ad, a = some ad ∧ ad.block ∈ F ∧ (w.cell? (ad.add k)).isSome = true ∧ w.frozen? (ad.add k) = false ∧
      SliceHas Rep.int (w.setCell (ad.add k) (.int .i64 m)) F [.slice a n cap] (xs.set k m) ∧ Good (w.setCell (ad.add k) (.int .i64 m)) F ∧ Mod F w (w.setCell (ad.add k) (.int .i64 m)) := by
  have hs := SliceHas.store (j := 0) h hF hk (by decide) (.int .i64 m) m (by
    rintro w Fk ck ⟨rfl, rfl, _⟩
    exact ⟨rfl, rfl, hm⟩)
  simpa [add_add', Rep.int] using hs
end

theorem list_set_take {α : Type} (p : List α) (xs : List α) (k : Nat) (x : α) (hp : p.length = k) (hk : k < xs.length) : (p ++ xs.drop k).set k x = (p ++ [x]) ++ xs.drop (k + 1) := by
  subst hp
  have e := List.drop_eq_getElem_cons hk
  rw [List.set_append_right _ _ (Nat.le_refl _), Nat.sub_self, e, List.set_cons_zero, List.append_assoc]
  rfl
theorem take_eq_succ {α : Type} {xs ys : List α} {k : Nat} (h : xs.take k = ys.take k) (hx : k < xs.length) (hy : k < ys.length) (e : xs[k] = ys[k]) : xs.take (k + 1) = ys.take (k + 1) := by
  rw [List.take_succ_eq_append_getElem hx, List.take_succ_eq_append_getElem hy, h, e]
theorem eq_of_take {α : Type} {xs ys : List α} {k : Nat} (h : xs.take k = ys.take k) (hx : xs.length ≤ k) (hy : ys.length ≤ k) : xs = ys := by
  rwa [List.take_of_length_le hx, List.take_of_length_le hy] at h
theorem ne_of_getElem {α : Type} {xs ys : List α} {k : Nat} (hx : k < xs.length) (hy : k < ys.length) (e : xs[k] ≠ ys[k]) : xs ≠ ys := by
  rintro rfl; exact e rfl
theorem ne_of_len {α : Type} {xs ys : List α} (h : xs.length ≠ ys.length) : xs ≠ ys := by rintro rfl; exact h rfl
theorem ret_int {k : IntKind} {a b : Int} (h : a = b) : Ending.returned (.int k a) = .returned (.int k b) := by rw [h]
theorem ret_bool {a b : Bool} (h : a = b) : Ending.returned (.bool a) = .returned (.bool b) := by rw [h]
theorem ret_true {b : Bool} (h : b = true) : Ending.returned (.bool true) = .returned (.bool b) := by rw [h]
theorem ret_false {b : Bool} (h : b = false) : Ending.returned (.bool false) = .returned (.bool b) := by rw [h]
/-- Whether two data are equal; a word that the walk does not open. -/
def eqB {α : Type} [DecidableEq α] (x y : α) : Bool := decide (x = y)
theorem eqB_t {α : Type} [DecidableEq α] {x y : α} (h : x = y) : eqB x y = true := by simp [eqB, h]
theorem eqB_f {α : Type} [DecidableEq α] {x y : α} (h : x ≠ y) : eqB x y = false := by simp [eqB, h]
theorem eqB_rfl {α : Type} [DecidableEq α] (x : α) : eqB x x = true := eqB_t rfl
theorem eqB_iff {α : Type} [DecidableEq α] {x y : α} : eqB x y = true ↔ x = y := by simp [eqB]
theorem toList_t {x y : ByteArray} (h : x = y) : (x.toList == y.toList) = true := by simp [h]
theorem toList_f {x y : ByteArray} (h : x ≠ y) : (x.toList == y.toList) = false := (Lib.bytes_beq_false_iff _ _).2 h
theorem bneL_f {x y : ByteArray} (h : x = y) : (x.toList != y.toList) = false := by unfold bne; rw [toList_t h]; rfl
theorem bneL_t {x y : ByteArray} (h : x ≠ y) : (x.toList != y.toList) = true := by unfold bne; rw [toList_f h]; rfl
theorem dec_t {p : Prop} [Decidable p] (h : p) : decide p = true := by simp [h]
theorem dec_f {p : Prop} [Decidable p] (h : ¬ p) : decide p = false := by simp [h]

/-! ### Results in new memory -/
/-- What a call hands back in memory of its own: the cells cs are the datum x; its blocks are new, each is met once, none is frozen; what was there is as it was. -/
def Fresh {α : Type} (e : Rep α) (w w' : World) (cs : List Value) (x : α) : Prop := ∃ F, e.has w' F cs x ∧ Good w' F ∧ (∀ g ∈ F, w.heap.size ≤ g) ∧ Mod [] w w'
section
variable {α : Type} {e : Rep α} {w : World} {F : List Nat} {xs : List α}
theorem Good.cons (h : Good w F) (arr : Array Value) (t : TypeId) : Good (w.alloc (.cells arr t)) (w.heap.size :: F) := by
  refine ⟨List.nodup_cons.2 ⟨fun hg => Nat.lt_irrefl _ (h.lt _ hg), h.1⟩, fun g hg => ?_⟩
  rcases List.mem_cons.1 hg with rfl | hg
  · exact ⟨_, heap_alloc_new w _, rfl⟩
  · obtain ⟨o', hh, hp⟩ := h.2 g hg
    exact ⟨o', by rw [Below.heap_alloc _ _ _ (h.lt g hg)]; exact hh, hp⟩
theorem Mod.alloc0 (w : World) (o : Obj) : Mod [] w (w.alloc o) := (Mod.refl _ _).alloc o
theorem SliceHas.lit {arr : Array Value} {t : TypeId} {n : Nat} (h : e.all w F arr.toList xs) (hn : xs.length = n) (hm : n ≤ maxLen) :
    SliceHas e (w.alloc (.cells arr t)) (w.heap.size :: F) [.slice (some ⟨w.heap.size, 0, none⟩) n n] xs := by
  refine ⟨_, n, n, arr.toList, F, rfl, hn, Nat.le_refl _, hm, Rep.all_keep h (fun g hg => Below.heap_alloc _ _ _ (Rep.all_lt h g hg)), .inr ⟨_, rfl, rfl, by simp, fun j u hu => ?_⟩⟩
  rw [Addr.add_lit, Nat.zero_add, cell_of_row _ _ _ arr t (0, 0) (heap_alloc_new w _)]
  simpa using hu
theorem Fresh.lit {arr : Array Value} {t : TypeId} {n : Nat} (h : e.all w [] arr.toList xs) (hn : xs.length = n) (hm : n ≤ maxLen) :
    Fresh e.slice w (w.alloc (.cells arr t)) [.slice (some ⟨w.heap.size, 0, none⟩) n n] xs :=
  ⟨[w.heap.size], SliceHas.lit h hn hm, (Good.nil w).cons arr t, by simp, Mod.alloc0 _ _⟩
theorem Fresh.nil (w : World) : Fresh e.slice w w [.slice none 0 0] [] := ⟨[], SliceHas.nil w, Good.nil w, by simp, Mod.refl _ _⟩
theorem all_ints (w : World) : ∀ l : List Int, (∀ n ∈ l, I64 n) → Rep.int.all w [] (l.map (Value.int .i64)) l
  | [], _ => ⟨rfl, rfl⟩
  | n :: l, h => ⟨[], [], [.int .i64 n], _, rfl, rfl, ⟨rfl, rfl, h n (by simp)⟩, all_ints w l (fun m hm => h m (by simp [hm]))⟩
end

end Go.Proofs.YtnbaekjednmfjaaDoor
end

section
namespace Go.Proofs.YtnbaekjednmfjaaDoor
open Go.RowKit

open Classical in
/-- A world that w may have become, under calls that leave alone what was there: x, if it is one; else w. -/
noncomputable def ext (w x : World) : World := if Mod [] w x then x else w
theorem ext_mod (w x : World) : Mod [] w (ext w x) := by
  unfold ext
  split
  · assumption
  · exact Mod.refl _ _
theorem ext_eq {w x : World} (h : Mod [] w x) : ext w x = x := by unfold ext; rw [if_pos h]
theorem ext_cell (w x : World) (a : Addr) (h : (w.cell? a).isSome = true) : (ext w x).cell? a = w.cell? a := by
  obtain ⟨v, hv⟩ := Option.isSome_iff_exists.1 h
  exact (ext_mod w x).cell (World.block_lt_of_cell? w a hv) (by simp)
theorem Rep.extd {α : Type} (e : Rep α) {w : World} {F : List Nat} {cs : List Value} {x : α} (h : e.has w F cs x) (y : World) : e.has (ext w y) F cs x := e.mod0 h (ext_mod w y)
theorem quiet_ext {P : Program} {f : FuncId} {args : Array Value} {w x : World} {v : Value} (h : Calls P f args (ext w x) fun e w' => e = .returned v ∧ Mod [] (ext w x) w') :
    Calls P f args (ext w x) fun e w' => e = .returned v ∧ ∃ y, w' = ext w y :=
  h.mono fun _ w' ⟨he, hm⟩ => ⟨he, w', (ext_eq ((ext_mod w x).seq hm)).symm⟩
theorem quiet_ext_same {P : Program} {f : FuncId} {args : Array Value} {w x : World} {v : Value} (h : Calls P f args (ext w x) fun e w' => e = .returned v ∧ ext w x = w') :
    Calls P f args (ext w x) fun e w' => e = .returned v ∧ ∃ y, w' = ext w y :=
  h.mono fun _ _ ⟨he, hm⟩ => ⟨he, x, hm.symm⟩
theorem wp_region_ext {P : Program} {id : Nat} {Q : Exit → Act → World → Prop} {a : Act} {w : World} {l : List Oper} (hm : P.follows .mixedOrders = true) (hB : Region.lexB .any l.toArray = true)
    (h : wpQuiet P l.toArray (fun w' => ∃ x, w' = ext w x) (fun a' => ∀ w', (∃ x, w' = ext w x) → Q .normal a' w') l a) : (Code.region id l.toArray true).wp P Q a w :=
  wp_region_quiet (C := fun w' => ∃ x, w' = ext w x) hm hB ⟨{ w with drawn := w.drawn + 1 }, (ext_eq (Mod.refl _ _).drew).symm⟩ (by simpa using h)
/-- What the walk wants of a world behind a call. -/
theorem Mod.rules {W w : World} (h : Mod [] W w) : (∀ b o, b < W.heap.size → w.cell? ⟨b, o, none⟩ = W.cell? ⟨b, o, none⟩) ∧ (∀ b o, b < W.heap.size → w.frozen? ⟨b, o, none⟩ = W.frozen? ⟨b, o, none⟩) :=
  ⟨fun b o hb => h.cell (p := ⟨b, o, none⟩) hb (by simp), fun b o hb => World.frozen?_of_block (h.block b hb (by simp))⟩

/-! ### Data of several fields, opened -/
theorem Rep.open2 {α β : Type} {a : Rep α} {b : Rep β} {w : World} {F : List Nat} {cs : List Value} {x : α × β} (h : (Rep.pair a b).has w F cs x) :
    ∃ F1 F2 c1 c2, F = F1 ++ F2 ∧ cs = c1 ++ c2 ∧ a.has w F1 c1 x.1 ∧ b.has w F2 c2 x.2 := h
theorem Rep.mk2 {α β : Type} {a : Rep α} {b : Rep β} {w : World} {F1 F2 : List Nat} {c1 c2 : List Value} {x : α} {y : β} (h1 : a.has w F1 c1 x) (h2 : b.has w F2 c2 y) :
    (Rep.pair a b).has w (F1 ++ F2) (c1 ++ c2) (x, y) := ⟨F1, F2, c1, c2, rfl, rfl, h1, h2⟩
theorem Rep.one_cell {α : Type} {a : Rep α} (hs : a.size = 1) {w : World} {F : List Nat} {cs : List Value} {x : α} (h : a.has w F cs x) : ∃ u, cs = [u] := by
  have hl := a.len h
  rw [hs] at hl
  match cs, hl with
  | [u], _ => exact ⟨u, rfl⟩
/-- The cells of element k of a slice, by the addresses that the walk writes. -/
theorem CellsAt.zero {w : World} {ad : Addr} {u : Value} {cs : List Value} (h : CellsAt w ad (u :: cs)) : w.cell? ad = some u := by
  have := h 0 u rfl
  rwa [show ad.add 0 = ad by simp [Addr.add]] at this
theorem CellsAt.nth {w : World} {ad : Addr} {cs : List Value} (h : CellsAt w ad cs) (j : Nat) {u : Value} (hu : cs[j + 1]? = some u) : w.cell? ⟨ad.block, ad.off + (j + 1), none⟩ = some u := by
  have := h (j + 1) u hu
  simpa [Addr.add] using this
end Go.Proofs.YtnbaekjednmfjaaDoor
end

section
namespace Go.Proofs.YtnbaekjednmfjaaDoor
open Go.RowKit

/-- Cells stored one behind the other. -/
def putCells (w : World) (p : Addr) : Nat → List Value → World
  | _, [] => w
  | i, c :: cs => putCells (w.setCell (p.add i) c) p (i + 1) cs
theorem isSome_setCell (w : World) (a b : Addr) (v : Value) : ((w.setCell a v).cell? b).isSome = (w.cell? b).isSome := by
  by_cases h : a = b
  · subst h
    cases hh : w.cell? a with
    | some u => rw [World.cell?_setCell_same _ _ _ hh]; rfl
    | none =>
      unfold World.cell? at hh
      simp only [World.cell?, World.setCell, Array.getElem?_modify, if_true]
      cases hb : w.heap[a.block]? with
      | none => simp
      | some o => cases o <;> simp_all
  · rw [World.cell?_setCell_other _ _ _ _ h]
theorem heap_putCells (p : Addr) (g : Nat) (hg : g ≠ p.block) : ∀ (cs : List Value) (i : Nat) (w : World), (putCells w p i cs).heap[g]? = w.heap[g]?
  | [], _, _ => rfl
  | c :: cs, i, w => by
    rw [putCells, heap_putCells p g hg cs, Below.heap_setCell _ _ _ _ (by rw [add_block]; exact hg)]
theorem size_putCells (p : Addr) : ∀ (cs : List Value) (i : Nat) (w : World), (putCells w p i cs).heap.size = w.heap.size
  | [], _, _ => rfl
  | c :: cs, i, w => by rw [putCells, size_putCells p cs]; simp [World.setCell]
theorem Mod.putCells {F : List Nat} {w : World} (p : Addr) (hp : p.block ∈ F) : ∀ (cs : List Value) (i : Nat) (w' : World), Mod F w w' → Mod F w (putCells w' p i cs)
  | [], _, _, h => h
  | c :: cs, i, w', h => Mod.putCells p hp cs (i + 1) _ (h.setCell (by rw [add_block]; exact fun _ => hp) c)
theorem Good.putCells {F : List Nat} (p : Addr) : ∀ (cs : List Value) (i : Nat) (w : World), Good w F → Good (putCells w p i cs) F
  | [], _, _, h => h
  | c :: cs, i, w, h => Good.putCells p cs (i + 1) _ (h.setCell _ _)
theorem cellsAt_put {ad : Addr} (m : Nat) : ∀ (cs : List Value) (i : Nat) (w : World) (ces : List Value), CellsAt w ad ces → m + i + cs.length ≤ ces.length →
    CellsAt (putCells w (ad.add m) i cs) ad (ces.take (m + i) ++ cs ++ ces.drop (m + i + cs.length))
  | [], i, w, ces, h, _ => by simpa [putCells] using h
  | c :: cs, i, w, ces, h, hl => by
    simp only [List.length_cons] at hl
    have h1 := cellsAt_set h (i := m + i) (by omega) c
    have h2 := cellsAt_put m cs (i + 1) _ _ h1 (by rw [List.length_set]; omega)
    rw [putCells, add_add']
    have e : (ces.set (m + i) c).take (m + (i + 1)) ++ cs ++ (ces.set (m + i) c).drop (m + (i + 1) + cs.length) = ces.take (m + i) ++ (c :: cs) ++ ces.drop (m + i + (c :: cs).length) := by
      rw [List.drop_set_of_lt (by omega), ← Nat.add_assoc, List.take_succ_eq_append_getElem (by rw [List.length_set]; omega), List.getElem_set_self, List.take_set_of_le (Nat.le_refl _)]
      rw [show m + i + 1 + cs.length = m + i + (c :: cs).length by rw [List.length_cons]; omega]
      simp only [List.append_assoc, List.cons_append, List.nil_append]
    rw [← e]
    exact h2

section
variable {α : Type} {e : Rep α} {w w' : World} {F : List Nat} {xs : List α}
/-- A whole element stored into a slice of one's own. -/
theorem SliceHas.put {a : Option Addr} {n cap k : Nat} (h : SliceHas e w F [.slice a n cap] xs) (hF : Good w F) (hk : k < n) {cs' : List Value} {x' : α} {F' : List Nat} (hx' : e.has w F' cs' x') (hG : Good w F') (hd : ∀ g ∈ F', g ∉ F) :
    ∃ ad F'', a = some ad ∧ ad.block ∈ F ∧ (∀ j, j < e.size → (w.cell? ((ad.add (k * e.size)).add j)).isSome = true) ∧ (∀ o s, w.frozen? ⟨ad.block, o, s⟩ = false) ∧
      SliceHas e (putCells w (ad.add (k * e.size)) 0 cs') F'' [.slice a n cap] (xs.set k x') ∧ Good (putCells w (ad.add (k * e.size)) 0 cs') F'' ∧
      Mod F w (putCells w (ad.add (k * e.size)) 0 cs') ∧ (∀ g ∈ F'', g ∈ F ∨ g ∈ F') := by
  have hn := h.n
  obtain ⟨a', n', cap', ces, Fe, hv, h1, h2, h3, h4, h5⟩ := h
  simp only [List.cons.injEq, Value.slice.injEq, and_true] at hv
  obtain ⟨rfl, rfl, rfl⟩ := hv
  rcases h5 with ⟨rfl, _⟩ | ⟨ad, rfl, rfl, hb, hc⟩
  · omega
  have hkx : k < xs.length := by omega
  obtain ⟨Fa, Fk, Fb, ca, ck, cb, rfl, rfl, hl, ha, hh, hbb⟩ := Rep.all_get h4 (k := k) hkx
  have hcl : ck.length = e.size := e.len hh
  have hcl' : cs'.length = e.size := e.len hx'
  have hput := cellsAt_put (k * e.size) cs' 0 w _ hc (by simp only [List.length_append]; omega)
  have hE : (ca ++ ck ++ cb).take (k * e.size + 0) ++ cs' ++ (ca ++ ck ++ cb).drop (k * e.size + 0 + cs'.length) = ca ++ cs' ++ cb := by
    have e1 : (ca ++ ck ++ cb).take ca.length = ca := by rw [List.append_assoc, List.take_left]
    have e2 : (ca ++ ck ++ cb).drop (ca.length + cs'.length) = cb := by rw [hcl', ← hcl, ← List.length_append, List.drop_left]
    rw [Nat.add_zero, ← hl, e1, e2]
  rw [hE] at hput
  have hnd := List.nodup_cons.1 hF.1
  have hne : ∀ g ∈ Fa ++ Fk ++ Fb, g ≠ ad.block := by rintro g hg rfl; exact hnd.1 hg
  have hp : (ad.add (k * e.size)).block = ad.block := add_block _ _
  have hsame : ∀ g, g ≠ ad.block → (putCells w (ad.add (k * e.size)) 0 cs').heap[g]? = w.heap[g]? := fun g hg => heap_putCells _ _ (by rw [hp]; exact hg) _ _ _
  have hsame1 : ∀ g ∈ Fa ++ Fk ++ Fb, (putCells w (ad.add (k * e.size)) 0 cs').heap[g]? = w.heap[g]? := fun g hg => hsame g (hne g hg)
  have hsame2 : ∀ g ∈ F', (putCells w (ad.add (k * e.size)) 0 cs').heap[g]? = w.heap[g]? := fun g hg => hsame g (by rintro rfl; exact hd _ hg (by simp))
  have hcell : ∀ j, j < e.size → (w.cell? ((ad.add (k * e.size)).add j)).isSome = true := fun j hj => by
    rw [add_add', hc _ _ (List.getElem?_eq_getElem (show k * e.size + j < (ca ++ ck ++ cb).length by simp only [List.length_append]; omega))]; rfl
  have hxs : xs.set k x' = xs.take k ++ x' :: xs.drop (k + 1) := by rw [List.set_eq_take_append_cons_drop, if_pos hkx]
  refine ⟨ad, ad.block :: (Fa ++ F' ++ Fb), rfl, by simp, hcell, fun o s => hF.frozen (a := ⟨ad.block, o, s⟩) (by simp), ⟨_, _, cap, ca ++ cs' ++ cb, Fa ++ F' ++ Fb, rfl, by simpa using h1, h2, h3, ?_, .inr ⟨ad, rfl, rfl, by rw [size_putCells]; exact hb, hput⟩⟩, ?_, Mod.putCells _ (by rw [hp]; simp) _ _ _ (Mod.refl _ _), ?_⟩
  · rw [hxs, List.append_assoc, List.append_assoc]
    exact Rep.all_append (Rep.all_keep ha (fun g hg => hsame1 g (by simp [hg]))) ⟨F', Fb, cs', cb, rfl, rfl, e.keep hx' hsame2, Rep.all_keep hbb (fun g hg => hsame1 g (by simp [hg]))⟩
  · refine Good.putCells _ _ _ _ ⟨?_, ?_⟩
    · have hn2 := hnd.2
      rw [List.nodup_append, List.nodup_append] at hn2
      have hd' : ∀ g ∈ F', g ≠ ad.block ∧ g ∉ Fa ∧ g ∉ Fb := fun g hg => by have := hd g hg; simp at this; exact ⟨this.1, this.2.1, this.2.2.2⟩
      rw [List.nodup_cons, List.nodup_append, List.nodup_append]
      refine ⟨fun hg => ?_, ⟨hn2.1.1, hG.1, fun a ha b hb e => (hd' b hb).2.1 (e ▸ ha)⟩, hn2.2.1, fun a ha b hb e => ?_⟩
      · simp only [List.mem_append] at hg
        rcases hg with (hg | hg) | hg
        · exact hne _ (by simp [hg]) rfl
        · exact (hd' _ hg).1 rfl
        · exact hne _ (by simp [hg]) rfl
      · rcases List.mem_append.1 ha with ha | ha
        · exact hn2.2.2 a (by simp [ha]) b hb e
        · exact (hd' a ha).2.2 (e ▸ hb)
    · intro g hg
      simp only [List.mem_cons, List.mem_append] at hg
      rcases hg with rfl | (hg | hg) | hg
      · exact hF.2 _ (by simp)
      · exact hF.2 _ (by simp [hg])
      · exact hG.2 _ hg
      · exact hF.2 _ (by simp [hg])
  · intro g hg
    simp only [List.mem_cons, List.mem_append] at hg
    rcases hg with rfl | (hg | hg) | hg
    · exact .inl (by simp)
    · exact .inl (by simp [hg])
    · exact .inr hg
    · exact .inl (by simp [hg])
end

theorem stored_ok {P : Program} {w : World} {a : Addr} {v : Value} {m : Mode} (h : (w.cell? a).isSome = true) (hf : w.frozen? a = false) : stored P w a v m = .ok () (w.setCell a v) := by
  obtain ⟨u, hu⟩ := Option.isSome_iff_exists.1 h
  simp [stored, hu, hf]

/-! ### make([]T, n) -/
theorem make_eq {P : Program} (t e : TypeId) (z : Value) (size bytes : Nat) (ht : P.underlying t = some (.slice e)) (hinfo : (P.info? e).map (fun i => (i.zero, i.size, i.bytes)) = some (some z, size, bytes))
    (n : Nat) (hb : bytes * n ≤ 281474976710656) (h63 : n ≤ 9223372036854775807) : ∀ W : World, (Instr.makeSlice t (.int .i64 (n : Int)) (.int .i64 (n : Int))).run P W =
      .ok (.slice (some ⟨W.heap.size, 0, none⟩) n n) (W.alloc (.cells (madeCells z.cells (n * size)) e)) := by
  obtain ⟨i, hi, hz, rfl, rfl⟩ := info_parts hinfo
  intro W
  have hb' : (i.bytes : Int) * (n : Int) ≤ 281474976710656 := by
    have h : ((i.bytes * n : Nat) : Int) ≤ 281474976710656 := by omega
    rwa [Int.natCast_mul] at h
  have hr := run_make (P := P) W t e i z ht hi hz .i64 .i64 n n (by omega) (Int.le_refl _) hb' (by omega)
  simp only [Int.toNat_natCast] at hr
  exact hr
theorem made_succ (z : Array Value) (n : Nat) (hz : 0 < z.size) : (madeCells z ((n + 1) * z.size)).toList = (madeCells z (n * z.size)).toList ++ z.toList := by
  apply List.ext_getElem?
  intro j
  simp only [madeCells, Array.toList_map, Array.toList_range, List.getElem?_map]
  by_cases h1 : j < n * z.size
  · have h2 : j < (n + 1) * z.size := by rw [Nat.add_mul]; omega
    rw [List.getElem?_append_left (by simpa using h1), List.getElem?_map, List.getElem?_range h1, List.getElem?_range h2]
  · rw [List.getElem?_append_right (by simpa using h1)]
    simp only [List.length_map, List.length_range]
    by_cases h2 : j < (n + 1) * z.size
    · rw [List.getElem?_range h2]
      have h3 : j - n * z.size < z.size := by rw [Nat.add_mul] at h2; omega
      have h4 : j % z.size = j - n * z.size := by
        have e : j = (j - n * z.size) + n * z.size := by omega
        rw [e, Nat.add_mul_mod_self_right, Nat.mod_eq_of_lt h3]
        omega
      simp [h4, h3]
    · have h3 : z.size ≤ j - n * z.size := by rw [Nat.add_mul] at h2; omega
      rw [List.getElem?_eq_none (by simpa using h2), List.getElem?_eq_none (by simpa using h3)]
      rfl
theorem all_made {α : Type} {e : Rep α} {z : Array Value} {zx : α} (hs : z.size = e.size) (h0 : 0 < e.size) (w : World) (hz : e.has w [] z.toList zx) : ∀ n : Nat, e.all w [] (madeCells z (n * e.size)).toList (List.replicate n zx)
  | 0 => by simp [madeCells, Rep.all]
  | n + 1 => by
    rw [← hs, made_succ z n (by omega), List.replicate_succ', hs]
    exact Rep.all_append (F := []) (G := []) (all_made hs h0 w hz n) (Rep.all_one' hz)

theorem Mod.seq' {F : List Nat} {w w' w'' : World} (h : Mod F w w') (k : Mod [] w' w'') : Mod F w w'' := (h.trans k).mono (fun g hg _ => by simpa using hg)
theorem Mod.seqL {G : List Nat} {w w' w'' : World} (h : Mod [] w w') (k : Mod G w' w'') : Mod G w w'' := (h.trans k).mono (fun g hg _ => by simpa using hg)
theorem Mod.seqD {G : List Nat} {w w' w'' : World} (h : Mod [] w w') (k : Mod G w' w'') (hd : ∀ g ∈ G, w.heap.size ≤ g) : Mod [] w w'' := (Mod.seqL h k).drop hd
theorem i64_zero : I64 0 := ⟨by decide, by decide⟩
/-- A result whose last cells were stored into blocks of the call's own. -/
theorem Fresh.shut {α : Type} {e : Rep α} {w w1 w' : World} {G B : List Nat} {cs : List Value} {x : α} {n : Nat} (h : e.has w1 G cs x) (hg : Good w1 G) (hl : ∀ g ∈ G, n ≤ g) (hn : w.heap.size ≤ n)
    (hB : ∀ b ∈ B, w.heap.size ≤ b ∧ b < n) (hm : Mod B w1 w') (hw : Mod B w w') : Fresh e w w' cs x :=
  ⟨G, e.mod h hm (fun g hg hb => by have := hl g hg; have := (hB g hb).2; omega), hg.mod hm (fun g hg hb => by have := hl g hg; have := (hB g hb).2; omega), fun g hg => Nat.le_trans hn (hl g hg), hw.drop (fun b hb => (hB b hb).1)⟩
end Go.Proofs.YtnbaekjednmfjaaDoor
end

section
namespace Go.Proofs.YtnbaekjednmfjaaDoor
open Go.RowKit


def inB (n lo hi : Int) : Bool := decide (lo ≤ n) && decide (n ≤ hi)
theorem inB_true {n lo hi : Int} (h : lo ≤ n ∧ n ≤ hi) : inB n lo hi = true := by simp [inB, h.1, h.2]
theorem inB_of {n lo hi : Int} (h : inB n lo hi = true) : lo ≤ n ∧ n ≤ hi := by simpa [inB] using h
theorem inB_false {n lo hi : Int} (h : ¬ (lo ≤ n ∧ n ≤ hi)) : inB n lo hi = false := by
  rw [Bool.eq_false_iff]; intro h'; apply h; simpa [inB] using h'

set_option maxHeartbeats 400000 in
theorem impl_in (n lo hi : Int) (w : World) :
    Calls Tryd.prog 23 #[.int .i64 n, .int .i64 lo, .int .i64 hi] w fun e w' => e = .returned (.bool (inB n lo hi)) ∧ w = w' := by
  by_cases h1 : lo ≤ n <;> by_cases h2 : n ≤ hi
  all_goals go_enter Tryd.func23, Tryd.ntmps23
  all_goals go_wp2
  all_goals go_ret
  all_goals exact ⟨by simp [inB, h1, h2], rfl⟩

theorem spec_in (n lo hi : Int) (w : World) :
    Calls Tryd.prog 36 #[.int .i64 n, .int .i64 lo, .int .i64 hi] w fun e w' => e = .returned (.bool (inB n lo hi)) ∧ w = w' := by
  by_cases h1 : lo ≤ n <;> by_cases h2 : n ≤ hi
  all_goals go_enter Tryd.func36, Tryd.ntmps36
  all_goals go_wp2
  all_goals go_ret
  all_goals exact ⟨by simp [inB, h1, h2], rfl⟩

def padSize (n : Int) : Int := if 0 ≤ n ∧ n ≤ 16 then (if n ≤ 1 then 1 else if n ≤ 2 then 2 else if n ≤ 4 then 4 else if n ≤ 8 then 8 else 16) else -1
theorem padSize_of {n s : Int} (h0 : 0 ≤ n) (h1 : n ≤ 16) (hs : s = 1 ∨ s = 2 ∨ s = 4 ∨ s = 8 ∨ s = 16) (hle : n ≤ s) (hm : s = 1 ∨ s < 2 * n) : s = padSize n := by
  unfold padSize
  rw [if_pos ⟨h0, h1⟩]
  split
  · omega
  split
  · omega
  split
  · omega
  split <;> omega

set_option maxHeartbeats 400000 in
theorem impl_PadSize (n : Int) (w : World) :
    Calls Tryd.prog 11 #[.int .i64 n] w fun e w' => e = .returned (.int .i64 (padSize n)) ∧ w = w' := by
  by_cases h : 0 ≤ n ∧ n ≤ 16
  · have hin := inB_true h
    obtain ⟨h0, h1⟩ := h
    go_enter Tryd.func11, Tryd.ntmps11
    go_wp2_with (go_at_call 23; refine (impl_in _ _ _ _).mono ?_; rintro e w' ⟨rfl, rfl⟩)
    go_loop [3] (fun s => ∃ k : Int, s = .int .i64 k ∧ (k = 1 ∨ k = 2 ∨ k = 4 ∨ k = 8 ∨ k = 16) ∧ (k = 1 ∨ k < 2 * n)) (fun s => (16 - intOf s).toNat)
    case atStart => exact ⟨1, rfl, .inl rfl, .inl rfl⟩
    case round =>
      obtain ⟨k, rfl, hk, hm⟩ := hrel
      have hk0 : 0 ≤ k := by omega
      have hk1 : k ≤ 16 := by omega
      by_cases hlt : k < n
      · go_wp2
        go_round
        case rel => exact ⟨k * 2, rfl, by omega, by omega⟩
        case measure => simp [intOf]; omega
      · have hs := Go.RowKit.Hid.out (p := k = padSize n) (padSize_of h0 h1 hk (by omega) hm)
        go_wp2
        go_ret
        exact ⟨rfl, rfl⟩
  · have hin := inB_false h
    have hp : padSize n = -1 := by unfold padSize; rw [if_neg h]
    go_enter Tryd.func11, Tryd.ntmps11
    go_wp2_with (go_at_call 23; refine (impl_in _ _ _ _).mono ?_; rintro e w' ⟨rfl, rfl⟩)
    go_ret
    exact ⟨ret_int hp.symm, rfl⟩

set_option maxHeartbeats 400000 in
theorem spec_PadSize (n : Int) (w : World) :
    Calls Tryd.prog 19 #[.int .i64 n] w fun e w' => e = .returned (.int .i64 (padSize n)) ∧ w = w' := by
  by_cases h : 0 ≤ n ∧ n ≤ 16
  · have hin := inB_true h
    obtain ⟨h0, h1⟩ := h
    go_enter Tryd.func19, Tryd.ntmps19
    go_wp2_with (go_at_call 36; refine (spec_in _ _ _ _).mono ?_; rintro e w' ⟨rfl, rfl⟩)
    go_loop [3] (fun s => ∃ k : Int, s = .int .i64 k ∧ (k = 1 ∨ k = 2 ∨ k = 4 ∨ k = 8 ∨ k = 16) ∧ (k = 1 ∨ k < 2 * n)) (fun s => (16 - intOf s).toNat)
    case atStart => exact ⟨1, rfl, .inl rfl, .inl rfl⟩
    case round =>
      obtain ⟨k, rfl, hk, hm⟩ := hrel
      have hk0 : 0 ≤ k := by omega
      have hk1 : k ≤ 16 := by omega
      by_cases hlt : k < n
      · go_wp2
        go_round
        case rel => exact ⟨2 * k, rfl, by omega, by omega⟩
        case measure => simp [intOf]; omega
      · have hs := Go.RowKit.Hid.out (p := k = padSize n) (padSize_of h0 h1 hk (by omega) hm)
        go_wp2
        go_ret
        exact ⟨rfl, rfl⟩
  · have hin := inB_false h
    have hp : padSize n = -1 := by unfold padSize; rw [if_neg h]
    go_enter Tryd.func19, Tryd.ntmps19
    go_wp2_with (go_at_call 36; refine (spec_in _ _ _ _).mono ?_; rintro e w' ⟨rfl, rfl⟩)
    go_ret
    exact ⟨ret_int hp.symm, rfl⟩

end Go.Proofs.YtnbaekjednmfjaaDoor
end
