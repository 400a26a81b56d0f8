/- Words for memory, fourth part: slices of a call's own that can grow (rows), and what a call holds in memory, as one list of facts (Sat). No function of the program occurs here. -/
import Derived.Test.YtnbaekjednmfjaaDoorMem
import Derived.Deep.AppendSrc
import Derived.Tactics
import Derived.Orders
section
namespace Go.Proofs.YtnbaekjednmfjaaDoor
open Go.RowKit

/-! ### Rows: slices of one's own, with all the room that they say they have -/
def RowHas {α : Type} (e : Rep α) (w : World) (F : List Nat) (cs : List Value) (xs : List α) : Prop :=
  (cs = [.slice none 0 0] ∧ xs = [] ∧ F = []) ∨
  ∃ g off cap cur t ces F', cs = [.slice (some ⟨g, off, none⟩) xs.length cap] ∧ F = g :: F' ∧ w.heap[g]? = some (.cells cur t (0, 0)) ∧ xs.length ≤ cap ∧ cap ≤ maxLen ∧
    off + cap * e.size ≤ cur.size ∧ e.all w F' ces xs ∧ (cur.toList.drop off).take ces.length = ces
def Rep.rows {α : Type} (e : Rep α) : Rep (List α) where
  size := 1
  has := RowHas e
  len := by
    rintro w F cs x (⟨rfl, _⟩ | ⟨g, off, cap, cur, t, ces, F', rfl, _⟩) <;> rfl
  keep := by
    rintro w w' F cs x (h | ⟨g, off, cap, cur, t, ces, F', rfl, rfl, h1, h2, h3, h4, h5, h6⟩) hk
    · exact .inl h
    · exact .inr ⟨g, off, cap, cur, t, ces, F', rfl, rfl, by rw [hk g (by simp)]; exact h1, h2, h3, h4, Rep.all_keep h5 (fun g hg => hk g (by simp [hg])), h6⟩
  lt := by
    rintro w F cs x (⟨_, _, rfl⟩ | ⟨g, off, cap, cur, t, ces, F', rfl, rfl, h1, h2, h3, h4, h5, h6⟩) g' hg
    · cases hg
    · rcases List.mem_cons.1 hg with rfl | h
      · exact (Array.getElem?_eq_some_iff.1 h1).1
      · exact Rep.all_lt h5 _ h
  one := by
    rintro w F cs x (⟨rfl, _⟩ | ⟨g, off, cap, cur, t, ces, F', rfl, _⟩) u hu <;> (simp at hu; subst hu; rfl)

/-- What reads as a row reads as a slice. -/
class Sub {α : Type} (a b : Rep α) : Prop where
  size : a.size = b.size
  imp : ∀ {w F cs x}, a.has w F cs x → b.has w F cs x
instance Sub.refl {α : Type} (a : Rep α) : Sub a a := ⟨rfl, id⟩
theorem Sub.all {α : Type} {a b : Rep α} [h : Sub a b] {w : World} : ∀ {xs : List α} {F cs}, a.all w F cs xs → b.all w F cs xs
  | [], _, _, k => k
  | _ :: _, _, _, ⟨F1, F2, c1, c2, e1, e2, k1, k2⟩ => ⟨F1, F2, c1, c2, e1, e2, h.imp k1, Sub.all k2⟩
theorem RowHas.cells {w : World} {g off : Nat} {cur : Array Value} {t : TypeId} {ces : List Value} (h1 : w.heap[g]? = some (.cells cur t (0, 0))) (h6 : (cur.toList.drop off).take ces.length = ces) : CellsAt w ⟨g, off, none⟩ ces := by
  intro j u hu
  rw [Addr.add_lit, cell_of_row _ _ _ cur t (0, 0) h1]
  have hj : j < ces.length := (List.getElem?_eq_some_iff.1 hu).1
  rw [← h6, List.getElem?_take_of_lt hj, List.getElem?_drop] at hu
  simpa using hu
instance Sub.rows {α : Type} (a b : Rep α) [h : Sub a b] : Sub a.rows b.slice where
  size := rfl
  imp := by
    rintro w F cs xs (⟨rfl, rfl, rfl⟩ | ⟨g, off, cap, cur, t, ces, F', rfl, rfl, h1, h2, h3, h4, h5, h6⟩)
    · exact SliceHas.nil w
    · exact ⟨_, _, cap, ces, F', rfl, rfl, h2, h3, Sub.all h5, .inr ⟨_, rfl, rfl, (Array.getElem?_eq_some_iff.1 h1).1, RowHas.cells h1 h6⟩⟩
instance Sub.pair {α β : Type} (a a' : Rep α) (b b' : Rep β) [h : Sub a a'] [k : Sub b b'] : Sub (a.pair b) (a'.pair b') where
  size := by show a.size + b.size = a'.size + b'.size; rw [h.size, k.size]
  imp := by
    rintro w F cs x ⟨F1, F2, c1, c2, e1, e2, h1, h2⟩
    exact ⟨F1, F2, c1, c2, e1, e2, h.imp h1, k.imp h2⟩
instance Sub.via {α β : Type} (a b : Rep α) (f : β → α) [h : Sub a b] : Sub (a.via f) (b.via f) := ⟨h.size, h.imp⟩
theorem RowHas.form {α : Type} {e : Rep α} {w : World} {F : List Nat} {v : Value} {xs : List α} (h : RowHas e w F [v] xs) : ∃ A c, v = .slice A xs.length c := by
  rcases h with ⟨h, rfl, _⟩ | ⟨g, off, cap, cur, t, ces, F', h, _⟩
  · exact ⟨none, 0, by simpa using h⟩
  · exact ⟨_, _, by simpa using h⟩
theorem RowHas.n {α : Type} {e : Rep α} {w : World} {F : List Nat} {A : Option Addr} {n c : Nat} {xs : List α} (h : RowHas e w F [.slice A n c] xs) : xs.length = n := by
  obtain ⟨A', c', he⟩ := h.form
  simp only [Value.slice.injEq] at he
  exact he.2.1.symm
theorem RowHas.nil {α : Type} {e : Rep α} (w : World) : RowHas e w [] [.slice none 0 0] [] := .inl ⟨rfl, rfl, rfl⟩
/-- A literal, or what make lays: a whole new block. -/
theorem RowHas.whole {α : Type} {e : Rep α} {w : World} {F : List Nat} {g : Nat} {cur : Array Value} {t : TypeId} {xs : List α} {n : Nat} (hg : w.heap[g]? = some (.cells cur t (0, 0))) (h : e.all w F cur.toList xs) (hn : xs.length = n) (hm : n ≤ maxLen) :
    RowHas e w (g :: F) [.slice (some ⟨g, 0, none⟩) n n] xs := by
  subst hn
  have hl := Rep.all_len h
  rw [Array.length_toList] at hl
  exact .inr ⟨g, 0, xs.length, cur, t, cur.toList, F, rfl, rfl, hg, Nat.le_refl _, hm, by omega, h, by rw [List.drop_zero]; exact List.take_length⟩

/-! ### What a call holds in memory: one list of facts -/
/-- own: data in blocks of the call's own, met by nobody else. ro: data that nobody writes while the call runs. box: a block of the call's own, cell by cell. at: cells that nobody writes, at an address. set: a map[int]bool of the call's own, whose keys are ks, each with true. -/
inductive Fact : Type 1
  | own {α : Type} (e : Rep α) (cs : List Value) (x : α)
  | ro {α : Type} (e : Rep α) (cs : List Value) (x : α)
  | box (b : Nat) (cs : List Value)
  | at (ad : Addr) (cs : List Value)
  | set (r : Nat) (ks : List Int)
def Fact.holds (w : World) (R : List Nat) : Fact → List Nat → Prop
  | .own e cs x, O => e.has w O cs x
  | .ro e cs x, O => O = [] ∧ ∃ F, e.has w F cs x ∧ ∀ g ∈ F, g ∈ R
  | .box b cs, O => O = [b] ∧ ∃ t, w.heap[b]? = some (.cells cs.toArray t (0, 0))
  | .at ad cs, O => O = [] ∧ ad.block ∈ R ∧ CellsAt w ad cs
  | .set r ks, O => O = [r] ∧ ∃ entries clock, w.heap[r]? = some (.map entries clock) ∧ entries.toList.map (fun e => (e.key, e.val)) = ks.map (fun k => (Value.int .i64 k, Value.bool true))
def holdAll (w : World) (R : List Nat) : List Fact → List Nat → Prop
  | [], O => O = []
  | f :: Γ, O => ∃ O1 O2, O = O1 ++ O2 ∧ f.holds w R O1 ∧ holdAll w R Γ O2
/-- In w the facts hold, each in blocks of its own; since w0 nothing that was there has changed. -/
def Sat (w0 w : World) (Γ : List Fact) : Prop := ∃ R O, holdAll w R Γ O ∧ Good w O ∧ (∀ g ∈ O, g ∉ R ∧ w0.heap.size ≤ g) ∧ (∀ g ∈ R, g < w.heap.size) ∧ Mod [] w0 w

section
variable {w0 w w' : World} {R O F G : List Nat} {Γ Γ1 Γ2 : List Fact}
theorem Fact.holds_keep {f : Fact} (h : f.holds w R O) (hO : ∀ g ∈ O, w'.heap[g]? = w.heap[g]?) (hR : ∀ g ∈ R, w'.heap[g]? = w.heap[g]?) : f.holds w' R O := by
  cases f with
  | own e cs x => exact e.keep h hO
  | ro e cs x => obtain ⟨rfl, F, h1, h2⟩ := h; exact ⟨rfl, F, e.keep h1 (fun g hg => hR g (h2 g hg)), h2⟩
  | box b cs => obtain ⟨rfl, t, h1⟩ := h; exact ⟨rfl, t, by rw [hO b (by simp)]; exact h1⟩
  | «at» ad cs => obtain ⟨rfl, h1, h2⟩ := h; exact ⟨rfl, h1, h2.keep (hR _ h1)⟩
  | set r ks => obtain ⟨rfl, es, c, h1, h2⟩ := h; exact ⟨rfl, es, c, by rw [hO r (by simp)]; exact h1, h2⟩
theorem holdAll_keep : ∀ {Γ : List Fact} {O}, holdAll w R Γ O → (∀ g ∈ O, w'.heap[g]? = w.heap[g]?) → (∀ g ∈ R, w'.heap[g]? = w.heap[g]?) → holdAll w' R Γ O
  | [], _, h, _, _ => h
  | _ :: _, _, ⟨O1, O2, e, h1, h2⟩, hO, hR => by
    subst e
    exact ⟨O1, O2, rfl, Fact.holds_keep h1 (fun g hg => hO g (by simp [hg])) hR, holdAll_keep h2 (fun g hg => hO g (by simp [hg])) hR⟩
theorem holdAll_append : ∀ {Γ1 : List Fact} {O}, holdAll w R (Γ1 ++ Γ2) O ↔ ∃ O1 O2, O = O1 ++ O2 ∧ holdAll w R Γ1 O1 ∧ holdAll w R Γ2 O2
  | [], O => ⟨fun h => ⟨[], O, rfl, rfl, h⟩, fun ⟨O1, O2, e, h1, h2⟩ => by cases h1; simpa [e] using h2⟩
  | f :: Γ1, O => by
    constructor
    · rintro ⟨O1, O2, rfl, h1, h2⟩
      obtain ⟨O3, O4, rfl, h3, h4⟩ := holdAll_append.1 h2
      exact ⟨O1 ++ O3, O4, by simp, ⟨O1, O3, rfl, h1, h3⟩, h4⟩
    · rintro ⟨O1, O2, rfl, ⟨O3, O4, rfl, h3, h4⟩, h2⟩
      exact ⟨O3, O4 ++ O2, by simp, h3, holdAll_append.2 ⟨O4, O2, rfl, h4, h2⟩⟩
theorem holdAll_perm (hp : Γ1.Perm Γ2) : ∀ {O}, holdAll w R Γ1 O → ∃ O', O.Perm O' ∧ holdAll w R Γ2 O' := by
  induction hp with
  | nil => intro O h; exact ⟨O, .refl _, h⟩
  | cons f _ ih =>
    rintro O ⟨O1, O2, rfl, h1, h2⟩
    obtain ⟨O3, hp, h3⟩ := ih h2
    exact ⟨O1 ++ O3, hp.append_left O1, O1, O3, rfl, h1, h3⟩
  | swap f g Γ =>
    rintro O ⟨O1, O2, rfl, h1, O3, O4, rfl, h3, h4⟩
    exact ⟨O3 ++ (O1 ++ O4), by rw [← List.append_assoc, ← List.append_assoc]; exact List.perm_append_comm.append_right O4, O3, O1 ++ O4, rfl, h3, O1, O4, rfl, h1, h4⟩
  | trans _ _ ih1 ih2 =>
    intro O h
    obtain ⟨O1, p1, h1⟩ := ih1 h
    obtain ⟨O2, p2, h2⟩ := ih2 h1
    exact ⟨O2, p1.trans p2, h2⟩
theorem Good.perm (h : Good w F) (hp : F.Perm G) : Good w G := ⟨hp.nodup_iff.1 h.1, fun g hg => h.2 g (hp.mem_iff.2 hg)⟩
theorem Sat.perm (h : Sat w0 w Γ1) (hp : Γ1.Perm Γ2) : Sat w0 w Γ2 := by
  obtain ⟨R, O, h1, h2, h3, h4, h5⟩ := h
  obtain ⟨O', hq, h1'⟩ := holdAll_perm hp h1
  exact ⟨R, O', h1', h2.perm hq, fun g hg => h3 g (hq.mem_iff.2 hg), h4, h5⟩
theorem perm_erase {α : Type 1} {f : α} : ∀ {l : List α} (i : Nat), l[i]? = some f → l.Perm (f :: l.eraseIdx i)
  | [], i, h => by simp at h
  | a :: l, 0, h => by simp at h; subst h; exact .refl _
  | a :: l, i + 1, h => ((perm_erase (l := l) i (by simpa using h)).cons a).trans (List.Perm.swap _ _ _)
theorem perm_set {α : Type 1} {f f' : α} : ∀ {l : List α} (i : Nat), l[i]? = some f → (f' :: l.eraseIdx i).Perm (l.set i f')
  | [], i, h => by simp at h
  | a :: l, 0, h => .refl _
  | a :: l, i + 1, h => (List.Perm.swap _ _ _).trans ((perm_set (l := l) i (by simpa using h)).cons a)
/-- Fact number i to the front. -/
theorem Sat.pull {f : Fact} (h : Sat w0 w Γ) (i : Nat) (hi : Γ[i]? = some f) : Sat w0 w (f :: Γ.eraseIdx i) := h.perm (perm_erase i hi)
theorem Sat.size (h : Sat w0 w Γ) : w0.heap.size ≤ w.heap.size := by
  obtain ⟨R, O, _, _, _, _, h5⟩ := h
  exact h5.size
theorem Sat.mod0 (h : Sat w0 w Γ) : Mod [] w0 w := by
  obtain ⟨R, O, _, _, _, _, h5⟩ := h
  exact h5
/-- The first facts' own blocks, and what a step on them alone leaves. -/
theorem Sat.opened (h : Sat w0 w (Γ1 ++ Γ)) : ∃ R O, holdAll w R Γ1 O ∧ Good w O ∧ (∀ g ∈ O, g ∉ R) ∧ (∀ g ∈ R, g < w.heap.size) ∧
    ∀ (w' : World) (Γ' : List Fact) (O' : List Nat), holdAll w' R Γ' O' → Good w' O' → (∀ g ∈ O', g ∈ O ∨ w.heap.size ≤ g) → Mod O w w' → Sat w0 w' (Γ' ++ Γ) := by
  obtain ⟨R, O, h1, h2, h3, h4, h5⟩ := h
  obtain ⟨O1, O2, rfl, k1, k2⟩ := holdAll_append.1 h1
  refine ⟨R, O1, k1, h2.left, fun g hg => (h3 g (by simp [hg])).1, h4, fun w' Γ' O' a1 a2 a3 a4 => ?_⟩
  have hap := h2.apart
  have hR : ∀ g ∈ R, w'.heap[g]? = w.heap[g]? := fun g hg => a4.block g (h4 g hg) (fun ho => (h3 g (by simp [ho])).1 hg)
  have hO2 : ∀ g ∈ O2, w'.heap[g]? = w.heap[g]? := fun g hg => a4.block g (h2.right.lt g hg) (fun ho => hap g ho hg)
  refine ⟨R, O' ++ O2, holdAll_append.2 ⟨O', O2, rfl, a1, holdAll_keep k2 hO2 hR⟩, a2.append (h2.right.mod a4 (fun g hg ho => hap g ho hg)) (fun g hg ho => ?_), fun g hg => ?_, fun g hg => Nat.lt_of_lt_of_le (h4 g hg) a4.size, h5.seqD a4 (fun g hg => (h3 g (by simp [hg])).2)⟩
  · rcases a3 g hg with h | h
    · exact hap g h ho
    · have := h2.right.lt g ho; omega
  · rcases List.mem_append.1 hg with h | h
    · rcases a3 g h with h | h
      · exact h3 g (by simp [h])
      · exact ⟨fun hr => by have := h4 g hr; omega, Nat.le_trans h5.size h⟩
    · exact h3 g (by simp [h])
/-- A step that touches only the blocks of the first facts. -/
theorem Sat.steps {Γ' : List Fact} (h : Sat w0 w (Γ1 ++ Γ))
    (hs : ∀ R O, holdAll w R Γ1 O → Good w O → (∀ g ∈ O, g ∉ R) → (∀ g ∈ R, g < w.heap.size) → ∃ O', holdAll w' R Γ' O' ∧ Good w' O' ∧ (∀ g ∈ O', g ∈ O ∨ w.heap.size ≤ g) ∧ Mod O w w') : Sat w0 w' (Γ' ++ Γ) := by
  obtain ⟨R, O, k1, k2, k3, k4, k5⟩ := h.opened
  obtain ⟨O', a1, a2, a3, a4⟩ := hs R O k1 k2 k3 k4
  exact k5 w' Γ' O' a1 a2 a3 a4
theorem Sat.nil (w : World) : Sat w w [] := ⟨[], [], rfl, Good.nil w, by simp, by simp, Mod.refl _ _⟩
/-- An argument. -/
theorem Sat.arg {α : Type} {e : Rep α} {cs : List Value} {x : α} (h : Sat w0 w Γ) (hx : e.has w0 F cs x) : Sat w0 w (.ro e cs x :: Γ) := by
  obtain ⟨R, O, h1, h2, h3, h4, h5⟩ := h
  have hF : ∀ g ∈ F, g < w0.heap.size := e.lt hx
  have grow : ∀ {Γ : List Fact} {O}, holdAll w R Γ O → holdAll w (R ++ F) Γ O := by
    intro Γ
    induction Γ with
    | nil => intro O h; exact h
    | cons f Γ ih =>
      rintro O ⟨O1, O2, rfl, h1, h2⟩
      refine ⟨O1, O2, rfl, ?_, ih h2⟩
      cases f with
      | own e cs x => exact h1
      | ro e cs x => obtain ⟨rfl, F, k1, k2⟩ := h1; exact ⟨rfl, F, k1, fun g hg => by simp [k2 g hg]⟩
      | box b cs => exact h1
      | «at» ad cs => obtain ⟨rfl, k1, k2⟩ := h1; exact ⟨rfl, by simp [k1], k2⟩
      | set r ks => exact h1
  refine ⟨R ++ F, O, ⟨[], O, rfl, ⟨rfl, F, e.mod0 hx h5, fun g hg => by simp [hg]⟩, grow h1⟩, h2, fun g hg => ⟨fun hr => ?_, (h3 g hg).2⟩, fun g hg => ?_, h5⟩
  · rcases List.mem_append.1 hr with h | h
    · exact (h3 g hg).1 h
    · have := hF g h; have := (h3 g hg).2; omega
  · rcases List.mem_append.1 hg with h | h
    · exact h4 g h
    · exact Nat.lt_of_lt_of_le (hF g h) h5.size
/-- What is one's own will not be written any more. -/
theorem Sat.still {α : Type} {e e' : Rep α} [hs : Sub e e'] {cs : List Value} {x : α} (h : Sat w0 w (.own e cs x :: Γ)) : Sat w0 w (.ro e' cs x :: Γ) := by
  obtain ⟨R, O, ⟨O1, O2, rfl, k1, k2⟩, h2, h3, h4, h5⟩ := h
  have grow : ∀ {Γ : List Fact} {O}, holdAll w R Γ O → holdAll w (R ++ O1) Γ O := by
    intro Γ
    induction Γ with
    | nil => intro O h; exact h
    | cons f Γ ih =>
      rintro O ⟨O1, O2, rfl, h1, h2⟩
      refine ⟨O1, O2, rfl, ?_, ih h2⟩
      cases f with
      | own e cs x => exact h1
      | ro e cs x => obtain ⟨rfl, F, k1, k2⟩ := h1; exact ⟨rfl, F, k1, fun g hg => by simp [k2 g hg]⟩
      | box b cs => exact h1
      | «at» ad cs => obtain ⟨rfl, k1, k2⟩ := h1; exact ⟨rfl, by simp [k1], k2⟩
      | set r ks => exact h1
  refine ⟨R ++ O1, O2, ⟨[], O2, rfl, ⟨rfl, O1, hs.imp k1, fun g hg => by simp [hg]⟩, grow k2⟩, h2.right, fun g hg => ⟨fun hr => ?_, (h3 g (by simp [hg])).2⟩, fun g hg => ?_, h5⟩
  · rcases List.mem_append.1 hr with h | h
    · exact (h3 g (by simp [hg])).1 h
    · exact h2.apart g h hg
  · rcases List.mem_append.1 hg with h | h
    · exact h4 g h
    · exact h2.left.lt g h
theorem Sat.drop {f : Fact} (h : Sat w0 w (f :: Γ)) : Sat w0 w Γ :=
  Sat.steps (Γ1 := [f]) (Γ' := []) h fun R O _ hg _ _ => ⟨[], rfl, Good.nil _, by simp, Mod.refl _ _⟩
theorem Sat.mod (h : Sat w0 w Γ) (hm : Mod [] w w') : Sat w0 w' Γ :=
  Sat.steps (Γ1 := []) (Γ' := []) h fun R O hO _ _ _ => by cases hO; exact ⟨[], rfl, Good.nil _, by simp, hm⟩
/-- What a call handed back in new memory. -/
theorem Sat.fresh {α : Type} {e : Rep α} {cs : List Value} {x : α} (h : Sat w0 w Γ) (hx : Fresh e w w' cs x) : Sat w0 w' (.own e cs x :: Γ) :=
  Sat.steps (Γ1 := []) (Γ' := [.own e cs x]) h fun R O hO _ _ _ => by
    cases hO
    obtain ⟨F, h1, h2, h3, h4⟩ := hx
    exact ⟨F, ⟨F, [], by simp, h1, rfl⟩, h2, fun g hg => .inr (h3 g hg), h4⟩
theorem Sat.result {α : Type} {e : Rep α} {cs : List Value} {x : α} (h : Sat w0 w (.own e cs x :: Γ)) : Fresh e w0 w cs x := by
  obtain ⟨R, O, ⟨O1, O2, rfl, k1, k2⟩, h2, h3, h4, h5⟩ := h
  exact ⟨O1, k1, h2.left, fun g hg => (h3 g (by simp [hg])).2, h5⟩
/-- A new block. -/
theorem Sat.alloc (h : Sat w0 w Γ) (arr : Array Value) (t : TypeId) : Sat w0 (w.alloc (.cells arr t)) (.box w.heap.size arr.toList :: Γ) :=
  Sat.steps (Γ1 := []) (Γ' := [.box w.heap.size arr.toList]) h fun R O hO _ _ _ => by
    cases hO
    refine ⟨[w.heap.size], ⟨[w.heap.size], [], by simp, ⟨rfl, t, ?_⟩, rfl⟩, (Good.nil w).cons arr t, by simp, Mod.alloc0 _ _⟩
    simpa using heap_alloc_new w (.cells arr t)
theorem Sat.cellAt {b : Nat} {cs : List Value} (h : Sat w0 w (.box b cs :: Γ)) {j : Nat} {u : Value} (hj : cs[j]? = some u) : w.cell? ⟨b, j, none⟩ = some u := by
  obtain ⟨R, O, ⟨O1, O2, rfl, ⟨rfl, t, k1⟩, k2⟩, _⟩ := h
  rw [cell_of_row _ _ _ _ t (0, 0) k1]
  simpa using hj
theorem Sat.frozenAt {b : Nat} {cs : List Value} (h : Sat w0 w (.box b cs :: Γ)) (o : Nat) : w.frozen? ⟨b, o, none⟩ = false := by
  obtain ⟨R, O, ⟨O1, O2, rfl, ⟨rfl, t, k1⟩, k2⟩, _⟩ := h
  simp [World.frozen?, k1]
theorem Sat.setCell {b : Nat} {cs : List Value} (h : Sat w0 w (.box b cs :: Γ)) {j : Nat} (hj : j < cs.length) (u : Value) : Sat w0 (w.setCell ⟨b, j, none⟩ u) (.box b (cs.set j u) :: Γ) :=
  Sat.steps (Γ1 := [.box b cs]) (Γ' := [.box b (cs.set j u)]) h fun R O hO hg _ _ => by
    obtain ⟨O1, O2, rfl, ⟨rfl, t, k1⟩, rfl⟩ := hO
    refine ⟨[b], ⟨[b], [], by simp, ⟨rfl, t, ?_⟩, rfl⟩, hg.setCell _ _, by simp, (Mod.refl _ _).setCell (by simp) u⟩
    rw [World.setCell]
    simp only [Array.getElem?_modify, if_true, k1]
    simp
theorem Sat.readOwn {α : Type} {e : Rep α} {cs : List Value} {x : α} (h : Sat w0 w (.own e cs x :: Γ)) (e' : Rep α) [hs : Sub e e'] : ∃ F, e'.has w F cs x := by
  obtain ⟨R, O, ⟨O1, O2, rfl, k1, k2⟩, _⟩ := h
  exact ⟨O1, hs.imp k1⟩
theorem Sat.readRo {α : Type} {e : Rep α} {cs : List Value} {x : α} (h : Sat w0 w (.ro e cs x :: Γ)) : ∃ F, e.has w F cs x := by
  obtain ⟨R, O, ⟨O1, O2, rfl, ⟨_, F, k1, _⟩, k2⟩, _⟩ := h
  exact ⟨F, k1⟩
/-- Data without blocks. -/
theorem Sat.flat {α : Type} {e : Rep α} {cs : List Value} {x : α} (h : Sat w0 w Γ) (hx : e.has w [] cs x) : Sat w0 w (.own e cs x :: Γ) :=
  Sat.steps (Γ1 := []) (Γ' := [.own e cs x]) h fun R O hO _ _ _ => by cases hO; exact ⟨[], ⟨[], [], rfl, hx, rfl⟩, Good.nil _, by simp, Mod.refl _ _⟩
theorem Sat.int (h : Sat w0 w Γ) {n : Int} (hn : I64 n) : Sat w0 w (.own Rep.int [.int .i64 n] n :: Γ) := h.flat ⟨rfl, rfl, hn⟩
theorem Sat.bool (h : Sat w0 w Γ) (b : Bool) : Sat w0 w (.own Rep.bool [.bool b] b :: Γ) := h.flat ⟨rfl, rfl⟩
theorem Sat.str (h : Sat w0 w Γ) {s : ByteArray} (hs : s.size ≤ maxLen) : Sat w0 w (.own Rep.str [.string s] s :: Γ) := h.flat ⟨rfl, rfl, hs⟩
theorem Sat.nilRow {α : Type} (e : Rep α) (h : Sat w0 w Γ) : Sat w0 w (.own e.rows [.slice none 0 0] [] :: Γ) := h.flat (RowHas.nil w)
/-- Two data are one. -/
theorem Sat.pair {α β : Type} {a : Rep α} {b : Rep β} {c1 c2 : List Value} {x : α} {y : β} (h : Sat w0 w (.own a c1 x :: .own b c2 y :: Γ)) : Sat w0 w (.own (a.pair b) (c1 ++ c2) (x, y) :: Γ) :=
  Sat.steps (Γ1 := [.own a c1 x, .own b c2 y]) (Γ' := [.own (a.pair b) (c1 ++ c2) (x, y)]) h fun R O hO hg _ _ => by
    obtain ⟨O1, O2, rfl, k1, O3, O4, rfl, k3, rfl⟩ := hO
    exact ⟨O1 ++ O3, ⟨O1 ++ O3, [], by simp, ⟨O1, O3, c1, c2, rfl, rfl, k1, k3⟩, rfl⟩, by simpa using hg, fun g hg => .inl (by simpa using hg), Mod.refl _ _⟩
theorem Sat.split {α β : Type} {a : Rep α} {b : Rep β} {cs : List Value} {x : α × β} (h : Sat w0 w (.own (a.pair b) cs x :: Γ)) : ∃ c1 c2, cs = c1 ++ c2 ∧ c1.length = a.size ∧ Sat w0 w (.own a c1 x.1 :: .own b c2 x.2 :: Γ) := by
  obtain ⟨R, O, ⟨O1, O2, rfl, ⟨F1, F2, c1, c2, rfl, rfl, k1, k3⟩, k2⟩, h2, h3⟩ := h
  exact ⟨c1, c2, rfl, a.len k1, R, _, ⟨F1, F2 ++ O2, by simp, k1, F2, O2, rfl, k3, k2⟩, h2, h3⟩
theorem Sat.splitRo {α β : Type} {a : Rep α} {b : Rep β} {cs : List Value} {x : α × β} (h : Sat w0 w (.ro (a.pair b) cs x :: Γ)) : ∃ c1 c2, cs = c1 ++ c2 ∧ c1.length = a.size ∧ Sat w0 w (.ro a c1 x.1 :: .ro b c2 x.2 :: Γ) := by
  obtain ⟨R, O, ⟨O1, O2, rfl, ⟨rfl, F, ⟨F1, F2, c1, c2, rfl, rfl, k1, k3⟩, hR⟩, k2⟩, h2, h3⟩ := h
  exact ⟨c1, c2, rfl, a.len k1, R, O2, ⟨[], O2, rfl, ⟨rfl, F1, k1, fun g hg => hR g (by simp [hg])⟩, [], O2, rfl, ⟨rfl, F2, k3, fun g hg => hR g (by simp [hg])⟩, k2⟩, h2, h3⟩
theorem Sat.toVia {α β : Type} {a : Rep α} (f : β → α) {cs : List Value} {x : α} (y : β) (hy : f y = x) (h : Sat w0 w (.own a cs x :: Γ)) : Sat w0 w (.own (a.via f) cs y :: Γ) := by subst hy; exact h
theorem Sat.conv {α β : Type} {a : Rep α} {b : Rep β} {cs : List Value} {x : α} {y : β} (h : Sat w0 w (.own a cs x :: Γ)) (hc : ∀ F, a.has w F cs x → b.has w F cs y) : Sat w0 w (.own b cs y :: Γ) := by
  obtain ⟨R, O, ⟨O1, O2, rfl, k1, k2⟩, h2⟩ := h
  exact ⟨R, _, ⟨O1, O2, rfl, hc _ k1, k2⟩, h2⟩
theorem Sat.convRo {α β : Type} {a : Rep α} {b : Rep β} {cs : List Value} {x : α} {y : β} (h : Sat w0 w (.ro a cs x :: Γ)) (hc : ∀ F, a.has w F cs x → b.has w F cs y) : Sat w0 w (.ro b cs y :: Γ) := by
  obtain ⟨R, O, ⟨O1, O2, rfl, ⟨rfl, F, k, hR⟩, k2⟩, h2⟩ := h
  exact ⟨R, _, ⟨[], O2, rfl, ⟨rfl, F, hc _ k, hR⟩, k2⟩, h2⟩
/-- Some of the facts. -/
theorem Sat.sel {Γ' : List Fact} (is : List Nat) (h : Sat w0 w Γ) (he : is.map (fun i => Γ[i]?) = Γ'.map some) (hn : is.Nodup) : Sat w0 w Γ' := by
  have key : ∀ (is : List Nat) (Γ' : List Fact), is.map (fun i => Γ[i]?) = Γ'.map some → is.Nodup → ∃ Δ : List Fact, Γ.Perm (Γ' ++ Δ) := by
    intro is
    have gen : ∀ (Γ' : List Fact) (is : List Nat) (Γ : List Fact), is.map (fun i => Γ[i]?) = Γ'.map some → is.Nodup → ∃ Δ : List Fact, Γ.Perm (Γ' ++ Δ) := by
      intro Γ'
      induction Γ' with
      | nil => intro is Γ he _; exact ⟨Γ, .refl _⟩
      | cons f Γ' ih =>
        intro is Γ he hn
        cases is with
        | nil => simp at he
        | cons i is =>
          simp only [List.map_cons, List.cons.injEq] at he
          rw [List.nodup_cons] at hn
          have hlen : i < Γ.length := (List.getElem?_eq_some_iff.1 he.1).1
          have h2 : (is.map (fun j => if j < i then j else j - 1)).map (fun j => (Γ.eraseIdx i)[j]?) = Γ'.map some := by
            rw [← he.2, List.map_map]
            apply List.map_congr_left
            intro j hj
            have hne : j ≠ i := by rintro rfl; exact hn.1 hj
            simp only [Function.comp]
            by_cases hlt : j < i
            · rw [if_pos hlt, List.getElem?_eraseIdx_of_lt hlt]
            · rw [if_neg hlt, List.getElem?_eraseIdx_of_ge (by omega)]
              congr 1; omega
          have h3 : (is.map (fun j => if j < i then j else j - 1)).Nodup := by
            unfold List.Nodup
            rw [List.pairwise_map]
            have hn2 := hn.2
            unfold List.Nodup at hn2
            refine List.Pairwise.imp_of_mem ?_ hn2
            intro a b ha hb hab
            have h1 : a ≠ i := by rintro rfl; exact hn.1 ha
            have h2 : b ≠ i := by rintro rfl; exact hn.1 hb
            split <;> split <;> omega
          obtain ⟨Δ, hΔ⟩ := ih _ _ h2 h3
          exact ⟨Δ, (perm_erase i he.1).trans (hΔ.cons f)⟩
    exact fun Γ' h1 h2 => gen Γ' is Γ h1 h2
  obtain ⟨Δ, hp⟩ := key is Γ' he hn
  have h2 : Sat w0 w (Δ ++ Γ') := (h.perm hp).perm List.perm_append_comm
  exact Sat.steps (Γ1 := Δ) (Γ' := []) h2 fun R O _ hg _ _ => ⟨[], rfl, Good.nil _, by simp, Mod.refl _ _⟩
/-- Element k of a slice that nobody writes: its cells, its datum. -/
theorem Sat.elem {α : Type} {e : Rep α} {A : Option Addr} {n c k : Nat} {xs : List α} (h : Sat w0 w Γ) (i : Nat) (hi : Γ[i]? = some (.ro e.slice [.slice A n c] xs)) {x : α} (hx : xs[k]? = some x) :
    ∃ ad ck, A = some ad ∧ ck.length = e.size ∧ Sat w0 w (.at (ad.add (k * e.size)) ck :: .ro e ck x :: Γ) := by
  obtain ⟨R, O, ⟨O1, O2, rfl, ⟨rfl, F, hF, hR⟩, k2⟩, h2, h3, h4, h5⟩ := h.pull i hi
  obtain ⟨hkl, hxk⟩ := List.getElem?_eq_some_iff.1 hx
  have hk : k < n := by rw [← SliceHas.n hF]; exact hkl
  obtain ⟨ad, Fk, ck, rfl, hb, hFk, hadF, hc, hh⟩ := SliceHas.get hF hk
  rw [hxk] at hh
  refine ⟨ad, ck, rfl, e.len hh, ?_⟩
  have hS : Sat w0 w (.ro e.slice [.slice (some ad) n c] xs :: Γ.eraseIdx i) := ⟨R, O2, ⟨[], O2, rfl, ⟨rfl, F, hF, hR⟩, k2⟩, h2, h3, h4, h5⟩
  have hS2 : Sat w0 w (.at (ad.add (k * e.size)) ck :: .ro e ck x :: .ro e.slice [.slice (some ad) n c] xs :: Γ.eraseIdx i) :=
    ⟨R, O2, ⟨[], O2, rfl, ⟨rfl, by rw [add_block]; exact hR _ hadF, hc⟩, [], O2, rfl, ⟨rfl, Fk, hh, fun g hg => hR g (hFk g hg)⟩, [], O2, rfl, ⟨rfl, F, hF, hR⟩, k2⟩, h2, h3, h4, h5⟩
  exact hS2.perm (((perm_erase i hi).symm.cons _).cons _)
end
end Go.Proofs.YtnbaekjednmfjaaDoor
end

section
namespace Go.Proofs.YtnbaekjednmfjaaDoor
open Go.RowKit

/-! ### Types, as the rules ask for them -/
def isAggD : TypeDesc → Bool
  | .struct _ | .array _ _ => true
  | _ => false
/-- Type T: its zero value, its cells, whether it is a struct or an array. -/
class Ty (P : Program) (T : TypeId) (z : outParam Value) (n : outParam Nat) (agg : outParam Bool) : Prop where
  info : (P.info? T).map (fun i => (i.zero, i.size)) = some (some z, n)
  agg : (P.underlying T).map isAggD = some agg
/-- Type T is a slice of E. -/
class SlTy (P : Program) (T : TypeId) (E : outParam TypeId) : Prop where
  und : P.underlying T = some (.slice E)
/-- How many bytes type T has. -/
class ByTy (P : Program) (T : TypeId) (b : outParam Nat) : Prop where
  bytes : (P.info? T).map (·.bytes) = some b

/-! ### Runs -/
section
variable {P : Program} {w : World} {T : TypeId} {z : Value} {n : Nat} {b : Bool}
theorem Ty.parts (h : Ty P T z n b) : ∃ i d, P.info? T = some i ∧ i.zero = some z ∧ i.size = n ∧ P.underlying T = some d ∧ isAggD d = b := by
  have h1 := h.info
  have h2 := h.agg
  cases hi : P.info? T with
  | none => rw [hi] at h1; cases h1
  | some i =>
    rw [hi] at h1
    simp only [Option.map_some, Option.some.injEq, Prod.mk.injEq] at h1
    cases hu : P.underlying T with
    | none => rw [hu] at h2; cases h2
    | some d => exact ⟨i, d, rfl, h1.1, h1.2, rfl, by rw [hu] at h2; simpa using h2⟩
theorem run_isAgg (h : Ty P T z n b) (w : World) : (isAgg T).run P w = .ok b w := by
  obtain ⟨i, d, _, _, _, hu, hd⟩ := h.parts
  subst hd
  unfold isAgg
  simp only [Sem.run_bind, run_underlying hu, Result.andThen_ok]
  cases d <;> rfl
theorem run_sizeOf (h : Ty P T z n b) (w : World) : (sizeOf T).run P w = .ok n w := by
  obtain ⟨i, d, hi, _, hn, _, _⟩ := h.parts
  simp [sizeOf, typeInfo, hi, hn]
theorem run_load1 (h : Ty P T z 1 false) {ad : Addr} {u : Value} (hc : w.cell? ad = some u) : (Instr.loadAt T (.pointer (some ad))).run P w = .ok u w := by
  simp [Instr.loadAt, Instr.sureAddr, loadVar, run_isAgg h, load, Sem.run, hc]
theorem run_loadS (h : Ty P T z n true) {ad : Addr} {us : List Value} (hl : us.length = n) (hc : CellsAt w ad us) : (Instr.loadAt T (.pointer (some ad))).run P w = .ok (.agg us.toArray) w := by
  subst hl
  simp [Instr.loadAt, Instr.sureAddr, loadVar, run_isAgg h, run_sizeOf h, run_loadCells_list w ad us hc]
theorem run_storeN (h : Ty P T z n b) {g o : Nat} {v : Value} (hn : v.cells.size = n) (h1 : ∀ u ∈ v.cells.toList, u.oneCell' = true) (hc : ∀ j, j < n → (w.cell? ⟨g, o + j, none⟩).isSome = true) (hf : ∀ j, w.frozen? ⟨g, j, none⟩ = false) :
    (Instr.storeAt T (.pointer (some ⟨g, o, none⟩)) v).run P w = .ok () (w.setCells g o v.cells.toList) := by
  have hst := run_storeCells_cells (P := P) g o v.cells.toList 0 w (by simpa [hn] using hc) (fun j _ => hf _) h1
  simp only [Nat.add_zero] at hst
  simp [Instr.storeAt, Instr.sureAddr, storeVar, run_sizeOf h, hn, hst]
end

/-- A goal at which the walk stands still. -/
def Held (p : Prop) : Prop := p
theorem Held.out {p : Prop} (h : Held p) : p := h

/-! ### One operation -/
/-- Operation o, in frame a and world w, yields a value and a world as R says. -/
def Does (P : Program) (o : Oper) (a : Act) (w : World) (R : Value → World → Prop) : Prop :=
  ∃ v w', R v w' ∧ ((execOp a.eval o).run P w = .ok (.value v) w' ∨ ((execOp a.eval o).run P w = .ok .skip w' ∧ v = undef))
section
variable {P : Program} {o : Oper} {a : Act} {w w0 w' : World} {R : Value → World → Prop} {K : Act → World → Prop} {Q : Exit → Act → World → Prop} {ops : Array Oper} {rest : List Oper} {Γ : List Fact}
theorem Does.wp (h : Does P o a w R) (hk : ∀ v w', R v w' → K (a.put o.dst v) w') : o.wp P a w K Q := by
  obtain ⟨v, w', hr, h1 | ⟨h1, rfl⟩⟩ := h
  · unfold Oper.wp; rw [h1]; exact hk _ _ hr
  · unfold Oper.wp; rw [h1]; exact hk _ _ hr
theorem Does.list (h : Does P o a w R) (hg : Region.wanted o (yielded ops a.tmps) = true) (hk : ∀ v w', R v w' → wpList P ops Q rest (a.put o.dst v) w') : wpList P ops Q (o :: rest) a w :=
  wpList_step fun _ hK => by rw [if_pos hg]; exact h.wp fun v w' hr => hK _ _ (hk v w' hr)

/-- Operation o yields u and leaves the world as it is. -/
def Gives (P : Program) (o : Oper) (a : Act) (w : World) (u : Value) : Prop := (execOp a.eval o).run P w = .ok (.value u) w
theorem Gives.list {u : Value} (h : Gives P o a w u) (hg : Region.wanted o (yielded ops a.tmps) = true) (hk : wpList P ops Q rest (a.put o.dst u) w) : wpList P ops Q (o :: rest) a w :=
  wpList_step fun _ hK => by rw [if_pos hg]; unfold Oper.wp; rw [h]; exact hK _ _ hk

/-! ### Loads -/
theorem Sat.boxCells {b : Nat} {cs : List Value} (h : Sat w0 w Γ) {i : Nat} (hi : Γ[i]? = some (.box b cs)) : CellsAt w ⟨b, 0, none⟩ cs := fun j u hj => by
  rw [Addr.add_lit, Nat.zero_add]; exact (h.pull i hi).cellAt hj
theorem Sat.atCells {ad : Addr} {cs : List Value} (h : Sat w0 w Γ) {i : Nat} (hi : Γ[i]? = some (.at ad cs)) : CellsAt w ad cs := by
  obtain ⟨R, O, ⟨O1, O2, rfl, ⟨rfl, _, hc⟩, _⟩, _⟩ := h.pull i hi
  exact hc
theorem does_load {T : TypeId} {z : Value} {p : Operand} {b off : Nat} {cs : List Value} {u : Value} (i : Nat) (hS : Sat w0 w Γ) (ho : o.op = .load T p) (hp : a.eval p = .pointer (some ⟨b, off, none⟩)) (hi : Γ[i]? = some (.box b cs)) [hT : Ty P T z 1 false] (hu : cs[off]? = some u) :
    Gives P o a w u :=
  by unfold Gives execOp; simp [ho, hp, run_load1 hT ((hS.pull i hi).cellAt hu)]
theorem does_loadS {T : TypeId} {z : Value} {p : Operand} {b n : Nat} {cs : List Value} (i : Nat) (hS : Sat w0 w Γ) (ho : o.op = .load T p) (hp : a.eval p = .pointer (some ⟨b, 0, none⟩)) (hi : Γ[i]? = some (.box b cs)) [hT : Ty P T z n true] (hl : cs.length = n) :
    Gives P o a w (.agg cs.toArray) :=
  by unfold Gives execOp; simp [ho, hp, run_loadS hT hl (hS.boxCells hi)]
theorem does_loadAt {T : TypeId} {z : Value} {p : Operand} {ad : Addr} {u : Value} {cs : List Value} (i : Nat) (hS : Sat w0 w Γ) (ho : o.op = .load T p) (hp : a.eval p = .pointer (some ad)) (hi : Γ[i]? = some (.at ad (u :: cs))) [hT : Ty P T z 1 false] :
    Gives P o a w u := by
  have h0 := hS.atCells hi 0 u rfl
  rw [show ad.add 0 = ad by simp [Addr.add]] at h0
  exact by unfold Gives execOp; simp [ho, hp, run_load1 hT h0]
theorem does_loadAtS {T : TypeId} {z : Value} {p : Operand} {ad : Addr} {n : Nat} {cs : List Value} (i : Nat) (hS : Sat w0 w Γ) (ho : o.op = .load T p) (hp : a.eval p = .pointer (some ad)) (hi : Γ[i]? = some (.at ad cs)) [hT : Ty P T z n true] (hl : cs.length = n) :
    Gives P o a w (.agg cs.toArray) :=
  by unfold Gives execOp; simp [ho, hp, run_loadS hT hl (hS.atCells hi)]
/-- A field of an element: the address as the walk writes it. -/
theorem does_loadAtF {T : TypeId} {z : Value} {p : Operand} {ad : Addr} {j : Nat} {u : Value} {cs : List Value} (i : Nat) (hS : Sat w0 w Γ) (ho : o.op = .load T p) (hp : a.eval p = .pointer (some ⟨ad.block, ad.off + (j + 1), none⟩)) (hi : Γ[i]? = some (.at ad cs)) [hT : Ty P T z 1 false] (hu : cs[j + 1]? = some u) :
    Gives P o a w u :=
  by unfold Gives execOp; simp [ho, hp, run_load1 hT (CellsAt.nth (hS.atCells hi) j hu)]

/-! ### Stores -/
theorem setCells_one (w : World) (g o : Nat) (u : Value) : w.setCells g o [u] = w.setCell ⟨g, o, none⟩ u := rfl
theorem oneCell_cells {u : Value} (h : u.oneCell' = true) : u.cells = #[u] := by cases u <;> first | rfl | (simp [Value.oneCell'] at h)
theorem does_store {T : TypeId} {z : Value} {p x : Operand} {b off : Nat} {cs : List Value} {u : Value} (i : Nat) (hS : Sat w0 w Γ) (ho : o.op = .store T p x) (hp : a.eval p = .pointer (some ⟨b, off, none⟩)) (hx : a.eval x = u) (hi : Γ[i]? = some (.box b cs)) [hT : Ty P T z 1 false] (hu : u.oneCell' = true) {old : Value} (hold : cs[off]? = some old) :
    Does P o a w (fun v w' => v = undef ∧ Sat w0 w' (Γ.set i (.box b (cs.set off u)))) := by
  have hl : off < cs.length := (List.getElem?_eq_some_iff.1 hold).1
  have hp' := hS.pull i hi
  have hc := oneCell_cells hu
  have hr := run_storeN (w := w) (g := b) (o := off) (v := u) hT (by rw [hc]; rfl) (by rw [hc]; simpa using hu) (by intro j hj; obtain rfl : j = 0 := by omega
                                                                                                                    simp [hp'.cellAt (List.getElem?_eq_getElem hl)]) (fun j => hp'.frozenAt j)
  rw [hc] at hr
  refine ⟨undef, w.setCell ⟨b, off, none⟩ u, ⟨rfl, (hp'.setCell hl u).perm (perm_set i hi)⟩, .inr ⟨?_, rfl⟩⟩
  unfold execOp
  simp only [ho, hp, hx, Sem.run_bind, hr, Result.andThen_ok]
  rfl
theorem setCells_box : ∀ (us : List Value) (o : Nat) (w : World) (b : Nat) (cs : List Value), Sat w0 w (.box b cs :: Γ) → o + us.length ≤ cs.length → Sat w0 (w.setCells b o us) (.box b (cs.take o ++ us ++ cs.drop (o + us.length)) :: Γ)
  | [], o, w, b, cs, h, hl => by simpa [World.setCells] using h
  | u :: us, o, w, b, cs, h, hl => by
    simp only [List.length_cons] at hl
    have h1 := setCells_box us (o + 1) _ b _ (h.setCell (j := o) (by omega) u) (by rw [List.length_set]; omega)
    have e : (cs.set o u).take (o + 1) ++ us ++ (cs.set o u).drop (o + 1 + us.length) = cs.take o ++ (u :: us) ++ cs.drop (o + (u :: us).length) := by
      rw [List.drop_set_of_lt (by omega), List.take_succ_eq_append_getElem (by rw [List.length_set]; omega), List.getElem_set_self, List.take_set_of_le (Nat.le_refl _)]
      rw [show o + 1 + us.length = o + (u :: us).length by rw [List.length_cons]; omega]
      simp only [List.append_assoc, List.cons_append, List.nil_append]
    rw [e] at h1
    exact h1
theorem does_storeS {T : TypeId} {z : Value} {p x : Operand} {b n : Nat} {cs : List Value} {us : Array Value} (i : Nat) (hS : Sat w0 w Γ) (ho : o.op = .store T p x) (hp : a.eval p = .pointer (some ⟨b, 0, none⟩)) (hx : a.eval x = .agg us) (hi : Γ[i]? = some (.box b cs)) [hT : Ty P T z n true] (h1' : us.toList.all (·.oneCell') = true) (hn : us.size = n) (hl : cs.length = n) :
    Does P o a w (fun v w' => v = undef ∧ Sat w0 w' (Γ.set i (.box b us.toList))) := by
  have h1 : ∀ u ∈ us.toList, u.oneCell' = true := List.all_eq_true.1 h1'
  have hp' := hS.pull i hi
  have hr := run_storeN (w := w) (g := b) (o := 0) (v := .agg us) hT hn h1 (by intro j hj; rw [Nat.zero_add, hp'.cellAt (List.getElem?_eq_getElem (by omega))]; rfl) (fun j => hp'.frozenAt j)
  have hs := setCells_box us.toList 0 w b cs hp' (by simp; omega)
  have e : cs.take 0 ++ us.toList ++ cs.drop (0 + us.toList.length) = us.toList := by
    rw [List.take_zero, List.nil_append, List.drop_eq_nil_of_le (by simp; omega), List.append_nil]
  rw [e] at hs
  refine ⟨undef, _, ⟨rfl, hs.perm (perm_set i hi)⟩, .inr ⟨?_, rfl⟩⟩
  unfold execOp
  simp only [ho, hp, hx, Sem.run_bind, hr, Result.andThen_ok]
  rfl

/-! ### New blocks -/
theorem does_alloc {T : TypeId} {z : Value} {n : Nat} {ag : Bool} {cs : List Value} (hS : Sat w0 w Γ) (ho : o.op = .alloc T) [hT : Ty P T z n ag] (hc : z.cells = cs.toArray) :
    Does P o a w (fun v w' => ∃ b, v = .pointer (some ⟨b, 0, none⟩) ∧ Sat w0 w' (.box b cs :: Γ) ∧ Mod [] w w') := by
  obtain ⟨i, d, hi, hz, _, _, _⟩ := hT.parts
  refine ⟨_, _, ⟨w.heap.size, rfl, hS.alloc cs.toArray T, Mod.alloc0 _ _⟩, .inl ?_⟩
  unfold execOp
  simp [ho, Instr.alloc, zeroValue, typeInfo, hi, hz, newVar, newRow, hc]
theorem does_box {T : TypeId} {x : Operand} {u : Value} {cs : List Value} (hS : Sat w0 w Γ) (ho : o.op = .box T x) (hx : a.eval x = u) (hc : u.cells = cs.toArray) :
    Does P o a w (fun v w' => ∃ b, v = .pointer (some ⟨b, 0, none⟩) ∧ Sat w0 w' (.box b cs :: Γ) ∧ Mod [] w w') := by
  refine ⟨_, _, ⟨w.heap.size, rfl, hS.alloc cs.toArray T, Mod.alloc0 _ _⟩, .inl ?_⟩
  unfold execOp
  simp [ho, hx, Instr.box, newVar, newRow, hc]
theorem does_buildSlice {T E : TypeId} {len : Nat} {parts : Array (Nat × Operand)} {cs : List Value} {X : Result Value} (hS : Sat w0 w Γ) (ho : o.op = .buildSlice T len parts)
    (hrX : (Instr.buildSlice T len (parts.map fun (i, x) => (i, a.eval x))).run P w = X) (hX : X = .ok (.slice (some ⟨w.heap.size, 0, none⟩) len len) (w.alloc (.cells cs.toArray E))) :
    Does P o a w (fun v w' => ∃ b, v = .slice (some ⟨b, 0, none⟩) len len ∧ Sat w0 w' (.box b cs :: Γ) ∧ Mod [] w w') := by
  have hr := hrX.trans hX
  refine ⟨_, _, ⟨w.heap.size, rfl, hS.alloc cs.toArray E, Mod.alloc0 _ _⟩, .inl ?_⟩
  unfold execOp
  simp only [ho, Sem.run_bind, hr, Result.andThen_ok]
  rfl
end
end Go.Proofs.YtnbaekjednmfjaaDoor
end
