/- Calls that change what lies in their caller's blocks: the same list of facts (Sat), entered from an empty past, with the rest of the memory as one fact (frame). No function of the program occurs here. -/
import Derived.Test.YthabgnhedmepjaaDoorCell
namespace Go.Proofs.YthabgnhedmepjaaDoor
open Go.RowKit

/-- The world without a past. -/
def bare (w : World) : World := { w with heap := #[] }
theorem mod_bare (w : World) : Mod [] (bare w) w := ⟨rfl, rfl, rfl, Nat.zero_le _, fun g hg _ => absurd hg (Nat.not_lt_zero g)⟩
/-- All blocks of w0, but for those of F0, are as in w0. -/
def Rep.frame (w0 : World) (F0 : List Nat) : Rep Unit where
  size := 0
  has w F cs _ := cs = [] ∧ (∀ g, g ∈ F ↔ g < w0.heap.size ∧ g ∉ F0) ∧ ∀ g ∈ F, w.heap[g]? = w0.heap[g]?
  len h := by rw [h.1]; rfl
  keep h hk := ⟨h.1, h.2.1, fun g hg => (hk g hg).trans (h.2.2 g hg)⟩
  lt h := by
    intro g hg
    have h1 := h.2.2 g hg
    have h2 := ((h.2.1 g).1 hg).1
    rw [Array.getElem?_eq_getElem h2] at h1
    exact (Array.getElem?_eq_some_iff.1 h1).1
  one h := by rw [h.1]; simp
/-- The cells of a block. -/
def Rep.blk (b : Nat) : Rep (List Value) where
  size := 0
  has w F cs x := cs = [] ∧ F = [b] ∧ ∃ t, w.heap[b]? = some (.cells x.toArray t (0, 0))
  len h := by rw [h.1]; rfl
  keep h hk := by
    obtain ⟨h1, rfl, t, h3⟩ := h
    exact ⟨h1, rfl, t, (hk b (by simp)).trans h3⟩
  lt h := by
    obtain ⟨_, rfl, t, h3⟩ := h
    intro g hg
    rw [List.mem_singleton.1 hg]
    exact (Array.getElem?_eq_some_iff.1 h3).1
  one h := by rw [h.1]; simp
theorem Rep.blk_good {w : World} {b : Nat} {F : List Nat} {x : List Value} (h : (Rep.blk b).has w F [] x) : Good w [b] := by
  obtain ⟨_, _, t, h3⟩ := h
  exact ⟨by simp, fun g hg => by rw [List.mem_singleton.1 hg]; exact ⟨_, h3, rfl⟩⟩
section
variable {α : Type} {e : Rep α} {w w' : World} {F0 F : List Nat} {Γ : List Fact} {cs : List Value} {x : α}
theorem Sat.enter (h : e.has w F0 cs x) (hg : Good w F0) : Sat (bare w) w [.own e cs x, .ro (Rep.frame w F0) [] ()] := by
  classical
  refine ⟨(List.range w.heap.size).filter (fun g => !F0.contains g), F0, ⟨F0, [], by simp, h, [], [], rfl, ⟨rfl, (List.range w.heap.size).filter (fun g => !F0.contains g), ⟨rfl, fun g => ?_, fun _ _ => rfl⟩, fun _ h => h⟩, rfl⟩, hg, fun g hg' => ⟨fun hr => ?_, Nat.zero_le _⟩, fun g hr => ?_, mod_bare w⟩
  · simp
  · simp at hr; exact hr.2 hg'
  · simp at hr; exact hr.1
theorem Sat.enterBox {b : Nat} {us : List Value} (h : (Rep.blk b).has w [b] [] us) : Sat (bare w) w [.box b us, .ro (Rep.frame w [b]) [] ()] := by
  obtain ⟨R, O, ⟨O1, O2, rfl, ⟨h1, h2, t, h3⟩, h4⟩, h5⟩ := Sat.enter h (Rep.blk_good h)
  exact ⟨R, _, ⟨O1, O2, rfl, ⟨h2, t, h3⟩, h4⟩, h5⟩
/-- An argument, beside the frame. -/
theorem Sat.argIn {w0 w1 : World} (h : Sat w0 w1 Γ) (i : Nat) (hi : Γ[i]? = some (.ro (Rep.frame w F0) [] ())) (hx : e.has w F cs x) (hd : ∀ g ∈ F, g ∉ F0) : Sat w0 w1 (.ro e cs x :: Γ) := by
  obtain ⟨R, O, ⟨O1, O2, rfl, ⟨rfl, G, ⟨_, hG, hk⟩, hR⟩, k2⟩, h2, h3, h4, h5⟩ := h.pull i hi
  have hin : ∀ g ∈ F, g ∈ G := fun g hg => (hG g).2 ⟨e.lt hx g hg, hd g hg⟩
  have hS2 : Sat w0 w1 (.ro e cs x :: .ro (Rep.frame w F0) [] () :: Γ.eraseIdx i) :=
    ⟨R, O2, ⟨[], O2, rfl, ⟨rfl, F, e.keep hx (fun g hg => hk g (hin g hg)), fun g hg => hR g (hin g hg)⟩, [], O2, rfl, ⟨rfl, G, ⟨rfl, hG, hk⟩, hR⟩, k2⟩, h2, h3, h4, h5⟩
  exact hS2.perm ((perm_erase i hi).symm.cons _)
theorem frame_mod {R O : List Nat} {b : Nat} {us : List Value} {t : TypeId} {G : List Nat} (h1 : w'.heap[b]? = some (.cells us.toArray t (0, 0))) (hG : ∀ g, g ∈ G ↔ g < w.heap.size ∧ g ∉ [b]) (hk : ∀ g ∈ G, w'.heap[g]? = w.heap[g]?) (hR : ∀ g ∈ G, g ∈ R) (h4 : ∀ g ∈ R, g < w'.heap.size) (h5 : Mod [] (bare w) w') : Mod [b] w w' := by
  have hbl := (Array.getElem?_eq_some_iff.1 h1).1
  refine ⟨h5.os, h5.tape, h5.output, ?_, fun g hg hn => hk g ((hG g).2 ⟨hg, hn⟩)⟩
  rcases Nat.eq_zero_or_pos w.heap.size with h0 | hpos
  · omega
  · by_cases hl : w.heap.size - 1 = b
    · omega
    · have hm : w.heap.size - 1 ∈ G := (hG _).2 ⟨by omega, by simpa using hl⟩
      have := h4 _ (hR _ hm)
      omega
/-- What is left of the caller's block, at the end. -/
theorem Sat.exitBox {b : Nat} {us : List Value} (h : Sat (bare w) w' (.box b us :: .ro (Rep.frame w [b]) [] () :: Γ)) : (Rep.blk b).has w' [b] [] us ∧ Mod [b] w w' := by
  obtain ⟨R, O, ⟨O1, O2, rfl, ⟨rfl, t, hb⟩, O3, O4, rfl, ⟨rfl, G, ⟨_, hG, hk⟩, hR⟩, k2⟩, h2, h3, h4, h5⟩ := h
  exact ⟨⟨rfl, rfl, t, hb⟩, frame_mod (R := R) (O := O4) hb hG hk hR h4 h5⟩
/-- .. and a datum in new blocks. -/
theorem Sat.exitNew {b : Nat} {us : List Value} (h : Sat (bare w) w' (.own e cs x :: .box b us :: .ro (Rep.frame w [b]) [] () :: Γ)) :
    (∃ F, e.has w' F cs x ∧ Good w' F ∧ ∀ g ∈ F, w.heap.size ≤ g) ∧ (Rep.blk b).has w' [b] [] us ∧ Mod [b] w w' := by
  obtain ⟨R, O, ⟨O0, O1', rfl, h0, O1, O2, rfl, ⟨rfl, t, hb⟩, O3, O4, rfl, ⟨rfl, G, ⟨_, hG, hk⟩, hR⟩, k2⟩, h2, h3, h4, h5⟩ := h
  refine ⟨⟨O0, h0, h2.left, fun g hg => ?_⟩, ⟨rfl, rfl, t, hb⟩, frame_mod (R := R) (O := O4) hb hG hk hR h4 h5⟩
  rcases Nat.lt_or_ge g w.heap.size with hl | hl
  · exfalso
    by_cases hgb : g = b
    · exact h2.apart g hg (by simp [hgb])
    · exact (h3 g (by simp [hg])).1 (hR g ((hG g).2 ⟨hl, by simpa using hgb⟩))
  · exact hl

/-! ### The reader of a code, in a block br -/
/-- The block br holds a reader: a slice of bytes and a place. -/
def Rd (br : Nat) (A : Option Addr) (n c p : Nat) (w : World) : Prop :=
  (Rep.blk br).has w [br] [] [.slice A n c, .int .i64 p] ∧ ∃ F code, SliceHas Rep.u8 w F [.slice A n c] code ∧ ∀ g ∈ F, g ∉ [br]
/-- A datum in new blocks. -/
def NewIn {α : Type} (e : Rep α) (w w' : World) (cs : List Value) (x : α) : Prop := ∃ F, e.has w' F cs x ∧ Good w' F ∧ ∀ g ∈ F, w.heap.size ≤ g
theorem Rd.mod {br : Nat} {A : Option Addr} {n c p : Nat} (h : Rd br A n c p w) (hm : Mod [] w w') : Rd br A n c p w' := by
  obtain ⟨h1, F, code, h2, h3⟩ := h
  exact ⟨(Rep.blk br).mod0 h1 hm, F, code, Rep.u8.slice.mod0 h2 hm, h3⟩
/-- Another place in the same block. -/
theorem Sat.rdUp {w0 : World} {br i j : Nat} {A : Option Addr} {n c p : Nat} {code : List UInt8} (h : Sat w0 w Γ) (hi : Γ[i]? = some (.box br [.slice A n c, .int .i64 p])) (hj : Γ[j]? = some (.ro Rep.u8.slice [.slice A n c] code)) :
    Rd br A n c p w ∧ ∀ w' p', Rd br A n c p' w' → Mod [br] w w' →
      Sat w0 w' (Γ.set i (.box br [.slice A n c, .int .i64 p'])) ∧ ∀ {β : Type} (d : Rep β) (ds : List Value) (y : β), NewIn d w w' ds y → Sat w0 w' (.own d ds y :: Γ.set i (.box br [.slice A n c, .int .i64 p'])) := by
  have hij : i ≠ j := by rintro rfl; rw [hi] at hj; cases hj
  obtain ⟨R, O, ⟨O1, O2, rfl, ⟨rfl, t, hb⟩, k2⟩, h2, h3, h4, h5⟩ := h.pull i hi
  have hj' : ∃ j' : Nat, (Γ.eraseIdx i)[j']? = some (Fact.ro Rep.u8.slice [.slice A n c] code) := by
    by_cases hl : j < i
    · exact ⟨j, by rw [List.getElem?_eraseIdx_of_lt hl]; exact hj⟩
    · exact ⟨j - 1, by rw [List.getElem?_eraseIdx_of_ge (by omega), show j - 1 + 1 = j by omega]; exact hj⟩
  obtain ⟨j', hj'⟩ := hj'
  have hro : ∃ F, SliceHas Rep.u8 w F [.slice A n c] code ∧ ∀ g ∈ F, g ∈ R := by
    obtain ⟨O3, O4, he, h6, h7⟩ : ∃ O3 O4, True ∧ Fact.holds w R (Fact.ro Rep.u8.slice [.slice A n c] code) O3 ∧ holdAll w R ((Γ.eraseIdx i).eraseIdx j') O4 := by
      obtain ⟨O', hp, O3, O4, e1, h6, h7⟩ := holdAll_perm (perm_erase j' hj') k2
      exact ⟨O3, O4, trivial, h6, h7⟩
    obtain ⟨_, F, hF, hFR⟩ := h6
    exact ⟨F, hF, hFR⟩
  obtain ⟨F, hF, hFR⟩ := hro
  have hbR : br ∉ R := (h3 br (by simp)).1
  refine ⟨⟨⟨rfl, rfl, t, hb⟩, F, code, hF, fun g hg hgb => hbR (by rw [← List.mem_singleton.1 hgb]; exact hFR g hg)⟩, fun w' p' hr hm => ?_⟩
  obtain ⟨R2, O2', hO, hG, hR2, hRl, hfin⟩ := Sat.opened (Γ1 := [.box br [.slice A n c, .int .i64 p]]) (h.pull i hi)
  obtain ⟨O3, O4, rfl, ⟨rfl, t2, hb2⟩, rfl⟩ := hO
  obtain ⟨⟨_, _, t3, hb3⟩, _⟩ := hr
  have hgb : Good w' [br] := ⟨by simp, fun g hg => by rw [List.mem_singleton.1 hg]; exact ⟨_, hb3, rfl⟩⟩
  refine ⟨Sat.perm (hfin w' [.box br [.slice A n c, .int .i64 p']] [br] ⟨[br], [], by simp, ⟨rfl, t3, hb3⟩, rfl⟩ hgb (fun g hg => .inl (by simpa using hg)) (hm.mono (fun g hg _ => by simpa using hg))) (perm_set i hi), fun {β} d ds y hn => ?_⟩
  obtain ⟨G, hd, hGG, hnew⟩ := hn
  have hbl : br < w.heap.size := (Array.getElem?_eq_some_iff.1 hb2).1
  refine Sat.perm (hfin w' [.own d ds y, .box br [.slice A n c, .int .i64 p']] (G ++ [br]) ⟨G, [br], rfl, hd, [br], [], by simp, ⟨rfl, t3, hb3⟩, rfl⟩ (hGG.append hgb (fun g hg hgb' => by
    have := hnew g hg
    rw [List.mem_singleton.1 hgb'] at this
    omega)) (fun g hg => ?_) (hm.mono (fun g hg _ => by simpa using hg))) ((perm_set i hi).cons _)
  rcases List.mem_append.1 hg with h' | h'
  · exact .inr (hnew g h')
  · exact .inl (by simpa using h')
/-- A call that reads on: entered. -/
theorem Rd.enter {br : Nat} {A : Option Addr} {n c p : Nat} (h : Rd br A n c p w) : ∃ code, code.length = n ∧ Sat (bare w) w [.ro Rep.u8.slice [.slice A n c] code, .box br [.slice A n c, .int .i64 p], .ro (Rep.frame w [br]) [] ()] := by
  obtain ⟨h1, F, code, h2, h3⟩ := h
  exact ⟨code, h2.n, (Sat.enterBox h1).argIn 1 rfl h2 h3⟩
theorem Sat.exitRd {br : Nat} {A : Option Addr} {n c p : Nat} {code : List UInt8} (h : Sat (bare w) w' (.box br [.slice A n c, .int .i64 p] :: .ro (Rep.frame w [br]) [] () :: .ro Rep.u8.slice [.slice A n c] code :: Γ)) : Rd br A n c p w' ∧ Mod [br] w w' := by
  obtain ⟨h1, h2⟩ := h.exitBox
  exact ⟨(h.rdUp (i := 0) (j := 2) rfl rfl).1, h2⟩
end
end Go.Proofs.YthabgnhedmepjaaDoor
