/- Calls that change what lies in their caller's blocks: the same list of facts (Sat), entered from an empty past, with the rest of the memory as one fact (frame). No function of the program occurs here. -/
import Derived.Test.YtnbaekjednmfjaaDoorFind
import Derived.Test.YtnbaekjednmfjaaDoorTys
import Derived.Test.YtnbaekjednmfjaaDoorMem
import Derived.Test.YtnbaekjednmfjaaDoorShareO
import Derived.Test.YtnbaekjednmfjaaDoorCol
section
namespace Go.Proofs.YtnbaekjednmfjaaDoor
open Go.RowKit

/-- The world without a past. -/
def bare (w : World) : World := { w with heap := #[] }
theorem mod_bare (w : World) : Mod [] (bare w) w := ⟨rfl, rfl, rfl, Nat.zero_le _, fun g hg _ => absurd hg (Nat.not_lt_zero g)⟩
/-- All blocks of w0, but for those of F0, are as in w0. -/
def Rep.frame (w0 : World) (F0 : List Nat) : Rep Unit where
  size := 0
  has w F cs _ := cs = [] ∧ (∀ g, g ∈ F ↔ g < w0.heap.size ∧ g ∉ F0) ∧ ∀ g ∈ F, w.heap[g]? = w0.heap[g]?
  len h := by rw [h.1]; rfl
  keep h hk := ⟨h.1, h.2.1, fun g hg => (hk g hg).trans (h.2.2 g hg)⟩
  lt h := by
    intro g hg
    have h1 := h.2.2 g hg
    have h2 := ((h.2.1 g).1 hg).1
    rw [Array.getElem?_eq_getElem h2] at h1
    exact (Array.getElem?_eq_some_iff.1 h1).1
  one h := by rw [h.1]; simp
/-- The cells of a block. -/
def Rep.blk (b : Nat) : Rep (List Value) where
  size := 0
  has w F cs x := cs = [] ∧ F = [b] ∧ ∃ t, w.heap[b]? = some (.cells x.toArray t (0, 0))
  len h := by rw [h.1]; rfl
  keep h hk := by
    obtain ⟨h1, rfl, t, h3⟩ := h
    exact ⟨h1, rfl, t, (hk b (by simp)).trans h3⟩
  lt h := by
    obtain ⟨_, rfl, t, h3⟩ := h
    intro g hg
    rw [List.mem_singleton.1 hg]
    exact (Array.getElem?_eq_some_iff.1 h3).1
  one h := by rw [h.1]; simp
theorem Rep.blk_good {w : World} {b : Nat} {F : List Nat} {x : List Value} (h : (Rep.blk b).has w F [] x) : Good w [b] := by
  obtain ⟨_, _, t, h3⟩ := h
  exact ⟨by simp, fun g hg => by rw [List.mem_singleton.1 hg]; exact ⟨_, h3, rfl⟩⟩
section
variable {α : Type} {e : Rep α} {w w' : World} {F0 F : List Nat} {Γ : List Fact} {cs : List Value} {x : α}
theorem Sat.enter (h : e.has w F0 cs x) (hg : Good w F0) : Sat (bare w) w [.own e cs x, .ro (Rep.frame w F0) [] ()] := by
  classical
  refine ⟨(List.range w.heap.size).filter (fun g => !F0.contains g), F0, ⟨F0, [], by simp, h, [], [], rfl, ⟨rfl, (List.range w.heap.size).filter (fun g => !F0.contains g), ⟨rfl, fun g => ?_, fun _ _ => rfl⟩, fun _ h => h⟩, rfl⟩, hg, fun g hg' => ⟨fun hr => ?_, Nat.zero_le _⟩, fun g hr => ?_, mod_bare w⟩
  · simp
  · simp at hr; exact hr.2 hg'
  · simp at hr; exact hr.1
theorem Sat.enterBox {b : Nat} {us : List Value} (h : (Rep.blk b).has w [b] [] us) : Sat (bare w) w [.box b us, .ro (Rep.frame w [b]) [] ()] := by
  obtain ⟨R, O, ⟨O1, O2, rfl, ⟨h1, h2, t, h3⟩, h4⟩, h5⟩ := Sat.enter h (Rep.blk_good h)
  exact ⟨R, _, ⟨O1, O2, rfl, ⟨h2, t, h3⟩, h4⟩, h5⟩
/-- An argument, beside the frame. -/
theorem Sat.argIn {w0 w1 : World} (h : Sat w0 w1 Γ) (i : Nat) (hi : Γ[i]? = some (.ro (Rep.frame w F0) [] ())) (hx : e.has w F cs x) (hd : ∀ g ∈ F, g ∉ F0) : Sat w0 w1 (.ro e cs x :: Γ) := by
  obtain ⟨R, O, ⟨O1, O2, rfl, ⟨rfl, G, ⟨_, hG, hk⟩, hR⟩, k2⟩, h2, h3, h4, h5⟩ := h.pull i hi
  have hin : ∀ g ∈ F, g ∈ G := fun g hg => (hG g).2 ⟨e.lt hx g hg, hd g hg⟩
  have hS2 : Sat w0 w1 (.ro e cs x :: .ro (Rep.frame w F0) [] () :: Γ.eraseIdx i) :=
    ⟨R, O2, ⟨[], O2, rfl, ⟨rfl, F, e.keep hx (fun g hg => hk g (hin g hg)), fun g hg => hR g (hin g hg)⟩, [], O2, rfl, ⟨rfl, G, ⟨rfl, hG, hk⟩, hR⟩, k2⟩, h2, h3, h4, h5⟩
  exact hS2.perm ((perm_erase i hi).symm.cons _)
theorem frame_mod {R O : List Nat} {b : Nat} {us : List Value} {t : TypeId} {G : List Nat} (h1 : w'.heap[b]? = some (.cells us.toArray t (0, 0))) (hG : ∀ g, g ∈ G ↔ g < w.heap.size ∧ g ∉ [b]) (hk : ∀ g ∈ G, w'.heap[g]? = w.heap[g]?) (hR : ∀ g ∈ G, g ∈ R) (h4 : ∀ g ∈ R, g < w'.heap.size) (h5 : Mod [] (bare w) w') : Mod [b] w w' := by
  have hbl := (Array.getElem?_eq_some_iff.1 h1).1
  refine ⟨h5.os, h5.tape, h5.output, ?_, fun g hg hn => hk g ((hG g).2 ⟨hg, hn⟩)⟩
  rcases Nat.eq_zero_or_pos w.heap.size with h0 | hpos
  · omega
  · by_cases hl : w.heap.size - 1 = b
    · omega
    · have hm : w.heap.size - 1 ∈ G := (hG _).2 ⟨by omega, by simpa using hl⟩
      have := h4 _ (hR _ hm)
      omega
/-- What is left of the caller's block, at the end. -/
theorem Sat.exitBox {b : Nat} {us : List Value} (h : Sat (bare w) w' (.box b us :: .ro (Rep.frame w [b]) [] () :: Γ)) : (Rep.blk b).has w' [b] [] us ∧ Mod [b] w w' := by
  obtain ⟨R, O, ⟨O1, O2, rfl, ⟨rfl, t, hb⟩, O3, O4, rfl, ⟨rfl, G, ⟨_, hG, hk⟩, hR⟩, k2⟩, h2, h3, h4, h5⟩ := h
  exact ⟨⟨rfl, rfl, t, hb⟩, frame_mod (R := R) (O := O4) hb hG hk hR h4 h5⟩
/-- .. and a datum in new blocks. -/
theorem Sat.exitNew {b : Nat} {us : List Value} (h : Sat (bare w) w' (.own e cs x :: .box b us :: .ro (Rep.frame w [b]) [] () :: Γ)) :
    (∃ F, e.has w' F cs x ∧ Good w' F ∧ ∀ g ∈ F, w.heap.size ≤ g) ∧ (Rep.blk b).has w' [b] [] us ∧ Mod [b] w w' := by
  obtain ⟨R, O, ⟨O0, O1', rfl, h0, O1, O2, rfl, ⟨rfl, t, hb⟩, O3, O4, rfl, ⟨rfl, G, ⟨_, hG, hk⟩, hR⟩, k2⟩, h2, h3, h4, h5⟩ := h
  refine ⟨⟨O0, h0, h2.left, fun g hg => ?_⟩, ⟨rfl, rfl, t, hb⟩, frame_mod (R := R) (O := O4) hb hG hk hR h4 h5⟩
  rcases Nat.lt_or_ge g w.heap.size with hl | hl
  · exfalso
    by_cases hgb : g = b
    · exact h2.apart g hg (by simp [hgb])
    · exact (h3 g (by simp [hg])).1 (hR g ((hG g).2 ⟨hl, by simpa using hgb⟩))
  · exact hl

/-! ### The reader of a code, in a block br -/
/-- The block br holds a reader: a slice of bytes and a place. -/
def Rd (br : Nat) (A : Option Addr) (n c p : Nat) (w : World) : Prop :=
  (Rep.blk br).has w [br] [] [.slice A n c, .int .i64 p] ∧ ∃ F code, SliceHas Rep.u8 w F [.slice A n c] code ∧ ∀ g ∈ F, g ∉ [br]
/-- A datum in new blocks. -/
def NewIn {α : Type} (e : Rep α) (w w' : World) (cs : List Value) (x : α) : Prop := ∃ F, e.has w' F cs x ∧ Good w' F ∧ ∀ g ∈ F, w.heap.size ≤ g
theorem Rd.mod {br : Nat} {A : Option Addr} {n c p : Nat} (h : Rd br A n c p w) (hm : Mod [] w w') : Rd br A n c p w' := by
  obtain ⟨h1, F, code, h2, h3⟩ := h
  exact ⟨(Rep.blk br).mod0 h1 hm, F, code, Rep.u8.slice.mod0 h2 hm, h3⟩
/-- Another place in the same block. -/
theorem Sat.rdUp {w0 : World} {br i j : Nat} {A : Option Addr} {n c p : Nat} {code : List UInt8} (h : Sat w0 w Γ) (hi : Γ[i]? = some (.box br [.slice A n c, .int .i64 p])) (hj : Γ[j]? = some (.ro Rep.u8.slice [.slice A n c] code)) :
    Rd br A n c p w ∧ ∀ w' p', Rd br A n c p' w' → Mod [br] w w' →
      Sat w0 w' (Γ.set i (.box br [.slice A n c, .int .i64 p'])) ∧ ∀ {β : Type} (d : Rep β) (ds : List Value) (y : β), NewIn d w w' ds y → Sat w0 w' (.own d ds y :: Γ.set i (.box br [.slice A n c, .int .i64 p'])) := by
  have hij : i ≠ j := by rintro rfl; rw [hi] at hj; cases hj
  obtain ⟨R, O, ⟨O1, O2, rfl, ⟨rfl, t, hb⟩, k2⟩, h2, h3, h4, h5⟩ := h.pull i hi
  have hj' : ∃ j' : Nat, (Γ.eraseIdx i)[j']? = some (Fact.ro Rep.u8.slice [.slice A n c] code) := by
    by_cases hl : j < i
    · exact ⟨j, by rw [List.getElem?_eraseIdx_of_lt hl]; exact hj⟩
    · exact ⟨j - 1, by rw [List.getElem?_eraseIdx_of_ge (by omega), show j - 1 + 1 = j by omega]; exact hj⟩
  obtain ⟨j', hj'⟩ := hj'
  have hro : ∃ F, SliceHas Rep.u8 w F [.slice A n c] code ∧ ∀ g ∈ F, g ∈ R := by
    obtain ⟨O3, O4, he, h6, h7⟩ : ∃ O3 O4, True ∧ Fact.holds w R (Fact.ro Rep.u8.slice [.slice A n c] code) O3 ∧ holdAll w R ((Γ.eraseIdx i).eraseIdx j') O4 := by
      obtain ⟨O', hp, O3, O4, e1, h6, h7⟩ := holdAll_perm (perm_erase j' hj') k2
      exact ⟨O3, O4, trivial, h6, h7⟩
    obtain ⟨_, F, hF, hFR⟩ := h6
    exact ⟨F, hF, hFR⟩
  obtain ⟨F, hF, hFR⟩ := hro
  have hbR : br ∉ R := (h3 br (by simp)).1
  refine ⟨⟨⟨rfl, rfl, t, hb⟩, F, code, hF, fun g hg hgb => hbR (by rw [← List.mem_singleton.1 hgb]; exact hFR g hg)⟩, fun w' p' hr hm => ?_⟩
  obtain ⟨R2, O2', hO, hG, hR2, hRl, hfin⟩ := Sat.opened (Γ1 := [.box br [.slice A n c, .int .i64 p]]) (h.pull i hi)
  obtain ⟨O3, O4, rfl, ⟨rfl, t2, hb2⟩, rfl⟩ := hO
  obtain ⟨⟨_, _, t3, hb3⟩, _⟩ := hr
  have hgb : Good w' [br] := ⟨by simp, fun g hg => by rw [List.mem_singleton.1 hg]; exact ⟨_, hb3, rfl⟩⟩
  refine ⟨Sat.perm (hfin w' [.box br [.slice A n c, .int .i64 p']] [br] ⟨[br], [], by simp, ⟨rfl, t3, hb3⟩, rfl⟩ hgb (fun g hg => .inl (by simpa using hg)) (hm.mono (fun g hg _ => by simpa using hg))) (perm_set i hi), fun {β} d ds y hn => ?_⟩
  obtain ⟨G, hd, hGG, hnew⟩ := hn
  have hbl : br < w.heap.size := (Array.getElem?_eq_some_iff.1 hb2).1
  refine Sat.perm (hfin w' [.own d ds y, .box br [.slice A n c, .int .i64 p']] (G ++ [br]) ⟨G, [br], rfl, hd, [br], [], by simp, ⟨rfl, t3, hb3⟩, rfl⟩ (hGG.append hgb (fun g hg hgb' => by
    have := hnew g hg
    rw [List.mem_singleton.1 hgb'] at this
    omega)) (fun g hg => ?_) (hm.mono (fun g hg _ => by simpa using hg))) ((perm_set i hi).cons _)
  rcases List.mem_append.1 hg with h' | h'
  · exact .inr (hnew g h')
  · exact .inl (by simpa using h')
/-- A call that reads on: entered. -/
theorem Rd.enter {br : Nat} {A : Option Addr} {n c p : Nat} (h : Rd br A n c p w) : ∃ code, code.length = n ∧ Sat (bare w) w [.ro Rep.u8.slice [.slice A n c] code, .box br [.slice A n c, .int .i64 p], .ro (Rep.frame w [br]) [] ()] := by
  obtain ⟨h1, F, code, h2, h3⟩ := h
  exact ⟨code, h2.n, (Sat.enterBox h1).argIn 1 rfl h2 h3⟩
theorem Sat.exitRd {br : Nat} {A : Option Addr} {n c p : Nat} {code : List UInt8} (h : Sat (bare w) w' (.box br [.slice A n c, .int .i64 p] :: .ro (Rep.frame w [br]) [] () :: .ro Rep.u8.slice [.slice A n c] code :: Γ)) : Rd br A n c p w' ∧ Mod [br] w w' := by
  obtain ⟨h1, h2⟩ := h.exitBox
  exact ⟨(h.rdUp (i := 0) (j := 2) rfl rfl).1, h2⟩
end
end Go.Proofs.YtnbaekjednmfjaaDoor
end

section
namespace Go.Proofs.YtnbaekjednmfjaaDoor
open Go.RowKit

theorem xor_nn (X : Nat) (hX : X < 4611686018427387904) : 0 ≤ bits .xor .i64 (X : Int) ((X : Int) / 64) := by
  have hd : X / 64 < 2 ^ 62 := by have := Nat.div_le_self X 64; omega
  have hx : X ^^^ X / 64 < 2 ^ 62 := Nat.xor_lt_two_pow (by omega) hd
  have h1 : (BitVec.ofInt 64 (X : Int)).toNat = X := by
    rw [BitVec.ofInt_natCast, BitVec.toNat_ofNat]; exact Nat.mod_eq_of_lt (by omega)
  have h2 : (BitVec.ofInt 64 ((X : Int) / 64)).toNat = X / 64 := by
    rw [show (X : Int) / 64 = ((X / 64 : Nat) : Int) by omega, BitVec.ofInt_natCast, BitVec.toNat_ofNat]; exact Nat.mod_eq_of_lt (by omega)
  show 0 ≤ IntKind.i64.wrap ((BitVec.ofInt 64 (X : Int) ^^^ BitVec.ofInt 64 ((X : Int) / 64)).toNat : Int)
  rw [BitVec.toNat_xor, h1, h2]
  simp [IntKind.wrap, IntKind.bits, IntKind.signed]
  omega
set_option maxHeartbeats 4000000 in
theorem spec_pick (w : World) (br : Nat) (A : Option Addr) (nr cr p : Nat) (n : Int) (hr : Rd br A nr cr p w) (hp : p ≤ 1000000000) (hn : n ≤ 1000000000) :
    Calls Tryd.prog 28 #[.pointer (some ⟨br, 0, none⟩), .int .i64 n] w fun e w' => (∃ x : Int, e = .returned (.int .i64 x) ∧ 0 ≤ x ∧ (1 ≤ n → x < n) ∧ (n < 1 → x = 0)) ∧ Rd br A nr cr (p + 1) w' ∧ Mod [br] w w' := by
  obtain ⟨code, hl, hS⟩ := hr.enter
  have hcl : nr ≤ 9223372036854775807 := by
    obtain ⟨_, c', he, h1, h2⟩ := hS.formRo 0 rfl
    unfold maxLen at h2
    omega
  clear hr
  by_cases h1 : n < 1
  · go_enter Tryd.func28, Tryd.ntmps28
    go_wp2_with (first | ((with_reducible show wpList _ _ _ (⟨_, Op.load _ _, _, _, _, _⟩ :: _) _ _); (first | refine Gives.list (f_load hS rfl rfl (by rfl)) rfl ?_ | refine Gives.list (f_loadS hS rfl rfl (by rfl)) rfl ?_ | refine Gives.list (f_loadAt hS rfl rfl) rfl ?_ | refine Gives.list (f_loadAtS hS rfl rfl (by rfl)) rfl ?_ | refine Gives.list (f_loadAtF hS rfl rfl (by rfl)) rfl ?_); (simp only [Act.put, List.setIfInBounds_toArray, List.set_cons_zero, List.set_cons_succ])) | ((with_reducible show wpList _ _ _ (⟨_, Op.store _ _ _, _, _, _, _⟩ :: _) _ _); (first | refine Does.list (f_store hS rfl rfl rfl (by rfl) (by rfl)) rfl ?_ | refine Does.list (f_storeS hS rfl rfl rfl (by rfl) (by rfl) (by rfl)) rfl ?_); clear hS; rintro _ wx ⟨rfl, hS⟩; (simp only [List.set_cons_zero, List.set_cons_succ] at hS); (simp only [Act.put, List.setIfInBounds_toArray, List.set_cons_zero, List.set_cons_succ])))
    go_ret
    exact ⟨⟨_, rfl, by omega, by omega, by omega⟩, Sat.exitRd (p := p + 1) (code := code) (Γ := []) (show Sat (bare w) _ [.box br [.slice A nr cr, .int .i64 ((p + 1 : Nat) : Int)], .ro (Rep.frame w [br]) [] (), .ro Rep.u8.slice [.slice A nr cr] code] from hS.sel [1, 2, 0] rfl (by decide))⟩
  by_cases h0 : nr = 0
  · subst h0
    go_enter Tryd.func28, Tryd.ntmps28
    go_wp2_with (first | ((with_reducible show wpList _ _ _ (⟨_, Op.load _ _, _, _, _, _⟩ :: _) _ _); (first | refine Gives.list (f_load hS rfl rfl (by rfl)) rfl ?_ | refine Gives.list (f_loadS hS rfl rfl (by rfl)) rfl ?_ | refine Gives.list (f_loadAt hS rfl rfl) rfl ?_ | refine Gives.list (f_loadAtS hS rfl rfl (by rfl)) rfl ?_ | refine Gives.list (f_loadAtF hS rfl rfl (by rfl)) rfl ?_); (simp only [Act.put, List.setIfInBounds_toArray, List.set_cons_zero, List.set_cons_succ])) | ((with_reducible show wpList _ _ _ (⟨_, Op.store _ _ _, _, _, _, _⟩ :: _) _ _); (first | refine Does.list (f_store hS rfl rfl rfl (by rfl) (by rfl)) rfl ?_ | refine Does.list (f_storeS hS rfl rfl rfl (by rfl) (by rfl) (by rfl)) rfl ?_); clear hS; rintro _ wx ⟨rfl, hS⟩; (simp only [List.set_cons_zero, List.set_cons_succ] at hS); (simp only [Act.put, List.setIfInBounds_toArray, List.set_cons_zero, List.set_cons_succ])))
    go_ret
    exact ⟨⟨_, rfl, by omega, by omega, by omega⟩, Sat.exitRd (p := p + 1) (code := code) (Γ := []) (show Sat (bare w) _ [.box br [.slice A 0 cr, .int .i64 ((p + 1 : Nat) : Int)], .ro (Rep.frame w [br]) [] (), .ro Rep.u8.slice [.slice A 0 cr] code] from hS.sel [1, 2, 0] rfl (by decide))⟩
  have h0I : ¬ (nr : Int) = 0 := by omega
  have hw : IntKind.i64.wrap (p : Int) = p := IntWalk.i64_in _ (by omega)
  by_cases hk : p < nr
  · have hx : code[p]? = some code[p] := get_some (by omega)
    generalize code[p] = b at hx
    have hb : b.toNat < 256 := b.toNat_lt
    obtain ⟨ad, rfl, hS⟩ := hS.elU8 A nr cr hx
    go_enter Tryd.func28, Tryd.ntmps28
    go_wp2_with (first | ((with_reducible show wpList _ _ _ (⟨_, Op.load _ _, _, _, _, _⟩ :: _) _ _); (first | refine Gives.list (f_load hS rfl rfl (by rfl)) rfl ?_ | refine Gives.list (f_loadS hS rfl rfl (by rfl)) rfl ?_ | refine Gives.list (f_loadAt hS rfl rfl) rfl ?_ | refine Gives.list (f_loadAtS hS rfl rfl (by rfl)) rfl ?_ | refine Gives.list (f_loadAtF hS rfl rfl (by rfl)) rfl ?_); (simp only [Act.put, List.setIfInBounds_toArray, List.set_cons_zero, List.set_cons_succ])) | ((with_reducible show wpList _ _ _ (⟨_, Op.store _ _ _, _, _, _, _⟩ :: _) _ _); (first | refine Does.list (f_store hS rfl rfl rfl (by rfl) (by rfl)) rfl ?_ | refine Does.list (f_storeS hS rfl rfl rfl (by rfl) (by rfl) (by rfl)) rfl ?_); clear hS; rintro _ wx ⟨rfl, hS⟩; (simp only [List.set_cons_zero, List.set_cons_succ] at hS); (simp only [Act.put, List.setIfInBounds_toArray, List.set_cons_zero, List.set_cons_succ])))
    go_ret
    have m1 := Int.emod_nonneg (b.toNat : Int) (show n ≠ 0 by omega)
    have m2 := Int.emod_lt_of_pos (b.toNat : Int) (show 0 < n by omega)
    exact ⟨⟨_, rfl, m1, fun _ => m2, fun h => absurd h (Int.not_lt.2 (by omega))⟩, Sat.exitRd (p := p + 1) (code := code) (Γ := []) (show Sat (bare w) _ [.box br [.slice (some ad) nr cr, .int .i64 ((p + 1 : Nat) : Int)], .ro (Rep.frame w [br]) [] (), .ro Rep.u8.slice [.slice (some ad) nr cr] code] from hS.sel [2, 3, 1] rfl (by decide))⟩
  · have hkI : ¬ (p : Int) < (nr : Int) := by omega
    have hnr : 0 < nr := by omega
    have hpI : (p : Int) ≤ 1000000000 := by omega
    obtain ⟨q1, hq1, hl1, b1, hx1⟩ : ∃ q : Nat, (p : Int) % (nr : Int) = (q : Int) ∧ (q : Int) < (nr : Int) ∧ ∃ b, code[q]? = some b := by
      have h := Nat.mod_lt p hnr
      exact ⟨p % nr, rfl, by omega, _, get_some (by omega)⟩
    obtain ⟨q2, hq2, hl2, b2, hx2⟩ : ∃ q : Nat, ((p : Int) * 7 + 3) % (nr : Int) = (q : Int) ∧ (q : Int) < (nr : Int) ∧ ∃ b, code[q]? = some b := by
      have h := Nat.mod_lt (p * 7 + 3) hnr
      exact ⟨(p * 7 + 3) % nr, rfl, by omega, _, get_some (by omega)⟩
    obtain ⟨q3, hq3, hl3⟩ : ∃ q : Nat, (p : Int) / (nr : Int) = (q : Int) ∧ (q : Int) ≤ 1000000000 := by
      have h := Nat.div_le_self p nr
      exact ⟨p / nr, rfl, by omega⟩
    have hb1 : b1.toNat < 256 := b1.toNat_lt
    have hb2 : b2.toNat < 256 := b2.toNat_lt
    obtain ⟨ad, rfl, hS⟩ := hS.elU8 A nr cr hx1
    obtain ⟨_, hae, hS⟩ := hS.elU8 (some ad) nr cr hx2
    cases hae
    have w1 : IntKind.i64.wrap ((p : Int) * 7) = (p : Int) * 7 := IntWalk.i64_in _ (by omega)
    have w2 : IntKind.i64.wrap ((p : Int) * 7 + 3) = (p : Int) * 7 + 3 := IntWalk.i64_in _ (by omega)
    have w3 : IntKind.i64.wrap ((b1.toNat : Int) * 131) = (b1.toNat : Int) * 131 := IntWalk.i64_in _ (by omega)
    have w4 : IntKind.i64.wrap ((b2.toNat : Int) * 1117) = (b2.toNat : Int) * 1117 := IntWalk.i64_in _ (by omega)
    have w5 : IntKind.i64.wrap ((b1.toNat : Int) * 131 + (b2.toNat : Int) * 1117) = (b1.toNat : Int) * 131 + (b2.toNat : Int) * 1117 := IntWalk.i64_in _ (by omega)
    have w6 : IntKind.i64.wrap ((p : Int) * 29) = (p : Int) * 29 := IntWalk.i64_in _ (by omega)
    have w7 : IntKind.i64.wrap ((b1.toNat : Int) * 131 + (b2.toNat : Int) * 1117 + (p : Int) * 29) = (b1.toNat : Int) * 131 + (b2.toNat : Int) * 1117 + (p : Int) * 29 := IntWalk.i64_in _ (by omega)
    have w8 : IntKind.i64.wrap ((q3 : Int) * 53) = (q3 : Int) * 53 := IntWalk.i64_in _ (by omega)
    have w9 : IntKind.i64.wrap ((b1.toNat : Int) * 131 + (b2.toNat : Int) * 1117 + (p : Int) * 29 + (q3 : Int) * 53) = (b1.toNat : Int) * 131 + (b2.toNat : Int) * 1117 + (p : Int) * 29 + (q3 : Int) * 53 := IntWalk.i64_in _ (by omega)
    go_enter Tryd.func28, Tryd.ntmps28
    go_wp2_with (first | ((with_reducible show wpList _ _ _ (⟨_, Op.load _ _, _, _, _, _⟩ :: _) _ _); (first | refine Gives.list (f_load hS rfl rfl (by rfl)) rfl ?_ | refine Gives.list (f_loadS hS rfl rfl (by rfl)) rfl ?_ | refine Gives.list (f_loadAt hS rfl rfl) rfl ?_ | refine Gives.list (f_loadAtS hS rfl rfl (by rfl)) rfl ?_ | refine Gives.list (f_loadAtF hS rfl rfl (by rfl)) rfl ?_); (simp only [Act.put, List.setIfInBounds_toArray, List.set_cons_zero, List.set_cons_succ])) | ((with_reducible show wpList _ _ _ (⟨_, Op.store _ _ _, _, _, _, _⟩ :: _) _ _); (first | refine Does.list (f_store hS rfl rfl rfl (by rfl) (by rfl)) rfl ?_ | refine Does.list (f_storeS hS rfl rfl rfl (by rfl) (by rfl) (by rfl)) rfl ?_); clear hS; rintro _ wx ⟨rfl, hS⟩; (simp only [List.set_cons_zero, List.set_cons_succ] at hS); (simp only [Act.put, List.setIfInBounds_toArray, List.set_cons_zero, List.set_cons_succ])) | ((with_reducible show Code.wp _ (Code.region 7 _ true) _ _ _); refine wp_region_drawn [(0, 0), (1, 0), (2, 0), (3, 1), (4, 0), (5, 0), (6, 0), (7, 0), (8, 1), (9, 0), (10, 0), (11, 0), (12, 1), (13, 0), (14, 0), (15, 0), (16, 0), (17, 0), (18, 1), (19, 0), (20, 0), (21, 0), (22, 0), (23, 0), (24, 0), (25, 1), (26, 0), (27, 0), (28, 0), (29, 1), (30, 0), (31, 0), (32, 0), (33, 0), (34, 0), (35, 0), (36, 0), (37, 0), (38, 0), (39, 0), (40, 1), (41, 0), (42, 0), (43, 0), (44, 0), (45, 0)] (by kernel_rfl) (by kernel_rfl) (by intro _ _ dq _ _ hq; cases dq <;> exact hq) ?_; replace hS := hS.mod (Mod.drew (Mod.refl _ _)); (generalize hwd : World.drew _ = wz at hS ⊢); clear hwd) | ((with_reducible show wpD _ _ _ [] _ _); refine D_nil ?_) | ((with_reducible show wpD _ _ _ ((_, 0) :: _) _ _); (first | (refine D_skip rfl rfl ?_; (first | show wpD _ _ _ _ (Act.put _ (some _) _) _ | show wpD _ _ _ _ (Act.put _ none _) _); (simp only [Act.put, List.setIfInBounds_toArray, List.set_cons_zero, List.set_cons_succ])) | (refine D_pure (v := ?_) rfl rfl (fun wq => ?_) ?_; rotate_left 1; (show (Sem.run _ (execOp _ (Oper.mk _ _ _ _ _ _)) _) = _; go_simp; (try go_bits); with_reducible rfl); (first | show wpD _ _ _ _ (Act.put _ (some _) _) _ | show wpD _ _ _ _ (Act.put _ none _) _); (simp only [Act.put, List.setIfInBounds_toArray, List.set_cons_zero, List.set_cons_succ])))) | ((with_reducible show wpD _ _ _ ((_, 1) :: _) _ _); (first | (refine D_skip rfl rfl ?_; (first | show wpD _ _ _ _ (Act.put _ (some _) _) _ | show wpD _ _ _ _ (Act.put _ none _) _); (simp only [Act.put, List.setIfInBounds_toArray, List.set_cons_zero, List.set_cons_succ])) | ((first | refine D_load rfl rfl (fun x hx => f_load (hS.mod hx) rfl rfl (by rfl)) ?_ | refine D_load rfl rfl (fun x hx => f_loadS (hS.mod hx) rfl rfl (by rfl)) ?_ | refine D_load rfl rfl (fun x hx => f_loadAt (hS.mod hx) rfl rfl) ?_ | refine D_load rfl rfl (fun x hx => f_loadAtS (hS.mod hx) rfl rfl (by rfl)) ?_ | refine D_load rfl rfl (fun x hx => f_loadAtF (hS.mod hx) rfl rfl (by rfl)) ?_); (first | show wpD _ _ _ _ (Act.put _ (some _) _) _ | show wpD _ _ _ _ (Act.put _ none _) _); (simp only [Act.put, List.setIfInBounds_toArray, List.set_cons_zero, List.set_cons_succ])))))
    go_ret
    obtain ⟨X, hX, hXl⟩ : ∃ X : Nat, (b1.toNat : Int) * 131 + (b2.toNat : Int) * 1117 + (p : Int) * 29 + (q3 : Int) * 53 = (X : Int) ∧ X < 4611686018427387904 := ⟨b1.toNat * 131 + b2.toNat * 1117 + p * 29 + q3 * 53, by omega, by omega⟩
    have hxn := xor_nn X hXl
    rw [← hX] at hxn
    exact ⟨⟨_, rfl, Int.tmod_nonneg n hxn, fun h => Int.tmod_lt_of_pos _ (by omega), fun h => absurd h (Int.not_lt.2 (by omega))⟩, Sat.exitRd (p := p + 1) (code := code) (Γ := []) (show Sat (bare w) _ [.box br [.slice (some ad) nr cr, .int .i64 ((p + 1 : Nat) : Int)], .ro (Rep.frame w [br]) [] (), .ro Rep.u8.slice [.slice (some ad) nr cr] code] from hS.sel [3, 4, 2] rfl (by decide))⟩
end Go.Proofs.YtnbaekjednmfjaaDoor
end

section
namespace Go.Proofs.YtnbaekjednmfjaaDoor
open Go.RowKit

section
variable {α : Type} {e : Rep α} {w0 w : World} {Γ : List Fact} {cs : List Value} {x : α} {i j : Nat}
theorem Sat.rdF (h : Sat w0 w Γ) (br : Nat) {A : Option Addr} {n c p : Nat} {code : List UInt8} [hb : BoxAt Γ br [.slice A n c, .int .i64 ((p : Nat) : Int)] i] [hr : RoIn Γ Rep.u8.slice [.slice A n c] code j] :
    Rd br A n c p w ∧ ∀ w' p', Rd br A n c p' w' → Mod [br] w w' →
      Sat w0 w' (Γ.set i (.box br [.slice A n c, .int .i64 p'])) ∧ ∀ {β : Type} (d : Rep β) (ds : List Value) (y : β), NewIn d w w' ds y → Sat w0 w' (.own d ds y :: Γ.set i (.box br [.slice A n c, .int .i64 p'])) :=
  h.rdUp hb.get hr.get
end
set_option maxHeartbeats 1000000 in
theorem spec_l20Open {w0 w : World} {Γ : List Fact} {A : Option Addr} {n c i : Nat} {code : List UInt8} (hS : Sat w0 w Γ) (hi : Γ[i]? = some (.ro Rep.u8.slice [.slice A n c] code)) :
    Calls Tryd.prog 14 #[.slice A n c] w fun e w' => ∃ br A' n' c' code', e = .returned (.pointer (some ⟨br, 0, none⟩)) ∧ Sat w0 w' (.box br [.slice A' n' c', .int .i64 ((0 : Nat) : Int)] :: .ro Rep.u8.slice [.slice A' n' c'] code' :: Γ) := by
  by_cases hn : 2000 < n
  · have hnI : (2000 : Int) < (n : Int) := by omega
    go_enter Tryd.func14, Tryd.ntmps14
    go_wp2_with (first | ((with_reducible show wpList _ _ _ (⟨_, Op.slice _ _ _ _ _, _, _, _, _⟩ :: _) _ _); refine Does.list (does_slice (e := Rep.u8) (l := 0) (h := 2000) i hS rfl rfl hi rfl rfl (by omega) (by omega) rfl) rfl ?_; clear hS; rintro _ _ ⟨A4, c4, rfl, rfl, hS⟩; (simp only [Act.put, List.setIfInBounds_toArray, List.set_cons_zero, List.set_cons_succ])) | ((with_reducible show wpList _ _ _ (⟨_, Op.box _ _, _, _, _, _⟩ :: _) _ _); refine Does.list (does_box hS rfl rfl (by rfl)) rfl ?_; clear hS; rintro _ wx ⟨bo, rfl, hS, _⟩; (simp only [Act.put, List.setIfInBounds_toArray, List.set_cons_zero, List.set_cons_succ])))
    go_ret
    trace_state
    first | exact ⟨_, _, _, _, _, rfl, hS⟩ | exact ⟨_, _, _, _, hS⟩ | exact ⟨_, rfl, _, _, _, _, hS⟩
  · have hnI : ¬ (2000 : Int) < (n : Int) := by omega
    replace hS := hS.dupRo i hi
    go_enter Tryd.func14, Tryd.ntmps14
    go_wp2_with (first | ((with_reducible show wpList _ _ _ (⟨_, Op.box _ _, _, _, _, _⟩ :: _) _ _); refine Does.list (does_box hS rfl rfl (by rfl)) rfl ?_; clear hS; rintro _ wx ⟨bo, rfl, hS, _⟩; (simp only [Act.put, List.setIfInBounds_toArray, List.set_cons_zero, List.set_cons_succ])))
    go_ret
    trace_state
    first | exact ⟨_, _, _, _, _, rfl, hS⟩ | exact ⟨_, _, _, _, hS⟩ | exact ⟨_, rfl, _, _, _, _, hS⟩
theorem nameOk_key : nameOk { data := #[107, 101, 121] } = true := by decide +kernel
set_option maxHeartbeats 1000000 in
theorem laws_alive (w : World) (hR : ResOk w) : Calls Tryd.prog 10 #[] w fun e w' => e = .returned (.bool true) ∧ Mod [] w w' := by
  go_enter Tryd.func10, Tryd.ntmps10
  go_wp2_with (go_at_call 20; refine (impl_NameValid _ (by decide) _ hR).mono ?_; rintro e w' ⟨rfl, hM⟩)
  go_ret
  exact ⟨ret_bool nameOk_key, hM⟩


















end Go.Proofs.YtnbaekjednmfjaaDoor
end

section
namespace Go.Proofs.YtnbaekjednmfjaaDoor
open Go.RowKit

section
variable {w w0 : World} {Γ : List Fact} {α : Type}
theorem Sat.takeOne {e : Rep α} {A : Option Addr} {c : Nat} {x : α} (he : e.size = 1) (h : Sat w0 w (.own e.rows [.slice A 1 c] [x] :: Γ)) : ∃ ad v, A = some ad ∧ Sat w0 w (.own e [v] x :: .at ad [v] :: Γ) := by
  obtain ⟨R, O, ⟨O1, O2, rfl, k1, k2⟩, h2, h3, h4, h5⟩ := h
  rcases k1 with ⟨_, hxs, _⟩ | ⟨g, off, cap, cur, t, ces, F', hv, rfl, hh, hle, hcm, hsz, hce, htk⟩
  · cases hxs
  simp only [List.cons.injEq, Value.slice.injEq, and_true] at hv
  obtain ⟨rfl, _, rfl⟩ := hv
  obtain ⟨F1, F2, c1, c2, rfl, rfl, hx, hn⟩ := hce
  obtain ⟨rfl, rfl⟩ := hn
  have grow : ∀ {Γ : List Fact} {O}, holdAll w R Γ O → holdAll w (R ++ [g]) Γ O := by
    intro Γ
    induction Γ with
    | nil => intro O h; exact h
    | cons f Γ ih =>
      rintro O ⟨O1, O2, rfl, h1, h2⟩
      refine ⟨O1, O2, rfl, ?_, ih h2⟩
      cases f with
      | own e cs x => exact h1
      | ro e cs x => obtain ⟨rfl, F, k1, k2⟩ := h1; exact ⟨rfl, F, k1, fun g hg => by simp [k2 g hg]⟩
      | box b cs => exact h1
      | «at» ad cs => obtain ⟨rfl, k1, k2⟩ := h1; exact ⟨rfl, by simp [k1], k2⟩
      | set r ks => exact h1
  have hl := e.len hx
  rw [he] at hl
  obtain ⟨v, rfl⟩ := List.length_eq_one_iff.1 hl
  simp only [List.append_nil] at h2 h3 htk
  have hgO : ∀ g' ∈ F1 ++ O2, g' ∈ (g :: F1) ++ O2 := fun g' hg => by rcases List.mem_append.1 hg with h | h <;> simp [h]
  have hnd : (g :: (F1 ++ O2)).Nodup := h2.1
  refine ⟨_, v, rfl, R ++ [g], F1 ++ O2, ⟨F1, O2, rfl, hx, [], O2, rfl, ⟨rfl, by simp, RowHas.cells hh htk⟩, grow k2⟩, ⟨(List.nodup_cons.1 hnd).2, fun g' hg => h2.2 g' (hgO g' hg)⟩, fun g' hg => ⟨fun hr => ?_, (h3 g' (hgO g' hg)).2⟩, fun g' hg => ?_, h5⟩
  · rcases List.mem_append.1 hr with h | h
    · exact (h3 g' (hgO g' hg)).1 h
    · rw [List.mem_singleton.1 h] at hg
      exact (List.nodup_cons.1 hnd).1 hg
  · rcases List.mem_append.1 hg with h | h
    · exact h4 g' h
    · rw [List.mem_singleton.1 h]
      exact h2.lt g (by simp)
end

set_option maxHeartbeats 1000000 in
theorem spec_odd (w : World) (br : Nat) (A : Option Addr) (nr cr p : Nat) (n : Int) (hr : Rd br A nr cr p w) (hp : p ≤ 1000000000) (hn0 : 0 ≤ n) (hn : n ≤ 1000000000) :
    Calls Tryd.prog 29 #[.pointer (some ⟨br, 0, none⟩), .int .i64 n] w fun e w' => (∃ b, e = .returned (.bool b) ∧ (n = 0 → b = false)) ∧ (∃ p', p' ≤ p + 1 ∧ Rd br A nr cr p' w') ∧ Mod [br] w w' := by
  obtain ⟨code, hl, hS⟩ := hr.enter
  by_cases h : 0 < n
  · clear hr
    have hw : IntKind.i64.wrap (n - 1) = n - 1 := IntWalk.i64_in _ (by omega)
    go_enter Tryd.func29, Tryd.ntmps29
    go_wp2_with (first | (go_at_call 28; obtain ⟨hrd, up⟩ := Sat.rdF hS br; refine (spec_pick _ br _ _ _ _ _ hrd (by omega) (by omega)).mono ?_; rintro e w' ⟨⟨x, rfl, hx0, hx1, hx2⟩, hrd2, hM⟩; replace hS := (up _ _ hrd2 hM).1; clear up hrd hrd2 hM; (simp only [List.set_cons_zero, List.set_cons_succ] at hS)))
    go_ret
    exact ⟨⟨_, rfl, by omega⟩, ⟨p + 1, by omega, (Sat.exitRd (p := p + 1) (code := code) (Γ := []) (show Sat (bare w) _ [.box br [.slice A nr cr, .int .i64 ((p + 1 : Nat) : Int)], .ro (Rep.frame w [br]) [] (), .ro Rep.u8.slice [.slice A nr cr] code] from hS.sel [1, 2, 0] rfl (by decide))).1⟩, (Sat.exitRd (p := p + 1) (code := code) (Γ := []) (show Sat (bare w) _ [.box br [.slice A nr cr, .int .i64 ((p + 1 : Nat) : Int)], .ro (Rep.frame w [br]) [] (), .ro Rep.u8.slice [.slice A nr cr] code] from hS.sel [1, 2, 0] rfl (by decide))).2⟩
  · go_enter Tryd.func29, Tryd.ntmps29
    go_wp2_with (first | ((with_reducible show wpList _ _ _ (⟨_, Op.box _ _, _, _, _, _⟩ :: _) _ _); refine Does.list (does_box hS rfl rfl (by rfl)) rfl ?_; clear hS; rintro _ wx ⟨bo, rfl, hS, _⟩; (simp only [Act.put, List.setIfInBounds_toArray, List.set_cons_zero, List.set_cons_succ])))
    go_ret
    first | exact ⟨⟨_, rfl, fun _ => rfl⟩, ⟨p, by omega, hr⟩, (Mod.refl _ _)⟩ | exact ⟨Or.inl rfl, ⟨p, by omega, hr⟩, (Mod.refl _ _)⟩

set_option maxHeartbeats 4000000 in
set_option maxRecDepth 8000 in
theorem spec_l20Rows (w : World) (br : Nat) (A : Option Addr) (nr cr p wide many : Nat) (hr : Rd br A nr cr p w) (hp : p ≤ 800000000) (hw : wide ≤ 100) (hm : many ≤ 100) :
    Calls Tryd.prog 41 #[.pointer (some ⟨br, 0, none⟩), .int .i64 ((wide : Nat) : Int), .int .i64 ((many : Nat) : Int)] w fun e w' => ∃ v xs, e = .returned v ∧ (xs.length = many ∧ ∀ r ∈ xs, r.length = wide) ∧ NewIn Rep.int.rows.rows w w' [v] xs ∧ (∃ p', p' ≤ p + 40000 ∧ Rd br A nr cr p' w') ∧ Mod [br] w w' := by
  obtain ⟨code, hl, hS⟩ := hr.enter
  clear hr
  go_enter Tryd.func41, Tryd.ntmps41
  go_wp2_with (first | ((with_reducible show wpList _ _ _ (⟨_, Op.buildSlice _ _ _, _, _, _, _⟩ :: _) _ _); refine Does.list (does_buildSlice (X := ?_) (cs := ?_) (E := ?_) hS rfl ?_ ?_) rfl ?_; rotate_left 3; (go_simp; rfl); rfl; clear hS; rintro _ wx ⟨bx, rfl, hS, _⟩; (simp only [Act.put, List.setIfInBounds_toArray, List.set_cons_zero, List.set_cons_succ])))
  replace hS := (Sat.vec0 Rep.int.rows hS).lit (Nat.zero_le _)
  go_loopw [8, 7] (fun i s wr => ∃ (k : Nat) (rows : List (List Int)) (B : Option Addr) (d p2 : Nat), i = .int .i64 k ∧ s = .slice B rows.length d ∧ (k = rows.length ∧ k ≤ many ∧ ∀ r ∈ rows, r.length = wide) ∧ p2 ≤ p + 400 * k ∧ Sat (bare w) wr [.own Rep.int.rows.rows [.slice B rows.length d] rows, .ro Rep.u8.slice [.slice A nr cr] code, .box br [.slice A nr cr, .int .i64 ((p2 : Nat) : Int)], .ro (Rep.frame w [br]) [] ()]) (fun i _ _ => many - (intOf i).toNat)
  case atStart => exact ⟨0, [], _, _, p, rfl, rfl, ⟨rfl, Nat.zero_le _, by simp⟩, by omega, hS.sel [0, 1, 2, 3] rfl (by decide)⟩
  case round =>
    clear hS
    obtain ⟨k, rows, B, d, p2, rfl, rfl, ⟨hkr, hkm, hrw⟩, hpx, hS⟩ := hrel
    have Hrw := Lib.hid hrw
    have Hkr := Lib.hid hkr
    have hrl : rows.length ≤ 100 := by omega
    clear hrw hkr
    by_cases hk : k < many
    · go_wp2_with (first | ((with_reducible show wpList _ _ _ (⟨_, Op.buildSlice _ _ _, _, _, _, _⟩ :: _) _ _); refine Does.list (does_buildSlice (X := ?_) (cs := ?_) (E := ?_) hS rfl ?_ ?_) rfl ?_; rotate_left 3; (go_simp; rfl); rfl; clear hS; rintro _ wx ⟨bx, rfl, hS, _⟩; (simp only [Act.put, List.setIfInBounds_toArray, List.set_cons_zero, List.set_cons_succ])))
      replace hS := (Sat.vec0 Rep.int hS).lit (Nat.zero_le _)
      replace hS : Sat (bare w) _ [.own Rep.int.rows [.slice (some ⟨bx, 0, none⟩) 0 0] [], .own Rep.int.rows.rows [.slice B rows.length d] rows, .ro Rep.u8.slice [.slice A nr cr] code, .box br [.slice A nr cr, .int .i64 ((p2 : Nat) : Int)], .ro (Rep.frame w [br]) [] ()] := hS.sel [0, 1, 2, 3, 4] rfl (by decide)
      go_loopw [10, 9] (fun i s wr => ∃ (j : Nat) (row : List Int) (B2 : Option Addr) (d2 p3 : Nat), i = .int .i64 j ∧ s = .slice B2 row.length d2 ∧ (j = row.length ∧ j ≤ wide) ∧ p3 ≤ p2 + 4 * j ∧ Sat (bare w) wr [.own Rep.int.rows [.slice B2 row.length d2] row, .own Rep.int.rows.rows [.slice B rows.length d] rows, .ro Rep.u8.slice [.slice A nr cr] code, .box br [.slice A nr cr, .int .i64 ((p3 : Nat) : Int)], .ro (Rep.frame w [br]) [] ()]) (fun i _ _ => wide - (intOf i).toNat)
      case atStart => exact ⟨0, [], _, _, p2, rfl, rfl, ⟨rfl, Nat.zero_le _⟩, by omega, hS⟩
      case round =>
        clear hS
        obtain ⟨j, row, B2, d2, p3, rfl, rfl, ⟨hjr, hjw⟩, hp3, hS⟩ := hrel
        have Hjr := Lib.hid hjr
        have hjl : row.length ≤ 100 := by omega
        clear hjr
        by_cases hj : j < wide
        · go_wp2_with (first | ((with_reducible show wpList _ _ _ (⟨_, Op.load _ _, _, _, _, _⟩ :: _) _ _); (first | refine Gives.list (f_load hS rfl rfl (by rfl)) rfl ?_ | refine Gives.list (f_loadS hS rfl rfl (by rfl)) rfl ?_ | refine Gives.list (f_loadAt hS rfl rfl) rfl ?_ | refine Gives.list (f_loadAtS hS rfl rfl (by rfl)) rfl ?_ | refine Gives.list (f_loadAtF hS rfl rfl (by rfl)) rfl ?_); (simp only [Act.put, List.setIfInBounds_toArray, List.set_cons_zero, List.set_cons_succ])) | ((with_reducible show wpList _ _ _ (⟨_, Op.buildSlice _ _ _, _, _, _, _⟩ :: _) _ _); refine Does.list (does_buildSlice (X := ?_) (cs := ?_) (E := ?_) hS rfl ?_ ?_) rfl ?_; rotate_left 3; (go_simp; rfl); rfl; clear hS; rintro _ wx ⟨bx, rfl, hS, _⟩; (simp only [Act.put, List.setIfInBounds_toArray, List.set_cons_zero, List.set_cons_succ])) | (go_at_call 28; (with_reducible show Calls _ _ #[_, Value.int IntKind.i64 4] _ _); obtain ⟨hrd, up⟩ := Sat.rdF hS br; refine (spec_pick _ br _ _ _ _ _ hrd (by omega) (by omega)).mono ?_; rintro e w' ⟨⟨xa, rfl, hxa0, hxa1, hxa2⟩, hrd2, hM⟩; replace hS := (up _ _ hrd2 hM).1; clear up hrd hrd2 hM; (simp only [List.set_cons_zero, List.set_cons_succ] at hS)) | ((go_at_call 28; (with_reducible show Calls _ _ #[_, Value.int IntKind.i64 7] _ _); obtain ⟨hrd, up⟩ := Sat.rdF hS br; refine (spec_pick _ br _ _ _ _ _ hrd (by omega) (by omega)).mono ?_; rintro e w' ⟨⟨xb, rfl, hxb0, hxb1, hxb2⟩, hrd2, hM⟩; replace hS := (up _ _ hrd2 hM).1; clear up hrd hrd2 hM; (simp only [List.set_cons_zero, List.set_cons_succ] at hS)); have hwb : IntKind.i64.wrap (xb - 3) = xb - 3 := IntWalk.i64_in _ (by omega)) | (go_at_call 28; (with_reducible show Calls _ _ #[_, Value.int IntKind.i64 256] _ _); obtain ⟨hrd, up⟩ := Sat.rdF hS br; refine (spec_pick _ br _ _ _ _ _ hrd (by omega) (by omega)).mono ?_; rintro e w' ⟨⟨xc, rfl, hxc0, hxc1, hxc2⟩, hrd2, hM⟩; replace hS := (up _ _ hrd2 hM).1; clear up hrd hrd2 hM; (simp only [List.set_cons_zero, List.set_cons_succ] at hS)) | ((go_at_call 28; (with_reducible show Calls _ _ #[_, Value.int IntKind.i64 5] _ _); obtain ⟨hrd, up⟩ := Sat.rdF hS br; refine (spec_pick _ br _ _ _ _ _ hrd (by omega) (by omega)).mono ?_; rintro e w' ⟨⟨xd, rfl, hxd0, hxd1, hxd2⟩, hrd2, hM⟩; replace hS := (up _ _ hrd2 hM).1; clear up hrd hrd2 hM; (simp only [List.set_cons_zero, List.set_cons_succ] at hS)); rcases (show xd = 0 ∨ xd = 1 ∨ xd = 2 ∨ xd = 3 ∨ xd = 4 by omega) with rfl | rfl | rfl | rfl | rfl) | ((with_reducible show wpList _ _ _ (⟨_, Op.call { callee := Callee.builtin Builtin.append, args := _, argTypes := _ }, _, _, _, _⟩ :: _) _ _); first | (replace hS := Sat.vec1 (hS.int (n := xa) (by unfold I64; omega)); refine Does.list (f_append Rep.int hS rfl rfl rfl rfl rfl (by decide) (by omega)) rfl ?_; clear hS; rintro _ wx ⟨A2, c2, rfl, hS⟩; (simp only [List.set_cons_zero, List.set_cons_succ] at hS); (simp only [Act.put, List.setIfInBounds_toArray, List.set_cons_zero, List.set_cons_succ])) | (replace hS := Sat.vec1 (hS.int (n := xb - 3) (by unfold I64; omega)); refine Does.list (f_append Rep.int hS rfl rfl rfl rfl rfl (by decide) (by omega)) rfl ?_; clear hS; rintro _ wx ⟨A2, c2, rfl, hS⟩; (simp only [List.set_cons_zero, List.set_cons_succ] at hS); (simp only [Act.put, List.setIfInBounds_toArray, List.set_cons_zero, List.set_cons_succ])) | (replace hS := Sat.vec1 (hS.int (n := xc) (by unfold I64; omega)); refine Does.list (f_append Rep.int hS rfl rfl rfl rfl rfl (by decide) (by omega)) rfl ?_; clear hS; rintro _ wx ⟨A2, c2, rfl, hS⟩; (simp only [List.set_cons_zero, List.set_cons_succ] at hS); (simp only [Act.put, List.setIfInBounds_toArray, List.set_cons_zero, List.set_cons_succ]))))
          all_goals
            go_roundw
            case rel => exact ⟨j + 1, row ++ [_], A2, c2, p3 + 1 + 1 + 1 + 1, by go_num, by rw [List.length_append]; rfl, ⟨by rw [List.length_append, ← Hjr.out]; rfl, hj⟩, by omega, by rw [List.length_append]; exact hS.sel [2, 3, 4, 5, 6] rfl (by decide)⟩
            case measure => simp [intOf]; omega
        · obtain rfl : j = wide := by omega
          go_wp2_with (first | ((with_reducible show wpList _ _ _ (⟨_, Op.buildSlice _ _ _, _, _, _, _⟩ :: _) _ _); refine Does.list (does_buildSlice (X := ?_) (cs := ?_) (E := ?_) hS rfl ?_ ?_) rfl ?_; rotate_left 3; (go_simp; rfl); rfl; clear hS; rintro _ wx ⟨bx, rfl, hS, _⟩; (simp only [Act.put, List.setIfInBounds_toArray, List.set_cons_zero, List.set_cons_succ])) | ((with_reducible show wpList _ _ _ (⟨_, Op.call { callee := Callee.builtin Builtin.append, args := _, argTypes := _ }, _, _, _, _⟩ :: _) _ _); replace hS := Sat.vec1 (show Sat (bare w) _ [.own Rep.int.rows [.slice B2 row.length d2] row, .box bx [.slice B2 row.length d2], .own Rep.int.rows.rows [.slice B rows.length d] rows, .ro Rep.u8.slice [.slice A nr cr] code, .box br [.slice A nr cr, .int .i64 ((p3 : Nat) : Int)], .ro (Rep.frame w [br]) [] ()] from hS.sel [1, 0, 2, 3, 4, 5] rfl (by decide)); refine Does.list (f_append Rep.int.rows hS rfl rfl rfl rfl rfl (by decide) (by omega)) rfl ?_; clear hS; rintro _ wx ⟨A2, c2, rfl, hS⟩; (simp only [List.set_cons_zero, List.set_cons_succ] at hS); (simp only [Act.put, List.setIfInBounds_toArray, List.set_cons_zero, List.set_cons_succ])))
          go_roundw
          case rel => exact ⟨k + 1, rows ++ [row], A2, c2, p3, by go_num, by rw [List.length_append]; rfl, ⟨by rw [List.length_append, ← Hkr.out]; rfl, hk, by intro r hr; rcases List.mem_append.1 hr with h | h; exact Hrw.out r h; rw [List.mem_singleton.1 h]; exact Hjr.out.symm⟩, by omega, by rw [List.length_append]; exact hS.sel [0, 1, 2, 3] rfl (by decide)⟩
          case measure => simp [intOf]; omega
    · obtain rfl : k = many := by omega
      go_wp2_with (first | ((with_reducible show wpList _ _ _ (⟨_, Op.box _ _, _, _, _, _⟩ :: _) _ _); refine Does.list (does_box hS rfl rfl (by rfl)) rfl ?_; clear hS; rintro _ wx ⟨bo, rfl, hS, _⟩; (simp only [Act.put, List.setIfInBounds_toArray, List.set_cons_zero, List.set_cons_succ])))
      go_ret
      obtain ⟨h1, h2, h3⟩ := Sat.exitNew (Γ := [.ro Rep.u8.slice [.slice A nr cr] code]) (hS.sel [0, 2, 3, 1] rfl (by decide))
      exact ⟨_, rows, rfl, ⟨Hkr.out.symm, Hrw.out⟩, h1, ⟨p2, by omega, h2, (hS.rdUp (i := 2) (j := 1) rfl rfl).1.2⟩, h3⟩
end Go.Proofs.YtnbaekjednmfjaaDoor
end
