/- Parts of slices; elements stored into rows of a call's own: rules of the walk. No function of the program occurs here. -/
import Derived.Test.YthabgnhedmepjaaDoorApnd
namespace Go.Proofs.YthabgnhedmepjaaDoor
open Go.RowKit

section
variable {P : Program} {w w0 : World} {T E : TypeId} {z : Value} {by_ : Nat} {ag : Bool} {α : Type} {e : Rep α} {Γ : List Fact} {o : Oper} {a : Act}
def BoundIs (a : Act) (lo : Option Operand) (dflt l : Nat) : Prop :=
  match lo with
  | none => l = dflt
  | some x => a.eval x = .int .i64 (l : Int)
def cutAt (A : Option Addr) (l c s : Nat) : Option Addr := if c = l then A else A.map (·.add (l * s))
theorem run_cut (hT : SlTy P T E) {n : Nat} (hE : Ty P E z n ag) {A : Option Addr} {m c l h : Nat} {lo hi : Option Operand} (hlo : BoundIs a lo 0 l) (hhi : BoundIs a hi m h) (h1 : l ≤ h) (h2 : h ≤ m) (h3 : m ≤ c) :
    (Instr.sliceAt T (.slice A m c) (lo.map a.eval) (hi.map a.eval) none).run P w = .ok (.slice (cutAt A l c n) (h - l) (c - l)) w := by
  have hu : P.underlying T = some (.slice (P.elem T)) := by
    have := hT.und
    simp [Program.elem, this]
  have he : P.elem T = E := by have := hT.und; simp [Program.elem, this]
  rw [run_sliceAt_slice w T _ _ _ _ hu]
  have hsz := run_sizeOf hE w
  rw [← he] at hsz
  cases lo with
  | none =>
    obtain rfl : l = 0 := hlo
    cases hi with
    | none =>
      obtain rfl : h = m := hhi
      simp only [Option.map_none]
      rw [run_slice_any w T A h c hu]
      simp [Instr.sliceBounds, hsz, sliced, cutAt]
    | some y =>
      simp only [Option.map_some, Option.map_none, show a.eval y = _ from hhi]
      rw [run_slice_h w T A m c hu .i64 h (by omega) (by omega), hsz]
      simp [sliced, cutAt]
  | some x =>
    have hx : a.eval x = .int .i64 (l : Int) := hlo
    cases hi with
    | none =>
      obtain rfl : h = m := hhi
      simp only [Option.map_some, Option.map_none, hx]
      rw [run_slice_l w T A h c hu .i64 l (by omega) (by omega), hsz]
      simp [sliced, cutAt]
    | some y =>
      simp only [Option.map_some, hx, show a.eval y = _ from hhi]
      rw [run_slice_lh w T A m c hu .i64 .i64 l h (by omega) (by omega) (by omega), hsz]
      simp [sliced, cutAt]
theorem SliceHas.cut {F : List Nat} {A : Option Addr} {n c l h : Nat} {xs : List α} (hx : SliceHas e w F [.slice A n c] xs) (h1 : l ≤ h) (h2 : h ≤ n) :
    ∃ F', SliceHas e w F' [.slice (cutAt A l c e.size) (h - l) (c - l)] ((xs.take h).drop l) ∧ ∀ g ∈ F', g ∈ F := by
  have hn := SliceHas.n hx
  obtain ⟨a', n', cap', ces, Fe, hv, k1, k2, k3, k4, k5⟩ := hx
  simp only [List.cons.injEq, Value.slice.injEq, and_true] at hv
  obtain ⟨rfl, rfl, rfl⟩ := hv
  have hlen : ((xs.take h).drop l).length = h - l := by simp; omega
  by_cases h0 : h - l = 0
  · have hnil : (xs.take h).drop l = [] := List.eq_nil_of_length_eq_zero (by omega)
    refine ⟨[], ⟨_, _, _, [], [], rfl, by rw [hlen], by omega, by omega, by rw [hnil]; exact ⟨rfl, rfl⟩, .inl ⟨h0, rfl⟩⟩, by simp⟩
  · rcases k5 with ⟨hz, _⟩ | ⟨ad, rfl, rfl, hb, hc⟩
    · omega
    have hsplit : xs = xs.take l ++ ((xs.take h).drop l ++ xs.drop h) := by
      rw [← List.append_assoc]
      have : xs.take l ++ (xs.take h).drop l = xs.take h := by
        have e1 : xs.take l = (xs.take h).take l := by rw [List.take_take, Nat.min_eq_left h1]
        rw [e1, List.take_append_drop]
      rw [this, List.take_append_drop]
    rw [hsplit] at k4
    obtain ⟨F1, F2, c1, c2, rfl, rfl, a1, a2⟩ := Rep.all_split k4
    obtain ⟨F3, F4, c3, c4, rfl, rfl, a3, a4⟩ := Rep.all_split a2
    have hl1 := Rep.all_len a1
    rw [List.length_take, Nat.min_eq_left (by omega)] at hl1
    refine ⟨ad.block :: F3, ⟨_, _, _, c3, F3, rfl, by rw [hlen], by omega, by omega, a3, .inr ⟨ad.add (l * e.size), ?_, by rw [add_block], by rw [add_block]; exact hb, ?_⟩⟩, fun g hg => by simp at hg ⊢; rcases hg with rfl | h <;> simp [*]⟩
    · unfold cutAt; rw [if_neg (by omega)]; rfl
    · intro j u hu
      rw [add_add']
      refine hc _ u ?_
      have hj : j < c3.length := (List.getElem?_eq_some_iff.1 hu).1
      rw [List.getElem?_append_right (by omega), hl1, Nat.add_sub_cancel_left, List.getElem?_append_left hj]
      exact hu
theorem Sat.cutRo {A : Option Addr} {n c l h : Nat} {xs : List α} (hS : Sat w0 w Γ) (i : Nat) (hi : Γ[i]? = some (.ro e.slice [.slice A n c] xs)) (h1 : l ≤ h) (h2 : h ≤ n) :
    Sat w0 w (.ro e.slice [.slice (cutAt A l c e.size) (h - l) (c - l)] ((xs.take h).drop l) :: Γ) := by
  obtain ⟨R, O, ⟨O1, O2, rfl, ⟨rfl, F, hF, hR⟩, k2⟩, k3, k4, k5, k6⟩ := hS.pull i hi
  obtain ⟨F', hF', hs⟩ := SliceHas.cut hF h1 h2
  have hS2 : Sat w0 w (.ro e.slice [.slice (cutAt A l c e.size) (h - l) (c - l)] ((xs.take h).drop l) :: .ro e.slice [.slice A n c] xs :: Γ.eraseIdx i) :=
    ⟨R, O2, ⟨[], O2, rfl, ⟨rfl, F', hF', fun g hg => hR g (hs g hg)⟩, [], O2, rfl, ⟨rfl, F, hF, hR⟩, k2⟩, k3, k4, k5, k6⟩
  exact hS2.perm ((perm_erase i hi).symm.cons _)
theorem does_slice {x : Operand} {lo hi : Option Operand} {A : Option Addr} {n c l h sz : Nat} {xs : List α} (i : Nat) (hS : Sat w0 w Γ) (ho : o.op = .slice T x lo hi none) (hx : a.eval x = .slice A n c) (hi' : Γ[i]? = some (.ro e.slice [.slice A n c] xs))
    (hlo : BoundIs a lo 0 l) (hhi : BoundIs a hi n h) (h1 : l ≤ h) (h2 : h ≤ n) [hT : SlTy P T E] [hE : Ty P E z sz ag] (hsz : sz = e.size) :
    Does P o a w (fun v w' => ∃ A' c', v = .slice A' (h - l) c' ∧ w' = w ∧ Sat w0 w (.ro e.slice [.slice A' (h - l) c'] ((xs.take h).drop l) :: Γ)) := by
  subst hsz
  have hc : n ≤ c := by
    obtain ⟨F, hF⟩ := (hS.pull i hi').readRo
    obtain ⟨a', n', cap', hv, h1, h2, h3⟩ := SliceHas.form hF
    simp only [Value.slice.injEq] at hv
    omega
  have hr := run_cut (w := w) (A := A) (a := a) hT hE hlo hhi h1 h2 hc
  refine ⟨_, w, ⟨_, _, rfl, rfl, hS.cutRo i hi' h1 h2⟩, .inl ?_⟩
  unfold execOp
  simp only [ho, hx, Sem.run_bind, Option.map_none, hr, Result.andThen_ok]
  rfl
/-- An element of one cell, stored into a row of one's own; what it holds is given up. -/
theorem does_storeEl {p x : Operand} {g off n c k : Nat} {xs : List α} {u : Value} {y : α} (i : Nat) (hS : Sat w0 w (.own e [u] y :: Γ)) (ho : o.op = .store T p x) (hp : a.eval p = .pointer (some ⟨g, off + k, none⟩)) (hx : a.eval x = u)
    (hi : Γ[i]? = some (.own e.rows [.slice (some ⟨g, off, none⟩) n c] xs)) [hT : Ty P T z 1 false] (hu : u.oneCell' = true) (h1 : e.size = 1) (hk : k < n) :
    Does P o a w (fun v w' => v = undef ∧ Sat w0 w' (Γ.set i (.own e.rows [.slice (some ⟨g, off, none⟩) n c] (xs.set k y)))) := by
  have hc := oneCell_cells hu
  have hp' : (Fact.own e [u] y :: Γ).Perm ([.own e.rows [.slice (some ⟨g, off, none⟩) n c] xs, .own e [u] y] ++ Γ.eraseIdx i) :=
    ((perm_erase i hi).cons _).trans (List.Perm.swap _ _ _)
  obtain ⟨R, O, hO, hG, hR, hRl, hfin⟩ := (hS.perm hp').opened
  obtain ⟨O1, O2, rfl, k1, O3, O4, rfl, k3, rfl⟩ := hO
  have hnn := RowHas.n k1
  have hkl : k < xs.length := by omega
  have hd : ∀ g ∈ O1, g ∉ O3 := fun g hg h3 => hG.apart g hg (by simp [h3])
  have hG3 : Good w O3 := hG.right.left
  rcases k1 with ⟨hv, hxs, hF⟩ | ⟨g', off', cap, cur, t, ces, F', hv, rfl, hh, hle, hcm, hsz, hce, htk⟩
  · subst hxs; simp at hkl
  simp only [List.cons.injEq, Value.slice.injEq, Option.some.injEq, Addr.mk.injEq, and_true] at hv
  obtain ⟨⟨rfl, rfl⟩, rfl, rfl⟩ := hv
  obtain ⟨Fa, Fk, Fb, ca, ck, cb, rfl, rfl, hl, ha, hh2, hb⟩ := Rep.all_get hce (k := k) hkl
  have hlen := e.len hh2
  rw [h1] at hlen hl hsz
  obtain ⟨u0, rfl⟩ : ∃ u, ck = [u] := by
    match ck, hlen with
    | [u], _ => exact ⟨u, rfl⟩
  have hcl : (ca ++ [u0] ++ cb).length = xs.length := by have := Rep.all_len hce; rw [h1] at this; omega
  have hcur : off + k < cur.size := by omega
  have hcell : (w.cell? ⟨g, off + k, none⟩).isSome = true := by
    rw [cell_of_row _ _ _ cur t (0, 0) hh, Array.getElem?_eq_getElem hcur]; rfl
  have hfr : ∀ j, w.frozen? ⟨g, j, none⟩ = false := fun j => hG.left.frozen (a := ⟨g, j, none⟩) (by simp)
  have hr := run_storeN (w := w) (g := g) (o := off + k) (v := u) hT (by rw [hc]; rfl) (by rw [hc]; simpa using hu) (fun j hj => (by obtain rfl : j = 0 := (by omega); exact hcell)) hfr
  rw [hc] at hr
  have hnd := List.nodup_cons.1 hG.left.1
  have hgO3 : g ∉ O3 := hd g (by simp)
  have hsame : ∀ g', g' ≠ g → (w.setCell ⟨g, off + k, none⟩ u).heap[g']? = w.heap[g']? := fun g' hg' => Below.heap_setCell _ _ _ _ hg'
  have hs1 : ∀ g' ∈ Fa ++ Fk ++ Fb, (w.setCell ⟨g, off + k, none⟩ u).heap[g']? = w.heap[g']? := fun g' hg' => hsame g' (by rintro rfl; exact hnd.1 hg')
  have hs3 : ∀ g' ∈ O3, (w.setCell ⟨g, off + k, none⟩ u).heap[g']? = w.heap[g']? := fun g' hg' => hsame g' (by rintro rfl; exact hgO3 hg')
  have hblk : (w.setCell ⟨g, off + k, none⟩ u).heap[g]? = some (.cells (cur.setIfInBounds (off + k) u) t (0, 0)) := by
    rw [World.setCell]; simp only [Array.getElem?_modify, if_true, hh]; rfl
  have hrow : RowHas e (w.setCell ⟨g, off + k, none⟩ u) (g :: (Fa ++ O3 ++ Fb)) [.slice (some ⟨g, off, none⟩) xs.length c] (xs.set k y) := by
    refine .inr ⟨g, off, c, _, t, ca ++ [u] ++ cb, Fa ++ O3 ++ Fb, by rw [List.length_set], rfl, hblk, by rw [List.length_set]; exact hle, hcm, by rw [h1, Array.size_setIfInBounds]; exact hsz, ?_, ?_⟩
    · have hxs : xs.set k y = xs.take k ++ y :: xs.drop (k + 1) := by rw [List.set_eq_take_append_cons_drop, if_pos hkl]
      rw [hxs, List.append_assoc, List.append_assoc]
      exact Rep.all_append (Rep.all_keep ha (fun g hg => hs1 g (by simp [hg]))) ⟨O3, Fb, [u], cb, rfl, rfl, e.keep k3 hs3, Rep.all_keep hb (fun g hg => hs1 g (by simp [hg]))⟩
    · have e1 : (cur.setIfInBounds (off + k) u).toList = cur.toList.set (off + k) u := by simp
      have e2 : ca ++ [u] ++ cb = (ca ++ [u0] ++ cb).set k u := by
        rw [List.append_assoc, List.append_assoc, List.set_append_right _ _ (by omega), hl, Nat.mul_one, Nat.sub_self]; rfl
      rw [e1, e2, List.length_set, List.drop_set, if_neg (by omega), Nat.add_sub_cancel_left, List.take_set, htk]
  have hgood : Good (w.setCell ⟨g, off + k, none⟩ u) (g :: (Fa ++ O3 ++ Fb)) := by
    have h2 : Good w (g :: (Fa ++ O3 ++ Fb)) := by
      refine ⟨?_, fun g' hg' => ?_⟩
      · have hn2 := hnd.2
        rw [List.nodup_append, List.nodup_append] at hn2
        have hd' : ∀ g' ∈ O3, g' ∉ Fa ∧ g' ∉ Fb := fun g' hg' => ⟨fun h => hd g' (by simp [h]) hg', fun h => hd g' (by simp [h]) hg'⟩
        rw [List.nodup_cons, List.nodup_append, List.nodup_append]
        refine ⟨fun hg => ?_, ⟨hn2.1.1, hG3.1, fun a ha b hb e => (hd' b hb).1 (e ▸ ha)⟩, hn2.2.1, fun a ha b hb e => ?_⟩
        · simp only [List.mem_append] at hg
          rcases hg with (hg | hg) | hg
          · exact hnd.1 (by simp [hg])
          · exact hgO3 hg
          · exact hnd.1 (by simp [hg])
        · rcases List.mem_append.1 ha with ha | ha
          · exact hn2.2.2 a (by simp [ha]) b hb e
          · exact (hd' a ha).2 (e ▸ hb)
      · simp only [List.mem_cons, List.mem_append] at hg'
        rcases hg' with rfl | (h | h) | h
        · exact hG.left.2 _ (by simp)
        · exact hG.left.2 _ (by simp [h])
        · exact hG3.2 _ h
        · exact hG.left.2 _ (by simp [h])
    exact h2.setCell _ _
  refine ⟨undef, w.setCell ⟨g, off + k, none⟩ u, ⟨rfl, Sat.perm (hfin _ [.own e.rows [.slice (some ⟨g, off, none⟩) xs.length c] (xs.set k y)] (g :: (Fa ++ O3 ++ Fb)) ⟨_, [], by simp, hrow, rfl⟩ hgood (fun g' hg' => .inl ?_) ?_) (perm_set i hi)⟩, .inr ⟨?_, rfl⟩⟩
  · simp only [List.mem_cons, List.mem_append] at hg' ⊢
    rcases hg' with rfl | (h | h) | h
    · exact .inl (.inl rfl)
    · exact .inl (.inr (.inl (.inl h)))
    · exact .inr (.inl h)
    · exact .inl (.inr (.inr h))
  · exact (Mod.refl _ _).setCell (by simp) u
  · unfold execOp
    simp only [ho, hp, hx, Sem.run_bind, hr, Result.andThen_ok]
    rfl

/-! ### Elements of slices that nobody writes, by type -/
theorem Sat.elemInt {A : Option Addr} {n c k : Nat} {xs : List Int} (h : Sat w0 w Γ) (i : Nat) (hi : Γ[i]? = some (.ro Rep.int.slice [.slice A n c] xs)) {x : Int} (hx : xs[k]? = some x) :
    ∃ ad, A = some ad ∧ I64 x ∧ Sat w0 w (.at (ad.add k) [.int .i64 x] :: Γ) := by
  obtain ⟨ad, ck, rfl, _, hS⟩ := h.elem i hi hx
  obtain ⟨F, rfl, rfl, hI⟩ := (hS.pull 1 rfl).readRo
  refine ⟨ad, rfl, hI, ?_⟩
  have := Sat.drop (hS.pull 1 rfl)
  simpa [Rep.int] using this
theorem Sat.elemBool {A : Option Addr} {n c k : Nat} {xs : List Bool} (h : Sat w0 w Γ) (i : Nat) (hi : Γ[i]? = some (.ro Rep.bool.slice [.slice A n c] xs)) {x : Bool} (hx : xs[k]? = some x) :
    ∃ ad, A = some ad ∧ Sat w0 w (.at (ad.add k) [.bool x] :: Γ) := by
  obtain ⟨ad, ck, rfl, _, hS⟩ := h.elem i hi hx
  obtain ⟨F, rfl, rfl⟩ := (hS.pull 1 rfl).readRo
  refine ⟨ad, rfl, ?_⟩
  have := Sat.drop (hS.pull 1 rfl)
  simpa [Rep.bool] using this
theorem Sat.elemStr {A : Option Addr} {n c k : Nat} {xs : List ByteArray} (h : Sat w0 w Γ) (i : Nat) (hi : Γ[i]? = some (.ro Rep.str.slice [.slice A n c] xs)) {x : ByteArray} (hx : xs[k]? = some x) :
    ∃ ad, A = some ad ∧ x.size ≤ maxLen ∧ Sat w0 w (.at (ad.add k) [.string x] :: Γ) := by
  obtain ⟨ad, ck, rfl, _, hS⟩ := h.elem i hi hx
  obtain ⟨F, rfl, rfl, hI⟩ := (hS.pull 1 rfl).readRo
  refine ⟨ad, rfl, hI, ?_⟩
  have := Sat.drop (hS.pull 1 rfl)
  simpa [Rep.str] using this
theorem Sat.elemU8 {A : Option Addr} {n c k : Nat} {xs : List UInt8} (h : Sat w0 w Γ) (i : Nat) (hi : Γ[i]? = some (.ro Rep.u8.slice [.slice A n c] xs)) {x : UInt8} (hx : xs[k]? = some x) :
    ∃ ad, A = some ad ∧ Sat w0 w (.at (ad.add k) [.int .u8 x.toNat] :: Γ) := by
  obtain ⟨ad, ck, rfl, _, hS⟩ := h.elem i hi hx
  obtain ⟨F, rfl, rfl⟩ := (hS.pull 1 rfl).readRo
  refine ⟨ad, rfl, ?_⟩
  have := Sat.drop (hS.pull 1 rfl)
  simpa [Rep.u8] using this
theorem Sat.elemSlice {A : Option Addr} {n c k : Nat} {xs : List (List α)} (h : Sat w0 w Γ) (i : Nat) (hi : Γ[i]? = some (.ro e.slice.slice [.slice A n c] xs)) {x : List α} (hx : xs[k]? = some x) :
    ∃ ad A' c', A = some ad ∧ x.length ≤ c' ∧ c' ≤ maxLen ∧ Sat w0 w (.at (ad.add k) [.slice A' x.length c'] :: .ro e.slice [.slice A' x.length c'] x :: Γ) := by
  obtain ⟨ad, ck, rfl, hl, hS⟩ := h.elem i hi hx
  obtain ⟨u, rfl⟩ : ∃ u, ck = [u] := by
    match ck, hl with
    | [u], _ => exact ⟨u, rfl⟩
  obtain ⟨F, hF⟩ := (hS.pull 1 rfl).readRo
  obtain ⟨A', n', c', rfl, rfl, h1, h2⟩ := SliceHas.form hF
  refine ⟨ad, A', c', rfl, h1, h2, ?_⟩
  simpa [Rep.slice] using hS
theorem Sat.formRo {A : Value} {xs : List α} (h : Sat w0 w Γ) (i : Nat) (hi : Γ[i]? = some (.ro e.slice [A] xs)) : ∃ A' c', A = .slice A' xs.length c' ∧ xs.length ≤ c' ∧ c' ≤ maxLen := by
  obtain ⟨F, hF⟩ := (h.pull i hi).readRo
  obtain ⟨A', n', c', rfl, rfl, h1, h2⟩ := SliceHas.form hF
  exact ⟨A', c', rfl, h1, h2⟩
theorem Sat.formOwn {A : Value} {xs : List α} (h : Sat w0 w Γ) (i : Nat) (hi : Γ[i]? = some (.own e.rows [A] xs)) : ∃ A' c', A = .slice A' xs.length c' := by
  obtain ⟨R, O, ⟨O1, O2, rfl, k1, _⟩, _⟩ := h.pull i hi
  exact RowHas.form k1
theorem Sat.formOwnN {A : Value} {xs : List α} {n : Nat} (h : Sat w0 w Γ) (i : Nat) (hi : Γ[i]? = some (.own e.rows [A] xs)) (hn : xs.length = n) : ∃ A' c', A = .slice A' n c' := by subst hn; exact h.formOwn i hi
theorem get_some {α : Type} {xs : List α} {k : Nat} (h : k < xs.length) : xs[k]? = some xs[k] := List.getElem?_eq_getElem h
theorem Sat.swap {f g : Fact} (h : Sat w0 w (f :: g :: Γ)) : Sat w0 w (g :: f :: Γ) := h.perm (List.Perm.swap _ _ _)
theorem Sat.roInt {cs : List Value} {n : Int} (h : Sat w0 w (.ro Rep.int cs n :: Γ)) : cs = [.int .i64 n] ∧ I64 n ∧ Sat w0 w Γ := by
  obtain ⟨F, rfl, rfl, hI⟩ := h.readRo
  exact ⟨rfl, hI, h.drop⟩
theorem Sat.roBool {cs : List Value} {b : Bool} (h : Sat w0 w (.ro Rep.bool cs b :: Γ)) : cs = [.bool b] ∧ Sat w0 w Γ := by
  obtain ⟨F, rfl, rfl⟩ := h.readRo
  exact ⟨rfl, h.drop⟩
theorem Sat.roStr {cs : List Value} {s : ByteArray} (h : Sat w0 w (.ro Rep.str cs s :: Γ)) : cs = [.string s] ∧ s.size ≤ maxLen ∧ Sat w0 w Γ := by
  obtain ⟨F, rfl, rfl, hI⟩ := h.readRo
  exact ⟨rfl, hI, h.drop⟩
theorem Sat.roSl {cs : List Value} {xs : List α} (h : Sat w0 w (.ro e.slice cs xs :: Γ)) : ∃ A c, cs = [.slice A xs.length c] ∧ Sat w0 w (.ro e.slice [.slice A xs.length c] xs :: Γ) := by
  obtain ⟨F, hF⟩ := h.readRo
  obtain ⟨u, rfl⟩ := Rep.one_cell rfl hF
  obtain ⟨A', n', c', rfl, rfl, h1, h2⟩ := SliceHas.form hF
  exact ⟨A', c', rfl, h⟩
theorem Sat.ownInt {cs : List Value} {n : Int} (h : Sat w0 w (.own Rep.int cs n :: Γ)) : cs = [.int .i64 n] ∧ I64 n ∧ Sat w0 w Γ := by
  obtain ⟨F, _, rfl, hI⟩ := h.readOwn Rep.int
  exact ⟨rfl, hI, h.drop⟩
theorem Sat.ownBool {cs : List Value} {b : Bool} (h : Sat w0 w (.own Rep.bool cs b :: Γ)) : cs = [.bool b] ∧ Sat w0 w Γ := by
  obtain ⟨F, _, rfl⟩ := h.readOwn Rep.bool
  exact ⟨rfl, h.drop⟩
theorem Sat.ownStr {cs : List Value} {s : ByteArray} (h : Sat w0 w (.own Rep.str cs s :: Γ)) : cs = [.string s] ∧ s.size ≤ maxLen ∧ Sat w0 w Γ := by
  obtain ⟨F, _, rfl, hI⟩ := h.readOwn Rep.str
  exact ⟨rfl, hI, h.drop⟩
theorem Sat.ownSl {cs : List Value} {xs : List α} (h : Sat w0 w (.own e.rows cs xs :: Γ)) : ∃ A c, cs = [.slice A xs.length c] ∧ Sat w0 w (.own e.rows [.slice A xs.length c] xs :: Γ) := by
  obtain ⟨F, hF⟩ := h.readOwn e.rows
  obtain ⟨u, rfl⟩ := Rep.one_cell rfl hF
  obtain ⟨A', c', rfl⟩ := RowHas.form hF
  exact ⟨A', c', rfl, h⟩
theorem Sat.hasRo {cs : List Value} {x : α} (h : Sat w0 w Γ) (i : Nat) (hi : Γ[i]? = some (.ro e cs x)) : ∃ F, e.has w F cs x := (h.pull i hi).readRo
theorem Sat.hasOwn {cs : List Value} {x : α} (h : Sat w0 w Γ) (i : Nat) (hi : Γ[i]? = some (.own e cs x)) : ∃ F, e.has w F cs x := (h.pull i hi).readOwn e
theorem Sat.formW {v : Value} {xs : List α} (h : Sat w0 w Γ) (i : Nat) (hi : Γ[i]? = some (.own e.slice [v] xs)) : ∃ A c, v = .slice A xs.length c := by
  obtain ⟨F, hF⟩ := h.hasOwn i hi
  obtain ⟨A, n, c, rfl, rfl, _⟩ := SliceHas.form hF
  exact ⟨A, c, rfl⟩
/-- A datum of one's own, to be changed in place. -/
theorem Sat.markAt {cs : List Value} {x : α} (h : Sat w0 w Γ) (i : Nat) (hi : Γ[i]? = some (.own e cs x)) :
    ∃ F, e.has w F cs x ∧ Good w F ∧ ∀ w' x', e.has w' F cs x' → Good w' F → Mod F w w' → Sat w0 w' (Γ.set i (.own e cs x')) := by
  obtain ⟨R, O, hO, hG, hR, hRl, hfin⟩ := Sat.opened (Γ1 := [.own e cs x]) (h.pull i hi)
  obtain ⟨O1, O2, rfl, k1, rfl⟩ := hO
  refine ⟨O1, k1, hG.left, fun w' x' h1 h2 h3 => ?_⟩
  exact Sat.perm (hfin w' [.own e cs x'] O1 ⟨O1, [], by simp, h1, rfl⟩ h2 (fun g hg => .inl (by simp [hg])) (h3.mono (fun g hg _ => by simp [hg]))) (perm_set i hi)
theorem Fresh.mod0 {cs : List Value} {x : α} {w' : World} (h : Fresh e w w' cs x) : Mod [] w w' := by
  obtain ⟨F, _, _, _, h4⟩ := h
  exact h4
theorem Fresh.weak {e' : Rep α} [hs : Sub e e'] {cs : List Value} {x : α} {w' : World} (h : Fresh e w w' cs x) : Fresh e' w w' cs x := by
  obtain ⟨F, h1, h2, h3, h4⟩ := h
  exact ⟨F, hs.imp h1, h2, h3, h4⟩
theorem append_same {β : Type} {a b c d : List β} (h : a ++ b = c ++ d) (hl : a.length = c.length) : a = c ∧ b = d := List.append_inj h hl
/-- Two results in new memory. -/
theorem Sat.fresh2 {β : Type} {b : Rep β} {c1 c2 : List Value} {x : α} {y : β} {w' : World} (h : Sat w0 w Γ) (hx : Fresh (e.pair b) w w' (c1 ++ c2) (x, y)) (hl : c1.length = e.size) : Sat w0 w' (.own e c1 x :: .own b c2 y :: Γ) := by
  obtain ⟨d1, d2, he, hd, hS⟩ := (h.fresh hx).split
  obtain ⟨rfl, rfl⟩ := append_same he (by rw [hl, hd])
  exact hS
end
end Go.Proofs.YthabgnhedmepjaaDoor
