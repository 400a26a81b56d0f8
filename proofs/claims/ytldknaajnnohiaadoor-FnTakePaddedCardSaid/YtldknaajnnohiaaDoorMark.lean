/- Sizes, marks, and stores of single fields: plain words for the laws' sz.., mark.., held... No function of the program occurs here. -/
import Derived.Test.YtldknaajnnohiaaDoorMem
namespace Go.Proofs.YtldknaajnnohiaaDoor
open Go.RowKit

/-! ### Sizes -/
def szZ {α : Type} (_ : α) : Nat := 0
def szStr (s : ByteArray) : Nat := s.size
def szL {α : Type} (s : α → Nat) (xs : List α) : Nat := xs.length + (xs.map s).sum
theorem szL_len {α : Type} (s : α → Nat) (xs : List α) : xs.length ≤ szL s xs := by unfold szL; omega
theorem sum_get {α : Type} (s : α → Nat) : ∀ (xs : List α) (k : Nat) (h : k < xs.length), s xs[k] ≤ (xs.map s).sum
  | x :: xs, 0, _ => by simp
  | x :: xs, k + 1, h => by
    have := sum_get s xs k (by simpa using h)
    simp only [List.getElem_cons_succ, List.map_cons, List.sum_cons]
    omega
theorem szL_get {α : Type} (s : α → Nat) (xs : List α) (k : Nat) (h : k < xs.length) : s xs[k] ≤ szL s xs := by
  have := sum_get s xs k h
  unfold szL; omega
theorem sum_take_succ {α : Type} (s : α → Nat) (xs : List α) (k : Nat) (h : k < xs.length) : ((xs.take (k + 1)).map s).sum = ((xs.take k).map s).sum + s xs[k] := by
  rw [List.take_succ_eq_append_getElem h, List.map_append, List.sum_append]; simp
theorem sum_szZ {α : Type} (xs : List α) : (xs.map (szZ (α := α))).sum = 0 := by induction xs <;> simp_all [szZ]
/-- What is left of a size, or -1. -/
def SzR (left : Int) (n : Nat) (r : Int) : Prop := r = -1 ∨ (0 ≤ r ∧ r = left - n)

/-! ### Marks -/
def ct1 {α : Type} (_ : α) : Nat := 1
def ctL {α : Type} (c : α → Nat) (xs : List α) : Nat := (xs.map c).sum
def mkI (k : Int) (_ : Int) : Int := k
def mkB (k : Int) (_ : Bool) : Bool := k % 3 == 0
def mkL {α : Type} (m : Int → α → α) (c : α → Nat) : Int → List α → List α
  | _, [] => []
  | k, x :: xs => m k x :: mkL m c (k + (c x : Int)) xs
section
variable {α : Type} (m : Int → α → α) (c : α → Nat)
theorem mkL_len : ∀ (xs : List α) (k : Int), (mkL m c k xs).length = xs.length
  | [], _ => rfl
  | x :: xs, k => by simp [mkL, mkL_len xs]
theorem mkL_append : ∀ (xs ys : List α) (k : Int), mkL m c k (xs ++ ys) = mkL m c k xs ++ mkL m c (k + (ctL c xs : Int)) ys
  | [], ys, k => by simp [mkL, ctL]
  | x :: xs, ys, k => by
    have e : k + (c x : Int) + (ctL c xs : Int) = k + (ctL c (x :: xs) : Int) := by simp [ctL]; omega
    simp only [List.cons_append, mkL, mkL_append xs ys, e]
theorem mkL_succ (xs : List α) (k : Int) (i : Nat) (h : i < xs.length) : mkL m c k (xs.take (i + 1)) = mkL m c k (xs.take i) ++ [m (k + (ctL c (xs.take i) : Int)) xs[i]] := by
  rw [List.take_succ_eq_append_getElem h, mkL_append]; rfl
theorem ctL_succ (xs : List α) (i : Nat) (h : i < xs.length) : ctL c (xs.take (i + 1)) = ctL c (xs.take i) + c xs[i] := sum_take_succ c xs i h
theorem ctL_append (xs ys : List α) : ctL c (xs ++ ys) = ctL c xs + ctL c ys := by unfold ctL; rw [List.map_append, List.sum_append]
theorem ctL_take_le (xs : List α) (i : Nat) : ctL c (xs.take i) ≤ ctL c xs := by
  have h := ctL_append c (xs.take i) (xs.drop i)
  rw [List.take_append_drop] at h
  omega
theorem mkL_get (xs : List α) (k : Int) (i : Nat) (h : i < xs.length) : (mkL m c k xs)[i]'(by rw [mkL_len]; exact h) = m (k + (ctL c (xs.take i) : Int)) xs[i] := by
  have e : mkL m c k xs = mkL m c k (xs.take i) ++ (m (k + (ctL c (xs.take i) : Int)) xs[i] :: mkL m c (k + (ctL c (xs.take i) : Int) + (c xs[i] : Int)) (xs.drop (i + 1))) := by
    have hx : xs = xs.take i ++ (xs[i] :: xs.drop (i + 1)) := by rw [← List.drop_eq_getElem_cons h, List.take_append_drop]
    conv => lhs; rw [hx, mkL_append]
    rfl
  have hl : (mkL m c k (xs.take i)).length = i := by rw [mkL_len, List.length_take]; omega
  simp only [e]
  rw [List.getElem_append_right (by omega)]
  simp [hl]
end
theorem add_zero' (a : Addr) : a.add 0 = a := by simp [Addr.add]
theorem I64.mk {n : Int} (h0 : -4611686018427387904 ≤ n) (h1 : n ≤ 4611686018427387904) : I64 n := by unfold I64; omega

section
variable {α : Type} {e : Rep α} {w w' : World} {F G : List Nat} {xs : List α}
theorem Good.part (h : Good w F) (hm : Mod G w w') (hg : Good w' G) : Good w' F :=
  ⟨h.1, fun g hgF => by
    by_cases hG : g ∈ G
    · exact hg.2 g hG
    · rw [hm.block g (h.lt g hgF) hG]; exact h.2 g hgF⟩
/-- A store into cell j of element k, by the element's datum. -/
theorem SliceHas.store' {ad : Addr} {n cap k j : Nat} (h : SliceHas e w F [.slice (some ad) n cap] xs) (hF : Good w F) (hk : k < n) (hj : j < e.size) (u : Value) (x x' : α) (hx : xs[k]? = some x)
    (upd : ∀ (w : World) (Fk : List Nat) (ck : List Value), e.has w Fk ck x → e.has w Fk (ck.set j u) x') :
    (∃ old, w.cell? ((ad.add (k * e.size)).add j) = some old) ∧ w.frozen? ((ad.add (k * e.size)).add j) = false ∧
      SliceHas e (w.setCell ((ad.add (k * e.size)).add j) u) F [.slice (some ad) n cap] (xs.set k x') ∧ Good (w.setCell ((ad.add (k * e.size)).add j) u) F ∧ Mod F w (w.setCell ((ad.add (k * e.size)).add j) u) := by
  obtain ⟨ad', hE, _, h1, h2, h3, h4, h5⟩ := SliceHas.store h hF hk hj u x' (fun w Fk ck hh => upd w Fk ck (by
    have e0 := List.getElem?_eq_getElem (show k < xs.length by rw [h.n]; exact hk)
    rw [e0] at hx
    rw [← Option.some.inj hx]; exact hh))
  cases hE
  exact ⟨Option.isSome_iff_exists.1 h1, h2, h3, h4, h5⟩
/-- An element's own slices changed. -/
theorem SliceHas.inner {a : Option Addr} {n cap k : Nat} (h : SliceHas e w F [.slice a n cap] xs) (hF : Good w F) (hk : k < n) (x : α) (hx : xs[k]? = some x) :
    ∃ ad Fk ck, a = some ad ∧ ad.block < w.heap.size ∧ CellsAt w (ad.add (k * e.size)) ck ∧ e.has w Fk ck x ∧ Good w Fk ∧ (∀ g ∈ Fk, g ∈ F) ∧
      ∀ (w' : World) (x' : α), Mod Fk w w' → Good w' Fk → e.has w' Fk ck x' → SliceHas e w' F [.slice a n cap] (xs.set k x') ∧ Good w' F ∧ Mod F w w' := by
  have hn := h.n
  obtain ⟨a', n', cap', ces, Fe, hv, h1, h2, h3, h4, h5⟩ := h
  simp only [List.cons.injEq, Value.slice.injEq, and_true] at hv
  obtain ⟨rfl, rfl, rfl⟩ := hv
  rcases h5 with ⟨rfl, _⟩ | ⟨ad, rfl, rfl, hb, hc⟩
  · omega
  have hkx : k < xs.length := by omega
  have hxk : xs[k] = x := by rw [List.getElem?_eq_getElem hkx] at hx; exact Option.some.inj hx
  obtain ⟨Fa, Fk, Fb, ca, ck, cb, rfl, rfl, hl, ha, hh, hbb⟩ := Rep.all_get h4 (k := k) hkx
  rw [hxk] at hh
  have hnd := List.nodup_cons.1 hF.1
  have hn2 := hnd.2
  rw [List.nodup_append, List.nodup_append] at hn2
  refine ⟨ad, Fk, ck, rfl, hb, fun j u hu => ?_, hh, ⟨hn2.1.2.1, fun g hg => hF.2 g (by simp [hg])⟩, fun g hg => by simp [hg], fun w' x' hm hg' hh' => ?_⟩
  · rw [add_add']
    refine hc _ u ?_
    rw [← hl, List.append_assoc, List.getElem?_append_right (by omega), Nat.add_sub_cancel_left, List.getElem?_append_left (List.getElem?_eq_some_iff.1 hu).1]
    exact hu
  · have hF' : Good w' (ad.block :: (Fa ++ Fk ++ Fb)) := hF.part hm hg'
    have hsa : ∀ g ∈ Fa, w'.heap[g]? = w.heap[g]? := fun g hg => hm.block g (hF.lt g (by simp [hg])) (fun hk => hn2.1.2.2 g hg g hk rfl)
    have hsb : ∀ g ∈ Fb, w'.heap[g]? = w.heap[g]? := fun g hg => hm.block g (hF.lt g (by simp [hg])) (fun hk => hn2.2.2 g (by simp [hk]) g hg rfl)
    have hs0 : w'.heap[ad.block]? = w.heap[ad.block]? := hm.block _ hb (fun hk => hnd.1 (by simp [hk]))
    have hxs : xs.set k x' = xs.take k ++ x' :: xs.drop (k + 1) := by rw [List.set_eq_take_append_cons_drop, if_pos hkx]
    refine ⟨⟨_, _, cap, ca ++ ck ++ cb, Fa ++ Fk ++ Fb, rfl, by simpa using h1, h2, h3, ?_, .inr ⟨ad, rfl, rfl, Nat.lt_of_lt_of_le hb hm.size, hc.keep hs0⟩⟩, hF', hm.mono (fun g hg _ => by simp [hg])⟩
    rw [hxs, List.append_assoc, List.append_assoc]
    exact Rep.all_append (Rep.all_keep ha hsa) ⟨Fk, Fb, ck, cb, rfl, rfl, hh', Rep.all_keep hbb hsb⟩
theorem get_mid {α : Type} (p : List α) (xs : List α) (k : Nat) (hp : p.length = k) (hk : k < xs.length) : (p ++ xs.drop k)[k]? = some xs[k] := by
  subst hp
  rw [List.getElem?_append_right (Nat.le_refl _), Nat.sub_self, List.getElem?_drop]
  simp [hk]
theorem get_set {α : Type} (xs : List α) (k : Nat) (x : α) (hk : k < xs.length) : (xs.set k x)[k]? = some x := by simp [hk]
end
end Go.Proofs.YtldknaajnnohiaaDoor
