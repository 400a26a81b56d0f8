/- Networks that sort: plain laws (merge exchange, by zeros and ones). No function of the program occurs here. -/
import Derived.Test.YtldknaajnnohiaaDoorMem
import Derived.Test.YtldknaajnnohiaaDoorPSa
section
namespace Go.Proofs.YtldknaajnnohiaaDoor

/-! ### Zeros and ones -/
def c01 (f : Nat → Bool) (i j : Nat) : Nat → Bool := fun x => if x = i then f i && f j else if x = j then f i || f j else f x
def par (S : Nat → Bool) (d : Nat) (f : Nat → Bool) (N : Nat) : Nat → Bool := fun x =>
  if S x = true ∧ x < N then f x && f (x + d) else if d ≤ x ∧ S (x - d) = true ∧ x - d < N then f (x - d) || f x else f x
def parI (S : Nat → Bool) (d : Nat) (f : Nat → Bool) : Nat → Bool := fun x =>
  if S x = true then f x && f (x + d) else if d ≤ x ∧ S (x - d) = true then f (x - d) || f x else f x
section
variable {S : Nat → Bool} {d N n : Nat} {f : Nat → Bool}
theorem par_zero : par S d f 0 = f := by
  funext x
  unfold par
  rw [if_neg (by omega), if_neg (by omega)]
theorem par_skip (h : S N = false) : par S d f (N + 1) = par S d f N := by
  funext x
  unfold par
  have e1 : (S x = true ∧ x < N + 1) ↔ (S x = true ∧ x < N) := by
    constructor
    · rintro ⟨h1, h2⟩
      refine ⟨h1, ?_⟩
      have : x ≠ N := by rintro rfl; rw [h] at h1; cases h1
      omega
    · rintro ⟨h1, h2⟩; exact ⟨h1, by omega⟩
  have e2 : (d ≤ x ∧ S (x - d) = true ∧ x - d < N + 1) ↔ (d ≤ x ∧ S (x - d) = true ∧ x - d < N) := by
    constructor
    · rintro ⟨h0, h1, h2⟩
      refine ⟨h0, h1, ?_⟩
      have : x - d ≠ N := by intro e; rw [e, h] at h1; cases h1
      omega
    · rintro ⟨h0, h1, h2⟩; exact ⟨h0, h1, by omega⟩
  simp only [e1, e2]
theorem par_succ (hS : ∀ x, S x = true → S (x + d) = false) (hd : 0 < d) (h : S N = true) : c01 (par S d f N) N (N + d) = par S d f (N + 1) := by
  have h1 : par S d f N N = f N := by
    unfold par
    rw [if_neg (by omega), if_neg]
    rintro ⟨h1, h2, _⟩
    have := hS _ h2
    rw [Nat.sub_add_cancel h1, h] at this
    cases this
  have h2 : par S d f N (N + d) = f (N + d) := by
    unfold par
    rw [if_neg (by rw [hS _ h]; simp), if_neg (by omega)]
  funext x
  unfold c01
  rw [h1, h2]
  by_cases hx : x = N
  · subst hx
    rw [if_pos rfl]
    unfold par
    rw [if_pos ⟨h, by omega⟩]
  · rw [if_neg hx]
    by_cases hx2 : x = N + d
    · subst hx2
      rw [if_pos rfl]
      unfold par
      rw [if_neg (by rw [hS _ h]; simp), if_pos ⟨by omega, by rw [Nat.add_sub_cancel]; exact h, by omega⟩, Nat.add_sub_cancel]
    · rw [if_neg hx2]
      unfold par
      have e1 : (S x = true ∧ x < N + 1) ↔ (S x = true ∧ x < N) := by constructor <;> rintro ⟨h1, h2⟩ <;> exact ⟨h1, by omega⟩
      have e2 : (d ≤ x ∧ S (x - d) = true ∧ x - d < N + 1) ↔ (d ≤ x ∧ S (x - d) = true ∧ x - d < N) := by constructor <;> rintro ⟨h0, h1, h2⟩ <;> exact ⟨h0, h1, by omega⟩
      simp only [e1, e2]
theorem par_fold (hS : ∀ x, S x = true → S (x + d) = false) (hd : 0 < d) : ∀ N, ((List.range N).filter S).foldl (fun g i => c01 g i (i + d)) f = par S d f N
  | 0 => par_zero.symm
  | N + 1 => by
    rw [List.range_succ, List.filter_append, List.foldl_append, par_fold hS hd N]
    cases h : S N
    · rw [par_skip h]; simp [h]
    · rw [← par_succ hS hd h]; simp [h]
/-- Behind n all is one. -/
def OneAt (n : Nat) (f : Nat → Bool) : Prop := ∀ x, n ≤ x → f x = true
theorem parI_one (h : OneAt n f) : OneAt n (parI S d f) := by
  intro x hx
  unfold parI
  split
  · rw [h x hx, h (x + d) (by omega)]; rfl
  · split
    · rw [h x hx]; simp
    · exact h x hx
theorem par_parI (hS : ∀ x, S x = true → S (x + d) = false) (h : OneAt n f) : par S d f (n - d) = parI S d f := by
  funext x
  unfold par parI
  by_cases hx : S x = true
  · by_cases hl : x < n - d
    · rw [if_pos ⟨hx, hl⟩, if_pos hx]
    · rw [if_neg (fun hh => hl hh.2), if_pos hx, if_neg, h (x + d) (by omega), Bool.and_true]
      rintro ⟨h1, h2, _⟩
      have := hS _ h2
      rw [Nat.sub_add_cancel h1, hx] at this
      cases this
  · rw [if_neg (fun hh => hx hh.1), if_neg hx]
    by_cases h1 : d ≤ x ∧ S (x - d) = true
    · rw [if_pos h1]
      by_cases hl : x - d < n - d
      · rw [if_pos ⟨h1.1, h1.2, hl⟩]
      · rw [if_neg (fun hh => hl hh.2.2), h x (by omega), Bool.or_true]
    · rw [if_neg h1, if_neg (fun hh => h1 ⟨hh.1, hh.2.1⟩)]
end

/-! ### Rows with steps -/
def SA (p : Nat) (x : Nat) : Bool := x / p % 2 == 0
def SB (p : Nat) (x : Nat) : Bool := x / p % 2 == 1
def St (p : Nat) (f : Nat → Bool) (e : Nat → Nat) : Prop := ∀ r, r < p → ∀ i, f (p * i + r) = decide (e r ≤ i)
def Two (p : Nat) (f : Nat → Bool) (e o : Nat → Nat) : Prop := ∀ r, r < p → ∀ i, f (2 * p * i + r) = decide (e r ≤ i) ∧ f (2 * p * i + p + r) = decide (o r ≤ i)
section
variable {p m n d : Nat} {f : Nat → Bool} {e o : Nat → Nat}
theorem div_even {r i : Nat} (hr : r < p) : (2 * p * i + r) / p % 2 = 0 := by
  have h : (2 * p * i + r) / p = 2 * i := by
    rw [show 2 * p * i = p * (2 * i) by rw [Nat.mul_comm 2 p, Nat.mul_assoc], Nat.mul_add_div (by omega), Nat.div_eq_of_lt hr, Nat.add_zero]
  omega
theorem div_odd {r i : Nat} (hr : r < p) : (2 * p * i + p + r) / p % 2 = 1 := by
  have h : (2 * p * i + p + r) / p = 2 * i + 1 := by
    rw [show 2 * p * i + p + r = p * (2 * i + 1) + r by rw [Nat.mul_add, Nat.mul_comm 2 p, Nat.mul_assoc, Nat.mul_one], Nat.mul_add_div (by omega), Nat.div_eq_of_lt hr, Nat.add_zero]
  omega
theorem SA_apart (hp : 0 < p) (x : Nat) (h : SA p x = true) : SA p (x + p) = false := by
  unfold SA at *
  rw [Nat.add_div_right _ hp]
  simp only [beq_iff_eq, beq_eq_false_iff_ne] at *
  omega
theorem SB_apart (hp : 0 < p) (hd : d + p = 2 * p * m) (hm : 0 < m) (x : Nat) (h : SB p x = true) : SB p (x + d) = false := by
  unfold SB at *
  have hd' : d = p * (2 * m - 1) := by
    have h2 : p * (2 * m - 1) + p = 2 * p * m := by
      obtain ⟨m, rfl⟩ : ∃ k, m = k + 1 := ⟨m - 1, by omega⟩
      rw [show 2 * (m + 1) - 1 = 2 * m + 1 by omega, ← Nat.mul_succ, Nat.mul_comm 2 p, Nat.mul_assoc]; rfl
    omega
  rw [hd', Nat.add_mul_div_left _ _ hp]
  simp only [beq_iff_eq, beq_eq_false_iff_ne] at *
  omega
theorem Two.stepA (h : Two p f e o) : Two p (parI (SA p) p f) (fun r => max (e r) (o r)) (fun r => min (e r) (o r)) := by
  intro r hr i
  obtain ⟨h1, h2⟩ := h r hr i
  constructor
  · unfold parI
    rw [if_pos (by unfold SA; rw [div_even hr]; rfl), h1, show 2 * p * i + r + p = 2 * p * i + p + r by omega, h2]
    rw [← Bool.decide_and]
    congr 1
    apply propext; dsimp only; omega
  · unfold parI
    rw [if_neg (by unfold SA; rw [div_odd hr]; decide), if_pos ⟨by omega, by rw [show 2 * p * i + p + r - p = 2 * p * i + r by omega]; unfold SA; rw [div_even hr]; rfl⟩, h2, show 2 * p * i + p + r - p = 2 * p * i + r by omega, h1]
    rw [← Bool.decide_or]
    congr 1
    apply propext; dsimp only; omega
theorem Two.stepB (h : Two p f e o) (hm : 0 < m) (hd : d + p = 2 * p * m) : Two p (parI (SB p) d f) (fun r => min (o r + m) (e r)) (fun r => max (o r) (e r - m)) := by
  intro r hr i
  obtain ⟨h1, h2⟩ := h r hr i
  constructor
  · unfold parI
    rw [if_neg (by unfold SB; rw [div_even hr]; decide)]
    by_cases hi : m ≤ i
    · obtain ⟨k, rfl⟩ : ∃ k, i = k + m := ⟨i - m, by omega⟩
      have hx : 2 * p * (k + m) + r = (2 * p * k + p + r) + d := by rw [Nat.mul_add]; omega
      have h3 := (h r hr k).2
      rw [if_pos ⟨by omega, by rw [hx, Nat.add_sub_cancel]; unfold SB; rw [div_odd hr]; rfl⟩, h1, hx, Nat.add_sub_cancel, h3, ← Bool.decide_or]
      congr 1
      apply propext; dsimp only; omega
    · have hx : ¬ d ≤ 2 * p * i + r := by
        obtain ⟨k, rfl⟩ : ∃ k, m = i + 1 + k := ⟨m - i - 1, by omega⟩
        rw [Nat.mul_add, Nat.mul_add, Nat.mul_one] at hd
        omega
      rw [if_neg (fun hh => hx hh.1), h1]
      congr 1
      apply propext; dsimp only; omega
  · unfold parI
    have hx : 2 * p * i + p + r + d = 2 * p * (i + m) + r := by rw [Nat.mul_add]; omega
    rw [if_pos (by unfold SB; rw [div_odd hr]; rfl), h2, hx, (h r hr (i + m)).1, ← Bool.decide_and]
    congr 1
    apply propext; dsimp only; omega
theorem St.two (h : St (2 * p) f e) : Two p f e (fun r => e (p + r)) := by
  intro r hr i
  exact ⟨h r (by omega) i, by rw [Nat.add_assoc]; exact h (p + r) (by omega) i⟩
theorem Two.st (h : Two p f e o) (h1 : ∀ r, r < p → o r ≤ e r ∧ e r ≤ o r + 1) : St p f (fun r => e r + o r) := by
  intro r hr y
  obtain ⟨h2, h3⟩ := h1 r hr
  rcases Nat.mod_two_eq_zero_or_one y with hy | hy
  · obtain ⟨i, rfl⟩ : ∃ i, y = 2 * i := ⟨y / 2, by omega⟩
    rw [show p * (2 * i) = 2 * p * i by rw [← Nat.mul_assoc, Nat.mul_comm p 2], (h r hr i).1]
    congr 1
    apply propext; dsimp only; omega
  · obtain ⟨i, rfl⟩ : ∃ i, y = 2 * i + 1 := ⟨y / 2, by omega⟩
    rw [show p * (2 * i + 1) = 2 * p * i + p by rw [Nat.mul_add, ← Nat.mul_assoc, Nat.mul_comm p 2, Nat.mul_one], (h r hr i).2]
    congr 1
    apply propext; dsimp only; omega
end

/-! ### The network -/
def stepA (n p : Nat) : List (Nat × Nat) := ((List.range (n - p)).filter (SA p)).map (fun i => (i, i + p))
def stepB (n p d : Nat) : List (Nat × Nat) := ((List.range (n - d)).filter (SB p)).map (fun i => (i, i + d))
/-- The steps with q = 2^(k+s) down to 2^(k+1). -/
def stB (n k : Nat) : Nat → List (Nat × Nat)
  | 0 => []
  | s + 1 => stepB n (2 ^ k) (2 ^ (k + s + 1) - 2 ^ k) ++ stB n k s
def stage (n t k : Nat) : List (Nat × Nat) := stepA n (2 ^ k) ++ stB n k (t - k)
def netD (n t : Nat) : Nat → List (Nat × Nat)
  | 0 => []
  | k + 1 => stage n t k ++ netD n t k
/-- The greatest power of two less than n, as an exponent. -/
def topOf (n : Nat) : Nat := Nat.log2 (n - 1)
def network (n : Nat) : List (Nat × Nat) := netD n (topOf n) (topOf n + 1)
def run01 (L : List (Nat × Nat)) (f : Nat → Bool) : Nat → Bool := L.foldl (fun g x => c01 g x.1 x.2) f
theorem run01_append (L M : List (Nat × Nat)) (f : Nat → Bool) : run01 (L ++ M) f = run01 M (run01 L f) := by unfold run01; rw [List.foldl_append]
section
variable {n t k s : Nat} {f : Nat → Bool} {e o : Nat → Nat}
theorem run_stepA {p : Nat} (hp : 0 < p) (h : OneAt n f) : run01 (stepA n p) f = parI (SA p) p f := by
  unfold run01 stepA
  rw [List.foldl_map, par_fold (SA_apart hp) hp, par_parI (SA_apart hp) h]
theorem run_stepB {p d m : Nat} (hp : 0 < p) (hd : d + p = 2 * p * m) (hm : 0 < m) (h : OneAt n f) : run01 (stepB n p d) f = parI (SB p) d f := by
  have hd0 : 0 < d := by
    have : 2 * p * 1 ≤ 2 * p * m := Nat.mul_le_mul_left _ hm
    omega
  unfold run01 stepB
  rw [List.foldl_map, par_fold (SB_apart hp hd hm) hd0, par_parI (SB_apart hp hd hm) h]
theorem run_stB : ∀ (s : Nat) (f : Nat → Bool) (e o : Nat → Nat), OneAt n f → Two (2 ^ k) f e o → (∀ r, r < 2 ^ k → o r ≤ e r ∧ e r ≤ o r + 2 ^ s) →
    ∃ e' o', OneAt n (run01 (stB n k s) f) ∧ Two (2 ^ k) (run01 (stB n k s) f) e' o' ∧ ∀ r, r < 2 ^ k → o' r ≤ e' r ∧ e' r ≤ o' r + 1
  | 0, f, e, o, h1, h2, h3 => ⟨e, o, h1, h2, by simpa using h3⟩
  | s + 1, f, e, o, h1, h2, h3 => by
    have hp : 0 < 2 ^ k := Nat.two_pow_pos k
    have hq : 2 ^ (k + s + 1) = 2 * 2 ^ k * 2 ^ s := by rw [Nat.pow_succ, Nat.pow_add, Nat.mul_comm, Nat.mul_assoc]
    have hs : 0 < 2 ^ s := Nat.two_pow_pos s
    have hle : 2 ^ k ≤ 2 ^ (k + s + 1) := Nat.pow_le_pow_right (by omega) (by omega)
    have hd : 2 ^ (k + s + 1) - 2 ^ k + 2 ^ k = 2 * 2 ^ k * 2 ^ s := by omega
    unfold stB
    rw [run01_append, run_stepB hp hd hs h1]
    refine run_stB s _ _ _ (parI_one h1) (h2.stepB hs hd) (fun r hr => ?_)
    have h4 := h3 r hr
    rw [Nat.pow_succ] at h4
    omega
theorem run_stage (hkt : k ≤ t) (hn : n ≤ 2 ^ (t + 1)) (h1 : OneAt n f) (h2 : St (2 ^ (k + 1)) f e) : ∃ e', OneAt n (run01 (stage n t k) f) ∧ St (2 ^ k) (run01 (stage n t k) f) e' := by
  have hp : 0 < 2 ^ k := Nat.two_pow_pos k
  rw [Nat.pow_succ, Nat.mul_comm] at h2
  have h3 := h2.two
  unfold stage
  rw [run01_append, run_stepA hp h1]
  have h5 := parI_one (S := SA (2 ^ k)) (d := 2 ^ k) h1
  have h4 := h3.stepA
  have hb : ∀ r, r < 2 ^ k → min (e r) (e (2 ^ k + r)) ≤ max (e r) (e (2 ^ k + r)) ∧ max (e r) (e (2 ^ k + r)) ≤ min (e r) (e (2 ^ k + r)) + 2 ^ (t - k) := by
    intro r hr
    refine ⟨by omega, ?_⟩
    have h6 := (h4 r hr (2 ^ (t - k))).1
    have h7 : 2 * 2 ^ k * 2 ^ (t - k) = 2 ^ (t + 1) := by rw [Nat.mul_assoc, ← Nat.pow_add, show k + (t - k) = t by omega, Nat.pow_succ, Nat.mul_comm]
    rw [h5 _ (by rw [h7]; omega)] at h6
    have h8 : max (e r) (e (2 ^ k + r)) ≤ 2 ^ (t - k) := of_decide_eq_true h6.symm
    omega
  obtain ⟨e', o', a1, a2, a3⟩ := run_stB (t - k) _ _ _ h5 h4 hb
  exact ⟨_, a1, a2.st a3⟩
theorem run_netD : ∀ (k : Nat) (f : Nat → Bool) (e : Nat → Nat), k ≤ t + 1 → n ≤ 2 ^ (t + 1) → OneAt n f → St (2 ^ k) f e → ∃ c, ∀ i, run01 (netD n t k) f i = decide (c ≤ i)
  | 0, f, e, _, _, _, h => ⟨e 0, fun i => by have := h 0 (by simp) i; simpa [netD, run01] using this⟩
  | k + 1, f, e, hk, hn, h1, h2 => by
    obtain ⟨e', a1, a2⟩ := run_stage (by omega) hn h1 h2
    unfold netD
    rw [run01_append]
    exact run_netD k _ e' (by omega) hn a1 a2
theorem topOf_le (n : Nat) : n ≤ 2 ^ (topOf n + 1) := by
  unfold topOf
  have := Nat.lt_log2_self (n := n - 1)
  omega
theorem topOf_eq (h1 : 2 ^ k < n) (h2 : n ≤ 2 ^ (k + 1)) : topOf n = k := by
  unfold topOf
  rw [Nat.log2_eq_iff (by have := Nat.two_pow_pos k; omega)]
  omega
theorem network_01 (h : OneAt n f) : ∃ c, ∀ i, run01 (network n) f i = decide (c ≤ i) := by
  refine run_netD _ f (fun r => if f r = true then 0 else 1) (Nat.le_refl _) (topOf_le n) h (fun r hr i => ?_)
  have hn := topOf_le n
  cases i with
  | zero => rw [Nat.mul_zero, Nat.zero_add]; cases hf : f r <;> simp [hf]
  | succ i =>
    rw [h _ (by have := Nat.le_mul_of_pos_right (2 ^ (topOf n + 1)) (Nat.succ_pos i); simp only [Nat.succ_eq_add_one] at this; omega)]
    symm
    apply decide_eq_true
    show (if f r = true then 0 else 1) ≤ i + 1
    split <;> omega
end

/-! ### Lists of anything -/
section
variable {α : Type} {lt : α → α → Bool}
def cmpx (lt : α → α → Bool) (l : List α) (x : Nat × Nat) : List α :=
  match l[x.1]?, l[x.2]? with
  | some a, some b => if lt b a = true then (l.set x.1 b).set x.2 a else l
  | _, _ => l
def extB (φ : α → Bool) (l : List α) : Nat → Bool := fun x => match l[x]? with
  | some a => φ a
  | none => true
theorem cmpx_len (l : List α) (x : Nat × Nat) : (cmpx lt l x).length = l.length := by
  unfold cmpx
  split
  · split <;> simp
  · rfl
theorem set_set_perm {l : List α} {i j : Nat} {a b : α} (ha : l[i]? = some a) (hb : l[j]? = some b) : ((l.set i b).set j a).Perm l := by
  classical
  rw [List.perm_iff_count]
  intro c
  obtain ⟨hi, ha'⟩ := List.getElem?_eq_some_iff.1 ha
  obtain ⟨hj, hb'⟩ := List.getElem?_eq_some_iff.1 hb
  rw [List.count_set (by simpa using hj), List.count_set hi]
  have h1 : (l.set i b)[j]'(by simpa using hj) = if i = j then b else l[j] := by rw [List.getElem_set]
  rw [h1, ha', hb']
  have hca : l[i] = a := ha'
  have h2 : 0 < l.count a := List.count_pos_iff.2 (by rw [← hca]; exact List.getElem_mem hi)
  simp only [ite_self, beq_iff_eq]
  by_cases h3 : a = c <;> by_cases h4 : b = c <;> simp [h3, h4] <;> (try subst h3) <;> omega
theorem cmpx_perm (l : List α) (x : Nat × Nat) : (cmpx lt l x).Perm l := by
  unfold cmpx
  split
  · rename_i a b h1 h2
    split
    · exact set_set_perm h1 h2
    · exact .refl _
  · exact .refl _
theorem ext_cmpx {φ : α → Bool} (hφ : ∀ a b, lt b a = false → φ a = true → φ b = true) (asym : ∀ a b, lt a b = true → lt b a = false) {l : List α} {i j : Nat} (hij : i < j) (hj : j < l.length) : extB φ (cmpx lt l (i, j)) = c01 (extB φ l) i j := by
  have hi : i < l.length := by omega
  have ei : l[i]? = some l[i] := List.getElem?_eq_getElem hi
  have ej : l[j]? = some l[j] := List.getElem?_eq_getElem hj
  have e1 : extB φ l i = φ l[i] := by unfold extB; rw [ei]
  have e2 : extB φ l j = φ l[j] := by unfold extB; rw [ej]
  funext x
  unfold c01
  rw [e1, e2]
  unfold cmpx
  dsimp only
  rw [ei, ej]
  dsimp only
  by_cases h : lt l[j] l[i] = true
  · rw [if_pos h]
    have hm := hφ l[j] l[i] (asym _ _ h)
    by_cases hx : x = i
    · subst hx
      rw [if_pos rfl]
      unfold extB
      rw [List.getElem?_set_ne (by omega), List.getElem?_set_self hi]
      dsimp only
      cases h1 : φ l[j] <;> cases h2 : φ l[x] <;> simp_all
    · rw [if_neg hx]
      by_cases hx2 : x = j
      · subst hx2
        rw [if_pos rfl]
        unfold extB
        rw [List.getElem?_set_self (by simpa using hj)]
        dsimp only
        cases h1 : φ l[x] <;> cases h2 : φ l[i] <;> simp_all
      · rw [if_neg hx2]
        unfold extB
        rw [List.getElem?_set_ne (Ne.symm hx2), List.getElem?_set_ne (Ne.symm hx)]
  · rw [if_neg h]
    have hm := hφ l[i] l[j] (by simpa using h)
    by_cases hx : x = i
    · subst hx
      rw [if_pos rfl, e1]
      cases h1 : φ l[j] <;> cases h2 : φ l[x] <;> simp_all
    · rw [if_neg hx]
      by_cases hx2 : x = j
      · subst hx2
        rw [if_pos rfl, e2]
        cases h1 : φ l[x] <;> cases h2 : φ l[i] <;> simp_all
      · rw [if_neg hx2]
def runL (lt : α → α → Bool) (L : List (Nat × Nat)) (l : List α) : List α := L.foldl (cmpx lt) l
theorem runL_len : ∀ (L : List (Nat × Nat)) (l : List α), (runL lt L l).length = l.length
  | [], _ => rfl
  | x :: L, l => by
    show (runL lt L (cmpx lt l x)).length = _
    rw [runL_len L, cmpx_len]
theorem runL_perm : ∀ (L : List (Nat × Nat)) (l : List α), (runL lt L l).Perm l
  | [], _ => .refl _
  | x :: L, l => (runL_perm L (cmpx lt l x)).trans (cmpx_perm l x)
theorem ext_runL {φ : α → Bool} (hφ : ∀ a b, lt b a = false → φ a = true → φ b = true) (asym : ∀ a b, lt a b = true → lt b a = false) : ∀ (L : List (Nat × Nat)) (l : List α), (∀ x ∈ L, x.1 < x.2 ∧ x.2 < l.length) → extB φ (runL lt L l) = run01 L (extB φ l)
  | [], _, _ => rfl
  | (i, j) :: L, l, h => by
    have h0 := h (i, j) (by simp)
    show extB φ (runL lt L (cmpx lt l (i, j))) = run01 L (c01 (extB φ l) i j)
    rw [ext_runL hφ asym L _ (fun x hx => by rw [cmpx_len]; exact h x (by simp [hx])), ext_cmpx hφ asym h0.1 h0.2]
end
theorem stepA_fit {n p : Nat} (hp : 0 < p) : ∀ x ∈ stepA n p, x.1 < x.2 ∧ x.2 < n := by
  intro x hx
  obtain ⟨i, hi, rfl⟩ := List.mem_map.1 hx
  have := List.mem_range.1 (List.mem_filter.1 hi).1
  dsimp only
  omega
theorem stepB_fit {n p d : Nat} (hd : 0 < d) : ∀ x ∈ stepB n p d, x.1 < x.2 ∧ x.2 < n := by
  intro x hx
  obtain ⟨i, hi, rfl⟩ := List.mem_map.1 hx
  have := List.mem_range.1 (List.mem_filter.1 hi).1
  dsimp only
  omega
theorem stB_fit {n k : Nat} : ∀ s, ∀ x ∈ stB n k s, x.1 < x.2 ∧ x.2 < n
  | 0, x, hx => by cases hx
  | s + 1, x, hx => by
    have hle : 2 ^ (k + 1) ≤ 2 ^ (k + s + 1) := Nat.pow_le_pow_right (by omega) (by omega)
    have hp : 0 < 2 ^ k := Nat.two_pow_pos k
    rw [Nat.pow_succ] at hle
    rcases List.mem_append.1 hx with h | h
    · exact stepB_fit (by omega) x h
    · exact stB_fit s x h
theorem netD_fit {n t : Nat} : ∀ k, ∀ x ∈ netD n t k, x.1 < x.2 ∧ x.2 < n
  | 0, x, hx => by cases hx
  | k + 1, x, hx => by
    rcases List.mem_append.1 hx with h | h
    · rcases List.mem_append.1 h with h | h
      · exact stepA_fit (Nat.two_pow_pos k) x h
      · exact stB_fit _ x h
    · exact netD_fit k x h
theorem network_fit {n : Nat} : ∀ x ∈ network n, x.1 < x.2 ∧ x.2 < n := netD_fit _
/-- The network sorts: an order that is not symmetric, and whose 'not before' is transitive. -/
theorem network_sorts {α : Type} {lt : α → α → Bool} (asym : ∀ a b, lt a b = true → lt b a = false) (neg : ∀ a b c, lt a c = true → lt a b = true ∨ lt b c = true) (l : List α) :
    (runL lt (network l.length) l).Pairwise (fun a b => lt b a = false) := by
  rw [List.pairwise_iff_getElem]
  intro i j hi hj hij
  have hlen := runL_len (lt := lt) (network l.length) l
  generalize hr : runL lt (network l.length) l = r at hi hj hlen ⊢
  cases hlt : lt r[j] r[i]
  · rfl
  exfalso
  let φ : α → Bool := fun x => !lt x r[i]
  have hφ : ∀ a b, lt b a = false → φ a = true → φ b = true := by
    intro a b h1 h2
    show (!lt b r[i]) = true
    have h2' : lt a r[i] = false := by simpa [φ] using h2
    cases h3 : lt b r[i]
    · rfl
    · rcases neg b a r[i] h3 with h4 | h4
      · rw [h1] at h4; cases h4
      · rw [h2'] at h4; cases h4
  have irr : ∀ a, lt a a = false := fun a => by
    cases h : lt a a
    · rfl
    · have := asym a a h; rw [h] at this; exact this
  have he := ext_runL hφ asym (network l.length) l network_fit
  rw [hr] at he
  have hone : OneAt l.length (extB φ l) := fun x hx => by
    unfold extB
    rw [List.getElem?_eq_none hx]
  obtain ⟨c, hc⟩ := network_01 hone
  rw [← he] at hc
  have h1 := hc i
  have h2 := hc j
  unfold extB at h1 h2
  rw [List.getElem?_eq_getElem hi] at h1
  rw [List.getElem?_eq_getElem hj] at h2
  have h3 : φ r[i] = true := by show (!lt r[i] r[i]) = true; rw [irr]; rfl
  have h4 : φ r[j] = false := by show (!lt r[j] r[i]) = false; rw [hlt]; rfl
  dsimp only at h1 h2
  rw [h3] at h1
  rw [h4] at h2
  have h5 := of_decide_eq_true h1.symm
  have h6 := of_decide_eq_false h2.symm
  omega
/-- Two lists with the same members, both in order, are the same. -/
theorem sorted_unique {α : Type} {lt : α → α → Bool} : ∀ {l m : List α}, (∀ a ∈ l, ∀ b ∈ l, lt a b = false → lt b a = false → a = b) → l.Perm m → l.Pairwise (fun a b => lt b a = false) → m.Pairwise (fun a b => lt b a = false) → l = m
  | [], m, _, hp, _, _ => by rw [List.nil_perm.1 hp]
  | a :: l, [], _, hp, _, _ => by have := hp.length_eq; simp at this
  | a :: l, b :: m, ht, hp, h1, h2 => by
    rw [List.pairwise_cons] at h1 h2
    have ha : a ∈ b :: m := hp.mem_iff.1 (by simp)
    have hb : b ∈ a :: l := hp.mem_iff.2 (by simp)
    have hab : a = b := by
      rcases List.mem_cons.1 ha with h | h
      · exact h
      · rcases List.mem_cons.1 hb with h' | h'
        · exact h'.symm
        · exact ht a (by simp) b hb (h2.1 a h) (h1.1 b h')
    subst hab
    rw [sorted_unique (fun x hx y hy => ht x (by simp [hx]) y (by simp [hy])) (List.perm_cons a |>.1 hp) h1.2 h2.2]
end Go.Proofs.YtldknaajnnohiaaDoor
end

section
namespace Go.Proofs.YtldknaajnnohiaaDoor

section
variable {n p d k t s : Nat}
theorem stepA_len : (stepA n p).length ≤ n := by
  unfold stepA
  rw [List.length_map]
  exact Nat.le_trans (List.length_filter_le _ _) (by rw [List.length_range]; omega)
theorem stepB_len : (stepB n p d).length ≤ n := by
  unfold stepB
  rw [List.length_map]
  exact Nat.le_trans (List.length_filter_le _ _) (by rw [List.length_range]; omega)
theorem stB_len : ∀ s, (stB n k s).length ≤ n * s
  | 0 => by simp [stB]
  | s + 1 => by
    have h1 := stB_len s
    have h2 := stepB_len (n := n) (p := 2 ^ k) (d := 2 ^ (k + s + 1) - 2 ^ k)
    rw [stB, List.length_append, Nat.mul_succ]
    omega
theorem stage_len : (stage n t k).length ≤ n * (t + 1) := by
  have h1 := stepA_len (n := n) (p := 2 ^ k)
  have h2 := stB_len (n := n) (k := k) (t - k)
  have h3 : n * (t - k) ≤ n * t := Nat.mul_le_mul (Nat.le_refl _) (Nat.sub_le _ _)
  rw [stage, List.length_append, Nat.mul_succ]
  omega
theorem netD_len : ∀ k, (netD n t k).length ≤ n * (t + 1) * k
  | 0 => by simp [netD]
  | k + 1 => by
    have h1 := netD_len k
    have h2 := stage_len (n := n) (t := t) (k := k)
    rw [netD, List.length_append, Nat.mul_succ]
    omega
theorem topOf_le8 (h : n ≤ 256) : topOf n ≤ 8 := by
  unfold topOf
  by_cases h0 : n - 1 = 0
  · rw [h0]; decide
  · have := (Nat.log2_lt h0 (k := 9)).2 (by omega)
    omega
theorem network_len (h : n ≤ 256) : (network n).length ≤ 25000 := by
  unfold network
  have h1 := netD_len (n := n) (t := topOf n) (topOf n + 1)
  have h2 := topOf_le8 h
  have h3 : n * (topOf n + 1) ≤ 256 * 9 := Nat.mul_le_mul h (by omega)
  have h4 : n * (topOf n + 1) * (topOf n + 1) ≤ 256 * 9 * 9 := Nat.mul_le_mul h3 (by omega)
  omega
/-- What a step has appended behind i numbers. -/
def upto (S : Nat → Bool) (d i : Nat) : List (Nat × Nat) := ((List.range i).filter S).map (fun i => (i, i + d))
theorem upto_yes {S : Nat → Bool} {i : Nat} (h : S i = true) : upto S d i ++ [(i, i + d)] = upto S d (i + 1) := by
  unfold upto
  rw [List.range_succ, List.filter_append, List.map_append]
  simp [h]
theorem upto_no {S : Nat → Bool} {i : Nat} (h : S i = false) : upto S d i = upto S d (i + 1) := by
  unfold upto
  rw [List.range_succ, List.filter_append, List.map_append]
  simp [h]
theorem upto_A : upto (SA p) p (n - p) = stepA n p := rfl
theorem upto_B : upto (SB p) d (n - d) = stepB n p d := rfl
theorem network_small (h : n < 2) : network n = [] := by
  have : n = 0 ∨ n = 1 := by omega
  rcases this with rfl | rfl <;> rfl
end
end Go.Proofs.YtldknaajnnohiaaDoor
end

section
namespace Go.Proofs.YtldknaajnnohiaaDoor

/-! ### Weak orders -/
section
variable {α : Type}
structure Weak (lt : α → α → Bool) : Prop where
  asym : ∀ a b, lt a b = true → lt b a = false
  neg : ∀ a b c, lt a c = true → lt a b = true ∨ lt b c = true
def comb (l1 l2 : α → α → Bool) (a b : α) : Bool := l1 a b || (!l1 b a && l2 a b)
theorem Weak.comb {l1 l2 : α → α → Bool} (h1 : Weak l1) (h2 : Weak l2) : Weak (comb l1 l2) := by
  constructor
  · intro a b h
    unfold Proofs.YtldknaajnnohiaaDoor.comb at h ⊢
    cases hab : l1 a b
    · rw [hab] at h
      cases hba : l1 b a
      · rw [hba] at h
        simp only [Bool.not_false, Bool.true_and, Bool.false_or] at h
        rw [h2.asym a b h]; rfl
      · rw [hba] at h; simp at h
    · rw [h1.asym a b hab]; rfl
  · intro a b c h
    unfold Proofs.YtldknaajnnohiaaDoor.comb at h ⊢
    cases hac : l1 a c
    · cases hab : l1 a b
      · cases hbc : l1 b c
        · cases hca : l1 c a
          · rw [hac, hca] at h
            simp only [Bool.not_false, Bool.true_and, Bool.false_or] at h
            have hba : l1 b a = false := by
              cases hba : l1 b a
              · rfl
              · rcases h1.neg b c a hba with h3 | h3
                · rw [hbc] at h3; cases h3
                · rw [hca] at h3; cases h3
            have hcb : l1 c b = false := by
              cases hcb : l1 c b
              · rfl
              · rcases h1.neg c a b hcb with h3 | h3
                · rw [hca] at h3; cases h3
                · rw [hab] at h3; cases h3
            rw [hba, hcb]
            simpa using h2.neg a b c h
          · rw [hac, hca] at h; simp at h
        · exact .inr (by simp)
      · exact .inl (by simp)
    · rcases h1.neg a b c hac with h3 | h3
      · exact .inl (by rw [h3]; rfl)
      · exact .inr (by rw [h3]; rfl)
theorem comb_lt {l1 l2 : α → α → Bool} {a b : α} (h : l1 a b = true) : comb l1 l2 a b = true := by unfold comb; rw [h]; rfl
theorem comb_gt {l1 l2 : α → α → Bool} {a b : α} (h1 : Weak l1) (h : l1 b a = true) : comb l1 l2 a b = false := by unfold comb; rw [h, h1.asym b a h]; rfl
theorem comb_eq {l1 l2 : α → α → Bool} {a b : α} (h1 : l1 a b = false) (h2 : l1 b a = false) : comb l1 l2 a b = l2 a b := by unfold comb; rw [h1, h2]; rfl
theorem comb_tie {l1 l2 : α → α → Bool} {a b : α} (h : comb l1 l2 a b = false) (h' : comb l1 l2 b a = false) : l1 a b = false ∧ l1 b a = false ∧ l2 a b = false ∧ l2 b a = false := by
  unfold comb at h h'
  cases h1 : l1 a b <;> cases h2 : l1 b a <;> rw [h1, h2] at h h' <;> simp_all
end
theorem Weak.key {α : Type} (f : α → Int) : Weak (fun a b => decide (f a < f b)) := by
  constructor
  · intro a b h
    have := of_decide_eq_true h
    exact decide_eq_false (by omega)
  · intro a b c h
    have := of_decide_eq_true h
    by_cases h2 : f a < f b
    · exact .inl (decide_eq_true h2)
    · exact .inr (decide_eq_true (by omega))
theorem Weak.none {α : Type} : Weak (fun _ _ : α => false) := ⟨fun _ _ h => (by cases h), fun _ _ _ h => (by cases h)⟩
/-- Rows by their values, first by the first one. -/
def lessL : List Int → List Int → Bool
  | [], [] => false
  | [], _ :: _ => true
  | _ :: _, [] => false
  | x :: xs, y :: ys => if x = y then lessL xs ys else decide (x < y)
theorem lessL_asym : ∀ a b : List Int, lessL a b = true → lessL b a = false
  | [], [], h => (by cases h)
  | [], _ :: _, _ => rfl
  | _ :: _, [], h => (by cases h)
  | x :: xs, y :: ys, h => by
    unfold lessL at h ⊢
    by_cases e : x = y
    · subst e
      simp only [if_true] at h ⊢
      exact lessL_asym xs ys h
    · rw [if_neg e] at h
      rw [if_neg (fun h => e h.symm)]
      have := of_decide_eq_true h
      exact decide_eq_false (by omega)
theorem lessL_neg : ∀ a b c : List Int, lessL a c = true → lessL a b = true ∨ lessL b c = true
  | [], [], _, h => .inr h
  | [], _ :: _, _, _ => .inl rfl
  | _ :: _, _, [], h => (by cases h)
  | _ :: _, [], _ :: _, _ => .inr rfl
  | x :: xs, y :: ys, z :: zs, h => by
    unfold lessL at h ⊢
    by_cases e1 : x = y
    · subst e1
      by_cases e2 : x = z
      · subst e2
        simp only [if_true] at h ⊢
        exact lessL_neg xs ys zs h
      · rw [if_neg e2] at h ⊢
        exact .inr h
    · by_cases e2 : y = z
      · subst e2
        rw [if_neg e1] at h ⊢
        exact .inl h
      · rw [if_neg e1, if_neg e2]
        by_cases e3 : x = z
        · subst e3
          by_cases hlt : x < y
          · exact .inl (decide_eq_true hlt)
          · exact .inr (decide_eq_true (by omega))
        · rw [if_neg e3] at h
          have := of_decide_eq_true h
          by_cases hlt : x < y
          · exact .inl (decide_eq_true hlt)
          · exact .inr (decide_eq_true (by omega))
theorem lessL_tie : ∀ a b : List Int, lessL a b = false → lessL b a = false → a = b
  | [], [], _, _ => rfl
  | [], _ :: _, h, _ => (by cases h)
  | _ :: _, [], _, h => (by cases h)
  | x :: xs, y :: ys, h, h' => by
    unfold lessL at h h'
    by_cases e : x = y
    · subst e
      simp only [if_true] at h h'
      rw [lessL_tie xs ys h h']
    · rw [if_neg e] at h
      rw [if_neg (fun h => e h.symm)] at h'
      have := of_decide_eq_false h
      have := of_decide_eq_false h'
      omega
theorem lessL_weak : Weak lessL := ⟨lessL_asym, lessL_neg⟩
/-- Walking down two rows: the first k values are the same. -/
theorem lessL_drop : ∀ (k : Nat) (a b : List Int), a.take k = b.take k → k ≤ a.length → k ≤ b.length → lessL a b = lessL (a.drop k) (b.drop k)
  | 0, _, _, _, _, _ => rfl
  | k + 1, [], _, _, h, _ => (by simp at h)
  | k + 1, _ :: _, [], _, _, h => (by simp at h)
  | k + 1, x :: xs, y :: ys, h, h1, h2 => by
    simp only [List.take_succ_cons, List.cons.injEq] at h
    simp only [List.length_cons] at h1 h2
    obtain ⟨rfl, h⟩ := h
    rw [show lessL (x :: xs) (x :: ys) = lessL xs ys by rw [lessL, if_pos rfl]]
    exact lessL_drop k xs ys h (by omega) (by omega)
theorem lessL_at {a b : List Int} {k : Nat} (ha : k < a.length) (hb : k < b.length) (h : a.take k = b.take k) (hne : a[k] ≠ b[k]) : lessL a b = decide (a[k] < b[k]) := by
  rw [lessL_drop k a b h (by omega) (by omega), List.drop_eq_getElem_cons ha, List.drop_eq_getElem_cons hb]
  unfold lessL
  rw [if_neg hne]
theorem lessL_end {a b : List Int} {k : Nat} (ha : k ≤ a.length) (hb : k ≤ b.length) (h : a.take k = b.take k) (hk : k = a.length ∨ k = b.length) : lessL a b = decide (a.length < b.length) := by
  rw [lessL_drop k a b h ha hb]
  rcases hk with rfl | rfl
  · rw [List.drop_length]
    rcases Nat.lt_or_ge a.length b.length with hl | hl
    · rw [List.drop_eq_getElem_cons hl]
      simp [lessL, hl]
    · rw [List.drop_of_length_le hl]
      simp [lessL]; omega
  · rw [List.drop_length]
    have : decide (a.length < b.length) = false := decide_eq_false (by omega)
    rw [this]
    cases a.drop b.length <;> rfl
theorem take_succ_same {a b : List Int} {k : Nat} (ha : k < a.length) (hb : k < b.length) (h : a.take k = b.take k) (he : a[k] = b[k]) : a.take (k + 1) = b.take (k + 1) := by
  rw [List.take_succ_eq_append_getElem ha, List.take_succ_eq_append_getElem hb, h, he]

/-! ### The order of rows of a padded table -/
abbrev RowB := List Int × Bool
def ltReal (a b : RowB) : Bool := a.2 && !b.2
theorem ltReal_weak : Weak ltReal := by
  constructor
  · rintro ⟨a, ra⟩ ⟨b, rb⟩ h
    cases ra <;> cases rb <;> simp_all [ltReal]
  · rintro ⟨a, ra⟩ ⟨b, rb⟩ ⟨c, rc⟩ h
    cases ra <;> cases rb <;> cases rc <;> simp_all [ltReal]
def keyOf (c : Int) (a : RowB) : Int := a.1.getD c.toNat 0
def ltKey (c : Int) (down : Bool) (a b : RowB) : Bool := decide (0 ≤ c) && (if down then decide (keyOf c b < keyOf c a) else decide (keyOf c a < keyOf c b))
theorem ltKey_weak (c : Int) (down : Bool) : Weak (ltKey c down) := by
  by_cases hc : 0 ≤ c
  · cases down
    · have h := Weak.key (keyOf c)
      exact ⟨fun a b h1 => by simp only [ltKey, hc, decide_true, Bool.true_and] at h1 ⊢; exact h.asym a b (by simpa using h1), fun a b d h1 => by simp only [ltKey, hc, decide_true, Bool.true_and] at h1 ⊢; exact h.neg a b d (by simpa using h1)⟩
    · have h := Weak.key (keyOf c)
      exact ⟨fun a b h1 => by simp only [ltKey, hc, decide_true, Bool.true_and] at h1 ⊢; exact h.asym b a (by simpa using h1), fun a b d h1 => by simp only [ltKey, hc, decide_true, Bool.true_and] at h1 ⊢; exact (h.neg d b a (by simpa using h1)).symm⟩
  · have e : ltKey c down = fun _ _ => false := by
      funext a b
      simp [ltKey, hc]
    rw [e]; exact Weak.none
def lexB (a b : RowB) : Bool := lessL a.1 b.1
theorem lexB_weak : Weak lexB := ⟨fun a b => lessL_asym a.1 b.1, fun a b c => lessL_neg a.1 b.1 c.1⟩
/-- Whether a row stands before another one. -/
def ltR (c : Int) (down : Bool) : RowB → RowB → Bool := comb ltReal (comb (ltKey c down) lexB)
theorem ltR_weak (c : Int) (down : Bool) : Weak (ltR c down) := ltReal_weak.comb ((ltKey_weak c down).comb lexB_weak)
theorem ltR_tie {c : Int} {down : Bool} (a b : RowB) (h : ltR c down a b = false) (h' : ltR c down b a = false) : a = b := by
  obtain ⟨h1, h2, h3, h4⟩ := comb_tie h h'
  obtain ⟨_, _, h5, h6⟩ := comb_tie h3 h4
  have e1 := lessL_tie _ _ h5 h6
  obtain ⟨a, ra⟩ := a
  obtain ⟨b, rb⟩ := b
  have e2 : ra = rb := by cases ra <;> cases rb <;> simp_all [ltReal]
  simp only at e1
  rw [e1, e2]
theorem ltR_real {c : Int} {down : Bool} {a b : RowB} (h : a.2 ≠ b.2) : ltR c down a b = a.2 := by
  obtain ⟨a, ra⟩ := a
  obtain ⟨b, rb⟩ := b
  cases ra <;> cases rb
  · exact absurd rfl h
  · exact comb_gt ltReal_weak rfl
  · exact comb_lt rfl
  · exact absurd rfl h
theorem ltR_same {c : Int} {down : Bool} {a b : RowB} (h : a.2 = b.2) : ltR c down a b = comb (ltKey c down) lexB a b := by
  refine comb_eq ?_ ?_
  · obtain ⟨a, ra⟩ := a
    obtain ⟨b, rb⟩ := b
    cases ra <;> cases rb <;> simp_all [ltReal]
  · obtain ⟨a, ra⟩ := a
    obtain ⟨b, rb⟩ := b
    cases ra <;> cases rb <;> simp_all [ltReal]
theorem ltR_key {c : Int} {down : Bool} {a b : RowB} (h : a.2 = b.2) (hc : 0 ≤ c) (hk : keyOf c a ≠ keyOf c b) : ltR c down a b = (decide (keyOf c a < keyOf c b) != down) := by
  rw [ltR_same h]
  rcases Int.lt_or_gt_of_ne hk with h1 | h1
  · cases down
    · rw [comb_lt (by simp [ltKey, hc, h1])]; simp [h1]
    · rw [comb_gt (ltKey_weak _ _) (by simp [ltKey, hc, h1])]; simp [h1]
  · cases down
    · rw [comb_gt (ltKey_weak _ _) (by simp [ltKey, hc]; omega)]; simp; omega
    · rw [comb_lt (by simp [ltKey, hc]; omega)]; simp; omega
theorem ltR_lex {c : Int} {down : Bool} {a b : RowB} (h : a.2 = b.2) (hk : 0 ≤ c → keyOf c a = keyOf c b) : ltR c down a b = lessL a.1 b.1 := by
  rw [ltR_same h]
  refine comb_eq ?_ ?_
  · by_cases hc : 0 ≤ c
    · simp [ltKey, hk hc]
    · simp [ltKey, hc]
  · by_cases hc : 0 ≤ c
    · simp [ltKey, hk hc]
    · simp [ltKey, hc]

/-! ### The sorted rows -/
def sortZ (c : Int) (down : Bool) (Z : List RowB) : List RowB := runL (ltR c down) (network Z.length) Z
theorem sortZ_len {c : Int} {down : Bool} {Z : List RowB} : (sortZ c down Z).length = Z.length := runL_len _ _
theorem sortZ_perm {c : Int} {down : Bool} {Z : List RowB} : (sortZ c down Z).Perm Z := runL_perm _ _
theorem sortZ_sorted {c : Int} {down : Bool} {Z : List RowB} : (sortZ c down Z).Pairwise (fun a b => ltR c down b a = false) := network_sorts (ltR_weak c down).asym (ltR_weak c down).neg Z
theorem sortZ_eq {c : Int} {down : Bool} {Z Y : List RowB} (hp : Y.Perm Z) (hs : Y.Pairwise (fun a b => ltR c down b a = false)) : Y = sortZ c down Z :=
  sorted_unique (fun a _ b _ h h' => ltR_tie a b h h') (hp.trans sortZ_perm.symm) hs sortZ_sorted
/-- What a stable sort of the places 0..n-1 leads to. -/
theorem sortZ_places {c : Int} {down : Bool} {Z : List RowB} {Y : List Nat} (d : RowB) (hp : Y.Perm (List.range Z.length)) (hs : Y.Pairwise (fun i j => ltR c down (Z.getD j d) (Z.getD i d) = false)) : Y.map (fun i => Z.getD i d) = sortZ c down Z := by
  refine sortZ_eq ?_ ?_
  · refine (hp.map _).trans ?_
    have : (List.range Z.length).map (fun i => Z.getD i d) = Z := by
      apply List.ext_getElem (by simp)
      intro i h1 h2
      simp [List.getD_eq_getElem?_getD, List.getElem?_eq_getElem h2]
    rw [this]
  · rw [List.pairwise_map]
    exact hs
theorem fst_zip {rows : List (List Int)} {real : List Bool} (h : real.length = rows.length) : (rows.zip real).map Prod.fst = rows := by
  rw [List.map_fst_zip]; omega
theorem snd_zip {rows : List (List Int)} {real : List Bool} (h : real.length = rows.length) : (rows.zip real).map Prod.snd = real := by
  rw [List.map_snd_zip]; omega
end Go.Proofs.YtldknaajnnohiaaDoor
end

section
namespace Go.Proofs.YtldknaajnnohiaaDoor
open Go.RowKit

/-- What the row condition of PaddedValid says of one row. -/
def rowOkZ (n : Nat) (a : RowB) : Bool := padRow n a.2 a.1
theorem paddedOk_all4 {ns : List ByteArray} {rows : List (List Int)} {real : List Bool} (h : paddedOk (ns, rows, real) = true) : namesOk ns = true ∧ rows.length ≤ 256 ∧ real.length = rows.length ∧ ∀ (i : Nat) (hi : i < rows.length) (hj : i < real.length), padRow ns.length real[i] rows[i] = true := by
  unfold paddedOk at h
  simp only [Bool.and_eq_true, decide_eq_true_eq] at h
  refine ⟨h.1, h.2.1, h.2.2.1, fun i hi hj => ?_⟩
  have h3 := h.2.2.2
  unfold padRows at h3
  rw [List.all_eq_true] at h3
  have h4 := h3 i (List.mem_range.2 hi)
  unfold padAt at h4
  rw [List.getD_eq_getElem?_getD, List.getD_eq_getElem?_getD, List.getElem?_eq_getElem hi, List.getElem?_eq_getElem hj] at h4
  exact h4
theorem padded_zip {ns : List ByteArray} {rows : List (List Int)} {real : List Bool} (h : paddedOk (ns, rows, real) = true) : ∀ a ∈ rows.zip real, rowOkZ ns.length a = true := by
  intro a ha
  obtain ⟨i, hi, rfl⟩ := List.mem_iff_getElem.1 ha
  obtain ⟨_, _, h3, h4⟩ := paddedOk_all4 h
  rw [List.length_zip] at hi
  rw [List.getElem_zip]
  exact h4 i (by omega) (by omega)
theorem padded_of_zip {ns : List ByteArray} {Z : List RowB} (h1 : namesOk ns = true) (h2 : Z.length ≤ 256) (h : ∀ a ∈ Z, rowOkZ ns.length a = true) : paddedOk (ns, Z.map Prod.fst, Z.map Prod.snd) = true := by
  refine paddedOk_t h1 (by rw [List.length_map]; exact h2) (by rw [List.length_map, List.length_map]) ?_
  unfold padRows
  rw [List.all_eq_true]
  intro k hk
  rw [List.mem_range, List.length_map] at hk
  unfold padAt
  rw [List.getD_eq_getElem?_getD, List.getD_eq_getElem?_getD, List.getElem?_eq_getElem (by rw [List.length_map]; exact hk), List.getElem?_eq_getElem (by rw [List.length_map]; exact hk), List.getElem_map, List.getElem_map]
  exact h _ (List.getElem_mem hk)
theorem rowOkZ_zero {n : Nat} {r : List Int} (h : rowOkZ n (r, false) = true) : r = List.replicate n 0 := by
  unfold rowOkZ padRow at h
  simp only [Bool.and_eq_true, decide_eq_true_eq, Bool.not_eq_true', List.any_eq_false] at h
  rw [List.eq_replicate_iff]
  refine ⟨h.1, fun x hx => ?_⟩
  have h2 := h.2 x hx
  unfold padBad at h2
  simp only [Bool.or_eq_true, Bool.and_eq_true, Bool.not_eq_true', decide_eq_true_eq, not_or] at h2
  simpa using h2.2
theorem rowOkZ_len {n : Nat} {a : RowB} (h : rowOkZ n a = true) : a.1.length = n := by
  unfold rowOkZ padRow at h
  simp only [Bool.and_eq_true, decide_eq_true_eq] at h
  exact h.1
/-- A padded table, sorted. -/
def sortP (c : Int) (down : Bool) (p : PaddedD) : PaddedD := (p.1, (sortZ c down (p.2.1.zip p.2.2)).map Prod.fst, (sortZ c down (p.2.1.zip p.2.2)).map Prod.snd)
theorem sortP_ok {c : Int} {down : Bool} {p : PaddedD} (h : paddedOk p = true) : paddedOk (sortP c down p) = true := by
  obtain ⟨ns, rows, real⟩ := p
  obtain ⟨h1, h2, h3, _⟩ := paddedOk_all4 h
  refine padded_of_zip h1 (by rw [sortZ_len, List.length_zip]; dsimp only; omega) (fun a ha => padded_zip h a (sortZ_perm.mem_iff.1 ha))
/-! ### Places -/
def zAt (rows : List (List Int)) (real : List Bool) (x : Int) : RowB := (rows.zip real).getD x.toNat ([], false)
theorem zAt_get {rows : List (List Int)} {real : List Bool} {i : Nat} (h : i < rows.length) (h' : i < real.length) : zAt rows real (i : Int) = (rows[i], real[i]) := by
  unfold zAt
  rw [Int.toNat_natCast, List.getD_eq_getElem?_getD, List.getElem?_eq_getElem (by rw [List.length_zip]; omega), List.getElem_zip]; rfl
def iota (n : Nat) : List Int := (List.range n).map (fun i : Nat => (i : Int))
theorem iota_len {n : Nat} : (iota n).length = n := by unfold iota; rw [List.length_map, List.length_range]
theorem iota_mem {n : Nat} {x : Int} (h : x ∈ iota n) : ∃ i : Nat, x = (i : Int) ∧ i < n := by
  obtain ⟨i, hi, rfl⟩ := List.mem_map.1 h
  exact ⟨i, rfl, List.mem_range.1 hi⟩
def fillI (k n : Nat) : List Int := iota k ++ List.replicate (n - k) 0
theorem fillI_zero (n : Nat) : fillI 0 n = List.replicate n 0 := by unfold fillI iota; simp
theorem fillI_end (n : Nat) : fillI n n = iota n := by unfold fillI; simp
theorem fillI_set {k n : Nat} (h : k < n) : (fillI k n).set k (k : Int) = fillI (k + 1) n := by
  unfold fillI
  have e : n - k = (n - (k + 1)) + 1 := by omega
  rw [e, List.replicate_succ, List.set_append_right _ _ (by rw [iota_len]; omega), iota_len, Nat.sub_self, List.set_cons_zero]
  have e2 : iota (k + 1) = iota k ++ [(k : Int)] := by unfold iota; rw [List.range_succ, List.map_append]; rfl
  rw [e2, List.append_assoc]; rfl
/-- Whether place x stands before place y. -/
def ltI (c : Int) (down : Bool) (rows : List (List Int)) (real : List Bool) (x y : Int) : Bool := ltR c down (zAt rows real x) (zAt rows real y)
theorem sortP_places {c : Int} {down : Bool} {ns : List ByteArray} {rows : List (List Int)} {real : List Bool} {Y : List Int} (hl : real.length = rows.length) (hp : Y.Perm (iota rows.length)) (hs : Y.Pairwise (fun x y => ltI c down rows real y x = false)) :
    (ns, Y.map (fun x => (zAt rows real x).1), Y.map (fun x => (zAt rows real x).2)) = sortP c down (ns, rows, real) := by
  have hZ : (rows.zip real).length = rows.length := by rw [List.length_zip]; omega
  have h := sortZ_places (c := c) (down := down) (Z := rows.zip real) (Y := Y.map Int.toNat) ([], false) (by
    rw [hZ]
    have h1 := hp.map Int.toNat
    have e : (iota rows.length).map Int.toNat = List.range rows.length := by
      unfold iota; rw [List.map_map]
      have : (Int.toNat ∘ fun i : Nat => (i : Int)) = id := by funext i; simp
      rw [this, List.map_id]
    rw [e] at h1; exact h1) (by rw [List.pairwise_map]; exact hs)
  rw [List.map_map] at h
  have e1 : Y.map (fun x => (zAt rows real x).1) = (sortZ c down (rows.zip real)).map Prod.fst := by rw [← h, List.map_map]; rfl
  have e2 : Y.map (fun x => (zAt rows real x).2) = (sortZ c down (rows.zip real)).map Prod.snd := by rw [← h, List.map_map]; rfl
  unfold sortP
  rw [e1, e2]
end Go.Proofs.YtldknaajnnohiaaDoor
end
