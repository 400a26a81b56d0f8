/- Stable sorting: blocks in order (plain laws). No function of the program occurs here. -/
import Derived.Test.YtldknaajnnohiaaDoorSrt
import Derived.Test.YtldknaajnnohiaaDoorSho
import Derived.Test.YtldknaajnnohiaaDoorSrtG
section
namespace Go.Proofs.YtldknaajnnohiaaDoor
open Go.RowKit

section
variable {α : Type} {le : α → α → Prop}
/-- The block number q of bs cells. -/
def blk (bs q : Nat) (xs : List α) : List α := (xs.drop (q * bs)).take bs
theorem drop_pre {pre rest : List α} {k : Nat} (h : k ≤ pre.length) : (pre ++ rest).drop k = pre.drop k ++ rest := by
  rw [List.drop_append_of_le_length h]
theorem blk_low {pre X post : List α} {bs Q q : Nat} (hp : pre.length = Q * bs) (hq : q < Q) : blk bs q (pre ++ X ++ post) = (pre.drop (q * bs)).take bs := by
  have h1 : (q + 1) * bs ≤ Q * bs := Nat.mul_le_mul_right bs hq
  rw [Nat.add_mul, Nat.one_mul] at h1
  unfold blk
  rw [List.append_assoc, drop_pre (by omega), List.take_append_of_le_length (by rw [List.length_drop]; omega)]
theorem blk_mid {pre X post : List α} {bs Q : Nat} (hp : pre.length = Q * bs) (h : X.length = bs ∨ (post = [] ∧ X.length ≤ bs)) : blk bs Q (pre ++ X ++ post) = X := by
  unfold blk
  rw [List.append_assoc, ← hp, List.drop_left]
  rcases h with h | ⟨rfl, h⟩
  · rw [← h, List.take_left]
  · rw [List.append_nil, List.take_of_length_le h]
theorem blk_high {pre X post : List α} {bs r : Nat} (h : pre.length + X.length ≤ r * bs) : blk bs r (pre ++ X ++ post) = (post.drop (r * bs - (pre.length + X.length))).take bs := by
  unfold blk
  rw [List.drop_append, List.drop_of_length_le (by rw [List.length_append]; exact h), List.nil_append, List.length_append]
/-- One more block put in order. -/
theorem blk_step {pre X Y post : List α} {bs Q : Nat} (hp : pre.length = Q * bs) (hY : Y.length = X.length) (h : X.length = bs ∨ (post = [] ∧ X.length ≤ bs)) (hs : Srt le Y) (hB : ∀ q, q < Q → Srt le (blk bs q (pre ++ X ++ post))) :
    ∀ q, q < Q + 1 → Srt le (blk bs q (pre ++ Y ++ post)) := by
  intro q hq
  rcases Nat.lt_or_ge q Q with h1 | h1
  · have := hB q h1
    rw [blk_low hp h1] at this ⊢
    exact this
  · obtain rfl : q = Q := by omega
    rw [blk_mid hp (by rw [hY]; exact h)]
    exact hs
theorem blk_keep {pre X Y post : List α} {bs R : Nat} (hY : Y.length = X.length) (hR : pre.length + X.length ≤ R * bs) (hB : ∀ r, R ≤ r → Srt le (blk bs r (pre ++ X ++ post))) : ∀ r, R ≤ r → Srt le (blk bs r (pre ++ Y ++ post)) := by
  intro r hr
  have h1 : R * bs ≤ r * bs := Nat.mul_le_mul_right bs hr
  have := hB r hr
  rw [blk_high (by omega)] at this
  rw [blk_high (by omega), hY]
  exact this
/-- All blocks stand in order. -/
theorem blk_all {xs : List α} {bs Q : Nat} (h : xs.length ≤ Q * bs) (hB : ∀ q, q < Q → Srt le (blk bs q xs)) : ∀ q, Srt le (blk bs q xs) := by
  intro q
  rcases Nat.lt_or_ge q Q with h1 | h1
  · exact hB q h1
  · have h2 : Q * bs ≤ q * bs := Nat.mul_le_mul_right bs h1
    unfold blk
    rw [List.drop_of_length_le (by omega), List.take_nil]
    exact List.Pairwise.nil
theorem blk_end {xs : List α} {bs : Nat} (h : xs.length ≤ bs) (hB : ∀ q, Srt le (blk bs q xs)) : Srt le xs := by
  have := hB 0
  unfold blk at this
  rw [Nat.zero_mul, List.drop_zero, List.take_of_length_le h] at this
  exact this
/-- A list of which three parts are told by places. -/
theorem parts3 (xs : List α) {a m b : Nat} (h1 : a ≤ m) (h2 : m ≤ b) (h3 : b ≤ xs.length) : ∃ pre L R post : List α, xs = pre ++ L ++ R ++ post ∧ pre.length = a ∧ L.length = m - a ∧ R.length = b - m ∧ post.length = xs.length - b := by
  refine ⟨xs.take a, (xs.drop a).take (m - a), (xs.drop m).take (b - m), xs.drop b, ?_, ?_, ?_, ?_, ?_⟩
  · have e1 : xs.drop m = (xs.drop m).take (b - m) ++ xs.drop b := by
      have := (List.take_append_drop (b - m) (xs.drop m)).symm
      rw [List.drop_drop, show m + (b - m) = b by omega] at this
      exact this
    have e2 : xs.drop a = (xs.drop a).take (m - a) ++ xs.drop m := by
      have := (List.take_append_drop (m - a) (xs.drop a)).symm
      rw [List.drop_drop, show a + (m - a) = m by omega] at this
      exact this
    have e3 := (List.take_append_drop a xs).symm
    rw [List.append_assoc, List.append_assoc, ← e1, ← e2, ← e3]
  · rw [List.length_take]; omega
  · rw [List.length_take, List.length_drop]; omega
  · rw [List.length_take, List.length_drop]; omega
  · rw [List.length_drop]
theorem parts2 (xs : List α) {a b : Nat} (h1 : a ≤ b) (h3 : b ≤ xs.length) : ∃ pre X post : List α, xs = pre ++ X ++ post ∧ pre.length = a ∧ X.length = b - a ∧ post.length = xs.length - b := by
  obtain ⟨pre, L, R, post, e, p1, p2, p3, p4⟩ := parts3 xs (Nat.le_refl a) h1 h3
  have : L = [] := List.eq_nil_of_length_eq_zero (by omega)
  subst this
  exact ⟨pre, R, post, by simpa using e, p1, p3, p4⟩
theorem perm_mid {pre X Y post : List α} (h : Y.Perm X) : (pre ++ Y ++ post).Perm (pre ++ X ++ post) := (h.append_left pre).append_right post
end
end Go.Proofs.YtldknaajnnohiaaDoor
end

section
namespace Go.Proofs.YtldknaajnnohiaaDoor
open Go.RowKit

set_option maxHeartbeats 8000000 in
set_option maxRecDepth 8000 in
theorem stable_w {w0 w : World} {Γ : List Fact} (g off N c bp bc : Nat) (D : Int → Prop) (lt : Int → Int → Bool) (hpre : Pre (leOf lt)) (hcmp : CmpOk w0 Γ g off N c bp bc D lt) (X : List Int) (hN : X.length = N) (hN2 : N ≤ 1000000000) (hD : ∀ z ∈ X, D z)
    (hS : Sat w0 w (.own Rep.int.rows [.slice (some ⟨g, off, none⟩) N c] X :: Γ)) :
    Calls Tryd.prog 185 #[.slice (some ⟨g, off, none⟩) N c, .int .i64 (N : Int), .func (.func 164) #[] #[.pointer (some ⟨bp, 0, none⟩), .pointer (some ⟨bc, 0, none⟩)]] w fun e w' => e = .returned (.tuple #[]) ∧ ∃ Y, Y.Perm X ∧ Srt (leOf lt) Y ∧ Sat w0 w' (.own Rep.int.rows [.slice (some ⟨g, off, none⟩) N c] Y :: Γ) := by
  have HX := Lib.hid hN
  have HD := Lib.hid hD
  clear hN hD
  go_enter Tryd.func185, Tryd.ntmps185
  go_wp2_with (first | ((with_reducible show wpList _ _ _ (⟨_, Op.load _ _, _, _, _, _⟩ :: _) _ _); (first | refine Gives.list (f_load hS rfl rfl (by rfl)) rfl ?_ | refine Gives.list (f_loadS hS rfl rfl (by rfl)) rfl ?_ | refine Gives.list (f_loadAt hS rfl rfl) rfl ?_ | refine Gives.list (f_loadAtS hS rfl rfl (by rfl)) rfl ?_ | refine Gives.list (f_loadAtF hS rfl rfl (by rfl)) rfl ?_); (simp only [Act.put, sA, sZ, sS])))
  go_loopw [7, 8] (fun av bv wr => ∃ (Q a b : Nat) (Y : List Int), av = .int .i64 (a : Int) ∧ bv = .int .i64 (b : Int) ∧ Q * 20 = a ∧ a + 20 = b ∧ a ≤ N ∧ Hid (Y.Perm X) ∧ Hid (∀ q, q < Q → Srt (leOf lt) (blk 20 q Y)) ∧ Sat w0 wr (.own Rep.int.rows [.slice (some ⟨g, off, none⟩) N c] Y :: Γ)) (fun _ bv _ => N + 20 - (intOf bv).toNat)
  case atStart => exact ⟨0, 0, 20, X, rfl, rfl, by omega, by omega, Nat.zero_le _, Lib.hid (List.Perm.refl _), Lib.hid (by intro q h; omega), hS⟩
  case round =>
    clear hS
    obtain ⟨Q, a, b, Y, rfl, rfl, haQ, hab, haN, hY, hB, hS⟩ := hrel
    have hYl : Y.length = N := by rw [hY.out.length_eq, HX.out]
    have HDY : Hid (∀ z ∈ Y, D z) := Lib.hid (fun z hz => HD.out z (hY.out.mem_iff.1 hz))
    by_cases hbN : b ≤ N
    · have hbI : (b : Int) ≤ (N : Int) := by omega
      obtain ⟨b2, hb2⟩ : ∃ x, b + 20 = x := ⟨_, rfl⟩
      have hw1 : IntKind.i64.wrap ((b : Int) + 20) = (b2 : Int) := by rw [IntWalk.i64_in _ (by omega)]; omega
      obtain ⟨pre, X', post, e, ha, hXl, hpl⟩ := parts2 Y (a := a) (b := b) (by omega) (by omega)
      subst e
      have hb : pre.length + X'.length = b := by omega
      have HN := Lib.hid hYl
      have HD2 : Hid (∀ z ∈ X', D z) := Lib.hid (fun z hz => HDY.out z (by simp [hz]))
      have HSt : Hid (∀ Y' : List Int, Y'.Perm X' → Srt (leOf lt) Y' → (pre ++ Y' ++ post).Perm X ∧ ∀ q, q < Q + 1 → Srt (leOf lt) (blk 20 q (pre ++ Y' ++ post))) := Lib.hid (fun Y' h1 h2 => ⟨(perm_mid h1).trans hY.out, blk_step (by omega) h1.length_eq (.inl (by omega)) h2 hB.out⟩)
      clear hYl hXl hpl hY hB HDY
      go_wp2_with (first | (go_at_call 200; refine (insertion_w g off N c bp bc D lt hpre hcmp pre X' post a b HN.out hN2 ha hb HD2.out hS).mono ?_; clear hS; rintro e w' ⟨rfl, Y', hp', hs', hS⟩))
      go_roundw
      case rel => exact ⟨Q + 1, b, b2, pre ++ Y' ++ post, rfl, rfl, by omega, by omega, hbN, Lib.hid (HSt.out _ hp' hs').1, Lib.hid (HSt.out _ hp' hs').2, hS⟩
      case measure => simp [intOf]; omega
    have hbI : ¬ (b : Int) ≤ (N : Int) := by omega
    obtain ⟨pre, X', post, e, ha, hXl, hpl⟩ := parts2 Y (a := a) (b := N) haN (by omega)
    obtain rfl : post = [] := List.eq_nil_of_length_eq_zero (by omega)
    subst e
    have hb : pre.length + X'.length = N := by omega
    have HN := Lib.hid hYl
    have HD2 : Hid (∀ z ∈ X', D z) := Lib.hid (fun z hz => HDY.out z (by simp [hz]))
    have HSt : Hid (∀ Y' : List Int, Y'.Perm X' → Srt (leOf lt) Y' → (pre ++ Y' ++ []).Perm X ∧ ∀ q, Srt (leOf lt) (blk 20 q (pre ++ Y' ++ []))) := Lib.hid (fun Y' h1 h2 => ⟨(perm_mid h1).trans hY.out, blk_all (Q := Q + 1) (by have := h1.length_eq; simp only [List.length_append, List.length_nil]; omega) (blk_step (by omega) h1.length_eq (.inr ⟨rfl, by omega⟩) h2 hB.out)⟩)
    have hpost : ([] : List Int) = [] := rfl
    obtain ⟨post, hpo⟩ : ∃ p, p = ([] : List Int) := ⟨_, rfl⟩
    rw [← hpo] at hS HN HSt
    have Hpo := Lib.hid hpo
    clear hYl hXl hpl hY hB HDY hpo hpost
    go_wp2_with (first | (go_at_call 200; refine (insertion_w g off N c bp bc D lt hpre hcmp pre X' post a N HN.out hN2 ha hb HD2.out hS).mono ?_; clear hS; rintro e w' ⟨rfl, Y', hp', hs', hS⟩))
    go_loopw [6] (fun sv wr => ∃ (bs : Nat) (Y : List Int), sv = .int .i64 (bs : Int) ∧ 20 ≤ bs ∧ bs ≤ 2 * N + 20 ∧ Hid (Y.Perm X) ∧ Hid (∀ q, Srt (leOf lt) (blk bs q Y)) ∧ Sat w0 wr (.own Rep.int.rows [.slice (some ⟨g, off, none⟩) N c] Y :: Γ)) (fun sv _ => N - (intOf sv).toNat)
    case atStart => exact ⟨20, pre ++ Y' ++ post, rfl, Nat.le_refl _, by omega, Lib.hid (HSt.out _ hp' hs').1, Lib.hid (HSt.out _ hp' hs').2, hS⟩
    case round =>
      clear hS HSt hp' hs' HN HD2 Hpo hb ha hbI hbN haN hab haQ
      obtain ⟨bs, Y, rfl, hbs, hbs2, hY, hB, hS⟩ := hrel
      by_cases hlt : bs < N
      case neg =>
        have hltI : ¬ (bs : Int) < (N : Int) := by omega
        have HE : Hid (Srt (leOf lt) Y) := Lib.hid (blk_end (by rw [hY.out.length_eq, HX.out]; omega) hB.out)
        go_wp2_with (first | ((with_reducible show wpList _ _ _ (⟨_, Op.load _ _, _, _, _, _⟩ :: _) _ _); (first | refine Gives.list (f_load hS rfl rfl (by rfl)) rfl ?_ | refine Gives.list (f_loadS hS rfl rfl (by rfl)) rfl ?_ | refine Gives.list (f_loadAt hS rfl rfl) rfl ?_ | refine Gives.list (f_loadAtS hS rfl rfl (by rfl)) rfl ?_ | refine Gives.list (f_loadAtF hS rfl rfl (by rfl)) rfl ?_); (simp only [Act.put, sA, sZ, sS])))
        (try simp only [Exit.inBlock, Exit.then])
        (first | refine bodyPost_ret (results_none rfl _ _ _) rfl ?_ | refine bodyPost_end (results_none rfl _ _ _) rfl ?_)
        exact ⟨rfl, Y, hY.out, HE.out, hS⟩
      have hltI : (bs : Int) < (N : Int) := by omega
      obtain ⟨b0, hb0⟩ : ∃ x, 2 * bs = x := ⟨_, rfl⟩
      have hw1 : IntKind.i64.wrap (2 * (bs : Int)) = (b0 : Int) := by rw [IntWalk.i64_in _ (by omega)]; omega
      have hw2 : IntKind.i64.wrap ((bs : Int) * 2) = (b0 : Int) := by rw [IntWalk.i64_in _ (by omega)]; omega
      have HB := hB
      go_wp2_with (first | ((with_reducible show wpList _ _ _ (⟨_, Op.load _ _, _, _, _, _⟩ :: _) _ _); (first | refine Gives.list (f_load hS rfl rfl (by rfl)) rfl ?_ | refine Gives.list (f_loadS hS rfl rfl (by rfl)) rfl ?_ | refine Gives.list (f_loadAt hS rfl rfl) rfl ?_ | refine Gives.list (f_loadAtS hS rfl rfl (by rfl)) rfl ?_ | refine Gives.list (f_loadAtF hS rfl rfl (by rfl)) rfl ?_); (simp only [Act.put, sA, sZ, sS])))
      go_loopw [7, 8] (fun av bv wr => ∃ (Q a b : Nat) (Y : List Int), av = .int .i64 (a : Int) ∧ bv = .int .i64 (b : Int) ∧ Q * b0 = a ∧ a + b0 = b ∧ a ≤ N ∧ Hid (Y.Perm X) ∧ Hid (∀ q, q < Q → Srt (leOf lt) (blk b0 q Y)) ∧ Hid (∀ r, 2 * Q ≤ r → Srt (leOf lt) (blk bs r Y)) ∧ Sat w0 wr (.own Rep.int.rows [.slice (some ⟨g, off, none⟩) N c] Y :: Γ)) (fun _ bv _ => N + b0 - (intOf bv).toNat)
      case atStart => exact ⟨0, 0, b0, Y, rfl, rfl, by omega, by omega, Nat.zero_le _, hY, Lib.hid (by intro q h; omega), Lib.hid (fun r _ => HB.out r), hS⟩
      case round =>
        clear hS hY hB HB
        obtain ⟨Q, a, b, Y, rfl, rfl, haQ, hab, haN, hY, hB, hC, hS⟩ := hrel
        have hYl : Y.length = N := by rw [hY.out.length_eq, HX.out]
        have HDY : Hid (∀ z ∈ Y, D z) := Lib.hid (fun z hz => HD.out z (hY.out.mem_iff.1 hz))
        have haQ2 : a = (2 * Q) * bs := by rw [← haQ, ← hb0, Nat.mul_comm 2 Q, Nat.mul_assoc]
        have haQ3 : a + bs = (2 * Q + 1) * bs := by rw [Nat.add_mul, Nat.one_mul, ← haQ2]
        have haQ4 : a + b0 = (2 * (Q + 1)) * bs := by rw [show 2 * (Q + 1) = 2 * Q + 2 from by omega, Nat.add_mul, ← haQ2, hb0]
        have haQ5 : a + b0 = (Q + 1) * b0 := by rw [Nat.add_mul, Nat.one_mul, haQ]
        obtain ⟨m, hma⟩ : ∃ x, a + bs = x := ⟨_, rfl⟩
        have hw3 : IntKind.i64.wrap ((a : Int) + (bs : Int)) = (m : Int) := by rw [IntWalk.i64_in _ (by omega)]; omega
        by_cases hbN : b ≤ N
        · have hbI : (b : Int) ≤ (N : Int) := by omega
          obtain ⟨b2, hb2⟩ : ∃ x, b + b0 = x := ⟨_, rfl⟩
          have hw4 : IntKind.i64.wrap ((b : Int) + (b0 : Int)) = (b2 : Int) := by rw [IntWalk.i64_in _ (by omega)]; omega
          obtain ⟨pre, L, R, post, e, ha, hLl, hRl, hpl⟩ := parts3 Y (a := a) (m := m) (b := b) (by omega) (by omega) (by omega)
          subst e
          have hm : a + L.length = m := by omega
          have hb : m + R.length = b := by omega
          have hL1 : 1 ≤ L.length := by omega
          have hR1 : 1 ≤ R.length := by omega
          have HN := Lib.hid hYl
          have HD2 : Hid (∀ z ∈ L ++ R, D z) := Lib.hid (fun z hz => HDY.out z (by
            rcases List.mem_append.1 hz with h | h <;> simp [h]))
          have HsL : Hid (Srt (leOf lt) L) := Lib.hid (by
            have h := hC.out (2 * Q) (Nat.le_refl _)
            rw [List.append_assoc (pre ++ L), blk_mid (by omega) (.inl (by omega))] at h
            exact h)
          have HsR : Hid (Srt (leOf lt) R) := Lib.hid (by
            have h := hC.out (2 * Q + 1) (by omega)
            rw [blk_mid (by rw [List.length_append]; omega) (.inl (by omega))] at h
            exact h)
          have HSt : Hid (∀ Y' : List Int, Y'.Perm (L ++ R) → Srt (leOf lt) Y' → (pre ++ Y' ++ post).Perm X ∧ (∀ q, q < Q + 1 → Srt (leOf lt) (blk b0 q (pre ++ Y' ++ post))) ∧ ∀ r, 2 * (Q + 1) ≤ r → Srt (leOf lt) (blk bs r (pre ++ Y' ++ post))) := Lib.hid (fun Y' h1 h2 => by
            have e : pre ++ L ++ R ++ post = pre ++ (L ++ R) ++ post := by simp only [List.append_assoc]
            have hl : (L ++ R).length = b0 := by rw [List.length_append]; omega
            have k1 := hY.out
            have k2 := hB.out
            have k3 := hC.out
            rw [e] at k1 k2 k3
            exact ⟨(perm_mid h1).trans k1, blk_step (by omega) h1.length_eq (.inl hl) h2 k2, blk_keep h1.length_eq (by omega) (fun r hr => k3 r (by omega))⟩)
          clear hYl hLl hRl hpl hY hB hC HDY haQ2 haQ3 haQ4
          go_wp2_with (first | (go_at_call 201; refine (symMerge_w g off N c bp bc D lt hpre hcmp hN2 _ _ pre L R post a m b HN.out ha hm hb hL1 hR1 (Nat.le_refl _) HD2.out HsL.out HsR.out hS).mono ?_; clear hS; rintro e w' ⟨rfl, Y', hp', hs', hS⟩))
          go_roundw
          case rel => exact ⟨Q + 1, b, b2, pre ++ Y' ++ post, rfl, rfl, by omega, by omega, hbN, Lib.hid (HSt.out _ hp' hs').1, Lib.hid (HSt.out _ hp' hs').2.1, Lib.hid (HSt.out _ hp' hs').2.2, hS⟩
          case measure => simp [intOf]; omega
        have hbI : ¬ (b : Int) ≤ (N : Int) := by omega
        by_cases hmN : m < N
        · have hmI : (m : Int) < (N : Int) := by omega
          obtain ⟨pre, L, R, post, e, ha, hLl, hRl, hpl⟩ := parts3 Y (a := a) (m := m) (b := N) (by omega) (by omega) (by omega)
          obtain rfl : post = [] := List.eq_nil_of_length_eq_zero (by omega)
          subst e
          have hm : a + L.length = m := by omega
          have hb : m + R.length = N := by omega
          have hL1 : 1 ≤ L.length := by omega
          have hR1 : 1 ≤ R.length := by omega
          have HN := Lib.hid hYl
          have HD2 : Hid (∀ z ∈ L ++ R, D z) := Lib.hid (fun z hz => HDY.out z (by
            rcases List.mem_append.1 hz with h | h <;> simp [h]))
          have HsL : Hid (Srt (leOf lt) L) := Lib.hid (by
            have h := hC.out (2 * Q) (Nat.le_refl _)
            rw [List.append_assoc (pre ++ L), blk_mid (by omega) (.inl (by omega))] at h
            exact h)
          have HsR : Hid (Srt (leOf lt) R) := Lib.hid (by
            have h := hC.out (2 * Q + 1) (by omega)
            rw [blk_mid (by rw [List.length_append]; omega) (.inr ⟨rfl, by omega⟩)] at h
            exact h)
          have HSt : Hid (∀ Y' : List Int, Y'.Perm (L ++ R) → Srt (leOf lt) Y' → (pre ++ Y' ++ []).Perm X ∧ (∀ q, Srt (leOf lt) (blk b0 q (pre ++ Y' ++ [])))) := Lib.hid (fun Y' h1 h2 => by
            have e : pre ++ L ++ R ++ [] = pre ++ (L ++ R) ++ [] := by simp only [List.append_assoc]
            have hl : (L ++ R).length ≤ b0 := by rw [List.length_append]; omega
            have k1 := hY.out
            have k2 := hB.out
            rw [e] at k1 k2
            refine ⟨(perm_mid h1).trans k1, blk_all (Q := Q + 1) ?_ (blk_step (by omega) h1.length_eq (.inr ⟨rfl, hl⟩) h2 k2)⟩
            have h3 := h1.length_eq
            simp only [List.length_append, List.length_nil] at h3 hl ⊢
            omega)
          obtain ⟨post, hpo⟩ : ∃ p, p = ([] : List Int) := ⟨_, rfl⟩
          rw [← hpo] at hS HN HSt
          clear hYl hLl hRl hpl hY hB hC HDY haQ2 haQ3 haQ4 hpo
          go_wp2_with (first | (go_at_call 201; refine (symMerge_w g off N c bp bc D lt hpre hcmp hN2 _ _ pre L R post a m N HN.out ha hm hb hL1 hR1 (Nat.le_refl _) HD2.out HsL.out HsR.out hS).mono ?_; clear hS; rintro e w' ⟨rfl, Y', hp', hs', hS⟩))
          go_roundw
          case rel => exact ⟨b0, pre ++ Y' ++ post, rfl, by omega, by omega, Lib.hid (HSt.out _ hp' hs').1, Lib.hid (HSt.out _ hp' hs').2, hS⟩
          case measure => simp [intOf]; omega
        · have hmI : ¬ (m : Int) < (N : Int) := by omega
          have HSt : Hid (∀ q, Srt (leOf lt) (blk b0 q Y)) := Lib.hid (by
            obtain ⟨pre, X', post, e, ha, hXl, hpl⟩ := parts2 Y (a := a) (b := N) haN (by omega)
            obtain rfl : post = [] := List.eq_nil_of_length_eq_zero (by omega)
            subst e
            have h := hC.out (2 * Q) (Nat.le_refl _)
            rw [blk_mid (by omega) (.inr ⟨rfl, by omega⟩)] at h
            refine blk_all (Q := Q + 1) (by omega) (blk_step (by omega) rfl (.inr ⟨rfl, by omega⟩) h hB.out))
          clear hYl hB hC HDY haQ2 haQ3 haQ4
          go_wp2_with (first | ((with_reducible show wpList _ _ _ (⟨_, Op.load _ _, _, _, _, _⟩ :: _) _ _); (first | refine Gives.list (f_load hS rfl rfl (by rfl)) rfl ?_ | refine Gives.list (f_loadS hS rfl rfl (by rfl)) rfl ?_ | refine Gives.list (f_loadAt hS rfl rfl) rfl ?_ | refine Gives.list (f_loadAtS hS rfl rfl (by rfl)) rfl ?_ | refine Gives.list (f_loadAtF hS rfl rfl (by rfl)) rfl ?_); (simp only [Act.put, sA, sZ, sS])))
          go_roundw
          case rel => exact ⟨b0, Y, rfl, by omega, by omega, hY, HSt, hS⟩
          case measure => simp [intOf]; omega
theorem sortStable_w {w0 w : World} {Γ : List Fact} (g off N c bp bc : Nat) (D : Int → Prop) (lt : Int → Int → Bool) (hpre : Pre (leOf lt)) (hcmp : CmpOk w0 Γ g off N c bp bc D lt) (X : List Int) (hN : X.length = N) (hN2 : N ≤ 1000000000) (hD : ∀ z ∈ X, D z)
    (hS : Sat w0 w (.own Rep.int.rows [.slice (some ⟨g, off, none⟩) N c] X :: Γ)) :
    Calls Tryd.prog 163 #[.slice (some ⟨g, off, none⟩) N c, .func (.func 164) #[] #[.pointer (some ⟨bp, 0, none⟩), .pointer (some ⟨bc, 0, none⟩)]] w fun e w' => e = .returned (.tuple #[]) ∧ ∃ Y, Y.Perm X ∧ Srt (leOf lt) Y ∧ Sat w0 w' (.own Rep.int.rows [.slice (some ⟨g, off, none⟩) N c] Y :: Γ) := by
  go_enter Tryd.func163, Tryd.ntmps163
  go_wp2_with (first | (go_at_call 185; refine (stable_w g off N c bp bc D lt hpre hcmp X hN hN2 hD hS).mono ?_; clear hS; rintro e w' ⟨rfl, Y', hp', hs', hS⟩))
  (try simp only [Exit.inBlock, Exit.then])
  (first | refine bodyPost_ret (results_none rfl _ _ _) rfl ?_ | refine bodyPost_end (results_none rfl _ _ _) rfl ?_)
  exact ⟨rfl, Y', hp', hs', hS⟩
end Go.Proofs.YtldknaajnnohiaaDoor
end
