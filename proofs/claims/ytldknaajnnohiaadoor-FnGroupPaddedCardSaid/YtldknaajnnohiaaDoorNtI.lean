/- NetworkOf: the program's contract. -/
import Derived.Test.YtldknaajnnohiaaDoorSho
import Derived.Test.YtldknaajnnohiaaDoorNtS
import Derived.Test.YtldknaajnnohiaaDoorFind
import Derived.Test.YtldknaajnnohiaaDoorSrt
import Derived.Laws.Bits64b
import Derived.Test.YtldknaajnnohiaaDoorPass
section
namespace Go.Proofs.YtldknaajnnohiaaDoor
open Go.RowKit

theorem bits_and_i64_nat (a b : Nat) (ha : a < 1000000000) (hb : b < 1000000000) : bits .and .i64 (a : Int) (b : Int) = ((a &&& b : Nat) : Int) := by
  have hx : a &&& b ≤ a := Nat.and_le_left
  have h1 : (BitVec.ofInt 64 (a : Int)).toNat = a := by
    rw [BitVec.ofInt_natCast, BitVec.toNat_ofNat]; exact Nat.mod_eq_of_lt (by omega)
  have h2 : (BitVec.ofInt 64 (b : Int)).toNat = b := by
    rw [BitVec.ofInt_natCast, BitVec.toNat_ofNat]; exact Nat.mod_eq_of_lt (by omega)
  show IntKind.i64.wrap ((BitVec.ofInt 64 (a : Int) &&& BitVec.ofInt 64 (b : Int)).toNat : Int) = _
  rw [BitVec.toNat_and, h1, h2, IntWalk.i64_in _ (by omega)]
theorem and_pow (k i : Nat) : i &&& 2 ^ k = if i / 2 ^ k % 2 = 1 then 2 ^ k else 0 := by
  apply Nat.eq_of_testBit_eq
  intro j
  rw [Nat.testBit_and, Nat.testBit_two_pow]
  by_cases hj : k = j
  · subst hj
    have h : i.testBit k = decide (i / 2 ^ k % 2 = 1) := Nat.testBit_eq_decide_div_mod_eq
    rw [h]
    by_cases h2 : i / 2 ^ k % 2 = 1
    · rw [if_pos h2]; simp [h2, Nat.testBit_two_pow]
    · rw [if_neg h2]; simp [h2]
  · split
    · simp [Nat.testBit_two_pow, hj]
    · simp [hj]
theorem and_SA (k i : Nat) : (((i &&& 2 ^ k : Nat) : Int) == 0) = SA (2 ^ k) i := by
  unfold SA
  have h1 := @Nat.one_le_two_pow k
  rw [and_pow]
  rcases Nat.mod_two_eq_zero_or_one (i / 2 ^ k) with h | h <;> rw [h]
  · rfl
  · rw [if_pos rfl, show ((1 : Nat) == 0) = false from rfl, beq_eq_false_iff_ne]
    omega
theorem and_SB (k i : Nat) : (((i &&& 2 ^ k : Nat) : Int) == ((2 ^ k : Nat) : Int)) = SB (2 ^ k) i := by
  unfold SB
  have h1 := @Nat.one_le_two_pow k
  rw [and_pow]
  rcases Nat.mod_two_eq_zero_or_one (i / 2 ^ k) with h | h <;> rw [h]
  · rw [if_neg (by decide), show ((0 : Nat) == 1) = false from rfl, beq_eq_false_iff_ne]
    omega
  · rw [if_pos rfl]
    simp
set_option maxHeartbeats 4000000 in
set_option maxRecDepth 8000 in
theorem clo_Network {w0 w : World} {Γ : List Fact} (bm bo n P D M0 : Nat) (set : Int) (T : Nat → Bool) (hT : ∀ i : Nat, (((i &&& P : Nat) : Int) == set) = T i) (hn : n ≤ 256) (hP : P ≤ 1000) (hD : D ≤ 1000) (hM0b : M0 ≤ 30000) (B : Option Addr) (d : Nat) (out : List PairD) (hM0 : out.length = M0)
    (hS : Sat w0 w (.own rPair.rows [.slice B M0 d] out :: .box bo [.slice B M0 d] :: .box bm [.int .i64 (n : Int)] :: Γ)) :
    Calls Tryd.prog 125 #[.int .i64 (P : Int), .int .i64 set, .int .i64 (D : Int), .pointer (some ⟨bm, 0, none⟩), .pointer (some ⟨bo, 0, none⟩)] w fun e w' => e = .returned (.tuple #[]) ∧ ∃ (B : Option Addr) (M d : Nat) (out' : List PairD), out'.length = M ∧ out' = out ++ (upto T D (n - D)).map toPair ∧ Sat w0 w' (.own rPair.rows [.slice B M d] out' :: .box bo [.slice B M d] :: .box bm [.int .i64 (n : Int)] :: Γ) := by
  have HT := Lib.hid hT
  have HM0 := Lib.hid hM0
  clear hT hM0
  go_enter Tryd.func125, Tryd.ntmps125
  go_wp2_with (first | ((with_reducible show wpList _ _ _ (⟨_, Op.box _ _, _, _, _, _⟩ :: _) _ _); refine Does.list (does_box hS rfl rfl (by rfl)) rfl ?_; clear hS; rintro _ wx ⟨bo, rfl, hS, _⟩; (simp only [Act.put, sA, sZ, sS])))
  go_loopw [8] (fun iv wr => ∃ (i M : Nat) (B : Option Addr) (d : Nat) (out' : List PairD), iv = .int .i64 (i : Int) ∧ Hid (out'.length = M) ∧ M ≤ M0 + i ∧ Hid (out' = out ++ (upto T D i).map toPair) ∧ i ≤ n - D ∧ Sat w0 wr (.own rPair.rows [.slice B M d] out' :: .box bo [.slice B M d] :: .box bm [.int .i64 (n : Int)] :: Γ)) (fun iv _ => n - (intOf iv).toNat)
  case atStart => exact ⟨0, M0, B, d, out, rfl, HM0, by omega, Lib.hid (by simp [upto]), Nat.zero_le _, hS⟩
  case round =>
    clear hS
    obtain ⟨i, M, B, d, out', rfl, hM, hM2, hO', hi, hS⟩ := hrel
    obtain ⟨q, hq⟩ : ∃ x, i + D = x := ⟨_, rfl⟩
    have hw2 : IntKind.i64.wrap ((i : Int) + (D : Int)) = (q : Int) := by rw [IntWalk.i64_in _ (by omega)]; omega
    by_cases hqn : q < n
    · have hqI : (q : Int) < (n : Int) := by omega
      obtain ⟨i2, hi2⟩ : ∃ x, i + 1 = x := ⟨_, rfl⟩
      have hw3 : IntKind.i64.wrap ((i : Int) + 1) = (i2 : Int) := by rw [IntWalk.i64_in _ (by omega)]; omega
      have hba := bits_and_i64_nat i P (by omega) (by omega)
      have hb1 := HT.out i
      obtain ⟨x, hx⟩ : ∃ x, i &&& P = x := ⟨_, rfl⟩
      rw [hx] at hba hb1
      cases hsa : T i
      · have HU := Lib.hid (upto_no (d := D) hsa)
        rw [hsa] at hb1
        clear hsa hx
        go_wp2_with (first | ((with_reducible show wpList _ _ _ (⟨_, Op.load _ _, _, _, _, _⟩ :: _) _ _); (first | refine Gives.list (f_load hS rfl rfl (by rfl)) rfl ?_ | refine Gives.list (f_loadS hS rfl rfl (by rfl)) rfl ?_ | refine Gives.list (f_loadAt hS rfl rfl) rfl ?_ | refine Gives.list (f_loadAtS hS rfl rfl (by rfl)) rfl ?_ | refine Gives.list (f_loadAtF hS rfl rfl (by rfl)) rfl ?_); (simp only [Act.put, sA, sZ, sS])))
        go_roundw
        case rel => exact ⟨i2, M, B, d, out', rfl, hM, by omega, Lib.hid (by rw [← hi2, ← HU.out]; exact hO'.out), by omega, hS⟩
        case measure => simp [intOf]; omega
      · have HU := Lib.hid (upto_yes (d := D) hsa)
        rw [hsa] at hb1
        clear hsa hx
        go_wp2_with (first | ((with_reducible show wpList _ _ _ (⟨_, Op.call { callee := Callee.builtin Builtin.append, args := _, argTypes := _ }, _, _, _, _⟩ :: _) _ _); refine Does.list (f_append rPair (hS.flat (pairOf_all _ i q (by omega) (by omega))) rfl rfl rfl rfl rfl (by decide) (by omega)) rfl ?_; clear hS; rintro _ wx ⟨A2, c2, rfl, hS⟩; (simp only [sZ, sS] at hS); (simp only [Act.put, sA, sZ, sS])) | ((with_reducible show wpList _ _ _ (⟨_, Op.store _ _ _, _, _, _, _⟩ :: _) _ _); (first | refine Does.list (f_store (u := .int .i64 _) hS rfl rfl rfl (by rfl) (by rfl)) rfl ?_ | refine Does.list (f_store (u := .slice _ _ _) hS rfl rfl rfl (by rfl) (by rfl)) rfl ?_ | refine Does.list (f_store (u := .string _) hS rfl rfl rfl (by rfl) (by rfl)) rfl ?_ | refine Does.list (f_store (u := .bool _) hS rfl rfl rfl (by rfl) (by rfl)) rfl ?_); clear hS; rintro _ wx ⟨rfl, hS⟩; (simp only [sZ, sS] at hS); (simp only [Act.put, sA, sZ, sS])) | ((with_reducible show wpList _ _ _ (⟨_, Op.load _ _, _, _, _, _⟩ :: _) _ _); (first | refine Gives.list (f_load hS rfl rfl (by rfl)) rfl ?_ | refine Gives.list (f_loadS hS rfl rfl (by rfl)) rfl ?_ | refine Gives.list (f_loadAt hS rfl rfl) rfl ?_ | refine Gives.list (f_loadAtS hS rfl rfl (by rfl)) rfl ?_ | refine Gives.list (f_loadAtF hS rfl rfl (by rfl)) rfl ?_); (simp only [Act.put, sA, sZ, sS])) | ((with_reducible show wpList _ _ _ (⟨_, Op.buildSlice _ _ _, _, _, _, _⟩ :: _) _ _); refine Does.list (does_buildSlice (X := ?_) (cs := ?_) (E := ?_) hS rfl ?_ ?_) rfl ?_; rotate_left 3; (go_simp; rfl); rfl; clear hS; rintro _ wx ⟨bx, rfl, hS, _⟩; (simp only [Act.put, sA, sZ, sS])))
        go_roundw
        case rel => exact ⟨i2, M + 1, A2, c2, out' ++ [toPair (i, q)], rfl, Lib.hid (by rw [List.length_append, hM.out]; rfl), by omega, Lib.hid (by rw [← hi2, ← HU.out, hO'.out, ← hq, List.map_append, List.append_assoc]; rfl), by omega, hS⟩
        case measure => simp [intOf]; omega
    have hqI : ¬ (q : Int) < (n : Int) := by omega
    have hiE : i = n - D := by omega
    have HA : Hid (out' = out ++ (upto T D (n - D)).map toPair) := Lib.hid (by rw [hO'.out, hiE])
    clear hO' hi hM2 hq hiE
    go_wp2_with (first | ((with_reducible show wpList _ _ _ (⟨_, Op.load _ _, _, _, _, _⟩ :: _) _ _); (first | refine Gives.list (f_load hS rfl rfl (by rfl)) rfl ?_ | refine Gives.list (f_loadS hS rfl rfl (by rfl)) rfl ?_ | refine Gives.list (f_loadAt hS rfl rfl) rfl ?_ | refine Gives.list (f_loadAtS hS rfl rfl (by rfl)) rfl ?_ | refine Gives.list (f_loadAtF hS rfl rfl (by rfl)) rfl ?_); (simp only [Act.put, sA, sZ, sS])))
    (try simp only [Exit.inBlock, Exit.then])
    (first | refine bodyPost_ret (results_none rfl _ _ _) rfl ?_ | refine bodyPost_end (results_none rfl _ _ _) rfl ?_)
    exact ⟨rfl, B, M, d, out', hM.out, HA.out, hS⟩

set_option maxHeartbeats 8000000 in
set_option maxRecDepth 8000 in
theorem impl_NetworkOf (w : World) (n : Nat) (hn : n ≤ 256) :
    Calls Tryd.prog 54 #[.int .i64 (n : Int)] w fun e w' => ∃ v, e = .returned v ∧ Fresh rPair.rows w w' [v] (netF n) := by
  have hS : Sat w w [] := Sat.nil w
  have Hi : Hid (inB (n : Int) 0 256 = true) := Lib.hid (inB_true (by omega))
  have HNL := Lib.hid (netF_len hn)
  go_enter Tryd.func54, Tryd.ntmps54
  go_wp2_with (first | (go_at_call 95; refine (impl_in _ _ _ _).mono ?_; rintro e w' ⟨rfl, rfl⟩; (simp only [Hi.out])) | ((with_reducible show wpList _ _ _ (⟨_, Op.box _ _, _, _, _, _⟩ :: _) _ _); refine Does.list (does_box hS rfl rfl (by rfl)) rfl ?_; clear hS; rintro _ wx ⟨bo, rfl, hS, _⟩; (simp only [Act.put, sA, sZ, sS])) | ((with_reducible show wpList _ _ _ (⟨_, Op.load _ _, _, _, _, _⟩ :: _) _ _); (first | refine Gives.list (f_load hS rfl rfl (by rfl)) rfl ?_ | refine Gives.list (f_loadS hS rfl rfl (by rfl)) rfl ?_ | refine Gives.list (f_loadAt hS rfl rfl) rfl ?_ | refine Gives.list (f_loadAtS hS rfl rfl (by rfl)) rfl ?_ | refine Gives.list (f_loadAtF hS rfl rfl (by rfl)) rfl ?_); (simp only [Act.put, sA, sZ, sS])))
  go_loopw [3] (fun v wr => ∃ t T : Nat, v = .int .i64 (T : Int) ∧ Hid (T = 2 ^ t) ∧ (n < 2 ∧ T = 1 ∧ t = 0 ∨ T < n) ∧ Sat w wr [.box bo [.int .i64 (n : Int)]]) (fun v _ => n - (intOf v).toNat)
  case atStart => exact ⟨0, 1, rfl, Lib.hid rfl, by omega, hS.sel [0] rfl (by decide)⟩
  case round =>
    clear hS
    obtain ⟨t, T, rfl, hT, hTn, hS⟩ := hrel
    have hT1 : 1 ≤ T := by rw [hT.out]; exact Nat.one_le_two_pow
    obtain ⟨T2, hT2⟩ : ∃ x, 2 * T = x := ⟨_, rfl⟩
    have hw1 : IntKind.i64.wrap (2 * (T : Int)) = (T2 : Int) := by rw [IntWalk.i64_in _ (by omega)]; omega
    have hw1' : IntKind.i64.wrap ((T : Int) * 2) = (T2 : Int) := by rw [IntWalk.i64_in _ (by omega)]; omega
    have HT2 : Hid (T2 = 2 ^ (t + 1)) := Lib.hid (by have := hT.out; rw [Nat.pow_succ]; omega)
    by_cases hlt : T2 < n
    · have hltI : (T2 : Int) < (n : Int) := by omega
      go_wp2_with (first | ((with_reducible show wpList _ _ _ (⟨_, Op.load _ _, _, _, _, _⟩ :: _) _ _); (first | refine Gives.list (f_load hS rfl rfl (by rfl)) rfl ?_ | refine Gives.list (f_loadS hS rfl rfl (by rfl)) rfl ?_ | refine Gives.list (f_loadAt hS rfl rfl) rfl ?_ | refine Gives.list (f_loadAtS hS rfl rfl (by rfl)) rfl ?_ | refine Gives.list (f_loadAtF hS rfl rfl (by rfl)) rfl ?_); (simp only [Act.put, sA, sZ, sS])))
      go_roundw
      case rel => exact ⟨t + 1, T2, rfl, HT2, by omega, hS⟩
      case measure => simp [intOf]; omega
    have hltI : ¬ (T2 : Int) < (n : Int) := by omega
    have Htop : Hid (topOf n = t) := Lib.hid (by
      rcases hTn with ⟨h1, h2, h3⟩ | h1
      · have h4 : n = 0 ∨ n = 1 := by omega
        rw [h3]
        rcases h4 with rfl | rfl <;> rfl
      · exact topOf_eq (by rw [← hT.out]; exact h1) (by rw [← HT2.out]; omega))
    have ht8 : t ≤ 8 := pow_le8 (by rw [← hT.out]; omega)
    have hTb : T ≤ 256 := by omega
    clear hTn
    go_wp2_with (first | ((with_reducible show wpList _ _ _ (⟨_, Op.load _ _, _, _, _, _⟩ :: _) _ _); (first | refine Gives.list (f_load hS rfl rfl (by rfl)) rfl ?_ | refine Gives.list (f_loadS hS rfl rfl (by rfl)) rfl ?_ | refine Gives.list (f_loadAt hS rfl rfl) rfl ?_ | refine Gives.list (f_loadAtS hS rfl rfl (by rfl)) rfl ?_ | refine Gives.list (f_loadAtF hS rfl rfl (by rfl)) rfl ?_); (simp only [Act.put, sA, sZ, sS])) | ((with_reducible show wpList _ _ _ (⟨_, Op.alloc _, _, _, _, _⟩ :: _) _ _); refine Does.list (does_alloc hS rfl (by rfl)) rfl ?_; clear hS; rintro _ wx ⟨ba, rfl, hS, _⟩; (simp only [Act.put, sA, sZ, sS])))
    replace hS := Sat.nilRow rPair hS
    go_loopw [6] (fun pv wr => ∃ (k P M : Nat) (B : Option Addr) (d : Nat) (out : List PairD), pv = .int .i64 (P : Int) ∧ Hid (out.length = M) ∧ Hid (out ++ (netD n t k).map toPair = netF n) ∧ Hid ((k = 0 ∧ P = 0) ∨ ∃ k', k = k' + 1 ∧ P = 2 ^ k') ∧ k ≤ t + 1 ∧ Sat w wr [.own rPair.rows [.slice B M d] out, .box ba [.slice B M d], .box bo [.int .i64 (n : Int)]]) (fun pv _ => (intOf pv).toNat)
    case atStart => exact ⟨t + 1, T, 0, _, _, [], rfl, Lib.hid rfl, Lib.hid (by unfold netF network; rw [Htop.out]; rfl), Lib.hid (.inr ⟨t, rfl, hT.out⟩), Nat.le_refl _, hS⟩
    case round =>
      clear hS
      obtain ⟨k, P, M0, B, d, out, rfl, hM0, hO, hP, hk, hS⟩ := hrel
      rcases hP.out with ⟨rfl, rfl⟩ | ⟨k', rfl, hP2⟩
      · have HF : Hid (out = netF n) := Lib.hid (by rw [← hO.out]; simp [netD])
        rw [HF.out] at hS
        go_wp2_with (first | ((with_reducible show wpList _ _ _ (⟨_, Op.load _ _, _, _, _, _⟩ :: _) _ _); (first | refine Gives.list (f_load hS rfl rfl (by rfl)) rfl ?_ | refine Gives.list (f_loadS hS rfl rfl (by rfl)) rfl ?_ | refine Gives.list (f_loadAt hS rfl rfl) rfl ?_ | refine Gives.list (f_loadAtS hS rfl rfl (by rfl)) rfl ?_ | refine Gives.list (f_loadAtF hS rfl rfl (by rfl)) rfl ?_); (simp only [Act.put, sA, sZ, sS])))
        go_ret
        exact ⟨_, rfl, hS.result⟩
      have HP2 := Lib.hid hP2
      have hP1 : 1 ≤ P := by rw [hP2]; exact Nat.one_le_two_pow
      have hPT : P ≤ T := by rw [hP2, hT.out]; exact Nat.pow_le_pow_right (by decide) (by omega)
      have hPI : (0 : Int) < (P : Int) := by omega
      clear hP2 hP
      have HL : Hid (∀ (o : List PairD) (r : List PairD), o ++ r = netF n → o.length ≤ 25000) := Lib.hid (fun o r h => by have := HNL.out; rw [← h, List.length_append] at this; omega)
      have hM0b : M0 ≤ 25000 := by rw [← hM0.out]; exact HL.out _ _ hO.out
      have HS3 : Hid (out ++ (stepA n P).map toPair ++ ((stB n k' (t - k')).map toPair ++ (netD n t k').map toPair) = netF n) := Lib.hid (by rw [← hO.out, netD, stage, ← HP2.out]; simp only [List.map_append, List.append_assoc])
      go_wp2_with (first | (go_at_call 125; refine (clo_Network bo ba n P P M0 0 (SA P) (fun i => by rw [HP2.out]; exact and_SA k' i) hn (by omega) (by omega) (by omega) B d out hM0.out hS).mono ?_; clear hS; rintro e w' ⟨rfl, B1, M1, d1, out1, hM1', hO1', hS⟩))
      go_loopw [7] (fun qv wr => ∃ (e Q M : Nat) (B : Option Addr) (d : Nat) (out : List PairD), qv = .int .i64 (Q : Int) ∧ Hid (Q = 2 ^ e) ∧ k' ≤ e ∧ e ≤ t ∧ Hid (out.length = M) ∧ Hid (out ++ ((stB n k' (e - k')).map toPair ++ (netD n t k').map toPair) = netF n) ∧ Sat w wr [.own rPair.rows [.slice B M d] out, .box ba [.slice B M d], .box bo [.int .i64 (n : Int)]]) (fun qv _ => (intOf qv).toNat)
      case atStart => exact ⟨t, T, M1, B1, d1, out1, rfl, hT, by omega, Nat.le_refl _, Lib.hid hM1', Lib.hid (by rw [hO1', upto_A]; exact HS3.out), hS⟩
      case round =>
        clear hS hM1' hO1' hM0 hM0b hO
        obtain ⟨e, Q, M0, B, d, out, rfl, hQ, he1, he2, hM0, hO2, hS⟩ := hrel
        have hQT : Q ≤ T := by rw [hQ.out, hT.out]; exact Nat.pow_le_pow_right (by decide) he2
        have hQ1 : 1 ≤ Q := by rw [hQ.out]; exact Nat.one_le_two_pow
        have hM0b : M0 ≤ 25000 := by rw [← hM0.out]; exact HL.out _ _ hO2.out
        by_cases hek : e = k'
        · have hQP : Q = P := by rw [hQ.out, HP2.out, hek]
          have hQPI : ¬ (P : Int) < (Q : Int) := by omega
          have HB : Hid (out ++ (netD n t k').map toPair = netF n) := Lib.hid (by rw [← hO2.out, hek, Nat.sub_self]; rfl)
          obtain ⟨P2, hP2'⟩ : ∃ x, P / 2 = x := ⟨_, rfl⟩
          have hw5 := half_words hP2' (by omega)
          have HP3 : Hid ((k' = 0 ∧ P2 = 0) ∨ ∃ k'', k' = k'' + 1 ∧ P2 = 2 ^ k'') := Lib.hid (by
            rcases Nat.eq_zero_or_pos k' with h0 | h0
            · left
              have := HP2.out
              rw [h0] at this
              exact ⟨h0, by rw [← hP2', this]⟩
            · right
              refine ⟨k' - 1, by omega, ?_⟩
              rw [← hP2', HP2.out, show k' = (k' - 1) + 1 by omega, pow_half, Nat.add_sub_cancel])
          clear hO2 hek hQP
          go_wp2_with (first | ((with_reducible show wpList _ _ _ (⟨_, Op.box _ _, _, _, _, _⟩ :: _) _ _); refine Does.list (does_box hS rfl rfl (by rfl)) rfl ?_; clear hS; rintro _ wx ⟨bo, rfl, hS, _⟩; (simp only [Act.put, sA, sZ, sS])))
          go_roundw
          case rel => exact ⟨k', P2, M0, B, d, out, rfl, hM0, HB, HP3, by omega, hS⟩
          case measure => simp [intOf]; omega
        obtain ⟨s, hs⟩ : ∃ s, e = k' + s + 1 := ⟨e - k' - 1, by omega⟩
        obtain ⟨D, hD⟩ : ∃ x, Q - P = x := ⟨_, rfl⟩
        have hPQ : P < Q := by rw [hQ.out, HP2.out]; exact Nat.pow_lt_pow_right (by decide) (by omega)
        have hPQI : (P : Int) < (Q : Int) := by omega
        have hw6 : IntKind.i64.wrap ((Q : Int) - (P : Int)) = (D : Int) := by rw [IntWalk.i64_in _ (by omega)]; omega
        have HS4 : Hid (out ++ (stepB n P D).map toPair ++ ((stB n k' s).map toPair ++ (netD n t k').map toPair) = netF n) := Lib.hid (by
          rw [← hO2.out, show e - k' = s + 1 by omega, stB, ← hs, ← hQ.out, ← HP2.out, hD]
          simp only [List.map_append, List.append_assoc])
        have hse : k' + s + 1 = e := hs.symm
        obtain ⟨Q2, hQ2'⟩ : ∃ x, Q / 2 = x := ⟨_, rfl⟩
        have hw5 := half_words hQ2' (by omega)
        have HQ3 : Hid (Q2 = 2 ^ (k' + s)) := Lib.hid (by rw [← hQ2', hQ.out, ← hse, pow_half])
        clear hs hek
        go_wp2_with (first | (go_at_call 125; refine (clo_Network bo ba n P D M0 (P : Int) (SB P) (fun i => by rw [HP2.out]; exact and_SB k' i) hn (by omega) (by omega) (by omega) B d out hM0.out hS).mono ?_; clear hS; rintro e w' ⟨rfl, B1, M1, d1, out1, hM1', hO1', hS⟩))
        go_roundw
        case rel => exact ⟨k' + s, Q2, M1, B1, d1, out1, rfl, HQ3, by omega, by omega, Lib.hid hM1', Lib.hid (by rw [Nat.add_sub_cancel_left, hO1', upto_B]; exact HS4.out), hS⟩
        case measure => simp [intOf]; omega
end Go.Proofs.YtldknaajnnohiaaDoor
end

section
namespace Go.Proofs.YtldknaajnnohiaaDoor
open Go.RowKit

def pairAcc2 (p : PairD) : List AccessD := [(2, p.1, false), (2, p.2, false), (2, p.1, true), (2, p.2, true)]
def pairF (xs : List PairD) : List AccessD := xs.flatMap pairAcc2
theorem pairF_succ {xs : List PairD} {k : Nat} (h : k < xs.length) : pairF (xs.take k) ++ pairAcc2 xs[k] = pairF (xs.take (k + 1)) := by
  unfold pairF; rw [List.take_succ_eq_append_getElem h, List.flatMap_append]; simp
theorem pairF_len (xs : List PairD) : (pairF xs).length = 4 * xs.length := by
  unfold pairF
  induction xs with
  | nil => rfl
  | cons p l ih => simp [pairAcc2, ih]; omega
theorem pairAcc2_all (w : World) (p : PairD) (i0 : I64 p.1) (i1 : I64 p.2) : (rAccess.vec 4).has w [] [.int .i64 2, .int .i64 p.1, .bool false, .int .i64 2, .int .i64 p.2, .bool false, .int .i64 2, .int .i64 p.1, .bool true, .int .i64 2, .int .i64 p.2, .bool true] (pairAcc2 p) :=
  ⟨rfl, [], [], [_, _, _], _, rfl, rfl, rAccess_mk (by unfold I64; omega) i0, [], [], [_, _, _], _, rfl, rfl, rAccess_mk (by unfold I64; omega) i1, [], [], [_, _, _], _, rfl, rfl, rAccess_mk (by unfold I64; omega) i0, [], [], [_, _, _], _, rfl, rfl, rAccess_mk (by unfold I64; omega) i1, rfl, rfl⟩
set_option maxHeartbeats 2000000 in
theorem impl_PairTraceR (w : World) (F : List Nat) (v : Value) (xs : List PairD) (hx : SliceHas rPair w F [v] xs) (hn : xs.length ≤ 1048576) :
    Calls Tryd.prog 58 #[.int .i64 2, v] w fun e w' => ∃ v', e = .returned v' ∧ Fresh rAccess.rows w w' [v'] (pairF xs) := by
  obtain ⟨A, c, rfl, hl, _⟩ := hx.form'
  have h2 : inB 2 0 2 = true := by decide
  have hS : Sat w w [.ro rPair.slice [.slice A xs.length c] xs] := (Sat.nil w).arg hx
  clear hx
  go_enter Tryd.func58, Tryd.ntmps58
  go_wp2_with (first | (go_at_call 131; refine (impl_isRegion2 _ _).mono ?_; rintro e w' ⟨rfl, rfl⟩; (simp only [h2])))
  replace hS := Sat.nilRow rAccess hS
  go_loopw [5, 13] (fun s i wr => ∃ (k m : Nat) (B : Option Addr) (d : Nat), i = .int .i64 k ∧ s = .slice B m d ∧ m = 4 * k ∧ k ≤ xs.length ∧ Sat w wr [.own rAccess.rows [.slice B m d] (pairF (xs.take k)), .ro rPair.slice [.slice A xs.length c] xs]) (fun _ i _ => xs.length - (intOf i).toNat)
  case atStart => exact ⟨0, 0, none, 0, rfl, rfl, rfl, Nat.zero_le _, hS⟩
  case round =>
    clear hS
    obtain ⟨k, m, B, d, rfl, rfl, hm, hk, hS⟩ := hrel
    have Hm := Lib.hid hm
    have hmb : m ≤ 4194304 := by omega
    clear hm
    by_cases hlt : k < xs.length
    · have hltI : (k : Int) < (xs.length : Int) := by omega
      have H := Lib.hid (pairF_succ hlt)
      obtain ⟨ad, rfl, i0, i1, hS⟩ := hS.elPair A xs.length c (get_some hlt)
      generalize xs[k] = x at hS H i0 i1
      obtain ⟨x0, x1⟩ := x
      dsimp only at hS i0 i1
      go_wp2_with (first | ((with_reducible show wpList _ _ _ (⟨_, Op.call { callee := Callee.builtin Builtin.append, args := _, argTypes := _ }, _, _, _, _⟩ :: _) _ _); refine Does.list (f_append rAccess (hS.flat (pairAcc2_all _ (x0, x1) i0 i1)) rfl rfl rfl rfl rfl (by decide) (by omega)) rfl ?_; clear hS; rintro _ wx ⟨A2, c2, rfl, hS⟩; (simp only [sZ, sS] at hS); (simp only [Act.put, sA, sZ, sS])) | ((with_reducible show wpList _ _ _ (⟨_, Op.load _ _, _, _, _, _⟩ :: _) _ _); (first | refine Gives.list (f_load hS rfl rfl (by rfl)) rfl ?_ | refine Gives.list (f_loadS hS rfl rfl (by rfl)) rfl ?_ | refine Gives.list (f_loadAt hS rfl rfl) rfl ?_ | refine Gives.list (f_loadAtS hS rfl rfl (by rfl)) rfl ?_ | refine Gives.list (f_loadAtF hS rfl rfl (by rfl)) rfl ?_); (simp only [Act.put, sA, sZ, sS])) | ((with_reducible show wpList _ _ _ (⟨_, Op.store _ _ _, _, _, _, _⟩ :: _) _ _); (first | refine Does.list (f_store hS rfl rfl rfl (by rfl) (by rfl)) rfl ?_ | refine Does.list (f_storeS hS rfl rfl rfl (by rfl) (by rfl) (by rfl)) rfl ?_); clear hS; rintro _ wx ⟨rfl, hS⟩; (simp only [sZ, sS] at hS); (simp only [Act.put, sA, sZ, sS])) | ((with_reducible show wpList _ _ _ (⟨_, Op.alloc _, _, _, _, _⟩ :: _) _ _); refine Does.list (does_alloc hS rfl (by rfl)) rfl ?_; clear hS; rintro _ wx ⟨ba, rfl, hS, _⟩; (simp only [Act.put, sA, sZ, sS])) | ((with_reducible show wpList _ _ _ (⟨_, Op.buildSlice _ _ _, _, _, _, _⟩ :: _) _ _); refine Does.list (does_buildSlice (X := ?_) (cs := ?_) (E := ?_) hS rfl ?_ ?_) rfl ?_; rotate_left 3; (go_simp; rfl); rfl; clear hS; rintro _ wx ⟨bx, rfl, hS, _⟩; (simp only [Act.put, sA, sZ, sS])))
      go_roundw
      case rel => exact ⟨k + 1, m + 4, A2, c2, by go_num, rfl, by have := Hm.out; omega, hlt, by rw [← H.out]; exact hS.sel [2, 3] rfl (by decide)⟩
      case measure => simp [intOf]; omega
    · obtain rfl : k = xs.length := by omega
      rw [List.take_length] at hS
      go_wp2_with (first | ((with_reducible show wpList _ _ _ (⟨_, Op.box _ _, _, _, _, _⟩ :: _) _ _); refine Does.list (does_box hS rfl rfl (by rfl)) rfl ?_; clear hS; rintro _ wx ⟨bo, rfl, hS, _⟩; (simp only [Act.put, sA, sZ, sS])))
      go_ret
      exact ⟨_, rfl, hS.result⟩
set_option maxHeartbeats 2000000 in
theorem spec_PairTraceR (w : World) (F : List Nat) (v : Value) (xs : List PairD) (hx : SliceHas rPair w F [v] xs) (hn : xs.length ≤ 1048576) :
    Calls Tryd.prog 59 #[.int .i64 2, v] w fun e w' => ∃ v', e = .returned v' ∧ Fresh rAccess.rows w w' [v'] (pairF xs) := by
  obtain ⟨A, c, rfl, hl, _⟩ := hx.form'
  have h2 : inB 2 0 2 = true := by decide
  have hS : Sat w w [.ro rPair.slice [.slice A xs.length c] xs] := (Sat.nil w).arg hx
  clear hx
  go_enter Tryd.func59, Tryd.ntmps59
  go_wp2_with (first | ((with_reducible show wpList _ _ _ (⟨_, Op.buildSlice _ _ _, _, _, _, _⟩ :: _) _ _); refine Does.list (does_buildSlice (X := ?_) (cs := ?_) (E := ?_) hS rfl ?_ ?_) rfl ?_; rotate_left 3; (go_simp; rfl); rfl; clear hS; rintro _ wx ⟨bx, rfl, hS, _⟩; (simp only [Act.put, sA, sZ, sS])))
  replace hS := (Sat.vec0 rAccess hS).lit (Nat.zero_le _)
  go_loopw [5, 6] (fun s i wr => ∃ (k m : Nat) (B : Option Addr) (d : Nat), i = .int .i64 k ∧ s = .slice B m d ∧ m = 4 * k ∧ k ≤ xs.length ∧ Sat w wr [.own rAccess.rows [.slice B m d] (pairF (xs.take k)), .ro rPair.slice [.slice A xs.length c] xs]) (fun _ i _ => xs.length - (intOf i).toNat)
  case atStart => exact ⟨0, 0, _, _, rfl, rfl, rfl, Nat.zero_le _, hS⟩
  case round =>
    clear hS
    obtain ⟨k, m, B, d, rfl, rfl, hm, hk, hS⟩ := hrel
    have Hm := Lib.hid hm
    have hmb : m ≤ 4194304 := by omega
    clear hm
    by_cases hlt : k < xs.length
    · have hltI : (k : Int) < (xs.length : Int) := by omega
      have H := Lib.hid (pairF_succ hlt)
      obtain ⟨ad, rfl, i0, i1, hS⟩ := hS.elPair A xs.length c (get_some hlt)
      generalize xs[k] = x at hS H i0 i1
      obtain ⟨x0, x1⟩ := x
      dsimp only at hS i0 i1
      go_wp2_with (first | (go_at_call 82; refine (spec_in _ _ _ _).mono ?_; rintro e w' ⟨rfl, rfl⟩; (simp only [h2])) | ((with_reducible show wpList _ _ _ (⟨_, Op.call { callee := Callee.builtin Builtin.append, args := _, argTypes := _ }, _, _, _, _⟩ :: _) _ _); refine Does.list (f_append rAccess (hS.flat (pairAcc2_all _ (x0, x1) i0 i1)) rfl rfl rfl rfl rfl (by decide) (by omega)) rfl ?_; clear hS; rintro _ wx ⟨A2, c2, rfl, hS⟩; (simp only [sZ, sS] at hS); (simp only [Act.put, sA, sZ, sS])) | ((with_reducible show wpList _ _ _ (⟨_, Op.load _ _, _, _, _, _⟩ :: _) _ _); (first | refine Gives.list (f_load hS rfl rfl (by rfl)) rfl ?_ | refine Gives.list (f_loadS hS rfl rfl (by rfl)) rfl ?_ | refine Gives.list (f_loadAt hS rfl rfl) rfl ?_ | refine Gives.list (f_loadAtS hS rfl rfl (by rfl)) rfl ?_ | refine Gives.list (f_loadAtF hS rfl rfl (by rfl)) rfl ?_); (simp only [Act.put, sA, sZ, sS])) | ((with_reducible show wpList _ _ _ (⟨_, Op.buildSlice _ _ _, _, _, _, _⟩ :: _) _ _); refine Does.list (does_buildSlice (X := ?_) (cs := ?_) (E := ?_) hS rfl ?_ ?_) rfl ?_; rotate_left 3; (go_simp; rfl); rfl; clear hS; rintro _ wx ⟨bx, rfl, hS, _⟩; (simp only [Act.put, sA, sZ, sS])))
      go_roundw
      case rel => exact ⟨k + 1, m + 4, A2, c2, by go_num, rfl, by have := Hm.out; omega, hlt, by rw [← H.out]; exact hS.sel [1, 2] rfl (by decide)⟩
      case measure => simp [intOf]; omega
    · obtain rfl : k = xs.length := by omega
      rw [List.take_length] at hS
      go_wp2_with (first | (go_at_call 82; refine (spec_in _ _ _ _).mono ?_; rintro e w' ⟨rfl, rfl⟩; (simp only [h2])))
      go_ret
      exact ⟨_, rfl, hS.result⟩
end Go.Proofs.YtldknaajnnohiaaDoor
end
