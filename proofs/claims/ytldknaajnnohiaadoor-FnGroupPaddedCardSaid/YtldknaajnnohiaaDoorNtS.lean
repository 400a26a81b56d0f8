/- NetworkOf: the reference's contract. -/
import Derived.Test.YtldknaajnnohiaaDoorSho
import Derived.Test.YtldknaajnnohiaaDoorSPl
import Derived.Test.YtldknaajnnohiaaDoorFind
import Derived.Test.YtldknaajnnohiaaDoorSatT
import Derived.Test.YtldknaajnnohiaaDoorFind
import Derived.Test.YtldknaajnnohiaaDoorLaw
import Derived.Test.YtldknaajnnohiaaDoorTys
namespace Go.Proofs.YtldknaajnnohiaaDoor
open Go.RowKit

def toPair (x : Nat × Nat) : PairD := ((x.1 : Int), (x.2 : Int))
def netF (n : Nat) : List PairD := (network n).map toPair
theorem netF_len {n : Nat} (h : n ≤ 256) : (netF n).length ≤ 25000 := by unfold netF; rw [List.length_map]; exact network_len h
theorem pairOf_all (w : World) (i j : Nat) (hi : i ≤ 1000) (hj : j ≤ 1000) : (rPair.vec 1).has w [] [.int .i64 (i : Int), .int .i64 (j : Int)] [toPair (i, j)] :=
  ⟨rfl, [], [], [_, _], _, rfl, rfl, rPair_mk (by unfold I64; omega) (by unfold I64; omega), rfl, rfl⟩
theorem pow_le8 {t : Nat} (h : 2 ^ t < 257) : t ≤ 8 := by
  rcases Nat.lt_or_ge t 9 with h1 | h1
  · omega
  · have := Nat.pow_le_pow_right (n := 2) (by decide) h1
    omega
theorem pow_half (k : Nat) : 2 ^ (k + 1) / 2 = 2 ^ k := by rw [Nat.pow_succ]; omega
theorem quo_words {i P d : Nat} (h : i / P = d) (hi : i ≤ 1000000) : IntKind.i64.wrap ((i : Int) / (P : Int)) = (d : Int) := by
  have h1 : (i : Int) / (P : Int) = (d : Int) := by rw [← h]; exact (Int.natCast_ediv i P).symm
  have h2 : d ≤ i := by rw [← h]; exact Nat.div_le_self _ _
  rw [h1, IntWalk.i64_in _ (by omega)]
theorem emod_two (d : Nat) : (d : Int) % 2 = ((d % 2 : Nat) : Int) := by omega
theorem tm_zero {d : Nat} {b : Bool} (h : (d % 2 == 0) = b) : ((d : Int) % 2 == 0) = b := by
  rw [emod_two, ← h]
  rcases Nat.mod_two_eq_zero_or_one d with h1 | h1 <;> rw [h1] <;> rfl
theorem tm_one {d : Nat} {b : Bool} (h : (d % 2 == 1) = b) : ((d : Int) % 2 == 1) = b := by
  rw [emod_two, ← h]
  rcases Nat.mod_two_eq_zero_or_one d with h1 | h1 <;> rw [h1] <;> rfl
theorem half_words {P h : Nat} (hh : P / 2 = h) (hP : P ≤ 1000000) : IntKind.i64.wrap ((P : Int) / 2) = (h : Int) := by
  rw [IntWalk.i64_in _ (by omega)]; omega
set_option maxHeartbeats 8000000 in
set_option maxRecDepth 8000 in
theorem spec_NetworkOf (w : World) (n : Nat) (hn : n ≤ 256) :
    Calls Tryd.prog 101 #[.int .i64 (n : Int)] w fun e w' => ∃ v, e = .returned v ∧ Fresh rPair.rows w w' [v] (netF n) := by
  have hS : Sat w w [] := Sat.nil w
  by_cases h2 : 2 ≤ n
  case neg =>
    have Hi : Hid (inB (n : Int) 2 256 = false) := Lib.hid (by cases h : inB (n : Int) 2 256; rfl; exact absurd (inB_of h) (by omega))
    have H : Hid (netF n = []) := Lib.hid (by unfold netF; rw [network_small (by omega)]; rfl)
    go_enter Tryd.func101, Tryd.ntmps101
    go_wp2_with (first | (go_at_call 82; refine (spec_in _ _ _ _).mono ?_; rintro e w' ⟨rfl, rfl⟩; (simp only [Hi.out])) | ((with_reducible show wpList _ _ _ (⟨_, Op.buildSlice _ _ _, _, _, _, _⟩ :: _) _ _); refine Does.list (does_buildSlice (X := ?_) (cs := ?_) (E := ?_) hS rfl ?_ ?_) rfl ?_; rotate_left 3; (go_simp; rfl); rfl; clear hS; rintro _ wx ⟨bx, rfl, hS, _⟩; (simp only [Act.put, sA, sZ, sS])))
    go_ret
    exact ⟨_, rfl, by rw [H.out]; exact ((Sat.vec0 rPair hS).lit (Nat.zero_le _)).result⟩
  have Hi : Hid (inB (n : Int) 2 256 = true) := Lib.hid (inB_true (by omega))
  have HNL := Lib.hid (netF_len hn)
  go_enter Tryd.func101, Tryd.ntmps101
  go_wp2_with (first | (go_at_call 82; refine (spec_in _ _ _ _).mono ?_; rintro e w' ⟨rfl, rfl⟩; (simp only [Hi.out])) | ((with_reducible show wpList _ _ _ (⟨_, Op.buildSlice _ _ _, _, _, _, _⟩ :: _) _ _); refine Does.list (does_buildSlice (X := ?_) (cs := ?_) (E := ?_) hS rfl ?_ ?_) rfl ?_; rotate_left 3; (go_simp; rfl); rfl; clear hS; rintro _ wx ⟨bx, rfl, hS, _⟩; (simp only [Act.put, sA, sZ, sS])))
  replace hS := (Sat.vec0 rPair hS).lit (Nat.zero_le _)
  go_loopw [4] (fun v wr => ∃ t T : Nat, v = .int .i64 (T : Int) ∧ Hid (T = 2 ^ t) ∧ T < n ∧ Sat w wr [.own rPair.rows [.slice (some ⟨bx, 0, none⟩) 0 0] []]) (fun v _ => n - (intOf v).toNat)
  case atStart => exact ⟨0, 1, rfl, Lib.hid rfl, by omega, hS⟩
  case round =>
    clear hS
    obtain ⟨t, T, rfl, hT, hTn, hS⟩ := hrel
    obtain ⟨T2, hT2⟩ : ∃ x, 2 * T = x := ⟨_, rfl⟩
    have hT1 : 1 ≤ T := by rw [hT.out]; exact Nat.one_le_two_pow
    have hw1 : IntKind.i64.wrap (2 * (T : Int)) = (T2 : Int) := by rw [IntWalk.i64_in _ (by omega)]; omega
    have HT2 : Hid (T2 = 2 ^ (t + 1)) := Lib.hid (by have := hT.out; rw [Nat.pow_succ]; omega)
    by_cases hlt : T2 < n
    · have hltI : (T2 : Int) < (n : Int) := by omega
      go_wp2_with (first | ((with_reducible show wpList _ _ _ (⟨_, Op.buildSlice _ _ _, _, _, _, _⟩ :: _) _ _); refine Does.list (does_buildSlice (X := ?_) (cs := ?_) (E := ?_) hS rfl ?_ ?_) rfl ?_; rotate_left 3; (go_simp; rfl); rfl; clear hS; rintro _ wx ⟨bx, rfl, hS, _⟩; (simp only [Act.put, sA, sZ, sS])))
      go_roundw
      case rel => exact ⟨t + 1, T2, rfl, HT2, hlt, hS⟩
      case measure => simp [intOf]; omega
    have hltI : ¬ (T2 : Int) < (n : Int) := by omega
    have Htop : Hid (topOf n = t) := Lib.hid (topOf_eq (by rw [← hT.out]; exact hTn) (by rw [← HT2.out]; omega))
    have ht8 : t ≤ 8 := pow_le8 (by rw [← hT.out]; omega)
    go_wp2_with (first | ((with_reducible show wpList _ _ _ (⟨_, Op.buildSlice _ _ _, _, _, _, _⟩ :: _) _ _); refine Does.list (does_buildSlice (X := ?_) (cs := ?_) (E := ?_) hS rfl ?_ ?_) rfl ?_; rotate_left 3; (go_simp; rfl); rfl; clear hS; rintro _ wx ⟨bx, rfl, hS, _⟩; (simp only [Act.put, sA, sZ, sS])))
    go_loopw [3, 5] (fun s pv wr => ∃ (k P M : Nat) (B : Option Addr) (d : Nat) (out : List PairD), pv = .int .i64 (P : Int) ∧ s = .slice B M d ∧ Hid (out.length = M) ∧ Hid (out ++ (netD n t k).map toPair = netF n) ∧ Hid ((k = 0 ∧ P = 0) ∨ ∃ k', k = k' + 1 ∧ P = 2 ^ k') ∧ k ≤ t + 1 ∧ Sat w wr [.own rPair.rows [.slice B M d] out]) (fun _ pv _ => (intOf pv).toNat)
    case atStart => exact ⟨t + 1, T, 0, _, _, [], rfl, rfl, Lib.hid rfl, Lib.hid (by unfold netF network; rw [Htop.out]; rfl), Lib.hid (.inr ⟨t, rfl, hT.out⟩), Nat.le_refl _, hS⟩
    case round =>
      clear hS
      obtain ⟨k, P, M0, B, d, out, rfl, rfl, hM0, hO, hP, hk, hS⟩ := hrel
      rcases hP.out with ⟨rfl, rfl⟩ | ⟨k', rfl, hP2⟩
      · have HF : Hid (out = netF n) := Lib.hid (by rw [← hO.out]; simp [netD])
        rw [HF.out] at hS
        go_wp2_with (first | ((with_reducible show wpList _ _ _ (⟨_, Op.buildSlice _ _ _, _, _, _, _⟩ :: _) _ _); refine Does.list (does_buildSlice (X := ?_) (cs := ?_) (E := ?_) hS rfl ?_ ?_) rfl ?_; rotate_left 3; (go_simp; rfl); rfl; clear hS; rintro _ wx ⟨bx, rfl, hS, _⟩; (simp only [Act.put, sA, sZ, sS])))
        go_ret
        exact ⟨_, rfl, hS.result⟩
      have HP2 := Lib.hid hP2
      have hP1 : 1 ≤ P := by rw [hP2]; exact Nat.one_le_two_pow
      have hPT : P ≤ T := by rw [hP2, hT.out]; exact Nat.pow_le_pow_right (by decide) (by omega)
      have hPI : (0 : Int) < (P : Int) := by omega
      have hPne : ¬ (P : Int) = 0 := by omega
      have hPb : ((P : Int) == 0) = false := by rw [beq_eq_false_iff_ne]; omega
      clear hP2 hP
      have HL : Hid (∀ (o : List PairD) (r : List PairD), o ++ r = netF n → o.length ≤ 25000) := Lib.hid (fun o r h => by have := HNL.out; rw [← h, List.length_append] at this; omega)
      have HS3 : Hid (out ++ (stepA n P).map toPair ++ ((stB n k' (t - k')).map toPair ++ (netD n t k').map toPair) = netF n) := Lib.hid (by rw [← hO.out, netD, stage, ← HP2.out]; simp only [List.map_append, List.append_assoc])
      have hM0b : M0 ≤ 25000 := by rw [← hM0.out]; exact HL.out _ _ hO.out
      go_wp2_with (first | ((with_reducible show wpList _ _ _ (⟨_, Op.buildSlice _ _ _, _, _, _, _⟩ :: _) _ _); refine Does.list (does_buildSlice (X := ?_) (cs := ?_) (E := ?_) hS rfl ?_ ?_) rfl ?_; rotate_left 3; (go_simp; rfl); rfl; clear hS; rintro _ wx ⟨bx, rfl, hS, _⟩; (simp only [Act.put, sA, sZ, sS])))
      go_loopw [3, 6] (fun s iv wr => ∃ (i M : Nat) (B : Option Addr) (d : Nat) (out' : List PairD), iv = .int .i64 (i : Int) ∧ s = .slice B M d ∧ Hid (out'.length = M) ∧ M ≤ M0 + i ∧ Hid (out' = out ++ (upto (SA P) P i).map toPair) ∧ i ≤ n - P ∧ Sat w wr [.own rPair.rows [.slice B M d] out']) (fun _ iv _ => n - (intOf iv).toNat)
      case atStart => exact ⟨0, M0, B, d, out, rfl, rfl, hM0, by omega, Lib.hid (by simp [upto]), Nat.zero_le _, hS⟩
      case round =>
        clear hS
        obtain ⟨i, M, B, d, out', rfl, rfl, hM, hM2, hO', hi, hS⟩ := hrel
        obtain ⟨q, hq⟩ : ∃ x, i + P = x := ⟨_, rfl⟩
        have hw2 : IntKind.i64.wrap ((i : Int) + (P : Int)) = (q : Int) := by rw [IntWalk.i64_in _ (by omega)]; omega
        by_cases hqn : q < n
        · have hqI : (q : Int) < (n : Int) := by omega
          obtain ⟨i2, hi2⟩ : ∃ x, i + 1 = x := ⟨_, rfl⟩
          have hw3 : IntKind.i64.wrap ((i : Int) + 1) = (i2 : Int) := by rw [IntWalk.i64_in _ (by omega)]; omega
          obtain ⟨dd, hdd⟩ : ∃ x, i / P = x := ⟨_, rfl⟩
          have hw4 := quo_words hdd (by omega)
          cases hsa : SA P i
          · have hb1 : ((dd : Int) % 2 == 0) = false := tm_zero (by rw [← hdd]; exact hsa)
            have HU := Lib.hid (upto_no (d := P) hsa)
            clear hsa hdd
            go_wp2_with (first | ((with_reducible show wpList _ _ _ (⟨_, Op.buildSlice _ _ _, _, _, _, _⟩ :: _) _ _); refine Does.list (does_buildSlice (X := ?_) (cs := ?_) (E := ?_) hS rfl ?_ ?_) rfl ?_; rotate_left 3; (go_simp; rfl); rfl; clear hS; rintro _ wx ⟨bx, rfl, hS, _⟩; (simp only [Act.put, sA, sZ, sS])))
            go_roundw
            case rel => exact ⟨i2, M, B, d, out', rfl, rfl, hM, by omega, Lib.hid (by rw [← hi2, ← HU.out]; exact hO'.out), by omega, hS⟩
            case measure => simp [intOf]; omega
          · have hb1 : ((dd : Int) % 2 == 0) = true := tm_zero (by rw [← hdd]; exact hsa)
            have HU := Lib.hid (upto_yes (d := P) hsa)
            clear hsa hdd
            go_wp2_with (first | ((with_reducible show wpList _ _ _ (⟨_, Op.call { callee := Callee.builtin Builtin.append, args := _, argTypes := _ }, _, _, _, _⟩ :: _) _ _); refine Does.list (f_append rPair (hS.flat (pairOf_all _ i q (by omega) (by omega))) rfl rfl rfl rfl rfl (by decide) (by omega)) rfl ?_; clear hS; rintro _ wx ⟨A2, c2, rfl, hS⟩; (simp only [sZ, sS] at hS); (simp only [Act.put, sA, sZ, sS])) | ((with_reducible show wpList _ _ _ (⟨_, Op.buildSlice _ _ _, _, _, _, _⟩ :: _) _ _); refine Does.list (does_buildSlice (X := ?_) (cs := ?_) (E := ?_) hS rfl ?_ ?_) rfl ?_; rotate_left 3; (go_simp; rfl); rfl; clear hS; rintro _ wx ⟨bx, rfl, hS, _⟩; (simp only [Act.put, sA, sZ, sS])))
            go_roundw
            case rel => exact ⟨i2, M + 1, A2, c2, out' ++ [toPair (i, q)], rfl, rfl, Lib.hid (by rw [List.length_append, hM.out]; rfl), by omega, Lib.hid (by rw [← hi2, ← HU.out, hO'.out, ← hq, List.map_append, List.append_assoc]; rfl), by omega, hS.sel [0] rfl (by decide)⟩
            case measure => simp [intOf]; omega
        have hqI : ¬ (q : Int) < (n : Int) := by omega
        have hiE : i = n - P := by omega
        have HA : Hid (out' ++ ((stB n k' (t - k')).map toPair ++ (netD n t k').map toPair) = netF n) := Lib.hid (by rw [hO'.out, hiE, upto_A]; exact HS3.out)
        have hMb : M ≤ 25300 := by omega
        clear hO' hi hM2 hq
        go_wp2_with (first | ((with_reducible show wpList _ _ _ (⟨_, Op.buildSlice _ _ _, _, _, _, _⟩ :: _) _ _); refine Does.list (does_buildSlice (X := ?_) (cs := ?_) (E := ?_) hS rfl ?_ ?_) rfl ?_; rotate_left 3; (go_simp; rfl); rfl; clear hS; rintro _ wx ⟨bx, rfl, hS, _⟩; (simp only [Act.put, sA, sZ, sS])))
        clear hiE hqI hqn hw2
        go_loopw [3, 7] (fun s qv wr => ∃ (e Q M : Nat) (B : Option Addr) (d : Nat) (out' : List PairD), qv = .int .i64 (Q : Int) ∧ s = .slice B M d ∧ Hid (Q = 2 ^ e) ∧ k' ≤ e ∧ e ≤ t ∧ Hid (out'.length = M) ∧ Hid (out' ++ ((stB n k' (e - k')).map toPair ++ (netD n t k').map toPair) = netF n) ∧ Sat w wr [.own rPair.rows [.slice B M d] out']) (fun _ qv _ => (intOf qv).toNat)
        case atStart => exact ⟨t, T, M, B, d, out', rfl, rfl, hT, by omega, Nat.le_refl _, hM, HA, hS⟩
        case round =>
          clear hS HA hM hMb
          obtain ⟨e, Q, M1, B, d, out2, rfl, rfl, hQ, he1, he2, hM1, hO2, hS⟩ := hrel
          have hQT : Q ≤ T := by rw [hQ.out, hT.out]; exact Nat.pow_le_pow_right (by decide) he2
          have hQ1 : 1 ≤ Q := by rw [hQ.out]; exact Nat.one_le_two_pow
          have hM1b : M1 ≤ 25000 := by rw [← hM1.out]; exact HL.out _ _ hO2.out
          by_cases hek : e = k'
          · have hQP : Q = P := by rw [hQ.out, HP2.out, hek]
            have hQPI : ¬ (P : Int) < (Q : Int) := by omega
            have HB : Hid (out2 ++ (netD n t k').map toPair = netF n) := Lib.hid (by rw [← hO2.out, hek, Nat.sub_self]; rfl)
            obtain ⟨P2, hP2'⟩ : ∃ x, P / 2 = x := ⟨_, rfl⟩
            have hw5 := half_words hP2' (by omega)
            have HP3 : Hid ((k' = 0 ∧ P2 = 0) ∨ ∃ k'', k' = k'' + 1 ∧ P2 = 2 ^ k'') := Lib.hid (by
              rcases Nat.eq_zero_or_pos k' with h0 | h0
              · left
                have := HP2.out
                rw [h0] at this
                exact ⟨h0, by rw [← hP2', this]⟩
              · right
                refine ⟨k' - 1, by omega, ?_⟩
                rw [← hP2', HP2.out, show k' = (k' - 1) + 1 by omega, pow_half, Nat.add_sub_cancel])
            clear hO2 hek hQP
            go_wp2_with (first | ((with_reducible show wpList _ _ _ (⟨_, Op.buildSlice _ _ _, _, _, _, _⟩ :: _) _ _); refine Does.list (does_buildSlice (X := ?_) (cs := ?_) (E := ?_) hS rfl ?_ ?_) rfl ?_; rotate_left 3; (go_simp; rfl); rfl; clear hS; rintro _ wx ⟨bx, rfl, hS, _⟩; (simp only [Act.put, sA, sZ, sS])))
            go_roundw
            case rel => exact ⟨k', P2, M1, B, d, out2, rfl, rfl, hM1, HB, HP3, by omega, hS⟩
            case measure => simp [intOf]; omega
          obtain ⟨s, hs⟩ : ∃ s, e = k' + s + 1 := ⟨e - k' - 1, by omega⟩
          obtain ⟨D, hD⟩ : ∃ x, Q - P = x := ⟨_, rfl⟩
          have hPQ : P < Q := by rw [hQ.out, HP2.out]; exact Nat.pow_lt_pow_right (by decide) (by omega)
          have hPQI : (P : Int) < (Q : Int) := by omega
          have HS4 : Hid (out2 ++ (stepB n P D).map toPair ++ ((stB n k' s).map toPair ++ (netD n t k').map toPair) = netF n) := Lib.hid (by
            rw [← hO2.out, show e - k' = s + 1 by omega, stB, ← hs, ← hQ.out, ← HP2.out, hD]
            simp only [List.map_append, List.append_assoc])
          have Hs := Lib.hid hs
          have hse : k' + s + 1 = e := hs.symm
          clear hs hek
          go_wp2_with (first | ((with_reducible show wpList _ _ _ (⟨_, Op.buildSlice _ _ _, _, _, _, _⟩ :: _) _ _); refine Does.list (does_buildSlice (X := ?_) (cs := ?_) (E := ?_) hS rfl ?_ ?_) rfl ?_; rotate_left 3; (go_simp; rfl); rfl; clear hS; rintro _ wx ⟨bx, rfl, hS, _⟩; (simp only [Act.put, sA, sZ, sS])))
          go_loopw [3, 8] (fun sv iv wr => ∃ (i M : Nat) (B : Option Addr) (d : Nat) (out' : List PairD), iv = .int .i64 (i : Int) ∧ sv = .slice B M d ∧ Hid (out'.length = M) ∧ M ≤ M1 + i ∧ Hid (out' = out2 ++ (upto (SB P) D i).map toPair) ∧ i ≤ n - D ∧ Sat w wr [.own rPair.rows [.slice B M d] out']) (fun _ iv _ => n - (intOf iv).toNat)
          case atStart => exact ⟨0, M1, B, d, out2, rfl, rfl, hM1, by omega, Lib.hid (by simp [upto]), Nat.zero_le _, hS⟩
          case round =>
            clear hS
            obtain ⟨i, M, B, d, out', rfl, rfl, hM, hM2, hO', hi, hS⟩ := hrel
            obtain ⟨u, hu⟩ : ∃ x, i + Q = x := ⟨_, rfl⟩
            have hw2 : IntKind.i64.wrap ((i : Int) + (Q : Int)) = (u : Int) := by rw [IntWalk.i64_in _ (by omega)]; omega
            obtain ⟨q, hq⟩ : ∃ x, i + D = x := ⟨_, rfl⟩
            have hw6 : IntKind.i64.wrap ((u : Int) - (P : Int)) = (q : Int) := by rw [IntWalk.i64_in _ (by omega)]; omega
            by_cases hqn : q < n
            · have hqI : (q : Int) < (n : Int) := by omega
              obtain ⟨i2, hi2⟩ : ∃ x, i + 1 = x := ⟨_, rfl⟩
              have hw3 : IntKind.i64.wrap ((i : Int) + 1) = (i2 : Int) := by rw [IntWalk.i64_in _ (by omega)]; omega
              obtain ⟨dd, hdd⟩ : ∃ x, i / P = x := ⟨_, rfl⟩
              have hw4 := quo_words hdd (by omega)
              cases hsa : SB P i
              · have hb1 : ((dd : Int) % 2 == 1) = false := tm_one (by rw [← hdd]; exact hsa)
                have HU := Lib.hid (upto_no (d := D) hsa)
                clear hsa hdd
                go_wp2_with (first | ((with_reducible show wpList _ _ _ (⟨_, Op.buildSlice _ _ _, _, _, _, _⟩ :: _) _ _); refine Does.list (does_buildSlice (X := ?_) (cs := ?_) (E := ?_) hS rfl ?_ ?_) rfl ?_; rotate_left 3; (go_simp; rfl); rfl; clear hS; rintro _ wx ⟨bx, rfl, hS, _⟩; (simp only [Act.put, sA, sZ, sS])))
                go_roundw
                case rel => exact ⟨i2, M, B, d, out', rfl, rfl, hM, by omega, Lib.hid (by rw [← hi2, ← HU.out]; exact hO'.out), by omega, hS⟩
                case measure => simp [intOf]; omega
              · have hb1 : ((dd : Int) % 2 == 1) = true := tm_one (by rw [← hdd]; exact hsa)
                have HU := Lib.hid (upto_yes (d := D) hsa)
                clear hsa hdd
                go_wp2_with (first | ((with_reducible show wpList _ _ _ (⟨_, Op.call { callee := Callee.builtin Builtin.append, args := _, argTypes := _ }, _, _, _, _⟩ :: _) _ _); refine Does.list (f_append rPair (hS.flat (pairOf_all _ i q (by omega) (by omega))) rfl rfl rfl rfl rfl (by decide) (by omega)) rfl ?_; clear hS; rintro _ wx ⟨A2, c2, rfl, hS⟩; (simp only [sZ, sS] at hS); (simp only [Act.put, sA, sZ, sS])) | ((with_reducible show wpList _ _ _ (⟨_, Op.buildSlice _ _ _, _, _, _, _⟩ :: _) _ _); refine Does.list (does_buildSlice (X := ?_) (cs := ?_) (E := ?_) hS rfl ?_ ?_) rfl ?_; rotate_left 3; (go_simp; rfl); rfl; clear hS; rintro _ wx ⟨bx, rfl, hS, _⟩; (simp only [Act.put, sA, sZ, sS])))
                go_roundw
                case rel => exact ⟨i2, M + 1, A2, c2, out' ++ [toPair (i, q)], rfl, rfl, Lib.hid (by rw [List.length_append, hM.out]; rfl), by omega, Lib.hid (by rw [← hi2, ← HU.out, hO'.out, ← hq, List.map_append, List.append_assoc]; rfl), by omega, hS.sel [0] rfl (by decide)⟩
                case measure => simp [intOf]; omega
            have hqI : ¬ (q : Int) < (n : Int) := by omega
            have hiE : i = n - D := by omega
            have HA : Hid (out' ++ ((stB n k' s).map toPair ++ (netD n t k').map toPair) = netF n) := Lib.hid (by rw [hO'.out, hiE, upto_B]; exact HS4.out)
            obtain ⟨Q2, hQ2'⟩ : ∃ x, Q / 2 = x := ⟨_, rfl⟩
            have hw5 := half_words hQ2' (by omega)
            have HQ3 : Hid (Q2 = 2 ^ (k' + s)) := Lib.hid (by rw [← hQ2', hQ.out, ← hse, pow_half])
            clear hO' hi hM2 hq hiE
            go_wp2_with (first | ((with_reducible show wpList _ _ _ (⟨_, Op.buildSlice _ _ _, _, _, _, _⟩ :: _) _ _); refine Does.list (does_buildSlice (X := ?_) (cs := ?_) (E := ?_) hS rfl ?_ ?_) rfl ?_; rotate_left 3; (go_simp; rfl); rfl; clear hS; rintro _ wx ⟨bx, rfl, hS, _⟩; (simp only [Act.put, sA, sZ, sS])))
            go_roundw
            case rel => exact ⟨k' + s, Q2, M, B, d, out', rfl, rfl, HQ3, by omega, by omega, hM, Lib.hid (by rw [Nat.add_sub_cancel_left]; exact HA.out), hS⟩
            case measure => simp [intOf]; omega
end Go.Proofs.YtldknaajnnohiaaDoor
