/- Contracts of mark.. and held.. for data with texts. -/
import Derived.Test.YtldknaajnnohiaaDoorMkDefsT
import Derived.Test.YtldknaajnnohiaaDoorMkA
section
namespace Go.Proofs.YtldknaajnnohiaaDoor
open Go.RowKit
attribute [local go_sem] ext_cell

set_option maxHeartbeats 2000000 in
set_option maxRecDepth 8000 in
theorem markStringS_any (w : World) (F : List Nat) (v : Value) (xs : List ByteArray) (k : Int) (hx : SliceHas Rep.str w F [v] xs) (hF : Good w F) (h0 : 0 ≤ k) (h1 : k + ((ctL ct1) xs : Int) ≤ 4611686018427387904) :
    Calls Tryd.prog 112 #[v, .int .i64 k] w fun e w' => e = .returned (.int .i64 (k + ((ctL ct1) xs : Int))) ∧ SliceHas Rep.str w' F [v] ((mkL mkS ct1) k xs) ∧ Good w' F ∧ Mod F w w' := by
  obtain ⟨A, c, rfl, hn, _⟩ := hx.form'
  go_enter Tryd.func112, Tryd.ntmps112
  go_wp2_with fail
  go_loopw [1, 5] (fun kk i wr => ∃ (j : Nat) (K : Int), j ≤ xs.length ∧ i = .int .i64 j ∧ kk = .int .i64 K ∧ Hid (K = k + ((ctL ct1) (xs.take j) : Int)) ∧ 0 ≤ K ∧ SliceHas Rep.str wr F [.slice A xs.length c] (mkL mkS ct1 k (xs.take j) ++ xs.drop j) ∧ Good wr F ∧ Mod F w wr) (fun _ i _ => xs.length - (intOf i).toNat)
  case atStart => exact ⟨0, k, Nat.zero_le _, rfl, rfl, (show _ = _ by simp [ctL]), h0, by simpa [mkL] using hx, hF, Mod.refl _ _⟩
  case round =>
    obtain ⟨j, K, hj, rfl, rfl, HK, K0, hs, hg, hm⟩ := hrel
    by_cases hlt : j < xs.length
    · have hq : K + (ct1 xs[j] : Int) ≤ 4611686018427387904 := by
        have a1 := ctL_succ ct1 xs j hlt
        have a2 := ctL_take_le ct1 xs (j + 1)
        have a3 := HK.out
        omega
      have Hq2 := Lib.hid (show K + (ct1 xs[j] : Int) = k + ((ctL ct1) (xs.take (j + 1)) : Int) by
        have a1 := ctL_succ ct1 xs j hlt
        have a3 := HK.out
        omega)
      obtain ⟨ad, rfl⟩ : ∃ ad, A = some ad := by
        obtain ⟨ad, _, _, h, _⟩ := hs.get hlt
        exact ⟨ad, h⟩
      have hx0 := get_mid (mkL mkS ct1 k (xs.take j)) xs j (by rw [mkL_len, List.length_take]; omega) hlt
      have Hfin := Lib.hid (show (mkL mkS ct1 k (xs.take j) ++ xs.drop j).set j (mkS K xs[j]) = mkL mkS ct1 k (xs.take (j + 1)) ++ xs.drop (j + 1) by
        rw [list_set_take _ _ _ _ (by rw [mkL_len, List.length_take]; omega) hlt, mkL_succ _ _ _ _ _ hlt, ← HK.out])
      have hlen : j < (mkL mkS ct1 k (xs.take j) ++ xs.drop j).length := by rw [hs.n]; exact hlt
      have hC : (ct1 xs[j] : Int) = 1 := rfl
      go_wp2_with fail
      refine (markText_any _ K K0 (by omega)).mono ?_
      rintro e w1 ⟨rfl, hm1⟩
      replace hs := Rep.slice Rep.str |>.mod0 hs hm1
      replace hg := hg.mod0 hm1
      replace hm := hm.seq' hm1
      obtain ⟨⟨old, ho⟩, hfz, hs2, hg2, hm2⟩ := hs.store' hg hlt (j := 0) (by decide) (.string (mkS K xs[j])) xs[j] (mkS K xs[j]) hx0 (by rintro w Fk ck ⟨rfl, rfl, _⟩; exact ⟨rfl, rfl, mkS_size _ _⟩)
      simp only [show Rep.str.size = 1 from rfl, Nat.mul_one, add_zero'] at ho hfz hs2 hg2 hm2
      rw [Hfin.out] at hs2
      replace hm := hm.seq hm2
      clear hs hg hm2
      have hs := hs2
      have hg := hg2
      clear hs2 hg2
      have Hs := Lib.hid hs
      have Hg := Lib.hid hg
      have Hm := Lib.hid hm
      clear hs hg hm
      rw [hC] at hq
      have Hq3 : Hid (K + 1 = k + ((ctL ct1) (xs.take (j + 1)) : Int)) := by rw [← hC]; exact Hq2
      clear hC
      go_wp2_with fail
      go_roundw
      case rel => exact ⟨j + 1, K + 1, hlt, by go_num, rfl, Hq3, by omega, Hs.out, Hg.out, Hm.out⟩
      case measure => simp [intOf]; omega
    · obtain rfl : j = xs.length := by omega
      have hK := HK.out
      rw [List.take_length] at hK
      rw [List.take_length, List.drop_of_length_le (Nat.le_refl _), List.append_nil] at hs
      have HK2 := Lib.hid hK
      clear hK
      go_wp2_with fail
      go_ret
      exact ⟨ret_int HK2.out, hs, hg, hm⟩




end Go.Proofs.YtldknaajnnohiaaDoor
end

section
namespace Go.Proofs.YtldknaajnnohiaaDoor
open Go.RowKit
attribute [local go_sem] ext_cell

set_option maxHeartbeats 4000000 in
set_option maxRecDepth 8000 in
theorem markPadded_any (w : World) (F : List Nat) (cs : List Value) (x : PaddedD) (k : Int) (hx : rPadded.has w F cs x) (hF : Good w F) (kb0 : 0 ≤ k) (kb1 : k + (ctvPadded x : Int) ≤ 4611686018427387904) :
    Calls Tryd.prog 46 #[.agg cs.toArray, .int .i64 k] w fun e w' => e = .returned (.int .i64 (k + (ctvPadded x : Int))) ∧ rPadded.has w' F cs (mkvPadded k x) ∧ Good w' F ∧ Mod F w w' := by
  obtain ⟨A0, c0, F0, A1, c1, F1, A2, c2, F2, rfl, hFe, h0, h1, h2⟩ := rPadded_open hx
  rw [hFe] at hF ⊢
  obtain ⟨x0, x1, x2⟩ := x
  simp only [ctvPadded] at kb1
  have L0 := hF.left.left
  have B0 := Rep.lt (Rep.str.slice) h0
  have L1 := hF.left
  have B1 := Rep.lt ((Rep.int.slice).slice) h1
  have L2 := hF
  have B2 := Rep.lt (Rep.bool.slice) h2
  have hM : Mod (F0 ++ F1 ++ F2) w w := Mod.refl _ _
  go_enter Tryd.func46, Tryd.ntmps46
  go_wp2_with fail
  refine (markStringS_any _ F0 _ x0 _ (Rep.mod0 (Rep.str.slice) h0 (Mod.alloc0 _ _)) ((L0).mod0 (Mod.alloc0 _ _)) (by omega) (by omega)).mono ?_
  rintro e w0 ⟨rfl, g0, n0, m0⟩
  have hc0 : ∀ o, w0.cell? ⟨w.heap.size, o, none⟩ = _ := fun o => m0.cell (p := ⟨w.heap.size, o, none⟩) (by simp) (fun hg => by have := B0 _ hg; simp at this)
  have z0 := m0.size
  simp only [World.size_alloc] at z0
  replace h1 := Rep.mod ((Rep.int.slice).slice) (Rep.mod0 ((Rep.int.slice).slice) h1 (Mod.alloc0 w _)) m0 (fun g hg hg' => L1.apart g (by simp [hg']) hg)
  have G1 := ((L1.right).mod0 (Mod.alloc0 w _)).mod m0 (fun g hg hg' => L1.apart g (by simp [hg']) hg)
  replace h2 := Rep.mod (Rep.bool.slice) (Rep.mod0 (Rep.bool.slice) h2 (Mod.alloc0 w _)) m0 (fun g hg hg' => L2.apart g (by simp [hg']) hg)
  have G2 := ((L2.right).mod0 (Mod.alloc0 w _)).mod m0 (fun g hg hg' => L2.apart g (by simp [hg']) hg)
  replace hF := (hF.mod0 (Mod.alloc0 w _)).part m0 n0
  replace hM := (hM.alloc _).seq (m0.mono (fun g hg _ => by simp [hg]))
  go_wp2_with fail
  refine (markIntSS_any _ F1 _ x1 _ h1 G1 (by omega) (by omega)).mono ?_
  rintro e w1 ⟨rfl, g1, n1, m1⟩
  have hc1 : ∀ o, w1.cell? ⟨w.heap.size, o, none⟩ = _ := fun o => m1.cell (p := ⟨w.heap.size, o, none⟩) (by simp <;> omega) (fun hg => by have := B1 _ hg; simp at this)
  simp only [hc0] at hc1
  have z1 := m1.size
  replace g0 := Rep.mod (Rep.str.slice) g0 m1 (fun g hg hg' => L1.apart g (by simp [hg]) hg')
  replace h2 := Rep.mod (Rep.bool.slice) h2 m1 (fun g hg hg' => L2.apart g (by simp [hg']) hg)
  replace G2 := G2.mod m1 (fun g hg hg' => L2.apart g (by simp [hg']) hg)
  replace hF := hF.part m1 n1
  replace hM := hM.seq (m1.mono (fun g hg _ => by simp [hg]))
  go_wp2_with fail
  refine (markBoolS_any _ F2 _ x2 _ h2 G2 (by omega) (by omega)).mono ?_
  rintro e w2 ⟨rfl, g2, n2, m2⟩
  have hc2 : ∀ o, w2.cell? ⟨w.heap.size, o, none⟩ = _ := fun o => m2.cell (p := ⟨w.heap.size, o, none⟩) (by simp <;> omega) (fun hg => by have := B2 _ hg; simp at this)
  simp only [hc1] at hc2
  have z2 := m2.size
  replace g0 := Rep.mod (Rep.str.slice) g0 m2 (fun g hg hg' => L2.apart g (by simp [hg]) hg')
  replace g1 := Rep.mod ((Rep.int.slice).slice) g1 m2 (fun g hg hg' => L2.apart g (by simp [hg]) hg')
  replace hF := hF.part m2 n2
  replace hM := hM.seq (m2.mono (fun g hg _ => by simp [hg]))
  go_wp2_with fail
  go_ret
  exact ⟨ret_int (by first | (simp only [ctvPadded]; done) | (simp only [ctvPadded]; omega)), rPadded_mk g0 g1 g2, hF, hM⟩

set_option maxHeartbeats 2000000 in
theorem heldPadded_any (w : World) (F : List Nat) (cs : List Value) (x : PaddedD) (k : Int) (hx : rPadded.has w F cs (mkvPadded k x)) (kb0 : 0 ≤ k) (kb1 : k + (ctvPadded x : Int) ≤ 4611686018427387904) :
    Calls Tryd.prog 48 #[.agg cs.toArray, .int .i64 k] w fun e w' => e = .returned (.int .i64 (k + (ctvPadded x : Int))) ∧ Mod [] w w' := by
  obtain ⟨x0, x1, x2⟩ := x
  simp only [mkvPadded] at hx
  obtain ⟨A0, c0, F0, A1, c1, F1, A2, c2, F2, rfl, _, h0, h1, h2⟩ := rPadded_open hx
  simp only [ctvPadded] at kb1
  go_enter Tryd.func48, Tryd.ntmps48
  go_wp2_with fail
  refine (heldStringS_any _ F0 _ x0 _ (Rep.mod0 (Rep.str.slice) h0 (by repeat (first | exact Mod.refl _ _ | apply Mod.alloc | apply Mod.drewN | refine Mod.seq ?_ (by assumption)))) (by omega) (by omega)).mono ?_
  rintro e w0 ⟨rfl, hm0⟩
  obtain ⟨hc0, hf0⟩ := hm0.rules
  have z0 := hm0.size
  simp only [World.size_alloc] at z0
  have y0 : w.heap.size < w0.heap.size := by omega
  go_wp2_with fail
  refine (heldIntSS_any _ F1 _ x1 _ (Rep.mod0 ((Rep.int.slice).slice) h1 (by repeat (first | exact Mod.refl _ _ | apply Mod.alloc | apply Mod.drewN | refine Mod.seq ?_ (by assumption)))) (by omega) (by omega)).mono ?_
  rintro e w1 ⟨rfl, hm1⟩
  obtain ⟨hc1, hf1⟩ := hm1.rules
  have z1 := hm1.size
  have y1 : w.heap.size < w1.heap.size := by omega
  go_wp2_with fail
  refine (heldBoolS_any _ F2 _ x2 _ (Rep.mod0 (Rep.bool.slice) h2 (by repeat (first | exact Mod.refl _ _ | apply Mod.alloc | apply Mod.drewN | refine Mod.seq ?_ (by assumption)))) (by omega) (by omega)).mono ?_
  rintro e w2 ⟨rfl, hm2⟩
  obtain ⟨hc2, hf2⟩ := hm2.rules
  have z2 := hm2.size
  have y2 : w.heap.size < w2.heap.size := by omega
  go_wp2_with fail
  go_ret
  exact ⟨ret_int (by first | (simp only [ctvPadded]; done) | (simp only [ctvPadded]; omega)), (by repeat (first | exact Mod.refl _ _ | apply Mod.alloc | apply Mod.drewN | refine Mod.seq ?_ (by assumption)))⟩


end Go.Proofs.YtldknaajnnohiaaDoor
end
