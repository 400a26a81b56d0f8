/- Draws of keys and numbers. Printed by gen_draw.py. -/
import Derived.Test.YthabgnhedmepjaaDoorDrT
namespace Go.Proofs.YthabgnhedmepjaaDoor
open Go.RowKit

set_option maxHeartbeats 4000000 in
set_option maxRecDepth 10000 in
theorem spec_l20Key (w : World) (br : Nat) (A : Option Addr) (nr cr p : Nat) (hrd : Rd br A nr cr p w) (hp : p ≤ 900000000) :
    Calls Tryd.prog 40 #[.pointer (some ⟨br, 0, none⟩)] w fun e w' => (∃ k n : Int, e = .returned (.tuple #[.int .i64 k, .int .i64 n]) ∧ (-1 ≤ k ∧ k ≤ 1000001) ∧ -1 ≤ n ∧ n ≤ 1000000001) ∧ (∃ p', p' ≤ p + 100 ∧ Rd br A nr cr p' w') ∧ Mod [br] w w' := by
  go_enter Tryd.func40, Tryd.ntmps40
  go_wp2_with fail
  refine wp_region_rd br 1 [TX (.pointer (some ⟨br, 0, none⟩)), TI (0) (255), TI (0) (765000), TSl br 5 (TI (-1) (1000001)), TSl br 9 (TI (0) (4)), TX (.pointer (some ⟨br, 0, none⟩)), TI (0) (8), TP br (TI (0) (4)), TI (0) (4), TP br (TI (-1) (1000001)), TI (-1) (1000001), TX (.pointer (some ⟨br, 0, none⟩)), TI (0) (255), TI (0) (25500000), TSl br 5 (TI (-1) (1000000001)), TSl br 9 (TI (0) (4)), TX (.pointer (some ⟨br, 0, none⟩)), TI (0) (8), TP br (TI (0) (4)), TI (0) (4), TP br (TI (-1) (1000000001)), TI (-1) (1000000001), TI (-1) (1000001), TI (-1) (1000000001)] hrd (by kernel_rfl) (by kernel_rfl) ⟨?_, ?_, ?_, ?_, ?_, ?_, ?_, ?_, ?_, ?_, ?_, ?_, ?_, ?_, ?_, ?_, ?_, ?_, ?_, ?_, ?_, ?_, ?_, ?_, trivial⟩ ?_
  · intro n ρ w hc hf hb hd hJ hn
    exact E_move rfl (hb 0 rfl) hJ
  · intro n ρ w hc hf hb hd hJ hn
    have e0 : ρ (.tmp 4) = .pointer (some ⟨br, 0, none⟩) := hd.1 rfl
    refine E_call (run_call (hf _) rfl (by simp only [List.map_toArray, List.map_cons, List.map_nil, hc, e0]; go_simp)) hJ (fun p2 hp2 hr2 => ?_)
    simp only [List.map_toArray, List.map_cons, List.map_nil, hc, e0]
    refine (spec_pick _ _ _ _ _ _ _ hr2 (by have hn2 : n < 24 := hn; omega) (by omega)).mono ?_
    rintro e w' ⟨⟨x, rfl, h1, h2, h3⟩, h4, h5⟩
    exact ⟨_, rfl, ⟨x, rfl, by omega, by omega⟩, h5, _, by omega, h4⟩
  · intro n ρ w hc hf hb hd hJ hn
    obtain ⟨x0, e0, l0, u0⟩ : TI (0) (255) (ρ (.tmp 5)) w := hd.1 rfl
    refine E_val (v := .int .i64 (x0 * (3000))) ?_ ⟨_, rfl, by omega, by omega⟩ hJ
    unfold execOp; simp only [e0, hc]; go_simp
    first | done | rw [IntWalk.i64_in _ (by omega)] | simp only [IntWalk.i64_in _ (show _ by omega)]
  · intro n ρ w hc hf hb hd hJ hn
    obtain ⟨x0, e0, l0, u0⟩ : TI (0) (765000) (ρ (.tmp 6)) w := hd.1 rfl
    refine E_build (cs := ?_) rfl (by simp only [List.map_toArray, List.map_cons, List.map_nil, hc, e0]; go_simp; rfl) rfl ?_ hJ
    intro j hj
    match j, hj with
    | 0, _ => exact ⟨_, rfl, _, rfl, by omega, by omega⟩
    | 1, _ => exact ⟨_, rfl, _, rfl, by omega, by omega⟩
    | 2, _ => exact ⟨_, rfl, _, rfl, by omega, by omega⟩
    | 3, _ => exact ⟨_, rfl, _, rfl, by omega, by omega⟩
    | 4, _ => exact ⟨_, rfl, _, rfl, by omega, by omega⟩
    | j + 5, hj => omega
  · intro n ρ w hc hf hb hd hJ hn
    refine E_build (cs := ?_) rfl (by simp only [List.map_toArray, List.map_cons, List.map_nil, hc]; go_simp; rfl) rfl ?_ hJ
    intro j hj
    match j, hj with
    | 0, _ => exact ⟨_, rfl, _, rfl, by omega, by omega⟩
    | 1, _ => exact ⟨_, rfl, _, rfl, by omega, by omega⟩
    | 2, _ => exact ⟨_, rfl, _, rfl, by omega, by omega⟩
    | 3, _ => exact ⟨_, rfl, _, rfl, by omega, by omega⟩
    | 4, _ => exact ⟨_, rfl, _, rfl, by omega, by omega⟩
    | 5, _ => exact ⟨_, rfl, _, rfl, by omega, by omega⟩
    | 6, _ => exact ⟨_, rfl, _, rfl, by omega, by omega⟩
    | 7, _ => exact ⟨_, rfl, _, rfl, by omega, by omega⟩
    | 8, _ => exact ⟨_, rfl, _, rfl, by omega, by omega⟩
    | j + 9, hj => omega
  · intro n ρ w hc hf hb hd hJ hn
    exact E_move rfl (hb 0 rfl) hJ
  · intro n ρ w hc hf hb hd hJ hn
    have e0 : ρ (.tmp 9) = .pointer (some ⟨br, 0, none⟩) := hd.1 rfl
    refine E_call (run_call (hf _) rfl (by simp only [List.map_toArray, List.map_cons, List.map_nil, hc, e0]; go_simp)) hJ (fun p2 hp2 hr2 => ?_)
    simp only [List.map_toArray, List.map_cons, List.map_nil, hc, e0]
    refine (spec_pick _ _ _ _ _ _ _ hr2 (by have hn2 : n < 24 := hn; omega) (by omega)).mono ?_
    rintro e w' ⟨⟨x, rfl, h1, h2, h3⟩, h4, h5⟩
    exact ⟨_, rfl, ⟨x, rfl, by omega, by omega⟩, h5, _, by omega, h4⟩
  · intro n ρ w hc hf hb hd hJ hn
    obtain ⟨b0, e0, nb0, hl0, hc0⟩ : TSl br 9 (TI (0) (4)) (ρ (.tmp 8)) w := hd.1 rfl
    obtain ⟨x1, e1, l1, u1⟩ : TI (0) (8) (ρ (.tmp 10)) w := hd.2.1 rfl
    obtain ⟨k1, rfl⟩ : ∃ k : Nat, x1 = k := ⟨x1.toNat, by omega⟩
    obtain ⟨u, hu, ht⟩ := hc0 k1 (by omega)
    refine E_val (v := .pointer (some ⟨b0, k1, none⟩)) ?_ ⟨b0, k1, rfl, nb0, hl0, u, hu, ht⟩ hJ
    unfold execOp; simp only [e0, e1]; go_simp
    first | done | (intro hh; exact absurd hh (by omega))
  · intro n ρ w hc hf hb hd hJ hn
    exact E_load rfl (hd.1 rfl) hJ
  · intro n ρ w hc hf hb hd hJ hn
    obtain ⟨b0, e0, nb0, hl0, hc0⟩ : TSl br 5 (TI (-1) (1000001)) (ρ (.tmp 7)) w := hd.1 rfl
    obtain ⟨x1, e1, l1, u1⟩ : TI (0) (4) (ρ (.tmp 12)) w := hd.2.1 rfl
    obtain ⟨k1, rfl⟩ : ∃ k : Nat, x1 = k := ⟨x1.toNat, by omega⟩
    obtain ⟨u, hu, ht⟩ := hc0 k1 (by omega)
    refine E_val (v := .pointer (some ⟨b0, k1, none⟩)) ?_ ⟨b0, k1, rfl, nb0, hl0, u, hu, ht⟩ hJ
    unfold execOp; simp only [e0, e1]; go_simp
    first | done | (intro hh; exact absurd hh (by omega))
  · intro n ρ w hc hf hb hd hJ hn
    exact E_load rfl (hd.1 rfl) hJ
  · intro n ρ w hc hf hb hd hJ hn
    exact E_move rfl (hb 0 rfl) hJ
  · intro n ρ w hc hf hb hd hJ hn
    have e0 : ρ (.tmp 15) = .pointer (some ⟨br, 0, none⟩) := hd.1 rfl
    refine E_call (run_call (hf _) rfl (by simp only [List.map_toArray, List.map_cons, List.map_nil, hc, e0]; go_simp)) hJ (fun p2 hp2 hr2 => ?_)
    simp only [List.map_toArray, List.map_cons, List.map_nil, hc, e0]
    refine (spec_pick _ _ _ _ _ _ _ hr2 (by have hn2 : n < 24 := hn; omega) (by omega)).mono ?_
    rintro e w' ⟨⟨x, rfl, h1, h2, h3⟩, h4, h5⟩
    exact ⟨_, rfl, ⟨x, rfl, by omega, by omega⟩, h5, _, by omega, h4⟩
  · intro n ρ w hc hf hb hd hJ hn
    obtain ⟨x0, e0, l0, u0⟩ : TI (0) (255) (ρ (.tmp 16)) w := hd.1 rfl
    refine E_val (v := .int .i64 (x0 * (100000))) ?_ ⟨_, rfl, by omega, by omega⟩ hJ
    unfold execOp; simp only [e0, hc]; go_simp
    first | done | rw [IntWalk.i64_in _ (by omega)] | simp only [IntWalk.i64_in _ (show _ by omega)]
  · intro n ρ w hc hf hb hd hJ hn
    obtain ⟨x0, e0, l0, u0⟩ : TI (0) (25500000) (ρ (.tmp 17)) w := hd.1 rfl
    refine E_build (cs := ?_) rfl (by simp only [List.map_toArray, List.map_cons, List.map_nil, hc, e0]; go_simp; rfl) rfl ?_ hJ
    intro j hj
    match j, hj with
    | 0, _ => exact ⟨_, rfl, _, rfl, by omega, by omega⟩
    | 1, _ => exact ⟨_, rfl, _, rfl, by omega, by omega⟩
    | 2, _ => exact ⟨_, rfl, _, rfl, by omega, by omega⟩
    | 3, _ => exact ⟨_, rfl, _, rfl, by omega, by omega⟩
    | 4, _ => exact ⟨_, rfl, _, rfl, by omega, by omega⟩
    | j + 5, hj => omega
  · intro n ρ w hc hf hb hd hJ hn
    refine E_build (cs := ?_) rfl (by simp only [List.map_toArray, List.map_cons, List.map_nil, hc]; go_simp; rfl) rfl ?_ hJ
    intro j hj
    match j, hj with
    | 0, _ => exact ⟨_, rfl, _, rfl, by omega, by omega⟩
    | 1, _ => exact ⟨_, rfl, _, rfl, by omega, by omega⟩
    | 2, _ => exact ⟨_, rfl, _, rfl, by omega, by omega⟩
    | 3, _ => exact ⟨_, rfl, _, rfl, by omega, by omega⟩
    | 4, _ => exact ⟨_, rfl, _, rfl, by omega, by omega⟩
    | 5, _ => exact ⟨_, rfl, _, rfl, by omega, by omega⟩
    | 6, _ => exact ⟨_, rfl, _, rfl, by omega, by omega⟩
    | 7, _ => exact ⟨_, rfl, _, rfl, by omega, by omega⟩
    | 8, _ => exact ⟨_, rfl, _, rfl, by omega, by omega⟩
    | j + 9, hj => omega
  · intro n ρ w hc hf hb hd hJ hn
    exact E_move rfl (hb 0 rfl) hJ
  · intro n ρ w hc hf hb hd hJ hn
    have e0 : ρ (.tmp 20) = .pointer (some ⟨br, 0, none⟩) := hd.1 rfl
    refine E_call (run_call (hf _) rfl (by simp only [List.map_toArray, List.map_cons, List.map_nil, hc, e0]; go_simp)) hJ (fun p2 hp2 hr2 => ?_)
    simp only [List.map_toArray, List.map_cons, List.map_nil, hc, e0]
    refine (spec_pick _ _ _ _ _ _ _ hr2 (by have hn2 : n < 24 := hn; omega) (by omega)).mono ?_
    rintro e w' ⟨⟨x, rfl, h1, h2, h3⟩, h4, h5⟩
    exact ⟨_, rfl, ⟨x, rfl, by omega, by omega⟩, h5, _, by omega, h4⟩
  · intro n ρ w hc hf hb hd hJ hn
    obtain ⟨b0, e0, nb0, hl0, hc0⟩ : TSl br 9 (TI (0) (4)) (ρ (.tmp 19)) w := hd.1 rfl
    obtain ⟨x1, e1, l1, u1⟩ : TI (0) (8) (ρ (.tmp 21)) w := hd.2.1 rfl
    obtain ⟨k1, rfl⟩ : ∃ k : Nat, x1 = k := ⟨x1.toNat, by omega⟩
    obtain ⟨u, hu, ht⟩ := hc0 k1 (by omega)
    refine E_val (v := .pointer (some ⟨b0, k1, none⟩)) ?_ ⟨b0, k1, rfl, nb0, hl0, u, hu, ht⟩ hJ
    unfold execOp; simp only [e0, e1]; go_simp
    first | done | (intro hh; exact absurd hh (by omega))
  · intro n ρ w hc hf hb hd hJ hn
    exact E_load rfl (hd.1 rfl) hJ
  · intro n ρ w hc hf hb hd hJ hn
    obtain ⟨b0, e0, nb0, hl0, hc0⟩ : TSl br 5 (TI (-1) (1000000001)) (ρ (.tmp 18)) w := hd.1 rfl
    obtain ⟨x1, e1, l1, u1⟩ : TI (0) (4) (ρ (.tmp 23)) w := hd.2.1 rfl
    obtain ⟨k1, rfl⟩ : ∃ k : Nat, x1 = k := ⟨x1.toNat, by omega⟩
    obtain ⟨u, hu, ht⟩ := hc0 k1 (by omega)
    refine E_val (v := .pointer (some ⟨b0, k1, none⟩)) ?_ ⟨b0, k1, rfl, nb0, hl0, u, hu, ht⟩ hJ
    unfold execOp; simp only [e0, e1]; go_simp
    first | done | (intro hh; exact absurd hh (by omega))
  · intro n ρ w hc hf hb hd hJ hn
    exact E_load rfl (hd.1 rfl) hJ
  · intro n ρ w hc hf hb hd hJ hn
    exact E_assign rfl (hd.1 rfl) hJ
  · intro n ρ w hc hf hb hd hJ hn
    exact E_assign rfl (hd.1 rfl) hJ
  intro v w' p' hT hp' hr' hM
  obtain ⟨x0, e0, l0, u0⟩ := hT 22 (by decide)
  obtain ⟨x1, e1, l1, u1⟩ := hT 23 (by decide)
  simp only [putAll, Act.put, List.setIfInBounds_toArray, List.set_cons_zero, List.set_cons_succ, e0, e1]
  go_wp2_with fail
  go_ret2
  exact ⟨⟨_, _, rfl, ⟨l0, u0⟩, l1, u1⟩, ⟨p', by have h : p' ≤ p + 1 * 24 := hp'; omega, hr'⟩, hM⟩
end Go.Proofs.YthabgnhedmepjaaDoor
