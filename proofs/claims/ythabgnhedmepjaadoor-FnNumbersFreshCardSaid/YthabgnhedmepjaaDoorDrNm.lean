/- Draws of names. Printed by gen_draw3.py. -/
import Derived.Test.YthabgnhedmepjaaDoorDrT
namespace Go.Proofs.YthabgnhedmepjaaDoor
open Go.RowKit

/-- A new slice of one to three names. -/
def TNm (br base : Nat) : Typ := fun v w => ∃ b n, v = .slice (some ⟨b, 0, none⟩) n n ∧ 1 ≤ n ∧ n ≤ 3 ∧ b ≠ br ∧ base ≤ b ∧ ∃ (cs : List Value) (t : TypeId), w.heap[b]? = some (.cells cs.toArray t (0, 0)) ∧ cs.length = n ∧ ∀ u ∈ cs, ∃ s : ByteArray, u = .string s ∧ s.size ≤ 100
instance (br base : Nat) : Stab br (TNm br base) := ⟨fun v w w' hm ⟨b, n, e, h1, h3, hb, hl, cs, t, hh, hc⟩ =>
  ⟨b, n, e, h1, h3, hb, hl, cs, t, (hm.block b (Array.getElem?_eq_some_iff.1 hh).1 (by simpa using hb)).trans hh, hc⟩⟩
section
variable {P : Program} {br : Nat} {ρ : Operand → Value} {o : Oper} {n : Nat} {w w0 : World} {A : Option Addr} {nr cr p K : Nat}
theorem E_buildNm {T E : TypeId} {len : Nat} {parts : Array (Nat × Operand)} {cs : List Value} {X : Result Value} (ho : o.op = .buildSlice T len parts) (hrX : (Instr.buildSlice T len (parts.map fun (i, x) => (i, ρ x))).run P w = X)
    (hX : X = .ok (.slice (some ⟨w.heap.size, 0, none⟩) len len) (w.alloc (.cells cs.toArray E))) (hl : cs.length = len) (h1 : 1 ≤ len) (h3 : len ≤ 3) (hcs : ∀ u ∈ cs, ∃ s : ByteArray, u = .string s ∧ s.size ≤ 100) (hJ : RdJ br A nr cr p K n w ∧ Mod [br] w0 w) : Out P br (fun m w' => RdJ br A nr cr p K m w' ∧ Mod [br] w0 w') ρ o n w (TNm br w0.heap.size) := by
  have hbr : br < w.heap.size := by
    obtain ⟨⟨p', h1, ⟨_, _, t, hb⟩, _⟩, _⟩ := hJ
    exact (Array.getElem?_eq_some_iff.1 hb).1
  obtain ⟨⟨p', k1, k2⟩, k3⟩ := hJ
  have hM := Mod.alloc0 w (.cells cs.toArray E)
  refine .inl ⟨_, _, ?_, ⟨w.heap.size, len, rfl, h1, h3, by omega, k3.size, cs, E, heap_alloc_new w _, hl, hcs⟩, hM.mono (by simp), RdJ.up ⟨p', k1, k2.mod hM⟩, k3.seq (hM.mono (by simp))⟩
  unfold execOp
  simp only [ho, Sem.run_bind, hrX.trans hX, Result.andThen_ok]
  rfl
theorem names_row {cs : List Value} (h : ∀ u ∈ cs, ∃ s : ByteArray, u = .string s ∧ s.size ≤ 100) (w : World) : ∃ ns : List ByteArray, ns.length = cs.length ∧ Rep.str.all w [] cs ns := by
  induction cs with
  | nil => exact ⟨[], rfl, rfl, rfl⟩
  | cons u cs ih =>
    obtain ⟨ns, hl, ha⟩ := ih (fun u hu => h u (by simp [hu]))
    obtain ⟨s, rfl, hs⟩ := h u (by simp)
    exact ⟨s :: ns, by simp [hl], [], [], [_], cs, rfl, rfl, ⟨rfl, rfl, Nat.le_trans hs (by decide)⟩, ha⟩
theorem TNm.new {v : Value} (h : TNm br w0.heap.size v w) : ∃ ns : List ByteArray, 1 ≤ ns.length ∧ ns.length ≤ 3 ∧ NewIn Rep.str.rows w0 w [v] ns := by
  obtain ⟨b, n, rfl, h1, h3, hb, hl, cs, t, hh, hcl, hc⟩ := h
  obtain ⟨ns, hnl, ha⟩ := names_row hc w
  refine ⟨ns, by omega, by omega, [b], RowHas.whole hh (by simpa using ha) (by omega) (by unfold maxLen; omega), ⟨by simp, fun g hg => ?_⟩, fun g hg => by rw [List.mem_singleton.1 hg]; exact hl⟩
  rw [List.mem_singleton.1 hg]
  exact ⟨_, hh, rfl⟩
end
set_option maxHeartbeats 4000000 in
set_option maxRecDepth 10000 in
theorem spec_l20Names (w0 : World) (br : Nat) (A : Option Addr) (nr cr p : Nat) (kind : Int) (hk0 : 0 ≤ kind) (hk2 : kind ≤ 2) (hrd : Rd br A nr cr p w0) (hp : p ≤ 900000000) :
    Calls Tryd.prog 73 #[.pointer (some ⟨br, 0, none⟩), .int .i64 kind] w0 fun e w' => ∃ v ns, e = .returned v ∧ (1 ≤ ns.length ∧ ns.length ≤ 3) ∧ NewIn Rep.str.rows w0 w' [v] ns ∧ (∃ p', p' ≤ p + 100 ∧ Rd br A nr cr p' w') ∧ Mod [br] w0 w' := by
  go_enter Tryd.func73, Tryd.ntmps73
  go_wp2_with fail
  refine wp_region_rd br 1 [TNm br w0.heap.size, TNm br w0.heap.size, TNm br w0.heap.size, TNm br w0.heap.size, TNm br w0.heap.size, TNm br w0.heap.size, TSl br 6 (TNm br w0.heap.size), TSl br 3 (TI (0) (3)), TX (.pointer (some ⟨br, 0, none⟩)), TI (0) (2), TP br (TI (0) (3)), TI (0) (3), TSl br 2 (TI (2) (4)), TX (.pointer (some ⟨br, 0, none⟩)), TI (0) (1), TP br (TI (2) (4)), TI (2) (4), TSl br 3 (TI (0) (5)), TI (0) (2), TP br (TI (0) (5)), TI (0) (5), TP br (TNm br w0.heap.size), TNm br w0.heap.size, TNm br w0.heap.size] hrd (by kernel_rfl) (by kernel_rfl) ⟨?_, ?_, ?_, ?_, ?_, ?_, ?_, ?_, ?_, ?_, ?_, ?_, ?_, ?_, ?_, ?_, ?_, ?_, ?_, ?_, ?_, ?_, ?_, ?_, trivial⟩ ?_
  · intro n ρ w hc hf hb hd hJ hn
    refine E_buildNm (cs := ?_) rfl (by simp only [List.map_toArray, List.map_cons, List.map_nil, hc]; go_simp; rfl) rfl rfl (by decide) (by decide) ?_ hJ
    intro u hu
    simp only [List.mem_cons, List.not_mem_nil, or_false] at hu
    rcases hu with rfl | rfl <;> exact ⟨_, rfl, by decide⟩
  · intro n ρ w hc hf hb hd hJ hn
    refine E_buildNm (cs := ?_) rfl (by simp only [List.map_toArray, List.map_cons, List.map_nil, hc]; go_simp; rfl) rfl rfl (by decide) (by decide) ?_ hJ
    intro u hu
    simp only [List.mem_cons, List.not_mem_nil, or_false] at hu
    rcases hu with rfl | rfl | rfl <;> exact ⟨_, rfl, by decide⟩
  · intro n ρ w hc hf hb hd hJ hn
    refine E_buildNm (cs := ?_) rfl (by simp only [List.map_toArray, List.map_cons, List.map_nil, hc]; go_simp; rfl) rfl rfl (by decide) (by decide) ?_ hJ
    intro u hu
    simp only [List.mem_cons, List.not_mem_nil, or_false] at hu
    rcases hu with rfl | rfl <;> exact ⟨_, rfl, by decide⟩
  · intro n ρ w hc hf hb hd hJ hn
    refine E_buildNm (cs := ?_) rfl (by simp only [List.map_toArray, List.map_cons, List.map_nil, hc]; go_simp; rfl) rfl rfl (by decide) (by decide) ?_ hJ
    intro u hu
    simp only [List.mem_cons, List.not_mem_nil, or_false] at hu
    rcases hu with rfl <;> exact ⟨_, rfl, by decide⟩
  · intro n ρ w hc hf hb hd hJ hn
    refine E_buildNm (cs := ?_) rfl (by simp only [List.map_toArray, List.map_cons, List.map_nil, hc]; go_simp; rfl) rfl rfl (by decide) (by decide) ?_ hJ
    intro u hu
    simp only [List.mem_cons, List.not_mem_nil, or_false] at hu
    rcases hu with rfl | rfl | rfl <;> exact ⟨_, rfl, by decide⟩
  · intro n ρ w hc hf hb hd hJ hn
    refine E_buildNm (cs := ?_) rfl (by simp only [List.map_toArray, List.map_cons, List.map_nil, hc]; go_simp; rfl) rfl rfl (by decide) (by decide) ?_ hJ
    intro u hu
    simp only [List.mem_cons, List.not_mem_nil, or_false] at hu
    rcases hu with rfl | rfl <;> exact ⟨_, rfl, by decide⟩
  · intro n ρ w hc hf hb hd hJ hn
    obtain ⟨b0, n0, e0, h0⟩ : TNm br w0.heap.size (ρ (.tmp 5)) w := hd.1 rfl
    obtain ⟨b1, n1, e1, h1⟩ : TNm br w0.heap.size (ρ (.tmp 6)) w := hd.2.1 rfl
    obtain ⟨b2, n2, e2, h2⟩ : TNm br w0.heap.size (ρ (.tmp 7)) w := hd.2.2.1 rfl
    obtain ⟨b3, n3, e3, h3⟩ : TNm br w0.heap.size (ρ (.tmp 8)) w := hd.2.2.2.1 rfl
    obtain ⟨b4, n4, e4, h4⟩ : TNm br w0.heap.size (ρ (.tmp 9)) w := hd.2.2.2.2.1 rfl
    obtain ⟨b5, n5, e5, h5⟩ : TNm br w0.heap.size (ρ (.tmp 10)) w := hd.2.2.2.2.2.1 rfl
    refine E_build (cs := ?_) rfl (by simp only [List.map_toArray, List.map_cons, List.map_nil, hc, e0, e1, e2, e3, e4, e5]; go_simp; rfl) rfl ?_ hJ
    intro j hj
    match j, hj with
    | 0, _ => exact ⟨_, rfl, b0, n0, rfl, h0⟩
    | 1, _ => exact ⟨_, rfl, b1, n1, rfl, h1⟩
    | 2, _ => exact ⟨_, rfl, b2, n2, rfl, h2⟩
    | 3, _ => exact ⟨_, rfl, b3, n3, rfl, h3⟩
    | 4, _ => exact ⟨_, rfl, b4, n4, rfl, h4⟩
    | 5, _ => exact ⟨_, rfl, b5, n5, rfl, h5⟩
    | j + 6, hj => omega
  · intro n ρ w hc hf hb hd hJ hn
    refine E_build (cs := ?_) rfl (by simp only [List.map_toArray, List.map_cons, List.map_nil, hc]; go_simp; rfl) rfl ?_ hJ
    intro j hj
    match j, hj with
    | 0, _ => exact ⟨_, rfl, _, rfl, by omega, by omega⟩
    | 1, _ => exact ⟨_, rfl, _, rfl, by omega, by omega⟩
    | 2, _ => exact ⟨_, rfl, _, rfl, by omega, by omega⟩
    | j + 3, hj => omega
  · intro n ρ w hc hf hb hd hJ hn
    exact E_move rfl (hb 0 rfl) hJ
  · intro n ρ w hc hf hb hd hJ hn
    have e0 : ρ (.tmp 13) = .pointer (some ⟨br, 0, none⟩) := hd.1 rfl
    refine E_call (run_call (hf _) rfl (by simp only [List.map_toArray, List.map_cons, List.map_nil, hc, e0]; go_simp)) hJ (fun p2 hp2 hr2 => ?_)
    simp only [List.map_toArray, List.map_cons, List.map_nil, hc, e0]
    refine (spec_pick _ _ _ _ _ _ _ hr2 (by have hn2 : n < 24 := hn; omega) (by omega)).mono ?_
    rintro e w' ⟨⟨x, rfl, h1, h2, h3⟩, h4, h5⟩
    exact ⟨_, rfl, ⟨x, rfl, by omega, by omega⟩, h5, _, by omega, h4⟩
  · intro n ρ w hc hf hb hd hJ hn
    obtain ⟨b0, e0, nb0, hl0, hc0⟩ : TSl br 3 (TI (0) (3)) (ρ (.tmp 12)) w := hd.1 rfl
    obtain ⟨x1, e1, l1, u1⟩ : TI (0) (2) (ρ (.tmp 14)) w := hd.2.1 rfl
    obtain ⟨k1, rfl⟩ : ∃ k : Nat, x1 = k := ⟨x1.toNat, by omega⟩
    obtain ⟨u, hu, ht⟩ := hc0 k1 (by omega)
    refine E_val (v := .pointer (some ⟨b0, k1, none⟩)) ?_ ⟨b0, k1, rfl, nb0, hl0, u, hu, ht⟩ hJ
    unfold execOp; simp only [e0, e1]; go_simp
    first | done | (intro hh; exact absurd hh (by omega))
  · intro n ρ w hc hf hb hd hJ hn
    exact E_load rfl (hd.1 rfl) hJ
  · intro n ρ w hc hf hb hd hJ hn
    refine E_build (cs := ?_) rfl (by simp only [List.map_toArray, List.map_cons, List.map_nil, hc]; go_simp; rfl) rfl ?_ hJ
    intro j hj
    match j, hj with
    | 0, _ => exact ⟨_, rfl, _, rfl, by omega, by omega⟩
    | 1, _ => exact ⟨_, rfl, _, rfl, by omega, by omega⟩
    | j + 2, hj => omega
  · intro n ρ w hc hf hb hd hJ hn
    exact E_move rfl (hb 0 rfl) hJ
  · intro n ρ w hc hf hb hd hJ hn
    have e0 : ρ (.tmp 18) = .pointer (some ⟨br, 0, none⟩) := hd.1 rfl
    refine E_call (run_call (hf _) rfl (by simp only [List.map_toArray, List.map_cons, List.map_nil, hc, e0]; go_simp)) hJ (fun p2 hp2 hr2 => ?_)
    simp only [List.map_toArray, List.map_cons, List.map_nil, hc, e0]
    refine (spec_pick _ _ _ _ _ _ _ hr2 (by have hn2 : n < 24 := hn; omega) (by omega)).mono ?_
    rintro e w' ⟨⟨x, rfl, h1, h2, h3⟩, h4, h5⟩
    exact ⟨_, rfl, ⟨x, rfl, by omega, by omega⟩, h5, _, by omega, h4⟩
  · intro n ρ w hc hf hb hd hJ hn
    obtain ⟨b0, e0, nb0, hl0, hc0⟩ : TSl br 2 (TI (2) (4)) (ρ (.tmp 17)) w := hd.1 rfl
    obtain ⟨x1, e1, l1, u1⟩ : TI (0) (1) (ρ (.tmp 19)) w := hd.2.1 rfl
    obtain ⟨k1, rfl⟩ : ∃ k : Nat, x1 = k := ⟨x1.toNat, by omega⟩
    obtain ⟨u, hu, ht⟩ := hc0 k1 (by omega)
    refine E_val (v := .pointer (some ⟨b0, k1, none⟩)) ?_ ⟨b0, k1, rfl, nb0, hl0, u, hu, ht⟩ hJ
    unfold execOp; simp only [e0, e1]; go_simp
    first | done | (intro hh; exact absurd hh (by omega))
  · intro n ρ w hc hf hb hd hJ hn
    exact E_load rfl (hd.1 rfl) hJ
  · intro n ρ w hc hf hb hd hJ hn
    obtain ⟨x0, e0, l0, u0⟩ : TI (0) (3) (ρ (.tmp 16)) w := hd.1 rfl
    obtain ⟨x1, e1, l1, u1⟩ : TI (2) (4) (ρ (.tmp 21)) w := hd.2.1 rfl
    refine E_build (cs := ?_) rfl (by simp only [List.map_toArray, List.map_cons, List.map_nil, hc, e0, e1]; go_simp; rfl) rfl ?_ hJ
    intro j hj
    match j, hj with
    | 0, _ => exact ⟨_, rfl, _, rfl, by omega, by omega⟩
    | 1, _ => exact ⟨_, rfl, _, rfl, by omega, by omega⟩
    | 2, _ => exact ⟨_, rfl, _, rfl, by omega, by omega⟩
    | j + 3, hj => omega
  · intro n ρ w hc hf hb hd hJ hn
    exact E_move rfl ⟨kind, hb 1 rfl, hk0, hk2⟩ hJ
  · intro n ρ w hc hf hb hd hJ hn
    obtain ⟨b0, e0, nb0, hl0, hc0⟩ : TSl br 3 (TI (0) (5)) (ρ (.tmp 22)) w := hd.1 rfl
    obtain ⟨x1, e1, l1, u1⟩ : TI (0) (2) (ρ (.tmp 23)) w := hd.2.1 rfl
    obtain ⟨k1, rfl⟩ : ∃ k : Nat, x1 = k := ⟨x1.toNat, by omega⟩
    obtain ⟨u, hu, ht⟩ := hc0 k1 (by omega)
    refine E_val (v := .pointer (some ⟨b0, k1, none⟩)) ?_ ⟨b0, k1, rfl, nb0, hl0, u, hu, ht⟩ hJ
    unfold execOp; simp only [e0, e1]; go_simp
    first | done | (intro hh; exact absurd hh (by omega))
  · intro n ρ w hc hf hb hd hJ hn
    exact E_load rfl (hd.1 rfl) hJ
  · intro n ρ w hc hf hb hd hJ hn
    obtain ⟨b0, e0, nb0, hl0, hc0⟩ : TSl br 6 (TNm br w0.heap.size) (ρ (.tmp 11)) w := hd.1 rfl
    obtain ⟨x1, e1, l1, u1⟩ : TI (0) (5) (ρ (.tmp 25)) w := hd.2.1 rfl
    obtain ⟨k1, rfl⟩ : ∃ k : Nat, x1 = k := ⟨x1.toNat, by omega⟩
    obtain ⟨u, hu, ht⟩ := hc0 k1 (by omega)
    refine E_val (v := .pointer (some ⟨b0, k1, none⟩)) ?_ ⟨b0, k1, rfl, nb0, hl0, u, hu, ht⟩ hJ
    unfold execOp; simp only [e0, e1]; go_simp
    first | done | (intro hh; exact absurd hh (by omega))
  · intro n ρ w hc hf hb hd hJ hn
    exact E_load rfl (hd.1 rfl) hJ
  · intro n ρ w hc hf hb hd hJ hn
    exact E_assign rfl (hd.1 rfl) hJ
  intro v w' p' hT hp' hr' hM
  obtain ⟨ns, h1, h3, hN⟩ := TNm.new (hT 23 (by decide))
  simp only [putAll, Act.put, List.setIfInBounds_toArray, List.set_cons_zero, List.set_cons_succ]
  go_wp2_with fail
  go_ret
  exact ⟨_, ns, rfl, ⟨h1, h3⟩, hN, ⟨p', by have h : p' ≤ p + 1 * 24 := hp'; omega, hr'⟩, hM⟩
end Go.Proofs.YthabgnhedmepjaaDoor
