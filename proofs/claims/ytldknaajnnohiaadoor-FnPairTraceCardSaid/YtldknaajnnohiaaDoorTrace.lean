/- Contracts of both PairTrace. -/
import Derived.Test.YtldknaajnnohiaaDoorApp
import Derived.Test.YtldknaajnnohiaaDoorMark
import Derived.Test.YtldknaajnnohiaaDoorShapes
import Derived.Test.YtldknaajnnohiaaDoorMem
namespace Go.Proofs.YtldknaajnnohiaaDoor
open Go.RowKit

def pairAcc (region : Int) (p : PairD) : List AccessD := [(region, p.1, false), (region, p.2, false), (region, p.1, true), (region, p.2, true)]
def pairTraceF (region : Int) (list : List PairD) : List AccessD := if inB region 0 2 then list.flatMap (pairAcc region) else []
theorem flat_take_succ {α β : Type} (g : α → List β) (xs : List α) (k : Nat) (h : k < xs.length) : (xs.take (k + 1)).flatMap g = (xs.take k).flatMap g ++ g xs[k] := by
  rw [List.take_succ_eq_append_getElem h, List.flatMap_append]; simp
theorem pairAcc_len (r : Int) (l : List PairD) : (l.flatMap (pairAcc r)).length = 4 * l.length := by
  induction l with
  | nil => rfl
  | cons p l ih => simp [pairAcc, ih]; omega
theorem pairAcc_all (w : World) (r : Int) (p : PairD) (hr : I64 r) (h1 : I64 p.1) (h2 : I64 p.2) :
    rAccess.all w [] [.int .i64 r, .int .i64 p.1, .bool false, .int .i64 r, .int .i64 p.2, .bool false, .int .i64 r, .int .i64 p.1, .bool true, .int .i64 r, .int .i64 p.2, .bool true] (pairAcc r p) :=
  ⟨[], [], [_, _, _], _, rfl, rfl, rAccess_mk hr h1, [], [], [_, _, _], _, rfl, rfl, rAccess_mk hr h2, [], [], [_, _, _], _, rfl, rfl, rAccess_mk hr h1, [], [], [_, _, _], _, rfl, rfl, rAccess_mk hr h2, rfl, rfl⟩

set_option maxHeartbeats 1000000 in
theorem impl_isRegion (n : Int) (w : World) : Calls Tryd.prog 131 #[.int .i64 n] w fun e w' => e = .returned (.bool (inB n 0 2)) ∧ w = w' := by
  go_enter Tryd.func131, Tryd.ntmps131
  go_wp2_with (go_at_call 95; refine (impl_in _ _ _ _).mono ?_; rintro e w' ⟨rfl, rfl⟩)
  go_ret
  exact ⟨rfl, rfl⟩

set_option maxHeartbeats 1000000 in
theorem impl_PairTrace (region : Int) (w : World) (F : List Nat) (v : Value) (xs : List PairD) (hx : SliceHas rPair w F [v] xs) (hn : xs.length ≤ 1048576) :
    Calls Tryd.prog 58 #[.int .i64 region, v] w fun e w' => ∃ v', e = .returned v' ∧ Fresh rAccess.slice w w' [v'] (pairTraceF region xs) := by
  obtain ⟨A, c, rfl, hl, _⟩ := hx.form'
  cases hreg : inB region 0 2
  · have Hp := Lib.hid (show pairTraceF region xs = [] by unfold pairTraceF; rw [hreg]; rfl)
    go_enter Tryd.func58, Tryd.ntmps58
    go_wp2_with (go_at_call 131; refine (impl_isRegion _ _).mono ?_; rintro e w' ⟨rfl, rfl⟩)
    go_ret
    exact ⟨_, rfl, by rw [Hp.out]; exact Fresh.nil _⟩
  have Hp := Lib.hid (show pairTraceF region xs = xs.flatMap (pairAcc region) by unfold pairTraceF; rw [hreg]; rfl)
  have hr := inB_of hreg
  have Hr : Hid (I64 region) := I64.mk (by omega) (by omega)
  go_enter Tryd.func58, Tryd.ntmps58
  go_wp2_with (go_at_call 131; refine (impl_isRegion _ _).mono ?_; rintro e w' ⟨rfl, rfl⟩)
  go_loopw [5, 13] (fun out i wr => ∃ k : Nat, k ≤ xs.length ∧ i = .int .i64 k ∧ Bld rAccess 85 w.heap.size wr out ((xs.take k).flatMap (pairAcc region)) [] ∧ Mod [] w wr) (fun _ i _ => xs.length - (intOf i).toNat)
  case atStart => exact ⟨0, Nat.zero_le _, rfl, Bld.nil _, Mod.refl _ _⟩
  case round =>
    obtain ⟨k, hk, rfl, hb, hB⟩ := hrel
    by_cases hlt : k < xs.length
    · have hx' : SliceHas rPair wr F [.slice A xs.length c] xs := Rep.slice rPair |>.mod0 hx hB
      obtain ⟨ad, Fk, ck, rfl, _, _, _, hca, hxk⟩ := hx'.get hlt
      obtain ⟨rfl, _, i0, i1⟩ := rPair_open hxk
      have a0 : wr.cell? (ad.add (k * 2)) = some (.int .i64 xs[k].1) := hca.zero
      have a1 : wr.cell? ⟨(ad.add (k * 2)).block, (ad.add (k * 2)).off + 1, none⟩ = some (.int .i64 xs[k].2) := hca.nth 0 rfl
      clear hca
      have Hl := Lib.hid (pairAcc_len region (xs.take k))
      go_wp2_with (at_builtin; refine wpList_app _ rfl (.tmp 17) (.tmp 34) _ rfl w.heap.size _ rAccess (.agg #[.int .i64 0, .int .i64 0, .bool false]) 24 Tryd.underlying48 (by kernel_rfl) rfl (by decide) _ _ [] rfl ((hb.mod0 (Mod.alloc0 _ _)).mod0 (Mod.alloc0 _ _)) _ _ _ (pairAcc region xs[k]) [] _ rfl rfl (pairAcc_all _ _ _ Hr.out i0 i1) (cellsAt_new' _ _ _ _ (by simp)) (by simp) (by rw [Hl.out, List.length_take]; omega) (by decide) (by have := hB.size; simp; omega) ?_; intro v1 w1 hb1 hg1 ha1)
      have Hb1 : Hid (Bld rAccess 85 w.heap.size w1 v1 ((xs.take (k + 1)).flatMap (pairAcc region)) []) := by rw [flat_take_succ _ _ _ hlt]; exact hb1
      have Hm1 := Lib.hid (((hB.alloc _).alloc _).bld hg1 (fun g hg => (hb.own g hg).1))
      clear hb1 hg1 ha1 hb
      go_wp2_with fail
      go_roundw
      case rel => exact ⟨k + 1, hlt, by go_num, Hb1.out, Hm1.out⟩
      case measure => simp [intOf]; omega
    · have hk2 : xs.take k = xs := List.take_of_length_le (by omega)
      rw [hk2] at hb
      clear hk2
      go_wp2_with fail
      go_ret
      exact ⟨_, rfl, by rw [Hp.out]; exact hb.fresh (Good.nil _) (Nat.le_refl _) (by simp) hB⟩

set_option maxHeartbeats 1000000 in
theorem spec_PairTrace (region : Int) (w : World) (F : List Nat) (v : Value) (xs : List PairD) (hx : SliceHas rPair w F [v] xs) (hn : xs.length ≤ 1048576) :
    Calls Tryd.prog 59 #[.int .i64 region, v] w fun e w' => ∃ v', e = .returned v' ∧ Fresh rAccess.slice w w' [v'] (pairTraceF region xs) := by
  obtain ⟨A, c, rfl, hl, _⟩ := hx.form'
  go_enter Tryd.func59, Tryd.ntmps59
  go_wp2_with fail
  go_loopw [5, 6] (fun out i wr => ∃ k : Nat, k ≤ xs.length ∧ i = .int .i64 k ∧ (inB region 0 2 = false → k = 0) ∧ Bld rAccess 85 w.heap.size wr out ((xs.take k).flatMap (pairAcc region)) [] ∧ Mod [] w wr) (fun _ i _ => xs.length - (intOf i).toNat)
  case atStart => exact ⟨0, Nat.zero_le _, rfl, fun _ => rfl, Bld.lit (F := []) (Nat.le_refl _) ⟨rfl, rfl⟩ rfl (by decide), Mod.alloc0 _ _⟩
  case round =>
    obtain ⟨k, hk, rfl, hz, hb, hB⟩ := hrel
    by_cases hlt : k < xs.length
    · cases hreg : inB region 0 2
      · obtain rfl := hz hreg
        have Hp := Lib.hid (show pairTraceF region xs = [] by unfold pairTraceF; rw [hreg]; rfl)
        clear hz
        go_wp2_with (go_at_call 82; refine (spec_in _ _ _ _).mono ?_; rintro e w' ⟨rfl, rfl⟩)
        go_ret
        exact ⟨_, rfl, by rw [Hp.out]; exact hb.fresh (Good.nil _) (Nat.le_refl _) (by simp) hB⟩
      have hr := inB_of hreg
      have Hr : Hid (I64 region) := I64.mk (by omega) (by omega)

      clear hz
      have hx' : SliceHas rPair wr F [.slice A xs.length c] xs := Rep.slice rPair |>.mod0 hx hB
      obtain ⟨ad, Fk, ck, rfl, _, _, _, hca, hxk⟩ := hx'.get hlt
      obtain ⟨rfl, _, i0, i1⟩ := rPair_open hxk
      have a0 : wr.cell? (ad.add (k * 2)) = some (.int .i64 xs[k].1) := hca.zero
      have a1 : wr.cell? ⟨(ad.add (k * 2)).block, (ad.add (k * 2)).off + 1, none⟩ = some (.int .i64 xs[k].2) := hca.nth 0 rfl
      clear hca
      have Hl := Lib.hid (pairAcc_len region (xs.take k))
      go_wp2_with (first | (go_at_call 82; refine (spec_in _ _ _ _).mono ?_; rintro e w' ⟨rfl, rfl⟩) | (at_builtin; refine wpList_app _ rfl (.tmp 30) (.tmp 43) _ rfl w.heap.size _ rAccess (.agg #[.int .i64 0, .int .i64 0, .bool false]) 24 Tryd.underlying48 (by kernel_rfl) rfl (by decide) _ _ [] rfl (hb.mod0 (Mod.alloc0 _ _)) _ _ _ (pairAcc region xs[k]) [] _ rfl rfl (pairAcc_all _ _ _ Hr.out i0 i1) (cellsAt_new' _ _ _ _ (by simp)) (by simp) (by rw [Hl.out, List.length_take]; omega) (by decide) (by have := hB.size; simp; omega) ?_; intro v1 w1 hb1 hg1 ha1))
      have Hb1 : Hid (Bld rAccess 85 w.heap.size w1 v1 ((xs.take (k + 1)).flatMap (pairAcc region)) []) := by rw [flat_take_succ _ _ _ hlt]; exact hb1
      have Hm1 := Lib.hid ((hB.alloc _).bld hg1 (fun g hg => (hb.own g hg).1))
      clear hb1 hg1 ha1 hb
      go_wp2_with fail
      go_roundw
      case rel => exact ⟨k + 1, hlt, by go_num, (fun h => by cases h), Hb1.out, Hm1.out⟩
      case measure => simp [intOf]; omega
    · have Hp := Lib.hid (show (xs.take k).flatMap (pairAcc region) = pairTraceF region xs by
        have hk2 : xs.take k = xs := List.take_of_length_le (by omega)
        unfold pairTraceF
        cases hreg : inB region 0 2
        · have := hz hreg
          subst this
          rfl
        · rw [hk2]; rfl)
      clear hz
      go_wp2_with fail
      go_ret
      exact ⟨_, rfl, by rw [← Hp.out]; exact hb.fresh (Good.nil _) (Nat.le_refl _) (by simp) hB⟩

end Go.Proofs.YtldknaajnnohiaaDoor
