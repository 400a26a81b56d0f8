/- Contracts of to.. for structs with slices. -/
import Derived.Test.YtbdoffhhpapcmaaDoorToA
import Derived.Test.YtbdoffhhpapcmaaDoorSatT
import Derived.Test.YtbdoffhhpapcmaaDoorFind
import Derived.Test.YtbdoffhhpapcmaaDoorTys
section
namespace Go.Proofs.YtbdoffhhpapcmaaDoor
open Go.RowKit
attribute [local go_sem] ext_cell

set_option maxHeartbeats 2000000 in
theorem toSealed_any (w : World) (F : List Nat) (cs : List Value) (x : SealedD) (hx : rSealed.has w F cs x) (hn : szSealed x ≤ 1048576) :
    Calls Tryd.prog 75 #[.agg cs.toArray] w fun e w' => ∃ cs', e = .returned (.agg cs'.toArray) ∧ Fresh rSealed w w' cs' x := by
  obtain ⟨A1, c1, F1, rfl, _, ih0, h1, ih2⟩ := rSealed_open hx
  obtain ⟨x0, x1, x2⟩ := x
  simp only [szSealed] at hn
  go_enter Tryd.func75, Tryd.ntmps75
  go_wp2_with fail
  refine (toIntS_any _ _ _ _ (Rep.mod0 (Rep.int.slice) h1 (by repeat (first | exact Mod.refl _ _ | apply Mod.alloc | apply Mod.drewN | refine Mod.seq ?_ (by assumption)))) (by omega)).mono ?_
  rintro e w1 ⟨v1, rfl, G1, g1, n1, l1, m1⟩
  obtain ⟨hc1, hf1⟩ := m1.rules
  have z1 := m1.size
  simp only [World.size_alloc, World.size_setCell] at z1 l1
  have y1 : w.heap.size + 1 < w1.heap.size := by omega
  have y1b : w.heap.size + 1 + 1 < w1.heap.size := by omega
  obtain ⟨B1, d1, rfl, _⟩ := SliceHas.form' g1
  go_wp2_with fail
  refine bodyPost_ret (v := .agg #[.int .i64 x0, .slice B1 x1.length d1, .int .i64 x2]) (by simp [results, Tryd.results75, go_sem, hc1, y1]) rfl ⟨_, rfl, ?_⟩
  exact Fresh.shut (n := w.heap.size + 3) (B := [w.heap.size + 1, w.heap.size + 1 + 1]) (rSealed_mk ih0 g1 ih2) n1 (fun g hg => by have := l1 g hg; omega) (by omega) (by simp <;> omega) (by repeat (first | exact Mod.refl _ _ | refine Mod.setCell ?_ (by simp) _)) (by repeat (first | exact Mod.refl _ _ | refine Mod.setCell ?_ (by simp) _ | apply Mod.alloc | apply Mod.drewN | refine Mod.seq' ?_ (by assumption)))







set_option maxHeartbeats 2000000 in
theorem toSealedS_any (w : World) (F : List Nat) (v : Value) (xs : List SealedD) (hx : SliceHas rSealed w F [v] xs) (hn : (szL szSealed) xs ≤ 1048576) :
    Calls Tryd.prog 34 #[v] w fun e w' => ∃ v', e = .returned v' ∧ Fresh (rSealed.slice) w w' [v'] xs := by
  obtain ⟨A, c, rfl, hl, _⟩ := hx.form'
  have hn1 := szL_len szSealed xs
  have hmk := make_eq (P := Tryd.prog) 30 54 (.agg #[.int .i64 0, .slice none 0 0, .int .i64 0]) 3 40 Tryd.underlying30 (by kernel_rfl) xs.length (by omega) hl
  go_enter Tryd.func34, Tryd.ntmps34
  go_wp2_with fail
  go_loopw [4] (fun i wr => ∃ (k : Nat) (G : List Nat), k ≤ xs.length ∧ i = .int .i64 k ∧ SliceHas rSealed wr G [.slice (some ⟨w.heap.size, 0, none⟩) xs.length xs.length] (xs.take k ++ (List.replicate xs.length (0, [], 0)).drop k) ∧ Good wr G ∧ (∀ g ∈ G, w.heap.size ≤ g) ∧ Mod [] w wr) (fun i _ => xs.length - (intOf i).toNat)
  case atStart =>
    refine ⟨0, [w.heap.size], Nat.zero_le _, rfl, ?_, (Good.nil w).cons _ _, by simp, Mod.alloc0 _ _⟩
    have h := SliceHas.lit (e := rSealed) (t := 54) (n := xs.length) (all_made (e := rSealed) (z := #[.int .i64 0, .slice none 0 0, .int .i64 0]) (zx := (0, [], 0)) rfl (by decide) w (rSealed_mk i64_zero (SliceHas.nil w) i64_zero) xs.length) (by simp) (by unfold maxLen; omega)
    simpa only [show rSealed.size = 3 from rfl, Nat.mul_one, List.take_zero, List.drop_zero, List.nil_append] using h
  case round =>
    obtain ⟨k, G, hk, rfl, hs, hg, hge, hB⟩ := hrel
    by_cases hlt : k < xs.length
    · have hx' : SliceHas rSealed wr F [.slice A xs.length c] xs := Rep.slice rSealed |>.mod0 hx hB
      have hq := szL_get szSealed xs k hlt
      obtain ⟨ad, Fk, ck, rfl, _, _, _, hca, hxk⟩ := hx'.get hlt
      have hxk2 := hxk
      obtain ⟨A1, c1, F1, rfl, _, _, _, _⟩ := rSealed_open hxk
      have a0 : wr.cell? (ad.add (k * 3)) = some (.int .i64 xs[k].1) := hca.zero
      have a1 : wr.cell? ⟨(ad.add (k * 3)).block, (ad.add (k * 3)).off + 1, none⟩ = some (.slice A1 xs[k].2.1.length c1) := hca.nth 0 rfl
      have a2 : wr.cell? ⟨(ad.add (k * 3)).block, (ad.add (k * 3)).off + 2, none⟩ = some (.int .i64 xs[k].2.2) := hca.nth 1 rfl
      clear hca
      go_wp2_with fail
      refine (toSealed_any _ _ _ _ hxk2 (by omega)).mono ?_
      rintro e w1 ⟨cs1, rfl, G1, g1, k1, l1, m1⟩
      have hs1 := Rep.slice rSealed |>.mod0 hs m1
      have hg1 := hg.mod0 m1
      obtain ⟨od, G2, hod, hin, hsome, hfr, hput, hgood, hmod, hsub⟩ := SliceHas.put hs1 hg1 hlt g1 k1 (fun g hg' hgG => by have := l1 g hg'; have := hg.lt g hgG; omega)
      obtain ⟨B1, d1, H1, rfl, _, ij0, j1, ij2⟩ := rSealed_open g1
      have hset := list_set_take (xs.take k) (List.replicate xs.length (0, [], 0)) k xs[k] (by rw [List.length_take]; omega) (by rw [List.length_replicate]; exact hlt)
      rw [← List.take_succ_eq_append_getElem hlt] at hset
      rw [hset] at hput
      clear hset
      cases hod
      simp only [show rSealed.size = 3 from rfl, Nat.mul_one, putCells, Addr.add_lit, Nat.zero_add, Nat.add_zero] at hput hgood hmod hfr
      obtain ⟨o0, p0⟩ : ∃ u, w1.cell? ⟨w.heap.size, k * 3, none⟩ = some u := Option.isSome_iff_exists.1 (by have := hsome 0 (by decide); simpa only [show rSealed.size = 3 from rfl, Nat.mul_one, Addr.add_lit, Nat.zero_add, Nat.add_zero] using this)
      obtain ⟨o1, p1⟩ : ∃ u, w1.cell? ⟨w.heap.size, k * 3 + 1, none⟩ = some u := Option.isSome_iff_exists.1 (by have := hsome 1 (by decide); simpa only [show rSealed.size = 3 from rfl, Nat.mul_one, Addr.add_lit, Nat.zero_add, Nat.add_zero] using this)
      obtain ⟨o2, p2⟩ : ∃ u, w1.cell? ⟨w.heap.size, k * 3 + 2, none⟩ = some u := Option.isSome_iff_exists.1 (by have := hsome 2 (by decide); simpa only [show rSealed.size = 3 from rfl, Nat.mul_one, Addr.add_lit, Nat.zero_add, Nat.add_zero] using this)
      have Hput := Lib.hid hput
      have Hgood := Lib.hid hgood
      have Hmod := Lib.hid hmod
      clear hput hgood hmod hs hs1
      go_wp2_with fail
      go_roundw
      case rel => exact ⟨k + 1, G2, hlt, by go_num, Hput.out, Hgood.out, (fun g hg => by
        rcases hsub g hg with h | h
        · exact hge g h
        · have := l1 g h; have := hB.size; omega), ((hB.seq m1).trans (Hmod.out)).drop (fun g hg => hge g (by simpa using hg))⟩
      case measure => simp [intOf]; omega
    · obtain rfl : k = xs.length := by omega
      rw [List.take_length, List.drop_of_length_le (by simp), List.append_nil] at hs
      go_wp2_with fail
      go_ret
      exact ⟨_, rfl, G, hs, hg, hge, hB⟩





end Go.Proofs.YtbdoffhhpapcmaaDoor
end

section
namespace Go.Proofs.YtbdoffhhpapcmaaDoor
open Go.RowKit

set_option maxHeartbeats 2000000 in
set_option maxRecDepth 8000 in
theorem toPadded_any (w : World) (F : List Nat) (cs : List Value) (x : PaddedD) (hx : rPadded.has w F cs x) (hn : szPadded x ≤ 1048576) :
    Calls Tryd.prog 18 #[.agg cs.toArray] w fun e w' => ∃ cs', e = .returned (.agg cs'.toArray) ∧ Fresh rPadded w w' cs' x := by
  obtain ⟨A0, c0, F0, A1, c1, F1, A2, c2, F2, rfl, _, h0, h1, h2⟩ := rPadded_open hx
  obtain ⟨x0, x1, x2⟩ := x
  have hz : szL szStr x0 + szL (szL szZ) x1 + szL szZ x2 ≤ 1048576 := hn
  have hS : Sat w w [.ro Rep.str.slice [.slice A0 x0.length c0] x0, .ro Rep.int.slice.slice [.slice A1 x1.length c1] x1, .ro Rep.bool.slice [.slice A2 x2.length c2] x2] := (((Sat.nil w).arg h2).arg h1).arg h0
  clear hx h0 h1 h2 hn
  go_enter Tryd.func18, Tryd.ntmps18
  go_wp2_with (first | (go_at_call 33; obtain ⟨Fq, hFq⟩ := hS.has Rep.str.slice [.slice A0 x0.length c0]; refine (toStringS_any _ _ _ _ hFq (by omega)).mono ?_; rintro e w' ⟨v0, rfl, hN⟩; replace hS := hS.fresh hN; clear hN hFq; obtain ⟨B0, d0, rfl⟩ := hS.formW 0 rfl) | (go_at_call 58; obtain ⟨Fq, hFq⟩ := hS.has Rep.int.slice.slice [.slice A1 x1.length c1]; refine (toIntSS_any _ _ _ _ hFq (by omega)).mono ?_; rintro e w' ⟨v1, rfl, hN⟩; replace hS := hS.fresh hN; clear hN hFq; obtain ⟨B1, d1, rfl⟩ := hS.formW 0 rfl) | (go_at_call 59; obtain ⟨Fq, hFq⟩ := hS.has Rep.bool.slice [.slice A2 x2.length c2]; refine (toBoolS_any _ _ _ _ hFq (by omega)).mono ?_; rintro e w' ⟨v2, rfl, hN⟩; replace hS := hS.fresh hN; clear hN hFq; obtain ⟨B2, d2, rfl⟩ := hS.formW 0 rfl) | ((with_reducible show wpList _ _ _ ({ dst := _, op := Op.store _ _ _, type := _, pos := _, after := _, guard := _ } :: _) _ _); (first | refine Does.list (f_store (u := .int .i64 _) hS rfl rfl rfl (by rfl) (by rfl)) rfl ?_ | refine Does.list (f_store (u := .slice _ _ _) hS rfl rfl rfl (by rfl) (by rfl)) rfl ?_ | refine Does.list (f_store (u := .string _) hS rfl rfl rfl (by rfl) (by rfl)) rfl ?_ | refine Does.list (f_store (u := .bool _) hS rfl rfl rfl (by rfl) (by rfl)) rfl ?_); clear hS; rintro _ wx ⟨rfl, hS⟩; (simp only [List.set_cons_zero, List.set_cons_succ] at hS); (simp only [Act.put, List.setIfInBounds_toArray, List.set_cons_zero, List.set_cons_succ])) | ((with_reducible show wpList _ _ _ ({ dst := _, op := Op.box _ _, type := _, pos := _, after := _, guard := _ } :: _) _ _); refine Does.list (does_box hS rfl rfl (by rfl)) rfl ?_; clear hS; rintro _ wx ⟨bo, rfl, hS, _⟩; (simp only [Act.put, List.setIfInBounds_toArray, List.set_cons_zero, List.set_cons_succ])) | ((with_reducible show wpList _ _ _ ({ dst := _, op := Op.load _ _, type := _, pos := _, after := _, guard := _ } :: _) _ _); (first | refine Gives.list (f_load hS rfl rfl (by rfl)) rfl ?_ | refine Gives.list (f_loadS hS rfl rfl (by rfl)) rfl ?_ | refine Gives.list (f_loadAt hS rfl rfl) rfl ?_ | refine Gives.list (f_loadAtS hS rfl rfl (by rfl)) rfl ?_ | refine Gives.list (f_loadAtF hS rfl rfl (by rfl)) rfl ?_); (simp only [Act.put, List.setIfInBounds_toArray, List.set_cons_zero, List.set_cons_succ])) | ((with_reducible show wpList _ _ _ ({ dst := _, op := Op.store _ _ _, type := _, pos := _, after := _, guard := _ } :: _) _ _); (first | refine Does.list (f_store hS rfl rfl rfl (by rfl) (by rfl)) rfl ?_ | refine Does.list (f_storeS hS rfl rfl rfl (by rfl) (by rfl) (by rfl)) rfl ?_); clear hS; rintro _ wx ⟨rfl, hS⟩; (simp only [List.set_cons_zero, List.set_cons_succ] at hS); (simp only [Act.put, List.setIfInBounds_toArray, List.set_cons_zero, List.set_cons_succ])) | ((with_reducible show wpList _ _ _ ({ dst := _, op := Op.alloc _, type := _, pos := _, after := _, guard := _ } :: _) _ _); refine Does.list (does_alloc hS rfl (by rfl)) rfl ?_; clear hS; rintro _ wx ⟨ba, rfl, hS, _⟩; (simp only [Act.put, List.setIfInBounds_toArray, List.set_cons_zero, List.set_cons_succ])) | ((with_reducible show wpList _ _ _ ({ dst := _, op := Op.buildSlice _ _ _, type := _, pos := _, after := _, guard := _ } :: _) _ _); refine Does.list (does_buildSlice (X := ?_) (cs := ?_) (E := ?_) hS rfl ?_ ?_) rfl ?_; rotate_left 3; (go_simp; rfl); rfl; clear hS; rintro _ wx ⟨bx, rfl, hS, _⟩; (simp only [Act.put, List.setIfInBounds_toArray, List.set_cons_zero, List.set_cons_succ])))
  (try simp only [Exit.inBlock, Exit.then])
  refine bodyPost_ret (hS.resultCell rfl rfl (by rfl)) rfl ?_
  exact ⟨_, rfl, (Sat.pair (Sat.sel (Γ' := [.own Rep.str.slice [.slice B0 x0.length d0] x0, .own (Rep.pair Rep.int.slice.slice Rep.bool.slice) [.slice B1 x1.length d1, .slice B2 x2.length d2] (x1, x2)]) [1, 0] (Sat.pair (Sat.sel (Γ' := [.own Rep.int.slice.slice [.slice B1 x1.length d1] x1, .own Rep.bool.slice [.slice B2 x2.length d2] x2, .own Rep.str.slice [.slice B0 x0.length d0] x0]) [1, 0, 2] hS rfl (by decide))) rfl (by decide))).result⟩
end Go.Proofs.YtbdoffhhpapcmaaDoor
end
