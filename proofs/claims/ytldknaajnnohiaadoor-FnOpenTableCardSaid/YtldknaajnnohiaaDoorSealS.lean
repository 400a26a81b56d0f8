/- Contract of the reference's SealRow. -/
import Derived.Test.YtldknaajnnohiaaDoorSealD
import Derived.Test.YtldknaajnnohiaaDoorSatT
namespace Go.Proofs.YtldknaajnnohiaaDoor
open Go.RowKit

theorem streamAt_no1 {key number a : Int} (h : inB key 0 1000000 = false) : streamAtF key number a = -1 := by unfold streamAtF; rw [h]; rfl
theorem streamAt_no2 {key number a : Int} (h : inB number 0 1000000000 = false) : streamAtF key number a = -1 := by unfold streamAtF; rw [h]; simp
theorem streamAt_yes {key number a : Int} (h1 : inB key 0 1000000 = true) (h2 : inB number 0 1000000000 = true) (a0 : 0 ≤ a) (a1 : a ≤ 7) : streamAtF key number a = streamF key number a := by
  unfold streamAtF; rw [h1, h2, inB_true ⟨a0, a1⟩]; rfl

set_option maxHeartbeats 1000000 in
theorem spec_l20Tag (key number : Int) (w : World) (F : List Nat) (v : Value) (cells : List Int) (hx : SliceHas Rep.int w F [v] cells) (k0 : 0 ≤ key) (k1 : key ≤ 1000000) (n0 : 0 ≤ number) (n1 : number ≤ 1000000000)
    (hb : ∀ (j : Nat) (hj : j < cells.length), 0 ≤ cells[j] ∧ cells[j] ≤ 200002) (hn : cells.length ≤ 7) :
    Calls Tryd.prog 151 #[.int .i64 key, .int .i64 number, v] w fun e w' => e = .returned (.int .i64 (tagF key number cells)) ∧ w = w' := by
  obtain ⟨A, c, rfl, hl, _⟩ := hx.form'
  have Hb := Lib.hid hb
  clear hb
  have g0 : (0 : Int) ≤ 99 := by omega
  have g1 : (99 : Int) ≤ 99 := by omega
  obtain ⟨m0, m1⟩ : 0 ≤ mixF key number 99 ∧ mixF key number 99 ≤ 2147483646 := mixTo_bd key number 99 3
  go_enter Tryd.func151, Tryd.ntmps151
  go_wp2_with (go_at_call 182; refine (spec_l20Mix _ _ _ _ k0 k1 n0 n1 g0 g1).mono ?_; rintro e w' ⟨rfl, rfl⟩)
  go_loop [7, 8] (fun x i => ∃ j : Nat, j ≤ cells.length ∧ i = .int .i64 j ∧ x = .int .i64 (tagF key number (cells.take j))) (fun _ i => cells.length - (intOf i).toNat)
  case atStart => exact ⟨0, Nat.zero_le _, rfl, rfl⟩
  case round =>
    obtain ⟨j, hj, rfl, rfl⟩ := hrel
    obtain ⟨t0, t1⟩ := tagF_bd key number (cells.take j)
    by_cases hlt : j < cells.length
    · obtain ⟨ad, rfl, h0, hi⟩ := hx.int_at hlt
      obtain ⟨c0, c1⟩ := Hb.out j hlt
      have Ht := Lib.hid (tagF_succ key number cells j hlt)
      go_wp2
      go_round
      case rel => exact ⟨j + 1, hlt, by go_num, by rw [Ht.out, tagStep, Int.mul_comm]⟩
      case measure => simp [intOf]; omega
    · have H := Lib.hid (show cells.take j = cells from List.take_of_length_le (by omega))
      rw [H.out] at t0 t1 ⊢
      go_wp2
      go_ret
      exact ⟨rfl, rfl⟩

theorem Bld.rowHas {α : Type} {e : Rep α} {E : TypeId} {B : Nat} {w : World} {v : Value} {xs : List α} {F : List Nat} (h : Bld e E B w v xs F) : RowHas e w (ob v ++ F) [v] xs := by
  obtain ⟨ces, ⟨hlen, hv⟩, ha, hn⟩ := h
  rcases hv with ⟨rfl, h0⟩ | ⟨g, cap, cur, rfl, hb, hg, hle, hcm, hsz, htk⟩
  · have hx : xs = [] := List.eq_nil_of_length_eq_zero h0
    subst hx
    have hF := ha.1
    subst hF
    exact .inl ⟨rfl, rfl, rfl⟩
  · exact .inr ⟨g, 0, cap, cur, E, ces, F, rfl, rfl, hg, hle, hcm, by omega, ha, by rw [List.drop_zero, hlen]; exact htk⟩
theorem oSealed_mk {w : World} {x0 : Int} {x1 : List Int} {x2 : Int} {F : List Nat} {v : Value} (i0 : I64 x0) (h : RowHas Rep.int w F [v] x1) (i2 : I64 x2) : oSealed.has w F [.int .i64 x0, v, .int .i64 x2] (x0, x1, x2) :=
  ⟨[], F, [_], [_, _], rfl, rfl, ⟨rfl, rfl, i0⟩, F, [], [_], [_], by simp, rfl, h, ⟨rfl, rfl, i2⟩⟩
theorem Fresh.zeroSealedO (w w' : World) (h : Mod [] w w') : Fresh oSealed w w' [.int .i64 0, .slice none 0 0, .int .i64 0] ((0, [], 0) : SealedD) :=
  ⟨[], oSealed_mk i64_zero (RowHas.nil w') i64_zero, Good.nil _, by simp, h⟩
set_option maxHeartbeats 4000000 in
theorem spec_SealRowO (key number : Int) (real : Bool) (w : World) (F : List Nat) (v : Value) (row : List Int) (hx : SliceHas Rep.int w F [v] row) :
    Calls Tryd.prog 142 #[.int .i64 key, .int .i64 number, v, .bool real] w fun e w' => ∃ cs', e = .returned (.agg cs'.toArray) ∧ Fresh oSealed w w' cs' (sealRowF key number row real) := by
  obtain ⟨A, c, rfl, hl, _⟩ := hx.form'
  go_enter Tryd.func142, Tryd.ntmps142
  go_wp2_with fail
  go_loopw [9] (fun i wr => ∃ k : Nat, k ≤ row.length ∧ i = .int .i64 k ∧ (row.take k).any notValue = false ∧ wr = w.alloc (.cells #[.int .i64 0, .slice none 0 0, .int .i64 0] 45)) (fun i _ => row.length - (intOf i).toNat)
  case atStart => exact ⟨0, Nat.zero_le _, rfl, rfl, rfl⟩
  case round =>
    obtain ⟨k, hk', rfl, ha, rfl⟩ := hrel
    have Ha := Lib.hid ha
    clear ha
    by_cases hlt : k < row.length
    · have hx' : SliceHas Rep.int (w.alloc (.cells #[.int .i64 0, .slice none 0 0, .int .i64 0] 45)) F [.slice A row.length c] row := Rep.slice Rep.int |>.mod0 hx (Mod.alloc0 _ _)
      obtain ⟨ad, rfl, h0, hi⟩ := hx'.int_at hlt
      cases hv : inB row[k] (-100000) 100000
      · have Hp := Lib.hid (notOk_any (key := key) (number := number) (row := row) (real := real) (any_of_get notValue row k hlt (by simp [notValue, hv])))
        go_wp2_with (go_at_call 82; refine (spec_in _ _ _ _).mono ?_; rintro e w' ⟨rfl, rfl⟩)
        refine bodyPost_ret (v := .agg #[.int .i64 0, .slice none 0 0, .int .i64 0]) (by simp [results, Tryd.results142, go_sem]) rfl ⟨_, rfl, ?_⟩
        rw [Hp.out]
        exact Fresh.zeroSealedO _ _ (by repeat' (first | assumption | exact Mod.refl _ _ | exact Mod.alloc0 _ _ | (refine Mod.setCell ?_ (by (try simp); (try omega)) _) | refine Mod.alloc ?_ _ | refine Mod.drew ?_))
      · have H := Lib.hid (any_succ_f hlt Ha.out (by simp [notValue, hv]))
        go_wp2_with (go_at_call 82; refine (spec_in _ _ _ _).mono ?_; rintro e w' ⟨rfl, rfl⟩)
        go_roundw
        case rel => exact ⟨k + 1, hlt, by go_num, H.out, by first | exact trivial | rfl⟩
        case measure => simp [intOf]; omega
    · have hk2 : k = row.length := by omega
      subst hk2
      have hany : row.any notValue = false := by have := Ha.out; rwa [List.take_length] at this
      have Hany := Lib.hid hany
      clear Ha hlt hk'
      cases hk : inB key 0 1000000
      · have Hp := Lib.hid (notOk_key (number := number) (row := row) (real := real) hk)
        have Hs := Lib.hid (streamAt_no1 (number := number) (a := 0) hk)
        go_wp2_with (first | (go_at_call 149; refine (spec_StreamAt _ _ _ _).mono ?_; rw [Hs.out]; rintro e w' ⟨rfl, rfl⟩) | (go_at_call 82; refine (spec_in _ _ _ _).mono ?_; rintro e w' ⟨rfl, rfl⟩))
        refine bodyPost_ret (v := .agg #[.int .i64 0, .slice none 0 0, .int .i64 0]) (by simp [results, Tryd.results142, go_sem]) rfl ⟨_, rfl, ?_⟩
        rw [Hp.out]
        exact Fresh.zeroSealedO _ _ (by repeat' (first | assumption | exact Mod.refl _ _ | exact Mod.alloc0 _ _ | (refine Mod.setCell ?_ (by (try simp); (try omega)) _) | refine Mod.alloc ?_ _ | refine Mod.drew ?_))
      cases hn : inB number 0 1000000000
      · have Hp := Lib.hid (notOk_num (key := key) (row := row) (real := real) hn)
        have Hs := Lib.hid (streamAt_no2 (key := key) (a := 0) hn)
        go_wp2_with (first | (go_at_call 149; refine (spec_StreamAt _ _ _ _).mono ?_; rw [Hs.out]; rintro e w' ⟨rfl, rfl⟩) | (go_at_call 82; refine (spec_in _ _ _ _).mono ?_; rintro e w' ⟨rfl, rfl⟩))
        refine bodyPost_ret (v := .agg #[.int .i64 0, .slice none 0 0, .int .i64 0]) (by simp [results, Tryd.results142, go_sem]) rfl ⟨_, rfl, ?_⟩
        rw [Hp.out]
        exact Fresh.zeroSealedO _ _ (by repeat' (first | assumption | exact Mod.refl _ _ | exact Mod.alloc0 _ _ | (refine Mod.setCell ?_ (by (try simp); (try omega)) _) | refine Mod.alloc ?_ _ | refine Mod.drew ?_))
      have Hs := Lib.hid (streamAt_yes (a := 0) hk hn (by omega) (by omega))
      obtain ⟨s0, s1⟩ := streamF_bd key number 0
      cases hlen : inB row.length 1 6
      · have Hp := Lib.hid (notOk_len (key := key) (number := number) (real := real) hlen)
        go_wp2_with (first | (go_at_call 149; refine (spec_StreamAt _ _ _ _).mono ?_; rw [Hs.out]; rintro e w' ⟨rfl, rfl⟩) | (go_at_call 82; refine (spec_in _ _ _ _).mono ?_; rintro e w' ⟨rfl, rfl⟩))
        refine bodyPost_ret (v := .agg #[.int .i64 0, .slice none 0 0, .int .i64 0]) (by simp [results, Tryd.results142, go_sem]) rfl ⟨_, rfl, ?_⟩
        rw [Hp.out]
        exact Fresh.zeroSealedO _ _ (by repeat' (first | assumption | exact Mod.refl _ _ | exact Mod.alloc0 _ _ | (refine Mod.setCell ?_ (by (try simp); (try omega)) _) | refine Mod.alloc ?_ _ | refine Mod.drew ?_))
      have Hp := Lib.hid (allOk (real := real) hk hn hlen Hany.out)
      have Hv : Hid (∀ (k : Nat) (hk : k < row.length), -100000 ≤ row[k] ∧ row[k] ≤ 100000) := fun k hk => value_of Hany.out hk
      have Sat : Hid (∀ k : Int, 0 ≤ k → k ≤ 7 → streamAtF key number k = streamF key number k) := fun k a b => streamAt_yes hk hn a b
      obtain ⟨k0, k1⟩ := inB_of hk
      obtain ⟨n0, n1⟩ := inB_of hn
      obtain ⟨l0, l1⟩ := inB_of hlen
      have hxA : SliceHas Rep.int (w.alloc (.cells #[.int .i64 0, .slice none 0 0, .int .i64 0] 45)) F [.slice A row.length c] row := Rep.slice Rep.int |>.mod0 hx (Mod.alloc0 _ _)
      have z0 := new_cell (w := w) (arr := #[.int .i64 0, .slice none 0 0, .int .i64 0]) (t := 45) (j := 0) rfl
      have z1 := new_cell (w := w) (arr := #[.int .i64 0, .slice none 0 0, .int .i64 0]) (t := 45) (j := 1) rfl
      have z2 := new_cell (w := w) (arr := #[.int .i64 0, .slice none 0 0, .int .i64 0]) (t := 45) (j := 2) rfl
      have zf : ∀ o, (w.alloc (.cells #[.int .i64 0, .slice none 0 0, .int .i64 0] 45)).frozen? ⟨w.heap.size, o, none⟩ = false := new_frozen
      have hsz : (w.alloc (.cells #[.int .i64 0, .slice none 0 0, .int .i64 0] 45)).heap.size = w.heap.size + 1 := by simp
      have Hsz := Lib.hid hsz
      clear hsz
      generalize hw1 : w.alloc (.cells #[.int .i64 0, .slice none 0 0, .int .i64 0] 45) = w1 at *
      have Hsat := Sat.out
      clear Sat
      have Sat := Lib.hid Hsat
      clear Hsat
      go_wp2_with (first | (go_at_call 149; refine (spec_StreamAt _ _ _ _).mono ?_; rw [Hs.out]; rintro e w' ⟨rfl, rfl⟩) | (go_at_call 82; refine (spec_in _ _ _ _).mono ?_; rintro e w' ⟨rfl, rfl⟩))
      go_loopw [11] (fun i wr => ∃ k : Nat, k ≤ row.length ∧ i = .int .i64 k ∧ ∃ cv, wr.cell? ⟨w1.heap.size, 0, none⟩ = some (.int .i64 number) ∧ wr.cell? ⟨w1.heap.size, 1, none⟩ = some cv ∧ wr.cell? ⟨w1.heap.size, 2, none⟩ = some (.int .i64 0) ∧
        (∀ o, wr.frozen? ⟨w1.heap.size, o, none⟩ = false) ∧ Bld Rep.int 3 (w1.heap.size + 1) wr cv (cellsTo key number row k) [] ∧ w1.heap.size + 1 ≤ wr.heap.size ∧ Mod [] w1 wr) (fun i _ => row.length - (intOf i).toNat)
      case atStart => exact ⟨0, Nat.zero_le _, rfl, _, new_cell rfl, new_cell rfl, new_cell rfl, new_frozen, Bld.nil _, by simp, Mod.alloc0 _ _⟩
      case round =>
        obtain ⟨k, hk', rfl, cv, q0, q1, q2, qf, hb, hB0, hB⟩ := hrel
        by_cases hlt : k < row.length
        · have hx' : SliceHas Rep.int wr F [.slice A row.length c] row := Rep.slice Rep.int |>.mod0 hxA hB
          obtain ⟨ad, rfl, h0, hi⟩ := hx'.int_at hlt
          obtain ⟨v0, v1⟩ := Hv.out k hlt
          obtain ⟨b0, b1⟩ := streamF_bd key number k
          have Hst := Lib.hid (Sat.out k (by omega) (by omega))
          have H := Lib.hid (show sealCell key number row k = (row[k] + 100000 + streamF key number k) % 200003 by simp [sealCell, List.getD_eq_getElem?_getD, hlt])
          have Hi : Hid (I64 (sealCell key number row k)) := by rw [H.out]; exact I64.mk (by omega) (by omega)
          have Hq := Lib.hid (wrapMod v0 v1 b0 b1 H.out)
          have nn : ¬ (w1.heap.size = wr.heap.size) := by omega
          have nn' : ¬ (wr.heap.size = w1.heap.size) := by omega
          have nl : w1.heap.size < wr.heap.size := by omega
          have na : ad.block < wr.heap.size := World.block_lt_of_cell? wr (ad.add k) h0 |> fun h => by rwa [add_block] at h
          go_wp2_with fail
          go_region_law (first | (go_simp; go_at_call 149; refine (spec_StreamAt _ _ _ _).mono ?_; rw [Hst.out]; rintro e w' ⟨rfl, rfl⟩) | (show (if Region.wanted { dst := _, op := Op.call { callee := Callee.builtin Builtin.append, args := _, argTypes := _ }, type := _, pos := _, after := _, guard := none } _ = true then _ else _); refine step_app _ (by rfl) (.tmp 46) (.tmp 58) _ (by rfl) (w1.heap.size + 1) _ Rep.int (.int .i64 0) 8 Tryd.underlying43 (by kernel_rfl) (by rfl) (by decide) cv (cellsTo key number row k) [] (by rfl) (hb.mod0 (by repeat' (first | assumption | exact Mod.refl _ _ | exact Mod.alloc0 _ _ | (refine Mod.setCell ?_ (by (try simp); (try omega)) _) | refine Mod.alloc ?_ _ | refine Mod.drew ?_))) _ 1 1 [sealCell key number row k] [] _ (by rfl) (by rfl) (Rep.all_one' ⟨rfl, ival Hq.out, Hi.out⟩) (cellsAt_new' _ _ _ _ (by simp)) (by simp) (by rw [cellsTo_len]; simp; omega) (by decide) (by have := hB.size; simp; omega) ?_; intro v2 w2 hb2 hg2 ha2; have hz2 := app_below (w := wr) (B := w1.heap.size + 1) (by repeat' (first | assumption | exact Mod.refl _ _ | exact Mod.alloc0 _ _ | (refine Mod.setCell ?_ (by (try simp); (try omega)) _) | refine Mod.alloc ?_ _ | refine Mod.drew ?_)) (by omega) hg2 (fun g hg => (hb.own g hg).1); have hr2 := below_rules hz2; obtain ⟨hc2, hf2⟩ := hr2; have u0 := (hc2 _ 0 (Nat.lt_succ_self _)).trans q0; have u1 := (hc2 _ 1 (Nat.lt_succ_self _)).trans q1; have u2 := (hc2 _ 2 (Nat.lt_succ_self _)).trans q2; have uf := fun o => (hf2 _ o (Nat.lt_succ_self _)).trans (qf o); have uf1 := uf 1; clear hc2 hf2; have hm2 : Mod [] w1 w2 := Mod.bld (v := cv) (by repeat' (first | assumption | exact Mod.refl _ _ | exact Mod.alloc0 _ _ | (refine Mod.setCell ?_ (by (try simp); (try omega)) _) | refine Mod.alloc ?_ _ | refine Mod.drew ?_)) hg2 (fun g hg => by have := (hb.own g hg).1; omega); have hs2 : w1.heap.size + 1 ≤ w2.heap.size := (by have := hz2.size; omega); clear hz2 hg2 ha2; rw [← cellsTo_succ] at hb2; obtain ⟨A2, c2, rfl⟩ := hb2.form))
          all_goals (go_wp2_with fail; go_roundw)
          all_goals first
            | exact ⟨k + 1, hlt, by go_num, _, (World.cell?_setCell_other _ _ _ _ (by simp)).trans u0, World.cell?_setCell_same _ _ _ u1, (World.cell?_setCell_other _ _ _ _ (by simp)).trans u2, fun o => by rw [World.frozen?_setCell]; exact uf o, hb2.mod (G := [w1.heap.size]) (Mod.setCell (Mod.refl _ _) (by simp) _) (fun g hg => by have := hb2.own_le g (by simpa using hg); simp; omega), by simpa [World.setCell] using hs2, hm2.setCell (by simp) _⟩
            | (simp [intOf]; omega)
        · have hk2 : k = row.length := by omega
          subst hk2
          clear Hv hlt hk'
          cases real
          · have nn : ¬ (w1.heap.size = wr.heap.size) := by omega
            have nn' : ¬ (wr.heap.size = w1.heap.size) := by omega
            have nl : w1.heap.size < wr.heap.size := by omega
            obtain ⟨b0, b1⟩ := streamF_bd key number row.length
            have Hst := Lib.hid (Sat.out row.length (by omega) (by omega))
            have H := Lib.hid (show markCell key number row false = (0 + streamF key number row.length) % 200003 from rfl)
            have Hi : Hid (I64 (markCell key number row false)) := by rw [H.out]; exact I64.mk (by omega) (by omega)
            have Hq := Lib.hid (wrapMark0 b0 b1 (H.out.trans (by rw [Int.zero_add])))
            have hsl : (sealedCells key number row false).length = row.length + 1 := by simp [sealedCells, cellsTo_len]
            have Hsl := Lib.hid hsl
            clear hsl
            go_wp2_with fail
            go_region_law (first | (go_simp; go_at_call 149; refine (spec_StreamAt _ _ _ _).mono ?_; rw [Hst.out]; rintro e w' ⟨rfl, rfl⟩) | (show (if Region.wanted { dst := _, op := Op.call { callee := Callee.builtin Builtin.append, args := _, argTypes := _ }, type := _, pos := _, after := _, guard := none } _ = true then _ else _); refine step_app _ (by rfl) (.tmp 63) (.tmp 72) _ (by rfl) (w1.heap.size + 1) _ Rep.int (.int .i64 0) 8 Tryd.underlying43 (by kernel_rfl) (by rfl) (by decide) cv (cellsTo key number row row.length) [] (by rfl) (hb.mod0 (by repeat' (first | assumption | exact Mod.refl _ _ | exact Mod.alloc0 _ _ | (refine Mod.setCell ?_ (by (try simp); (try omega)) _) | refine Mod.alloc ?_ _ | refine Mod.drew ?_))) _ 1 1 [markCell key number row false] [] _ (by rfl) (by rfl) (Rep.all_one' ⟨rfl, ival Hq.out, Hi.out⟩) (cellsAt_new' _ _ _ _ (by simp)) (by simp) (by rw [cellsTo_len]; omega) (by decide) (by have := hB.size; simp; omega) ?_; intro v2 w2 hb2 hg2 ha2; have hz2 := app_below (w := wr) (B := w1.heap.size + 1) (by repeat' (first | assumption | exact Mod.refl _ _ | exact Mod.alloc0 _ _ | (refine Mod.setCell ?_ (by (try simp); (try omega)) _) | refine Mod.alloc ?_ _ | refine Mod.drew ?_)) (by omega) hg2 (fun g hg => (hb.own g hg).1); have hr2 := below_rules hz2; obtain ⟨hc2, hf2⟩ := hr2; have u0 := (hc2 _ 0 (Nat.lt_succ_self _)).trans q0; have u1 := (hc2 _ 1 (Nat.lt_succ_self _)).trans q1; have u2 := (hc2 _ 2 (Nat.lt_succ_self _)).trans q2; have uf := fun o => (hf2 _ o (Nat.lt_succ_self _)).trans (qf o); have uf1 := uf 1; clear hc2 hf2; have hm2 : Mod [] w1 w2 := Mod.bld (v := cv) (by repeat' (first | assumption | exact Mod.refl _ _ | exact Mod.alloc0 _ _ | (refine Mod.setCell ?_ (by (try simp); (try omega)) _) | refine Mod.alloc ?_ _ | refine Mod.drew ?_)) hg2 (fun g hg => by have := (hb.own g hg).1; omega); have hs2 : w1.heap.size + 1 ≤ w2.heap.size := (by have := hz2.size; omega); clear hz2 hg2 ha2; change Bld _ _ _ _ _ (sealedCells key number row false) _ at hb2; obtain ⟨A2, c2, rfl⟩ := hb2.form))
            all_goals
              have p0 := (World.cell?_setCell_other w2 ⟨w1.heap.size, 1, none⟩ ⟨w1.heap.size, 0, none⟩ (.slice A2 (sealedCells key number row false).length c2) (by simp)).trans u0
              have p1 := World.cell?_setCell_same w2 ⟨w1.heap.size, 1, none⟩ (.slice A2 (sealedCells key number row false).length c2) u1
              have p2 := (World.cell?_setCell_other w2 ⟨w1.heap.size, 1, none⟩ ⟨w1.heap.size, 2, none⟩ (.slice A2 (sealedCells key number row false).length c2) (by simp)).trans u2
              have pf : ∀ o, (w2.setCell ⟨w1.heap.size, 1, none⟩ (.slice A2 (sealedCells key number row false).length c2)).frozen? ⟨w1.heap.size, o, none⟩ = false := fun o => by rw [World.frozen?_setCell]; exact uf o
              have hb3 : Bld Rep.int 3 (w1.heap.size + 1) (w2.setCell ⟨w1.heap.size, 1, none⟩ (.slice A2 (sealedCells key number row false).length c2)) (.slice A2 (sealedCells key number row false).length c2) (sealedCells key number row false) [] := hb2.mod (G := [w1.heap.size]) (Mod.setCell (Mod.refl _ _) (by simp) _) (fun g hg => by have := hb2.own_le g (by simpa using hg); simp; omega)
              have hs3 : w1.heap.size + 1 ≤ (w2.setCell ⟨w1.heap.size, 1, none⟩ (.slice A2 (sealedCells key number row false).length c2)).heap.size := by simpa [World.setCell] using hs2
              have hm3 : Mod [] w1 (w2.setCell ⟨w1.heap.size, 1, none⟩ (.slice A2 (sealedCells key number row false).length c2)) := hm2.setCell (by simp) _
              have Hb := Lib.hid (sealedCells_bd key number row false)
              clear Hq Hi u0 u1 u2 uf uf1 hb2 hs2 hm2 hb hB hB0 q0 q1 q2 qf nn nn' nl H b0 b1 Hst
              generalize w2.setCell ⟨w1.heap.size, 1, none⟩ (.slice A2 (sealedCells key number row false).length c2) = w3 at *
              generalize sealedCells key number row false = cells at *
              have pf2 := pf 2
              have hcl : cells.length ≤ 7 := by rw [Hsl.out]; omega
              obtain ⟨t0, t1⟩ := tagF_bd key number cells
              have y0 := (hm3.cell (p := ⟨w.heap.size, 0, none⟩) (by show w.heap.size < _; have := Hsz.out; omega) (by simp)).trans z0
              have y1 := (hm3.cell (p := ⟨w.heap.size, 1, none⟩) (by show w.heap.size < _; have := Hsz.out; omega) (by simp)).trans z1
              have y2 := (hm3.cell (p := ⟨w.heap.size, 2, none⟩) (by show w.heap.size < _; have := Hsz.out; omega) (by simp)).trans z2
              have yf : ∀ o, w3.frozen? ⟨w.heap.size, o, none⟩ = false := fun o => (World.frozen?_of_block (a := ⟨w.heap.size, o, none⟩) (hm3.block w.heap.size (by have := Hsz.out; omega) (by simp))).trans (zf o)
              have yf0 := yf 0
              have yf1 := yf 1
              have yf2 := yf 2
              have nz : ¬ (w1.heap.size = w.heap.size) := by have := Hsz.out; omega
              have nz' : ¬ (w.heap.size = w1.heap.size) := by have := Hsz.out; omega
              go_wp2_with (go_at_call 151; refine (spec_l20Tag _ _ _ _ _ _ hb3.slice k0 k1 n0 n1 Hb.out hcl).mono ?_; rintro e w' ⟨rfl, rfl⟩)
              refine bodyPost_ret (v := .agg #[.int .i64 number, .slice A2 cells.length c2, .int .i64 (tagF key number cells)]) (by simp [results, Tryd.results142, go_sem, y0, y1, y2]) rfl ⟨_, rfl, ?_⟩
              rw [Hp.out]
              have hW : Mod [] w w1 := by rw [← hw1]; exact Mod.alloc0 _ _
              have hM : Mod [w1.heap.size, w.heap.size] w3 ((((w3.setCell ⟨w1.heap.size, 2, none⟩ (.int .i64 (tagF key number cells))).setCell ⟨w.heap.size, 0, none⟩ (.int .i64 number)).setCell ⟨w.heap.size, 1, none⟩ (.slice A2 cells.length c2)).setCell ⟨w.heap.size, 2, none⟩ (.int .i64 (tagF key number cells))) := ((((Mod.refl _ _).setCell (by simp) _).setCell (by simp) _).setCell (by simp) _).setCell (by simp) _
              have hn : ∀ g ∈ ob (.slice A2 cells.length c2) ++ ([] : List Nat), w1.heap.size < g := fun g hg => by have := hb3.own_le g (by simpa using hg); omega
              have i0 : I64 number := I64.mk (by omega) (by omega)
              have i2 : I64 (tagF key number cells) := I64.mk (by omega) (by omega)
              exact ⟨_, oSealed_mk i0 (Rep.rows Rep.int |>.mod hb3.rowHas hM (fun g hg => by have := hn g hg; have := Hsz.out; simp; omega)) i2, (hb3.good (Good.nil _)).mod hM (fun g hg => by have := hn g hg; have := Hsz.out; simp; omega), fun g hg => by have := hn g hg; have := Hsz.out; omega, ((hW.seq hm3).trans hM).drop (by have := Hsz.out; simp; omega)⟩
          · have nn : ¬ (w1.heap.size = wr.heap.size) := by omega
            have nn' : ¬ (wr.heap.size = w1.heap.size) := by omega
            have nl : w1.heap.size < wr.heap.size := by omega
            obtain ⟨b0, b1⟩ := streamF_bd key number row.length
            have Hst := Lib.hid (Sat.out row.length (by omega) (by omega))
            have H := Lib.hid (show markCell key number row true = (1 + streamF key number row.length) % 200003 from rfl)
            have Hi : Hid (I64 (markCell key number row true)) := by rw [H.out]; exact I64.mk (by omega) (by omega)
            have Hq := Lib.hid (wrapMark (m := 1) (by omega) (by omega) b0 b1 H.out)
            have hsl : (sealedCells key number row true).length = row.length + 1 := by simp [sealedCells, cellsTo_len]
            have Hsl := Lib.hid hsl
            clear hsl
            go_wp2_with fail
            go_region_law (first | (go_simp; go_at_call 149; refine (spec_StreamAt _ _ _ _).mono ?_; rw [Hst.out]; rintro e w' ⟨rfl, rfl⟩) | (show (if Region.wanted { dst := _, op := Op.call { callee := Callee.builtin Builtin.append, args := _, argTypes := _ }, type := _, pos := _, after := _, guard := none } _ = true then _ else _); refine step_app _ (by rfl) (.tmp 63) (.tmp 72) _ (by rfl) (w1.heap.size + 1) _ Rep.int (.int .i64 0) 8 Tryd.underlying43 (by kernel_rfl) (by rfl) (by decide) cv (cellsTo key number row row.length) [] (by rfl) (hb.mod0 (by repeat' (first | assumption | exact Mod.refl _ _ | exact Mod.alloc0 _ _ | (refine Mod.setCell ?_ (by (try simp); (try omega)) _) | refine Mod.alloc ?_ _ | refine Mod.drew ?_))) _ 1 1 [markCell key number row true] [] _ (by rfl) (by rfl) (Rep.all_one' ⟨rfl, ival Hq.out, Hi.out⟩) (cellsAt_new' _ _ _ _ (by simp)) (by simp) (by rw [cellsTo_len]; omega) (by decide) (by have := hB.size; simp; omega) ?_; intro v2 w2 hb2 hg2 ha2; have hz2 := app_below (w := wr) (B := w1.heap.size + 1) (by repeat' (first | assumption | exact Mod.refl _ _ | exact Mod.alloc0 _ _ | (refine Mod.setCell ?_ (by (try simp); (try omega)) _) | refine Mod.alloc ?_ _ | refine Mod.drew ?_)) (by omega) hg2 (fun g hg => (hb.own g hg).1); have hr2 := below_rules hz2; obtain ⟨hc2, hf2⟩ := hr2; have u0 := (hc2 _ 0 (Nat.lt_succ_self _)).trans q0; have u1 := (hc2 _ 1 (Nat.lt_succ_self _)).trans q1; have u2 := (hc2 _ 2 (Nat.lt_succ_self _)).trans q2; have uf := fun o => (hf2 _ o (Nat.lt_succ_self _)).trans (qf o); have uf1 := uf 1; clear hc2 hf2; have hm2 : Mod [] w1 w2 := Mod.bld (v := cv) (by repeat' (first | assumption | exact Mod.refl _ _ | exact Mod.alloc0 _ _ | (refine Mod.setCell ?_ (by (try simp); (try omega)) _) | refine Mod.alloc ?_ _ | refine Mod.drew ?_)) hg2 (fun g hg => by have := (hb.own g hg).1; omega); have hs2 : w1.heap.size + 1 ≤ w2.heap.size := (by have := hz2.size; omega); clear hz2 hg2 ha2; change Bld _ _ _ _ _ (sealedCells key number row true) _ at hb2; obtain ⟨A2, c2, rfl⟩ := hb2.form))
            all_goals
              have p0 := (World.cell?_setCell_other w2 ⟨w1.heap.size, 1, none⟩ ⟨w1.heap.size, 0, none⟩ (.slice A2 (sealedCells key number row true).length c2) (by simp)).trans u0
              have p1 := World.cell?_setCell_same w2 ⟨w1.heap.size, 1, none⟩ (.slice A2 (sealedCells key number row true).length c2) u1
              have p2 := (World.cell?_setCell_other w2 ⟨w1.heap.size, 1, none⟩ ⟨w1.heap.size, 2, none⟩ (.slice A2 (sealedCells key number row true).length c2) (by simp)).trans u2
              have pf : ∀ o, (w2.setCell ⟨w1.heap.size, 1, none⟩ (.slice A2 (sealedCells key number row true).length c2)).frozen? ⟨w1.heap.size, o, none⟩ = false := fun o => by rw [World.frozen?_setCell]; exact uf o
              have hb3 : Bld Rep.int 3 (w1.heap.size + 1) (w2.setCell ⟨w1.heap.size, 1, none⟩ (.slice A2 (sealedCells key number row true).length c2)) (.slice A2 (sealedCells key number row true).length c2) (sealedCells key number row true) [] := hb2.mod (G := [w1.heap.size]) (Mod.setCell (Mod.refl _ _) (by simp) _) (fun g hg => by have := hb2.own_le g (by simpa using hg); simp; omega)
              have hs3 : w1.heap.size + 1 ≤ (w2.setCell ⟨w1.heap.size, 1, none⟩ (.slice A2 (sealedCells key number row true).length c2)).heap.size := by simpa [World.setCell] using hs2
              have hm3 : Mod [] w1 (w2.setCell ⟨w1.heap.size, 1, none⟩ (.slice A2 (sealedCells key number row true).length c2)) := hm2.setCell (by simp) _
              have Hb := Lib.hid (sealedCells_bd key number row true)
              clear Hq Hi u0 u1 u2 uf uf1 hb2 hs2 hm2 hb hB hB0 q0 q1 q2 qf nn nn' nl H b0 b1 Hst
              generalize w2.setCell ⟨w1.heap.size, 1, none⟩ (.slice A2 (sealedCells key number row true).length c2) = w3 at *
              generalize sealedCells key number row true = cells at *
              have pf2 := pf 2
              have hcl : cells.length ≤ 7 := by rw [Hsl.out]; omega
              obtain ⟨t0, t1⟩ := tagF_bd key number cells
              have y0 := (hm3.cell (p := ⟨w.heap.size, 0, none⟩) (by show w.heap.size < _; have := Hsz.out; omega) (by simp)).trans z0
              have y1 := (hm3.cell (p := ⟨w.heap.size, 1, none⟩) (by show w.heap.size < _; have := Hsz.out; omega) (by simp)).trans z1
              have y2 := (hm3.cell (p := ⟨w.heap.size, 2, none⟩) (by show w.heap.size < _; have := Hsz.out; omega) (by simp)).trans z2
              have yf : ∀ o, w3.frozen? ⟨w.heap.size, o, none⟩ = false := fun o => (World.frozen?_of_block (a := ⟨w.heap.size, o, none⟩) (hm3.block w.heap.size (by have := Hsz.out; omega) (by simp))).trans (zf o)
              have yf0 := yf 0
              have yf1 := yf 1
              have yf2 := yf 2
              have nz : ¬ (w1.heap.size = w.heap.size) := by have := Hsz.out; omega
              have nz' : ¬ (w.heap.size = w1.heap.size) := by have := Hsz.out; omega
              go_wp2_with (go_at_call 151; refine (spec_l20Tag _ _ _ _ _ _ hb3.slice k0 k1 n0 n1 Hb.out hcl).mono ?_; rintro e w' ⟨rfl, rfl⟩)
              refine bodyPost_ret (v := .agg #[.int .i64 number, .slice A2 cells.length c2, .int .i64 (tagF key number cells)]) (by simp [results, Tryd.results142, go_sem, y0, y1, y2]) rfl ⟨_, rfl, ?_⟩
              rw [Hp.out]
              have hW : Mod [] w w1 := by rw [← hw1]; exact Mod.alloc0 _ _
              have hM : Mod [w1.heap.size, w.heap.size] w3 ((((w3.setCell ⟨w1.heap.size, 2, none⟩ (.int .i64 (tagF key number cells))).setCell ⟨w.heap.size, 0, none⟩ (.int .i64 number)).setCell ⟨w.heap.size, 1, none⟩ (.slice A2 cells.length c2)).setCell ⟨w.heap.size, 2, none⟩ (.int .i64 (tagF key number cells))) := ((((Mod.refl _ _).setCell (by simp) _).setCell (by simp) _).setCell (by simp) _).setCell (by simp) _
              have hn : ∀ g ∈ ob (.slice A2 cells.length c2) ++ ([] : List Nat), w1.heap.size < g := fun g hg => by have := hb3.own_le g (by simpa using hg); omega
              have i0 : I64 number := I64.mk (by omega) (by omega)
              have i2 : I64 (tagF key number cells) := I64.mk (by omega) (by omega)
              exact ⟨_, oSealed_mk i0 (Rep.rows Rep.int |>.mod hb3.rowHas hM (fun g hg => by have := hn g hg; have := Hsz.out; simp; omega)) i2, (hb3.good (Good.nil _)).mod hM (fun g hg => by have := hn g hg; have := Hsz.out; simp; omega), fun g hg => by have := hn g hg; have := Hsz.out; omega, ((hW.seq hm3).trans hM).drop (by have := Hsz.out; simp; omega)⟩
theorem spec_SealRow (key number : Int) (real : Bool) (w : World) (F : List Nat) (v : Value) (row : List Int) (hx : SliceHas Rep.int w F [v] row) :
    Calls Tryd.prog 142 #[.int .i64 key, .int .i64 number, v, .bool real] w fun e w' => ∃ cs', e = .returned (.agg cs'.toArray) ∧ Fresh rSealed w w' cs' (sealRowF key number row real) := by
  refine (spec_SealRowO key number real w F v row hx).mono ?_
  rintro e w' ⟨cs', rfl, hN⟩
  exact ⟨cs', rfl, Fresh.weak (e' := rSealed) hN⟩
end Go.Proofs.YtldknaajnnohiaaDoor
