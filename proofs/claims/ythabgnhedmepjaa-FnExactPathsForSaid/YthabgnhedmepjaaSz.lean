/- Sizes of the data; contracts of sz... -/
import Derived.Test.YthabgnhedmepjaaShapes
import Derived.Test.YthabgnhedmepjaaMark
import Derived.Test.YthabgnhedmepjaaRows
namespace Go.Proofs.Ythabgnhedmepjaa
open Go.RowKit
attribute [local go_sem] ext_cell

def szPair : PairD → Nat := szZ
def szAccess : AccessD → Nat := szZ
def szBlock : BlockD → Nat := szZ
def szUse : UseD → Nat := szZ
def szTest (x : TestD) : Nat := szStr x.1 + szStr x.2.1 + szStr x.2.2.2
def szSealed (x : SealedD) : Nat := (szL szZ) x.2.1
def szShape (x : ShapeD) : Nat := szStr x.1 + (szL szStr) x.2.1
def szMemory (x : MemoryD) : Nat := (szL (szL szBlock)) x.1 + (szL szBlock) x.2
def szTable (x : TableD) : Nat := (szL szStr) x.1 + (szL (szL szZ)) x.2
def szNamed (x : NamedD) : Nat := szStr x.1 + szTable x.2
def szPadded (x : PaddedD) : Nat := (szL szStr) x.1 + (szL (szL szZ)) x.2.1 + (szL szZ) x.2.2
def szStep (x : StepD) : Nat := szStr x.2.1 + szStr x.2.2.1 + szStr x.2.2.2.1 + (szL (szL szTest)) x.2.2.2.2.1 + (szL szStr) x.2.2.2.2.2.1
def szQuery (x : QueryD) : Nat := (szL szStr) x.1 + szStr x.2.1 + szStr x.2.2.1 + szStr x.2.2.2.1 + szStr x.2.2.2.2.1 + (szL (szL szTest)) x.2.2.2.2.2.1 + szStr x.2.2.2.2.2.2.1 + szStr x.2.2.2.2.2.2.2.1 + szStr x.2.2.2.2.2.2.2.2.1

set_option maxHeartbeats 1000000 in
theorem szIntS_any (w : World) (F : List Nat) (v : Value) (xs : List Int) (left : Int) (hx : SliceHas Rep.int w F [v] xs) (h0 : 0 ≤ left) (h1 : left ≤ 1048576) :
    Calls Try.prog 83 #[v, .int .i64 left] w fun e w' => ∃ r : Int, e = .returned (.int .i64 r) ∧ SzR left ((szL szZ) xs) r ∧ Mod [] w w' := by
  obtain ⟨A, c, rfl, hn, _⟩ := hx.form'
  by_cases hl : left < (xs.length : Int)
  · go_enter Try.func83, Try.ntmps83
    go_wp2_with fail
    go_ret
    exact ⟨-1, rfl, .inl rfl, Mod.refl _ _⟩
  · go_enter Try.func83, Try.ntmps83
    go_wp2_with fail
    go_ret
    exact ⟨_, rfl, .inr ⟨by omega, by have h : (xs.map (szZ : Int → Nat)).sum = 0 := sum_szZ xs
                                      simp only [szL, h]; omega⟩, Mod.refl _ _⟩




set_option maxHeartbeats 1000000 in
theorem szPairS_any (w : World) (F : List Nat) (v : Value) (xs : List PairD) (left : Int) (hx : SliceHas rPair w F [v] xs) (h0 : 0 ≤ left) (h1 : left ≤ 1048576) :
    Calls Try.prog 16 #[v, .int .i64 left] w fun e w' => ∃ r : Int, e = .returned (.int .i64 r) ∧ SzR left ((szL szPair) xs) r ∧ Mod [] w w' := by
  obtain ⟨A, c, rfl, hn, _⟩ := hx.form'
  by_cases hl : left < (xs.length : Int)
  · go_enter Try.func16, Try.ntmps16
    go_wp2_with fail
    go_ret
    exact ⟨-1, rfl, .inl rfl, Mod.refl _ _⟩
  · go_enter Try.func16, Try.ntmps16
    go_wp2_with fail
    go_ret
    exact ⟨_, rfl, .inr ⟨by omega, by have h : (xs.map (szPair : PairD → Nat)).sum = 0 := (sum_szZ (α := PairD)) xs
                                      simp only [szL, h]; omega⟩, Mod.refl _ _⟩


set_option maxHeartbeats 1000000 in
theorem szBlockS_any (w : World) (F : List Nat) (v : Value) (xs : List BlockD) (left : Int) (hx : SliceHas rBlock w F [v] xs) (h0 : 0 ≤ left) (h1 : left ≤ 1048576) :
    Calls Try.prog 70 #[v, .int .i64 left] w fun e w' => ∃ r : Int, e = .returned (.int .i64 r) ∧ SzR left ((szL szBlock) xs) r ∧ Mod [] w w' := by
  obtain ⟨A, c, rfl, hn, _⟩ := hx.form'
  by_cases hl : left < (xs.length : Int)
  · go_enter Try.func70, Try.ntmps70
    go_wp2_with fail
    go_ret
    exact ⟨-1, rfl, .inl rfl, Mod.refl _ _⟩
  · go_enter Try.func70, Try.ntmps70
    go_wp2_with fail
    go_ret
    exact ⟨_, rfl, .inr ⟨by omega, by have h : (xs.map (szBlock : BlockD → Nat)).sum = 0 := (sum_szZ (α := BlockD)) xs
                                      simp only [szL, h]; omega⟩, Mod.refl _ _⟩

set_option maxHeartbeats 1000000 in
theorem szUseS_any (w : World) (F : List Nat) (v : Value) (xs : List UseD) (left : Int) (hx : SliceHas rUse w F [v] xs) (h0 : 0 ≤ left) (h1 : left ≤ 1048576) :
    Calls Try.prog 49 #[v, .int .i64 left] w fun e w' => ∃ r : Int, e = .returned (.int .i64 r) ∧ SzR left ((szL szUse) xs) r ∧ Mod [] w w' := by
  obtain ⟨A, c, rfl, hn, _⟩ := hx.form'
  by_cases hl : left < (xs.length : Int)
  · go_enter Try.func49, Try.ntmps49
    go_wp2_with fail
    go_ret
    exact ⟨-1, rfl, .inl rfl, Mod.refl _ _⟩
  · go_enter Try.func49, Try.ntmps49
    go_wp2_with fail
    go_ret
    exact ⟨_, rfl, .inr ⟨by omega, by have h : (xs.map (szUse : UseD → Nat)).sum = 0 := (sum_szZ (α := UseD)) xs
                                      simp only [szL, h]; omega⟩, Mod.refl _ _⟩



set_option maxHeartbeats 1000000 in
theorem szBlockSS_any (w : World) (F : List Nat) (v : Value) (xs : List (List BlockD)) (left : Int) (hx : SliceHas (rBlock.slice) w F [v] xs) (h0 : 0 ≤ left) (h1 : left ≤ 1048576) :
    Calls Try.prog 69 #[v, .int .i64 left] w fun e w' => ∃ r : Int, e = .returned (.int .i64 r) ∧ SzR left ((szL (szL szBlock)) xs) r ∧ Mod [] w w' := by
  obtain ⟨A, c, rfl, hn, _⟩ := hx.form'
  by_cases hl : left < (xs.length : Int)
  · go_enter Try.func69, Try.ntmps69
    go_wp2_with fail
    go_ret
    exact ⟨-1, rfl, .inl rfl, Mod.refl _ _⟩
  · go_enter Try.func69, Try.ntmps69
    go_wp2_with fail
    go_loopw [1, 5] (fun l i wr => ∃ (k : Nat) (q : Int), k ≤ xs.length ∧ i = .int .i64 k ∧ l = .int .i64 q ∧ 0 ≤ q ∧ q ≤ 1048576 ∧ Hid (q = left - xs.length - (((xs.take k).map (szL szBlock)).sum : Nat)) ∧ Mod [] w wr) (fun _ i _ => xs.length - (intOf i).toNat)
    case atStart => exact ⟨0, _, Nat.zero_le _, rfl, rfl, by omega, by omega, (show _ = _ by simp), Mod.refl _ _⟩
    case round =>
      obtain ⟨k, q, hk, rfl, rfl, q0, q1, Q, hB⟩ := hrel
      by_cases hlt : k < xs.length
      · have hx' : SliceHas (rBlock.slice) wr F [.slice A xs.length c] xs := Rep.slice (rBlock.slice) |>.mod0 hx hB
        have Hs := Lib.hid (sum_take_succ (szL szBlock) xs k hlt)
        obtain ⟨ad, u, Fk, rfl, a0, hxk, _⟩ := hx'.slice_at hlt
        go_wp2_with fail
        refine (szBlockS_any _ _ _ _ _ hxk q0 q1).mono ?_
        rintro e w1 ⟨r, rfl, hr, hm⟩
        rcases hr with rfl | ⟨p, qq⟩
        case inl =>
          go_wp2_with fail
          go_ret
          exact ⟨-1, rfl, .inl rfl, hB.seq hm⟩
        have r1 : r ≤ 1048576 := by omega
        have QQ := Lib.hid qq
        clear qq
        go_wp2_with fail
        go_roundw
        case rel => exact ⟨k + 1, _, hlt, by go_num, rfl, p, r1, (show _ = _ by have := Q.out; have := Hs.out; have := QQ.out; omega), hB.seq hm⟩
        case measure => simp [intOf]; omega
      · have hk2 : xs.take k = xs := List.take_of_length_le (by omega)
        have Hk := Lib.hid hk2
        clear hk2
        go_wp2_with fail
        go_ret
        exact ⟨_, rfl, .inr ⟨q0, by have := Q.out; rw [Hk.out] at this; simp only [szL]; omega⟩, hB⟩


set_option maxHeartbeats 1000000 in
theorem szSealed_any (w : World) (F : List Nat) (cs : List Value) (x : SealedD) (left : Int) (hx : rSealed.has w F cs x) (h0 : 0 ≤ left) (h1 : left ≤ 1048576) :
    Calls Try.prog 38 #[.agg cs.toArray, .int .i64 left] w fun e w' => ∃ r : Int, e = .returned (.int .i64 r) ∧ SzR left (szSealed x) r ∧ Mod [] w w' := by
  obtain ⟨A1, c1, F1, rfl, _, ih0, h1, ih2⟩ := rSealed_open hx
  obtain ⟨x0, x1, x2⟩ := x
  go_enter Try.func38, Try.ntmps38
  go_wp2_with fail
  refine (szIntS_any _ _ _ _ _ (Rep.mod0 (Rep.int.slice) h1 (by repeat (first | exact Mod.refl _ _ | apply Mod.alloc | apply Mod.drewN | refine Mod.seq ?_ (by assumption)))) (by omega) (by omega)).mono ?_
  rintro e w1 ⟨r1, rfl, hr1, hm1⟩
  obtain ⟨hc1, hf1⟩ := hm1.rules
  rcases hr1 with rfl | ⟨p1, q1⟩
  case inl =>
    go_wp2_with fail
    go_ret
    exact ⟨-1, rfl, .inl rfl, (by repeat (first | exact Mod.refl _ _ | apply Mod.alloc | apply Mod.drewN | refine Mod.seq ?_ (by assumption)))⟩
  have u1 : r1 ≤ 1048576 := by omega
  have Q1 := Lib.hid q1
  clear q1
  go_wp2_with fail
  go_ret
  exact ⟨_, rfl, .inr ⟨by omega, by have := Q1.out; simp only [szSealed, szStr]; omega⟩, (by repeat (first | exact Mod.refl _ _ | apply Mod.alloc | apply Mod.drewN | refine Mod.seq ?_ (by assumption)))⟩


set_option maxHeartbeats 1000000 in
theorem szMemory_any (w : World) (F : List Nat) (cs : List Value) (x : MemoryD) (left : Int) (hx : rMemory.has w F cs x) (h0 : 0 ≤ left) (h1 : left ≤ 1048576) :
    Calls Try.prog 33 #[.agg cs.toArray, .int .i64 left] w fun e w' => ∃ r : Int, e = .returned (.int .i64 r) ∧ SzR left (szMemory x) r ∧ Mod [] w w' := by
  obtain ⟨A0, c0, F0, A1, c1, F1, rfl, _, h0, h1⟩ := rMemory_open hx
  obtain ⟨x0, x1⟩ := x
  go_enter Try.func33, Try.ntmps33
  go_wp2_with fail
  refine (szBlockSS_any _ _ _ _ _ (Rep.mod0 ((rBlock.slice).slice) h0 (by repeat (first | exact Mod.refl _ _ | apply Mod.alloc | apply Mod.drewN | refine Mod.seq ?_ (by assumption)))) (by omega) (by omega)).mono ?_
  rintro e w0 ⟨r0, rfl, hr0, hm0⟩
  obtain ⟨hc0, hf0⟩ := hm0.rules
  rcases hr0 with rfl | ⟨p0, q0⟩
  case inl =>
    go_wp2_with fail
    go_ret
    exact ⟨-1, rfl, .inl rfl, (by repeat (first | exact Mod.refl _ _ | apply Mod.alloc | apply Mod.drewN | refine Mod.seq ?_ (by assumption)))⟩
  have u0 : r0 ≤ 1048576 := by omega
  have Q0 := Lib.hid q0
  clear q0
  go_wp2_with fail
  refine (szBlockS_any _ _ _ _ _ (Rep.mod0 (rBlock.slice) h1 (by repeat (first | exact Mod.refl _ _ | apply Mod.alloc | apply Mod.drewN | refine Mod.seq ?_ (by assumption)))) (by omega) (by omega)).mono ?_
  rintro e w1 ⟨r1, rfl, hr1, hm1⟩
  obtain ⟨hc1, hf1⟩ := hm1.rules
  rcases hr1 with rfl | ⟨p1, q1⟩
  case inl =>
    go_wp2_with fail
    go_ret
    exact ⟨-1, rfl, .inl rfl, (by repeat (first | exact Mod.refl _ _ | apply Mod.alloc | apply Mod.drewN | refine Mod.seq ?_ (by assumption)))⟩
  have u1 : r1 ≤ 1048576 := by omega
  have Q1 := Lib.hid q1
  clear q1
  go_wp2_with fail
  go_ret
  exact ⟨_, rfl, .inr ⟨by omega, by have := Q0.out; have := Q1.out; simp only [szMemory, szStr]; omega⟩, (by repeat (first | exact Mod.refl _ _ | apply Mod.alloc | apply Mod.drewN | refine Mod.seq ?_ (by assumption)))⟩






set_option maxHeartbeats 1000000 in
theorem szSealedS_any (w : World) (F : List Nat) (v : Value) (xs : List SealedD) (left : Int) (hx : SliceHas rSealed w F [v] xs) (h0 : 0 ≤ left) (h1 : left ≤ 1048576) :
    Calls Try.prog 11 #[v, .int .i64 left] w fun e w' => ∃ r : Int, e = .returned (.int .i64 r) ∧ SzR left ((szL szSealed) xs) r ∧ Mod [] w w' := by
  obtain ⟨A, c, rfl, hn, _⟩ := hx.form'
  by_cases hl : left < (xs.length : Int)
  · go_enter Try.func11, Try.ntmps11
    go_wp2_with fail
    go_ret
    exact ⟨-1, rfl, .inl rfl, Mod.refl _ _⟩
  · go_enter Try.func11, Try.ntmps11
    go_wp2_with fail
    go_loopw [1, 5] (fun l i wr => ∃ (k : Nat) (q : Int), k ≤ xs.length ∧ i = .int .i64 k ∧ l = .int .i64 q ∧ 0 ≤ q ∧ q ≤ 1048576 ∧ Hid (q = left - xs.length - (((xs.take k).map szSealed).sum : Nat)) ∧ Mod [] w wr) (fun _ i _ => xs.length - (intOf i).toNat)
    case atStart => exact ⟨0, _, Nat.zero_le _, rfl, rfl, by omega, by omega, (show _ = _ by simp), Mod.refl _ _⟩
    case round =>
      obtain ⟨k, q, hk, rfl, rfl, q0, q1, Q, hB⟩ := hrel
      by_cases hlt : k < xs.length
      · have hx' : SliceHas rSealed wr F [.slice A xs.length c] xs := Rep.slice rSealed |>.mod0 hx hB
        have Hs := Lib.hid (sum_take_succ szSealed xs k hlt)
        obtain ⟨ad, Fk, ck, rfl, _, _, _, hca, hxk⟩ := hx'.get hlt
        have hxk2 := hxk
        obtain ⟨A1, c1, F1, rfl, _, _, _, _⟩ := rSealed_open hxk
        have a0 : wr.cell? (ad.add (k * 3)) = some (.int .i64 xs[k].1) := hca.zero
        have a1 : wr.cell? ⟨(ad.add (k * 3)).block, (ad.add (k * 3)).off + 1, none⟩ = some (.slice A1 xs[k].2.1.length c1) := hca.nth 0 rfl
        have a2 : wr.cell? ⟨(ad.add (k * 3)).block, (ad.add (k * 3)).off + 2, none⟩ = some (.int .i64 xs[k].2.2) := hca.nth 1 rfl
        clear hca
        go_wp2_with fail
        refine (szSealed_any _ _ _ _ _ hxk2 q0 q1).mono ?_
        rintro e w1 ⟨r, rfl, hr, hm⟩
        rcases hr with rfl | ⟨p, qq⟩
        case inl =>
          go_wp2_with fail
          go_ret
          exact ⟨-1, rfl, .inl rfl, hB.seq hm⟩
        have r1 : r ≤ 1048576 := by omega
        have QQ := Lib.hid qq
        clear qq
        go_wp2_with fail
        go_roundw
        case rel => exact ⟨k + 1, _, hlt, by go_num, rfl, p, r1, (show _ = _ by have := Q.out; have := Hs.out; have := QQ.out; omega), hB.seq hm⟩
        case measure => simp [intOf]; omega
      · have hk2 : xs.take k = xs := List.take_of_length_le (by omega)
        have Hk := Lib.hid hk2
        clear hk2
        go_wp2_with fail
        go_ret
        exact ⟨_, rfl, .inr ⟨q0, by have := Q.out; rw [Hk.out] at this; simp only [szL]; omega⟩, hB⟩





end Go.Proofs.Ythabgnhedmepjaa
