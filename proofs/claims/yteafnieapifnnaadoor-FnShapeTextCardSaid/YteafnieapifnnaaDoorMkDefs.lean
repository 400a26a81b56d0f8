/- Marks of the data. -/
import Derived.Test.YteafnieapifnnaaDoorShapes
import Derived.Test.YteafnieapifnnaaDoorLaw
import Derived.Test.YteafnieapifnnaaDoorRows
section
namespace Go.Proofs.YteafnieapifnnaaDoor
open Go.RowKit
attribute [local go_sem] ext_cell

def ctPair (x : PairD) : Nat := ct1 x.1 + ct1 x.2
def mkPair (k : Int) (x : PairD) : PairD := (mkI k x.1, mkI (k + 1) x.2)
def ctAccess (x : AccessD) : Nat := ct1 x.1 + ct1 x.2.1 + ct1 x.2.2
def mkAccess (k : Int) (x : AccessD) : AccessD := (mkI k x.1, mkI (k + 1) x.2.1, mkB ((k + 1) + 1) x.2.2)
def ctBlock (x : BlockD) : Nat := ct1 x.1 + ct1 x.2.1 + ct1 x.2.2
def mkBlock (k : Int) (x : BlockD) : BlockD := (mkI k x.1, mkI (k + 1) x.2.1, mkI ((k + 1) + 1) x.2.2)
def ctUse (x : UseD) : Nat := ct1 x.1 + ct1 x.2.1 + ct1 x.2.2.1 + ct1 x.2.2.2
def mkUse (k : Int) (x : UseD) : UseD := (mkI k x.1, mkB (k + 1) x.2.1, mkI ((k + 1) + 1) x.2.2.1, mkI (((k + 1) + 1) + 1) x.2.2.2)
def ctSealed (x : SealedD) : Nat := ct1 x.1 + (ctL ct1) x.2.1 + ct1 x.2.2
def mkSealed (k : Int) (x : SealedD) : SealedD := (mkI k x.1, (mkL mkI ct1) (k + 1) x.2.1, mkI ((k + 1) + ((ctL ct1) x.2.1 : Int)) x.2.2)
def ctvSealed (x : SealedD) : Nat := (ctL ct1) x.2.1
def mkvSealed (k : Int) (x : SealedD) : SealedD := (x.1, (mkL mkI ct1) k x.2.1, x.2.2)
def ctMemory (x : MemoryD) : Nat := (ctL (ctL ctBlock)) x.1 + (ctL ctBlock) x.2
def mkMemory (k : Int) (x : MemoryD) : MemoryD := ((mkL (mkL mkBlock ctBlock) (ctL ctBlock)) k x.1, (mkL mkBlock ctBlock) (k + ((ctL (ctL ctBlock)) x.1 : Int)) x.2)
def ctvMemory (x : MemoryD) : Nat := (ctL (ctL ctBlock)) x.1 + (ctL ctBlock) x.2
def mkvMemory (k : Int) (x : MemoryD) : MemoryD := ((mkL (mkL mkBlock ctBlock) (ctL ctBlock)) k x.1, (mkL mkBlock ctBlock) (k + ((ctL (ctL ctBlock)) x.1 : Int)) x.2)

end Go.Proofs.YteafnieapifnnaaDoor
end

section
namespace Go.Proofs.YteafnieapifnnaaDoor
open Go.RowKit
attribute [local go_sem] ext_cell

def szPair : PairD → Nat := szZ
def szAccess : AccessD → Nat := szZ
def szBlock : BlockD → Nat := szZ
def szUse : UseD → Nat := szZ
def szTest (x : TestD) : Nat := szStr x.1 + szStr x.2.1 + szStr x.2.2.2
def szSealed (x : SealedD) : Nat := (szL szZ) x.2.1
def szShape (x : ShapeD) : Nat := szStr x.1 + (szL szStr) x.2.1
def szMemory (x : MemoryD) : Nat := (szL (szL szBlock)) x.1 + (szL szBlock) x.2
def szTable (x : TableD) : Nat := (szL szStr) x.1 + (szL (szL szZ)) x.2
def szNamed (x : NamedD) : Nat := szStr x.1 + szTable x.2
def szPadded (x : PaddedD) : Nat := (szL szStr) x.1 + (szL (szL szZ)) x.2.1 + (szL szZ) x.2.2
def szStep (x : StepD) : Nat := szStr x.2.1 + szStr x.2.2.1 + szStr x.2.2.2.1 + (szL (szL szTest)) x.2.2.2.2.1 + (szL szStr) x.2.2.2.2.2.1
def szQuery (x : QueryD) : Nat := (szL szStr) x.1 + szStr x.2.1 + szStr x.2.2.1 + szStr x.2.2.2.1 + szStr x.2.2.2.2.1 + (szL (szL szTest)) x.2.2.2.2.2.1 + szStr x.2.2.2.2.2.2.1 + szStr x.2.2.2.2.2.2.2.1 + szStr x.2.2.2.2.2.2.2.2.1

set_option maxHeartbeats 1000000 in
theorem szIntS_any (w : World) (F : List Nat) (v : Value) (xs : List Int) (left : Int) (hx : SliceHas Rep.int w F [v] xs) (h0 : 0 ≤ left) (h1 : left ≤ 1048576) :
    Calls Tryd.prog 80 #[v, .int .i64 left] w fun e w' => ∃ r : Int, e = .returned (.int .i64 r) ∧ SzR left ((szL szZ) xs) r ∧ Mod [] w w' := by
  obtain ⟨A, c, rfl, hn, _⟩ := hx.form'
  by_cases hl : left < (xs.length : Int)
  · go_enter Tryd.func80, Tryd.ntmps80
    go_wp2_with fail
    go_ret
    exact ⟨-1, rfl, .inl rfl, Mod.refl _ _⟩
  · go_enter Tryd.func80, Tryd.ntmps80
    go_wp2_with fail
    go_ret
    exact ⟨_, rfl, .inr ⟨by omega, by have h : (xs.map (szZ : Int → Nat)).sum = 0 := sum_szZ xs
                                      simp only [szL, h]; omega⟩, Mod.refl _ _⟩

set_option maxHeartbeats 1000000 in
theorem szStringS_any (w : World) (F : List Nat) (v : Value) (xs : List ByteArray) (left : Int) (hx : SliceHas Rep.str w F [v] xs) (h0 : 0 ≤ left) (h1 : left ≤ 1048576) :
    Calls Tryd.prog 55 #[v, .int .i64 left] w fun e w' => ∃ r : Int, e = .returned (.int .i64 r) ∧ SzR left ((szL szStr) xs) r ∧ Mod [] w w' := by
  obtain ⟨A, c, rfl, hn, _⟩ := hx.form'
  by_cases hl : left < (xs.length : Int)
  · go_enter Tryd.func55, Tryd.ntmps55
    go_wp2_with fail
    go_ret
    exact ⟨-1, rfl, .inl rfl, Mod.refl _ _⟩
  · go_enter Tryd.func55, Tryd.ntmps55
    go_wp2_with fail
    go_loopw [1, 5] (fun l i wr => ∃ (k : Nat) (q : Int), k ≤ xs.length ∧ i = .int .i64 k ∧ l = .int .i64 q ∧ 0 ≤ q ∧ q ≤ 1048576 ∧ Hid (q = left - xs.length - (((xs.take k).map szStr).sum : Nat)) ∧ Mod [] w wr) (fun _ i _ => xs.length - (intOf i).toNat)
    case atStart => exact ⟨0, _, Nat.zero_le _, rfl, rfl, by omega, by omega, (show _ = _ by simp), Mod.refl _ _⟩
    case round =>
      obtain ⟨k, q, hk, rfl, rfl, q0, q1, Q, hB⟩ := hrel
      by_cases hlt : k < xs.length
      · have hx' : SliceHas Rep.str wr F [.slice A xs.length c] xs := Rep.slice Rep.str |>.mod0 hx hB
        have Hs := Lib.hid (sum_take_succ szStr xs k hlt)
        obtain ⟨ad, rfl, a0, hsz⟩ := hx'.str_at hlt
        have g0 : xs[k].size ≤ 9223372036854775807 := by unfold maxLen at hsz; omega
        by_cases b0 : q < (xs[k].size : Int)
        · go_wp2_with fail
          go_ret
          exact ⟨-1, rfl, .inl rfl, hB⟩
        · go_wp2_with fail
          go_roundw
          case rel => exact ⟨k + 1, _, hlt, by go_num, rfl, by omega, by omega, (show _ = _ by have := Q.out; have := Hs.out; simp only [szStr] at *; omega), hB⟩
          case measure => simp [intOf]; omega
      · have hk2 : xs.take k = xs := List.take_of_length_le (by omega)
        have Hk := Lib.hid hk2
        clear hk2
        go_wp2_with fail
        go_ret
        exact ⟨_, rfl, .inr ⟨q0, by have := Q.out; rw [Hk.out] at this; simp only [szL]; omega⟩, hB⟩


set_option maxHeartbeats 1000000 in
theorem szIntSS_any (w : World) (F : List Nat) (v : Value) (xs : List (List Int)) (left : Int) (hx : SliceHas (Rep.int.slice) w F [v] xs) (h0 : 0 ≤ left) (h1 : left ≤ 1048576) :
    Calls Tryd.prog 56 #[v, .int .i64 left] w fun e w' => ∃ r : Int, e = .returned (.int .i64 r) ∧ SzR left ((szL (szL szZ)) xs) r ∧ Mod [] w w' := by
  obtain ⟨A, c, rfl, hn, _⟩ := hx.form'
  by_cases hl : left < (xs.length : Int)
  · go_enter Tryd.func56, Tryd.ntmps56
    go_wp2_with fail
    go_ret
    exact ⟨-1, rfl, .inl rfl, Mod.refl _ _⟩
  · go_enter Tryd.func56, Tryd.ntmps56
    go_wp2_with fail
    go_loopw [1, 5] (fun l i wr => ∃ (k : Nat) (q : Int), k ≤ xs.length ∧ i = .int .i64 k ∧ l = .int .i64 q ∧ 0 ≤ q ∧ q ≤ 1048576 ∧ Hid (q = left - xs.length - (((xs.take k).map (szL szZ)).sum : Nat)) ∧ Mod [] w wr) (fun _ i _ => xs.length - (intOf i).toNat)
    case atStart => exact ⟨0, _, Nat.zero_le _, rfl, rfl, by omega, by omega, (show _ = _ by simp), Mod.refl _ _⟩
    case round =>
      obtain ⟨k, q, hk, rfl, rfl, q0, q1, Q, hB⟩ := hrel
      by_cases hlt : k < xs.length
      · have hx' : SliceHas (Rep.int.slice) wr F [.slice A xs.length c] xs := Rep.slice (Rep.int.slice) |>.mod0 hx hB
        have Hs := Lib.hid (sum_take_succ (szL szZ) xs k hlt)
        obtain ⟨ad, u, Fk, rfl, a0, hxk, _⟩ := hx'.slice_at hlt
        go_wp2_with fail
        refine (szIntS_any _ _ _ _ _ hxk q0 q1).mono ?_
        rintro e w1 ⟨r, rfl, hr, hm⟩
        rcases hr with rfl | ⟨p, qq⟩
        case inl =>
          go_wp2_with fail
          go_ret
          exact ⟨-1, rfl, .inl rfl, hB.seq hm⟩
        have r1 : r ≤ 1048576 := by omega
        have QQ := Lib.hid qq
        clear qq
        go_wp2_with fail
        go_roundw
        case rel => exact ⟨k + 1, _, hlt, by go_num, rfl, p, r1, (show _ = _ by have := Q.out; have := Hs.out; have := QQ.out; omega), hB.seq hm⟩
        case measure => simp [intOf]; omega
      · have hk2 : xs.take k = xs := List.take_of_length_le (by omega)
        have Hk := Lib.hid hk2
        clear hk2
        go_wp2_with fail
        go_ret
        exact ⟨_, rfl, .inr ⟨q0, by have := Q.out; rw [Hk.out] at this; simp only [szL]; omega⟩, hB⟩










set_option maxHeartbeats 1000000 in
theorem szShape_any (w : World) (F : List Nat) (cs : List Value) (x : ShapeD) (left : Int) (hx : rShape.has w F cs x) (h0 : 0 ≤ left) (h1 : left ≤ 1048576) :
    Calls Tryd.prog 51 #[.agg cs.toArray, .int .i64 left] w fun e w' => ∃ r : Int, e = .returned (.int .i64 r) ∧ SzR left (szShape x) r ∧ Mod [] w w' := by
  obtain ⟨A1, c1, F1, rfl, _, ih0, h1, ih2⟩ := rShape_open hx
  obtain ⟨x0, x1, x2⟩ := x
  have g0 : x0.size ≤ 9223372036854775807 := by unfold maxLen at ih0; omega
  go_enter Tryd.func51, Tryd.ntmps51
  by_cases b0 : left < (x0.size : Int)
  case pos =>
    go_wp2_with fail
    go_ret
    exact ⟨-1, rfl, .inl rfl, (by repeat (first | exact Mod.refl _ _ | apply Mod.alloc | apply Mod.drewN | refine Mod.seq ?_ (by assumption)))⟩
  go_wp2_with fail
  go_wp2_with fail
  refine (szStringS_any _ _ _ _ _ (Rep.mod0 (Rep.str.slice) h1 (by repeat (first | exact Mod.refl _ _ | apply Mod.alloc | apply Mod.drewN | refine Mod.seq ?_ (by assumption)))) (by omega) (by omega)).mono ?_
  rintro e w1 ⟨r1, rfl, hr1, hm1⟩
  obtain ⟨hc1, hf1⟩ := hm1.rules
  rcases hr1 with rfl | ⟨p1, q1⟩
  case inl =>
    go_wp2_with fail
    go_ret
    exact ⟨-1, rfl, .inl rfl, (by repeat (first | exact Mod.refl _ _ | apply Mod.alloc | apply Mod.drewN | refine Mod.seq ?_ (by assumption)))⟩
  have u1 : r1 ≤ 1048576 := by omega
  have Q1 := Lib.hid q1
  clear q1
  go_wp2_with fail
  go_ret
  exact ⟨_, rfl, .inr ⟨by omega, by have := Q1.out; simp only [szShape, szStr]; omega⟩, (by repeat (first | exact Mod.refl _ _ | apply Mod.alloc | apply Mod.drewN | refine Mod.seq ?_ (by assumption)))⟩


set_option maxHeartbeats 1000000 in
theorem szTable_any (w : World) (F : List Nat) (cs : List Value) (x : TableD) (left : Int) (hx : rTable.has w F cs x) (h0 : 0 ≤ left) (h1 : left ≤ 1048576) :
    Calls Tryd.prog 26 #[.agg cs.toArray, .int .i64 left] w fun e w' => ∃ r : Int, e = .returned (.int .i64 r) ∧ SzR left (szTable x) r ∧ Mod [] w w' := by
  obtain ⟨A0, c0, F0, A1, c1, F1, rfl, _, h0, h1⟩ := rTable_open hx
  obtain ⟨x0, x1⟩ := x
  go_enter Tryd.func26, Tryd.ntmps26
  go_wp2_with fail
  refine (szStringS_any _ _ _ _ _ (Rep.mod0 (Rep.str.slice) h0 (by repeat (first | exact Mod.refl _ _ | apply Mod.alloc | apply Mod.drewN | refine Mod.seq ?_ (by assumption)))) (by omega) (by omega)).mono ?_
  rintro e w0 ⟨r0, rfl, hr0, hm0⟩
  obtain ⟨hc0, hf0⟩ := hm0.rules
  rcases hr0 with rfl | ⟨p0, q0⟩
  case inl =>
    go_wp2_with fail
    go_ret
    exact ⟨-1, rfl, .inl rfl, (by repeat (first | exact Mod.refl _ _ | apply Mod.alloc | apply Mod.drewN | refine Mod.seq ?_ (by assumption)))⟩
  have u0 : r0 ≤ 1048576 := by omega
  have Q0 := Lib.hid q0
  clear q0
  go_wp2_with fail
  refine (szIntSS_any _ _ _ _ _ (Rep.mod0 ((Rep.int.slice).slice) h1 (by repeat (first | exact Mod.refl _ _ | apply Mod.alloc | apply Mod.drewN | refine Mod.seq ?_ (by assumption)))) (by omega) (by omega)).mono ?_
  rintro e w1 ⟨r1, rfl, hr1, hm1⟩
  obtain ⟨hc1, hf1⟩ := hm1.rules
  rcases hr1 with rfl | ⟨p1, q1⟩
  case inl =>
    go_wp2_with fail
    go_ret
    exact ⟨-1, rfl, .inl rfl, (by repeat (first | exact Mod.refl _ _ | apply Mod.alloc | apply Mod.drewN | refine Mod.seq ?_ (by assumption)))⟩
  have u1 : r1 ≤ 1048576 := by omega
  have Q1 := Lib.hid q1
  clear q1
  go_wp2_with fail
  go_ret
  exact ⟨_, rfl, .inr ⟨by omega, by have := Q0.out; have := Q1.out; simp only [szTable, szStr]; omega⟩, (by repeat (first | exact Mod.refl _ _ | apply Mod.alloc | apply Mod.drewN | refine Mod.seq ?_ (by assumption)))⟩






set_option maxHeartbeats 1000000 in
theorem szShapeS_any (w : World) (F : List Nat) (v : Value) (xs : List ShapeD) (left : Int) (hx : SliceHas rShape w F [v] xs) (h0 : 0 ≤ left) (h1 : left ≤ 1048576) :
    Calls Tryd.prog 21 #[v, .int .i64 left] w fun e w' => ∃ r : Int, e = .returned (.int .i64 r) ∧ SzR left ((szL szShape) xs) r ∧ Mod [] w w' := by
  obtain ⟨A, c, rfl, hn, _⟩ := hx.form'
  by_cases hl : left < (xs.length : Int)
  · go_enter Tryd.func21, Tryd.ntmps21
    go_wp2_with fail
    go_ret
    exact ⟨-1, rfl, .inl rfl, Mod.refl _ _⟩
  · go_enter Tryd.func21, Tryd.ntmps21
    go_wp2_with fail
    go_loopw [1, 5] (fun l i wr => ∃ (k : Nat) (q : Int), k ≤ xs.length ∧ i = .int .i64 k ∧ l = .int .i64 q ∧ 0 ≤ q ∧ q ≤ 1048576 ∧ Hid (q = left - xs.length - (((xs.take k).map szShape).sum : Nat)) ∧ Mod [] w wr) (fun _ i _ => xs.length - (intOf i).toNat)
    case atStart => exact ⟨0, _, Nat.zero_le _, rfl, rfl, by omega, by omega, (show _ = _ by simp), Mod.refl _ _⟩
    case round =>
      obtain ⟨k, q, hk, rfl, rfl, q0, q1, Q, hB⟩ := hrel
      by_cases hlt : k < xs.length
      · have hx' : SliceHas rShape wr F [.slice A xs.length c] xs := Rep.slice rShape |>.mod0 hx hB
        have Hs := Lib.hid (sum_take_succ szShape xs k hlt)
        obtain ⟨ad, Fk, ck, rfl, _, _, _, hca, hxk⟩ := hx'.get hlt
        have hxk2 := hxk
        obtain ⟨A1, c1, F1, rfl, _, _, _, _⟩ := rShape_open hxk
        have a0 : wr.cell? (ad.add (k * 3)) = some (.string xs[k].1) := hca.zero
        have a1 : wr.cell? ⟨(ad.add (k * 3)).block, (ad.add (k * 3)).off + 1, none⟩ = some (.slice A1 xs[k].2.1.length c1) := hca.nth 0 rfl
        have a2 : wr.cell? ⟨(ad.add (k * 3)).block, (ad.add (k * 3)).off + 2, none⟩ = some (.int .i64 xs[k].2.2) := hca.nth 1 rfl
        clear hca
        go_wp2_with fail
        refine (szShape_any _ _ _ _ _ hxk2 q0 q1).mono ?_
        rintro e w1 ⟨r, rfl, hr, hm⟩
        rcases hr with rfl | ⟨p, qq⟩
        case inl =>
          go_wp2_with fail
          go_ret
          exact ⟨-1, rfl, .inl rfl, hB.seq hm⟩
        have r1 : r ≤ 1048576 := by omega
        have QQ := Lib.hid qq
        clear qq
        go_wp2_with fail
        go_roundw
        case rel => exact ⟨k + 1, _, hlt, by go_num, rfl, p, r1, (show _ = _ by have := Q.out; have := Hs.out; have := QQ.out; omega), hB.seq hm⟩
        case measure => simp [intOf]; omega
      · have hk2 : xs.take k = xs := List.take_of_length_le (by omega)
        have Hk := Lib.hid hk2
        clear hk2
        go_wp2_with fail
        go_ret
        exact ⟨_, rfl, .inr ⟨q0, by have := Q.out; rw [Hk.out] at this; simp only [szL]; omega⟩, hB⟩




end Go.Proofs.YteafnieapifnnaaDoor
end

section
namespace Go.Proofs.YteafnieapifnnaaDoor
open Go.RowKit
attribute [local go_sem] ext_cell

theorem ctL_le {α : Type} {c s : α → Nat} (h : ∀ x, c x ≤ 11 * (s x + 1)) (xs : List α) : ctL c xs ≤ 11 * szL s xs := by
  unfold ctL szL
  induction xs with
  | nil => simp
  | cons x xs ih =>
    have := h x
    simp only [List.map_cons, List.sum_cons, List.length_cons] at *
    omega
theorem ctIntS_le (xs : (List Int)) : (ctL ct1) xs ≤ 11 * (szL szZ) xs := ctL_le (fun x => by simp only [ct1]; omega) xs
theorem ctBoolS_le (xs : (List Bool)) : (ctL ct1) xs ≤ 11 * (szL szZ) xs := ctL_le (fun x => by simp only [ct1]; omega) xs
theorem ctIntSS_le (xs : (List (List Int))) : (ctL (ctL ct1)) xs ≤ 11 * (szL (szL szZ)) xs := ctL_le (fun x => by have h := ctIntS_le x; omega) xs
theorem ctPair_le (x : PairD) : ctPair x ≤ 11 * (szPair x + 1) := by simp only [ctPair, ct1]; omega
theorem ctPairS_le (xs : (List PairD)) : (ctL ctPair) xs ≤ 11 * (szL szPair) xs := ctL_le (fun x => by have h := ctPair_le x; omega) xs
theorem ctAccess_le (x : AccessD) : ctAccess x ≤ 11 * (szAccess x + 1) := by simp only [ctAccess, ct1]; omega
theorem ctAccessS_le (xs : (List AccessD)) : (ctL ctAccess) xs ≤ 11 * (szL szAccess) xs := ctL_le (fun x => by have h := ctAccess_le x; omega) xs
theorem ctBlock_le (x : BlockD) : ctBlock x ≤ 11 * (szBlock x + 1) := by simp only [ctBlock, ct1]; omega
theorem ctBlockS_le (xs : (List BlockD)) : (ctL ctBlock) xs ≤ 11 * (szL szBlock) xs := ctL_le (fun x => by have h := ctBlock_le x; omega) xs
theorem ctUse_le (x : UseD) : ctUse x ≤ 11 * (szUse x + 1) := by simp only [ctUse, ct1]; omega
theorem ctUseS_le (xs : (List UseD)) : (ctL ctUse) xs ≤ 11 * (szL szUse) xs := ctL_le (fun x => by have h := ctUse_le x; omega) xs
theorem ctBlockSS_le (xs : (List (List BlockD))) : (ctL (ctL ctBlock)) xs ≤ 11 * (szL (szL szBlock)) xs := ctL_le (fun x => by have h := ctBlockS_le x; omega) xs
theorem ctSealed_le (x : SealedD) : ctSealed x ≤ 11 * (szSealed x + 1) := by have h0 := ctIntS_le x.2.1; simp only [ctSealed, szSealed, ct1]; omega
theorem ctvSealed_le (x : SealedD) : ctvSealed x ≤ 11 * (szSealed x + 1) := by have h0 := ctIntS_le x.2.1; simp only [ctvSealed, szSealed]; omega
theorem ctSealedS_le (xs : (List SealedD)) : (ctL ctSealed) xs ≤ 11 * (szL szSealed) xs := ctL_le (fun x => by have h := ctSealed_le x; omega) xs
theorem ctMemory_le (x : MemoryD) : ctMemory x ≤ 11 * (szMemory x + 1) := by have h0 := ctBlockSS_le x.1; have h1 := ctBlockS_le x.2; simp only [ctMemory, szMemory, ct1]; omega
theorem ctvMemory_le (x : MemoryD) : ctvMemory x ≤ 11 * (szMemory x + 1) := by have h0 := ctBlockSS_le x.1; have h1 := ctBlockS_le x.2; simp only [ctvMemory, szMemory]; omega

end Go.Proofs.YteafnieapifnnaaDoor
end
