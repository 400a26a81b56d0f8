/- NumbersFresh: contracts of the reference's and the program's function. -/
import Derived.Test.YtnlhiamjndifoaaDoorSatT
import Derived.Test.YtnlhiamjndifoaaDoorTys
import Derived.Test.YtnlhiamjndifoaaDoorFind
import Derived.Test.YtnlhiamjndifoaaDoorShapes
import Derived.Test.YtnlhiamjndifoaaDoorOTd
section
namespace Go.Proofs.YtnlhiamjndifoaaDoor
open Go.RowKit

def nums (xs : List SealedD) : List Int := xs.map (·.1)
def freshI (a b : List SealedD) : Bool := decide (nums (a ++ b)).Nodup
section
variable {l m : List Int} {x : Int} {k j : Nat}
theorem nodup_snoc (h : l.Nodup) (hc : l.contains x = false) : (l ++ [x]).Nodup := by
  rw [List.nodup_append]
  refine ⟨h, by simp, fun a ha b hb => ?_⟩
  simp only [List.mem_singleton] at hb
  subst hb
  rintro rfl
  simp [ha] at hc
theorem take_snoc (hk : l[k]? = some x) : l.take (k + 1) = l.take k ++ [x] := by
  obtain ⟨h, rfl⟩ := List.getElem?_eq_some_iff.1 hk
  rw [List.take_succ_eq_append_getElem h]
theorem not_nodup (hx : l[k]? = some x) (hc : (l.take k).contains x = true) : ¬ l.Nodup := by
  intro h
  have h2 : (l.take (k + 1)).Nodup := h.sublist (List.take_sublist _ _)
  rw [take_snoc hx, List.nodup_append] at h2
  exact h2.2.2 x (by simpa using hc) x (by simp) rfl
theorem not_nodup2 (hx : l[k]? = some x) (hj : l[j]? = some x) (hlt : j < k) : ¬ l.Nodup := by
  refine not_nodup hx ?_
  have : (l.take k)[j]? = some x := by rw [List.getElem?_take_of_lt hlt]; exact hj
  simpa using List.mem_of_getElem? this
theorem nodup_off (hx : m[k]? = some x) (hc : (l ++ m.take k).contains x = true) : ¬ (l ++ m).Nodup := by
  refine not_nodup (k := l.length + k) (x := x) ?_ ?_
  · rw [List.getElem?_append_right (by omega)]; simpa using hx
  · rw [List.take_append]; simpa [List.take_of_length_le] using hc
end
def Rep.blur {α : Type} : Rep α where
  size := 1
  has _ F cs _ := F = [] ∧ ∃ u : Value, cs = [u] ∧ u.oneCell' = true
  len h := by obtain ⟨_, u, rfl, _⟩ := h; rfl
  keep h _ := h
  lt h := by rw [h.1]; simp
  one h := by obtain ⟨_, u, rfl, hu⟩ := h; simpa using hu
instance {α : Type} (e : Rep α) : Flat e.slice Rep.blur := ⟨fun {w F cs x} h _ => by
  have hl := e.slice.len h
  match cs, hl, e.slice.one h with
  | [u], _, ho => exact ⟨rfl, u, rfl, ho u (by simp)⟩⟩
def nSealed : Rep SealedD := Rep.pair Rep.int (Rep.pair Rep.blur Rep.int)
instance : Flat rSealed nSealed := inferInstanceAs (Flat (Rep.pair Rep.int (Rep.pair (Rep.int.slice) (Rep.int))) (Rep.pair Rep.int (Rep.pair Rep.blur Rep.int)))
theorem Sat.elNum {w0 w : World} {Γ : List Fact} {k i : Nat} {xs : List SealedD} (A : Option Addr) (n c : Nat) (h : Sat w0 w Γ) [hi : RoIn Γ nSealed.slice [.slice A n c] xs i] {x : SealedD} (hx : xs[k]? = some x) :
    ∃ ad u v, A = some ad ∧ I64 x.1 ∧ Sat w0 w (.at (ad.add (k * 3)) [.int .i64 x.1, u, v] :: Γ) := by
  obtain ⟨ad, ck, rfl, hl, h⟩ := h.el nSealed A n c hx
  obtain ⟨F, hF⟩ := (h.pull 1 rfl).readRo
  obtain ⟨F1, F2, c1, c2, _, rfl, ⟨_, rfl, hI⟩, F3, F4, c3, c4, _, rfl, ⟨_, u, rfl, _⟩, _, rfl, _⟩ := hF
  exact ⟨ad, u, _, rfl, hI, (h.pull 1 rfl).drop⟩
def BoxB (a b : List SealedD) (A1 A2 : Option Addr) (c1 c2 bx : Nat) : Fact := .box bx [.slice A1 a.length c1, .slice A2 b.length c2]























































































































































end Go.Proofs.YtnlhiamjndifoaaDoor
end

section
namespace Go.Proofs.YtnlhiamjndifoaaDoor
open Go.RowKit

section
variable {key first : Int} {ns : List ByteArray} {rows : List (List Int)} {real : List Bool} {k : Nat}
theorem padded_row (hp : paddedOk (ns, rows, real) = true) (hk : k < rows.length) : rowOk (rows.getD k []) = true := by
  unfold paddedOk at hp
  simp only [Bool.and_eq_true] at hp
  have h3 := hp.2.2.2
  rw [padRows_fit] at h3
  simp only [Bool.and_eq_true, List.all_eq_true] at h3
  have h4 := h3.1 rows[k] (List.getElem_mem hk)
  have hn := hp.1
  unfold namesOk at hn
  simp only [Bool.and_eq_true] at hn
  have h5 := hn.2.2
  unfold fitRow at h4
  simp only [Bool.and_eq_true, decide_eq_true_eq] at h4
  have e : rows.getD k [] = rows[k] := by rw [List.getD_eq_getElem?_getD, List.getElem?_eq_getElem hk]; rfl
  unfold rowOk
  rw [e, h4.1, h5, h4.2]
  rfl
theorem seal_at_ok (hp : paddedOk (ns, rows, real) = true) (hk : inB key 0 1000000 = true) (hf : inB first 0 (lastAt rows.length) = true) (h : k < rows.length) : sealOk key (first + (k : Int)) (rows.getD k []) = true := by
  obtain ⟨f0, f1⟩ := inB_of hf
  unfold lastAt at f1
  unfold sealOk
  rw [hk, padded_row hp h, inB_t (by omega) (by omega)]
  rfl
theorem seal_at_open (hp : paddedOk (ns, rows, real) = true) (hk : inB key 0 1000000 = true) (hf : inB first 0 (lastAt rows.length) = true) (h : k < rows.length) : openI key (sealAt key first rows real k) = (rows.getD k [], real.getD k true, true) ∧ (sealAt key first rows real k).1 = first + (k : Int) := by
  have h1 := seal_at_ok hp hk hf h
  unfold sealAt
  rw [sealRowF_ok h1]
  exact ⟨open_seal h1, rfl⟩
theorem sealTableF_parts {p : PaddedD} (h : sealTableF key first p ≠ []) : paddedOk p = true ∧ inB key 0 1000000 = true ∧ inB first 0 (lastAt p.2.1.length) = true ∧ sealTableF key first p = (List.range p.2.1.length).map (sealAt key first p.2.1 p.2.2) := by
  unfold sealTableF at h ⊢
  split at h
  · rename_i hc
    rw [if_pos hc]
    simp only [Bool.and_eq_true] at hc
    exact ⟨hc.1, hc.2.1, hc.2.2, rfl⟩
  · exact absurd rfl h
theorem map_getD {α : Type} (l : List α) (d : α) : (List.range l.length).map (fun k => l.getD k d) = l := by
  apply List.ext_getElem
  · simp
  · intro k h1 h2; simp [List.getD_eq_getElem?_getD, List.getElem?_eq_getElem h2]
theorem open_range (hp : paddedOk (ns, rows, real) = true) (hk : inB key 0 1000000 = true) (hf : inB first 0 (lastAt rows.length) = true) : openTableF key ns ((List.range rows.length).map (sealAt key first rows real)) = ((ns, rows, real), true) := by
  obtain ⟨hl, hrl⟩ := paddedOk_parts hp
  have e1 : openRows key ((List.range rows.length).map (sealAt key first rows real)) = rows := by
    unfold openRows
    rw [List.map_map]
    conv => rhs; rw [← map_getD rows []]
    exact List.map_congr_left (fun k hk2 => by show (openI key (sealAt key first rows real k)).1 = _; rw [(seal_at_open hp hk hf (List.mem_range.1 hk2)).1])
  have e2 : openReal key ((List.range rows.length).map (sealAt key first rows real)) = real := by
    unfold openReal
    rw [List.map_map]
    conv => rhs; rw [← map_getD real true, hrl]
    exact List.map_congr_left (fun k hk2 => by show (openI key (sealAt key first rows real k)).2.1 = _; rw [(seal_at_open hp hk hf (List.mem_range.1 hk2)).1])
  have e3 : ((List.range rows.length).map (sealAt key first rows real)).all (openOne key) = true := by
    rw [List.all_eq_true]
    intro s hs
    obtain ⟨k, hk2, rfl⟩ := List.mem_map.1 hs
    unfold openOne
    rw [(seal_at_open hp hk hf (List.mem_range.1 hk2)).1]
  have hn : namesOk ns = true := by
    have h := hp
    unfold paddedOk at h
    simp only [Bool.and_eq_true] at h
    exact h.1
  have h := openTableF_t (key := key) hn (l := (List.range rows.length).map (sealAt key first rows real)) (by simpa using hl) e3 (by rw [e1, e2]; exact hp)
  rw [h, e1, e2]
theorem open_sealTable (h : sealTableF key first (ns, rows, real) ≠ []) : openTableF key ns (sealTableF key first (ns, rows, real)) = ((ns, rows, real), true) := by
  obtain ⟨h1, h2, h3, h4⟩ := sealTableF_parts h
  rw [h4]
  exact open_range h1 h2 h3
theorem sealTable_full {p : PaddedD} (h : sealTableF key first p ≠ []) : (sealTableF key first p).length = p.2.1.length := by
  obtain ⟨h1, h2, h3, h4⟩ := sealTableF_parts h
  rw [h4]
  simp
theorem sealTable_nums (p : PaddedD) : ∃ n, nums (sealTableF key first p) = (List.range n).map (fun (k : Nat) => first + (k : Int)) := by
  by_cases h : sealTableF key first p = []
  · exact ⟨0, by rw [h]; rfl⟩
  · obtain ⟨h1, h2, h3, h4⟩ := sealTableF_parts h
    obtain ⟨ns, rows, real⟩ := p
    refine ⟨rows.length, ?_⟩
    rw [h4]
    unfold nums
    rw [List.map_map]
    exact List.map_congr_left (fun k hk2 => (seal_at_open h1 h2 h3 (List.mem_range.1 hk2)).2)
theorem nodup_shift (n : Nat) : ((List.range n).map (fun (k : Nat) => first + (k : Int))).Nodup := by
  unfold List.Nodup
  rw [List.pairwise_map]
  exact List.Pairwise.imp (fun {a b} (h : a ≠ b) => by omega) (List.nodup_range (n := n))
theorem fresh_sealTable (p : PaddedD) : freshI (sealTableF key first p) [] = true := by
  obtain ⟨n, hn⟩ := sealTable_nums (key := key) (first := first) p
  unfold freshI
  rw [List.append_nil, hn]
  exact decide_eq_true (nodup_shift n)
theorem nums_append (a b : List SealedD) : nums (a ++ b) = nums a ++ nums b := by unfold nums; exact List.map_append ..
theorem fresh_behind {a : List SealedD} (p : PaddedD) (h1 : freshI a [] = true) (h2 : ∀ s ∈ a, s.1 < first) : freshI a (sealTableF key first p) = true := by
  obtain ⟨n, hn⟩ := sealTable_nums (key := key) (first := first) p
  unfold freshI at h1 ⊢
  rw [List.append_nil] at h1
  have h1 := of_decide_eq_true h1
  refine decide_eq_true ?_
  rw [nums_append, hn, List.nodup_append]
  refine ⟨h1, nodup_shift n, ?_⟩
  intro x hx y hy hxy
  unfold nums at hx
  obtain ⟨s, hs, rfl⟩ := List.mem_map.1 hx
  obtain ⟨k, -, rfl⟩ := List.mem_map.1 hy
  have := h2 s hs
  omega
theorem openI_key {key : Int} {s : SealedD} (h : (openI key s).2.2 = true) : inB key 0 1000000 = true := by
  cases hk : inB key 0 1000000
  · rw [openI_bad (by unfold openOk; rw [hk]; rfl)] at h; cases h
  · rfl
/-- Rows sealed again are opened as the same table, and there are as many. -/
theorem again_open {l : List SealedD} (h : (openTableF key ns l).2 = true) (hf : inB first 0 (lastAt l.length) = true) : openTableF key ns (sealTableF key first (openTableF key ns l).1) = openTableF key ns l ∧ (sealTableF key first (openTableF key ns l).1).length = l.length := by
  obtain ⟨h1, h2, h3⟩ := openTableF_ok h
  have hrl : (openRows key l).length = l.length := openRows_len
  have hall : l.all (openOne key) = true := by
    cases ha : l.all (openOne key)
    · rw [openTableF_a ha] at h; cases h
    · rfl
  have e0 : openTableF key ns l = ((ns, openRows key l, openReal key l), true) := Prod.ext h2 h
  by_cases hl : l = []
  · subst hl
    have e : sealTableF key first (openTableF key ns []).1 = [] := by
      rw [h2]
      unfold sealTableF
      split <;> rfl
    rw [e]
    exact ⟨rfl, rfl⟩
  · have hk : inB key 0 1000000 = true := by
      obtain ⟨s, l', rfl⟩ := List.exists_cons_of_ne_nil hl
      have := List.all_eq_true.1 hall s (by simp)
      exact openI_key this
    rw [h2] at h1 ⊢
    have hf2 : inB first 0 (lastAt (openRows key l).length) = true := by rw [hrl]; exact hf
    have e : sealTableF key first (ns, openRows key l, openReal key l) = (List.range (openRows key l).length).map (sealAt key first (openRows key l) (openReal key l)) := sealTableF_t h1 hk hf2
    rw [e, open_range h1 hk hf2, e0]
    exact ⟨rfl, by simp [hrl]⟩
end
end Go.Proofs.YtnlhiamjndifoaaDoor
end
