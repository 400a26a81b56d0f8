/- Words for memory, third part: whole elements stored into a slice of one's own; new slices of zeros; results built up field by field. No function of the program occurs here. -/
import Derived.Test.YthabgnhedmepjaaDoorExt
namespace Go.Proofs.YthabgnhedmepjaaDoor
open Go.RowKit

/-- Cells stored one behind the other. -/
def putCells (w : World) (p : Addr) : Nat → List Value → World
  | _, [] => w
  | i, c :: cs => putCells (w.setCell (p.add i) c) p (i + 1) cs
theorem isSome_setCell (w : World) (a b : Addr) (v : Value) : ((w.setCell a v).cell? b).isSome = (w.cell? b).isSome := by
  by_cases h : a = b
  · subst h
    cases hh : w.cell? a with
    | some u => rw [World.cell?_setCell_same _ _ _ hh]; rfl
    | none =>
      unfold World.cell? at hh
      simp only [World.cell?, World.setCell, Array.getElem?_modify, if_true]
      cases hb : w.heap[a.block]? with
      | none => simp
      | some o => cases o <;> simp_all
  · rw [World.cell?_setCell_other _ _ _ _ h]
theorem heap_putCells (p : Addr) (g : Nat) (hg : g ≠ p.block) : ∀ (cs : List Value) (i : Nat) (w : World), (putCells w p i cs).heap[g]? = w.heap[g]?
  | [], _, _ => rfl
  | c :: cs, i, w => by
    rw [putCells, heap_putCells p g hg cs, Below.heap_setCell _ _ _ _ (by rw [add_block]; exact hg)]
theorem size_putCells (p : Addr) : ∀ (cs : List Value) (i : Nat) (w : World), (putCells w p i cs).heap.size = w.heap.size
  | [], _, _ => rfl
  | c :: cs, i, w => by rw [putCells, size_putCells p cs]; simp [World.setCell]
theorem Mod.putCells {F : List Nat} {w : World} (p : Addr) (hp : p.block ∈ F) : ∀ (cs : List Value) (i : Nat) (w' : World), Mod F w w' → Mod F w (putCells w' p i cs)
  | [], _, _, h => h
  | c :: cs, i, w', h => Mod.putCells p hp cs (i + 1) _ (h.setCell (by rw [add_block]; exact fun _ => hp) c)
theorem Good.putCells {F : List Nat} (p : Addr) : ∀ (cs : List Value) (i : Nat) (w : World), Good w F → Good (putCells w p i cs) F
  | [], _, _, h => h
  | c :: cs, i, w, h => Good.putCells p cs (i + 1) _ (h.setCell _ _)
theorem cellsAt_put {ad : Addr} (m : Nat) : ∀ (cs : List Value) (i : Nat) (w : World) (ces : List Value), CellsAt w ad ces → m + i + cs.length ≤ ces.length →
    CellsAt (putCells w (ad.add m) i cs) ad (ces.take (m + i) ++ cs ++ ces.drop (m + i + cs.length))
  | [], i, w, ces, h, _ => by simpa [putCells] using h
  | c :: cs, i, w, ces, h, hl => by
    simp only [List.length_cons] at hl
    have h1 := cellsAt_set h (i := m + i) (by omega) c
    have h2 := cellsAt_put m cs (i + 1) _ _ h1 (by rw [List.length_set]; omega)
    rw [putCells, add_add']
    have e : (ces.set (m + i) c).take (m + (i + 1)) ++ cs ++ (ces.set (m + i) c).drop (m + (i + 1) + cs.length) = ces.take (m + i) ++ (c :: cs) ++ ces.drop (m + i + (c :: cs).length) := by
      rw [List.drop_set_of_lt (by omega), ← Nat.add_assoc, List.take_succ_eq_append_getElem (by rw [List.length_set]; omega), List.getElem_set_self, List.take_set_of_le (Nat.le_refl _)]
      rw [show m + i + 1 + cs.length = m + i + (c :: cs).length by rw [List.length_cons]; omega]
      simp only [List.append_assoc, List.cons_append, List.nil_append]
    rw [← e]
    exact h2

section
variable {α : Type} {e : Rep α} {w w' : World} {F : List Nat} {xs : List α}
/-- A whole element stored into a slice of one's own. -/
theorem SliceHas.put {a : Option Addr} {n cap k : Nat} (h : SliceHas e w F [.slice a n cap] xs) (hF : Good w F) (hk : k < n) {cs' : List Value} {x' : α} {F' : List Nat} (hx' : e.has w F' cs' x') (hG : Good w F') (hd : ∀ g ∈ F', g ∉ F) :
    ∃ ad F'', a = some ad ∧ ad.block ∈ F ∧ (∀ j, j < e.size → (w.cell? ((ad.add (k * e.size)).add j)).isSome = true) ∧ (∀ o s, w.frozen? ⟨ad.block, o, s⟩ = false) ∧
      SliceHas e (putCells w (ad.add (k * e.size)) 0 cs') F'' [.slice a n cap] (xs.set k x') ∧ Good (putCells w (ad.add (k * e.size)) 0 cs') F'' ∧
      Mod F w (putCells w (ad.add (k * e.size)) 0 cs') ∧ (∀ g ∈ F'', g ∈ F ∨ g ∈ F') := by
  have hn := h.n
  obtain ⟨a', n', cap', ces, Fe, hv, h1, h2, h3, h4, h5⟩ := h
  simp only [List.cons.injEq, Value.slice.injEq, and_true] at hv
  obtain ⟨rfl, rfl, rfl⟩ := hv
  rcases h5 with ⟨rfl, _⟩ | ⟨ad, rfl, rfl, hb, hc⟩
  · omega
  have hkx : k < xs.length := by omega
  obtain ⟨Fa, Fk, Fb, ca, ck, cb, rfl, rfl, hl, ha, hh, hbb⟩ := Rep.all_get h4 (k := k) hkx
  have hcl : ck.length = e.size := e.len hh
  have hcl' : cs'.length = e.size := e.len hx'
  have hput := cellsAt_put (k * e.size) cs' 0 w _ hc (by simp only [List.length_append]; omega)
  have hE : (ca ++ ck ++ cb).take (k * e.size + 0) ++ cs' ++ (ca ++ ck ++ cb).drop (k * e.size + 0 + cs'.length) = ca ++ cs' ++ cb := by
    have e1 : (ca ++ ck ++ cb).take ca.length = ca := by rw [List.append_assoc, List.take_left]
    have e2 : (ca ++ ck ++ cb).drop (ca.length + cs'.length) = cb := by rw [hcl', ← hcl, ← List.length_append, List.drop_left]
    rw [Nat.add_zero, ← hl, e1, e2]
  rw [hE] at hput
  have hnd := List.nodup_cons.1 hF.1
  have hne : ∀ g ∈ Fa ++ Fk ++ Fb, g ≠ ad.block := by rintro g hg rfl; exact hnd.1 hg
  have hp : (ad.add (k * e.size)).block = ad.block := add_block _ _
  have hsame : ∀ g, g ≠ ad.block → (putCells w (ad.add (k * e.size)) 0 cs').heap[g]? = w.heap[g]? := fun g hg => heap_putCells _ _ (by rw [hp]; exact hg) _ _ _
  have hsame1 : ∀ g ∈ Fa ++ Fk ++ Fb, (putCells w (ad.add (k * e.size)) 0 cs').heap[g]? = w.heap[g]? := fun g hg => hsame g (hne g hg)
  have hsame2 : ∀ g ∈ F', (putCells w (ad.add (k * e.size)) 0 cs').heap[g]? = w.heap[g]? := fun g hg => hsame g (by rintro rfl; exact hd _ hg (by simp))
  have hcell : ∀ j, j < e.size → (w.cell? ((ad.add (k * e.size)).add j)).isSome = true := fun j hj => by
    rw [add_add', hc _ _ (List.getElem?_eq_getElem (show k * e.size + j < (ca ++ ck ++ cb).length by simp only [List.length_append]; omega))]; rfl
  have hxs : xs.set k x' = xs.take k ++ x' :: xs.drop (k + 1) := by rw [List.set_eq_take_append_cons_drop, if_pos hkx]
  refine ⟨ad, ad.block :: (Fa ++ F' ++ Fb), rfl, by simp, hcell, fun o s => hF.frozen (a := ⟨ad.block, o, s⟩) (by simp), ⟨_, _, cap, ca ++ cs' ++ cb, Fa ++ F' ++ Fb, rfl, by simpa using h1, h2, h3, ?_, .inr ⟨ad, rfl, rfl, by rw [size_putCells]; exact hb, hput⟩⟩, ?_, Mod.putCells _ (by rw [hp]; simp) _ _ _ (Mod.refl _ _), ?_⟩
  · rw [hxs, List.append_assoc, List.append_assoc]
    exact Rep.all_append (Rep.all_keep ha (fun g hg => hsame1 g (by simp [hg]))) ⟨F', Fb, cs', cb, rfl, rfl, e.keep hx' hsame2, Rep.all_keep hbb (fun g hg => hsame1 g (by simp [hg]))⟩
  · refine Good.putCells _ _ _ _ ⟨?_, ?_⟩
    · have hn2 := hnd.2
      rw [List.nodup_append, List.nodup_append] at hn2
      have hd' : ∀ g ∈ F', g ≠ ad.block ∧ g ∉ Fa ∧ g ∉ Fb := fun g hg => by have := hd g hg; simp at this; exact ⟨this.1, this.2.1, this.2.2.2⟩
      rw [List.nodup_cons, List.nodup_append, List.nodup_append]
      refine ⟨fun hg => ?_, ⟨hn2.1.1, hG.1, fun a ha b hb e => (hd' b hb).2.1 (e ▸ ha)⟩, hn2.2.1, fun a ha b hb e => ?_⟩
      · simp only [List.mem_append] at hg
        rcases hg with (hg | hg) | hg
        · exact hne _ (by simp [hg]) rfl
        · exact (hd' _ hg).1 rfl
        · exact hne _ (by simp [hg]) rfl
      · rcases List.mem_append.1 ha with ha | ha
        · exact hn2.2.2 a (by simp [ha]) b hb e
        · exact (hd' a ha).2.2 (e ▸ hb)
    · intro g hg
      simp only [List.mem_cons, List.mem_append] at hg
      rcases hg with rfl | (hg | hg) | hg
      · exact hF.2 _ (by simp)
      · exact hF.2 _ (by simp [hg])
      · exact hG.2 _ hg
      · exact hF.2 _ (by simp [hg])
  · intro g hg
    simp only [List.mem_cons, List.mem_append] at hg
    rcases hg with rfl | (hg | hg) | hg
    · exact .inl (by simp)
    · exact .inl (by simp [hg])
    · exact .inr hg
    · exact .inl (by simp [hg])
end

theorem stored_ok {P : Program} {w : World} {a : Addr} {v : Value} {m : Mode} (h : (w.cell? a).isSome = true) (hf : w.frozen? a = false) : stored P w a v m = .ok () (w.setCell a v) := by
  obtain ⟨u, hu⟩ := Option.isSome_iff_exists.1 h
  simp [stored, hu, hf]

/-! ### make([]T, n) -/
theorem make_eq {P : Program} (t e : TypeId) (z : Value) (size bytes : Nat) (ht : P.underlying t = some (.slice e)) (hinfo : (P.info? e).map (fun i => (i.zero, i.size, i.bytes)) = some (some z, size, bytes))
    (n : Nat) (hb : bytes * n ≤ 281474976710656) (h63 : n ≤ 9223372036854775807) : ∀ W : World, (Instr.makeSlice t (.int .i64 (n : Int)) (.int .i64 (n : Int))).run P W =
      .ok (.slice (some ⟨W.heap.size, 0, none⟩) n n) (W.alloc (.cells (madeCells z.cells (n * size)) e)) := by
  obtain ⟨i, hi, hz, rfl, rfl⟩ := info_parts hinfo
  intro W
  have hb' : (i.bytes : Int) * (n : Int) ≤ 281474976710656 := by
    have h : ((i.bytes * n : Nat) : Int) ≤ 281474976710656 := by omega
    rwa [Int.natCast_mul] at h
  have hr := run_make (P := P) W t e i z ht hi hz .i64 .i64 n n (by omega) (Int.le_refl _) hb' (by omega)
  simp only [Int.toNat_natCast] at hr
  exact hr
theorem made_succ (z : Array Value) (n : Nat) (hz : 0 < z.size) : (madeCells z ((n + 1) * z.size)).toList = (madeCells z (n * z.size)).toList ++ z.toList := by
  apply List.ext_getElem?
  intro j
  simp only [madeCells, Array.toList_map, Array.toList_range, List.getElem?_map]
  by_cases h1 : j < n * z.size
  · have h2 : j < (n + 1) * z.size := by rw [Nat.add_mul]; omega
    rw [List.getElem?_append_left (by simpa using h1), List.getElem?_map, List.getElem?_range h1, List.getElem?_range h2]
  · rw [List.getElem?_append_right (by simpa using h1)]
    simp only [List.length_map, List.length_range]
    by_cases h2 : j < (n + 1) * z.size
    · rw [List.getElem?_range h2]
      have h3 : j - n * z.size < z.size := by rw [Nat.add_mul] at h2; omega
      have h4 : j % z.size = j - n * z.size := by
        have e : j = (j - n * z.size) + n * z.size := by omega
        rw [e, Nat.add_mul_mod_self_right, Nat.mod_eq_of_lt h3]
        omega
      simp [h4, h3]
    · have h3 : z.size ≤ j - n * z.size := by rw [Nat.add_mul] at h2; omega
      rw [List.getElem?_eq_none (by simpa using h2), List.getElem?_eq_none (by simpa using h3)]
      rfl
theorem all_made {α : Type} {e : Rep α} {z : Array Value} {zx : α} (hs : z.size = e.size) (h0 : 0 < e.size) (w : World) (hz : e.has w [] z.toList zx) : ∀ n : Nat, e.all w [] (madeCells z (n * e.size)).toList (List.replicate n zx)
  | 0 => by simp [madeCells, Rep.all]
  | n + 1 => by
    rw [← hs, made_succ z n (by omega), List.replicate_succ', hs]
    exact Rep.all_append (F := []) (G := []) (all_made hs h0 w hz n) (Rep.all_one' hz)

theorem Mod.seq' {F : List Nat} {w w' w'' : World} (h : Mod F w w') (k : Mod [] w' w'') : Mod F w w'' := (h.trans k).mono (fun g hg _ => by simpa using hg)
theorem Mod.seqL {G : List Nat} {w w' w'' : World} (h : Mod [] w w') (k : Mod G w' w'') : Mod G w w'' := (h.trans k).mono (fun g hg _ => by simpa using hg)
theorem Mod.seqD {G : List Nat} {w w' w'' : World} (h : Mod [] w w') (k : Mod G w' w'') (hd : ∀ g ∈ G, w.heap.size ≤ g) : Mod [] w w'' := (Mod.seqL h k).drop hd
theorem i64_zero : I64 0 := ⟨by decide, by decide⟩
/-- A result whose last cells were stored into blocks of the call's own. -/
theorem Fresh.shut {α : Type} {e : Rep α} {w w1 w' : World} {G B : List Nat} {cs : List Value} {x : α} {n : Nat} (h : e.has w1 G cs x) (hg : Good w1 G) (hl : ∀ g ∈ G, n ≤ g) (hn : w.heap.size ≤ n)
    (hB : ∀ b ∈ B, w.heap.size ≤ b ∧ b < n) (hm : Mod B w1 w') (hw : Mod B w w') : Fresh e w w' cs x :=
  ⟨G, e.mod h hm (fun g hg hb => by have := hl g hg; have := (hB g hb).2; omega), hg.mod hm (fun g hg hb => by have := hl g hg; have := (hB g hb).2; omega), fun g hg => Nat.le_trans hn (hl g hg), hw.drop (fun b hb => (hB b hb).1)⟩
end Go.Proofs.YthabgnhedmepjaaDoor
