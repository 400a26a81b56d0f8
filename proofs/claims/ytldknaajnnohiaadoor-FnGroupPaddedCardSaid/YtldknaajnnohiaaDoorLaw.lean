/- Sizes, marks, and stores of single fields: plain words for the laws' sz.., mark.., held... No function of the program occurs here. -/
import Derived.Test.YtldknaajnnohiaaDoorMem
import Derived.ProofKit
import Derived.OpenVars
import Derived.Deep.Slices
import Derived.ChangeArms
section
namespace Go.Proofs.YtldknaajnnohiaaDoor
open Go.RowKit

/-! ### Sizes -/
def szZ {α : Type} (_ : α) : Nat := 0
def szStr (s : ByteArray) : Nat := s.size
def szL {α : Type} (s : α → Nat) (xs : List α) : Nat := xs.length + (xs.map s).sum
/-- What is left of a size, or -1. -/
def SzR (left : Int) (n : Nat) (r : Int) : Prop := r = -1 ∨ (0 ≤ r ∧ r = left - n)

/-! ### Marks -/
def ct1 {α : Type} (_ : α) : Nat := 1
def ctL {α : Type} (c : α → Nat) (xs : List α) : Nat := (xs.map c).sum
def mkI (k : Int) (_ : Int) : Int := k
def mkB (k : Int) (_ : Bool) : Bool := k % 3 == 0
def mkL {α : Type} (m : Int → α → α) (c : α → Nat) : Int → List α → List α
  | _, [] => []
  | k, x :: xs => m k x :: mkL m c (k + (c x : Int)) xs
section
variable {α : Type} (m : Int → α → α) (c : α → Nat)
end
theorem I64.mk {n : Int} (h0 : -4611686018427387904 ≤ n) (h1 : n ≤ 4611686018427387904) : I64 n := by unfold I64; omega

section
variable {α : Type} {e : Rep α} {w w' : World} {F G : List Nat} {xs : List α}
theorem Good.part (h : Good w F) (hm : Mod G w w') (hg : Good w' G) : Good w' F :=
  ⟨h.1, fun g hgF => by
    by_cases hG : g ∈ G
    · exact hg.2 g hG
    · rw [hm.block g (h.lt g hgF) hG]; exact h.2 g hgF⟩
end
end Go.Proofs.YtldknaajnnohiaaDoor
end

section
namespace Go.Proofs.YtldknaajnnohiaaDoor
open Go.ChangeShapes Go.WideShapes Go.ChangeAt Go.RowKit

section
variable {H : Type} {enc : TypeId × Value → H} {P : Program} {W W' : World} {sp : Nat → Bool}

theorem stays_all (hl : laidOutB P = true) (hb : Below W.heap.size W W') : ∀ {ts : List TypeId} {vs : List Value} {ds : List (DataW H)} {ps : List MemPlace},
    (∀ t ∈ ts, P.readableRec t = true ∧ t < P.types.size) → DataW.TrodAll enc P W 0 (fun _ => true) true ts vs ds ps → (∀ p ∈ ps, p.block < W.heap.size) → (∀ p ∈ ps, sp p.block = true) →
    DataW.TrodAll enc P W' 0 sp true ts vs ds ps
  | [], [], [], _, _, h, _, _ => h
  | [], [], _ :: _, _, _, h, _, _ => h.elim
  | [], _ :: _, _, _, _, h, _, _ => h.elim
  | _ :: _, [], _, _, _, h, _, _ => h.elim
  | _ :: _, _ :: _, [], _, _, h, _, _ => h.elim
  | t :: ts, v :: vs, d :: ds, ps, hr, h, hlt, hs => by
    obtain ⟨p, q, h1, h2, rfl⟩ := h
    have hp : ∀ x ∈ p, x.block < W.heap.size := fun x hx => hlt x (by simp [hx])
    exact ⟨p, q, WideElems.Trod_stays hl (hr t (by simp)).1 (hr t (by simp)).2 h1 (fun x hx => hb.same (hp x hx)) (fun x hx => hs x (by simp [hx])),
      stays_all hl hb (fun t ht => hr t (by simp [ht])) h2 (fun x hx => hlt x (by simp [hx])) (fun x hx => hs x (by simp [hx])), rfl⟩

theorem stays_vars (hl : laidOutB P = true) (hb : Below W.heap.size W W') : ∀ {ns : List String} {ds : List (DataW H)} {ps : List MemPlace},
    varsRowed P ns = true → DataW.TrodVars enc P W (fun _ => true) ns ds ps → (∀ p ∈ ps, p.block < W.heap.size) → (∀ p ∈ ps, sp p.block = true) → DataW.TrodVars enc P W' sp ns ds ps
  | [], [], _, _, h, _, _ => h
  | [], _ :: _, _, _, h, _, _ => h.elim
  | _ :: _, [], _, _, h, _, _ => h.elim
  | n :: ns, d :: ds, ps, hv, h, hlt, hs => by
    obtain ⟨g, t, cs, fuel, p, q, h1, h2, h3, h4, h5, rfl⟩ := h
    simp only [varsRowed, List.all_cons, Bool.and_eq_true] at hv
    have ht : P.readableRec t = true ∧ t < P.types.size := by
      have := hv.1
      rw [h1] at this
      cases hg : P.globals[g]? with
      | none => rw [hg] at h2; cases h2
      | some gl =>
        rw [hg] at h2
        obtain rfl : gl.type = t := Option.some.inj h2
        simpa [hg] using this
    have hp : ∀ x ∈ p, x.block < W.heap.size := fun x hx => hlt x (by simp [hx])
    have h3' : W'.var? P n = some cs := by
      unfold World.var? at h3 ⊢
      rw [h1] at h3 ⊢
      simp only [Option.bind_some] at h3 ⊢
      have hg : g < W.heap.size := by
        cases hh : W.heap[g]? with
        | none => rw [hh] at h3; cases h3
        | some o => exact (Array.getElem?_eq_some_iff.1 hh).1
      rw [hb.block g hg]; exact h3
    exact ⟨g, t, cs, fuel, p, q, h1, h2, h3', DataW.trod_stays (kids_book hl ht.1) (book_sized ht.1) (fun h => by cases h) ⟨ht.2, book_self t⟩ h4 (fun x hx => hb.same (hp x hx)) (fun x hx => hs x (by simp [hx])),
      stays_vars hl hb (by simpa [varsRowed] using hv.2) h5 (fun x hx => hlt x (by simp [hx])) (fun x hx => hs x (by simp [hx])), rfl⟩

/-- The row's step: a law that returned true and left alone what was there. -/
theorem post_law {f : Func} {s : ChangeSpec} {args : Array Value} {ds gs : List (DataW H)} {before : List MemPlace} {tb : TypeId}
    (hl : laidOutB P = true) (hr0 : (f.params.toList.all fun t => P.readableRec t && decide (t < P.types.size)) = true) (hv : varsRowed P s.vars = true)
    (hs : s.fn H (ds ++ gs) = { results := [.lit (.bool true)], args := ds, vars := gs }) (hres : f.resultTypes = #[tb]) (hb : P.underlying tb = some .bool)
    (hW : DataW.Whole enc P f.params.toList s.vars false W args.toList ds gs before) (hm : Mod [] W W') :
    s.post enc P f false true false false W args (.bool true) W' := by
  have hr : ∀ t ∈ f.params.toList, P.readableRec t = true ∧ t < P.types.size := fun t ht => by simpa using List.all_eq_true.1 hr0 t ht
  have hlt : ∀ p ∈ before, p.block < W.heap.size := fun p hp => hW.lt p hp
  obtain ⟨p, q, hA, hV, rfl, hz, _⟩ := id hW
  have hbe := hm.below
  have hold : ∀ x ∈ p ++ q, (fun b => decide (b < W.heap.size)) x.block = true := fun x hx => by simpa using hlt x hx
  have hargs : ∀ sp : Nat → Bool, (∀ x ∈ p ++ q, sp x.block = true) → DataW.TrodAll enc P W' 0 sp true f.params.toList args.toList (s.fn H (ds ++ gs)).args p := fun sp hsp => by
    rw [hs]; exact stays_all hl hbe hr hA (fun x hx => hlt x (by simp [hx])) (fun x hx => hsp x (by simp [hx]))
  have hvars : ∀ sp : Nat → Bool, (∀ x ∈ p ++ q, sp x.block = true) → DataW.TrodVars enc P W' sp s.vars (s.fn H (ds ++ gs)).vars q := fun sp hsp => by
    rw [hs]; exact stays_vars hl hbe hv hV (fun x hx => hlt x (by simp [hx])) (fun x hx => hsp x (by simp [hx]))
  have hresl : (Value.bool true).resultList f.resultTypes.size = [.bool true] := by rw [hres]; rfl
  have hre : ∀ (b : Nat) (sp : Nat → Bool) (hd : Bool), DataW.TrodAll enc P W' b sp hd f.resultTypes.toList ((Value.bool true).resultList f.resultTypes.size) (s.fn H (ds ++ gs)).results [] := fun b sp hd => by
    rw [hresl, hres, hs]; exact trodAll_mk1 (shut_bool hb true)
  refine ⟨ds, gs, p ++ q, [], p, q, hW, hre _ _ _, hargs _ hold, hvars _ hold, World.keptBut_mono (fun x hx => ⟨hx, .inr (by simpa using hx)⟩) (hbe.frame (· ∈ p ++ q)), fun h => by cases h⟩
end
end Go.Proofs.YtldknaajnnohiaaDoor
end

section
namespace Go.Proofs.YtldknaajnnohiaaDoor
open Go.ChangeShapes Go.WideShapes Go.ChangeAt Go.RowKit Go.Deep

/-- Whatever reads as data of type t is a datum of e. -/
def ReadsAs {α : Type} (e : Rep α) (P : Program) (t : TypeId) : Prop :=
  P.cellsOf t = e.size ∧ 0 < e.size ∧ ∀ {H : Type} (enc : TypeId × Value → H) (w : World) (base : Nat) (sp : Nat → Bool) (held : Bool) (fuel : Nat) (cs : List Value) (x : DataW H × List MemPlace),
    DataW.trod enc P w base sp held fuel t cs = some x → ∃ F y, e.has w F cs y

theorem reads_u8 {P : Program} {t : TypeId} (ht : P.underlying t = some (.int .u8)) (hc : P.cellsOf t = 1) : ReadsAs Rep.u8 P t :=
  ⟨hc, by decide, fun enc w base sp held fuel cs x h => by
    obtain ⟨n, rfl, _, hw⟩ := DataW.trod_int ht h
    have hb : 0 ≤ n ∧ n ≤ 255 := by simpa [Lit.wf, IntKind.min, IntKind.max, IntKind.signed, IntKind.bits] using hw
    refine ⟨[], UInt8.ofNat n.toNat, rfl, ?_⟩
    have : ((UInt8.ofNat n.toNat).toNat : Int) = n := by
      rw [UInt8.toNat_ofNat']
      omega
    rw [this]⟩

theorem all_of_get {α : Type} {e : Rep α} {w : World} {ad : Addr} : ∀ {n : Nat}, (∀ i, i < n → ∃ cs F y, CellsAt w (ad.add (i * e.size)) cs ∧ e.has w F cs y) →
    ∃ ces F ys, List.length ys = n ∧ e.all w F ces ys ∧ CellsAt w ad ces
  | 0, _ => ⟨[], [], [], rfl, ⟨rfl, rfl⟩, fun j u hu => by simp at hu⟩
  | n + 1, h => by
    obtain ⟨ces, F, ys, hl, ha, hc⟩ := all_of_get (n := n) (fun i hi => h i (by omega))
    obtain ⟨cs, G, y, hcs, hy⟩ := h n (by omega)
    refine ⟨ces ++ cs, F ++ G, ys ++ [y], by simp [hl], Rep.all_append ha (Rep.all_one' hy), fun j u hu => ?_⟩
    have hcl : ces.length = n * e.size := by rw [Rep.all_len ha, hl]
    by_cases hj : j < ces.length
    · rw [List.getElem?_append_left hj] at hu
      exact hc j u hu
    · rw [List.getElem?_append_right (by omega)] at hu
      have := hcs _ u hu
      rw [add_add'] at this
      rwa [show n * e.size + (j - ces.length) = j by omega] at this
theorem reads_slice {α : Type} {e : Rep α} {P : Program} {t te : TypeId} (ht : P.underlying t = some (.slice te)) (hc : P.cellsOf t = 1) (he : ReadsAs e P te) : ReadsAs e.slice P t :=
  ⟨hc, Nat.one_pos, fun enc w base sp held fuel cs x h => by
    rcases open_slice ht h with ⟨rfl, _⟩ | ⟨a, len, cap, m, n, D, Pl, rfl, _, hl, hm, hmm, _, hi⟩
    · exact ⟨[], [], SliceHas.nil w⟩
    · have hlm : len ≤ m := by rw [hmm]; split <;> omega
      obtain ⟨ces, F, ys, hyl, hall, hcells⟩ := all_of_get (e := e) (w := w) (ad := a) (n := len) (fun i hil => by
        obtain ⟨cs', hcs, htr⟩ := hi i (by omega)
        obtain ⟨G, y, hy⟩ := he.2.2 enc w base sp held n cs' _ htr
        obtain ⟨_, hcl, hat⟩ := World.cells?_some hcs
        rw [he.1] at hat hcl
        refine ⟨cs', G, y, fun j u hu => ?_, hy⟩
        have hj : j < e.size := by rw [← hcl]; exact (List.getElem?_eq_some_iff.1 hu).1
        rw [hat j hj]; exact hu)
      rcases Nat.eq_zero_or_pos len with rfl | hpos
      · exact ⟨[], ys, ⟨_, 0, cap, ces, F, rfl, hyl, hl, hm, hall, .inl ⟨rfl, rfl⟩⟩⟩
      · refine ⟨a.block :: F, ys, ⟨_, len, cap, ces, F, rfl, hyl, hl, hm, hall, .inr ⟨a, rfl, rfl, ?_, hcells⟩⟩⟩
        have hcl : ces.length = len * e.size := by rw [Rep.all_len hall, hyl]
        have hp : 0 < ces.length := by rw [hcl]; exact Nat.mul_pos hpos he.2.1
        have := hcells 0 _ (List.getElem?_eq_getElem hp)
        have hb := World.block_lt_of_cell? _ _ this
        rwa [add_block] at hb⟩
section
variable {α β : Type} {w : World} {cs : List Value}
end

section
variable {H : Type} {enc : TypeId × Value → H} {P : Program} {w : World}
theorem read_slice {α : Type} {e : Rep α} {t te b0 : Nat} {v : Value} {d : DataW H} {ps : List MemPlace} (ht : P.underlying t = some (.slice te)) (hr : ReadsAs e.slice P t) (hv : Value.okWide P w .any b0 t v)
    (h : DataW.Trod enc P w 0 (fun _ => true) true t v d ps) : ∃ F xs, SliceHas e w F [v] xs := by
  obtain ⟨a, len, cap, rfl⟩ := okWide_slice ht hv
  obtain ⟨fuel, hf⟩ := h
  exact hr.2.2 enc w _ _ _ _ _ _ hf
end
end Go.Proofs.YtldknaajnnohiaaDoor
end
