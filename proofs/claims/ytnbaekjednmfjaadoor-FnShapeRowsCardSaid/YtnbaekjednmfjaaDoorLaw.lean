/- Sizes, marks, and stores of single fields: plain words for the laws' sz.., mark.., held... No function of the program occurs here. -/
import Derived.Test.YtnbaekjednmfjaaDoorMem
import Derived.ProofKit
import Derived.OpenVars
import Derived.Deep.Slices
import Derived.ChangeArms
section
namespace Go.Proofs.YtnbaekjednmfjaaDoor
open Go.RowKit

/-! ### Sizes -/
def szZ {α : Type} (_ : α) : Nat := 0
def szStr (s : ByteArray) : Nat := s.size
def szL {α : Type} (s : α → Nat) (xs : List α) : Nat := xs.length + (xs.map s).sum
theorem szL_len {α : Type} (s : α → Nat) (xs : List α) : xs.length ≤ szL s xs := by unfold szL; omega
theorem sum_get {α : Type} (s : α → Nat) : ∀ (xs : List α) (k : Nat) (h : k < xs.length), s xs[k] ≤ (xs.map s).sum
  | x :: xs, 0, _ => by simp
  | x :: xs, k + 1, h => by
    have := sum_get s xs k (by simpa using h)
    simp only [List.getElem_cons_succ, List.map_cons, List.sum_cons]
    omega
theorem szL_get {α : Type} (s : α → Nat) (xs : List α) (k : Nat) (h : k < xs.length) : s xs[k] ≤ szL s xs := by
  have := sum_get s xs k h
  unfold szL; omega
theorem sum_take_succ {α : Type} (s : α → Nat) (xs : List α) (k : Nat) (h : k < xs.length) : ((xs.take (k + 1)).map s).sum = ((xs.take k).map s).sum + s xs[k] := by
  rw [List.take_succ_eq_append_getElem h, List.map_append, List.sum_append]; simp
theorem sum_szZ {α : Type} (xs : List α) : (xs.map (szZ (α := α))).sum = 0 := by induction xs <;> simp_all [szZ]
/-- What is left of a size, or -1. -/
def SzR (left : Int) (n : Nat) (r : Int) : Prop := r = -1 ∨ (0 ≤ r ∧ r = left - n)

/-! ### Marks -/
def ct1 {α : Type} (_ : α) : Nat := 1
def ctL {α : Type} (c : α → Nat) (xs : List α) : Nat := (xs.map c).sum
def mkI (k : Int) (_ : Int) : Int := k
def mkB (k : Int) (_ : Bool) : Bool := k % 3 == 0
def mkL {α : Type} (m : Int → α → α) (c : α → Nat) : Int → List α → List α
  | _, [] => []
  | k, x :: xs => m k x :: mkL m c (k + (c x : Int)) xs
section
variable {α : Type} (m : Int → α → α) (c : α → Nat)
theorem mkL_len : ∀ (xs : List α) (k : Int), (mkL m c k xs).length = xs.length
  | [], _ => rfl
  | x :: xs, k => by simp [mkL, mkL_len xs]
theorem mkL_append : ∀ (xs ys : List α) (k : Int), mkL m c k (xs ++ ys) = mkL m c k xs ++ mkL m c (k + (ctL c xs : Int)) ys
  | [], ys, k => by simp [mkL, ctL]
  | x :: xs, ys, k => by
    have e : k + (c x : Int) + (ctL c xs : Int) = k + (ctL c (x :: xs) : Int) := by simp [ctL]; omega
    simp only [List.cons_append, mkL, mkL_append xs ys, e]
theorem mkL_succ (xs : List α) (k : Int) (i : Nat) (h : i < xs.length) : mkL m c k (xs.take (i + 1)) = mkL m c k (xs.take i) ++ [m (k + (ctL c (xs.take i) : Int)) xs[i]] := by
  rw [List.take_succ_eq_append_getElem h, mkL_append]; rfl
theorem ctL_succ (xs : List α) (i : Nat) (h : i < xs.length) : ctL c (xs.take (i + 1)) = ctL c (xs.take i) + c xs[i] := sum_take_succ c xs i h
theorem ctL_append (xs ys : List α) : ctL c (xs ++ ys) = ctL c xs + ctL c ys := by unfold ctL; rw [List.map_append, List.sum_append]
theorem ctL_take_le (xs : List α) (i : Nat) : ctL c (xs.take i) ≤ ctL c xs := by
  have h := ctL_append c (xs.take i) (xs.drop i)
  rw [List.take_append_drop] at h
  omega
theorem mkL_get (xs : List α) (k : Int) (i : Nat) (h : i < xs.length) : (mkL m c k xs)[i]'(by rw [mkL_len]; exact h) = m (k + (ctL c (xs.take i) : Int)) xs[i] := by
  have e : mkL m c k xs = mkL m c k (xs.take i) ++ (m (k + (ctL c (xs.take i) : Int)) xs[i] :: mkL m c (k + (ctL c (xs.take i) : Int) + (c xs[i] : Int)) (xs.drop (i + 1))) := by
    have hx : xs = xs.take i ++ (xs[i] :: xs.drop (i + 1)) := by rw [← List.drop_eq_getElem_cons h, List.take_append_drop]
    conv => lhs; rw [hx, mkL_append]
    rfl
  have hl : (mkL m c k (xs.take i)).length = i := by rw [mkL_len, List.length_take]; omega
  simp only [e]
  rw [List.getElem_append_right (by omega)]
  simp [hl]
end
theorem add_zero' (a : Addr) : a.add 0 = a := by simp [Addr.add]
theorem I64.mk {n : Int} (h0 : -4611686018427387904 ≤ n) (h1 : n ≤ 4611686018427387904) : I64 n := by unfold I64; omega

section
variable {α : Type} {e : Rep α} {w w' : World} {F G : List Nat} {xs : List α}
theorem Good.part (h : Good w F) (hm : Mod G w w') (hg : Good w' G) : Good w' F :=
  ⟨h.1, fun g hgF => by
    by_cases hG : g ∈ G
    · exact hg.2 g hG
    · rw [hm.block g (h.lt g hgF) hG]; exact h.2 g hgF⟩
/-- A store into cell j of element k, by the element's datum. -/
theorem SliceHas.store' {ad : Addr} {n cap k j : Nat} (h : SliceHas e w F [.slice (some ad) n cap] xs) (hF : Good w F) (hk : k < n) (hj : j < e.size) (u : Value) (x x' : α) (hx : xs[k]? = some x)
    (upd : ∀ (w : World) (Fk : List Nat) (ck : List Value), e.has w Fk ck x → e.has w Fk (ck.set j u) x') :
    (∃ old, w.cell? ((ad.add (k * e.size)).add j) = some old) ∧ w.frozen? ((ad.add (k * e.size)).add j) = false ∧
      SliceHas e (w.setCell ((ad.add (k * e.size)).add j) u) F [.slice (some ad) n cap] (xs.set k x') ∧ Good (w.setCell ((ad.add (k * e.size)).add j) u) F ∧ Mod F w (w.setCell ((ad.add (k * e.size)).add j) u) := by
  obtain ⟨ad', hE, _, h1, h2, h3, h4, h5⟩ := SliceHas.store h hF hk hj u x' (fun w Fk ck hh => upd w Fk ck (by
    have e0 := List.getElem?_eq_getElem (show k < xs.length by rw [h.n]; exact hk)
    rw [e0] at hx
    rw [← Option.some.inj hx]; exact hh))
  cases hE
  exact ⟨Option.isSome_iff_exists.1 h1, h2, h3, h4, h5⟩
/-- An element's own slices changed. -/
theorem SliceHas.inner {a : Option Addr} {n cap k : Nat} (h : SliceHas e w F [.slice a n cap] xs) (hF : Good w F) (hk : k < n) (x : α) (hx : xs[k]? = some x) :
    ∃ ad Fk ck, a = some ad ∧ ad.block < w.heap.size ∧ CellsAt w (ad.add (k * e.size)) ck ∧ e.has w Fk ck x ∧ Good w Fk ∧ (∀ g ∈ Fk, g ∈ F) ∧
      ∀ (w' : World) (x' : α), Mod Fk w w' → Good w' Fk → e.has w' Fk ck x' → SliceHas e w' F [.slice a n cap] (xs.set k x') ∧ Good w' F ∧ Mod F w w' := by
  have hn := h.n
  obtain ⟨a', n', cap', ces, Fe, hv, h1, h2, h3, h4, h5⟩ := h
  simp only [List.cons.injEq, Value.slice.injEq, and_true] at hv
  obtain ⟨rfl, rfl, rfl⟩ := hv
  rcases h5 with ⟨rfl, _⟩ | ⟨ad, rfl, rfl, hb, hc⟩
  · omega
  have hkx : k < xs.length := by omega
  have hxk : xs[k] = x := by rw [List.getElem?_eq_getElem hkx] at hx; exact Option.some.inj hx
  obtain ⟨Fa, Fk, Fb, ca, ck, cb, rfl, rfl, hl, ha, hh, hbb⟩ := Rep.all_get h4 (k := k) hkx
  rw [hxk] at hh
  have hnd := List.nodup_cons.1 hF.1
  have hn2 := hnd.2
  rw [List.nodup_append, List.nodup_append] at hn2
  refine ⟨ad, Fk, ck, rfl, hb, fun j u hu => ?_, hh, ⟨hn2.1.2.1, fun g hg => hF.2 g (by simp [hg])⟩, fun g hg => by simp [hg], fun w' x' hm hg' hh' => ?_⟩
  · rw [add_add']
    refine hc _ u ?_
    rw [← hl, List.append_assoc, List.getElem?_append_right (by omega), Nat.add_sub_cancel_left, List.getElem?_append_left (List.getElem?_eq_some_iff.1 hu).1]
    exact hu
  · have hF' : Good w' (ad.block :: (Fa ++ Fk ++ Fb)) := hF.part hm hg'
    have hsa : ∀ g ∈ Fa, w'.heap[g]? = w.heap[g]? := fun g hg => hm.block g (hF.lt g (by simp [hg])) (fun hk => hn2.1.2.2 g hg g hk rfl)
    have hsb : ∀ g ∈ Fb, w'.heap[g]? = w.heap[g]? := fun g hg => hm.block g (hF.lt g (by simp [hg])) (fun hk => hn2.2.2 g (by simp [hk]) g hg rfl)
    have hs0 : w'.heap[ad.block]? = w.heap[ad.block]? := hm.block _ hb (fun hk => hnd.1 (by simp [hk]))
    have hxs : xs.set k x' = xs.take k ++ x' :: xs.drop (k + 1) := by rw [List.set_eq_take_append_cons_drop, if_pos hkx]
    refine ⟨⟨_, _, cap, ca ++ ck ++ cb, Fa ++ Fk ++ Fb, rfl, by simpa using h1, h2, h3, ?_, .inr ⟨ad, rfl, rfl, Nat.lt_of_lt_of_le hb hm.size, hc.keep hs0⟩⟩, hF', hm.mono (fun g hg _ => by simp [hg])⟩
    rw [hxs, List.append_assoc, List.append_assoc]
    exact Rep.all_append (Rep.all_keep ha hsa) ⟨Fk, Fb, ck, cb, rfl, rfl, hh', Rep.all_keep hbb hsb⟩
theorem get_mid {α : Type} (p : List α) (xs : List α) (k : Nat) (hp : p.length = k) (hk : k < xs.length) : (p ++ xs.drop k)[k]? = some xs[k] := by
  subst hp
  rw [List.getElem?_append_right (Nat.le_refl _), Nat.sub_self, List.getElem?_drop]
  simp [hk]
theorem get_set {α : Type} (xs : List α) (k : Nat) (x : α) (hk : k < xs.length) : (xs.set k x)[k]? = some x := by simp [hk]
end
end Go.Proofs.YtnbaekjednmfjaaDoor
end

section
namespace Go.Proofs.YtnbaekjednmfjaaDoor
open Go.ChangeShapes Go.WideShapes Go.ChangeAt Go.RowKit

section
variable {H : Type} {enc : TypeId × Value → H} {P : Program} {W W' : World} {sp : Nat → Bool}

theorem stays_all (hl : laidOutB P = true) (hb : Below W.heap.size W W') : ∀ {ts : List TypeId} {vs : List Value} {ds : List (DataW H)} {ps : List MemPlace},
    (∀ t ∈ ts, P.readableRec t = true ∧ t < P.types.size) → DataW.TrodAll enc P W 0 (fun _ => true) true ts vs ds ps → (∀ p ∈ ps, p.block < W.heap.size) → (∀ p ∈ ps, sp p.block = true) →
    DataW.TrodAll enc P W' 0 sp true ts vs ds ps
  | [], [], [], _, _, h, _, _ => h
  | [], [], _ :: _, _, _, h, _, _ => h.elim
  | [], _ :: _, _, _, _, h, _, _ => h.elim
  | _ :: _, [], _, _, _, h, _, _ => h.elim
  | _ :: _, _ :: _, [], _, _, h, _, _ => h.elim
  | t :: ts, v :: vs, d :: ds, ps, hr, h, hlt, hs => by
    obtain ⟨p, q, h1, h2, rfl⟩ := h
    have hp : ∀ x ∈ p, x.block < W.heap.size := fun x hx => hlt x (by simp [hx])
    exact ⟨p, q, WideElems.Trod_stays hl (hr t (by simp)).1 (hr t (by simp)).2 h1 (fun x hx => hb.same (hp x hx)) (fun x hx => hs x (by simp [hx])),
      stays_all hl hb (fun t ht => hr t (by simp [ht])) h2 (fun x hx => hlt x (by simp [hx])) (fun x hx => hs x (by simp [hx])), rfl⟩

theorem stays_vars (hl : laidOutB P = true) (hb : Below W.heap.size W W') : ∀ {ns : List String} {ds : List (DataW H)} {ps : List MemPlace},
    varsRowed P ns = true → DataW.TrodVars enc P W (fun _ => true) ns ds ps → (∀ p ∈ ps, p.block < W.heap.size) → (∀ p ∈ ps, sp p.block = true) → DataW.TrodVars enc P W' sp ns ds ps
  | [], [], _, _, h, _, _ => h
  | [], _ :: _, _, _, h, _, _ => h.elim
  | _ :: _, [], _, _, h, _, _ => h.elim
  | n :: ns, d :: ds, ps, hv, h, hlt, hs => by
    obtain ⟨g, t, cs, fuel, p, q, h1, h2, h3, h4, h5, rfl⟩ := h
    simp only [varsRowed, List.all_cons, Bool.and_eq_true] at hv
    have ht : P.readableRec t = true ∧ t < P.types.size := by
      have := hv.1
      rw [h1] at this
      cases hg : P.globals[g]? with
      | none => rw [hg] at h2; cases h2
      | some gl =>
        rw [hg] at h2
        obtain rfl : gl.type = t := Option.some.inj h2
        simpa [hg] using this
    have hp : ∀ x ∈ p, x.block < W.heap.size := fun x hx => hlt x (by simp [hx])
    have h3' : W'.var? P n = some cs := by
      unfold World.var? at h3 ⊢
      rw [h1] at h3 ⊢
      simp only [Option.bind_some] at h3 ⊢
      have hg : g < W.heap.size := by
        cases hh : W.heap[g]? with
        | none => rw [hh] at h3; cases h3
        | some o => exact (Array.getElem?_eq_some_iff.1 hh).1
      rw [hb.block g hg]; exact h3
    exact ⟨g, t, cs, fuel, p, q, h1, h2, h3', DataW.trod_stays (kids_book hl ht.1) (book_sized ht.1) (fun h => by cases h) ⟨ht.2, book_self t⟩ h4 (fun x hx => hb.same (hp x hx)) (fun x hx => hs x (by simp [hx])),
      stays_vars hl hb (by simpa [varsRowed] using hv.2) h5 (fun x hx => hlt x (by simp [hx])) (fun x hx => hs x (by simp [hx])), rfl⟩

/-- The row's step: a law that returned true and left alone what was there. -/
theorem post_law {f : Func} {s : ChangeSpec} {args : Array Value} {ds gs : List (DataW H)} {before : List MemPlace} {tb : TypeId}
    (hl : laidOutB P = true) (hr0 : (f.params.toList.all fun t => P.readableRec t && decide (t < P.types.size)) = true) (hv : varsRowed P s.vars = true)
    (hs : s.fn H (ds ++ gs) = { results := [.lit (.bool true)], args := ds, vars := gs }) (hres : f.resultTypes = #[tb]) (hb : P.underlying tb = some .bool)
    (hW : DataW.Whole enc P f.params.toList s.vars false W args.toList ds gs before) (hm : Mod [] W W') :
    s.post enc P f false true false false W args (.bool true) W' := by
  have hr : ∀ t ∈ f.params.toList, P.readableRec t = true ∧ t < P.types.size := fun t ht => by simpa using List.all_eq_true.1 hr0 t ht
  have hlt : ∀ p ∈ before, p.block < W.heap.size := fun p hp => hW.lt p hp
  obtain ⟨p, q, hA, hV, rfl, hz, _⟩ := id hW
  have hbe := hm.below
  have hold : ∀ x ∈ p ++ q, (fun b => decide (b < W.heap.size)) x.block = true := fun x hx => by simpa using hlt x hx
  have hargs : ∀ sp : Nat → Bool, (∀ x ∈ p ++ q, sp x.block = true) → DataW.TrodAll enc P W' 0 sp true f.params.toList args.toList (s.fn H (ds ++ gs)).args p := fun sp hsp => by
    rw [hs]; exact stays_all hl hbe hr hA (fun x hx => hlt x (by simp [hx])) (fun x hx => hsp x (by simp [hx]))
  have hvars : ∀ sp : Nat → Bool, (∀ x ∈ p ++ q, sp x.block = true) → DataW.TrodVars enc P W' sp s.vars (s.fn H (ds ++ gs)).vars q := fun sp hsp => by
    rw [hs]; exact stays_vars hl hbe hv hV (fun x hx => hlt x (by simp [hx])) (fun x hx => hsp x (by simp [hx]))
  have hresl : (Value.bool true).resultList f.resultTypes.size = [.bool true] := by rw [hres]; rfl
  have hre : ∀ (b : Nat) (sp : Nat → Bool) (hd : Bool), DataW.TrodAll enc P W' b sp hd f.resultTypes.toList ((Value.bool true).resultList f.resultTypes.size) (s.fn H (ds ++ gs)).results [] := fun b sp hd => by
    rw [hresl, hres, hs]; exact trodAll_mk1 (shut_bool hb true)
  refine ⟨ds, gs, p ++ q, [], p, q, hW, hre _ _ _, hargs _ hold, hvars _ hold, World.keptBut_mono (fun x hx => ⟨hx, .inr (by simpa using hx)⟩) (hbe.frame (· ∈ p ++ q)), fun h => by cases h⟩
end
end Go.Proofs.YtnbaekjednmfjaaDoor
end

section
namespace Go.Proofs.YtnbaekjednmfjaaDoor
open Go.ChangeShapes Go.WideShapes Go.ChangeAt Go.RowKit Go.Deep

theorem I64.of_wf {n : Int} (h : (Lit.int .i64 n).wf = true) : I64 n := by
  simpa [Lit.wf, IntKind.min, IntKind.max, IntKind.signed, IntKind.bits, I64] using h

/-- Whatever reads as data of type t is a datum of e. -/
def ReadsAs {α : Type} (e : Rep α) (P : Program) (t : TypeId) : Prop :=
  P.cellsOf t = e.size ∧ 0 < e.size ∧ ∀ {H : Type} (enc : TypeId × Value → H) (w : World) (base : Nat) (sp : Nat → Bool) (held : Bool) (fuel : Nat) (cs : List Value) (x : DataW H × List MemPlace),
    DataW.trod enc P w base sp held fuel t cs = some x → ∃ F y, e.has w F cs y

theorem reads_int {P : Program} {t : TypeId} (ht : P.underlying t = some (.int .i64)) (hc : P.cellsOf t = 1) : ReadsAs Rep.int P t :=
  ⟨hc, by decide, fun enc w base sp held fuel cs x h => by
    obtain ⟨n, rfl, _, hw⟩ := DataW.trod_int ht h
    exact ⟨[], n, rfl, rfl, I64.of_wf hw⟩⟩
theorem reads_bool {P : Program} {t : TypeId} (ht : P.underlying t = some .bool) (hc : P.cellsOf t = 1) : ReadsAs Rep.bool P t :=
  ⟨hc, by decide, fun enc w base sp held fuel cs x h => by
    obtain ⟨b, rfl, _⟩ := DataW.trod_bool ht h
    exact ⟨[], b, rfl, rfl⟩⟩
theorem reads_str {P : Program} {t : TypeId} (ht : P.underlying t = some .string) (hc : P.cellsOf t = 1) : ReadsAs Rep.str P t :=
  ⟨hc, by decide, fun enc w base sp held fuel cs x h => by
    obtain ⟨s, rfl, _, hs⟩ := DataW.trod_string ht h
    exact ⟨[], s, rfl, rfl, hs⟩⟩
theorem reads_u8 {P : Program} {t : TypeId} (ht : P.underlying t = some (.int .u8)) (hc : P.cellsOf t = 1) : ReadsAs Rep.u8 P t :=
  ⟨hc, by decide, fun enc w base sp held fuel cs x h => by
    obtain ⟨n, rfl, _, hw⟩ := DataW.trod_int ht h
    have hb : 0 ≤ n ∧ n ≤ 255 := by simpa [Lit.wf, IntKind.min, IntKind.max, IntKind.signed, IntKind.bits] using hw
    refine ⟨[], UInt8.ofNat n.toNat, rfl, ?_⟩
    have : ((UInt8.ofNat n.toNat).toNat : Int) = n := by
      rw [UInt8.toNat_ofNat']
      omega
    rw [this]⟩

theorem all_of_get {α : Type} {e : Rep α} {w : World} {ad : Addr} : ∀ {n : Nat}, (∀ i, i < n → ∃ cs F y, CellsAt w (ad.add (i * e.size)) cs ∧ e.has w F cs y) →
    ∃ ces F ys, List.length ys = n ∧ e.all w F ces ys ∧ CellsAt w ad ces
  | 0, _ => ⟨[], [], [], rfl, ⟨rfl, rfl⟩, fun j u hu => by simp at hu⟩
  | n + 1, h => by
    obtain ⟨ces, F, ys, hl, ha, hc⟩ := all_of_get (n := n) (fun i hi => h i (by omega))
    obtain ⟨cs, G, y, hcs, hy⟩ := h n (by omega)
    refine ⟨ces ++ cs, F ++ G, ys ++ [y], by simp [hl], Rep.all_append ha (Rep.all_one' hy), fun j u hu => ?_⟩
    have hcl : ces.length = n * e.size := by rw [Rep.all_len ha, hl]
    by_cases hj : j < ces.length
    · rw [List.getElem?_append_left hj] at hu
      exact hc j u hu
    · rw [List.getElem?_append_right (by omega)] at hu
      have := hcs _ u hu
      rw [add_add'] at this
      rwa [show n * e.size + (j - ces.length) = j by omega] at this
theorem reads_slice {α : Type} {e : Rep α} {P : Program} {t te : TypeId} (ht : P.underlying t = some (.slice te)) (hc : P.cellsOf t = 1) (he : ReadsAs e P te) : ReadsAs e.slice P t :=
  ⟨hc, Nat.one_pos, fun enc w base sp held fuel cs x h => by
    rcases open_slice ht h with ⟨rfl, _⟩ | ⟨a, len, cap, m, n, D, Pl, rfl, _, hl, hm, hmm, _, hi⟩
    · exact ⟨[], [], SliceHas.nil w⟩
    · have hlm : len ≤ m := by rw [hmm]; split <;> omega
      obtain ⟨ces, F, ys, hyl, hall, hcells⟩ := all_of_get (e := e) (w := w) (ad := a) (n := len) (fun i hil => by
        obtain ⟨cs', hcs, htr⟩ := hi i (by omega)
        obtain ⟨G, y, hy⟩ := he.2.2 enc w base sp held n cs' _ htr
        obtain ⟨_, hcl, hat⟩ := World.cells?_some hcs
        rw [he.1] at hat hcl
        refine ⟨cs', G, y, fun j u hu => ?_, hy⟩
        have hj : j < e.size := by rw [← hcl]; exact (List.getElem?_eq_some_iff.1 hu).1
        rw [hat j hj]; exact hu)
      rcases Nat.eq_zero_or_pos len with rfl | hpos
      · exact ⟨[], ys, ⟨_, 0, cap, ces, F, rfl, hyl, hl, hm, hall, .inl ⟨rfl, rfl⟩⟩⟩
      · refine ⟨a.block :: F, ys, ⟨_, len, cap, ces, F, rfl, hyl, hl, hm, hall, .inr ⟨a, rfl, rfl, ?_, hcells⟩⟩⟩
        have hcl : ces.length = len * e.size := by rw [Rep.all_len hall, hyl]
        have hp : 0 < ces.length := by rw [hcl]; exact Nat.mul_pos hpos he.2.1
        have := hcells 0 _ (List.getElem?_eq_getElem hp)
        have hb := World.block_lt_of_cell? _ _ this
        rwa [add_block] at hb⟩
section
variable {α β : Type} {w : World} {cs : List Value}
theorem field_has {e : Rep α} {H : Type} {enc : TypeId × Value → H} {P : Program} {base : Nat} {sp : Nat → Bool} {held : Bool} {n tf o j : Nat} {xs : List (DataW H × List MemPlace)} (hr : ReadsAs e P tf)
    (hf : DataW.trod enc P w base sp held n tf ((cs.drop o).take (P.cellsOf tf)) = xs[j]?) (hj : j < xs.length) : ∃ F y, e.has w F ((cs.drop o).take e.size) y := by
  rw [List.getElem?_eq_getElem hj, hr.1] at hf
  exact hr.2.2 enc w base sp held n _ _ hf
theorem read_pair {a : Rep α} {b : Rep β} {o s : Nat} (ha : ∃ F x, a.has w F ((cs.drop o).take s) x) (hb : ∃ F y, b.has w F (cs.drop (o + s)) y) : ∃ F z, (Rep.pair a b).has w F (cs.drop o) z := by
  obtain ⟨F, x, h1⟩ := ha
  obtain ⟨G, y, h2⟩ := hb
  have h := Rep.mk2 h1 h2
  rw [← List.drop_drop, List.take_append_drop] at h
  exact ⟨_, _, h⟩
theorem read_last {a : Rep α} {o s : Nat} (ha : ∃ F x, a.has w F ((cs.drop o).take s) x) (hl : cs.length = o + s) : ∃ F x, a.has w F (cs.drop o) x := by
  rwa [List.take_of_length_le (by rw [List.length_drop]; omega)] at ha
end

section
variable {H : Type} {enc : TypeId × Value → H} {P : Program} {w : World}
theorem read_slice {α : Type} {e : Rep α} {t te b0 : Nat} {v : Value} {d : DataW H} {ps : List MemPlace} (ht : P.underlying t = some (.slice te)) (hr : ReadsAs e.slice P t) (hv : Value.okWide P w .any b0 t v)
    (h : DataW.Trod enc P w 0 (fun _ => true) true t v d ps) : ∃ F xs, SliceHas e w F [v] xs := by
  obtain ⟨a, len, cap, rfl⟩ := okWide_slice ht hv
  obtain ⟨fuel, hf⟩ := h
  exact hr.2.2 enc w _ _ _ _ _ _ hf
theorem read_struct {α : Type} {e : Rep α} {t b0 : Nat} {fs : Array Field} {v : Value} {d : DataW H} {ps : List MemPlace} (ht : P.underlying t = some (.struct fs)) (hr : ReadsAs e P t) (hv : Value.okWide P w .any b0 t v)
    (h : DataW.Trod enc P w 0 (fun _ => true) true t v d ps) : ∃ cs F x, v = .agg (List.toArray cs) ∧ e.has w F cs x := by
  obtain ⟨cs, rfl, _⟩ := okWide_struct ht hv
  obtain ⟨fuel, hf⟩ := h
  obtain ⟨F, x, hx⟩ := hr.2.2 enc w _ _ _ _ _ _ hf
  exact ⟨cs.toList, F, x, by simp, by simpa [Value.cells] using hx⟩
end
end Go.Proofs.YtnbaekjednmfjaaDoor
end
