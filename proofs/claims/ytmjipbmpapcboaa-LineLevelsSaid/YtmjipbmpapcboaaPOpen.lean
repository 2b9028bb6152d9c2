/- Proved: how an argument that is a small array, or a struct of two or three one-cell fields, is opened: its value written out, each cell with its reading; conditions: the type's description. -/
import Derived.Test.YtmjipbmpapcboaaPx0
import Derived.OpenShut
import Derived.Lib.SmallJoins
import Derived.Deep.Fields
import Derived.Deep.Grids
import Derived.SizedLaws
namespace Go.Proofs.Ytmjipbmpapcboaa.P
open Go.Joins Go.Deep Go.ChangeShapes Go.WideShapes
set_option linter.unusedVariables false
variable {H : Type} {enc : TypeId × Value → H} {P : Program} {w : World} {base : Nat} {spare : Nat → Bool} {held : Bool}

theorem okWide_arr {r : Reach} {b0 : Nat} {t e : TypeId} {n : Nat} {v : Value} (ht : P.underlying t = some (.array n e)) (h : Value.okWide P w r b0 t v) : ∃ cs, v = .agg cs ∧ cs.size = P.cellsOf t := by
  simp only [Value.okWide, ht] at h
  obtain ⟨cs, h1, h2, _⟩ := h
  exact ⟨cs, h1, h2⟩
theorem open_arr2 {r : Reach} {b0 : Nat} {t e : TypeId} {v : Value} {d : DataW H} {p : List MemPlace} (ht : P.underlying t = some (.array 2 e)) (he : P.cellsOf e = 1) (hC : P.cellsOf t = 2) (hv : Value.okWide P w r b0 t v) (h : DataW.Trod enc P w base spare held t v d p) :
    ∃ (v0 v1 : Value) (y0 y1 : DataW H × List MemPlace) (n : Nat), v = .agg #[v0, v1] ∧ True ∧ True ∧ DataW.trod enc P w base spare held n e [v0] = some y0 ∧ DataW.trod enc P w base spare held n e [v1] = some y1 := by
  obtain ⟨cs, rfl, hs⟩ := okWide_arr ht hv
  obtain ⟨c0, c1, rfl⟩ := array2 (hs.trans hC)
  obtain ⟨fuel, hf⟩ := h
  obtain ⟨xs, m, _, _, _, hl, hx⟩ := DataW.trod_array ht hf
  obtain ⟨y0, y1, rfl⟩ : ∃ y0 y1, xs = [y0, y1] := by
    match xs, hl with
    | [y0, y1], _ => exact ⟨y0, y1, rfl⟩
  have h0 := hx 0 (by omega)
  have h1 := hx 1 (by omega)
  rw [he] at h0 h1
  exact ⟨c0, c1, y0, y1, m, rfl, trivial, trivial, h0, h1⟩
theorem open_arr3 {r : Reach} {b0 : Nat} {t e : TypeId} {v : Value} {d : DataW H} {p : List MemPlace} (ht : P.underlying t = some (.array 3 e)) (he : P.cellsOf e = 1) (hC : P.cellsOf t = 3) (hv : Value.okWide P w r b0 t v) (h : DataW.Trod enc P w base spare held t v d p) :
    ∃ (v0 v1 v2 : Value) (y0 y1 y2 : DataW H × List MemPlace) (n : Nat), v = .agg #[v0, v1, v2] ∧ True ∧ True ∧ DataW.trod enc P w base spare held n e [v0] = some y0 ∧ DataW.trod enc P w base spare held n e [v1] = some y1 ∧ DataW.trod enc P w base spare held n e [v2] = some y2 := by
  obtain ⟨cs, rfl, hs⟩ := okWide_arr ht hv
  obtain ⟨c0, c1, c2, rfl⟩ := array3 (hs.trans hC)
  obtain ⟨fuel, hf⟩ := h
  obtain ⟨xs, m, _, _, _, hl, hx⟩ := DataW.trod_array ht hf
  obtain ⟨y0, y1, y2, rfl⟩ : ∃ y0 y1 y2, xs = [y0, y1, y2] := by
    match xs, hl with
    | [y0, y1, y2], _ => exact ⟨y0, y1, y2, rfl⟩
  have h0 := hx 0 (by omega)
  have h1 := hx 1 (by omega)
  have h2 := hx 2 (by omega)
  rw [he] at h0 h1 h2
  exact ⟨c0, c1, c2, y0, y1, y2, m, rfl, trivial, trivial, h0, h1, h2⟩
theorem open_str2 {r : Reach} {b0 : Nat} {t : TypeId} {f0 f1 : Field} {v : Value} {d : DataW H} {p : List MemPlace} (hs : P.underlying t = some (.struct #[f0, f1])) (hone : oneCellFields P #[f0, f1] = true) (hC : P.cellsOf t = 2) (hv : Value.okWide P w r b0 t v) (h : DataW.Trod enc P w base spare held t v d p) :
    ∃ (v0 v1 : Value) (y0 y1 : DataW H × List MemPlace) (n : Nat), v = .agg #[v0, v1] ∧ True ∧ True ∧ DataW.trod enc P w base spare held n f0.type [v0] = some y0 ∧ DataW.trod enc P w base spare held n f1.type [v1] = some y1 := by
  obtain ⟨v0, v1, y0, y1, n, h1, _, _, h2, h3⟩ := open_agg2 hs hone hC hv h
  exact ⟨v0, v1, y0, y1, n, h1, trivial, trivial, h2, h3⟩
theorem open_str3 {r : Reach} {b0 : Nat} {t : TypeId} {f0 f1 f2 : Field} {v : Value} {d : DataW H} {p : List MemPlace} (hs : P.underlying t = some (.struct #[f0, f1, f2])) (hone : oneCellFields P #[f0, f1, f2] = true) (hC : P.cellsOf t = 3) (hv : Value.okWide P w r b0 t v) (h : DataW.Trod enc P w base spare held t v d p) :
    ∃ (v0 v1 v2 : Value) (y0 y1 y2 : DataW H × List MemPlace) (n : Nat), v = .agg #[v0, v1, v2] ∧ True ∧ True ∧ DataW.trod enc P w base spare held n f0.type [v0] = some y0 ∧ DataW.trod enc P w base spare held n f1.type [v1] = some y1 ∧ DataW.trod enc P w base spare held n f2.type [v2] = some y2 := by
  obtain ⟨v0, v1, v2, y0, y1, y2, n, h1, _, _, h2, h3, h4⟩ := open_agg3 hs hone hC hv h
  exact ⟨v0, v1, v2, y0, y1, y2, n, h1, trivial, trivial, h2, h3, h4⟩

open Go.Proofs.YtmjipbmpapcboaaW.PrintWords in
/-- A slice of bools that came in. -/
theorem open_bslice {t e : TypeId} {a : Option Addr} {len cap : Nat} {d : DataW H} {p : List MemPlace} (ht : P.underlying t = some (.slice e)) (he : P.underlying e = some .bool) (hc : P.cellsOf e = 1)
    (h : DataW.Trod enc P w base (fun _ => true) held t (.slice a len cap) d p) :
    ∃ l : List Bool, l.length = len ∧ len ≤ cap ∧ len ≤ maxLen ∧ Kd.bool.C w a l.length l ∧ (d = .nil ∧ len = 0 ∨ ∃ s, d = .slice (l.map fun b => .lit (.bool b)) s) := by
  obtain ⟨fuel, hf⟩ := h
  rcases open_bools ht he hc hf with ⟨hcs, hx⟩ | ⟨x, l, c, B, hcs, _, hl, hm, hx, hcell⟩
  · simp [Value.cells] at hcs
    obtain ⟨rfl, rfl, rfl⟩ := hcs
    obtain ⟨rfl, _⟩ := Prod.mk.inj hx
    exact ⟨[], rfl, Nat.le_refl _, Nat.zero_le _, Kd.C_of_reads (d := false) ⟨rfl, by simp, fun h => absurd h (Nat.lt_irrefl 0)⟩, .inl ⟨rfl, rfl⟩⟩
  · simp [Value.cells] at hcs
    obtain ⟨rfl, rfl, rfl⟩ := hcs
    obtain ⟨rfl, _⟩ := Prod.mk.inj hx
    have hlen : ((List.range len).map B).length = len := by simp
    refine ⟨(List.range len).map B, hlen, hl, Nat.le_trans hl hm, ?_, .inr ⟨_, by simp [boolRow]; rfl⟩⟩
    refine Kd.C_of_reads (d := false) ⟨rfl, by rw [hlen]; have := Nat.le_trans hl hm; simp only [maxLen] at this; omega, fun _ => ⟨x, rfl, fun j hj => ?_⟩⟩
    rw [hlen] at hj
    rw [hcell j (by omega)]
    simp [List.getD_eq_getElem?_getD, hj]
theorem sized_bslice {W : World} {ts : List TypeId} {ds : List (DataW H)} {j : Nat} {t e : TypeId} {d : DataW H} {l : List Bool} {B : Nat}
    (hsz : (DataW.weightsEach P ts ds).all (· ≤ reachBytes) = true) (ht : ts[j]? = some t) (hd : ds[j]? = some d) (hu : P.underlying t = some (.slice e)) (hB : P.bytesOf e = B)
    (h : d = .nil ∧ l.length = 0 ∨ ∃ s, d = .slice (l.map fun b => .lit (.bool b)) s) : l.length * B ≤ 140737488351232 := by
  rcases h with ⟨_, h0⟩ | ⟨s, rfl⟩
  · rw [h0]
    simp
  · have z := sized_slice hsz ht hd hu
    rw [hB, List.length_map] at z
    exact Nat.le_trans (Nat.mul_le_mul_right _ (Nat.le_add_right _ _)) z
end Go.Proofs.Ytmjipbmpapcboaa.P
