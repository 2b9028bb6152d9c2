/- Proved: from some number of rounds on: how answers of parts give the answer of what is made of them; no condition. -/
import Derived.Test.YtgcdhjgdlnpknaaDoorPLib
namespace Go.Proofs.YtgcdhjgdlnpknaaDoor.P
open Go.RowKit Go.Proofs.YtgcdhjgdlnpknaaDoorW.PrintWords Go.Proofs.YtgcdhjgdlnpknaaDoorW.PrintLast
set_option linter.unusedVariables false

theorem ev_step {α β : Type} {f : Nat → Option α} {g : Nat → Option β} {a : α} {r : β} (H : Ev f a) (h : ∀ k, f k = some a → g (k + 1) = some r) : Ev g r := by
  obtain ⟨K, H⟩ := H
  refine ⟨K + 1, fun k hk => ?_⟩
  obtain ⟨k, rfl⟩ : ∃ m, k = m + 1 := ⟨k - 1, by omega⟩
  exact h k (H k (by omega))
theorem ev_step2 {α β γ : Type} {f : Nat → Option α} {f2 : Nat → Option γ} {g : Nat → Option β} {a : α} {b : γ} {r : β} (H : Ev f a) (H2 : Ev f2 b) (h : ∀ k, f k = some a → f2 k = some b → g (k + 1) = some r) : Ev g r := by
  obtain ⟨K, H⟩ := H
  obtain ⟨K2, H2⟩ := H2
  refine ⟨K + K2 + 1, fun k hk => ?_⟩
  obtain ⟨k, rfl⟩ : ∃ m, k = m + 1 := ⟨k - 1, by omega⟩
  exact h k (H k (by omega)) (H2 k (by omega))
theorem ev_step3 {α β γ δ : Type} {f : Nat → Option α} {f2 : Nat → Option γ} {f3 : Nat → Option δ} {g : Nat → Option β} {a : α} {b : γ} {c : δ} {r : β} (H : Ev f a) (H2 : Ev f2 b) (H3 : Ev f3 c) (h : ∀ k, f k = some a → f2 k = some b → f3 k = some c → g (k + 1) = some r) : Ev g r := by
  obtain ⟨K, H⟩ := H
  obtain ⟨K2, H2⟩ := H2
  obtain ⟨K3, H3⟩ := H3
  refine ⟨K + K2 + K3 + 1, fun k hk => ?_⟩
  obtain ⟨k, rfl⟩ : ∃ m, k = m + 1 := ⟨k - 1, by omega⟩
  exact h k (H k (by omega)) (H2 k (by omega)) (H3 k (by omega))
theorem ev_one {β : Type} {g : Nat → Option β} {r : β} (h : ∀ k, g (k + 1) = some r) : Ev g r := ⟨1, fun k hk => by
  obtain ⟨k, rfl⟩ : ∃ m, k = m + 1 := ⟨k - 1, by omega⟩
  exact h k⟩
theorem ev_now {β : Type} {g : Nat → Option β} {r : β} (h : ∀ k, g k = some r) : Ev g r := ⟨0, fun k _ => h k⟩
theorem ev_same {α β : Type} {f : Nat → Option α} {g : Nat → Option β} {a : α} {r : β} (H : Ev f a) (h : ∀ k, f k = some a → g k = some r) : Ev g r := by
  obtain ⟨K, H⟩ := H
  exact ⟨K, fun k hk => h k (H k hk)⟩
theorem ev_same2 {α β γ : Type} {f : Nat → Option α} {f2 : Nat → Option γ} {g : Nat → Option β} {a : α} {b : γ} {r : β} (H : Ev f a) (H2 : Ev f2 b) (h : ∀ k, f k = some a → f2 k = some b → g k = some r) : Ev g r := by
  obtain ⟨K, H⟩ := H
  obtain ⟨K2, H2⟩ := H2
  exact ⟨K + K2, fun k hk => h k (H k (by omega)) (H2 k (by omega))⟩
theorem ev_same3 {α β γ δ : Type} {f : Nat → Option α} {f2 : Nat → Option γ} {f3 : Nat → Option δ} {g : Nat → Option β} {a : α} {b : γ} {c : δ} {r : β} (H : Ev f a) (H2 : Ev f2 b) (H3 : Ev f3 c) (h : ∀ k, f k = some a → f2 k = some b → f3 k = some c → g k = some r) : Ev g r := by
  obtain ⟨K, H⟩ := H
  obtain ⟨K2, H2⟩ := H2
  obtain ⟨K3, H3⟩ := H3
  exact ⟨K + K2 + K3, fun k hk => h k (H k (by omega)) (H2 k (by omega)) (H3 k (by omega))⟩
/-- Two answers at once. -/
theorem ev_and {α γ : Type} {f : Nat → Option α} {f2 : Nat → Option γ} {a : α} {b : γ} (H : Ev f a) (H2 : Ev f2 b) : Ev (fun k => (f k).bind fun x => (f2 k).map fun y => (x, y)) (a, b) :=
  ev_same2 H H2 fun k h h2 => by rw [h, h2]; rfl
theorem ev_fst {α γ : Type} {o : Option α} {o2 : Option γ} {a : α} {b : γ} (h : (o.bind fun x => o2.map fun y => (x, y)) = some (a, b)) : o = some a ∧ o2 = some b := by
  cases o with
  | none => cases h
  | some x =>
    cases o2 with
    | none => cases h
    | some y =>
      simp only [Option.bind_some, Option.map_some, Option.some.injEq, Prod.mk.injEq] at h
      rw [h.1, h.2]
      exact ⟨rfl, rfl⟩
end Go.Proofs.YtgcdhjgdlnpknaaDoor.P
