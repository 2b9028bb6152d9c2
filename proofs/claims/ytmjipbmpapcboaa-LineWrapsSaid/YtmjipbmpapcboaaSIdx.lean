/- Proved: slices.IndexFunc (and ContainsFunc, where it is there) at a list of int with a function value that answers by a test and writes nothing: the first place that the test lets; condition: the list can be read, and the function value answers so. -/
import Derived.Test.YtmjipbmpapcboaaPx0
namespace Go.Proofs.Ytmjipbmpapcboaa.P
open Go.RowKit Go.Proofs.YtmjipbmpapcboaaW.PrintWords Go.Proofs.YtmjipbmpapcboaaW.PrintLast
set_option linter.unusedVariables false
set_option linter.unusedSimpArgs false

/-- The first place at or behind i that a test lets; -1: none. -/
def idxFrom (p : Int → Bool) (i : Nat) : List Int → Int
  | [] => -1
  | x :: l => if p x = true then (i : Int) else idxFrom p (i + 1) l
/-- What a call of a function value answers: a test's answer, and nothing is written. -/
def TestAns (g : Nat) (caps : Array Value) (p : Int → Bool) (w : World) (l : List Int) : Prop :=
  ∀ x ∈ l, ∀ n : Nat, Calls Try.prog g (#[.int .i64 x] ++ caps) (w.drewN n) fun e w' => e = .returned (.bool (p x)) ∧ ∃ m, w' = (w.drewN n).drewN m

set_option maxHeartbeats 4000000 in
set_option maxRecDepth 100000 in
theorem idx_func.calls (g : Nat) (caps : Array Value) (p : Int → Bool) (A0 : Option Addr) (c0 : Nat) (l0 : List Int) (w : World) (hr0 : Kd.C (Kd.int .i64) w A0 l0.length l0) (hl : l0.length < 9223372036854775807) (ht : TestAns g caps p w l0) (hgo : ∀ (x : Int) (W : World), (callFunc g (#[.int .i64 x] ++ caps)).run Try.prog W = .ok (.enter g (#[.int .i64 x] ++ caps)) W) :
    Calls Try.prog 24 #[.slice A0 l0.length c0, .func (.func g) #[] caps] w fun e w' => e = .returned (.int .i64 (idxFrom p 0 l0)) ∧ ∃ m, w' = w.drewN m := by
  have HR0 := Aside0.mk hr0
  have HL := Aside0.mk hl
  have HT := Aside0.mk ht
  clear hr0 hl ht
  go_enter Try.func24, Try.ntmps24
  go_wp2
  go_loopw [8] (fun v wr => ∃ i : Nat, v = .int .i64 (i : Int) ∧ i ≤ l0.length ∧ (∃ m, wr = w.drewN m) ∧ idxFrom p 0 l0 = idxFrom p i (l0.drop i)) (fun v wr => l0.length - (intOf v).toNat)
  case atStart => exact ⟨0, rfl, by omega, ⟨0, rfl⟩, by simp⟩
  case round =>
    obtain ⟨i, rfl, hi, ⟨m, rfl⟩, hidx⟩ := hrel
    by_cases h : i < l0.length
    · obtain ⟨ad, e, hx⟩ := Kd.at_int HR0.out (i : Int) (by omega) (by omega)
      cases e
      rw [Int.toNat_natCast] at hx
      have hmem : rd l0 (i : Int) ∈ l0 := by
        unfold rd
        rw [Int.toNat_natCast, List.getD_eq_getElem?_getD, List.getElem?_eq_getElem h, Option.getD_some]
        exact List.getElem_mem _
      have hcall := HT.out _ hmem
      have hd : l0.drop i = rd l0 (i : Int) :: l0.drop (i + 1) := by
        unfold rd
        rw [Int.toNat_natCast, List.getD_eq_getElem?_getD, List.getElem?_eq_getElem h, Option.getD_some]
        exact List.drop_eq_getElem_cons h
      rw [hd] at hidx
      have H := Aside0.mk hidx
      have h1 : decide ((i : Int) < (l0.length : Int)) = true := decide_eq_true (by omega)
      have h2 : ((0 : Int) ≤ (i : Int)) = True := eq_true (by omega)
      have h3 : ((i : Int) < (l0.length : Int)) = True := eq_true (by omega)
      have hgo1 := hgo (rd l0 (i : Int))
      clear hidx hd
      obtain ⟨b, hb⟩ : ∃ b, p (rd l0 (i : Int)) = b := ⟨_, rfl⟩
      rw [hb] at hcall
      have HP := Aside0.mk hb
      clear hb
      cases b with
      | true =>
        go_wp2_with (refine (hcall _).mono ?_; rintro e w' ⟨rfl, m2, rfl⟩)
        go_ret
        refine ⟨?_, _, rfl⟩
        rw [H.out]
        simp only [idxFrom]
        rw [if_pos HP.out]
        rfl
      | false =>
        go_wp2_with (refine (hcall _).mono ?_; rintro e w' ⟨rfl, m2, rfl⟩)
        have hw : wrap64 ((i : Int) + 1) = ((i + 1 : Nat) : Int) := by
          have := HL.out
          unfold wrap64
          omega
        refine ⟨⟨i + 1, by rw [hw], by omega, ⟨_, rfl⟩, ?_⟩, ?_⟩
        · rw [H.out]
          simp only [idxFrom]
          rw [if_neg (by rw [HP.out]; decide)]
        · rw [hw]
          show l0.length - (((i + 1 : Nat) : Int)).toNat < l0.length - ((i : Int)).toNat
          omega
    · have hn : i = l0.length := by omega
      subst hn
      have h1 : decide ((l0.length : Int) < (l0.length : Int)) = false := decide_eq_false (by omega)
      have H := Aside0.mk hidx
      clear hidx
      go_wp2
      go_ret
      refine ⟨?_, _, rfl⟩
      rw [H.out, List.drop_length]
      rfl
end Go.Proofs.Ytmjipbmpapcboaa.P
