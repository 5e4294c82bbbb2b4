/-
  Caches in plain words: the first test. No condition.
-/
import Derived.Test.YtbcdcpkofgfofaaPuCaE
namespace Go.Proofs.Ytbcdcpkofgfofaa
open Go Go.Gol
set_option linter.unusedVariables false
set_option linter.unusedSimpArgs false
set_option maxRecDepth 100000
namespace Ca
open Crc Page Img
def Two (E : List Ex) (x y : Ex) : Prop := E = [x, y] ∨ E = [y, x]
theorem Two.swap {E : List Ex} {x y : Ex} (h : Two E x y) : Two E y x := h.symm
theorem Two.memL {E : List Ex} {x y : Ex} (h : Two E x y) : x ∈ E := by rcases h with rfl | rfl <;> simp
theorem Two.memR {E : List Ex} {x y : Ex} (h : Two E x y) : y ∈ E := h.swap.memL
theorem Two.all {E : List Ex} {x y e : Ex} (h : Two E x y) (he : e ∈ E) : e = x ∨ e = y := by
  rcases h with rfl | rfl <;> simp at he
  · exact he
  · exact he.symm
theorem Two.cnt {E : List Ex} {x y : Ex} (h : Two E x y) (q : Ex → Bool) (hx : q x = true) (hy : q y = true) : E.countP q = 2 := by
  rcases h with rfl | rfl <;> simp [List.countP_cons, hx, hy]
theorem put_two' {c c' : Cx} {n : Int} {hit : Bool} {x y : Ex} (E : Two (es c) x y) (h : Put c c' n hit) : ∃ b,
    (hit = true ∧ x.1 = n ∧ Two (es c') (n, b, x.2.2 + 1) y ∧ c'.2.2.2.1 = c.2.2.2.1 + 1 ∧ c'.2.2.2.2 = c.2.2.2.2) ∨ (hit = true ∧ y.1 = n ∧ Two (es c') x (n, b, y.2.2 + 1) ∧ c'.2.2.2.1 = c.2.2.2.1 + 1 ∧ c'.2.2.2.2 = c.2.2.2.2) ∨
    (hit = false ∧ x.2.2 = 0 ∧ x.1 ≠ n ∧ y.1 ≠ n ∧ Two (es c') (n, b, 1) y ∧ c'.2.2.2.1 = c.2.2.2.1 ∧ c'.2.2.2.2 = c.2.2.2.2 + 1) ∨ (hit = false ∧ y.2.2 = 0 ∧ x.1 ≠ n ∧ y.1 ≠ n ∧ Two (es c') x (n, b, 1) ∧ c'.2.2.2.1 = c.2.2.2.1 ∧ c'.2.2.2.2 = c.2.2.2.2 + 1) := by
  rcases E with E | E
  · obtain ⟨b, h⟩ := put_two E h
    refine ⟨b, ?_⟩
    rcases h with ⟨a1, a2, a3, a4, a5⟩ | ⟨a1, a2, a3, a4, a5⟩ | ⟨a1, a2, a3, a4, a5, a6, a7⟩ | ⟨a1, a2, a3, a4, a5, a6, a7⟩
    · exact .inl ⟨a1, a2, .inl a3, a4, a5⟩
    · exact .inr (.inl ⟨a1, a2, .inl a3, a4, a5⟩)
    · exact .inr (.inr (.inl ⟨a1, a2, a3, a4, .inl a5, a6, a7⟩))
    · exact .inr (.inr (.inr ⟨a1, a2, a3, a4, .inl a5, a6, a7⟩))
  · obtain ⟨b, h⟩ := put_two E h
    refine ⟨b, ?_⟩
    rcases h with ⟨a1, a2, a3, a4, a5⟩ | ⟨a1, a2, a3, a4, a5⟩ | ⟨a1, a2, a3, a4, a5, a6, a7⟩ | ⟨a1, a2, a3, a4, a5, a6, a7⟩
    · exact .inr (.inl ⟨a1, a2, .inr a3, a4, a5⟩)
    · exact .inl ⟨a1, a2, .inr a3, a4, a5⟩
    · exact .inr (.inr (.inr ⟨a1, a2, a4, a3, .inr a5, a6, a7⟩))
    · exact .inr (.inr (.inl ⟨a1, a2, a4, a3, .inr a5, a6, a7⟩))
theorem drop_two {c c' : Cx} {n : Int} {r : Bool} {x y : Ex} (E : Two (es c) x y) (hx : x.1 = n) (hy : y.1 ≠ n) (hp : 0 < x.2.2) (hn : 0 ≤ n) (h : Dropped c c' n r) : r = true ∧ Two (es c') (n, x.2.1, x.2.2 - 1) y ∧ c'.2.2.2.1 = c.2.2.2.1 ∧ c'.2.2.2.2 = c.2.2.2.2 := by
  obtain ⟨_, h1, h2, h3⟩ := h
  rcases h3 with ⟨a1, _, i, e, a2, a3, a4, a5⟩ | ⟨_, _, a1⟩
  · refine ⟨a1, ?_, h1, h2⟩
    have hex : e = x := by
      rcases E.all (List.mem_of_getElem? a2) with q | q
      · exact q
      · rw [q] at a3; exact absurd a3 hy
    subst hex
    rw [a5]
    have hxy : e ≠ y := fun q => by rw [q] at a3; exact hy a3
    rcases E with E | E
    · rw [E] at a2 ⊢
      have hi := lt_of_get a2
      simp at hi
      have : i = 0 ∨ i = 1 := by omega
      rcases this with rfl | rfl
      · exact .inl rfl
      · exact absurd (Option.some.inj a2).symm hxy
    · rw [E] at a2 ⊢
      have hi := lt_of_get a2
      simp at hi
      have : i = 0 ∨ i = 1 := by omega
      rcases this with rfl | rfl
      · exact absurd (Option.some.inj a2).symm hxy
      · exact .inr rfl
  · rcases a1 with a1 | a1
    · omega
    · have := a1 x E.memL hx; omega
abbrev zf : Ex := (-1, [], 0)
theorem first_f : colophonlaw07_first.f = some true := by
  obtain ⟨I0, _⟩ := made_inv 3 (by omega) (K := 2) (by omega) (by omega)
  have hmade : colophonlaw07_made.f 3 2 = some (some (theM 3, List.replicate 2 fr0, 0, 0, 0)) := made_g 3 2 (by omega) (by omega) (by omega)
  have E0 : Two (es (theM 3, List.replicate 2 fr0, 0, 0, 0)) zf zf := .inl rfl
  unfold colophonlaw07_first.f
  rw [hmade, Option.bind_some]
  simp only []
  have ha0 : ((theM 3, List.replicate 2 fr0, 0, 0, 0) : Cx).2.2.2.1 = 0 := rfl
  have hb0 : ((theM 3, List.replicate 2 fr0, 0, 0, 0) : Cx).2.2.2.2 = 0 := rfl
  generalize ((theM 3, List.replicate 2 fr0, 0, 0, 0) : Cx) = c0 at *
  -- 1
  obtain ⟨b1, t1, e1, c1, g1, _, J1, _, w1⟩ := hold_spec I0 (by omega) (by omega) 1
  rw [g1, Option.bind_some]
  rcases w1 with ⟨_, q, _⟩ | ⟨_, _, _, _, _, _, _, q⟩ | ⟨z1, _, _, _, _, P1⟩
  · omega
  · exact absurd rfl (q zf E0.memL)
  obtain ⟨x1, P1⟩ := put_two' E0 P1
  have E1 : t1 = false ∧ Two (es c1) (1, x1, 1) zf ∧ c1.2.2.2.1 = 0 ∧ c1.2.2.2.2 = 1 := by
    rcases P1 with ⟨_, q, _⟩ | ⟨_, q, _⟩ | ⟨q1, _, _, _, q2, q3, q4⟩ | ⟨q1, _, _, _, q2, q3, q4⟩
    · exact absurd q (by first | decide | simp)
    · exact absurd q (by first | decide | simp)
    · exact ⟨q1, q2, by omega, by omega⟩
    · exact ⟨q1, q2.swap, by omega, by omega⟩
  clear P1
  obtain ⟨T1, E1, A1, B1⟩ := E1
  -- 2
  obtain ⟨b2, t2, e2, c2, g2, _, J2, _, w2⟩ := hold_spec J1 (by omega) (by omega) 2
  simp only []
  rw [g2, Option.bind_some]
  rcases w2 with ⟨_, q, _⟩ | ⟨_, _, _, _, _, _, _, q⟩ | ⟨z2, _, _, _, _, P2⟩
  · omega
  · exact absurd rfl (q zf E1.memR)
  obtain ⟨x2, P2⟩ := put_two' E1 P2
  have E2 : Two (es c2) (1, x1, 1) (2, x2, 1) ∧ c2.2.2.2.1 = 0 ∧ c2.2.2.2.2 = 2 := by
    rcases P2 with ⟨_, q, _⟩ | ⟨_, q, _⟩ | ⟨q1, q, _⟩ | ⟨q1, _, _, _, q2, q3, q4⟩
    · exact absurd q (by first | decide | simp)
    · exact absurd q (by first | decide | simp)
    · exact absurd q (by first | decide | simp)
    · exact ⟨q2, by omega, by omega⟩
  clear P2
  obtain ⟨E2, A2, B2⟩ := E2
  -- 3
  obtain ⟨b3, t3, e3, c3, g3, _, J3, _, w3⟩ := hold_spec J2 (by omega) (by omega) 3
  simp only []
  rw [g3, Option.bind_some]
  have W3 : e3 = 70 ∧ c3 = c2 := by
    rcases w3 with ⟨_, q, _⟩ | ⟨q1, _, _, _, _, q2, _, _⟩ | ⟨_, _, _, _, _, P3⟩
    · omega
    · exact ⟨q1, q2⟩
    · obtain ⟨x3, P3⟩ := put_two' E2 P3
      rcases P3 with ⟨_, q, _⟩ | ⟨_, q, _⟩ | ⟨_, q, _⟩ | ⟨_, q, _⟩ <;> exact absurd q (by first | decide | simp)
  obtain ⟨z3, hc3⟩ := W3
  subst hc3
  -- drop
  obtain ⟨r4, c4, g4, _, J4, w4⟩ := drop_spec J3 (by omega) 4 1
  simp only []
  rw [g4, Option.bind_some]
  obtain ⟨R4, E4, A4, B4⟩ := drop_two (n := 1) E2 rfl (by simp) (by simp) (by simp) w4
  -- 3
  obtain ⟨b5, t5, e5, c5, g5, _, J5, _, w5⟩ := hold_spec J4 (by omega) (by omega) 3
  simp only []
  rw [g5, Option.bind_some]
  rcases w5 with ⟨_, q, _⟩ | ⟨_, _, _, _, _, _, _, q⟩ | ⟨z5, _, _, l5, n5, P5⟩
  · omega
  · exact absurd rfl (q _ E4.memL)
  obtain ⟨x5, P5⟩ := put_two' E4 P5
  have E5 : t5 = false ∧ Two (es c5) (3, x5, 1) (2, x2, 1) ∧ c5.2.2.2.1 = 0 ∧ c5.2.2.2.2 = 3 := by
    rcases P5 with ⟨_, q, _⟩ | ⟨_, q, _⟩ | ⟨q1, _, _, _, q2, q3, q4⟩ | ⟨_, q, _⟩
    · exact absurd q (by first | decide | simp)
    · exact absurd q (by first | decide | simp)
    · exact ⟨q1, q2, by omega, by omega⟩
    · exact absurd q (by first | decide | simp)
  clear P5
  obtain ⟨T5, E5, A5, B5⟩ := E5
  -- 2
  obtain ⟨b6, t6, e6, c6, g6, _, J6, _, w6⟩ := hold_spec J5 (by omega) (by omega) 2
  simp only []
  rw [g6, Option.bind_some]
  rcases w6 with ⟨_, q, _⟩ | ⟨_, _, _, _, _, _, q, _⟩ | ⟨z6, _, _, _, _, P6⟩
  · omega
  · exact absurd rfl (q _ E5.memR)
  obtain ⟨x6, P6⟩ := put_two' E5 P6
  have E6 : t6 = true ∧ Two (es c6) (3, x5, 1) (2, x6, 2) ∧ c6.2.2.2.1 = 1 ∧ c6.2.2.2.2 = 3 := by
    rcases P6 with ⟨_, q, _⟩ | ⟨q1, _, q2, q3, q4⟩ | ⟨_, q, _⟩ | ⟨_, q, _⟩
    · exact absurd q (by first | decide | simp)
    · exact ⟨q1, q2, by omega, by omega⟩
    · exact absurd q (by first | decide | simp)
    · exact absurd q (by first | decide | simp)
  clear P6
  obtain ⟨T6, E6, A6, B6⟩ := E6
  obtain ⟨r7, g7, h7⟩ := has_spec J6 1
  have H7 : r7 = false := by
    cases r7 with
    | false => rfl
    | true =>
      obtain ⟨_, e, he, q⟩ := h7.1 rfl
      rcases E6.all he with rfl | rfl <;> exact absurd q (by first | decide | simp)
  have hs := stats_spec J6
  have ha : at? b5 0 = some 3 := by
    rw [show (0 : Int) = ((0 : Nat) : Int) from rfl, at?_nat]; exact n5 (by decide)
  have hS : statsOf c6 = (1, 3, 2, 2) := by
    unfold statsOf
    rw [A6, B6, E6.cnt isIn rfl rfl, E6.cnt isPin rfl rfl]; rfl
  simp only []
  rw [g7, hs, hS]
  simp only [T1, z1, z3, R4, T5, z5, l5, T6, H7]
  rw [if_pos (by decide), if_pos (by decide), if_pos (by decide), if_pos (by decide), if_pos (by decide), if_pos (by decide), if_pos (by decide), ha, Option.bind_some, if_pos (by decide), if_pos (by decide), Option.bind_some, if_pos (by decide), Option.bind_some]
  rfl
end Ca
end Go.Proofs.Ytbcdcpkofgfofaa
