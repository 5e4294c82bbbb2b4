/-
  How long a slice that comes in may be: what the form of the claim asks of each. My own text.
-/
import Derived.Test.YtoonceaeaigkpaaGH
import Derived.SizedLaws
set_option linter.unusedVariables false
set_option linter.unusedSimpArgs false
namespace Go.Gol
open Go
theorem sized_len {H : Type} {P : Program} {ts : List TypeId} {ds : List (DataW H)} (hz : (DataW.weightsEach P ts ds).all (· ≤ reachBytes) = true) {enc : TypeId × Value → H} {w : World} {base : Nat} {held : Bool} {fu j t e : Nat} {A : Option Addr} {n c : Nat} {d : DataW H} {p : List MemPlace}
    (ht : ts[j]? = some t) (hd : ds[j]? = some d) (hu : P.underlying t = some (.slice e)) {b : Nat} (hb : P.bytesOf e = b) (hx : DataW.trod enc P w base (fun _ => true) held fu t (Value.slice A n c).cells.toList = some (d, p)) : n * b ≤ 140737488351232 := by
  rcases DataW.trod_slice hu hx with ⟨h1, _⟩ | ⟨a, len, cap, elems, rest, m, _, h1, h2, hb', hl, hm, hlen, hel, hsp, _⟩
  · simp [Value.cells] at h1
    obtain ⟨_, h2, _⟩ := h1
    subst h2; simp
  · simp [Value.cells] at h1
    obtain ⟨_, h3, h4⟩ := h1
    subst h3
    have hd' : d = .slice (elems.map (·.1)) (rest.map (·.1)) := by have h9 := h2; simp only [Prod.mk.injEq] at h9; exact h9.1
    subst hd'
    have := sized_slice hz ht hd hu
    rw [hb] at this
    simp only [List.length_map, hlen] at this
    have h5 : n * b ≤ (n + rest.length) * b := Nat.mul_le_mul_right _ (by omega)
    unfold reachBytes at this
    omega
end Go.Gol
