/- A slice's tail, and what is known of its block. No program is named here. -/
import Derived.Test.YtdlpnhfgjficgaaGreatMBs
namespace Go.Proofs.YtdlpnhfgjficgaaGreat
open Go.RowKit Go.Maps

/-- How long a slice is. -/
def vlen : Value → Nat
  | .slice _ n _ => n
  | _ => 0
theorem slice_suf_off {P : Program} {t e : TypeId} {size : Nat} (ht : P.underlying t = some (.slice e)) {w : World} {a : Option Addr} {n cap : Nat} {xs : List Value} (h : Row w (.slice a n cap) n size xs) {k : Nat} (hk : k ≤ n) (hp : a = none ∨ ∃ b o, a = some ⟨b, o, none⟩) (hsz : ∀ W, (sizeOf e).run P W = .ok size W) :
    ∃ v1, (∀ W, (Instr.slice t (.slice a n cap) (some (.int .i64 k)) none none).run P W = .ok v1 W) ∧ (∀ W, Row W (.slice a n cap) n size xs → Row W v1 (n - k) size (xs.drop (k * size))) ∧ ∀ j, v1.rb = some j → (Value.slice a n cap).rb = some j := by
  have hr := h
  obtain ⟨hl, a', cap', e', h1, h2, hc⟩ := h
  cases e'
  have hte : P.elem t = e := by simp [Program.elem, ht]
  have ht' : P.underlying t = some (.slice (P.elem t)) := by rw [hte]; exact ht
  rcases hp with rfl | ⟨b, o, rfl⟩
  · rcases hc with rfl | ⟨_, _, e, _⟩
    · obtain rfl : n = 0 := by omega
      obtain rfl : k = 0 := by omega
      obtain rfl : xs = [] := List.eq_nil_of_length_eq_zero (by simpa using hl)
      refine ⟨.slice none 0 0, fun W => ?_, fun W _ => ⟨by simp, none, 0, rfl, by omega, by simp, .inl rfl⟩, fun j hj => by simp [Value.rb] at hj⟩
      refine Eq.trans (run_slice_l (P := P) (w := W) t none 0 0 ht' .i64 (0 : Int) (by omega) (by omega)) ?_
      rw [hte, hsz]
      simp [sliced, go_sem]
    · cases e
  · by_cases hz : cap = k
    · obtain rfl : cap = n := by omega
      subst hz
      refine ⟨.slice (some ⟨b, o, none⟩) 0 0, fun W => ?_, fun W _ => ⟨by simp; omega, some ⟨b, o, none⟩, 0, by simp, by omega, by simp, .inl rfl⟩, fun j hj => by simp [Value.rb] at hj⟩
      rw [run_slice_l (P := P) (w := W) t (some ⟨b, o, none⟩) cap cap ht' .i64 (cap : Int) (by omega) (by omega), hte, hsz]
      simp [sliced, go_sem]
    · refine ⟨.slice (some ⟨b, o + k * size, none⟩) (n - k) (cap - k), fun W => ?_, fun W hW => row_suf hW hk, fun j hj => by
        simp only [Value.rb] at hj ⊢
        by_cases h0 : cap = 0
        · omega
        · have hck : cap - k ≠ 0 := by omega
          rw [if_neg hck] at hj
          rw [if_neg h0]; exact hj⟩
      rw [run_slice_l (P := P) (w := W) t (some ⟨b, o, none⟩) n cap ht' .i64 (k : Int) (by omega) (by omega), hte, hsz]
      simp [sliced, go_sem, hz, Addr.add]
end Go.Proofs.YtdlpnhfgjficgaaGreat
