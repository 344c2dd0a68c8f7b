/- Plan.few. -/
import Derived.Test.YtffafdkjgllpcaaPlaysA
namespace Go.Proofs.Ytffafdkjgllpcaa
open Go.RowKit Go.Maps

def plan (d1 d2 receipt start term skew : Int) (vo : Value) : Array Value := #[.int .i64 d1, .int .i64 d2, .int .i64 receipt, .int .i64 start, .int .i64 term, .int .i64 skew, vo]

set_option maxHeartbeats 400000 in
theorem few_any (d1 d2 receipt start term skew : Int) (v : Value) (l : List Int) (w : World) (hr : Ints w v l) :
    Calls Try.prog 14 #[.agg (plan d1 d2 receipt start term skew v)] w fun e w' => ∃ v', e = .returned (.agg (plan d1 d2 receipt start term skew v')) ∧ Ints w' v' (l.take 70) ∧ Pure w w' ∧ ∀ k, v'.rb = some k → v.rb = some k := by
  obtain ⟨a, cap, rfl⟩ := hr.shape
  obtain ⟨_, h1, h2, hc⟩ := hr.cell
  have Hr0 := hid hr
  have hpw := hid (fun o o' => (show Pure w ((w.alloc o).alloc o') from ((Below.refl _ _).alloc (Nat.le_refl _) _).alloc (by simp) _))
  unfold plan
  by_cases hl : 70 < l.length
  · have hcap : 70 ≤ cap := by omega
    have e70 : (l.take 70).length = 70 := by simp; omega
    obtain ⟨b, off, rfl⟩ : ∃ b off, a = some ⟨b, off, none⟩ := by
      rcases hc with ⟨h, _⟩ | ⟨b, off, h, _⟩
      · rw [h] at hl; simp at hl
      · exact ⟨b, off, h⟩
    have Hr := hid (fun W (hW : Pure w W) => ints_pre (Hr0.out.pure hW) (show 70 ≤ l.length by omega))
    clear hr hc
    have hl' : (70 : Int) < (l.length : Int) := by omega
    go_enter Try.func14, Try.ntmps14
    go_wp2
    refine bodyPost_ret (v := .agg (plan d1 d2 receipt start term skew (.slice (some ⟨b, off, none⟩) 70 cap))) (by simp [results, Try.results14, go_sem, plan]) rfl ⟨_, rfl, ?_, ?_⟩
    · exact Hr.out _ (hpw.out _ _)
    · exact ⟨hpw.out _ _, fun _ h => h⟩
  · have e : l.take 70 = l := List.take_of_length_le (by omega)
    rw [e]
    clear hr hc e
    have hl' : (l.length : Int) ≤ 70 := by omega
    go_enter Try.func14, Try.ntmps14
    go_wp2
    refine bodyPost_ret (v := .agg (plan d1 d2 receipt start term skew (.slice a l.length cap))) (by simp [results, Try.results14, go_sem, plan]) rfl ⟨_, rfl, ?_, ?_⟩
    · exact Hr0.out.pure (hpw.out _ _)
    · exact ⟨hpw.out _ _, fun _ h => h⟩

end Go.Proofs.Ytffafdkjgllpcaa
