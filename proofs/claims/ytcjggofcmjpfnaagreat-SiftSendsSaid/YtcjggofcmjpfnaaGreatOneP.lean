/- law18's bags, as data. -/
import Derived.Test.YtcjggofcmjpfnaaGreatPut
namespace Go.Proofs.YtcjggofcmjpfnaaGreat
open Go.RowKit Go.Maps

def om (i : Nat) : Msg := ((1, 1 + (i : Int)), [113], [], 0)
def oneB (k : Nat) : Bag := ((List.range k).map om, if k = 0 then [] else [(1, (k : Int))], [])
theorem oneB_step : ∀ k, k < 7 → bput (oneB k) (om k) = oneB (k + 1)
  | 0, _ => by decide
  | 1, _ => by decide
  | 2, _ => by decide
  | 3, _ => by decide
  | 4, _ => by decide
  | 5, _ => by decide
  | 6, _ => by decide
  | _ + 7, h => by omega
theorem om_may : ∀ k, k < 7 → mmay (om k) = true
  | 0, _ => by decide
  | 1, _ => by decide
  | 2, _ => by decide
  | 3, _ => by decide
  | 4, _ => by decide
  | 5, _ => by decide
  | 6, _ => by decide
  | _ + 7, h => by omega
theorem om_new : ∀ k, k < 7 → chas (oneB k).2.1 (oneB k).2.2 (om k).1 = false
  | 0, _ => by decide
  | 1, _ => by decide
  | 2, _ => by decide
  | 3, _ => by decide
  | 4, _ => by decide
  | 5, _ => by decide
  | 6, _ => by decide
  | _ + 7, h => by omega
end Go.Proofs.YtcjggofcmjpfnaaGreat
