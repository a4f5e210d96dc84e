/- lex.run: how many bytes are so. -/
import Derived.Test.YtlaafpbhhnehgaaDoorL1
import Derived.Shelf.Abstract
namespace Go.Proofs.YtlaafpbhhnehgaaDoor
set_option linter.unusedVariables false
set_option linter.unusedSimpArgs false
open Go.RowKit

/-- how many bytes from the start are so -/
def runL (p : Int → Bool) : List UInt8 → Nat
  | [] => 0
  | c :: t => if p c.toNat then runL p t + 1 else 0

def BytePred (g : Nat) (p : Int → Bool) : Prop := ∀ (c : Int) (W : World), 0 ≤ c → c ≤ 255 → Calls Tryd.prog g #[.int .u8 c] W fun e w' => e = .returned (.bool (p c)) ∧ Below W.heap.size W w'

def natOf : Value → Nat
  | .int _ n => n.toNat
  | _ => 0

theorem get_lt {s : ByteArray} {c : Nat} (h : c < s.size) : s.data.toList.drop c = s[c] :: s.data.toList.drop (c + 1) := by
  have h' : c < s.data.toList.length := by simpa using h
  rw [List.drop_eq_getElem_cons h']
  rfl

set_option maxRecDepth 100000 in
set_option maxHeartbeats 1000000 in
theorem run_c (g : Nat) (eg : ∀ args w, (callFunc g args).run Tryd.prog w = .ok (.enter g args) w) (p : Int → Bool) (hp : BytePred g p) (s : ByteArray) (w : World) (hs : s.size ≤ 140737488355328) :
    Calls Tryd.prog 72 #[.string s, .func (.func g) #[] #[]] w fun e w' => e = .returned (.int .i64 (runL p s.data.toList)) ∧ Below w.heap.size w w' := by
  go_enter Tryd.func72, Tryd.ntmps72
  go_wp2
  go_loopw [5] (fun v wr => ∃ c : Nat, v = Value.int .i64 c ∧ Below w.heap.size w wr ∧ c ≤ s.size ∧ runL p s.data.toList = c + runL p (s.data.toList.drop c)) (fun v _ => s.size - natOf v)
  case atStart => exact ⟨0, rfl, Below.refl _ _, by omega, by simp⟩
  case round =>
    obtain ⟨c, rfl, HB, hc, hr⟩ := hrel
    by_cases hlt : c < s.size
    · have hx0 := (s[c]).toNat_lt
      have cS := hp (s[c]).toNat wr (by omega) (by omega)
      rw [get_lt hlt, runL] at hr
      cases hpc : p (s[c]).toNat
      · rw [hpc] at cS hr
        simp only [Bool.false_eq_true, if_false] at hr
        go_wp2_with (go_at_fn g; refine cS.mono ?_; rintro e W' ⟨rfl, hb⟩)
        go_ret
        exact ⟨by rw [hr] <;> rfl, HB.trans (hb.mono HB.size)⟩
      · rw [hpc] at cS hr
        simp only [if_true] at hr
        go_wp2_with (go_at_fn g; refine cS.mono ?_; rintro e W' ⟨rfl, hb⟩)
        go_roundw
        case rel => exact ⟨c + 1, by go_num, HB.trans (hb.mono HB.size), by omega, by omega⟩
        case measure => simp [natOf]; omega
    · have hce : c = s.size := by omega
      go_wp2
      go_ret
      exact ⟨by rw [hr, hce, List.drop_of_length_le (by simp)]; simp [runL], HB⟩

end Go.Proofs.YtlaafpbhhnehgaaDoor
