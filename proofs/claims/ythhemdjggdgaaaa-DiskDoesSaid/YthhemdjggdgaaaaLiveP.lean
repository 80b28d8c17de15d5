/- live: what is computed. -/
import Derived.Test.YthhemdjggdgaaaaWrite
namespace Go.Proofs.Ythhemdjggdgaaaa
open Go.RowKit
set_option linter.unusedVariables false

def liveB : Bs := 7 :: 0 :: 0 :: 0 :: 9 :: List.replicate 27 0
def live1 : Dk := (fresh 2).put 1 liveB (-1)
def live2 : Dk := live1.settled (maskAt [1]) (-1)
def live3 : Bs := 7 :: List.replicate 31 0
theorem live1_wet : live1.wet = [(1, liveB)] := rfl
theorem fresh2 : Good (fresh 2) := fresh_good (by omega) (by omega)
theorem live1_is : writeS (fresh 2) 1 liveB = (live1, 0) := by
  rw [writeS_ok ⟨fresh2, by omega, by rw [fresh_n]; omega⟩ rfl]
  exact write0_ok 1 liveB rfl (by decide) rfl
theorem live1_good : Good live1 where
  one := by decide +kernel
  max := by decide +kernel
  whole := by decide +kernel
  left0 := by decide +kernel
  left1 := by decide +kernel
  at0 := fun i hi => by rw [live1_wet] at hi ⊢; obtain rfl : i = 0 := by simp at hi; omega
                        decide
  at1 := fun i hi => by rw [live1_wet] at hi ⊢; obtain rfl : i = 0 := by simp at hi; omega
                        decide +kernel
  len := fun i hi => by rw [live1_wet] at hi ⊢; obtain rfl : i = 0 := by simp at hi; omega
                        rfl
  up := fun i hi => by rw [live1_wet] at hi; simp at hi
theorem live2_is : crashS live1 [1] = (live2, 0) := crashS_ok live1_good _
theorem live2_good : Good live2 where
  one := by decide +kernel
  max := by decide +kernel
  whole := by decide +kernel
  left0 := by decide +kernel
  left1 := by decide +kernel
  at0 := fun i hi => by simp [live2, Dk.settled] at hi
  at1 := fun i hi => by simp [live2, Dk.settled] at hi
  len := fun i hi => by simp [live2, Dk.settled] at hi
  up := fun i hi => by simp [live2, Dk.settled] at hi
theorem live3_is : readS live2 1 = (live3, 0) := by
  rw [readS_ok ⟨live2_good, by omega, by decide +kernel⟩]
  congr 1
end Go.Proofs.Ythhemdjggdgaaaa
