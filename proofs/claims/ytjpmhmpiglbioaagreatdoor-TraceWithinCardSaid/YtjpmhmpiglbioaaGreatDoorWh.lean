/- Part of the proof: an evaluator of the model's code over pure trees, and what it computes. No condition of its own. -/
import Derived.Test.YtjpmhmpiglbioaaGreatDoorWg
set_option linter.unusedSimpArgs false
set_option linter.unusedVariables false
namespace Go.Wn
open Go Go.Proofs

structure Cfg where
  md : Nat
  tk : List Nat
  nv : Nat
  kl : Bool
  es : List Nat
  fa : List Nat

def cfgT : Tr Cfg := (.node (.node (.node (.node (.node (.node (.node .nil 12 ⟨2, [], 5, false, [], []⟩ .nil) 18 ⟨2, [], 98, true, [28], []⟩ .nil) 19 ⟨2, [], 71, true, [], []⟩ (.node (.node .nil 20 ⟨2, [], 11, false, [], []⟩ .nil) 33 ⟨0, [], 5, true, [], []⟩ .nil)) 40 ⟨2, [], 41, false, [], []⟩ (.node (.node (.node .nil 41 ⟨0, [], 6, true, [], []⟩ .nil) 43 ⟨2, [], 5, false, [], []⟩ .nil) 44 ⟨2, [], 6, false, [], []⟩ (.node (.node .nil 45 ⟨2, [], 12, false, [], []⟩ .nil) 46 ⟨2, [], 5, false, [], []⟩ .nil))) 47 ⟨2, [], 9, false, [], []⟩ (.node (.node (.node (.node .nil 48 ⟨2, [], 3, false, [], []⟩ .nil) 51 ⟨2, [], 7, false, [], []⟩ .nil) 54 ⟨2, [], 53, false, [24], []⟩ (.node (.node .nil 56 ⟨0, [4], 12, true, [], [3]⟩ .nil) 57 ⟨0, [], 7, true, [17], []⟩ .nil)) 58 ⟨0, [], 3, true, [], [3]⟩ (.node (.node (.node .nil 59 ⟨2, [], 3, false, [], []⟩ .nil) 60 ⟨2, [], 3, false, [], []⟩ .nil) 61 ⟨2, [], 3, false, [], []⟩ (.node (.node .nil 62 ⟨2, [], 3, false, [], []⟩ .nil) 63 ⟨0, [], 3, true, [], [3]⟩ .nil)))) 64 ⟨2, [], 3, false, [], []⟩ (.node (.node (.node (.node (.node .nil 65 ⟨0, [], 7, true, [16], []⟩ .nil) 66 ⟨2, [], 5, false, [], []⟩ .nil) 69 ⟨2, [], 5, false, [], []⟩ (.node (.node .nil 70 ⟨1, [], 7, false, [], []⟩ .nil) 71 ⟨1, [1], 10, false, [], []⟩ .nil)) 82 ⟨0, [], 7, true, [17], []⟩ (.node (.node (.node .nil 85 ⟨0, [], 3, true, [], []⟩ .nil) 87 ⟨0, [], 7, true, [], []⟩ .nil) 101 ⟨2, [], 7, false, [], []⟩ (.node (.node .nil 102 ⟨2, [], 22, false, [], []⟩ .nil) 106 ⟨2, [], 5, false, [3], []⟩ .nil))) 107 ⟨2, [], 5, false, [3], []⟩ (.node (.node (.node (.node .nil 108 ⟨2, [], 5, false, [3], []⟩ .nil) 109 ⟨2, [], 6, false, [], []⟩ .nil) 110 ⟨2, [], 6, false, [], []⟩ (.node (.node .nil 111 ⟨2, [], 6, false, [], []⟩ .nil) 119 ⟨2, [], 5, false, [], []⟩ .nil)) 120 ⟨2, [], 6, false, [], []⟩ (.node (.node (.node .nil 128 ⟨2, [], 58, false, [32], []⟩ .nil) 129 ⟨2, [], 3, false, [], []⟩ .nil) 130 ⟨0, [], 39, true, [], []⟩ (.node .nil 134 ⟨2, [], 8, false, [], []⟩ .nil))))) 135 ⟨0, [], 9, true, [], []⟩ (.node (.node (.node (.node (.node (.node .nil 136 ⟨0, [], 5, true, [], [1]⟩ .nil) 137 ⟨2, [], 11, false, [], []⟩ .nil) 142 ⟨1, [], 8, false, [], []⟩ (.node (.node .nil 144 ⟨1, [], 11, false, [], []⟩ .nil) 154 ⟨0, [], 1, true, [2], []⟩ .nil)) 155 ⟨0, [], 1, true, [], []⟩ (.node (.node (.node .nil 156 ⟨0, [], 3, true, [], []⟩ .nil) 165 ⟨0, [], 44, true, [], []⟩ .nil) 166 ⟨0, [], 3, true, [], []⟩ (.node (.node .nil 180 ⟨2, [], 5, false, [], []⟩ .nil) 183 ⟨2, [], 3, false, [], []⟩ .nil))) 187 ⟨2, [], 5, false, [], []⟩ (.node (.node (.node (.node .nil 188 ⟨2, [], 4, false, [], []⟩ .nil) 189 ⟨2, [], 5, false, [], []⟩ .nil) 190 ⟨2, [], 5, false, [], []⟩ (.node (.node .nil 191 ⟨2, [], 4, false, [], []⟩ .nil) 192 ⟨2, [], 5, false, [], []⟩ .nil)) 193 ⟨2, [], 5, false, [], []⟩ (.node (.node (.node .nil 194 ⟨2, [], 4, false, [], []⟩ .nil) 195 ⟨2, [], 5, false, [], []⟩ .nil) 202 ⟨2, [], 4, false, [], []⟩ (.node (.node .nil 203 ⟨2, [], 5, false, [], []⟩ .nil) 210 ⟨2, [], 92, false, [18], []⟩ .nil)))) 211 ⟨2, [], 14, false, [10], []⟩ (.node (.node (.node (.node (.node .nil 215 ⟨0, [], 10, true, [], []⟩ .nil) 220 ⟨2, [], 3, false, [], []⟩ .nil) 221 ⟨2, [], 9, false, [], []⟩ (.node (.node .nil 222 ⟨2, [], 7, false, [], []⟩ .nil) 232 ⟨0, [], 11, true, [7], []⟩ .nil)) 238 ⟨0, [], 7, true, [], []⟩ (.node (.node (.node .nil 249 ⟨2, [], 21, false, [], []⟩ .nil) 250 ⟨2, [], 3, false, [], []⟩ .nil) 251 ⟨2, [], 9, false, [], []⟩ (.node (.node .nil 252 ⟨2, [], 9, false, [], []⟩ .nil) 253 ⟨2, [], 9, false, [], []⟩ .nil))) 254 ⟨2, [], 9, false, [], []⟩ (.node (.node (.node (.node .nil 255 ⟨2, [], 9, false, [], []⟩ .nil) 256 ⟨2, [], 9, false, [], []⟩ .nil) 269 ⟨0, [], 36, true, [1], []⟩ (.node (.node .nil 271 ⟨2, [], 3, false, [], []⟩ .nil) 290 ⟨2, [], 3, false, [], []⟩ .nil)) 296 ⟨2, [], 10, false, [], [3]⟩ (.node (.node (.node .nil 301 ⟨2, [], 10, false, [], []⟩ .nil) 304 ⟨2, [], 10, false, [], []⟩ .nil) 313 ⟨2, [], 3, false, [], []⟩ (.node .nil 330 ⟨2, [], 9, false, [], []⟩ .nil))))))

def memN : List Nat → Nat → Bool
  | [], _ => false
  | x :: xs, n => Nat.beq x n || memN xs n

def cfg (f : Nat) : Cfg := (cfgT.get f).getD ⟨2, [], 0, false, [], []⟩

noncomputable def env0 : Env where
  Q := tabOf' tyT fnT
  dok := fun _ _ => true
  md := fun f => (cfg f).md
  tk := fun f => (cfg f).tk
  nvs := fun f => (cfg f).nv
  kl := fun f _ => (cfg f).kl
  esc := fun f d => memN (cfg f).es d
  nilF := fun _ => true
  farr := fun f r => memN (cfg f).fa r
  sum := fun _ => none

end Go.Wn
