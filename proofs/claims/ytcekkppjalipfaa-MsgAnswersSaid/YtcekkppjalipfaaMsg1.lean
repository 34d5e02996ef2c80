/-
  Messages: their cells; what they are as bytes (plain); contracts of mixed.
-/
import Derived.Test.YtcekkppjalipfaaPlain2
import Derived.Deep.DeepMust
namespace Go.Proofs.Ytcekkppjalipfaa.Avp
open Go.RowKit Mem Cells Avps Wire Ops
set_option linter.unusedVariables false
set_option linter.unusedSimpArgs false

/-- A message. -/
structure M where
  req : Bool
  prox : Bool
  fail : Bool
  again : Bool
  code : Int
  app : Int
  hop : Int
  fin : Int
  avps : List A
def u32 (n : Int) : Prop := 0 ≤ n ∧ n ≤ 4294967295
def M.ok (m : M) : Prop := u32 m.code ∧ u32 m.app ∧ u32 m.hop ∧ u32 m.fin ∧ ∀ a ∈ m.avps, a.ok
/-- Its cells; d is the slice of its attributes. -/
def rowM (m : M) (d : Value) : Array Value := #[.bool m.req, .bool m.prox, .bool m.fail, .bool m.again, .int .u32 m.code, .int .u32 m.app, .int .u32 m.hop, .int .u32 m.fin, d]
def mixB (m : M) : Bool := (m.req && m.fail) || (!m.req && m.again)
def flagM (m : M) : Int := (if m.req then 128 else 0) + (if m.prox then 64 else 0) + (if m.fail then 32 else 0) + (if m.again then 16 else 0)
/-- The bytes ahead of the attributes. -/
def headM (m : M) (n : Int) : List Int := [1] ++ bytesOf (20 + n) 3 3 ++ [flagM m] ++ bytesOf m.code 3 3 ++ bytesOf m.app 4 4 ++ bytesOf m.hop 4 4 ++ bytesOf m.fin 4 4
/-- What PutMsg answers. -/
def putM (m : M) : List Int × Int :=
  if 16777215 < m.code then ([], 11) else if mixB m = true then ([], 2) else
  if (putOf m.avps).2 ≠ 0 then ([], (putOf m.avps).2) else if 4096 < 20 + (putOf m.avps).1.length then ([], 4) else (headM m (putOf m.avps).1.length ++ (putOf m.avps).1, 0)
theorem headM_len (m : M) (n : Int) : (headM m n).length = 20 := by simp [headM, bytesOf_length]

set_option maxRecDepth 100000 in
set_option maxHeartbeats 800000 in
theorem mixed (m : M) (d : Value) (w : World) (hd : d.oneCell' = true) : Calls Try.prog 29 #[.agg (rowM m d)] w fun e w' => e = .returned (.bool (mixB m)) ∧ Below w.heap.size w w' := by
  have hm : mixB m = ((m.req && m.fail) || (!m.req && m.again)) := rfl
  rw [hm]
  clear hm
  obtain ⟨q, hq⟩ : ∃ q, m.req = q := ⟨_, rfl⟩
  obtain ⟨f, hf⟩ : ∃ f, m.fail = f := ⟨_, rfl⟩
  obtain ⟨g, hg⟩ : ∃ g, m.again = g := ⟨_, rfl⟩
  rw [hq, hf, hg]
  have HQ := Lib.hid hq
  have HF := Lib.hid hf
  have HG := Lib.hid hg
  clear hq hf hg
  cases q <;> cases f <;> cases g
  all_goals
    go_enter Try.func29, Try.ntmps29
    go_wp2_with ((with_reducible refine wpl_boxAt rfl 25 (.tmp 0) rfl (rowM m d) ?_ ?_); rfl; go_must (intro w1 hat1 hb1 hs1; have HS1 := Lib.hid hs1; have c0 := hat1.cell 0; have c2 := hat1.cell 2; have c3 := hat1.cell 3; simp [rowM] at c0 c2 c3; rw [HQ.out] at c0; rw [HF.out] at c2; rw [HG.out] at c3; clear hs1 hat1))
    go_ret
    exact ⟨rfl, hb1⟩
set_option maxRecDepth 100000 in
set_option maxHeartbeats 800000 in
theorem refMixed (m : M) (d : Value) (w : World) (hd : d.oneCell' = true) : Calls Try.prog 33 #[.agg (rowM m d)] w fun e w' => e = .returned (.bool (mixB m)) ∧ Below w.heap.size w w' := by
  have hm : mixB m = ((m.req && m.fail) || (!m.req && m.again)) := rfl
  rw [hm]
  clear hm
  obtain ⟨q, hq⟩ : ∃ q, m.req = q := ⟨_, rfl⟩
  obtain ⟨f, hf⟩ : ∃ f, m.fail = f := ⟨_, rfl⟩
  obtain ⟨g, hg⟩ : ∃ g, m.again = g := ⟨_, rfl⟩
  rw [hq, hf, hg]
  have HQ := Lib.hid hq
  have HF := Lib.hid hf
  have HG := Lib.hid hg
  clear hq hf hg
  cases q <;> cases f <;> cases g
  all_goals
    go_enter Try.func33, Try.ntmps33
    go_wp2_with ((with_reducible refine wpl_boxAt rfl 25 (.tmp 0) rfl (rowM m d) ?_ ?_); rfl; go_must (intro w1 hat1 hb1 hs1; have HS1 := Lib.hid hs1; have c0 := hat1.cell 0; have c2 := hat1.cell 2; have c3 := hat1.cell 3; simp [rowM] at c0 c2 c3; rw [HQ.out] at c0; rw [HF.out] at c2; rw [HG.out] at c3; clear hs1 hat1))
    go_ret
    exact ⟨rfl, hb1⟩
end Go.Proofs.Ytcekkppjalipfaa.Avp
