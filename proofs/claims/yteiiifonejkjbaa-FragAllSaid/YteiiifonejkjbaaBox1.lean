/-
  What a box's calls answer, by plain functions on lists; how a finite list bounds its keys. No program.
-/
import Derived.Test.YteiiifonejkjbaaBox0
namespace Go.Proofs.Yteiiifonejkjbaa.Bx
open Go.RowKit Mem Cells Ops Pcs Go.Maps Go.Proofs.Yteiiifonejkjbaa.Open
set_option linter.unusedVariables false
set_option linter.unusedSimpArgs false

def prv (t : Int) : Int := IntKind.u32.wrap (t - 1)
def nxt (t : Int) : Int := IntKind.u32.wrap (t + 1)
def nx16 (t : Int) : Int := IntKind.u16.wrap (t + 1)
def alikeB (p q : A) : Bool := p.stream == q.stream && p.seq == q.seq && p.un == q.un
def backF : Nat → List A → A → Int → A → Option Int
  | 0, _, _, _, _ => none
  | f + 1, h, p, first, q => if q.bg = true then some first else match getH h (prv first) with
    | none => none
    | some r => if alikeB r p = true ∧ r.en = false then backF f h p (prv first) r else none
def fwdF : Nat → List A → A → Int → Int → Nat → Option Nat
  | 0, _, _, _, _, _ => none
  | f + 1, h, p, first, t, n => match getH h t with
    | none => none
    | some q => if alikeB q p = true ∧ q.bg = decide (t = first) then (if q.en = true then some (n + 1) else fwdF f h p first (nxt t) (n + 1)) else none
def wholeF (h : List A) (p : A) : Int × Nat := match backF 600 h p p.tsn p with
  | none => (0, 0)
  | some first => match fwdF 600 h p first first 0 with
    | none => (0, 0)
    | some n => (first, n)
def rm (h : List A) (t : Int) : List A := h.filter fun a => a.tsn != t
def dataH (h : List A) (t : Int) : List Int := match getH h t with
  | some a => a.data
  | none => []
def takeF : Nat → List A → Int → List Int → List A × List Int
  | 0, h, _, acc => (h, acc)
  | n + 1, h, t, acc => takeF n (rm h t) (nxt t) (acc ++ dataH h t)
def rmW (l : List T) (s q : Int) : List T := l.filter fun y => !(y.s == s && y.q == q)
def readyF : Nat → List T → (Nat → Int) → Nat → List G → List T × (Nat → Int) × List G
  | 0, l, nx, _, out => (l, nx, out)
  | f + 1, l, nx, s, out => match getW l s (nx s) with
    | none => (l, nx, out)
    | some y => readyF f (rmW l s (nx s)) (Chunk.upd nx s (nx16 (nx s))) s (out ++ [⟨s, y.data⟩])
def badF (p : A) : Bool := decide (p.data.length = 0 ∨ 256 < p.data.length ∨ 8 ≤ p.stream)
def waitF (l : List T) (p : A) (xs : List Int) : List T := if (getW l p.stream p.seq).isSome then l else l ++ [⟨p.stream, p.seq, xs⟩]
/-- What Put makes of a box, what it tells, and its error. -/
def putF (x : S) (p : A) : S × List G × Int :=
  if badF p = true then (x, [], 2)
  else if (getH x.held p.tsn).isSome then (x, [], 9)
  else if 512 ≤ x.held.length then (x, [], 10)
  else match wholeF (x.held ++ [p]) p with
    | (first, 0) => ({ x with held := x.held ++ [p] }, [], 0)
    | (first, n + 1) =>
      let t := takeF (n + 1) (x.held ++ [p]) first []
      if p.un = true then ({ x with held := t.1 }, [⟨p.stream, t.2⟩], 0)
      else
        let l := waitF x.wait p t.2
        let r := readyF (l.length + 1) l x.next p.stream.toNat []
        (⟨t.1, r.1, r.2.1⟩, r.2.2, 0)

/-! Finite lists. -/
theorem nodup_le {α : Type} [DecidableEq α] : ∀ {l m : List α}, l.Nodup → (∀ x ∈ l, x ∈ m) → l.length ≤ m.length
  | [], m, _, _ => Nat.zero_le _
  | x :: l, m, hn, hs => by
    rw [List.nodup_cons] at hn
    have hx := hs x (by simp)
    have h1 : ∀ y ∈ l, y ∈ m.erase x := fun y hy => (List.mem_erase_of_ne (fun e => hn.1 (by rw [← e]; exact hy))).2 (hs y (by simp [hy]))
    have h2 := nodup_le hn.2 h1
    rw [List.length_erase_of_mem hx] at h2
    have h3 := List.length_pos_of_mem hx
    simp only [List.length_cons]
    omega
theorem getH_mem {h : List A} {t : Int} {a : A} (hg : getH h t = some a) : a ∈ h ∧ a.tsn = t := by
  unfold getH at hg
  exact ⟨List.mem_of_find?_eq_some hg, by simpa using List.find?_some hg⟩
theorem wrap32 (x : Int) : IntKind.u32.wrap x = x % 4294967296 := by
  simp [IntKind.wrap, IntKind.bits, IntKind.signed]
theorem wrap16 (x : Int) : IntKind.u16.wrap x = x % 65536 := by
  simp [IntKind.wrap, IntKind.bits, IntKind.signed]
theorem u32_wrap (x : Int) : isU32 (IntKind.u32.wrap x) := by rw [wrap32]; unfold isU32; omega
theorem u16_wrap (x : Int) : isU16 (IntKind.u16.wrap x) := by rw [wrap16]; unfold isU16; omega
/-- So many steps back (k can be negative: on). -/
def stp (t k : Int) : Int := IntKind.u32.wrap (t + k)
theorem stp_inj {t i j : Int} (h : stp t i = stp t j) (h1 : i - j < 4294967296) (h2 : j - i < 4294967296) : i = j := by
  unfold stp at h
  rw [wrap32, wrap32] at h
  omega
theorem stp_0 {t : Int} (h : isU32 t) : stp t 0 = t := by unfold stp; rw [wrap32]; unfold isU32 at h; omega
theorem prv_stp (t k : Int) : prv (stp t k) = stp t (k - 1) := by unfold prv stp; rw [wrap32, wrap32, wrap32]; omega
theorem nxt_stp (t k : Int) : nxt (stp t k) = stp t (k + 1) := by unfold nxt stp; rw [wrap32, wrap32, wrap32]; omega
/-- Of so many steps in a row, all held, there are no more than are held. -/
theorem steps_le {h : List A} {t : Int} (d : Int) (hd : d = 1 ∨ d = -1) {k : Nat} (hk : k ≤ 100000) (hall : ∀ i : Nat, i < k → (getH h (stp t (d * i))).isSome = true) : k ≤ h.length := by
  have hn : ((List.range k).map fun i : Nat => stp t (d * i)).Nodup := by
    rw [List.nodup_iff_pairwise_ne, List.pairwise_map]
    have := List.nodup_range (n := k)
    rw [List.nodup_iff_pairwise_ne] at this
    refine List.Pairwise.imp_of_mem ?_ this
    intro i j hi hj hij e
    have hi' := List.mem_range.1 hi
    have hj' := List.mem_range.1 hj
    rcases hd with rfl | rfl
    · have := stp_inj e (by omega) (by omega); omega
    · have := stp_inj e (by omega) (by omega); omega
  have hs : ∀ x ∈ (List.range k).map fun i : Nat => stp t (d * i), x ∈ h.map (·.tsn) := by
    intro x hx
    obtain ⟨i, hi, rfl⟩ := List.mem_map.1 hx
    have := hall i (List.mem_range.1 hi)
    obtain ⟨a, ha⟩ := Option.isSome_iff_exists.1 this
    obtain ⟨h1, h2⟩ := getH_mem ha
    exact List.mem_map.2 ⟨a, h1, h2⟩
  have := nodup_le hn hs
  simpa using this
end Go.Proofs.Yteiiifonejkjbaa.Bx
