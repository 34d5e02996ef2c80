/-
  What a call makes of both nets; regions in which both are called, in whichever order (plain). No walk.
-/
import Derived.Test.YtmdhpjbahenbhaaRef6
import Derived.Test.YtmdhpjbahenbhaaMonoJ
namespace Go.Proofs.Ytmdhpjbahenbhaa.Net
open Go.RowKit Mem Cells Ops Go.Maps
set_option linter.unusedVariables false
set_option linter.unusedSimpArgs false

theorem rSendX {X : Nat → Prop} {w : World} {S : Nat} {hosts : Int} {fs : List F} {cut : Int → Int → Int → Bool} (h : RNet X w S hosts fs cut) (fh fp th tp : Int) (v : Value) (xs : List Int) (hr : Reads .u8 w v xs) (hx : ∀ x ∈ xs, 0 ≤ x ∧ x ≤ 255) (hl : xs.length ≤ 9223372036854775807) :
    Calls Try.prog 26 #[.pointer (some ⟨S, 0, none⟩), .agg #[.int .i64 fh, .int .i64 fp], .agg #[.int .i64 th, .int .i64 tp], v] w fun e w' => e = .returned (.int .i64 (sendE hosts fh fp th tp xs)) ∧ RNet (more X w w') w' S hosts (sendL hosts cut fh fp th tp xs fs) cut ∧ ButX X w w' := by
  have hh := h
  obtain ⟨zs, p, m, c, ds, h0⟩ := hh
  cases ha : sendArg hosts fh fp th tp with
  | false =>
    have e1 : sendE hosts fh fp th tp xs = 1 := by unfold sendE; rw [ha]; rfl
    have e2 : sendL hosts cut fh fp th tp xs fs = fs := by unfold sendL; rw [e1]; simp
    rw [e1, e2]
    exact (rSendBad h0.row h0.h0 fh fp th tp _ ha).mono fun e w' ⟨h1, h2⟩ => ⟨h1, h.old h2⟩
  | true =>
    obtain ⟨pv, cv, rfl, _⟩ := id hr
    by_cases hL : 4096 < xs.length
    · have e1 : sendE hosts fh fp th tp xs = 4 := by unfold sendE; rw [ha, if_pos rfl, if_pos hL]
      have e2 : sendL hosts cut fh fp th tp xs fs = fs := by unfold sendL; rw [e1]; simp
      rw [e1, e2]
      exact (rSendLarge h0.row h0.h0 h0.hosts.2 fh fp th tp pv xs.length cv ha hL hl).mono fun e w' ⟨h1, h2⟩ => ⟨h1, h.old h2⟩
    · have e1 : sendE hosts fh fp th tp xs = 0 := by unfold sendE; rw [ha, if_pos rfl, if_neg hL]
      rw [e1]
      by_cases hroom : fs.length < 1024
      · cases hc : cut fh th fp with
        | true =>
          have e2 : sendL hosts cut fh fp th tp xs fs = fs := by unfold sendL goes; rw [hc]; simp
          rw [e2]
          exact (rSendLost2 h fh fp th tp pv xs.length cv ha (by omega) hroom hc).mono fun e w' ⟨h1, h2⟩ => ⟨h1, h.old h2⟩
        | false =>
          have e2 : sendL hosts cut fh fp th tp xs fs = fs ++ [⟨fh, fp, th, tp, xs, false⟩] := by unfold sendL goes; rw [hc, e1]; simp [hroom]
          rw [e2]
          exact rSendGoes h fh fp th tp _ xs hr hx ha (by omega) hroom hc
      · have e2 : sendL hosts cut fh fp th tp xs fs = fs := by unfold sendL goes; rw [decide_eq_false hroom]; simp
        rw [e2]
        exact (rSendLost1 h fh fp th tp pv xs.length cv ha (by omega) hroom).mono fun e w' ⟨h1, h2⟩ => ⟨h1, h.old h2⟩
/-! The net's calls, in all cases. -/
section
variable {X : Nat → Prop} {w : World} {S : Nat} {hosts : Int} {fs : List F} {cut : Int → Int → Int → Bool} {n : Nat}
theorem twinX (h : Net X w S hosts fs cut n) (k : Int) :
    Calls Try.prog 15 #[.pointer (some ⟨S, 0, none⟩), .int .i64 k] w fun e w' => e = .returned (.int .i64 (twinE fs k)) ∧ Net (more X w w') w' S hosts (twinL fs k) cut n ∧ ButX X w w' := by
  cases hk : inB fs.length k with
  | false =>
    have e1 : twinE fs k = 8 := by unfold twinE; rw [hk]; rfl
    have e2 : twinL fs k = fs := by unfold twinL; rw [e1]; rfl
    rw [e1, e2]
    exact (TwinNone h k hk).mono fun e w' ⟨e1, e2⟩ => by subst e2; exact ⟨e1, h.mono more_self, ButX.refl _ _⟩
  | true =>
    by_cases hf : 1024 ≤ fs.length
    · have e1 : twinE fs k = 10 := by unfold twinE; rw [hk, if_pos rfl, if_pos hf]
      have e2 : twinL fs k = fs := by unfold twinL; rw [e1]; rfl
      rw [e1, e2]
      exact (TwinFull h k hk hf).mono fun e w' ⟨e1, e2⟩ => by subst e2; exact ⟨e1, h.mono more_self, ButX.refl _ _⟩
    · have e1 : twinE fs k = 0 := by unfold twinE; rw [hk, if_pos rfl, if_neg hf]
      have hk' : 0 ≤ k ∧ k < fs.length := by simpa [inB] using hk
      obtain ⟨j, rfl⟩ : ∃ j : Nat, k = j := ⟨k.toNat, by omega⟩
      have hj : j < fs.length := by omega
      have e2 : twinL fs j = fs ++ [fs[j]] := by unfold twinL takeF; rw [e1, if_pos rfl, hk, if_pos rfl]; simp [hj]
      rw [e1, e2]
      refine (TwinOk h j hj (by omega)).mono fun e w' ⟨h1, ⟨f, hf, h2⟩, h3⟩ => ⟨h1, ?_, h3⟩
      rw [List.getElem?_eq_getElem hj] at hf
      cases hf
      exact h2
theorem cutX (h : Net X w S hosts fs cut n) (f t q : Int) (d : Bool) (hn : n < 1000000) :
    Calls Try.prog 13 #[.pointer (some ⟨S, 0, none⟩), .int .i64 f, .int .i64 t, .int .i64 q, .bool d] w fun e w' => e = .returned (.int .i64 (if cutArg hosts f t q then 0 else 1)) ∧ Net (more X w w') w' S hosts fs (if cutArg hosts f t q then cutF cut f t q d else cut) (if cutArg hosts f t q then n + 1 else n) ∧ ButX X w w' := by
  cases hk : cutArg hosts f t q with
  | false => exact (CutBad h f t q d hk).mono fun e w' ⟨e1, e2⟩ => ⟨e1, h.old e2⟩
  | true => exact (CutOk h f t q d hk hn).mono fun e w' ⟨e1, e2, e3⟩ => ⟨e1, e2.mono more_self, e3⟩
end

/-! A region in which both nets are called. -/
/-- c1, c2: the calls of the net and of the reference's; fs, cut, n: ahead of them; fs', cut', n': behind. -/
structure JT (Z : Nat → Prop) (w0 : World) (S R : Nat) (hosts : Int) (fs fs' : List F) (cut cut' : Int → Int → Int → Bool) (n n' : Nat) (c1 c2 : Nat) (l : Array Bool) (x : World) : Prop where
  two : Two Z x S R hosts (if l.getD c1 false = true then fs' else fs) (if l.getD c2 false = true then fs' else fs) (if l.getD c1 false = true then cut' else cut) (if l.getD c2 false = true then cut' else cut) (if l.getD c1 false = true then n' else n)
  but : ButX (fun k => ¬ Z k) w0 x
section
variable {Z : Nat → Prop} {w0 : World} {S R : Nat} {hosts : Int} {fs fs' : List F} {cut cut' : Int → Int → Int → Bool} {n n' : Nat} {c1 c2 : Nat} {l : Array Bool} {x y : World}
theorem JT.pure (h : JT Z w0 S R hosts fs fs' cut cut' n n' c1 c2 l x) (j : Nat) (h1 : j ≠ c1) (h2 : j ≠ c2) : JT Z w0 S R hosts fs fs' cut cut' n n' c1 c2 (l.setIfInBounds j true) x := by
  obtain ⟨a, b⟩ := h
  constructor
  · rw [MonoJ.getD_set_ne h1, MonoJ.getD_set_ne h2]; exact a
  · exact b
theorem JT.at1 (h : JT Z w0 S R hosts fs fs' cut cut' n n' c1 c2 l x) (hl : l.getD c1 true = false) : ∃ X Y, Pair Z x S R hosts fs (if l.getD c2 false = true then fs' else fs) cut (if l.getD c2 false = true then cut' else cut) n X Y := by
  obtain ⟨X, Y, h⟩ := h.two
  rw [MonoJ.getD_false hl] at h
  exact ⟨X, Y, h⟩
theorem JT.at2 (h : JT Z w0 S R hosts fs fs' cut cut' n n' c1 c2 l x) (hl : l.getD c2 true = false) : ∃ X Y, Pair Z x S R hosts (if l.getD c1 false = true then fs' else fs) fs (if l.getD c1 false = true then cut' else cut) cut (if l.getD c1 false = true then n' else n) X Y := by
  obtain ⟨X, Y, h⟩ := h.two
  rw [MonoJ.getD_false hl] at h
  exact ⟨X, Y, h⟩
theorem JT.put1 (h : JT Z w0 S R hosts fs fs' cut cut' n n' c1 c2 l x) (hz : c1 < l.size) (hne : c1 ≠ c2) (hs : Two Z y S R hosts fs' (if l.getD c2 false = true then fs' else fs) cut' (if l.getD c2 false = true then cut' else cut) n' ∧ ButX (fun k => ¬ Z k) x y) : JT Z w0 S R hosts fs fs' cut cut' n n' c1 c2 (l.setIfInBounds c1 true) y := by
  constructor
  · rw [MonoJ.getD_set_same hz, MonoJ.getD_set_ne hne, if_pos rfl, if_pos rfl, if_pos rfl]; exact hs.1
  · exact But.trans h.but hs.2
theorem JT.put2 (h : JT Z w0 S R hosts fs fs' cut cut' n n' c1 c2 l x) (hz : c2 < l.size) (hne : c1 ≠ c2) (hs : Two Z y S R hosts (if l.getD c1 false = true then fs' else fs) fs' (if l.getD c1 false = true then cut' else cut) cut' (if l.getD c1 false = true then n' else n) ∧ ButX (fun k => ¬ Z k) x y) : JT Z w0 S R hosts fs fs' cut cut' n n' c1 c2 (l.setIfInBounds c2 true) y := by
  constructor
  · rw [MonoJ.getD_set_same hz, MonoJ.getD_set_ne (Ne.symm hne), if_pos rfl, if_pos rfl]; exact hs.1
  · exact But.trans h.but hs.2
theorem JT.start (h : Two Z w0 S R hosts fs fs cut cut n) (m : Nat) : JT Z w0 S R hosts fs fs' cut cut' n n' c1 c2 (Array.replicate m false) w0.drew := by
  have e : ∀ i, (Array.replicate m false).getD i false = false := fun i => by simp only [Array.getD_eq_getD_getElem?, Array.getElem?_replicate]; split <;> rfl
  constructor
  · rw [e, e]
    exact h.below ((Below.refl _ _).drew)
  · exact ButX.ofBelow ((Below.refl _ _).drew)
theorem JT.fin {m : Nat} (h : JT Z w0 S R hosts fs fs' cut cut' n n' c1 c2 (Array.replicate m true) x) (h1 : c1 < m) (h2 : c2 < m) : Two Z x S R hosts fs' fs' cut' cut' n' ∧ ButX (fun k => ¬ Z k) w0 x := by
  have e : ∀ i, i < m → (Array.replicate m true).getD i false = true := fun i hi => by simp [Array.getD_eq_getD_getElem?, Array.getElem?_replicate, hi]
  obtain ⟨a, b⟩ := h
  rw [e c1 h1, e c2 h2] at a
  exact ⟨a, b⟩
end

/-! Calls. -/
structure A where
  kind : Int
  k : Int
  at_ : Int
  fh : Int
  fp : Int
  th : Int
  tp : Int
  bytes : List Int
  bits : Int
  down : Bool
def rowA (a : A) (d : Value) : Array Value := #[.int .i64 a.kind, .int .i64 a.k, .int .i64 a.at_, .int .i64 a.fh, .int .i64 a.fp, .int .i64 a.th, .int .i64 a.tp, d, .int .u8 a.bits, .bool a.down]
structure A.ok (a : A) : Prop where
  kind : i64 a.kind
  at_ : i64 a.at_
  bits : 0 ≤ a.bits ∧ a.bits ≤ 255
  bytes : ∀ x ∈ a.bytes, 0 ≤ x ∧ x ≤ 255
  len : a.bytes.length ≤ 140737488351232
def actL (hosts : Int) (cut : Int → Int → Int → Bool) (a : A) (fs : List F) : List F :=
  if a.kind = 1 then sendL hosts cut a.fh a.fp a.th a.tp a.bytes fs
  else if a.kind = 2 then takeL fs a.k
  else if a.kind = 3 then twinL fs a.k
  else if a.kind = 4 then lastL fs a.k
  else if a.kind = 5 then turnL fs a.k a.at_ a.bits else fs
def actC (hosts : Int) (cut : Int → Int → Int → Bool) (a : A) : Int → Int → Int → Bool := if a.kind = 6 then (if cutArg hosts a.fh a.th a.fp then cutF cut a.fh a.th a.fp a.down else cut) else cut
def actN (hosts : Int) (a : A) (n : Nat) : Nat := if a.kind = 6 then (if cutArg hosts a.fh a.th a.fp then n + 1 else n) else n
theorem run_addrE {w : World} {g off : Nat} {a b : Int} (h : w.rangeAt g off [.int .i64 a, .int .i64 b]) : (Instr.loadAt 30 (.pointer (some ⟨g, off, none⟩))).run Try.prog w = .ok (.agg #[.int .i64 a, .int .i64 b]) w := by
  have hr := run_loadVar_mid (P := Try.prog) w g off 30 [.int .i64 a, .int .i64 b] _ h Try.underlying30 rfl (by kernel_rfl)
  simp only [Instr.loadAt, Instr.sureAddr, Sem.run_bind, Sem.run_pure, Result.andThen_ok, hr]
end Go.Proofs.Ytmdhpjbahenbhaa.Net
