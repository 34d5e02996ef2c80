/-
  A map's count: 'm[k]++' (an entry made, and written), at keys of any kind; how many attributes of a name there were. No walk.
-/
import Derived.Test.YtjfmahodbdianaaDoorSound0
import Derived.Test.YtjfmahodbdianaaDoorAvps
import Derived.WideKeyEntry
namespace Go.Proofs.YtjfmahodbdianaaDoor.Rule
open Go.RowKit Mem Cells Ops Go.Maps Go.WideElems Go.ChangeMaps Go.MapKept
set_option linter.unusedVariables false
set_option linter.unusedSimpArgs false

section
variable {P : Program} {w : World} {k e t : TypeId} {b n : Nat} {D : DataW Unit}
theorem setBlock_twice (w : World) (b : Nat) (o o' : Obj) : setBlock (setBlock w b o) b o' = setBlock w b o' := by simp [setBlock]
/-- The entry made, and what a look-up says behind it; and the store into it, whatever is stored. -/
theorem entryMade (h : w.ownsMap P k (plainElem P e) b n D) (K : Keyed P k) (ht : P.underlying t = some (.map k e)) (he : P.underlying e = some (.int .i64)) (hz : ∀ u : World, (zeroValue e).run P u = .ok (.int .i64 0) u) (hn : n < maxLen)
    {key : Value} {kl : Lit} (hkey : keyOf P k key = some kl) :
    ∃ v0 st w2 D2, (Instr.mapEntry t (.map (some b)) key).run P w = .ok (.tuple #[v0, goInt st]) w2 ∧ w2.ownsMap P k (plainElem P e) b (n + 1) D2 ∧ D2.atKey kl (.lit (.int .i64 0)) = D.atKey kl (.lit (.int .i64 0)) ∧ w.grownBy w2 (some b) ∧
      ∀ x : Int, (Lit.int .i64 x).wf = true → ∃ w3, (Instr.entryStore t (.map (some b)) (goInt st) (.int .i64 x)).run P w2 = .ok () w3 ∧ w3.ownsMap P k (plainElem P e) b (n + 1) (D.put kl (.lit (.int .i64 x))) ∧ w.grownBy w3 (some b) := by
  have h0 := h
  obtain ⟨es, clock, hb, F, hs, rfl⟩ := h
  have hwz : (Lit.int .i64 0).wf = true := by decide
  obtain ⟨s1, s2, _⟩ := F.stamped
  have hbo : ∀ o, (setBlock w b o).heap[b]? = some o := fun o => heap_setBlock_same hb _
  rcases K.find w hkey es.toList F.keys with ⟨h1, h2⟩ | ⟨j, e0, h1, h2, h3⟩
  · obtain ⟨w', hrun, ho, hg⟩ := h0.update K ht hn hkey (plainElem_int he hwz)
    have hup : ∀ val, (Instr.mapUpdate t (.map (some b)) key val).run P w = .ok () (setBlock w b (.map (es.push ⟨key, val, clock⟩) (clock + 1))) := fun val => by
      simp [Instr.mapUpdate, run_underlying ht, MapKept.run_getObj_map hb, K.check w false hkey, h1, MapKept.run_setObj_map _ hb, Result.andThen, setBlock]
    have e1 : w' = setBlock w b (.map (es.push ⟨key, .int .i64 0, clock⟩) (clock + 1)) := by
      have := hrun.symm.trans (hup (.int .i64 0))
      injection this with _ e
    subst e1
    refine ⟨.int .i64 0, clock, _, _, ?_, ho, ?_, hg, fun x hx => ?_⟩
    · simp [Instr.mapEntry, run_underlying ht, MapKept.run_getObj_map hb, K.check w false hkey, h1, hz, MapKept.run_setObj_map _ hb, Result.andThen, setBlock]
    · rw [atKey_put_same h0.isMap (K.key hkey)]
      rcases fit_look false K ht (hz w) hb F hkey with ⟨_, _, hat⟩ | ⟨e0, y, hm, hk, _⟩
      · rw [hat]
      · exact absurd hk (h2 e0 hm)
    · obtain ⟨w3, hrun3, ho3, hg3⟩ := h0.update K ht hn hkey (plainElem_int he hx)
      have e3 := hrun3.symm.trans (hup (.int .i64 x))
      injection e3 with _ e3
      refine ⟨w3, ?_, ho3, hg3⟩
      rw [e3]
      have hidx : (es.push ⟨key, .int .i64 0, clock⟩).findIdx? (fun e => ((e.born : Nat) : Int) == ((clock : Nat) : Int)) = some es.size := by
        rw [findIdx_arr]
        have := findIdx_born (l := (es.push ⟨key, .int .i64 0, clock⟩).toList) (j := es.size) (e0 := ⟨key, .int .i64 0, clock⟩) (by
          simp only [Array.toList_push, List.map_append, List.map_cons, List.map_nil]
          refine List.nodup_append.2 ⟨s2, by simp, fun a ha c hc e1 => ?_⟩
          simp only [List.mem_singleton] at hc
          obtain ⟨x, hx, rfl⟩ := List.mem_map.1 ha
          have := s1 x hx
          omega) (by simp)
        exact this
      have hmod : (es.push ⟨key, .int .i64 0, clock⟩).modify es.size (fun e => { e with val := .int .i64 x }) = es.push ⟨key, .int .i64 x, clock⟩ := by
        apply Array.ext'
        rw [Array.toList_modify, Array.toList_push, Array.toList_push, ← Array.length_toList, modify_last]
      have hst : ∀ u : World, u.heap[b]? = some (.map (es.push ⟨key, .int .i64 0, clock⟩) (clock + 1)) → (Instr.entryStore t (.map (some b)) (goInt clock) (.int .i64 x)).run P u = .ok () (setBlock u b (.map (es.push ⟨key, .int .i64 x, clock⟩) (clock + 1))) := fun u hu => by
        simp [Instr.entryStore, MapKept.run_getObj_map hu, asInt, asIntOf, goInt, hidx, hmod, MapKept.run_setObj_map _ hu, Result.andThen, setBlock]
      rw [hst _ (hbo _), setBlock_twice]
  · have hj : es[j]? = some e0 := by simpa using h2
    have hsame : es.modify j (fun e => { e with key := key }) = es := by
      apply Array.ext'
      rw [Array.toList_modify, modify_eq_set _ _ _ _ h2]
      have : ({ e0 with key := key } : MapEntry) = e0 := by rw [← h3]
      rw [this]
      exact set_self _ _ _ h2
    have hw : setBlock w b (.map es clock) = w := by
      unfold setBlock
      obtain ⟨hl, he'⟩ := Array.getElem?_eq_some_iff.1 hb
      have : w.heap.setIfInBounds b (.map es clock) = w.heap := by
        apply Array.ext_getElem?
        intro i
        rw [Array.getElem?_setIfInBounds]
        split
        · rename_i e
          subst e
          rw [hb]
        · rfl
      rw [this]
    refine ⟨e0.val, e0.born, w, _, ?_, h0.mono (Nat.le_succ _), rfl, ⟨rfl, rfl, rfl, Nat.le_refl _, fun i _ _ => rfl⟩, fun x hx => ?_⟩
    · have hent : (Instr.mapEntry t (.map (some b)) key).run P w = .ok (.tuple #[e0.val, goInt e0.born]) (setBlock w b (.map es clock)) := by
        simp [Instr.mapEntry, run_underlying ht, MapKept.run_getObj_map hb, K.check w false hkey, h1, hj, h3, K.stays w hkey, hsame, MapKept.run_setObj_map _ hb, Result.andThen, setBlock]
      rw [hent, hw]
    · obtain ⟨w3, hrun3, ho3, hg3⟩ := h0.update K ht hn hkey (plainElem_int he hx)
      refine ⟨w3, ?_, ho3, hg3⟩
      have hidx : es.findIdx? (fun e => ((e.born : Nat) : Int) == ((e0.born : Nat) : Int)) = some j := by
        rw [findIdx_arr]
        exact findIdx_born s2 h2
      have hmod : es.modify j (fun e => { e with val := .int .i64 x }) = es.modify j (fun e' => { e' with key := key, val := .int .i64 x }) := by
        apply Array.ext'
        rw [Array.toList_modify, Array.toList_modify, modify_eq_set _ _ _ _ h2, modify_eq_set _ _ _ _ h2, ← h3]
      have hup : (Instr.mapUpdate t (.map (some b)) key (.int .i64 x)).run P w = .ok () (setBlock w b (.map (es.modify j (fun e' => { e' with key := key, val := .int .i64 x })) clock)) := by
        simp [Instr.mapUpdate, run_underlying ht, MapKept.run_getObj_map hb, K.check w false hkey, h1, hj, h3, K.stays w hkey, MapKept.run_setObj_map _ hb, Result.andThen, setBlock]
      have e3 := hrun3.symm.trans hup
      injection e3 with _ e3
      rw [e3]
      simp [Instr.entryStore, MapKept.run_getObj_map hb, asInt, asIntOf, goInt, hidx, hmod, MapKept.run_setObj_map _ hb, Result.andThen, setBlock]
end
/-! How many there were. -/
def sameN (c v : Int) (x : Avps.A) : Bool := (x.code == c) && (x.vendor == v)
def cntN (l : List Avps.A) (c v : Int) : Nat := l.countP (sameN c v)
def u32 (c : Int) : Prop := 0 ≤ c ∧ c ≤ 4294967295
def Cnt (D : DataW Unit) (l : List Avps.A) : Prop := ∀ c v, u32 c → u32 v → D.atKey (keyN c v) (.lit (.int .i64 0)) = .lit (.int .i64 (cntN l c v))
theorem Cnt.nil : Cnt (.map []) [] := fun c v _ _ => rfl
theorem name_ne {c v c' v' : Int} (hc : u32 c) (hv : u32 v) (hc' : u32 c') (hv' : u32 v') (h : ¬ (c = c' ∧ v = v')) : keyN c' v' ≠ keyN c v := fun e => by
  have h1 := keyOf65 c v hc hv
  have h2 := keyOf65 c' v' hc' hv'
  rw [e] at h2
  have := keyed65.inj h1 h2
  simp at this
  exact h this
theorem Cnt.snoc {D : DataW Unit} {l : List Avps.A} {x : Avps.A} (h : Cnt D l) (hm : IsMap D) (hc : u32 x.code) (hv : u32 x.vendor) : Cnt (D.put (keyN x.code x.vendor) (.lit (.int .i64 (cntN (l ++ [x]) x.code x.vendor)))) (l ++ [x]) := fun c v k1 k2 => by
  by_cases e : x.code = c ∧ x.vendor = v
  · obtain ⟨rfl, rfl⟩ := e
    rw [atKey_put_same hm (isKey (keyN x.code x.vendor) ⟨_, rfl⟩)]
  · rw [atKey_put_other (name_ne hc hv k1 k2 e).symm.symm, h c v k1 k2]
    have : sameN c v x = false := by
      unfold sameN
      rw [Bool.and_eq_false_iff]
      by_cases e1 : x.code = c
      · right; simpa using fun e2 => e ⟨e1, e2⟩
      · left; simpa using e1
    simp [cntN, this]
theorem cnt_step (l : List Avps.A) (x : Avps.A) : cntN (l ++ [x]) x.code x.vendor = cntN l x.code x.vendor + 1 := by simp [cntN, sameN]
theorem cnt_le (l : List Avps.A) (c v : Int) : cntN l c v ≤ l.length := List.countP_le_length
end Go.Proofs.YtjfmahodbdianaaDoor.Rule
