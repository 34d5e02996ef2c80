/-
  ATTRIBUTES IN MEMORY: what an attribute's struct reads as (row), what a list of such structs reads as (ReadsL), what a list of the call's own holds (OwnL); append onto such a list. No program is looked into here.
-/
import Derived.Test.YtjfponhdlfhmbaaCells
namespace Go.Proofs.Ytjfponhdlfhmbaa.Avps
open Go.RowKit Mem Cells
set_option linter.unusedVariables false

/-- An attribute: code, vendor, the two flags, its bytes. -/
structure A where
  code : Int
  vendor : Int
  must : Bool
  prot : Bool
  data : List Int
deriving DecidableEq
def A.ok (a : A) : Prop := (0 ≤ a.code ∧ a.code ≤ 4294967295) ∧ (0 ≤ a.vendor ∧ a.vendor ≤ 4294967295) ∧ ∀ x ∈ a.data, 0 ≤ x ∧ x ≤ 255
/-- Its cells; d is the slice of its bytes. -/
def row (a : A) (d : Value) : List Value := [.int .u32 a.code, .int .u32 a.vendor, .bool a.must, .bool a.prot, d]
def flat (zs : List (A × Value)) : List Value := zs.flatMap fun z => row z.1 z.2
theorem flat_nil : flat [] = [] := rfl
theorem flat_append (xs ys : List (A × Value)) : flat (xs ++ ys) = flat xs ++ flat ys := by simp [flat]
theorem flat_one (z : A × Value) : flat [z] = row z.1 z.2 := by simp [flat]
theorem flat_length (zs : List (A × Value)) : (flat zs).length = zs.length * 5 := by
  induction zs with
  | nil => rfl
  | cons z zs ih =>
    have e : flat (z :: zs) = row z.1 z.2 ++ flat zs := rfl
    rw [e, List.length_append, ih, List.length_cons]
    simp [row]; omega
theorem flat_get (zs : List (A × Value)) (i : Nat) (z : A × Value) (h : zs[i]? = some z) (j : Nat) (hj : j < 5) : (flat zs)[i * 5 + j]? = (row z.1 z.2)[j]? := by
  induction zs generalizing i with
  | nil => simp at h
  | cons y zs ih =>
    have e : flat (y :: zs) = row y.1 y.2 ++ flat zs := rfl
    have hl : (row y.1 y.2).length = 5 := rfl
    rw [e]
    cases i with
    | zero =>
      simp at h
      subst h
      rw [List.getElem?_append_left (by rw [hl]; omega)]
      simp
    | succ i =>
      rw [List.getElem?_append_right (by rw [hl]; omega), hl, show (i + 1) * 5 + j - 5 = i * 5 + j from by omega]
      exact ih i (by simpa using h)

theorem reads_grown {k : IntKind} {w w' : World} {d : Value} {xs : List Int} {r : Option Nat} (h : Reads k w d xs) (hg : w.grownBy w' r) (hne : 0 < xs.length → ∀ q, r = some q → d.ownBlock ≠ some q) : Reads k w' d xs := by
  obtain ⟨p, c, rfl, h1, h2, h3, h4⟩ := h
  refine ⟨p, c, rfl, h1, h2, h3, fun h0 => ?_⟩
  obtain ⟨b, off, rfl, hlt, hc⟩ := h4 h0
  refine ⟨b, off, rfl, Nat.lt_of_lt_of_le hlt hg.size, fun i hi => ?_⟩
  exact hg.cell (hc i hi) (fun e => hne h0 b e.symm rfl)
theorem reads_lt {k : IntKind} {w : World} {d : Value} {xs : List Int} (h : Reads k w d xs) (h0 : 0 < xs.length) : ∃ b, d.ownBlock = some b ∧ b < w.heap.size := by
  obtain ⟨p, c, rfl, h1, h2, h3, h4⟩ := h
  obtain ⟨b, off, rfl, hlt, hc⟩ := h4 h0
  exact ⟨b, rfl, hlt⟩
theorem reads_setRow {k : IntKind} {u : World} {d : Value} {xs : List Int} {g : Nat} {cs : Array Value} (h : Reads k u d xs) (hne : 0 < xs.length → d.ownBlock ≠ some g) : Reads k (u.setRow g cs) d xs := by
  refine reads_grown (r := some g) h ⟨rfl, rfl, rfl, by simp, fun q _ hq => setRow_other _ _ _ _ (fun e => hq (by rw [e]))⟩ (fun h0 q hq => ?_)
  cases hq
  exact hne h0
theorem reads_setCell {k : IntKind} {u : World} {d v : Value} {xs : List Int} {g j : Nat} (h : Reads k u d xs) (hne : 0 < xs.length → d.ownBlock ≠ some g) : Reads k (u.setCell ⟨g, j, none⟩ v) d xs := by
  refine reads_grown (r := some g) h (grown_setCell (grown_refl u _)) (fun h0 q hq => ?_)
  cases hq
  exact hne h0

/-- The slice v reads as the attributes al. -/
def ReadsL (w : World) (v : Value) (al : List A) : Prop :=
  ∃ p c zs, v = .slice p al.length c ∧ al.length ≤ c ∧ c ≤ maxLen ∧ (p = none → c = 0) ∧ zs.map Prod.fst = al ∧ (∀ z ∈ zs, Reads .u8 w z.2 z.1.data) ∧
    (0 < al.length → ∃ b off, p = some ⟨b, off, none⟩ ∧ b < w.heap.size ∧ ∀ j, j < al.length * 5 → w.cell? ⟨b, off + j, none⟩ = (flat zs)[j]?)
/-- The bytes of z lie in another block than the slice v. -/
def Apart (v : Value) (z : A × Value) : Prop := 0 < z.1.data.length → ∀ q, v.ownBlock = some q → z.2.ownBlock ≠ some q
/-- The slice v is the call's own, and holds the attributes al. -/
def OwnL (T B : Nat) (w : World) (v : Value) (al : List A) : Prop :=
  ∃ zs : List (A × Value), zs.map Prod.fst = al ∧ (∀ z ∈ zs, Reads .u8 w z.2 z.1.data ∧ Apart v z) ∧ w.ownsRow B T 5 v al.length (flat zs)

theorem ReadsL.below {w w' : World} {v : Value} {al : List A} (h : ReadsL w v al) (hb : Below w.heap.size w w') : ReadsL w' v al := by
  obtain ⟨p, c, zs, rfl, h1, h2, h3, h4, h5, h6⟩ := h
  refine ⟨p, c, zs, rfl, h1, h2, h3, h4, fun z hz => (h5 z hz).below hb, fun h0 => ?_⟩
  obtain ⟨b, off, rfl, hlt, hc⟩ := h6 h0
  exact ⟨b, off, rfl, Nat.lt_of_lt_of_le hlt hb.size, fun j hj => (hb.cell (p := ⟨b, off + j, none⟩) hlt).trans (hc j hj)⟩
theorem OwnL.below {T B : Nat} {w w' : World} {v : Value} {al : List A} (h : OwnL T B w v al) (hb : Below w.heap.size w w') : OwnL T B w' v al := by
  obtain ⟨zs, h1, h2, h3⟩ := h
  refine ⟨zs, h1, fun z hz => ⟨(h2 z hz).1.below hb, (h2 z hz).2⟩, ?_⟩
  refine ⟨h3.1, ?_⟩
  rcases h3.2 with hn | ⟨g, cap, cur, rfl, hbb, hgg, rest⟩
  · exact .inl hn
  · refine .inr ⟨g, cap, cur, rfl, hbb, ?_, rest⟩
    rw [hb.block g (Array.getElem?_eq_some_iff.1 hgg).1]
    exact hgg
theorem OwnL.mono {T B B' : Nat} {w : World} {v : Value} {al : List A} (h : OwnL T B w v al) (hB : B' ≤ B) : OwnL T B' w v al := by
  obtain ⟨zs, h1, h2, h3⟩ := h
  refine ⟨zs, h1, h2, h3.1, ?_⟩
  rcases h3.2 with hn | ⟨g, cap, cur, rfl, hbb, rest⟩
  · exact .inl hn
  · exact .inr ⟨g, cap, cur, rfl, by omega, rest⟩
theorem OwnL.reads {T B : Nat} {w : World} {v : Value} {al : List A} (h : OwnL T B w v al) : ReadsL w v al := by
  obtain ⟨zs, h1, h2, h3⟩ := h
  have hcells := fun g hg => h3.cells (g := g) hg
  have hlt := h3.lt
  have hzl : zs.length = al.length := by rw [← h1, List.length_map]
  obtain ⟨_, ⟨rfl, hn⟩ | ⟨g, cap, cur, rfl, hb, hg, hle, hm, _⟩⟩ := h3
  · exact ⟨none, 0, zs, by rw [hn], by omega, by simp, fun _ => rfl, h1, fun z hz => (h2 z hz).1, fun h => by omega⟩
  · refine ⟨_, cap, zs, rfl, hle, hm, (fun h => by cases h), h1, fun z hz => (h2 z hz).1, fun hp => ⟨g, 0, rfl, (hlt g rfl).2, fun j hj => ?_⟩⟩
    have hj' : j < (flat zs).length := by rw [flat_length, hzl]; exact hj
    have := hcells g rfl j _ (List.getElem?_eq_getElem hj')
    rw [add_none] at this
    rw [this, List.getElem?_eq_getElem hj']
theorem OwnL.nil (T B : Nat) (w : World) : OwnL T B w (.slice none 0 0) [] := ⟨[], rfl, fun z hz => (by cases hz), World.ownsRow_nil _ _ _ _⟩
theorem ReadsL.nil (w : World) : ReadsL w (.slice none 0 0) [] := (OwnL.nil 0 0 w).reads
theorem OwnL.lt {T B : Nat} {w : World} {v : Value} {al : List A} (h : OwnL T B w v al) (k : Nat) (hk : v.ownBlock = some k) : B ≤ k ∧ k < w.heap.size := by
  obtain ⟨zs, h1, h2, h3⟩ := h
  exact h3.lt k hk

/-- The block that an append answers: the old one, or a new one. -/
theorem append_block {P : Program} {w : World} {base : Nat} {t ty e : TypeId} {i : TypeInfo} {z : Value} {size bytes : Nat} (ht : P.underlying t = some (.slice e)) (hi : P.info? e = some i) (hz : i.zero = some z)
    (hsize : i.size = size) (hby : i.bytes = bytes) (hzs : z.cells.size = size) (hsz : 0 < size) {v : Value} {n : Nat} {xs : List Value} (hown : w.ownsRow base e size v n xs)
    {a : Addr} {m c : Nat} {news : List Value} (hl : news.length = m * size) (hnews : ∀ j u, news[j]? = some u → w.cell? (a.add j) = some u) (h1 : ∀ u ∈ news, u.oneCell' = true)
    (h63 : n + m ≤ maxLen) (hbytes : (n + m) * bytes ≤ 140737488355328) {v' : Value} {w' : World} (hr : (Builtin.append_ #[t, t] ty #[v, .slice (some a) m c]).run P w = .ok v' w') :
    v'.ownBlock = v.ownBlock ∨ v'.ownBlock = some w.heap.size := by
  subst hsize
  subst hby
  have hsmall : n + m ≤ 9223372036854775807 := by simp only [maxLen] at h63; omega
  rcases hown.2 with ⟨rfl, rfl⟩ | ⟨g, cap, cur, rfl, hbg, hg, hnc, hcm, hcs, htake⟩
  · by_cases hm : m = 0
    · subst hm
      left
      have hr2 : (Builtin.append_ #[t, t] ty #[.slice none 0 0, .slice (some a) 0 c]).run P w = .ok (.slice none 0 0) w := by
        simp [Builtin.append_, run_underlying ht, sizeOf, typeInfo, hi, Builtin.lenOf, Builtin.firstCells, loadCells, loadCellsFrom]
      rw [hr2] at hr
      cases hr
      rfl
    · right
      rw [run_append_nil (P := P) w t ty e i z ht hi hz a m c news hl hnews (by omega) (by omega) (by have hb := hbytes; simp only [Nat.zero_add] at hb; omega)] at hr
      cases hr
      rfl
  · by_cases hroom : n + m ≤ cap
    · left
      have hfit : n * i.size + news.length ≤ cur.size := by rw [hl, hcs, ← Nat.add_mul]; exact Nat.mul_le_mul_right _ hroom
      rw [run_append_room (P := P) w t ty e i ht hi g n cap cur hg a m c news hl hnews h1 hroom hfit] at hr
      cases hr
      rfl
    · right
      have holds : ∀ j u, xs[j]? = some u → w.cell? ((⟨g, 0, none⟩ : Addr).add j) = some u := hown.cells (g := g) rfl
      rw [run_append_grow (P := P) w t ty e i z ht hi hz ⟨g, 0, none⟩ n cap xs hown.1 holds a m c news hl hnews (by omega) (by omega) (growslice_fits (by omega) hbytes)] at hr
      cases hr
      rfl

theorem row_one {a : A} {d : Value} (hd : d.oneCell' = true) : ∀ u ∈ row a d, u.oneCell' = true := by
  intro u hu
  simp only [row, List.mem_cons, List.not_mem_nil, or_false] at hu
  rcases hu with rfl | rfl | rfl | rfl | rfl <;> first | rfl | exact hd
theorem reads_one {k : IntKind} {w : World} {d : Value} {xs : List Int} (h : Reads k w d xs) : d.oneCell' = true := by
  obtain ⟨p, c, rfl, _⟩ := h
  rfl
theorem flat_one' {w : World} {zs : List (A × Value)} (h : ∀ z ∈ zs, Reads .u8 w z.2 z.1.data) : ∀ u ∈ flat zs, u.oneCell' = true := by
  intro u hu
  obtain ⟨z, hz, hu⟩ := List.mem_flatMap.1 hu
  exact row_one (reads_one (h z hz)) u hu

section
variable {P : Program} {w : World} {ops : Array Oper} {rest : List Oper} {o : Oper} {a : Act} {Q : Exit → Act → World → Prop}
/-- Append of attributes onto a list of the call's own; where their bytes lie in other blocks than the list. -/
theorem wpl_appendL (hgd : o.guard = none) (s x : Operand) (t : TypeId) (ho : o.op = .call { callee := .builtin .append, args := #[s, x], argTypes := #[t, t] })
    (B e bytes : Nat) (i : TypeInfo) (z : Value) (ht : P.underlying t = some (.slice e)) (hi : P.info? e = some i) (hz : i.zero = some z) (hsize : i.size = 5) (hby : i.bytes = bytes) (hzs : z.cells.size = 5)
    (v : Value) (ad : Addr) (c : Nat) (al : List A) (ys : List (A × Value)) (hs : a.eval s = v) (hx : a.eval x = .slice (some ad) ys.length c) (hown : OwnL e B w v al)
    (hnews : ∀ j u, (flat ys)[j]? = some u → w.cell? (ad.add j) = some u) (hd : ∀ y ∈ ys, Reads .u8 w y.2 y.1.data ∧ Apart v y)
    (h63 : al.length + ys.length ≤ maxLen) (hbytes : (al.length + ys.length) * bytes ≤ 140737488355328) (hbase : B ≤ w.heap.size)
    (h : ∀ v' w', OwnL e B w' v' (al ++ ys.map Prod.fst) → w.grownBy w' v.ownBlock → wpList P ops Q rest (a.put o.dst v') w') : wpList P ops Q (o :: rest) a w := by
  obtain ⟨zs, e1, e2, e3⟩ := hown
  have hl : (flat ys).length = ys.length * 5 := flat_length ys
  have h1 := flat_one' (fun z hz => (hd z hz).1)
  refine wpList_plain hgd fun K hK => ?_
  obtain ⟨v', w', hr, k2, k3, k4⟩ := run_append_own (P := P) w B t o.type e i z 5 bytes ht hi hz hsize hby hzs (by omega) v al.length (flat zs) e3 ad ys.length c (flat ys) hl hnews h1 h63 hbytes hbase
  have hblk := append_block (P := P) ht hi hz hsize hby hzs (by omega) e3 hl hnews h1 h63 hbytes hr
  unfold Oper.wp execOp
  simp only [ho, resolve, invoke, builtin, Sem.run_bind, Sem.run_pure, Result.andThen_ok, List.map_toArray, List.map_cons, List.map_nil, hs, hx, hr]
  refine hK _ _ (h v' w' ⟨zs ++ ys, by rw [List.map_append, e1], ?_, ?_⟩ k3)
  · have key : ∀ z : A × Value, Reads .u8 w z.2 z.1.data → Apart v z → Reads .u8 w' z.2 z.1.data ∧ Apart v' z := by
      intro z hz hap
      refine ⟨reads_grown hz k3 hap, fun h0 q hq => ?_⟩
      rcases hblk with hb | hb
      · exact hap h0 q (by rw [← hb]; exact hq)
      · obtain ⟨b, hb1, hb2⟩ := reads_lt hz h0
        rw [hb] at hq
        cases hq
        rw [hb1]
        intro e
        cases e
        exact absurd hb2 (Nat.lt_irrefl _)
    intro z hz
    rcases List.mem_append.1 hz with hz | hz
    · exact key z (e2 z hz).1 (e2 z hz).2
    · exact key z (hd z hz).1 (hd z hz).2
  · rw [flat_append]
    have : (al ++ ys.map Prod.fst).length = al.length + ys.length := by simp
    rw [this]
    exact k2
end
end Go.Proofs.Ytjfponhdlfhmbaa.Avps
