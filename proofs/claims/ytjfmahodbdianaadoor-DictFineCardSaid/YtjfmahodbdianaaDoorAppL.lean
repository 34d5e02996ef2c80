/-
  One attribute behind a list of the call's own, while other memory is made (a relation on worlds that stands for all orders).
-/
import Derived.Test.YtjfmahodbdianaaDoorListSet
import Derived.Test.YtjfmahodbdianaaDoorLight
import Derived.Test.YtjfmahodbdianaaDoorMonoG
namespace Go.Proofs.YtjfmahodbdianaaDoor.Avps
open Go.RowKit Mem Cells Ops
set_option linter.unusedVariables false
/-- What the operations may do: nothing to what lay, but to the block gl, of which the first m cells stay, and, once they lie there, the five behind. -/
structure Sf (gl : Option Nat) (m : Nat) (rx : List Value) (a b : World) : Prop where
  os : b.os = a.os
  tape : b.tape = a.tape
  output : b.output = a.output
  size : a.heap.size ≤ b.heap.size
  block : ∀ k, k < a.heap.size → some k ≠ gl → b.heap[k]? = a.heap[k]?
  row : ∀ k, gl = some k → ∀ cur : Array Value, a.heap[k]? = some (.cells cur 35 (0, 0)) → ∃ cur' : Array Value, b.heap[k]? = some (.cells cur' 35 (0, 0)) ∧ cur'.size = cur.size ∧ cur'.toList.take m = cur.toList.take m ∧
    (cur.toList.take (m + 5) = cur.toList.take m ++ rx → cur'.toList.take (m + 5) = cur'.toList.take m ++ rx)
theorem Sf.below {gl : Option Nat} {m : Nat} {rx : List Value} {a b : World} (h : Below a.heap.size a b) : Sf gl m rx a b :=
  ⟨h.os, h.tape, h.output, h.size, fun k hk _ => h.block k hk, fun k _ cur hc => ⟨cur, (h.block k (Array.getElem?_eq_some_iff.1 hc).1).trans hc, rfl, rfl, fun e => e⟩⟩
theorem Sf.trans {gl : Option Nat} {m : Nat} {rx : List Value} {a b c : World} (h : Sf gl m rx a b) (h' : Sf gl m rx b c) : Sf gl m rx a c :=
  ⟨h'.os.trans h.os, h'.tape.trans h.tape, h'.output.trans h.output, Nat.le_trans h.size h'.size, fun k hk hg => (h'.block k (Nat.lt_of_lt_of_le hk h.size) hg).trans (h.block k hk hg), fun k hk cur hc => by
    obtain ⟨c1, e1, e2, e3, e4⟩ := h.row k hk cur hc
    obtain ⟨c2, d1, d2, d3, d4⟩ := h'.row k hk c1 e1
    exact ⟨c2, d1, d2.trans e2, d3.trans e3, fun e => d4 (e4 e)⟩⟩
def relS (gl : Option Nat) (m : Nat) (rx : List Value) : MonoG.Rel where
  R := Sf gl m rx
  refl := fun w => Sf.below (Below.refl _ _)
  drew := fun w => Sf.below ((Below.refl _ _).drew)
  trans := fun _ _ _ h h' => h.trans h'
section
variable {gl : Option Nat} {m : Nat} {rx : List Value} {a b : World}
theorem Sf.cell (h : Sf gl m rx a b) {p : Addr} (hp : p.block < a.heap.size) (hg : some p.block ≠ gl) : b.cell? p = a.cell? p := World.cell?_of_block (w := a) (h.block p.block hp hg)
theorem Sf.reads {k : IntKind} {d : Value} {xs : List Int} (h : Sf gl m rx a b) (hr : Reads k a d xs) (hg : 0 < xs.length → d.ownBlock = none ∨ d.ownBlock ≠ gl) : Reads k b d xs := by
  obtain ⟨p, c, rfl, h1, h2, h3, h4⟩ := hr
  refine ⟨p, c, rfl, h1, h2, h3, fun h0 => ?_⟩
  obtain ⟨bl, off, rfl, hlt, hc⟩ := h4 h0
  have hne : some bl ≠ gl := by
    rcases hg h0 with e | e
    · cases e
    · exact e
  exact ⟨bl, off, rfl, Nat.lt_of_lt_of_le hlt h.size, fun i hi => (h.cell (p := ⟨bl, off + i, none⟩) hlt hne).trans (hc i hi)⟩
theorem Sf.at {g T : Nat} {cs : Array Value} (h : Sf gl m rx a b) (hat : At a g T cs) (hg : some g ≠ gl) : At b g T cs := (h.block g hat.lt hg).trans hat
theorem Sf.ownD {D B : Nat} {v : Value} {al : List A} (h : Sf gl m rx a b) (ho : OwnD D 35 B a v al) (hgl : gl = v.ownBlock) (hm : m = al.length * 5) : OwnD D 35 B b v al := by
  obtain ⟨zs, h1, h2, h3, h4⟩ := ho
  refine ⟨zs, h1, fun z hz => ⟨h.reads (h2 z hz).1 (fun h0 => ?_), (h2 z hz).2⟩, ⟨h3.1, ?_⟩, h4⟩
  · cases e : v.ownBlock with
    | none => rw [hgl, e]; cases z.2.ownBlock with
      | none => exact .inl rfl
      | some q => exact .inr (by simp)
    | some q => rw [hgl, e]; exact .inr ((h2 z hz).2 h0 q e)
  · rcases h3.2 with hn | ⟨g, cap, cur, rfl, hbb, hgg, k1, k2, k3, k4⟩
    · exact .inl hn
    · obtain ⟨cur', e1, e2, e3, _⟩ := h.row g hgl cur hgg
      refine .inr ⟨g, cap, cur', rfl, hbb, e1, k1, k2, e2.trans k3, ?_⟩
      rw [hm] at e3
      exact e3.trans k4
theorem Sf.base {w : World} (h : Sf gl m rx a b) (hw : Below w.heap.size w a) (hg : ∀ q, gl = some q → w.heap.size ≤ q) : Below w.heap.size w b :=
  hw.trans ⟨h.os, h.tape, h.output, h.size, fun k hk => h.block k (by have := hw.size; omega) (fun e => by have := hg k e.symm; omega)⟩
end
/-- The slice reads as the list, one more behind; in whichever block. -/
def LX (gl : Option Nat) (m : Nat) (rx : List Value) (u : World) (v : Value) (al : List A) : Prop :=
  ∃ (zs : List (A × Value)) (Y : List Value) (g c : Nat) (cur : Array Value), zs.map Prod.fst = al ∧ (∀ z ∈ zs, Reads .u8 u z.2 z.1.data ∧ (0 < z.1.data.length → z.2.ownBlock = none ∨ z.2.ownBlock ≠ gl)) ∧
    v = .slice (some ⟨g, 0, none⟩) al.length c ∧ al.length ≤ c ∧ c ≤ maxLen ∧ u.heap[g]? = some (.cells cur 35 (0, 0)) ∧ m + 5 = al.length * 5 ∧ flat zs = Y ++ rx ∧ Y.length = m ∧ cur.toList.take (m + 5) = flat zs
theorem LX.stays {gl : Option Nat} {m : Nat} {rx : List Value} {a b : World} {v : Value} {al : List A} (h : LX gl m rx a v al) (hs : Sf gl m rx a b) : LX gl m rx b v al := by
  obtain ⟨zs, Y, g, c, cur, h1, h2, h3, h4, h5, h6, h7, h8, h9, h10⟩ := h
  have key : ∃ cur' : Array Value, b.heap[g]? = some (.cells cur' 35 (0, 0)) ∧ cur'.toList.take (m + 5) = flat zs := by
    by_cases e : some g = gl
    · obtain ⟨cur', e1, e2, e3, e4⟩ := hs.row g e.symm cur h6
      have hY : cur.toList.take m = Y := by
        have := congrArg (List.take m) h10
        rw [List.take_take, Nat.min_eq_left (by omega), h8, List.take_left' h9] at this
        exact this
      refine ⟨cur', e1, ?_⟩
      rw [e4 (by rw [h10, hY, h8]), e3, hY, h8]
    · exact ⟨cur, (hs.block g (Array.getElem?_eq_some_iff.1 h6).1 e).trans h6, h10⟩
  obtain ⟨cur', e1, e2⟩ := key
  exact ⟨zs, Y, g, c, cur', h1, fun z hz => ⟨hs.reads (h2 z hz).1 (h2 z hz).2, (h2 z hz).2⟩, h3, h4, h5, e1, h7, h8, h9, e2⟩
theorem LX.reads {gl : Option Nat} {m : Nat} {rx : List Value} {u : World} {v : Value} {al : List A} (h : LX gl m rx u v al) : ReadsL u v al := by
  obtain ⟨zs, Y, g, c, cur, h1, h2, rfl, h4, h5, h6, h7, h8, h9, h10⟩ := h
  refine ⟨_, c, zs, rfl, h4, h5, (fun h => by cases h), h1, fun z hz => (h2 z hz).1, fun h0 => ⟨g, 0, rfl, (Array.getElem?_eq_some_iff.1 h6).1, fun j hj => ?_⟩⟩
  rw [Nat.zero_add, ← h10, List.getElem?_take, if_pos (by omega), Array.getElem?_toList]
  exact cell_of_row u g j _ 35 (0, 0) h6
theorem append_block2 {P : Program} {w : World} {base : Nat} {t ty e : TypeId} {i : TypeInfo} {z : Value} {size bytes : Nat} (ht : P.underlying t = some (.slice e)) (hi : P.info? e = some i) (hz : i.zero = some z)
    (hsize : i.size = size) (hby : i.bytes = bytes) (hzs : z.cells.size = size) (hsz : 0 < size) {v : Value} {n : Nat} {xs : List Value} (hown : w.ownsRow base e size v n xs)
    {a : Addr} {m c : Nat} {news : List Value} (hm0 : 0 < m) (hl : news.length = m * size) (hnews : ∀ j u, news[j]? = some u → w.cell? (a.add j) = some u) (h1 : ∀ u ∈ news, u.oneCell' = true)
    (h63 : n + m ≤ maxLen) (hbytes : (n + m) * bytes ≤ 140737488355328) {v' : Value} {w' : World} (hr : (Builtin.append_ #[t, t] ty #[v, .slice (some a) m c]).run P w = .ok v' w') :
    (∃ (g cap : Nat) (cur cs : Array Value), v = .slice (some ⟨g, 0, none⟩) n cap ∧ v' = .slice (some ⟨g, 0, none⟩) (n + m) cap ∧ w.heap[g]? = some (.cells cur e (0, 0)) ∧ w'.heap[g]? = some (.cells cs e (0, 0)) ∧ cs.size = cur.size ∧ cs.toList.take (n * size) = cur.toList.take (n * size)) ∨ (v'.ownBlock = some w.heap.size ∧ Below w.heap.size w w') := by
  subst hsize
  subst hby
  have hsmall : n + m ≤ 9223372036854775807 := by simp only [maxLen] at h63; omega
  rcases hown.2 with ⟨rfl, rfl⟩ | ⟨g, cap, cur, rfl, hbg, hg, hnc, hcm, hcs, htake⟩
  · right
    rw [run_append_nil (P := P) w t ty e i z ht hi hz a m c news hl hnews (by omega) (by omega) (by have hb := hbytes; simp only [Nat.zero_add] at hb; omega)] at hr
    cases hr
    exact ⟨rfl, ((Below.refl _ _).drew).alloc (Nat.le_refl _) _⟩
  · by_cases hroom : n + m ≤ cap
    · left
      have hfit : n * i.size + news.length ≤ cur.size := by rw [hl, hcs, ← Nat.add_mul]; exact Nat.mul_le_mul_right _ hroom
      rw [run_append_room (P := P) w t ty e i ht hi g n cap cur hg a m c news hl hnews h1 hroom hfit] at hr
      cases hr
      refine ⟨g, cap, cur, _, rfl, rfl, hg, setRow_heap w g cur _ e _ hg, ?_, ?_⟩
      · have := hfit
        simp
        omega
      · rw [List.take_append_of_le_length (by simp; omega), List.take_append_of_le_length (by simp; omega), List.take_take, Nat.min_self]
    · right
      have holds : ∀ j u, xs[j]? = some u → w.cell? ((⟨g, 0, none⟩ : Addr).add j) = some u := hown.cells (g := g) rfl
      rw [run_append_grow (P := P) w t ty e i z ht hi hz ⟨g, 0, none⟩ n cap xs hown.1 holds a m c news hl hnews (by omega) (by omega) (growslice_fits (by omega) hbytes)] at hr
      cases hr
      exact ⟨rfl, ((Below.refl _ _).drew).alloc (Nat.le_refl _) _⟩
/-- THE LAW. -/
theorem run_append1 (u : World) (D B : Nat) (v : Value) (al : List A) (z : A) (d : Value) (q : Nat) (hown : OwnD D 35 B u v al) (hat : At u q 35 (row z d).toArray) (hd : Reads .u8 u d z.data) (hap : Apart v (z, d)) (hl : al.length ≤ 200) (hB : B ≤ u.heap.size) (hq : some q ≠ v.ownBlock) :
    ∃ v' u', (Builtin.append_ #[23, 23] 23 #[v, .slice (some ⟨q, 0, none⟩) 1 1]).run Tryd.prog u = .ok v' u' ∧ Sf v.ownBlock (al.length * 5) (row z d) u u' ∧ LX v.ownBlock (al.length * 5) (row z d) u' v' (al ++ [z]) := by
  obtain ⟨zs, e1, e2, e3, e4⟩ := hown
  obtain ⟨i41, z41, i1, i2, i3, i4, i5⟩ := Avp.info41
  have hzl : zs.length = al.length := by rw [← e1, List.length_map]
  have h1 := row_one (a := z) (reads_one hd)
  have hnews : ∀ j x, (row z d)[j]? = some x → u.cell? ((⟨q, 0, none⟩ : Addr).add j) = some x := fun j x hj => by
    rw [add_none, Nat.zero_add, hat.cell j, ← hj]
    simp
  have h63 : al.length + 1 ≤ maxLen := by unfold maxLen; omega
  have hby : (al.length + 1) * 40 ≤ 140737488355328 := by omega
  obtain ⟨v', u', hr, k2, k3, k4⟩ := run_append_own (P := Tryd.prog) u B 23 23 35 i41 z41 5 40 Tryd.underlying23 i1 i2 i3 i4 i5 (by omega) v al.length (flat zs) e3 ⟨q, 0, none⟩ 1 1 (row z d) rfl hnews h1 h63 hby hB
  have hblk := append_block2 (P := Tryd.prog) Tryd.underlying23 i1 i2 i3 i4 i5 (by omega) e3 (by omega) rfl hnews h1 h63 hby hr
  obtain ⟨hfl, hk2⟩ := k2
  have hfz : flat (zs ++ [(z, d)]) = flat zs ++ row z d := by rw [flat_append, flat_one]
  have hlen : (flat zs).length = al.length * 5 := by rw [flat_length, hzl]
  have hap' : ∀ y ∈ zs ++ [(z, d)], Reads .u8 u y.2 y.1.data ∧ Apart v y := fun y hy => by
    rcases List.mem_append.1 hy with hy | hy
    · exact e2 y hy
    · rw [List.mem_singleton] at hy; subst hy; exact ⟨hd, hap⟩
  have hnb : ∀ y ∈ zs ++ [(z, d)], 0 < y.1.data.length → y.2.ownBlock = none ∨ y.2.ownBlock ≠ v.ownBlock := fun y hy h0 => by
    cases ev : v.ownBlock with
    | none => cases y.2.ownBlock with
      | none => exact .inl rfl
      | some k => exact .inr (by simp)
    | some k => exact .inr ((hap' y hy).2 h0 k ev)
  have hrd : ∀ y ∈ zs ++ [(z, d)], Reads .u8 u' y.2 y.1.data := fun y hy => reads_grown (hap' y hy).1 k3 (fun h0 k hk e => (hap' y hy).2 h0 k hk e)
  have hmap : (zs ++ [(z, d)]).map Prod.fst = al ++ [z] := by rw [List.map_append, e1]; rfl
  rcases hk2 with ⟨rfl, hn⟩ | ⟨g', cap', cur', rfl, hb', hg', hle, hm', hsz', ht'⟩
  · omega
  have hLX : LX v.ownBlock (al.length * 5) (row z d) u' (.slice (some ⟨g', 0, none⟩) (al.length + 1) cap') (al ++ [z]) :=
    ⟨zs ++ [(z, d)], flat zs, g', cap', cur', hmap, fun y hy => ⟨hrd y hy, hnb y hy⟩, by simp, by simpa using hle, hm', hg', by simp; omega, hfz, hlen, by rw [hfz, ← ht', show (al.length + 1) * 5 = al.length * 5 + 5 by omega]⟩
  refine ⟨_, u', hr, ?_, hLX⟩
  rcases hblk with ⟨g, cap, cur, cs, rfl, hv', hgu, hgu', hcs, htk⟩ | ⟨_, hb⟩
  · cases hv'
    rw [hg'] at hgu'
    cases hgu'
    refine ⟨k3.os, k3.tape, k3.output, k3.size, fun k hk hg => k3.block k hk hg, fun k hk cur0 hc0 => ?_⟩
    have ek : g' = k := Option.some.inj hk
    subst ek
    rw [hgu] at hc0
    cases hc0
    refine ⟨cur', hg', hcs, htk, fun _ => ?_⟩
    rw [htk]
    have h5 : cur'.toList.take (al.length * 5 + 5) = flat zs ++ row z d := by rw [← ht', show (al.length + 1) * 5 = al.length * 5 + 5 by omega]
    have h6 := congrArg (List.take (al.length * 5)) h5
    rw [List.take_take, Nat.min_eq_left (by omega), List.take_left' hlen] at h6
    rw [h5, ← htk, h6]
  · exact Sf.below hb
end Go.Proofs.YtjfmahodbdianaaDoor.Avps
namespace Go.Proofs.YtjfmahodbdianaaDoor.Dict
open Go.RowKit Mem Cells Ops Rule Avps Go.Maps
set_option linter.unusedVariables false
theorem run_appendR (u : World) (B g : Nat) (v : Value) (rs : List R) (hat : At u g 37 #[]) (hB : B ≤ g) (hr : ReadsR u v rs) (hl : rs.length ≤ 200) :
    ∃ v' u', (Builtin.append_ #[22, 22] 22 #[.slice (some ⟨g, 0, none⟩) 0 0, v]).run Tryd.prog u = .ok v' u' ∧ Below u.heap.size u u' ∧ OwnR 37 B u' v' rs := by
  have hown : OwnR 37 B u (.slice (some ⟨g, 0, none⟩) 0 0) [] := ⟨rfl, .inr ⟨g, 0, #[], rfl, hB, hat, Nat.le_refl _, by decide, rfl, rfl⟩⟩
  obtain ⟨i40, z40, i1, i2, i3, i4, i5⟩ := info40
  obtain ⟨p, c, rfl, h1, h2, h3, h4⟩ := hr
  rcases Nat.eq_zero_or_pos rs.length with h0 | h0
  · have e0 : rs = [] := List.eq_nil_of_length_eq_zero h0
    subst e0
    cases p with
    | none =>
      obtain rfl := h3 rfl
      exact ⟨_, _, run_append_owned_none (P := Tryd.prog) (w := u) B 22 22 37 i40 6 Tryd.underlying22 i1 _ 0 [] hown, Below.refl _ _, hown⟩
    | some ad =>
      have hrun := run_append_room (P := Tryd.prog) u 22 22 37 i40 Tryd.underlying22 i1 g 0 0 #[] hat ad 0 c [] (by simp) (fun j q hj => by simp at hj) (fun q hq => by cases hq) (by omega) (by simp)
      have hw : u.setRow g #[] = u := setRow_same hat
      simp only [Nat.zero_mul, List.take_zero, List.drop_zero, List.append_nil, Nat.add_zero, List.length_nil] at hrun
      rw [show (#[] : Array Value).toList.toArray = #[] from rfl] at hrun
      simp only [hw] at hrun
      exact ⟨_, _, hrun, Below.refl _ _, hown⟩
  · obtain ⟨b, off, rfl, hlt, hc⟩ := h4 h0
    have hnews : ∀ j q, (flatR rs)[j]? = some q → u.cell? ((⟨b, off, none⟩ : Addr).add j) = some q := by
      intro j q hj
      have hjl := (List.getElem?_eq_some_iff.1 hj).1
      rw [flatR_length] at hjl
      have hi6 : j / 6 < rs.length := by omega
      have hy : rs[j / 6]? = some rs[j / 6] := List.getElem?_eq_getElem hi6
      have e1 := flatR_get rs (j / 6) _ hy (j % 6) (by omega)
      rw [show j / 6 * 6 + j % 6 = j by omega, hj] at e1
      have := hc (j / 6) _ hy (j % 6) q e1.symm
      rw [add_none, show off + j = off + j / 6 * 6 + j % 6 by omega]
      exact this
    have h63 : 0 + rs.length ≤ maxLen := by unfold maxLen; omega
    have hby : (0 + rs.length) * 40 ≤ 140737488355328 := by omega
    obtain ⟨v', u', hr, k2, k3, k4⟩ := run_append_own (P := Tryd.prog) u B 22 22 37 i40 z40 6 40 Tryd.underlying22 i1 i2 i3 i4 i5 (by omega) _ 0 [] hown ⟨b, off, none⟩ rs.length c (flatR rs) (flatR_length rs) hnews (flatR_one rs) h63 hby (by have := hat.lt; omega)
    have hblk := append_block2 (P := Tryd.prog) Tryd.underlying22 i1 i2 i3 i4 i5 (by omega) hown h0 (flatR_length rs) hnews (flatR_one rs) h63 hby hr
    refine ⟨v', u', hr, ?_, by unfold OwnR; simpa using k2⟩
    rcases hblk with ⟨g2, cap, cur, cs, e, rfl, _⟩ | ⟨_, hb⟩
    · cases e
      rcases k2.2 with ⟨e, _⟩ | ⟨_, _, _, e, _, _, hle, _⟩
      · cases e
      · cases e
        omega
    · exact hb
/-! What the slots hold. -/
section
variable (gl : Option Nat) (m : Nat) (rx : List Value) (W0 : Nat) (hW : ∀ q, gl = some q → q < W0)
include hW
theorem ne_gl {g : Nat} (hg : W0 ≤ g) : some g ≠ gl := fun e => by have := hW g e.symm; omega
def emptyP : MonoG.Prp (relS gl m rx) := ⟨fun v u => ∃ g, v = .slice (some ⟨g, 0, none⟩) 0 0 ∧ At u g 37 #[] ∧ W0 ≤ g, fun _ _ _ ⟨g, h1, h2, h3⟩ hs => ⟨g, h1, Sf.at hs h2 (ne_gl gl W0 hW h3), h3⟩⟩
def oneP (cs : Array Value) : MonoG.Prp (relS gl m rx) := ⟨fun v u => ∃ g, v = .slice (some ⟨g, 0, none⟩) 1 1 ∧ At u g 35 cs ∧ W0 ≤ g, fun _ _ _ ⟨g, h1, h2, h3⟩ hs => ⟨g, h1, Sf.at hs h2 (ne_gl gl W0 hW h3), h3⟩⟩
def rulesP (rs : List R) : MonoG.Prp (relS gl m rx) := ⟨fun v u => OwnR 37 W0 u v rs, fun v a b h hs => ⟨h.1, by
  rcases h.2 with hn | ⟨g, cap, cur, rfl, hbb, hgg, rest⟩
  · exact .inl hn
  · exact .inr ⟨g, cap, cur, rfl, hbb, (hs.block g (Array.getElem?_eq_some_iff.1 hgg).1 (ne_gl gl W0 hW hbb)).trans hgg, rest⟩⟩⟩
end
def listP (gl : Option Nat) (m : Nat) (rx : List Value) (al : List A) : MonoG.Prp (relS gl m rx) := ⟨fun v u => LX gl m rx u v al, fun _ _ _ h hs => h.stays hs⟩
theorem gdep {L : MonoG.Rel} {ds : List (Option Nat)} {Rs : List (MonoG.Prp L)} {a : Act} {w : World} : ∀ {es : List Edge} {i d : Nat} {R : MonoG.Prp L}, MonoG.DepFacts ds Rs a w es → (es.any fun e => e.on == i && Region.binds .any e) = true → ds[i]? = some (some d) → Rs[i]? = some R → R.R (a.eval (.tmp d)) w
  | [], _, _, _, _, h, _, _ => by cases h
  | e :: es, i, d, R, hd, h, h1, h2 => by
    rw [List.any_cons, Bool.or_eq_true] at h
    rcases h with h | h
    · rw [Bool.and_eq_true, beq_iff_eq] at h
      obtain ⟨rfl, hb⟩ := h
      have := hd.1 hb
      rw [h1, h2] at this
      exact this
    · exact gdep hd.2 h h1 h2
theorem g_val {P : Program} {w w' : World} {o : Oper} {a : Act} {L : MonoG.Rel} {R : MonoG.Prp L} {Q : Exit → Act → World → Prop} (r : Value) (hrun : (execOp a.eval o).run P w = .ok (.value r) w') (hl : L.R w w') (h : R.R r w') :
    o.wp P a w (fun a' w' => ∃ v, a' = a.put o.dst v ∧ L.R w w' ∧ R.R v w') Q := by
  unfold Oper.wp
  rw [hrun]
  exact ⟨_, rfl, hl, h⟩
theorem g_call {P : Program} {w : World} {o : Oper} {a : Act} {L : MonoG.Rel} {R : MonoG.Prp L} {Q : Exit → Act → World → Prop} (f : Nat) (vs : Array Value) (hrun : (execOp a.eval o).run P w = .ok (.enter f vs) w)
    (h : Calls P f vs w fun e w' => ∃ v, e = .returned v ∧ L.R w w' ∧ R.R v w') : o.wp P a w (fun a' w' => ∃ v, a' = a.put o.dst v ∧ L.R w w' ∧ R.R v w') Q := by
  unfold Oper.wp
  rw [hrun]
  simp only [Oper.upon]
  exact Calls.mono h (fun e w'' ⟨v, he, hk⟩ => by subst he; exact ⟨v, rfl, hk⟩)
end Go.Proofs.YtjfmahodbdianaaDoor.Dict
