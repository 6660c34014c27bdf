import Derived.Test.YtkbghhholjfgfaaB1
set_option linter.unusedSimpArgs false
set_option linter.unusedVariables false
set_option linter.unusedSimpArgs false
set_option linter.unusedVariables false
namespace Pv

section
variable {X : Type} {cmp : X → X → Int}

theorem insJ_step {c : List X} {a j : Nat} {x y : X} (h : a < j) (hx : c[j]? = some x) (hy : c[j - 1]? = some y) (hlt : cmp x y < 0) : insJ cmp a j c = insJ cmp a (j - 1) (swp c j (j - 1)) := by
  obtain ⟨k, rfl⟩ : ∃ k, j = k + 1 := ⟨j - 1, by omega⟩
  simp only [Nat.add_sub_cancel] at hy ⊢
  simp [insJ, h, hx, hy, hlt]
theorem insJ_stop1 {c : List X} {a j : Nat} (h : ¬ a < j) : insJ cmp a j c = c := by
  cases j with
  | zero => rfl
  | succ k => simp [insJ, h]
theorem insJ_stop2 {c : List X} {a j : Nat} {x y : X} (hx : c[j]? = some x) (hy : c[j - 1]? = some y) (hlt : ¬ cmp x y < 0) : insJ cmp a j c = c := by
  cases j with
  | zero => rfl
  | succ k =>
    simp only [Nat.add_sub_cancel] at hy
    simp [insJ, hx, hy, hlt]
theorem insJ_len (a : Nat) : ∀ (j : Nat) (c : List X), (insJ cmp a j c).length = c.length
  | 0, c => rfl
  | j + 1, c => by
    simp only [insJ]
    split
    · split
      · split
        · rw [insJ_len a j, swp_len]
        · rfl
      · rfl
    · rfl

theorem get_app {A U V B : List X} {k : Nat} (h1 : A.length ≤ k) (h2 : k < A.length + U.length) : (A ++ (U ++ B))[k]? = U[k - A.length]? := by
  rw [List.getElem?_append_right h1, List.getElem?_append_left (by omega)]
theorem get_app2 {A U V B : List X} {k : Nat} (h1 : A.length + U.length ≤ k) (h2 : k < A.length + U.length + V.length) : (A ++ (U ++ (V ++ B)))[k]? = V[k - A.length - U.length]? := by
  rw [List.getElem?_append_right (by omega), List.getElem?_append_right (by omega), List.getElem?_append_left (by omega)]

theorem sorted_take {l : List X} (hl : Sorted cmp l) (k : Nat) : Sorted cmp (l.take k) := hl.sublist (List.take_sublist _ _)
theorem sorted_drop {l : List X} (hl : Sorted cmp l) (k : Nat) : Sorted cmp (l.drop k) := hl.sublist (List.drop_sublist _ _)

theorem sorted_le {l : List X} (h : TP cmp) (hl : Sorted cmp l) {i j : Nat} {x y : X} (hx : l[i]? = some x) (hy : l[j]? = some y) (hij : i ≤ j) : cmp x y ≤ 0 := by
  obtain ⟨hi, rfl⟩ := List.getElem?_eq_some_iff.1 hx
  obtain ⟨hj, rfl⟩ := List.getElem?_eq_some_iff.1 hy
  by_cases e : i = j
  · subst e; rw [h.refl]; omega
  · exact List.pairwise_iff_getElem.1 hl i j hi hj (by omega)

theorem mem_take {l : List X} {k : Nat} {x : X} (hx : x ∈ l.take k) : ∃ i, i < k ∧ l[i]? = some x := by
  obtain ⟨i, hi, rfl⟩ := List.getElem_of_mem hx
  simp at hi
  refine ⟨i, by omega, ?_⟩
  rw [List.getElem?_eq_getElem (by omega)]; simp
theorem mem_drop {l : List X} {k : Nat} {x : X} (hx : x ∈ l.drop k) : ∃ i, k ≤ i ∧ l[i]? = some x := by
  obtain ⟨i, hi, rfl⟩ := List.getElem_of_mem hx
  simp at hi
  refine ⟨k + i, by omega, ?_⟩
  rw [List.getElem?_eq_getElem (by omega)]; simp

theorem sym_split (h : TP cmp) {A U V B xs : List X} {a m b st e : Nat} (hu : Sorted cmp U) (hv : Sorted cmp V) (hxs : xs = A ++ (U ++ (V ++ B))) (ha : A.length = a) (hm : a + U.length = m) (hb : m + V.length = b)
    (h1 : a ≤ st) (h2 : st ≤ m) (h3 : m ≤ e) (h4 : e ≤ b)
    (hlo : st = a ∨ e = b ∨ ∃ x y, xs[st - 1]? = some x ∧ xs[e]? = some y ∧ ¬ cmp y x < 0)
    (hhi : st = m ∨ e = m ∨ ∃ x y, xs[st]? = some x ∧ xs[e - 1]? = some y ∧ cmp y x < 0) :
    sortBy cmp (U ++ V) = sortBy cmp (U.take (st - a) ++ V.take (e - m)) ++ sortBy cmp (U.drop (st - a) ++ V.drop (e - m)) := by
  have key := merge_split h (U1 := U.take (st - a)) (U2 := U.drop (st - a)) (V1 := V.take (e - m)) (V2 := V.drop (e - m)) (by rw [List.take_append_drop]; exact hu) (by rw [List.take_append_drop]; exact hv) ?_ ?_
  · rw [List.take_append_drop, List.take_append_drop] at key; exact key
  · intro u hu' v hv'
    obtain ⟨i, hi, hui⟩ := mem_take hu'
    obtain ⟨j, hj, hvj⟩ := mem_drop hv'
    have hil := (List.getElem?_eq_some_iff.1 hui).1
    have hjl := (List.getElem?_eq_some_iff.1 hvj).1
    clear hhi
    rcases hlo with e1 | e1 | ⟨x, y, hx, hy, hn⟩
    · omega
    · omega
    · subst hxs
      rw [get_app (V := V) (by omega) (by omega)] at hx
      rw [get_app2 (by omega) (by omega)] at hy
      have hxy := h.flip hn
      have c1 := sorted_le h hu hui hx (by omega)
      have c2 := sorted_le h hv hy hvj (by omega)
      exact h.trans _ _ _ (h.trans _ _ _ c1 hxy) c2
  · intro v hv' u hu'
    obtain ⟨i, hi, hui⟩ := mem_drop hu'
    obtain ⟨j, hj, hvj⟩ := mem_take hv'
    have hil := (List.getElem?_eq_some_iff.1 hui).1
    have hjl := (List.getElem?_eq_some_iff.1 hvj).1
    clear hlo
    rcases hhi with e1 | e1 | ⟨x, y, hx, hy, hn⟩
    · omega
    · omega
    · subst hxs
      rw [get_app (V := V) (by omega) (by omega)] at hx
      rw [get_app2 (by omega) (by omega)] at hy
      have c1 := sorted_le h hu hx hui (by omega)
      have c2 := sorted_le h hv hvj hy (by omega)
      exact h.lt_le (h.le_lt c2 hn) c1

theorem one_left (h : TP cmp) {A V B xs : List X} {x : X} {a i : Nat} (hv : Sorted cmp V) (hxs : xs = A ++ ([x] ++ (V ++ B))) (ha : A.length = a) (h1 : a + 1 ≤ i) (h2 : i ≤ a + 1 + V.length)
    (hlo : i = a + 1 ∨ ∃ y, xs[i - 1]? = some y ∧ cmp y x < 0) (hhi : i = a + 1 + V.length ∨ ∃ y, xs[i]? = some y ∧ ¬ cmp y x < 0) :
    sortBy cmp ([x] ++ V) = V.take (i - a - 1) ++ x :: V.drop (i - a - 1) := by
  have key := merge_left1 h (x := x) (V1 := V.take (i - a - 1)) (V2 := V.drop (i - a - 1)) (by rw [List.take_append_drop]; exact hv) ?_ ?_
  · rw [List.take_append_drop] at key; exact key
  · intro v hv'
    obtain ⟨j, hj, hvj⟩ := mem_take hv'
    have hjl := (List.getElem?_eq_some_iff.1 hvj).1
    clear hhi
    rcases hlo with e1 | ⟨y, hy, hn⟩
    · omega
    · subst hxs
      rw [get_app2 (by simp; omega) (by simp; omega)] at hy
      have c1 := sorted_le h hv hvj hy (by simp; omega)
      exact h.le_lt c1 hn
  · intro v hv'
    obtain ⟨j, hj, hvj⟩ := mem_drop hv'
    have hjl := (List.getElem?_eq_some_iff.1 hvj).1
    clear hlo
    rcases hhi with e1 | ⟨y, hy, hn⟩
    · omega
    · subst hxs
      rw [get_app2 (by simp; omega) (by simp; omega)] at hy
      have c1 := sorted_le h hv hy hvj (by simp; omega)
      intro hlt
      exact hn (h.le_lt c1 hlt)

theorem one_right (h : TP cmp) {A U B xs : List X} {y : X} {a i : Nat} (hu : Sorted cmp U) (hxs : xs = A ++ (U ++ ([y] ++ B))) (ha : A.length = a) (h1 : a ≤ i) (h2 : i ≤ a + U.length)
    (hlo : i = a ∨ ∃ x, xs[i - 1]? = some x ∧ ¬ cmp y x < 0) (hhi : i = a + U.length ∨ ∃ x, xs[i]? = some x ∧ cmp y x < 0) :
    sortBy cmp (U ++ [y]) = U.take (i - a) ++ y :: U.drop (i - a) := by
  have key := merge_right1 h (y := y) (U1 := U.take (i - a)) (U2 := U.drop (i - a)) (by rw [List.take_append_drop]; exact hu) ?_ ?_
  · rw [List.take_append_drop] at key; exact key
  · intro u hu'
    obtain ⟨j, hj, huj⟩ := mem_take hu'
    have hjl := (List.getElem?_eq_some_iff.1 huj).1
    clear hhi
    rcases hlo with e1 | ⟨x, hx, hn⟩
    · omega
    · subst hxs
      rw [get_app (V := []) (by omega) (by omega)] at hx
      have c1 := sorted_le h hu huj hx (by omega)
      intro hlt
      exact hn (h.lt_le hlt c1)
  · intro u hu'
    obtain ⟨j, hj, huj⟩ := mem_drop hu'
    have hjl := (List.getElem?_eq_some_iff.1 huj).1
    clear hlo
    rcases hhi with e1 | ⟨x, hx, hn⟩
    · omega
    · subst hxs
      rw [get_app (V := []) (by omega) (by omega)] at hx
      have c1 := sorted_le h hu hx huj (by omega)
      exact h.lt_le hn c1

def At (l : List X) (k : Nat) (p : X → Prop) : Prop := ∃ y, l[k]? = some y ∧ p y
def At2 (l : List X) (i j : Nat) (p : X → X → Prop) : Prop := ∃ x y, l[i]? = some x ∧ l[j]? = some y ∧ p x y

theorem mv_right {A V B c : List X} {x v : X} {a k : Nat} (hc : c = A ++ (V.take (k - a) ++ x :: (V.drop (k - a) ++ B))) (ha : A.length = a) (hak : a ≤ k) (hv : V[k - a]? = some v) :
    c[k]? = some x ∧ c[k + 1]? = some v ∧ swp c k (k + 1) = A ++ (V.take (k + 1 - a) ++ x :: (V.drop (k + 1 - a) ++ B)) := by
  have hlt := (List.getElem?_eq_some_iff.1 hv).1
  have e1 : V.drop (k - a) = v :: V.drop (k - a + 1) := drop_get hv
  have e2 : V.take (k - a + 1) = V.take (k - a) ++ [v] := take_get hv
  have e3 : k + 1 - a = k - a + 1 := by omega
  have hl : (V.take (k - a)).length = k - a := by simp; omega
  subst hc
  rw [e3, e2, e1]
  refine ⟨?_, ?_, ?_⟩
  · have := get_mid (A ++ V.take (k - a)) (v :: V.drop (k - a + 1) ++ B) x (k := k) (by simp; omega)
    simpa using this
  · have := get_mid (A ++ V.take (k - a) ++ [x]) (V.drop (k - a + 1) ++ B) v (k := k + 1) (by simp; omega)
    simpa using this
  · have := swp_mid (A ++ V.take (k - a)) [] (V.drop (k - a + 1) ++ B) x v (i := k) (j := k + 1) (by simp; omega) (by simp; omega)
    simpa using this

theorem mv_left {A U B c : List X} {y u : X} {a k : Nat} (hc : c = A ++ (U.take (k - a) ++ y :: (U.drop (k - a) ++ B))) (ha : A.length = a) (hak : a < k) (hkU : k - a ≤ U.length) (hu : U[k - 1 - a]? = some u) :
    c[k]? = some y ∧ c[k - 1]? = some u ∧ swp c k (k - 1) = A ++ (U.take (k - 1 - a) ++ y :: (U.drop (k - 1 - a) ++ B)) := by
  have e3 : k - a = (k - 1 - a) + 1 := by omega
  have e1 : U.drop (k - 1 - a) = u :: U.drop (k - 1 - a + 1) := drop_get hu
  have e2 : U.take (k - 1 - a + 1) = U.take (k - 1 - a) ++ [u] := take_get hu
  have hl : (U.take (k - 1 - a)).length = k - 1 - a := by simp; omega
  subst hc
  rw [e3, e2, e1]
  refine ⟨?_, ?_, ?_⟩
  · have := get_mid (A ++ (U.take (k - 1 - a) ++ [u])) (U.drop (k - 1 - a + 1) ++ B) y (k := k) (by simp; omega)
    simpa using this
  · have := get_mid (A ++ U.take (k - 1 - a)) (y :: (U.drop (k - 1 - a + 1) ++ B)) u (k := k - 1) (by simp; omega)
    simpa using this
  · rw [swp_comm _ _ _ (by omega)]
    have := swp_mid (A ++ U.take (k - 1 - a)) [] (U.drop (k - 1 - a + 1) ++ B) u y (i := k - 1) (j := k) (by simp; omega) (by simp; omega)
    simpa using this

theorem sym_split' (h : TP cmp) {A U V B xs : List X} {a m b st e : Nat} (hu : Sorted cmp U) (hv : Sorted cmp V) (hxs : xs = A ++ (U ++ (V ++ B))) (ha : A.length = a) (hm : a + U.length = m) (hb : m + V.length = b)
    (h1 : a ≤ st) (h2 : st ≤ m) (h3 : m ≤ e) (h4 : e ≤ b)
    (hlo : st = a ∨ e = b ∨ At2 xs (st - 1) e fun x y => ¬ cmp y x < 0)
    (hhi : st = m ∨ e = m ∨ At2 xs st (e - 1) fun x y => cmp y x < 0) :
    ∃ U1 U2 V1 V2, U = U1 ++ U2 ∧ V = V1 ++ V2 ∧ a + U1.length = st ∧ m + V1.length = e ∧ Sorted cmp U1 ∧ Sorted cmp U2 ∧ Sorted cmp V1 ∧ Sorted cmp V2 ∧ sortBy cmp (U ++ V) = sortBy cmp (U1 ++ V1) ++ sortBy cmp (U2 ++ V2) :=
  ⟨U.take (st - a), U.drop (st - a), V.take (e - m), V.drop (e - m), by simp, by simp, by simp; omega, by simp; omega, sorted_take hu _, sorted_drop hu _, sorted_take hv _, sorted_drop hv _, sym_split h hu hv hxs ha hm hb h1 h2 h3 h4 hlo hhi⟩

end
end Pv
set_option linter.unusedSimpArgs false
set_option linter.unusedVariables false
namespace Pv

section
variable {X : Type} {cmp : X → X → Int}

theorem BS.nil (w : Nat) : BS cmp w [] := fun i j x y _ _ hx => by simp at hx
theorem BS.pre {w : Nat} {P R : List X} (h : BS cmp w (P ++ R)) : BS cmp w P := h.left

def BlkI (cmp : X → X → Int) (w a : Nat) (c xs : List X) : Prop := ∃ P k, c = P ++ xs.drop a ∧ P.length = a ∧ a = k * w ∧ BS cmp w P ∧ StEq cmp P (xs.take a)
theorem BlkI.start (w : Nat) (xs : List X) : BlkI cmp w 0 xs xs := ⟨[], 0, by simp, rfl, by simp, BS.nil w, by simp [StEq]⟩
theorem BlkI.step (h : TP cmp) {w a : Nat} {c xs : List X} (hw : 0 < w) (hi : BlkI cmp w a c xs) (hl : a + w ≤ xs.length) :
    ∃ P U R, c = P ++ (U ++ R) ∧ P.length = a ∧ U.length = w ∧ ∀ c', c' = P ++ (sortBy cmp U ++ R) → BlkI cmp w (a + w) c' xs := by
  obtain ⟨P, k, h1, h2, h3, h4, h5⟩ := hi
  refine ⟨P, (xs.drop a).take w, xs.drop (a + w), ?_, h2, by simp; omega, fun c' hc' => ⟨P ++ sortBy cmp ((xs.drop a).take w), k + 1, ?_, ?_, ?_, ?_, ?_⟩⟩
  · rw [h1]; congr 1
    rw [← List.drop_drop, List.take_append_drop]
  · rw [hc']; simp
  · simp [sortBy_len]; omega
  · rw [h3, Nat.add_mul, Nat.one_mul]
  · exact BS.app hw (k := k) (by omega) h4 (BS.of_sorted (sortBy_spec h _).1)
  · rw [List.take_add]
    exact StEq.app h5 (sortBy_spec h _).2
theorem BlkI.last (h : TP cmp) {w a : Nat} {c xs : List X} (hw : 0 < w) (hi : BlkI cmp w a c xs) (h0 : a ≤ xs.length) (hl : xs.length < a + w) :
    ∃ P U, c = P ++ (U ++ []) ∧ P.length = a ∧ a + U.length = xs.length ∧ ∀ c', c' = P ++ (sortBy cmp U ++ []) → BS cmp w c' ∧ StEq cmp c' xs := by
  obtain ⟨P, k, h1, h2, h3, h4, h5⟩ := hi
  refine ⟨P, xs.drop a, by rw [h1]; simp, h2, by simp; omega, fun c' hc' => ?_⟩
  rw [hc', List.append_nil]
  refine ⟨BS.app hw (k := k) (by omega) h4 (BS.of_sorted (sortBy_spec h _).1), ?_⟩
  have := StEq.app h5 (sortBy_spec h (xs.drop a)).2
  rwa [List.take_append_drop] at this

def MrgI (cmp : X → X → Int) (w a : Nat) (c xs : List X) : Prop := ∃ P R k, c = P ++ R ∧ P.length = a ∧ a = k * (2 * w) ∧ BS cmp (2 * w) P ∧ BS cmp w R ∧ StEq cmp c xs
theorem MrgI.start {w : Nat} {c xs : List X} (hb : BS cmp w c) (he : StEq cmp c xs) : MrgI cmp w 0 c xs := ⟨[], c, 0, by simp, rfl, by simp, BS.nil _, hb, he⟩
theorem MrgI.step (h : TP cmp) {w a : Nat} {c xs : List X} (hw : 0 < w) (hi : MrgI cmp w a c xs) (hl : a + 2 * w ≤ c.length) :
    ∃ P U V R, c = P ++ (U ++ (V ++ R)) ∧ P.length = a ∧ U.length = w ∧ V.length = w ∧ Sorted cmp U ∧ Sorted cmp V ∧ ∀ c', c' = P ++ (sortBy cmp (U ++ V) ++ R) → MrgI cmp w (a + 2 * w) c' xs := by
  obtain ⟨P, R, k, h1, h2, h3, h4, h5, h6⟩ := hi
  have hR : 2 * w ≤ R.length := by rw [h1] at hl; simp at hl; omega
  have e1 : R = R.take w ++ R.drop w := (List.take_append_drop w R).symm
  have e2 : R.drop w = (R.drop w).take w ++ (R.drop w).drop w := (List.take_append_drop w _).symm
  have s1 : BS cmp w (R.take w) := BS.left (R := R.drop w) (by rw [← e1]; exact h5)
  have s2 : BS cmp w (R.drop w) := BS.right (k := 1) hw (P := R.take w) (by simp; omega) (by rw [← e1]; exact h5)
  have s3 : BS cmp w ((R.drop w).take w) := BS.left (R := (R.drop w).drop w) (by rw [← e2]; exact s2)
  have s4 : BS cmp w ((R.drop w).drop w) := BS.right (k := 1) hw (P := (R.drop w).take w) (by simp; omega) (by rw [← e2]; exact s2)
  refine ⟨P, R.take w, (R.drop w).take w, (R.drop w).drop w, by rw [h1, ← e2, ← e1], h2, by simp; omega, by simp; omega, s1.sorted (by simp; omega), s3.sorted (by simp; omega), fun c' hc' => ?_⟩
  refine ⟨P ++ sortBy cmp (R.take w ++ (R.drop w).take w), (R.drop w).drop w, k + 1, by rw [hc']; simp, by simp [sortBy_len]; omega, by rw [h3, Nat.add_mul, Nat.one_mul], ?_, s4, ?_⟩
  · exact BS.app (by omega) (k := k) (by omega) h4 (BS.of_sorted (sortBy_spec h _).1)
  · refine StEq.trans ?_ h6
    rw [hc', h1]
    refine StEq.app (StEq.refl _) ?_
    have := StEq.app (sortBy_spec h (R.take w ++ (R.drop w).take w)).2 (StEq.refl (cmp := cmp) ((R.drop w).drop w))
    rwa [List.append_assoc, ← e2, ← e1] at this
theorem MrgI.last1 (h : TP cmp) {w a : Nat} {c xs : List X} (hw : 0 < w) (hi : MrgI cmp w a c xs) (h0 : a + w < c.length) (hl : c.length < a + 2 * w) :
    ∃ P U V, c = P ++ (U ++ (V ++ [])) ∧ P.length = a ∧ U.length = w ∧ a + w + V.length = c.length ∧ Sorted cmp U ∧ Sorted cmp V ∧ ∀ c', c' = P ++ (sortBy cmp (U ++ V) ++ []) → BS cmp (2 * w) c' ∧ StEq cmp c' xs := by
  obtain ⟨P, R, k, h1, h2, h3, h4, h5, h6⟩ := hi
  have hR : c.length = a + R.length := by rw [h1]; simp; omega
  have e1 : R = R.take w ++ R.drop w := (List.take_append_drop w R).symm
  have s1 : BS cmp w (R.take w) := BS.left (R := R.drop w) (by rw [← e1]; exact h5)
  have s2 : BS cmp w (R.drop w) := BS.right (k := 1) hw (P := R.take w) (by simp; omega) (by rw [← e1]; exact h5)
  refine ⟨P, R.take w, R.drop w, by rw [h1, List.append_nil, ← e1], h2, by simp; omega, by simp; omega, s1.sorted (by simp; omega), s2.sorted (by simp; omega), fun c' hc' => ?_⟩
  rw [hc', List.append_nil]
  refine ⟨BS.app (by omega) (k := k) (by omega) h4 (BS.of_sorted (sortBy_spec h _).1), ?_⟩
  refine StEq.trans ?_ h6
  rw [h1]
  refine StEq.app (StEq.refl _) ?_
  have := (sortBy_spec h (R.take w ++ R.drop w)).2
  rwa [← e1] at this ⊢
theorem MrgI.last2 (h : TP cmp) {w a : Nat} {c xs : List X} (hw : 0 < w) (hi : MrgI cmp w a c xs) (h0 : c.length ≤ a + w) : BS cmp (2 * w) c ∧ StEq cmp c xs := by
  obtain ⟨P, R, k, h1, h2, h3, h4, h5, h6⟩ := hi
  have hR : c.length = a + R.length := by rw [h1]; simp; omega
  refine ⟨?_, h6⟩
  rw [h1]
  exact BS.app (by omega) (k := k) (by omega) h4 (BS.of_sorted (h5.sorted (by omega)))

end
end Pv
set_option linter.unusedSimpArgs false
set_option linter.unusedVariables false
namespace Pv
open Go

theorem rnOf_one (t g : Nat) : ∃ R : Rn, R.ρ 0 = t ∧ R.δ 0 = g := by
  refine ⟨rnOf [t] [g] (t + 1) (by simp) (by simp), ?_, ?_⟩ <;> simp [rnOf]

theorem call_row {P : Program} {f : FuncId} {s n : Nat} {xs ys rest : List PV} {r : PV} (h : PBox P f (.bsl 0 0 s 0 n :: rest) [(0, ⟨0, true, .arr s xs⟩)] r [(0, ⟨0, true, .arr s ys⟩)]) (he : Enters P f)
    (hrest : (rest.all PV.closed) = true) (hr : r.closed = true) (hxs : (xs.all PV.closed) = true) (hys : (ys.all PV.closed) = true) {Hc : FH} {t g : Nat} (hb : Hc t = some ⟨g, true, .arr s xs⟩) :
    CallSem P f (.bsl t g s 0 n :: rest) Hc { v := r, rd := [t, t], wr := [(t, ⟨g, true, .arr s ys⟩)] } := by
  obtain ⟨R, hR, hD⟩ := rnOf_one t g
  have e1 : rest.map (PV.ren R) = rest := map_ren_closed (List.all_eq_true.1 hrest)
  have e2 : xs.map (PV.ren R) = xs := map_ren_closed (List.all_eq_true.1 hxs)
  have e3 : ys.map (PV.ren R) = ys := map_ren_closed (List.all_eq_true.1 hys)
  have := call_box h he R (Hc := Hc) (args := .bsl t g s 0 n :: rest) (by simp [PV.ren, hR, hD, e1])
    (by
      simp only [List.all_cons, Bool.and_eq_true]
      exact ⟨rfl, List.all_eq_true.2 fun x hx => within_closed (List.all_eq_true.1 hrest x hx)⟩)
    (by
      simp only [keys, List.map_cons, List.map_nil, List.all_cons, List.all_nil, Bool.and_true]
      exact List.all_eq_true.2 fun x hx => within_closed (List.all_eq_true.1 hxs x hx))
    (by
      intro e he
      simp at he; subst he
      simp [hR, hb, find, Box.ren, Body.ren, hD, e2])
    (by
      intro e he
      simp at he; subst he
      exact .inl rfl)
  simpa [keys, hR, hD, part', Box.ren, Body.ren, e3, ren_closed R r hr] using this

theorem toNat_add (a b : Nat) : ((a : Int) + (b : Int)).toNat = a + b := by omega
theorem map_get {X : Type} {pv : X → PV} {c : List X} {k : Nat} {x : X} (h : c[k]? = some x) : (c.map pv)[k]? = some (pv x) := by simp [h]
theorem swp_eq {X : Type} {c : List X} {i j : Nat} {x y : X} (hx : c[i]? = some x) (hy : c[j]? = some y) : (c.set i y).set j x = swp c i j := by simp [swp, hx, hy]
theorem map_swp {X : Type} {pv : X → PV} {c : List X} {i j : Nat} {x y : X} (hx : c[i]? = some x) (hy : c[j]? = some y) : ((c.map pv).set i (pv y)).set j (pv x) = (swp c i j).map pv := by
  rw [← swp_eq hx hy, List.map_set, List.map_set]

theorem wrap_u64 {n : Int} (h1 : 0 ≤ n) (h2 : n < 18446744073709551616) : IntKind.u64.wrap n = n := by
  unfold IntKind.wrap
  simp only [IntKind.bits, IntKind.signed, Int.reducePow, Bool.false_and, Bool.false_eq_true, if_false]
  omega

theorem pw_cutH {P : Program} {c0 : Cx} {H0 : FH} {Q : Exit → PS → Prop} {x y : Code} {T0 : List PV} {Hp : Heap} (M : List Nat) (S : List (Nat × PV)) (Hs : List (Nat × Box))
    (hx : ∀ K : PS → Prop, (∀ st', Wk H0 st' ⟨sets (forget M T0) S, puts Hp Hs⟩ → K st') → pw P c0 H0 x (thenP K Q) ⟨T0, Hp⟩) (hy : pw P c0 H0 y Q ⟨sets (forget M T0) S, puts Hp Hs⟩) : pw P c0 H0 (.seq x y) Q ⟨T0, Hp⟩ := by
  refine pw_seq (pw_post (hx (fun st' => Wk H0 st' ⟨sets (forget M T0) S, puts Hp Hs⟩) fun st' h => h) ?_)
  intro e st' hq
  cases e with
  | normal => exact ⟨_, hq, hy⟩
  | _ => exact ⟨st', Wk.refl _, hq⟩

theorem withinL_of {S : Nat → Bool} {l : List PV} (h : (l.all PV.closed) = true) : PV.within.go S l = true := by
  induction l with
  | nil => rfl
  | cons x t ih =>
    simp only [List.all_cons, Bool.and_eq_true] at h
    simp only [PV.within.go, Bool.and_eq_true]
    exact ⟨within_closed h.1, ih h.2⟩

theorem half (i j k : Nat) (hk : k = (i + j) / 2) : Int.fdiv ((i : Int) + (j : Int)) 2 = (k : Int) := by
  subst hk
  rw [Int.fdiv_eq_ediv_of_nonneg _ (by omega)]
  omega

theorem gE {X : Type} {l : List X} {k : Nat} {x : X} (h : l[k]? = some x) : ∀ h' : k < l.length, l[k]'h' = x := fun h' => by rw [List.getElem?_eq_getElem h'] at h; exact Option.some.inj h

def OrO (p q : Prop) : Prop := p ∨ q

end Pv
set_option linter.unusedSimpArgs false
set_option linter.unusedVariables false
namespace Pv
open Go


def lk : List (Nat × PV) → Nat → PV
  | [], _ => .any
  | (k, v) :: t, i => if k = i then v else lk t i
def fr (n : Nat) (l : List (Nat × PV)) : List PV := (List.range n).map (lk l)
def upF : List (Nat × PV) → Nat → PV → List (Nat × PV)
  | [], d, v => [(d, v)]
  | (k, x) :: t, d, v => if k = d then (d, v) :: t else (k, x) :: upF t d v
def memL : List Nat → Nat → Bool
  | [], _ => false
  | k :: t, i => if k = i then true else memL t i
def keepL (ks : List Nat) : List (Nat × PV) → List (Nat × PV)
  | [] => []
  | (k, x) :: t => bif memL ks k then (k, x) :: keepL ks t else keepL ks t
def argL : Nat → List PV → List (Nat × PV)
  | _, [] => []
  | k, x :: t => (k, x) :: argL (k + 1) t

theorem fr_len (n : Nat) (l : List (Nat × PV)) : (fr n l).length = n := by simp [fr]
theorem fr_get (n : Nat) (l : List (Nat × PV)) (i : Nat) : (fr n l)[i]? = if i < n then some (lk l i) else none := by
  unfold fr
  rw [List.getElem?_map]
  by_cases h : i < n
  · rw [if_pos h, List.getElem?_range h]; rfl
  · rw [if_neg h, List.getElem?_eq_none (by simpa using h)]; rfl
theorem lk_up (l : List (Nat × PV)) (d i : Nat) (v : PV) : lk (upF l d v) i = if d = i then v else lk l i := by
  induction l with
  | nil => simp [upF, lk]
  | cons p t ih =>
    obtain ⟨k, x⟩ := p
    simp only [upF]
    by_cases hk : k = d
    · subst hk
      simp only [if_true, lk]
      split <;> rfl
    · simp only [hk, if_false, lk]
      by_cases hi : k = i
      · subst hi
        have : ¬ d = k := fun e => hk e.symm
        simp [this]
      · simp only [hi, if_false]; exact ih
theorem fr_set (n : Nat) (l : List (Nat × PV)) (d : Nat) (v : PV) : (fr n l).set d v = fr n (upF l d v) := by
  apply List.ext_getElem?
  intro i
  rw [List.getElem?_set, fr_get, fr_get, fr_len, lk_up]
  by_cases hd : d = i
  · subst hd; simp
  · simp [hd]
theorem setD_fr (n : Nat) (l : List (Nat × PV)) (d : Nat) (v : PV) : setD (fr n l) (some d) v = fr n (upF l d v) := fr_set n l d v
theorem setD_none (T : List PV) (v : PV) : setD T none v = T := rfl
theorem ev_fr {n : Nat} {l : List (Nat × PV)} {t : Nat} (h : t < n) : ev (fr n l) (.tmp t) = lk l t := by
  simp only [ev, List.getD_eq_getElem?_getD, fr_get, h, if_true, Option.getD_some]
theorem fr_get' {n : Nat} {l : List (Nat × PV)} {t : Nat} (h : t < n) : (fr n l)[t]? = some (lk l t) := by rw [fr_get, if_pos h]
theorem ev_const (T : List PV) (v : Value) : ev T (.const v) = ofConst v := rfl
theorem ev_func (T : List PV) (f : FuncId) : ev T (.func f) = .clo f [] [] := rfl
theorem ev_glob (T : List PV) (g : Nat) : ev T (.global g) = .addr ⟨g, 0, none⟩ := rfl

def FLt (H : FH) (l : List (Nat × PV)) : List (Nat × PV) → Prop
  | [] => True
  | (i, y) :: t => Lt H (lk l i) y ∧ FLt H l t
theorem FLt.get {H : FH} {l : List (Nat × PV)} : ∀ {l' : List (Nat × PV)}, FLt H l l' → ∀ i, Lt H (lk l i) (lk l' i)
  | [], _, i => .any _
  | (k, y) :: t, h, i => by
    simp only [lk]
    split
    · rename_i e; subst e; exact h.1
    · exact FLt.get h.2 i
theorem LtL.of_get {H : FH} : ∀ {xs ys : List PV}, xs.length = ys.length → (∀ (i : Nat) x y, xs[i]? = some x → ys[i]? = some y → Lt H x y) → LtL H xs ys
  | [], [], _, _ => .nil
  | [], _ :: _, h, _ => by simp at h
  | _ :: _, [], h, _ => by simp at h
  | x :: xs, y :: ys, h, g => .cons (g 0 x y rfl rfl) (LtL.of_get (by simpa using h) fun i a b ha hb => g (i + 1) a b (by simpa using ha) (by simpa using hb))
theorem FLt.ltl {H : FH} {l l' : List (Nat × PV)} (h : FLt H l l') (n : Nat) : LtL H (fr n l) (fr n l') := by
  refine LtL.of_get (by simp [fr_len]) fun i x y hx hy => ?_
  rw [fr_get] at hx hy
  split at hx
  · rename_i hi
    rw [if_pos hi] at hy
    cases hx; cases hy
    exact h.get i
  · cases hx
theorem FLt.cons {H : FH} {l t : List (Nat × PV)} {i : Nat} {y : PV} (h : Lt H (lk l i) y) (ht : FLt H l t) : FLt H l ((i, y) :: t) := ⟨h, ht⟩

theorem lk_within {S : Nat → Bool} : ∀ {l : List (Nat × PV)}, (l.all fun e => e.2.within S) = true → ∀ i, (lk l i).within S = true
  | [], _, i => rfl
  | (k, y) :: t, h, i => by
    simp only [List.all_cons, Bool.and_eq_true] at h
    simp only [lk]
    split
    · exact h.1
    · exact lk_within h.2 i

theorem Wk.toF {L : Heap} {n : Nat} {l l' : List (Nat × PV)} {H H' : Heap} (hT : FLt (find H) l l') (hH : HLt (find H) H') (h0 : ((keys L).all (inH H')) = true)
    (hT' : (l'.all fun e => e.2.within (inH H')) = true) (hH' : (H'.all fun e => e.2.body.withinB (inH H')) = true) : Wk (find L) ⟨fr n l, H⟩ ⟨fr n l', H'⟩ := by
  refine Wk.to (hT.ltl n) hH h0 (List.all_eq_true.2 fun x hx => ?_) hH'
  obtain ⟨i, hi⟩ := List.getElem?_of_mem hx
  rw [fr_get] at hi
  split at hi
  · cases hi; exact lk_within hT' i
  · cases hi

theorem lk_keep {ks : List Nat} (l : List (Nat × PV)) (i : Nat) : lk (keepL ks l) i = lk l i ∨ lk (keepL ks l) i = .any := by
  induction l with
  | nil => exact .inl rfl
  | cons p t ih =>
    obtain ⟨k, x⟩ := p
    simp only [keepL]
    cases hm : memL ks k with
    | true =>
      simp only [cond_true, lk]
      split
      · exact .inl rfl
      · exact ih
    | false =>
      simp only [cond_false, lk]
      by_cases hi : k = i
      · subst hi
        refine .inr ?_
        have key : ∀ t : List (Nat × PV), lk (keepL ks t) k = .any := by
          intro t
          induction t with
          | nil => rfl
          | cons q t ih2 =>
            obtain ⟨k2, y⟩ := q
            simp only [keepL]
            cases h2 : memL ks k2 with
            | true =>
              simp only [cond_true, lk]
              have : ¬ k2 = k := fun e => by rw [e, hm] at h2; cases h2
              rw [if_neg this]; exact ih2
            | false => simp only [cond_false]; exact ih2
        exact key t
      · rw [if_neg hi]; exact ih

theorem Wk.keep {H0 : FH} {n : Nat} (ks : List Nat) {l : List (Nat × PV)} {H : Heap} : Wk H0 ⟨fr n l, H⟩ ⟨fr n (keepL ks l), H⟩ := by
  rintro c0 a w ⟨c, h1, h2, h3, h4, h5⟩
  refine ⟨c, h1, h2, h3, ⟨by rw [← h4.1, fr_len, fr_len], fun i p v hp hv => ?_⟩, h5⟩
  simp only [fr_get] at hp
  split at hp
  · rename_i hi
    cases hp
    rcases lk_keep (ks := ks) l i with e | e
    · rw [e]; exact h4.2 i _ v (by rw [fr_get, if_pos hi]) hv
    · rw [e]; exact .any _
  · cases hp

theorem pw_keep {P : Program} {c0 : Cx} {H0 : FH} {Q : Exit → PS → Prop} {cd : Code} {n : Nat} {l : List (Nat × PV)} {H : Heap} (ks : List Nat) (h : pw P c0 H0 cd Q ⟨fr n (keepL ks l), H⟩) : pw P c0 H0 cd Q ⟨fr n l, H⟩ := pw_weak (Wk.keep ks) h

theorem pw_loopF {P : Program} {c0 : Cx} {H0 : FH} {Q : Exit → PS → Prop} {cd : Code} {k : Nat} {l : List (Nat × PV)} {Hp : Heap} {α : Type} (C : List Nat) (S : α → List (Nat × PV)) (Hs : α → List (Nat × Box)) (inv : Nat → α → Prop) (n : Nat) (a : α)
    (h0 : inv n a) (hT : Wk H0 ⟨fr k l, Hp⟩ ⟨fr k (S a ++ keepL C l), puts Hp (Hs a)⟩)
    (round : ∀ n a, inv n a → ∀ K : PS → Prop, (∀ st' m a', m < n → inv m a' → Wk H0 st' ⟨fr k (S a' ++ keepL C l), puts Hp (Hs a')⟩ → K st') → pw P c0 H0 cd (thenP K Q) ⟨fr k (S a ++ keepL C l), puts Hp (Hs a)⟩) :
    pw P c0 H0 (.loop cd) Q ⟨fr k l, Hp⟩ := by
  refine pw_loop (fun m st => ∃ a, inv m a ∧ st = ⟨fr k (S a ++ keepL C l), puts Hp (Hs a)⟩) n ⟨_, hT, a, h0, rfl⟩ ?_
  rintro m st ⟨a, hi, rfl⟩
  refine pw_post (round m a hi (fun st' => ∃ m' a', m' < m ∧ inv m' a' ∧ Wk H0 st' ⟨fr k (S a' ++ keepL C l), puts Hp (Hs a')⟩) fun st' m' a' h1 h2 h3 => ⟨m', a', h1, h2, h3⟩) ?_
  intro e st' hq
  cases e with
  | normal =>
    obtain ⟨m', a', h1, h2, h3⟩ := hq
    exact ⟨st', Wk.refl _, m', _, h1, h3, a', h2, rfl⟩
  | _ => exact ⟨st', Wk.refl _, hq⟩

theorem pw_cutF {P : Program} {c0 : Cx} {H0 : FH} {Q : Exit → PS → Prop} {x y : Code} {k : Nat} {l : List (Nat × PV)} {Hp : Heap} (C : List Nat) (S : List (Nat × PV)) (Hs : List (Nat × Box))
    (hx : ∀ K : PS → Prop, (∀ st', Wk H0 st' ⟨fr k (S ++ keepL C l), puts Hp Hs⟩ → K st') → pw P c0 H0 x (thenP K Q) ⟨fr k l, Hp⟩) (hy : pw P c0 H0 y Q ⟨fr k (S ++ keepL C l), puts Hp Hs⟩) : pw P c0 H0 (.seq x y) Q ⟨fr k l, Hp⟩ := by
  refine pw_seq (pw_post (hx (fun st' => Wk H0 st' ⟨fr k (S ++ keepL C l), puts Hp Hs⟩) fun st' h => h) ?_)
  intro e st' hq
  cases e with
  | normal => exact ⟨_, hq, hy⟩
  | _ => exact ⟨st', Wk.refl _, hq⟩

theorem argL_lk : ∀ (args : List PV) (k i : Nat), lk (argL k args) i = if k ≤ i then args.getD (i - k) .any else .any
  | [], k, i => by simp [argL, lk]
  | x :: t, k, i => by
    simp only [argL, lk]
    by_cases h : k = i
    · subst h; simp
    · rw [if_neg h, argL_lk t (k + 1) i]
      by_cases h1 : k + 1 ≤ i
      · rw [if_pos h1, if_pos (by omega), show i - k = (i - (k + 1)) + 1 by omega]; rfl
      · rw [if_neg h1]
        by_cases h2 : k ≤ i
        · omega
        · rw [if_neg h2]

theorem Wk.args {H0 : FH} {args : List PV} {n : Nat} (hn : args.length ≤ n) {H : Heap} : Wk H0 ⟨args ++ List.replicate (n - args.length) (.tup []), H⟩ ⟨fr n (argL 0 args), H⟩ := by
  rintro c0 a w ⟨c, h1, h2, h3, h4, h5⟩
  refine ⟨c, h1, h2, h3, ⟨by rw [← h4.1, fr_len]; simp; omega, fun i p v hp hv => ?_⟩, h5⟩
  simp only [fr_get] at hp
  split at hp
  · rename_i hi
    cases hp
    rw [argL_lk, if_pos (Nat.zero_le _)]
    by_cases hl : i < args.length
    · rw [show i - 0 = i by omega, List.getD_eq_getElem?_getD, List.getElem?_eq_getElem hl]
      exact h4.2 i _ v (by simp only; rw [List.getElem?_append_left hl, List.getElem?_eq_getElem hl]; rfl) hv
    · rw [show i - 0 = i by omega, List.getD_eq_getElem?_getD, List.getElem?_eq_none (by omega)]
      exact .any _
  · cases hp

def evL (l : List (Nat × PV)) : Operand → PV
  | .tmp t => lk l t
  | .const v => ofConst v
  | .global g => .addr ⟨g, 0, none⟩
  | .func f => .clo f [] []
def resVL (P : Program) (H : FH) (n : Nat) (l : List (Nat × PV)) : ResultVar → Option PV
  | .tmp t => if t < n then some (lk l t) else none
  | .cell a t => if a < n then (sLoad P H t (lk l a)).map fun r => r.v else none
def resL (P : Program) (H : FH) (n : Nat) (rs : List ResultVar) (l : List (Nat × PV)) : Option PV :=
  match rs with
  | [] => some (.tup [])
  | [x] => resVL P H n l x
  | [x, y] => (resVL P H n l x).bind fun a => (resVL P H n l y).bind fun b => some (.tup [a, b])
  | [x, y, z] => (resVL P H n l x).bind fun a => (resVL P H n l y).bind fun b => (resVL P H n l z).bind fun d => some (.tup [a, b, d])
  | _ => none
theorem resVL_of {P : Program} {H : FH} {n : Nat} {l : List (Nat × PV)} {x : ResultVar} {r : PV} (h : resVL P H n l x = some r) : resV P H (fr n l) x = some r := by
  cases x with
  | tmp t =>
    simp only [resVL] at h
    split at h
    · rename_i ht; simp only [resV, ev_fr ht]; exact h
    · cases h
  | cell a t =>
    simp only [resVL] at h
    split at h
    · rename_i ht; simp only [resV, ev_fr ht]; exact h
    · cases h
theorem resL_of {P : Program} {H : FH} {n : Nat} {l : List (Nat × PV)} {rs : Array ResultVar} {r : PV} (h : resL P H n rs.toList l = some r) : resOf P H rs (fr n l) = some r := by
  unfold resL at h
  unfold resOf
  split at h
  · rename_i e; rw [e]; exact h
  · rename_i e; rw [e]; exact resVL_of h
  · rename_i x y e
    rw [e]
    simp only
    cases hx : resVL P H n l x with
    | none => simp [hx] at h
    | some a =>
      cases hy : resVL P H n l y with
      | none => simp [hx, hy] at h
      | some b =>
        rw [resVL_of hx, resVL_of hy]
        simpa [hx, hy] using h
  · rename_i x y z e
    rw [e]
    simp only
    cases hx : resVL P H n l x with
    | none => simp [hx] at h
    | some a =>
      cases hy : resVL P H n l y with
      | none => simp [hx, hy] at h
      | some b =>
        cases hz : resVL P H n l z with
        | none => simp [hx, hy, hz] at h
        | some d =>
          rw [resVL_of hx, resVL_of hy, resVL_of hz]
          simpa [hx, hy, hz] using h
  · cases h

theorem bodyQ_fr {P : Program} {fn : Func} {R : PV → FH → Prop} {e : Exit} {n : Nat} {l : List (Nat × PV)} {H : Heap} (he : e = .normal ∨ e = .ret) (q : PV) (h : resL P (find H) n fn.results.toList l = some q) (hR : R q (find H)) : bodyQ P fn R e ⟨fr n l, H⟩ := by
  rcases he with rfl | rfl <;> exact ⟨q, resL_of h, hR⟩
theorem bodyW_fr {P : Program} {fn : Func} {H0 : FH} {r : PV} {H1 : Heap} {e : Exit} {n : Nat} {l : List (Nat × PV)} {H : Heap} (he : e = .normal ∨ e = .ret) (q : PV) (h : resL P (find H) n fn.results.toList l = some q) (hR : Wk H0 ⟨[q], H⟩ ⟨[r], H1⟩) : bodyW P fn H0 r H1 e ⟨fr n l, H⟩ := by
  rcases he with rfl | rfl <;> exact ⟨q, resL_of h, hR⟩

theorem PCall.of_bodyF {P : Program} {f : FuncId} {fn : Func} {cd : Code} {args : List PV} {H : Heap} {R : PV → FH → Prop} (hf : P.funcs[f]? = some fn) (hb : fn.body = some cd) (n : Nat) (hn : fn.ntmps = n) (hl : args.length ≤ n)
    (h : ∀ c0, pw P c0 (find H) cd (bodyQ P fn R) ⟨fr n (argL 0 args), H⟩) : PCall P f args (find H) R :=
  PCall.of_body hf hb fun c0 => pw_weak (Wk.args (hn ▸ hl)) (hn ▸ h c0)
theorem PFun.of_bodyF {P : Program} {f : FuncId} {fn : Func} {cd : Code} {args : List PV} {r : PV} (hc : r.closed = true) (hf : P.funcs[f]? = some fn) (hb : fn.body = some cd) (n : Nat) (hn : fn.ntmps = n) (hl : args.length ≤ n)
    (h : ∀ c0, pw P c0 (find []) cd (bodyQ P fn fun q _ => q = r) ⟨fr n (argL 0 args), []⟩) : PFun P f args r := ⟨hc, PCall.of_bodyF hf hb n hn hl h⟩
theorem PFun.of_body_frozenF {P : Program} {f : FuncId} {fn : Func} {cd : Code} {args : List PV} {r : PV} (hc : r.closed = true) (hf : P.funcs[f]? = some fn) (hb : fn.body = some cd) (n : Nat) (hn : fn.ntmps = n) (hl : args.length ≤ n)
    (h : ∀ c0, pw P c0 (find []) cd (bodyQ P fn fun q H => ∃ ids q', view H q = some (q', ids) ∧ q'.le r) ⟨fr n (argL 0 args), []⟩) : PFun P f args r := .of_frozen hc (PCall.of_bodyF hf hb n hn hl h)
theorem PBox.of_bodyF {P : Program} {f : FuncId} {fn : Func} {cd : Code} {args : List PV} {H : Heap} {r : PV} {H1 : Heap} (hf : P.funcs[f]? = some fn) (hb : fn.body = some cd) (n : Nat) (hn : fn.ntmps = n) (hl : args.length ≤ n)
    (h : ∀ c0, pw P c0 (find H) cd (bodyW P fn (find H) r H1) ⟨fr n (argL 0 args), H⟩) : PBox P f args H r H1 :=
  PBox.of_body hf hb _ rfl fun c0 => pw_weak (Wk.args (hn ▸ hl)) (hn ▸ h c0)

end Pv
set_option linter.unusedSimpArgs false
set_option linter.unusedVariables false
namespace Pv
open Go

theorem TP.of {X Y : Type} {cmp : Y → Y → Int} (h : TP cmp) (f : X → Y) : TP fun a b => cmp (f a) (f b) := ⟨fun x y => h.anti _ _, fun x y z => h.trans _ _ _⟩
theorem TP.const {X : Type} : TP (fun _ _ : X => 0) := ⟨fun _ _ => by simp, fun _ _ _ _ _ => by simp⟩
theorem TP.lex {X : Type} {c d : X → X → Int} (h : TP c) (h' : TP d) : TP fun a b => if c a b ≠ 0 then c a b else d a b := by
  refine ⟨fun x y => ?_, fun x y z hxy hyz => ?_⟩
  · have h1 := h.anti x y; have h2 := h.anti y x; have h3 := h'.anti x y
    by_cases hc : c x y = 0
    · have : c y x = 0 := by omega
      simp only [hc, this, ne_eq, not_true, if_false]; exact h3
    · have : c y x ≠ 0 := by omega
      simp only [hc, this, ne_eq, not_false_eq_true, if_true]; exact h1
  · have h1 := h.anti x y; have h2 := h.anti y z; have h3 := h.anti x z; have h4 := h.trans x y z; have h5 := h'.trans x y z
    have h6 := @TP.lt_le X c h x y z; have h7 := @TP.le_lt X c h x y z
    have h8 := h.trans z x y; have h9 := h.trans y z x; have g1 := h.anti y x; have g2 := h.anti z y; have g3 := h.anti z x
    by_cases a1 : c x y = 0 <;> by_cases a2 : c y z = 0 <;> by_cases a3 : c x z = 0 <;> simp only [a1, a2, a3, ne_eq, not_true, not_false_eq_true, if_true, if_false] at hxy hyz ⊢
    · exact h5 hxy hyz
    all_goals (clear h5; omega)

theorem TP_cmpI : TP cmpI := by
  refine ⟨fun x y => ?_, fun x y z => ?_⟩ <;> simp only [cmpI] <;> (repeat' split) <;> omega

theorem cb_refl : ∀ (a : List UInt8), Lib.compareBytes a a = 0
  | [] => rfl
  | x :: t => by
    simp only [Lib.compareBytes]
    rw [if_neg (UInt8.lt_irrefl x), if_neg (UInt8.lt_irrefl x)]; exact cb_refl t
theorem cb_eq : ∀ {a b : List UInt8}, Lib.compareBytes a b = 0 → a = b
  | [], [], _ => rfl
  | [], _ :: _, h => by simp [Lib.compareBytes] at h
  | _ :: _, [], h => by simp [Lib.compareBytes] at h
  | x :: a, y :: b, h => by
    simp only [Lib.compareBytes] at h
    split at h
    · cases h
    · split at h
      · cases h
      · rename_i h1 h2
        have : x = y := by
          simp only [UInt8.lt_iff_toNat_lt] at h1 h2
          exact UInt8.toNat_inj.1 (by omega)
        rw [this, cb_eq h]
theorem TP_cb : TP Lib.compareBytes := by
  refine ⟨?_, ?_⟩
  · intro x
    induction x with
    | nil => intro y; cases y <;> simp [Lib.compareBytes]
    | cons a x ih =>
      intro y
      cases y with
      | nil => simp [Lib.compareBytes]
      | cons b y =>
        have := ih y
        simp only [Lib.compareBytes, UInt8.lt_iff_toNat_lt]
        repeat' split
        all_goals (first | omega | exact this)
  · intro x
    induction x with
    | nil => intro y z _ _; cases z <;> simp [Lib.compareBytes]
    | cons a x ih =>
      intro y z h1 h2
      cases y with
      | nil => simp [Lib.compareBytes] at h1
      | cons b y =>
        cases z with
        | nil => simp [Lib.compareBytes] at h2
        | cons c z =>
          have := ih y z
          simp only [Lib.compareBytes, UInt8.lt_iff_toNat_lt] at h1 h2 ⊢
          repeat' split at h1
          all_goals repeat' split at h2
          all_goals repeat' split
          all_goals (first | omega | (exact this h1 h2))

theorem less_eq : ∀ (a b : List UInt8), Op.bytesLess a b = decide (Lib.compareBytes a b < 0)
  | [], [] => rfl
  | [], _ :: _ => rfl
  | _ :: _, [] => rfl
  | x :: a, y :: b => by
    simp only [Op.bytesLess, Lib.compareBytes, less_eq a b]
    by_cases h1 : x < y
    · simp [h1]
    · by_cases h2 : y < x
      · have : ¬ x = y := fun e => by subst e; exact UInt8.lt_irrefl x h2
        simp [h1, h2, this]
      · have : x = y := by
          simp only [UInt8.lt_iff_toNat_lt] at h1 h2
          exact UInt8.toNat_inj.1 (by omega)
        simp [this, UInt8.lt_irrefl]
theorem cb_vals (a b : List UInt8) : Lib.compareBytes a b = -1 ∨ Lib.compareBytes a b = 0 ∨ Lib.compareBytes a b = 1 := by
  induction a generalizing b with
  | nil => cases b <;> simp [Lib.compareBytes]
  | cons x a ih =>
    cases b with
    | nil => simp [Lib.compareBytes]
    | cons y b =>
      simp only [Lib.compareBytes]
      split
      · simp
      · split
        · simp
        · exact ih b
theorem cmpS_cb (a b : ByteArray) : cmpS a b = Lib.compareBytes a.toList b.toList := by
  unfold cmpS
  rw [less_eq]
  have h := cb_vals a.toList b.toList
  by_cases h1 : Lib.compareBytes a.toList b.toList < 0
  · simp [h1]; omega
  · by_cases h2 : a.toList = b.toList
    · simp [h2, cb_refl]
    · have : Lib.compareBytes a.toList b.toList ≠ 0 := fun e => h2 (cb_eq e)
      simp [h1, h2]; omega
theorem TP_cmpS : TP cmpS := by
  have : cmpS = fun a b => Lib.compareBytes a.toList b.toList := by funext a b; exact cmpS_cb a b
  rw [this]; exact TP_cb.of _

theorem nz_one {X : Type} {c : X → X → Int} (h : TP c) : TP fun a b => firstNZ [c a b] := by
  have := h.lex (TP.const)
  simpa [firstNZ] using this
theorem nz_cons {X : Type} {c : X → X → Int} {l : X → X → List Int} (h : TP c) (h' : TP fun a b => firstNZ (l a b)) : TP fun a b => firstNZ (c a b :: l a b) := by
  have := h.lex h'
  simpa [firstNZ] using this
theorem TP_bn : TP fun a b : Bool => cmpI (bn a) (bn b) := TP_cmpI.of bn

theorem TP_key : TP keyCmp := nz_cons (TP_cmpS.of NKey.space) (nz_one (TP_cmpS.of NKey.name))
theorem TP_id : TP idCmp := nz_cons (TP_key.of NId.service) (nz_cons (TP_cmpS.of NId.name) (nz_cons (TP_bn.of NId.six) (nz_one (TP_bn.of NId.loc))))
theorem TP_addr : TP addrCmp := by
  have h : TP fun a b : NAddr => firstNZ [cmpI (bn a.six) (bn b.six), Lib.compareBytes a.b.toList b.b.toList] := nz_cons (TP_bn.of NAddr.six) (nz_one (TP_cb.of fun a : NAddr => a.b.toList))
  have e : addrCmp = fun a b : NAddr => firstNZ [cmpI (bn a.six) (bn b.six), Lib.compareBytes a.b.toList b.b.toList] := by
    funext a b
    unfold addrCmp
    cases a.six <;> cases b.six <;> simp [bn, cmpI, firstNZ]
  rw [e]; exact h
theorem TP_point : TP pointCmp := nz_cons (TP_addr.of NPoint.addr) (nz_one (TP_cmpI.of NPoint.port))
theorem TP_place : TP placeCmp := nz_cons (TP_cmpI.of NFront.proto) (nz_cons (TP_point.of NFront.point) (nz_cons (TP_key.of NFront.service) (nz_one (TP_cmpS.of NFront.name))))
theorem TP_front : TP frontCmp := nz_cons TP_place (nz_cons (TP_cmpI.of NFront.how) (nz_cons (TP_bn.of NFront.loc) (nz_cons (TP_bn.of NFront.asked) (nz_one (TP_cmpI.of NFront.ticks)))))
def grpCmp (a b : NGroup) : Int := idCmp a.id b.id
def filCmp (a b : NFilter) : Int := keyCmp a.service b.service
theorem TP_grp : TP grpCmp := TP_id.of NGroup.id
theorem TP_fil : TP filCmp := TP_key.of NFilter.service

theorem nz_zero : ∀ {l : List Int}, firstNZ l = 0 ↔ ∀ x ∈ l, x = 0
  | [] => by simp [firstNZ]
  | x :: t => by
    have ih := nz_zero (l := t)
    by_cases h : x = 0 <;> simp [firstNZ, h, ih]
theorem cmpS_zero {a b : ByteArray} : cmpS a b = 0 ↔ a = b := by
  rw [cmpS_cb]
  refine ⟨fun h => toList_inj.1 (cb_eq h), fun h => by rw [h]; exact cb_refl _⟩
theorem cmpI_zero {a b : Int} : cmpI a b = 0 ↔ a = b := by unfold cmpI; repeat' split; all_goals omega
theorem bn_zero {a b : Bool} : cmpI (bn a) (bn b) = 0 ↔ a = b := by rw [cmpI_zero]; cases a <;> cases b <;> simp [bn]
theorem keyCmp_zero {a b : NKey} : keyCmp a b = 0 ↔ a = b := by
  simp only [keyCmp, nz_zero, List.mem_cons, List.not_mem_nil, or_false, forall_eq_or_imp, forall_eq, cmpS_zero]
  cases a; cases b; simp
theorem idCmp_zero {a b : NId} : idCmp a b = 0 ↔ a = b := by
  simp only [idCmp, nz_zero, List.mem_cons, List.not_mem_nil, or_false, forall_eq_or_imp, forall_eq, cmpS_zero, keyCmp_zero, bn_zero]
  cases a; cases b; simp
theorem addrCmp_zero {a b : NAddr} : addrCmp a b = 0 ↔ a = b := by
  unfold addrCmp
  obtain ⟨s, v⟩ := a; obtain ⟨s', v'⟩ := b
  simp only [NAddr.mk.injEq]
  split
  · rename_i e
    refine ⟨fun h => ⟨e, Vector.toList_inj.1 (cb_eq h)⟩, fun h => by rw [h.2]; exact cb_refl _⟩
  · rename_i e
    refine ⟨fun h => ?_, fun h => absurd h.1 e⟩
    split at h <;> cases h
theorem pointCmp_zero {a b : NPoint} : pointCmp a b = 0 ↔ a = b := by
  simp only [pointCmp, nz_zero, List.mem_cons, List.not_mem_nil, or_false, forall_eq_or_imp, forall_eq, addrCmp_zero, cmpI_zero]
  cases a; cases b; simp
theorem placeCmp_zero {a b : NFront} : placeCmp a b = 0 ↔ a.proto = b.proto ∧ a.point = b.point ∧ a.service = b.service ∧ a.name = b.name := by
  simp only [placeCmp, nz_zero, List.mem_cons, List.not_mem_nil, or_false, forall_eq_or_imp, forall_eq, pointCmp_zero, cmpI_zero, keyCmp_zero, cmpS_zero]
theorem frontCmp_zero {a b : NFront} : frontCmp a b = 0 ↔ a = b := by
  simp only [frontCmp, nz_zero, List.mem_cons, List.not_mem_nil, or_false, forall_eq_or_imp, forall_eq, placeCmp_zero, bn_zero]
  simp only [cmpI_zero]
  cases a; cases b; simp; constructor
  · rintro ⟨⟨a1, a2, a3, a4⟩, a5, a6, a7, a8⟩; exact ⟨a1, a2, a3, a4, a5, a6, a7, a8⟩
  · rintro ⟨a1, a2, a3, a4, a5, a6, a7, a8⟩; exact ⟨⟨a1, a2, a3, a4⟩, a5, a6, a7, a8⟩
end Pv
set_option linter.unusedSimpArgs false
set_option linter.unusedVariables false
namespace Pv
open Go

def shR (s : Nat) : Rn where
  ρ k := s + k
  δ _ := 0
  σ b := if s ≤ b then some (b - s) else none
  l k := by rw [if_pos (Nat.le_add_right _ _)]; simp
  r b k h := by split at h <;> simp at h; omega
theorem shR_r (s k : Nat) : (shR s).ρ k = s + k := rfl
theorem shR_d (s k : Nat) : (shR s).δ k = 0 := rfl

theorem call_new {P : Program} {f : FuncId} {args : List PV} {r : PV} {H1 : Heap} (h : PBox P f args [] r H1) (he : Enters P f) (hc : (args.all PV.closed) = true) {Hc : FH} (s : Nat) (hfresh : (H1.all fun e => (Hc (s + e.1)).isNone) = true) :
    CallSem P f args Hc { v := r.ren (shR s), rd := (keys H1).map (s + ·), wr := part' (shR s) H1 } := by
  have := call_box h he (shR s) (Hc := Hc) (args := args) (map_ren_closed (List.all_eq_true.1 hc)).symm (List.all_eq_true.2 fun x hx => within_closed (List.all_eq_true.1 hc x hx)) rfl
    (by intro e he; simp at he)
    (by
      intro e he
      have := List.all_eq_true.1 hfresh e he
      exact .inr (by simpa [shR_r] using this))
  exact this

theorem El.renC {agg : Bool} {s : Nat} {X : Type} {pv : X → PV} (h : El agg s pv) (R : Rn) : PV.ren R ∘ pv = pv := by
  funext x; exact ren_closed R _ (h.cl x)
theorem El.ren1 {agg : Bool} {s : Nat} {X : Type} {pv : X → PV} (h : El agg s pv) (R : Rn) (x : X) : (pv x).ren R = pv x := ren_closed R _ (h.cl x)
theorem El.wi {agg : Bool} {s : Nat} {X : Type} {pv : X → PV} (h : El agg s pv) (S : Nat → Bool) (x : X) : (pv x).within S = true := within_closed (h.cl x)

theorem El_addr : El true 17 NAddr.pv := El.agg NAddr.cs_length NAddr.good
theorem El_id : El true 5 NId.pv := El.agg NId.cs_length NId.good
theorem El_table : El true 3 NTable.pv := El.agg NTable.cs_length NTable.good
theorem El_two : El true 10 (fun p : NId × NId => twoPv p.1 p.2) := El.agg (cs := fun p : NId × NId => twoCs p.1 p.2) (fun _ => rfl) fun p => by simp [twoCs, goodC_append]
@[simp] theorem two_within (S : Nat → Bool) (a b : NId) : (twoPv a b).within S = true := within_closed (two_closed a b)

theorem take_map_len {X : Type} {pv : X → PV} (l : List X) : (l.map pv).take l.length = l.map pv := List.take_of_length_le (by simp)
theorem set_same {X : Type} {pv : X → PV} {l : List X} {i : Nat} {x : X} (h : l[i]? = some x) : (l.map pv).set i (pv x) = l.map pv := by
  apply List.ext_getElem?
  intro j
  rw [List.getElem?_set]
  split
  · rename_i e; subst e
    simp only [List.length_map, List.getElem?_map, h, Option.map_some]
    rw [if_pos (List.getElem?_eq_some_iff.1 h).1]
  · rfl

theorem lt_froz {H : FH} {b g s st n : Nat} {z : Box} {xs ys : List PV} (h1 : boxArr H b g s = some (z, xs)) (h2 : z.own = false) (h3 : st + n ≤ xs.length) (h4 : (xs.all PV.closed) = true) (h5 : (xs.drop st).take n = ys) : Lt H (.bsl b g s st n) (.sl s ys) := h5 ▸ .froz h1 h2 h3 h4

@[simp] theorem NAddr.setc (a b : NAddr) : a.pv.setc 0 b.cs = b.pv := (El.agg (cs := NAddr.cs) NAddr.cs_length NAddr.good).set a b
@[simp] theorem NCidr.setc (a b : NCidr) : a.pv.setc 0 b.cs = b.pv := (El.agg (cs := NCidr.cs) NCidr.cs_length NCidr.good).set a b
@[simp] theorem NPoint.setc (a b : NPoint) : a.pv.setc 0 b.cs = b.pv := (El.agg (cs := NPoint.cs) NPoint.cs_length NPoint.good).set a b
@[simp] theorem NKey.setc (a b : NKey) : a.pv.setc 0 b.cs = b.pv := (El.agg (cs := NKey.cs) NKey.cs_length NKey.good).set a b
@[simp] theorem NFront.setc (a b : NFront) : a.pv.setc 0 b.cs = b.pv := (El.agg (cs := NFront.cs) NFront.cs_length NFront.good).set a b
@[simp] theorem NId.setc (a b : NId) : a.pv.setc 0 b.cs = b.pv := (El.agg (cs := NId.cs) NId.cs_length NId.good).set a b
@[simp] theorem NFilter.setc (a b : NFilter) : a.pv.setc 0 b.cs = b.pv := (El.agg (cs := NFilter.cs) NFilter.cs_length NFilter.good).set a b
@[simp] theorem NTable.setc (a b : NTable) : a.pv.setc 0 b.cs = b.pv := (El.agg (cs := NTable.cs) NTable.cs_length NTable.good).set a b
@[simp] theorem NGroup.setc (a b : NGroup) : a.pv.setc 0 b.cs = b.pv := (El.agg (cs := NGroup.cs) NGroup.cs_length NGroup.good).set a b
@[simp] theorem NRows.setc (a b : NRows) : a.pv.setc 0 b.cs = b.pv := (El.agg (cs := NRows.cs) NRows.cs_length NRows.good).set a b
@[simp] theorem NGroup.setc_table (a : NGroup) : a.pv.setc 5 a.table.cs = a.pv := rfl
@[simp] theorem NFilter.setc_ranges (a : NFilter) : a.pv.setc 2 [.sl 18 (a.ranges.map NCidr.pv)] = a.pv := rfl

structure NRows.le (n : Nat) (r : NRows) : Prop where
  f : r.fronts.length ≤ n
  g : r.groups.length ≤ n
  l : r.filters.length ≤ n
  gb : ∀ x ∈ r.groups, x.table.backends.length ≤ n ∧ x.table.slots.length ≤ n
  lr : ∀ x ∈ r.filters, x.ranges.length ≤ n

def sortRows (r : NRows) : NRows := ⟨sortBy frontCmp r.fronts, sortBy grpCmp r.groups, sortBy filCmp r.filters⟩
def ofRows (r : NRows) (k : NKey) : NRows := ⟨r.fronts.filter (fun f => decide (f.service = k)), r.groups.filter (fun g => decide (g.id.service = k)), r.filters.filter (fun f => decide (f.service = k))⟩
def catRows (l : List NRows) : NRows := ⟨l.flatMap (·.fronts), l.flatMap (·.groups), l.flatMap (·.filters)⟩
def joinRows (l : List NRows) : NRows := sortRows (catRows l)

theorem sortRows_le {n : Nat} {r : NRows} (h : r.le n) : (sortRows r).le n :=
  ⟨by simp [sortRows, sortBy_len, h.f], by simp [sortRows, sortBy_len, h.g], by simp [sortRows, sortBy_len, h.l],
   fun x hx => h.gb x ((sortBy_mem TP_grp).1 hx), fun x hx => h.lr x ((sortBy_mem TP_fil).1 hx)⟩
theorem ofRows_le {n : Nat} {r : NRows} {k : NKey} (h : r.le n) : (ofRows r k).le n :=
  ⟨Nat.le_trans (List.length_filter_le _ _) h.f, Nat.le_trans (List.length_filter_le _ _) h.g, Nat.le_trans (List.length_filter_le _ _) h.l,
   fun x hx => h.gb x (List.mem_filter.1 hx).1, fun x hx => h.lr x (List.mem_filter.1 hx).1⟩
theorem NRows.le.mono {n m : Nat} {r : NRows} (h : r.le n) (hn : n ≤ m) : r.le m :=
  ⟨Nat.le_trans h.f hn, Nat.le_trans h.g hn, Nat.le_trans h.l hn, fun x hx => ⟨Nat.le_trans (h.gb x hx).1 hn, Nat.le_trans (h.gb x hx).2 hn⟩, fun x hx => Nat.le_trans (h.lr x hx) hn⟩

theorem setc_agg (cs : List PV) (o : Nat) (vs : List PV) : (PV.agg cs).setc o vs = .agg (splice cs o vs) := rfl
@[simp] theorem setc_int (k : IntKind) (n : Int) (o : Nat) (v : PV) (t : List PV) : PV.setc (.int k n) o (v :: t) = v := rfl
@[simp] theorem setc_bool (b : Bool) (o : Nat) (v : PV) (t : List PV) : PV.setc (.bool b) o (v :: t) = v := rfl
@[simp] theorem setc_ub  (o : Nat) (v : PV) (t : List PV) : PV.setc (.ub) o (v :: t) = v := rfl
@[simp] theorem setc_str (s : ByteArray) (o : Nat) (v : PV) (t : List PV) : PV.setc (.str s) o (v :: t) = v := rfl
@[simp] theorem setc_sl (s : Nat) (xs : List PV) (o : Nat) (v : PV) (t : List PV) : PV.setc (.sl s xs) o (v :: t) = v := rfl
@[simp] theorem setc_bsl (b g s i n : Nat) (o : Nat) (v : PV) (t : List PV) : PV.setc (.bsl b g s i n) o (v :: t) = v := rfl
@[simp] theorem setc_nils  (o : Nat) (v : PV) (t : List PV) : PV.setc (.nils) o (v :: t) = v := rfl
@[simp] theorem setc_ptr (b g s i j : Nat) (o : Nat) (v : PV) (t : List PV) : PV.setc (.ptr b g s i j) o (v :: t) = v := rfl
@[simp] theorem setc_nilp  (o : Nat) (v : PV) (t : List PV) : PV.setc (.nilp) o (v :: t) = v := rfl
@[simp] theorem setc_addr (a : Addr) (o : Nat) (v : PV) (t : List PV) : PV.setc (.addr a) o (v :: t) = v := rfl
@[simp] theorem setc_ept (s : Nat) (xs : List PV) (i j : Nat) (o : Nat) (v : PV) (t : List PV) : PV.setc (.ept s xs i j) o (v :: t) = v := rfl
@[simp] theorem setc_clo (f : FuncId) (xs ys : List PV) (o : Nat) (v : PV) (t : List PV) : PV.setc (.clo f xs ys) o (v :: t) = v := rfl
@[simp] theorem setc_nilf  (o : Nat) (v : PV) (t : List PV) : PV.setc (.nilf) o (v :: t) = v := rfl
@[simp] theorem setc_ifc (ty : TypeId) (x : PV) (o : Nat) (v : PV) (t : List PV) : PV.setc (.ifc ty x) o (v :: t) = v := rfl
@[simp] theorem setc_nili  (o : Nat) (v : PV) (t : List PV) : PV.setc (.nili) o (v :: t) = v := rfl
@[simp] theorem setc_map (b g : Nat) (o : Nat) (v : PV) (t : List PV) : PV.setc (.map b g) o (v :: t) = v := rfl
@[simp] theorem setc_nilm  (o : Nat) (v : PV) (t : List PV) : PV.setc (.nilm) o (v :: t) = v := rfl
@[simp] theorem setc_any  (o : Nat) (v : PV) (t : List PV) : PV.setc (.any) o (v :: t) = v := rfl
end Pv
set_option linter.unusedSimpArgs false
set_option linter.unusedVariables false
namespace Pv
open Go

theorem find_cons (k : Nat) (x : Box) (t : Heap) (b : Nat) : find ((k, x) :: t) b = if k = b then some x else find t b := rfl
theorem find_nil (b : Nat) : find [] b = none := rfl
theorem bodyQ_ex {P : Program} {fn : Func} {R : PV → FH → Prop} {e : Exit} {n : Nat} {l : List (Nat × PV)} {H : Heap} (he : e = .normal ∨ e = .ret) (h : ∃ q, resL P (find H) n fn.results.toList l = some q ∧ R q (find H)) : bodyQ P fn R e ⟨fr n l, H⟩ := by
  obtain ⟨q, h1, h2⟩ := h
  exact bodyQ_fr he q h1 h2
theorem bodyW_ex {P : Program} {fn : Func} {H0 : FH} {r : PV} {H1 : Heap} {e : Exit} {n : Nat} {l : List (Nat × PV)} {H : Heap} (he : e = .normal ∨ e = .ret) (h : ∃ q, resL P (find H) n fn.results.toList l = some q ∧ Wk H0 ⟨[q], H⟩ ⟨[r], H1⟩) : bodyW P fn H0 r H1 e ⟨fr n l, H⟩ := by
  obtain ⟨q, h1, h2⟩ := h
  exact bodyW_fr he q h1 h2

theorem boxArr_mk {H : FH} {b g s : Nat} {x : Box} {xs : List PV} (h0 : H b = some x) (hb : x.body = .arr s xs) (hg : x.gen = g) : boxArr H b g s = some (x, xs) := by
  simp [boxArr, h0, hb, hg]
theorem lt_frozB {H : FH} {b g s st n : Nat} {x : Box} {xs ys : List PV} (h0 : H b = some x) (hb : x.body = .arr s xs) (hg : x.gen = g) (h2 : x.own = false) (h3 : st + n ≤ xs.length) (h4 : (xs.all PV.closed) = true) (h5 : (xs.drop st).take n = ys) : Lt H (.bsl b g s st n) (.sl s ys) := lt_froz (boxArr_mk h0 hb hg) h2 h3 h4 h5

theorem VwA.row' {H : FH} {M : Nat → Bool} {b g s st n z xs ys} (h1 : boxArr H b g s = some (z, xs)) (h2 : st + n ≤ xs.length) (h3 : xs.all PV.closed = true) (h4 : (xs.drop st).take n = ys) : VwA H M (.bsl b g s st n) (.sl s ys) [b] := h4 ▸ .row h1 h2 h3

theorem call_rowS {P : Program} {f : FuncId} {s n i k : Nat} {xs ys rest : List PV} (h : PBox P f (.bsl 0 0 s 0 n :: rest) [(0, ⟨0, true, .arr s xs⟩)] (.bsl 0 0 s i k) [(0, ⟨0, true, .arr s ys⟩)]) (he : Enters P f)
    (hrest : (rest.all PV.closed) = true) (hxs : (xs.all PV.closed) = true) (hys : (ys.all PV.closed) = true) {Hc : FH} {t g : Nat} (hb : Hc t = some ⟨g, true, .arr s xs⟩) :
    CallSem P f (.bsl t g s 0 n :: rest) Hc { v := .bsl t g s i k, rd := [t, t], wr := [(t, ⟨g, true, .arr s ys⟩)] } := by
  obtain ⟨R, hR, hD⟩ := rnOf_one t g
  have e1 : rest.map (PV.ren R) = rest := map_ren_closed (List.all_eq_true.1 hrest)
  have e2 : xs.map (PV.ren R) = xs := map_ren_closed (List.all_eq_true.1 hxs)
  have e3 : ys.map (PV.ren R) = ys := map_ren_closed (List.all_eq_true.1 hys)
  have := call_box h he R (Hc := Hc) (args := .bsl t g s 0 n :: rest) (by simp [PV.ren, hR, hD, e1])
    (by
      simp only [List.all_cons, Bool.and_eq_true]
      exact ⟨rfl, List.all_eq_true.2 fun x hx => within_closed (List.all_eq_true.1 hrest x hx)⟩)
    (by
      simp only [keys, List.map_cons, List.map_nil, List.all_cons, List.all_nil, Bool.and_true]
      exact List.all_eq_true.2 fun x hx => within_closed (List.all_eq_true.1 hxs x hx))
    (by
      intro e he
      simp at he; subst he
      simp [hR, hb, find, Box.ren, Body.ren, hD, e2])
    (by
      intro e he
      simp at he; subst he
      exact .inl rfl)
  simpa [keys, hR, hD, part', Box.ren, Body.ren, e3, PV.ren] using this

theorem BLt.pre {H : FH} {g : Nat} {o : Bool} {s : Nat} {xs ys : List PV} (h : xs.take ys.length = ys) : BLt H ⟨g, o, .arr s xs⟩ ⟨g, o, .arr s ys⟩ := h ▸ .take ys.length

def idxF {X : Type} (p : X → Bool) : Nat → List X → Int
  | _, [] => -1
  | i, x :: t => if p x = true then (i : Int) else idxF p (i + 1) t
theorem idxF_next {X : Type} {p : X → Bool} {l : List X} {i : Nat} {x : X} {r : Int} (hf : idxF p i (l.drop i) = r) (hx : l[i]? = some x) (hp : p x = false) : idxF p (i + 1) (l.drop (i + 1)) = r := by
  rw [drop_get hx, idxF, hp] at hf; simpa using hf
theorem idxF_hit {X : Type} {p : X → Bool} {l : List X} {i : Nat} {x : X} {r : Int} (hf : idxF p i (l.drop i) = r) (hx : l[i]? = some x) (hp : p x = true) : (i : Int) = r := by
  rw [drop_get hx, idxF, hp] at hf; simpa using hf
theorem idxF_end {X : Type} {p : X → Bool} {l : List X} {i : Nat} {r : Int} (hf : idxF p i (l.drop i) = r) (h : ¬ i < l.length) : -1 = r := by
  rw [drop_end h, idxF] at hf; exact hf
theorem idxF_spec {X : Type} {p : X → Bool} : ∀ (l : List X) (k : Nat), (idxF p k l = -1 ∧ l.filter (fun x => !p x) = l) ∨ ∃ i, idxF p k l = ((k + i : Nat) : Int) ∧ i < l.length ∧ (l.take (i + 1)).filter (fun x => !p x) = l.take i
  | [], k => .inl ⟨rfl, rfl⟩
  | x :: t, k => by
    simp only [idxF]
    by_cases hp : p x = true
    · refine .inr ⟨0, by simp [hp], by simp, by simp [hp]⟩
    · simp only [Bool.not_eq_true] at hp
      simp only [hp, Bool.false_eq_true, if_false]
      rcases idxF_spec t (k + 1) with ⟨h1, h2⟩ | ⟨i, h1, h2, h3⟩
      · refine .inl ⟨h1, ?_⟩
        rw [List.filter_cons, hp]
        simp only [Bool.not_false, if_true]; rw [h2]
      · refine .inr ⟨i + 1, by rw [h1]; congr 1; omega, by simp; omega, ?_⟩
        rw [List.take_succ_cons, List.filter_cons, hp]
        simp only [Bool.not_false, if_true, List.take_succ_cons]; rw [h3]

theorem idx_none {X : Type} {p : X → Bool} {l : List X} (h : idxF p 0 l = -1) : l.filter (fun x => !p x) = l := by
  rcases idxF_spec (p := p) l 0 with ⟨_, h2⟩ | ⟨k, h1, _⟩
  · exact h2
  · omega
theorem idx_some {X : Type} {p : X → Bool} {l : List X} (h : ¬ idxF p 0 l = -1) : ∃ k, idxF p 0 l = ((k : Nat) : Int) ∧ k < l.length ∧ (l.take (k + 1)).filter (fun x => !p x) = l.take k := by
  rcases idxF_spec (p := p) l 0 with ⟨h1, _⟩ | ⟨k, h1, h2, h3⟩
  · exact absurd h1 h
  · exact ⟨k, by rw [h1]; simp, h2, h3⟩

theorem El.isAgg {s : Nat} {X : Type} {pv : X → PV} (E : El true s pv) (x : X) : ∃ cs, pv x = .agg cs ∧ cs.length = s := by
  have h1 := E.ld x
  have h2 := E.len x
  simp only [loadE, if_true] at h1
  split at h1
  · simp only [Option.some.injEq] at h1
    refine ⟨_, h1.symm, ?_⟩
    simp; omega
  · cases h1
theorem El.setz {s : Nat} {X : Type} {pv : X → PV} (E : El true s pv) (zs : List PV) (x : X) (h : zs.length = s) : (PV.agg zs).setc 0 (pv x).cells = pv x := by
  obtain ⟨cs, h1, h2⟩ := E.isAgg x
  rw [h1]
  simp only [PV.setc, PV.cells, splice, List.take_zero, List.nil_append, Nat.zero_add]
  rw [List.drop_of_length_le (by omega), List.append_nil]

structure Del {X : Type} (p : X → Bool) (l c : List X) (i j : Nat) : Prop where
  lt : i < j
  le : j ≤ l.length
  len : c.length = l.length
  tk : c.take i = (l.take j).filter fun x => !p x
  dr : c.drop j = l.drop j
theorem Del.start {X : Type} {p : X → Bool} {l : List X} {i : Nat} (h1 : i < l.length) (h2 : (l.take (i + 1)).filter (fun x => !p x) = l.take i) : Del p l l i (i + 1) := ⟨by omega, h1, rfl, h2.symm, rfl⟩
theorem Del.get {X : Type} {p : X → Bool} {l c : List X} {i j : Nat} (h : Del p l c i j) (hj : j < l.length) : ∃ x, c[j]? = some x ∧ l[j]? = some x := by
  have h1 : c[j]? = l[j]? := by
    have := congrArg (fun l => l[0]?) h.dr
    simpa using this
  obtain ⟨x, hx⟩ := getN hj
  exact ⟨x, h1.trans hx, hx⟩
theorem Del.keep {X : Type} {p : X → Bool} {l c : List X} {i j : Nat} {x : X} (h : Del p l c i j) (hx : l[j]? = some x) (hp : p x = false) : Del p l (c.set i x) (i + 1) (j + 1) := by
  have hlt := (List.getElem?_eq_some_iff.1 hx).1
  have hlen := h.len; have hij := h.lt
  refine ⟨by omega, hlt, by simp [h.len], ?_, ?_⟩
  · have h1 : (c.set i x)[i]? = some x := by rw [List.getElem?_set_self (by omega)]
    rw [take_get h1, List.take_set_of_le (Nat.le_refl i), h.tk, take_get hx, List.filter_append]
    simp [hp]
  · rw [List.drop_set_of_lt (by omega), ← List.drop_drop, ← List.drop_drop, h.dr]
theorem Del.skip {X : Type} {p : X → Bool} {l c : List X} {i j : Nat} {x : X} (h : Del p l c i j) (hx : l[j]? = some x) (hp : p x = true) : Del p l c i (j + 1) := by
  have hlt := (List.getElem?_eq_some_iff.1 hx).1
  have hij := h.lt
  refine ⟨by omega, hlt, h.len, ?_, ?_⟩
  · rw [h.tk, take_get hx, List.filter_append]; simp [hp]
  · rw [← List.drop_drop, ← List.drop_drop, h.dr]
theorem Del.done {X : Type} {p : X → Bool} {l c : List X} {i j : Nat} (h : Del p l c i j) (hj : ¬ j < l.length) : c.take i = l.filter (fun x => !p x) ∧ (l.filter fun x => !p x).length = i := by
  have h1 : l.take j = l := List.take_of_length_le (by omega)
  have h2 := h.tk
  rw [h1] at h2
  refine ⟨h2, ?_⟩
  rw [← h2, List.length_take]
  have := h.lt; have := h.le; have := h.len
  omega
theorem Del.row {X : Type} {pv : X → PV} {p : X → Bool} {l c : List X} {i j : Nat} (h : Del p l c i j) (hj : ¬ j < l.length) (z d : List PV) : (((c.map pv).take i ++ (z ++ d))).take ((l.filter fun x => !p x).map pv).length = (l.filter fun x => !p x).map pv := by
  obtain ⟨h1, h2⟩ := h.done hj
  rw [List.length_map, h2, ← h1, ← List.map_take]
  have := h.lt; have := h.le; have := h.len
  rw [List.take_append_of_le_length (by simp; omega)]
  exact List.take_of_length_le (by simp; omega)

end Pv
set_option linter.unusedSimpArgs false
set_option linter.unusedVariables false
namespace Pv
open Go

def longF (f : NFront) : Bool := decide (100 < (f.service.space.size : Int)) || decide (100 < (f.service.name.size : Int)) || decide (100 < (f.name.size : Int))
def longG (g : NGroup) : Bool := decide (100 < (g.id.service.space.size : Int)) || decide (100 < (g.id.service.name.size : Int)) || decide (100 < (g.id.name.size : Int)) || decide (30 < (g.table.backends.length : Int)) || decide (260 < (g.table.slots.length : Int))
def longL (f : NFilter) : Bool := decide (100 < (f.service.space.size : Int)) || decide (100 < (f.service.name.size : Int)) || decide (20 < (f.ranges.length : Int))
def longR (a : NRows) (most : Int) : Bool := decide (most < a.fronts.length) || decide (most < a.groups.length) || decide (most < a.filters.length) || a.fronts.any longF || a.groups.any longG || a.filters.any longL

theorem any_next {X : Type} {p : X → Bool} {l : List X} {i : Nat} {x : X} {b : Bool} (hf : (l.drop i).any p = b) (hx : l[i]? = some x) (hp : p x = false) : (l.drop (i + 1)).any p = b := by
  rw [drop_get hx, List.any_cons, hp, Bool.false_or] at hf; exact hf
theorem any_hit {X : Type} {p : X → Bool} {l : List X} {i : Nat} {x : X} {b : Bool} (hf : (l.drop i).any p = b) (hx : l[i]? = some x) (hp : p x = true) : b = true := by
  rw [drop_get hx, List.any_cons, hp, Bool.true_or] at hf; exact hf.symm
theorem any_done {X : Type} {p : X → Bool} {l : List X} {i : Nat} {b : Bool} (hf : (l.drop i).any p = b) (h : ¬ i < l.length) : b = false := by
  rw [drop_end h] at hf; exact hf.symm

theorem longR_le {a : NRows} {most : Nat} (h : longR a most = false) (hm : most ≤ 260) : a.le 260 := by
  simp only [longR, Bool.or_eq_false_iff, decide_eq_false_iff_not] at h
  obtain ⟨⟨⟨⟨⟨h1, h2⟩, h3⟩, h4⟩, h5⟩, h6⟩ := h
  refine ⟨by omega, by omega, by omega, fun x hx => ?_, fun x hx => ?_⟩
  · have := List.any_eq_false.1 h5 x hx
    simp only [longG, Bool.not_eq_true, Bool.or_eq_false_iff, decide_eq_false_iff_not] at this
    omega
  · have := List.any_eq_false.1 h6 x hx
    simp only [longL, Bool.not_eq_true, Bool.or_eq_false_iff, decide_eq_false_iff_not] at this
    omega


def posR {X : Type} (cmp : X → X → Int) (l : List X) (x : X) : Nat → Nat
  | 0 => 0
  | j + 1 => match l[j]? with
    | some y => if cmp x y < 0 then posR cmp l x j else j + 1
    | none => j + 1
theorem posR_le {X : Type} (cmp : X → X → Int) (l : List X) (x : X) : ∀ j, posR cmp l x j ≤ j
  | 0 => Nat.le_refl _
  | j + 1 => by
    simp only [posR]
    split
    · split
      · have := posR_le cmp l x j; omega
      · exact Nat.le_refl _
    · exact Nat.le_refl _
theorem posR_step {X : Type} {cmp : X → X → Int} {l : List X} {x y : X} {j p : Nat} (h : posR cmp l x j = p) (hj : 0 < j) (hy : l[j - 1]? = some y) (hlt : cmp x y < 0) : posR cmp l x (j - 1) = p := by
  obtain ⟨k, rfl⟩ : ∃ k, j = k + 1 := ⟨j - 1, by omega⟩
  simp only [Nat.add_sub_cancel] at hy ⊢
  simpa [posR, hy, hlt] using h
theorem posR_stop {X : Type} {cmp : X → X → Int} {l : List X} {x y : X} {j p : Nat} (h : posR cmp l x j = p) (hj : 0 < j) (hy : l[j - 1]? = some y) (hlt : ¬ cmp x y < 0) : j = p := by
  obtain ⟨k, rfl⟩ : ∃ k, j = k + 1 := ⟨j - 1, by omega⟩
  simp only [Nat.add_sub_cancel] at hy
  simpa [posR, hy, hlt] using h
theorem posR_zero {X : Type} {cmp : X → X → Int} {l : List X} {x : X} {j p : Nat} (h : posR cmp l x j = p) (hj : ¬ 0 < j) : j = p := by
  have : j = 0 := by omega
  subst this; exact h

def putR {X : Type} (cmp : X → X → Int) (l : List X) (x : X) : List X := l.take (posR cmp l x l.length) ++ x :: l.drop (posR cmp l x l.length)
theorem posR_app {X : Type} (cmp : X → X → Int) (l m : List X) (x : X) : ∀ j, j ≤ l.length → posR cmp (l ++ m) x j = posR cmp l x j
  | 0, _ => rfl
  | j + 1, h => by
    simp only [posR]
    rw [List.getElem?_append_left (by omega), posR_app cmp l m x j (by omega)]
theorem putR_insR {X : Type} (cmp : X → X → Int) (l : List X) (x : X) : putR cmp l x = insR cmp l x := by
  refine snoc_ind (motive := fun l => putR cmp l x = insR cmp l x) ?_ ?_ l
  · rfl
  · intro l u ih
    rw [insR_snoc, ← ih]
    unfold putR
    rw [List.length_append, List.length_singleton]
    have e : posR cmp (l ++ [u]) x (l.length + 1) = if cmp x u < 0 then posR cmp l x l.length else l.length + 1 := by
      simp only [posR]
      rw [List.getElem?_append_right (Nat.le_refl _)]
      simp only [Nat.sub_self, List.getElem?_cons_zero]
      rw [posR_app cmp l [u] x l.length (Nat.le_refl _)]
    rw [e]
    have hp := posR_le cmp l x l.length
    split
    · rw [List.take_append_of_le_length hp, List.drop_append_of_le_length hp]; simp
    · rw [List.take_of_length_le (by simp), List.drop_of_length_le (by simp)]; simp
theorem putR_len {X : Type} (cmp : X → X → Int) (l : List X) (x : X) : (putR cmp l x).length = l.length + 1 := by rw [putR_insR, insR_len]

def putU (l : List NKey) (k : NKey) : List NKey := if 0 < posR keyCmp l k l.length ∧ l[posR keyCmp l k l.length - 1]? = some k then l else putR keyCmp l k

theorem cut_at {X : Type} (l : List X) (p : Nat) (h : p ≤ l.length) : ∃ A B, l = A ++ B ∧ A.length = p := ⟨l.take p, l.drop p, by simp, by simp; omega⟩
theorem take_app {X : Type} {pv : X → PV} (A : List X) (B : List PV) : (A.map pv ++ B).take A.length = A.map pv := by rw [List.take_append_of_le_length (by simp)]; exact take_map_len A
theorem drop_app {X : Type} {pv : X → PV} (A : List X) (B : List PV) : (A.map pv ++ B).drop A.length = B := by rw [List.drop_append_of_le_length (by simp), List.drop_of_length_le (by simp)]; rfl
theorem take_snoc {X : Type} {pv : X → PV} (A : List X) (x : PV) : (A.map pv ++ [x]).take (A.length + 1) = A.map pv ++ [x] := List.take_of_length_le (by simp)
theorem take_mid {X : Type} {pv : X → PV} (A B : List X) (x : PV) : (A.map pv ++ x :: B.map pv).take (A.length + 1 + B.length) = A.map pv ++ x :: B.map pv := List.take_of_length_le (by simp; omega)
theorem putR_cut {X : Type} {cmp : X → X → Int} {A B : List X} {x : X} (h : A.length = posR cmp (A ++ B) x (A ++ B).length) : putR cmp (A ++ B) x = A ++ x :: B := by
  unfold putR
  rw [← h]; simp

theorem VwA.rowB {H : FH} {M : Nat → Bool} {b g s st n x xs ys} (h0 : H b = some x) (hb : x.body = .arr s xs) (hg : x.gen = g) (h2 : st + n ≤ xs.length) (h3 : (xs.all PV.closed) = true) (h4 : (xs.drop st).take n = ys) : VwA H M (.bsl b g s st n) (.sl s ys) [b] := VwA.row' (boxArr_mk h0 hb hg) h2 h3 h4

theorem flat_next {X Y : Type} {f : X → List Y} {l : List X} {i : Nat} {x : X} (hx : l[i]? = some x) : (l.take (i + 1)).flatMap f = (l.take i).flatMap f ++ f x := by rw [take_get hx]; simp
theorem flat_le {X Y : Type} (f : X → List Y) (l : List X) (k : Nat) : ((l.take k).flatMap f).length ≤ (l.flatMap f).length := by
  have : l.flatMap f = (l.take k).flatMap f ++ (l.drop k).flatMap f := by rw [← List.flatMap_append, List.take_append_drop]
  rw [this, List.length_append]; omega
theorem flat_drop {X Y : Type} {f : X → List Y} {l : List X} {i : Nat} {x : X} (hx : l[i]? = some x) : (l.drop i).flatMap f = f x ++ (l.drop (i + 1)).flatMap f := by rw [drop_get hx]; simp

theorem foldl_putR {X : Type} (cmp : X → X → Int) (l acc : List X) : l.foldl (putR cmp) acc = l.foldl (insR cmp) acc := by
  induction l generalizing acc with
  | nil => rfl
  | cons x t ih => rw [List.foldl_cons, List.foldl_cons, putR_insR, ih]
theorem joinRows_eq (l : List NRows) : joinRows l = ⟨(l.flatMap (·.fronts)).foldl (putR frontCmp) [], (l.flatMap (·.groups)).foldl (putR grpCmp) [], (l.flatMap (·.filters)).foldl (putR filCmp) []⟩ := by
  simp only [foldl_putR]; rfl
theorem foldl_putR_len {X : Type} (cmp : X → X → Int) (l acc : List X) : (l.foldl (putR cmp) acc).length = acc.length + l.length := by
  induction l generalizing acc with
  | nil => rfl
  | cons x t ih => rw [List.foldl_cons, ih, putR_len]; simp; omega

inductive LeL : List PV → List PV → Prop
  | nil : LeL [] []
  | cons {x y xs ys} : x.le y → LeL xs ys → LeL (x :: xs) (y :: ys)
theorem LeL.relL {c : Cx} {xs ys : List PV} (h : LeL xs ys) : ∀ {vs : List Value}, RelL c xs vs → RelL c ys vs := by
  induction h with
  | nil => exact fun h => h
  | cons hx _ ih =>
    intro vs h
    cases vs with
    | nil => simp [RelL] at h
    | cons v vs =>
      have ht : RelL c _ vs := ⟨by simpa using h.1, fun i p u a b => h.2 (i + 1) p u (by simpa using a) (by simpa using b)⟩
      exact (ih ht).cons (hx _ _ _ (h.2 0 _ v (by simp) (by simp)))
theorem call_le {P : Program} {f : FuncId} {args args' : List PV} {H : FH} {ρ : Res} (hl : LeL args args') (h : CallSem P f args' H ρ) : CallSem P f args H ρ := fun H' hag c vs hs ha => h H' hag c vs hs (hl.relL ha)

@[simp] theorem NAddr.tk (a : NAddr) : a.cs.take 17 = a.cs := List.take_of_length_le (by rw [NAddr.cs_length]; omega)
@[simp] theorem NCidr.tk (a : NCidr) : a.cs.take 18 = a.cs := List.take_of_length_le (by rw [NCidr.cs_length]; omega)
@[simp] theorem NPoint.tk (a : NPoint) : a.cs.take 18 = a.cs := List.take_of_length_le (by rw [NPoint.cs_length]; omega)
@[simp] theorem NKey.tk (a : NKey) : a.cs.take 2 = a.cs := List.take_of_length_le (by rw [NKey.cs_length]; omega)
@[simp] theorem NFront.tk (a : NFront) : a.cs.take 26 = a.cs := List.take_of_length_le (by rw [NFront.cs_length]; omega)
@[simp] theorem NId.tk (a : NId) : a.cs.take 5 = a.cs := List.take_of_length_le (by rw [NId.cs_length]; omega)
@[simp] theorem NFilter.tk (a : NFilter) : a.cs.take 3 = a.cs := List.take_of_length_le (by rw [NFilter.cs_length]; omega)
@[simp] theorem NTable.tk (a : NTable) : a.cs.take 3 = a.cs := List.take_of_length_le (by rw [NTable.cs_length]; omega)
@[simp] theorem NGroup.tk (a : NGroup) : a.cs.take 8 = a.cs := List.take_of_length_le (by rw [NGroup.cs_length]; omega)
@[simp] theorem NRows.tk (a : NRows) : a.cs.take 3 = a.cs := List.take_of_length_le (by rw [NRows.cs_length]; omega)

end Pv
namespace Pv
open Go
@[simp] theorem ren_front (R : Rn) (l : List NFront) : (l.map NFront.pv).map (PV.ren R) = l.map NFront.pv := El_front.ren R l
@[simp] theorem renC_front (R : Rn) : PV.ren R ∘ NFront.pv = NFront.pv := El_front.renC R
@[simp] theorem ren1_front (R : Rn) (x : NFront) : (NFront.pv x).ren R = NFront.pv x := El_front.ren1 R x
@[simp] theorem wi_front (S : Nat → Bool) (x : NFront) : (NFront.pv x).within S = true := El_front.wi S x
@[simp] theorem within_front (S : Nat → Bool) (l : List NFront) : ((l.map NFront.pv).all (PV.within S)) = true := El_front.within S l
@[simp] theorem ren_group (R : Rn) (l : List NGroup) : (l.map NGroup.pv).map (PV.ren R) = l.map NGroup.pv := El_group.ren R l
@[simp] theorem renC_group (R : Rn) : PV.ren R ∘ NGroup.pv = NGroup.pv := El_group.renC R
@[simp] theorem ren1_group (R : Rn) (x : NGroup) : (NGroup.pv x).ren R = NGroup.pv x := El_group.ren1 R x
@[simp] theorem wi_group (S : Nat → Bool) (x : NGroup) : (NGroup.pv x).within S = true := El_group.wi S x
@[simp] theorem within_group (S : Nat → Bool) (l : List NGroup) : ((l.map NGroup.pv).all (PV.within S)) = true := El_group.within S l
@[simp] theorem ren_filter (R : Rn) (l : List NFilter) : (l.map NFilter.pv).map (PV.ren R) = l.map NFilter.pv := El_filter.ren R l
@[simp] theorem renC_filter (R : Rn) : PV.ren R ∘ NFilter.pv = NFilter.pv := El_filter.renC R
@[simp] theorem ren1_filter (R : Rn) (x : NFilter) : (NFilter.pv x).ren R = NFilter.pv x := El_filter.ren1 R x
@[simp] theorem wi_filter (S : Nat → Bool) (x : NFilter) : (NFilter.pv x).within S = true := El_filter.wi S x
@[simp] theorem within_filter (S : Nat → Bool) (l : List NFilter) : ((l.map NFilter.pv).all (PV.within S)) = true := El_filter.within S l
@[simp] theorem ren_rows (R : Rn) (l : List NRows) : (l.map NRows.pv).map (PV.ren R) = l.map NRows.pv := El_rows.ren R l
@[simp] theorem renC_rows (R : Rn) : PV.ren R ∘ NRows.pv = NRows.pv := El_rows.renC R
@[simp] theorem ren1_rows (R : Rn) (x : NRows) : (NRows.pv x).ren R = NRows.pv x := El_rows.ren1 R x
@[simp] theorem wi_rows (S : Nat → Bool) (x : NRows) : (NRows.pv x).within S = true := El_rows.wi S x
@[simp] theorem within_rows (S : Nat → Bool) (l : List NRows) : ((l.map NRows.pv).all (PV.within S)) = true := El_rows.within S l
@[simp] theorem ren_key (R : Rn) (l : List NKey) : (l.map NKey.pv).map (PV.ren R) = l.map NKey.pv := El_key.ren R l
@[simp] theorem renC_key (R : Rn) : PV.ren R ∘ NKey.pv = NKey.pv := El_key.renC R
@[simp] theorem ren1_key (R : Rn) (x : NKey) : (NKey.pv x).ren R = NKey.pv x := El_key.ren1 R x
@[simp] theorem wi_key (S : Nat → Bool) (x : NKey) : (NKey.pv x).within S = true := El_key.wi S x
@[simp] theorem within_key (S : Nat → Bool) (l : List NKey) : ((l.map NKey.pv).all (PV.within S)) = true := El_key.within S l
@[simp] theorem ren_point (R : Rn) (l : List NPoint) : (l.map NPoint.pv).map (PV.ren R) = l.map NPoint.pv := El_point.ren R l
@[simp] theorem renC_point (R : Rn) : PV.ren R ∘ NPoint.pv = NPoint.pv := El_point.renC R
@[simp] theorem ren1_point (R : Rn) (x : NPoint) : (NPoint.pv x).ren R = NPoint.pv x := El_point.ren1 R x
@[simp] theorem wi_point (S : Nat → Bool) (x : NPoint) : (NPoint.pv x).within S = true := El_point.wi S x
@[simp] theorem within_point (S : Nat → Bool) (l : List NPoint) : ((l.map NPoint.pv).all (PV.within S)) = true := El_point.within S l
@[simp] theorem ren_cidr (R : Rn) (l : List NCidr) : (l.map NCidr.pv).map (PV.ren R) = l.map NCidr.pv := El_cidr.ren R l
@[simp] theorem renC_cidr (R : Rn) : PV.ren R ∘ NCidr.pv = NCidr.pv := El_cidr.renC R
@[simp] theorem ren1_cidr (R : Rn) (x : NCidr) : (NCidr.pv x).ren R = NCidr.pv x := El_cidr.ren1 R x
@[simp] theorem wi_cidr (S : Nat → Bool) (x : NCidr) : (NCidr.pv x).within S = true := El_cidr.wi S x
@[simp] theorem within_cidr (S : Nat → Bool) (l : List NCidr) : ((l.map NCidr.pv).all (PV.within S)) = true := El_cidr.within S l
@[simp] theorem ren_int (R : Rn) (l : List Int) : (l.map (PV.int .i64)).map (PV.ren R) = l.map (PV.int .i64) := El_int.ren R l
@[simp] theorem renC_int (R : Rn) : PV.ren R ∘ (PV.int .i64) = (PV.int .i64) := El_int.renC R
@[simp] theorem ren1_int (R : Rn) (x : Int) : ((PV.int .i64) x).ren R = (PV.int .i64) x := El_int.ren1 R x
@[simp] theorem wi_int (S : Nat → Bool) (x : Int) : ((PV.int .i64) x).within S = true := El_int.wi S x
@[simp] theorem within_int (S : Nat → Bool) (l : List Int) : ((l.map (PV.int .i64)).all (PV.within S)) = true := El_int.within S l
@[simp] theorem ren_str (R : Rn) (l : List ByteArray) : (l.map PV.str).map (PV.ren R) = l.map PV.str := El_str.ren R l
@[simp] theorem renC_str (R : Rn) : PV.ren R ∘ PV.str = PV.str := El_str.renC R
@[simp] theorem ren1_str (R : Rn) (x : ByteArray) : (PV.str x).ren R = PV.str x := El_str.ren1 R x
@[simp] theorem wi_str (S : Nat → Bool) (x : ByteArray) : (PV.str x).within S = true := El_str.wi S x
@[simp] theorem within_str (S : Nat → Bool) (l : List ByteArray) : ((l.map PV.str).all (PV.within S)) = true := El_str.within S l
@[simp] theorem ren_addr (R : Rn) (l : List NAddr) : (l.map NAddr.pv).map (PV.ren R) = l.map NAddr.pv := El_addr.ren R l
@[simp] theorem renC_addr (R : Rn) : PV.ren R ∘ NAddr.pv = NAddr.pv := El_addr.renC R
@[simp] theorem ren1_addr (R : Rn) (x : NAddr) : (NAddr.pv x).ren R = NAddr.pv x := El_addr.ren1 R x
@[simp] theorem wi_addr (S : Nat → Bool) (x : NAddr) : (NAddr.pv x).within S = true := El_addr.wi S x
@[simp] theorem within_addr (S : Nat → Bool) (l : List NAddr) : ((l.map NAddr.pv).all (PV.within S)) = true := El_addr.within S l
@[simp] theorem ren_id (R : Rn) (l : List NId) : (l.map NId.pv).map (PV.ren R) = l.map NId.pv := El_id.ren R l
@[simp] theorem renC_id (R : Rn) : PV.ren R ∘ NId.pv = NId.pv := El_id.renC R
@[simp] theorem ren1_id (R : Rn) (x : NId) : (NId.pv x).ren R = NId.pv x := El_id.ren1 R x
@[simp] theorem wi_id (S : Nat → Bool) (x : NId) : (NId.pv x).within S = true := El_id.wi S x
@[simp] theorem within_id (S : Nat → Bool) (l : List NId) : ((l.map NId.pv).all (PV.within S)) = true := El_id.within S l
@[simp] theorem ren_table (R : Rn) (l : List NTable) : (l.map NTable.pv).map (PV.ren R) = l.map NTable.pv := El_table.ren R l
@[simp] theorem renC_table (R : Rn) : PV.ren R ∘ NTable.pv = NTable.pv := El_table.renC R
@[simp] theorem ren1_table (R : Rn) (x : NTable) : (NTable.pv x).ren R = NTable.pv x := El_table.ren1 R x
@[simp] theorem wi_table (S : Nat → Bool) (x : NTable) : (NTable.pv x).within S = true := El_table.wi S x
@[simp] theorem within_table (S : Nat → Bool) (l : List NTable) : ((l.map NTable.pv).all (PV.within S)) = true := El_table.within S l
end Pv
set_option linter.unusedSimpArgs false
set_option linter.unusedVariables false
namespace Pv
open Go

theorem posR_spec {X : Type} {cmp : X → X → Int} (l : List X) (x : X) : ∀ j, j ≤ l.length → (posR cmp l x j = 0 ∨ ∃ y, l[posR cmp l x j - 1]? = some y ∧ ¬ cmp x y < 0 ∧ 0 < posR cmp l x j) ∧ ∀ i y, posR cmp l x j ≤ i → i < j → l[i]? = some y → cmp x y < 0
  | 0, _ => ⟨.inl rfl, fun i y _ h => by omega⟩
  | j + 1, hj => by
    obtain ⟨y, hy⟩ : ∃ y, l[j]? = some y := getN (by omega)
    simp only [posR, hy]
    split
    · rename_i hlt
      obtain ⟨h1, h2⟩ := posR_spec (cmp := cmp) l x j (by omega)
      refine ⟨h1, fun i z hi hij hz => ?_⟩
      by_cases e : i = j
      · subst e; rw [hy] at hz; cases hz; exact hlt
      · exact h2 i z hi (by omega) hz
    · rename_i hlt
      exact ⟨.inr ⟨y, by simpa using hy, hlt, by omega⟩, fun i z hi hij _ => by omega⟩

structure KS (l : List NKey) : Prop where
  s : Sorted keyCmp l
  n : l.Nodup

theorem putU_mem (l : List NKey) (k x : NKey) : x ∈ putU l k ↔ x = k ∨ x ∈ l := by
  unfold putU
  split
  · rename_i h
    refine ⟨fun hx => .inr hx, fun hx => ?_⟩
    rcases hx with e | e
    · subst e; exact List.mem_of_getElem? h.2
    · exact e
  · unfold putR
    generalize posR keyCmp l k l.length = p
    constructor
    · intro hx
      rcases List.mem_append.1 hx with h | h
      · exact .inr (List.mem_of_mem_take h)
      · rcases List.mem_cons.1 h with e | e
        · exact .inl e
        · exact .inr (List.mem_of_mem_drop e)
    · intro hx
      rcases hx with e | e
      · subst e; simp
      · rw [← List.take_append_drop p l] at e
        rcases List.mem_append.1 e with h | h
        · exact List.mem_append_left _ h
        · exact List.mem_append_right _ (List.mem_cons_of_mem _ h)

theorem putU_ks {l : List NKey} (h : KS l) (k : NKey) : KS (putU l k) := by
  unfold putU
  split
  · exact h
  · rename_i hn
    have hs := (insR_spec TP_key k l h.s).1
    rw [← putR_insR] at hs
    refine ⟨hs, ?_⟩
    obtain ⟨h1, h2⟩ := posR_spec (cmp := keyCmp) l k l.length (Nat.le_refl _)
    have hp := posR_le keyCmp l k l.length
    have hk : k ∉ l := by
      intro hm
      obtain ⟨i, hi⟩ := List.getElem?_of_mem hm
      have hil := (List.getElem?_eq_some_iff.1 hi).1
      by_cases hc : posR keyCmp l k l.length ≤ i
      · have := h2 i k hc hil hi
        rw [TP_key.refl] at this; omega
      · rcases h1 with h1 | ⟨y, hy, hny, hpos⟩
        · omega
        · refine hn ⟨hpos, ?_⟩
          rw [hy]
          have hle := sorted_le TP_key h.s hi hy (by omega)
          have h0 : keyCmp k y = 0 := by omega
          rw [keyCmp_zero.1 h0]
    unfold putR
    generalize posR keyCmp l k l.length = p
    have hnd := h.n
    rw [← List.take_append_drop p l] at hnd
    have hd := List.nodup_append.1 hnd
    refine List.nodup_append.2 ⟨hd.1, List.nodup_cons.2 ⟨fun hm => hk (List.mem_of_mem_drop hm), hd.2.1⟩, fun x hx y hy => ?_⟩
    rcases List.mem_cons.1 hy with e | e
    · subst e; intro e2; subst e2; exact hk (List.mem_of_mem_take hx)
    · exact hd.2.2 x hx y e

theorem foldU_ks : ∀ (ks acc : List NKey), KS acc → KS (ks.foldl putU acc) ∧ ∀ x, x ∈ ks.foldl putU acc ↔ x ∈ ks ∨ x ∈ acc
  | [], acc, h => ⟨h, fun x => by simp⟩
  | k :: t, acc, h => by
    obtain ⟨h1, h2⟩ := foldU_ks t (putU acc k) (putU_ks h k)
    refine ⟨h1, fun x => ?_⟩
    rw [List.foldl_cons, h2 x, putU_mem]
    simp only [List.mem_cons]
    constructor
    · rintro (a | a | a) <;> simp [a]
    · rintro ((a | a) | a) <;> simp [a]
theorem putU_len (l : List NKey) (k : NKey) : (putU l k).length ≤ l.length + 1 := by
  unfold putU; split
  · omega
  · rw [putR_len]; omega
theorem foldU_len : ∀ (ks acc : List NKey), (ks.foldl putU acc).length ≤ acc.length + ks.length
  | [], acc => by simp
  | k :: t, acc => by
    have h1 := foldU_len t (putU acc k)
    have h2 := putU_len acc k
    simp only [List.foldl_cons, List.length_cons]; omega

theorem parts_eq {X : Type} {p : X → Bool} {svc : X → NKey} {k0 : NKey} (l : List X) (hp : ∀ x, p x = true → svc x = k0) : ∀ ks : List NKey, ks.Nodup → (ks.flatMap fun k => l.filter fun x => decide (svc x = k)).filter p = if k0 ∈ ks then l.filter p else []
  | [], _ => by simp
  | k :: ks, hn => by
    have hn' := List.nodup_cons.1 hn
    rw [List.flatMap_cons, List.filter_append, parts_eq l hp ks hn'.2, List.filter_filter]
    by_cases e : k = k0
    · subst e
      rw [if_neg hn'.1, if_pos (by simp), List.append_nil]
      apply List.filter_congr
      intro x _
      cases hx : p x with
      | false => rfl
      | true => simp [hp x hx]
    · have h0 : (l.filter fun x => p x && decide (svc x = k)) = [] := by
        rw [List.filter_eq_nil_iff]
        intro x _ hx
        simp only [Bool.and_eq_true, decide_eq_true_eq] at hx
        exact e (hx.2.symm.trans (hp x hx.1))
      rw [h0, List.nil_append]
      have hk : (k0 ∈ k :: ks) ↔ k0 ∈ ks := by
        simp only [List.mem_cons]
        exact ⟨fun h => h.elim (fun e2 => absurd e2.symm e) id, .inr⟩
      simp only [hk]

theorem parts_sort {X : Type} {cmp : X → X → Int} (h : TP cmp) (svc : X → NKey) (hs : ∀ x y, cmp x y = 0 → svc x = svc y) (l : List X) (ks : List NKey) (hn : ks.Nodup) (hk : ∀ x ∈ l, svc x ∈ ks) :
    sortBy cmp (ks.flatMap fun k => (sortBy cmp l).filter fun x => decide (svc x = k)) = sortBy cmp l := by
  refine sortBy_eq h (sortBy_spec h l).1 fun c => ?_
  rw [parts_eq (k0 := svc c) (sortBy cmp l) (fun x hx => (hs c x (by simpa [eqv] using hx)).symm) ks hn]
  split
  · rfl
  · rename_i hc
    rw [List.filter_eq_nil_iff]
    intro x hx hx2
    have := hk x ((sortBy_mem h).1 hx)
    rw [← hs c x (by simpa [eqv] using hx2)] at this
    exact hc this

theorem parts_law (a : NRows) (keys : List NKey) (hf : ∀ x ∈ a.fronts, x.service ∈ keys) (hg : ∀ x ∈ a.groups, x.id.service ∈ keys) (hl : ∀ x ∈ a.filters, x.service ∈ keys) :
    joinRows ((keys.foldl putU []).map fun k => ofRows (sortRows a) k) = sortRows a := by
  obtain ⟨h1, h2⟩ := foldU_ks keys [] ⟨by simp [Sorted], List.nodup_nil⟩
  have hm : ∀ x, x ∈ keys → x ∈ keys.foldl putU [] := fun x hx => (h2 x).2 (.inl hx)
  have e1 := parts_sort TP_front NFront.service (fun x y h => by rw [frontCmp_zero.1 h]) a.fronts _ h1.n fun x hx => hm _ (hf x hx)
  have e2 := parts_sort TP_grp (fun g => g.id.service) (fun x y h => by rw [idCmp_zero.1 h]) a.groups _ h1.n fun x hx => hm _ (hg x hx)
  have e3 := parts_sort TP_fil NFilter.service (fun x y h => keyCmp_zero.1 h) a.filters _ h1.n fun x hx => hm _ (hl x hx)
  simp only [joinRows, catRows, sortRows, List.flatMap_map, ofRows] at e1 e2 e3 ⊢
  rw [e1, e2, e3]

theorem flat_bound {X Y : Type} (f : X → List Y) (n : Nat) : ∀ (l : List X), (∀ x ∈ l, (f x).length ≤ n) → (l.flatMap f).length ≤ l.length * n
  | [], _ => by simp
  | x :: t, h => by
    have h1 := flat_bound f n t fun y hy => h y (by simp [hy])
    have h2 := h x (by simp)
    rw [List.flatMap_cons, List.length_append, List.length_cons, Nat.add_mul]; omega
theorem catRows_le {n k : Nat} (l : List NRows) (h : ∀ r ∈ l, r.le n) (hk : l.length ≤ k) (hk0 : 0 < k) : (catRows l).le (k * n) := by
  have hmul : l.length * n ≤ k * n := Nat.mul_le_mul_right _ hk
  have hn : n ≤ k * n := Nat.le_mul_of_pos_left _ hk0
  refine ⟨Nat.le_trans (flat_bound _ n l fun r hr => (h r hr).f) hmul, Nat.le_trans (flat_bound _ n l fun r hr => (h r hr).g) hmul, Nat.le_trans (flat_bound _ n l fun r hr => (h r hr).l) hmul, fun x hx => ?_, fun x hx => ?_⟩
  · obtain ⟨r, hr, hx⟩ := List.mem_flatMap.1 hx
    have := (h r hr).gb x hx
    omega
  · obtain ⟨r, hr, hx⟩ := List.mem_flatMap.1 hx
    have := (h r hr).lr x hx
    omega
end Pv
