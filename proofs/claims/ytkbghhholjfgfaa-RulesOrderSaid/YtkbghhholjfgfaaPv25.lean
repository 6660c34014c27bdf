import Derived.Test.YtkbghhholjfgfaaPv24
set_option linter.unusedSimpArgs false
set_option linter.unusedVariables false
namespace Pv
open Go

/-! ### A run of a closed call, reckoned -/

structure ES where
  T : List PV
  H : Heap
  n : Nat
  ws : List Nat

structure CR where
  v : PV
  H : Heap
  n : Nat
  ws : List Nat

def PV.names : Nat → PV → List Nat
  | 0, _ => []
  | _ + 1, .ptr b _ _ _ _ => [b]
  | _ + 1, .bsl b _ _ _ _ => [b]
  | _ + 1, .map b _ => [b]
  | d + 1, .agg cs => cs.flatMap (PV.names d)
  | d + 1, .tup cs => cs.flatMap (PV.names d)
  | d + 1, .clo _ xs ys => xs.flatMap (PV.names d) ++ ys.flatMap (PV.names d)
  | d + 1, .ifc _ x => PV.names d x
  | _ + 1, _ => []

def Body.names : Body → List Nat
  | .dead => []
  | .arr _ xs => xs.flatMap (PV.names 5)
  | .map es => es.flatMap fun e => PV.names 5 e.2

def Body.withinB (S : Nat → Bool) : Body → Bool
  | .dead => true
  | .arr _ xs => xs.all fun x => x.within S
  | .map es => es.all fun e => e.2.within S

theorem Body.withinB_iff {S : Nat → Bool} {b : Body} (h : b.withinB S = true) : b.within S := by
  cases b with
  | dead => trivial
  | arr s xs => exact fun x hx => List.all_eq_true.1 h x hx
  | map es => exact fun x hx => List.all_eq_true.1 h x hx

/-- The boxes that are reached from these. -/
def reach (H : Heap) : Nat → List Nat → List Nat → List Nat
  | 0, _, acc => acc
  | _ + 1, [], acc => acc
  | d + 1, b :: todo, acc => if acc.contains b then reach H d todo acc else
    match find H b with
    | some x => reach H d (x.body.names ++ todo) (b :: acc)
    | none => reach H d todo acc

def part (H : Heap) (ks : List Nat) : Heap := ks.filterMap fun k => (find H k).map (k, ·)

theorem find_part (H : Heap) : ∀ (ks : List Nat) (b : Nat), find (part H ks) b = if b ∈ ks then find H b else none
  | [], b => rfl
  | k :: ks, b => by
    have ih := find_part H ks b
    simp only [part] at ih ⊢
    rw [List.filterMap_cons]
    cases hk : find H k with
    | none =>
      simp only [Option.map_none, ih, List.mem_cons]
      by_cases hb : b = k
      · subst hb; simp [hk]
      · simp [hb]
    | some x =>
      simp only [Option.map_some, find, ih, List.mem_cons]
      by_cases hb : k = b
      · subst hb; simp [hk]
      · have : ¬ b = k := fun e => hb e.symm
        simp [hb, this]

theorem upd_part (H : Heap) : ∀ (ks : List Nat) (H2 : FH) (b : Nat), upd H2 (part H ks) b = if b ∈ ks then (find H b).or (H2 b) else H2 b
  | [], H2, b => rfl
  | k :: ks, H2, b => by
    have ih := upd_part H ks
    simp only [part] at ih ⊢
    rw [List.filterMap_cons]
    cases hk : find H k with
    | none =>
      simp only [Option.map_none, ih, List.mem_cons]
      by_cases hb : b = k
      · subst hb; simp [hk]
      · simp [hb]
    | some x =>
      simp only [Option.map_some, upd, ih, List.mem_cons]
      by_cases hb : b = k
      · subst hb; simp [hk]
      · simp [hb]

def keys (H : Heap) : List Nat := H.map (·.1)

theorem keys_find {H : Heap} {b : Nat} {x : Box} (h : find H b = some x) : b ∈ keys H := by
  induction H with
  | nil => simp [find] at h
  | cons p t ih =>
    obtain ⟨k, y⟩ := p
    simp only [find] at h
    simp only [keys, List.map_cons, List.mem_cons]
    by_cases hk : k = b
    · exact .inl hk.symm
    · rw [if_neg hk] at h; exact .inr (ih h)

/-- Entries of the model's own, reckoned. -/
abbrev XT := List (FuncId × (List PV → Option PV))

def XOK (P : Program) (X : XT) : Prop := ∀ f args v, ((X.lookup f).bind fun g => g args) = some v → ∀ H, CallSem P f args H { v }

theorem XOK.nil (P : Program) : XOK P [] := fun f args v h => by simp at h

theorem XOK.cons {P : Program} {X : XT} {f : FuncId} {g : List PV → Option PV} (h : ∀ args v, g args = some v → ∀ H, CallSem P f args H { v }) (hX : XOK P X) : XOK P ((f, g) :: X) := by
  intro f' args v hv H
  simp only [List.lookup_cons] at hv
  split at hv
  · rename_i he
    simp only [beq_iff_eq] at he
    subst he
    exact h args v (by simpa using hv) H
  · exact hX f' args v hv H

def unBy : List PV → Option (List UInt8)
  | [] => some []
  | .int .u8 n :: t => if 0 ≤ n ∧ n < 256 then (unBy t).map (UInt8.ofNat n.toNat :: ·) else none
  | _ => none

theorem unBy_eq : ∀ {xs : List PV} {l : List UInt8}, unBy xs = some l → xs = pvBy l
  | [], l, h => by simp [unBy] at h; subst h; rfl
  | x :: t, l, h => by
    cases x with
    | int k n =>
      cases k <;> simp only [unBy] at h <;> try (cases h; done)
      split at h
      · rename_i hn
        simp only [Option.map_eq_some_iff] at h
        obtain ⟨l', h1, rfl⟩ := h
        rw [unBy_eq h1]
        have h3 : (UInt8.ofNat n.toNat).toNat = n.toNat := by simp [UInt8.toNat_ofNat']; omega
        simp only [pvBy, List.map_cons, h3, Int.toNat_of_nonneg hn.1]
      · cases h
    | _ => simp [unBy] at h

def cmpX : List PV → Option PV
  | [.sl 1 xs, .sl 1 ys] => match unBy xs, unBy ys with
    | some l, some m => some (.int .i64 (Lib.compareBytes l m))
    | _, _ => none
  | _ => none

theorem cmpX_ok {P : Program} {f : FuncId} (hf : ∀ args w, (callFunc f args).run P w = ((Extern.BytealgCompare.compare args).run P w).andThen fun v w' => .ok (.value v) w') :
    ∀ args v, cmpX args = some v → ∀ H, CallSem P f args H { v } := by
  intro args v h H
  unfold cmpX at h
  split at h
  · split at h
    · rename_i h1 h2
      simp only [Option.some.injEq] at h
      subst h
      rw [unBy_eq h1, unBy_eq h2]
      exact sem_cmpBytes hf _ _ H
    · cases h
  · cases h

section
variable (P : Program) (X : XT) (call : FuncId → List PV → Heap → Nat → Option CR)

def evCall (f : FuncId) (args : List PV) (H : Heap) (n : Nat) : Option (Res × Nat) :=
  let ks := reach H (H.length * 4 + 64) (args.flatMap (PV.names 5)) []
  let R := part H ks
  let S := fun b => (find R b).isSome
  if (args.all fun a => a.within S) && (R.all fun e => e.2.body.withinB S) then
    match call f args R n with
    | some r => if (keys r.H).all fun k => S k || (find H k).isNone then some ({ v := r.v, rd := ks ++ keys r.H ++ r.ws, wr := part r.H r.ws.eraseDups }, r.n) else none
    | none => none
  else none

def evOps (all : Array Oper) (n0 : Nat) : List Oper → List (List Nat × List Nat) → ES → Option (List (List Nat × List Nat) × ES)
  | [], acc, st => some (acc.reverse, st)
  | o :: os, acc, st => match guardDec all st.T o with
    | some false => evOps all n0 os (([], []) :: acc) ⟨setD st.T o.dst (.tup []), st.H, st.n, st.ws⟩
    | some true => match fstep P n0 (find st.H) st.T o with
      | some r => evOps all n0 os ((r.rd, r.wr.map (·.1)) :: acc) ⟨setD st.T o.dst r.v, puts st.H r.wr, st.n, r.wr.map (·.1) ++ st.ws⟩
      | none => match callOf st.T o with
        | some (f, args) => match (match (X.lookup f).bind (fun g => g args) with | some v => some (({ v := v } : Res), st.n) | none => evCall call f args st.H st.n) with
          | some (r, n) => evOps all n0 os ((r.rd, r.wr.map (·.1)) :: acc) ⟨setD st.T o.dst r.v, puts st.H r.wr, n, r.wr.map (·.1) ++ st.ws⟩
          | none => none
        | none => none
    | none => none

def evC : Nat → Code → ES → Option (Exit × ES)
  | 0, _, _ => none
  | k + 1, .seq x y, st => match evC k x st with
    | some (.normal, st') => evC k y st'
    | r => r
  | _ + 1, .skip, st => some (.normal, st)
  | _ + 1, .label _, st => some (.normal, st)
  | _ + 1, .exit id, st => some (.exit id, st)
  | _ + 1, .goto l, st => some (.goto l, st)
  | _ + 1, .ret, st => some (.ret, st)
  | k + 1, .cond c x y, st => match ev st.T c with
    | .bool t => evC k (bif t then x else y) st
    | _ => none
  | k + 1, .block id c, st => match evC k c st with
    | some (.exit id', st') => if id' = id then some (.normal, st') else some (.exit id', st')
    | r => r
  | k + 1, .loop c, st => match evC k c st with
    | some (.normal, st') => evC k (.loop c) st'
    | r => r
  | _ + 1, .region _ all draw, st => match evOps P X call all st.n all.toList [] ⟨st.T, st.H, st.n + st.T.length, st.ws⟩ with
    | some (fp, st') => if draw && !(chk all fp && P.follows .mixedOrders) then none else some (.normal, st')
    | none => none
  | _ + 1, _, _ => none
end

def evF (P : Program) (X : XT) : Nat → FuncId → List PV → Heap → Nat → Option CR
  | 0, _, _, _, _ => none
  | d + 1, f, args, H, n => match P.funcs[f]? with
    | some fn => match fn.body with
      | some cd => if fn.name == "runtime.NumGoroutine" then none else
        match evC P X (evF P X d) 100000 cd ⟨args ++ List.replicate (fn.ntmps - args.length) (.tup []), H, n, []⟩ with
        | some (.normal, st) | some (.ret, st) => match resOf P (find st.H) fn.results st.T with
          | some r => some ⟨r, st.H, st.n, st.ws⟩
          | none => none
        | _ => none
      | none => none
    | none => none

/-- What an evaluator of calls owes. -/
def CallOK (P : Program) (call : FuncId → List PV → Heap → Nat → Option CR) : Prop :=
  ∀ f args H n r, call f args H n = some r → Enters P f ∧ PCall P f args (find H) (fun q H' => q = r.v ∧ H' = find r.H) ∧ ∀ b, b ∉ r.ws → find r.H b = find H b

section
variable {P : Program} {X : XT} (hX : XOK P X) {call : FuncId → List PV → Heap → Nat → Option CR} (hc : CallOK P call)
include hX hc

omit hX in
theorem evCall_sound {f : FuncId} {args : List PV} {H : Heap} {n n' : Nat} {r : Res} (h : evCall call f args H n = some (r, n')) : CallSem P f args (find H) r := by
  unfold evCall at h
  generalize hks : reach H (H.length * 4 + 64) (args.flatMap (PV.names 5)) [] = ks at h
  simp only at h
  split at h
  · rename_i hin
    simp only [Bool.and_eq_true] at hin
    split at h
    · rename_i cr hcr
      split at h
      · rename_i hfr
        simp only [Option.some.injEq, Prod.mk.injEq] at h
        obtain ⟨rfl, rfl⟩ := h
        obtain ⟨he, hp, hws⟩ := hc _ _ _ _ _ hcr
        intro H2 hag
        simp only [List.mem_append] at hag
        refine PInv.of_call he ?_
        have hsub : ∀ b x, find (part H ks) b = some x → H2 b = some x := by
          intro b x hb
          rw [find_part] at hb
          split at hb
          · rename_i hmem
            rw [hag b (.inl (.inl hmem)), hb]
          · cases hb
        refine (hp.frame H2 hsub (fun a ha => List.all_eq_true.1 hin.1 a ha) ?_ ?_).mono ?_
        · intro b x hb
          have hmem : (b, x) ∈ part H ks := by
            rw [find_part] at hb
            split at hb
            · rename_i hm
              exact List.mem_filterMap.2 ⟨b, hm, by simp [hb]⟩
            · cases hb
          exact Body.withinB_iff (List.all_eq_true.1 hin.2 _ hmem)
        · rintro q H1 ⟨rfl, rfl⟩ b hb
          obtain ⟨x, hx⟩ := Option.isSome_iff_exists.1 hb
          have hk := keys_find hx
          have := List.all_eq_true.1 hfr b hk
          simp only [Bool.or_eq_true] at this
          rcases this with h1 | h1
          · exact .inl h1
          · right; rw [hag b (.inl (.inr hk))]; simpa using h1
        · rintro q H' ⟨H1, ⟨rfl, rfl⟩, rfl⟩
          refine ⟨rfl, ?_⟩
          funext b
          rw [upd_part]
          simp only [List.mem_eraseDups]
          split
          · rfl
          · rename_i hb
            rw [hws b hb]
            cases hf : find (part H ks) b with
            | none => rfl
            | some x => rw [hsub b x hf]; rfl
      · cases h
    · cases h
  · cases h

theorem evOps_sound {all : Array Oper} {n0 : Nat} {HH : FH} {KK : List (List Nat × List Nat) → PS → Prop} : ∀ (os : List Oper) (acc : List (List Nat × List Nat)) (st : ES) (fp : List (List Nat × List Nat)) (st' : ES), evOps P X call all n0 os acc st = some (fp, st') →
    (∀ b, b ∉ st.ws → find st.H b = HH b) → (KK fp ⟨st'.T, st'.H⟩) → pEv P all n0 os acc KK ⟨st.T, st.H⟩ ∧ ∀ b, b ∉ st'.ws → find st'.H b = HH b
  | [], acc, st, fp, st', h, hi, hk => by
    simp only [evOps, Option.some.injEq, Prod.mk.injEq] at h
    obtain ⟨rfl, rfl⟩ := h
    exact ⟨hk, hi⟩
  | o :: os, acc, st, fp, st', h, hi, hk => by
    have hinv : ∀ (wr : List (Nat × Box)) b, b ∉ wr.map (·.1) ++ st.ws → find (puts st.H wr) b = HH b := by
      intro wr b hb
      simp only [List.mem_append, not_or] at hb
      rw [find_puts, upd_ne hb.1]
      exact hi b hb.2
    simp only [evOps] at h
    simp only [pEv]
    cases hg : guardDec all st.T o with
    | none => rw [hg] at h; cases h
    | some w =>
      rw [hg] at h
      cases w with
      | false =>
        simp only at h
        obtain ⟨h1, h2⟩ := evOps_sound os _ _ fp st' h hi hk
        exact ⟨⟨fun hh => absurd hh (by simp), fun _ => h1⟩, h2⟩
      | true =>
        simp only at h
        cases hf : fstep P n0 (find st.H) st.T o with
        | some r =>
          rw [hf] at h
          simp only at h
          obtain ⟨h1, h2⟩ := evOps_sound os _ _ fp st' h (hinv r.wr) hk
          exact ⟨⟨fun _ => h1, fun hh => absurd hh (by simp)⟩, h2⟩
        | none =>
          rw [hf] at h
          simp only at h
          cases hco : callOf st.T o with
          | none => rw [hco] at h; cases h
          | some fa =>
            obtain ⟨f, args⟩ := fa
            rw [hco] at h
            simp only at h
            cases hl : (X.lookup f).bind (fun g => g args) with
            | some v =>
              rw [hl] at h
              simp only at h
              obtain ⟨h1, h2⟩ := evOps_sound os _ _ fp st' h (hinv []) hk
              exact ⟨⟨fun _ => ⟨{ v }, hX f args v hl _, h1⟩, fun hh => absurd hh (by simp)⟩, h2⟩
            | none =>
              rw [hl] at h
              simp only at h
              cases hev : evCall call f args st.H st.n with
              | none => rw [hev] at h; cases h
              | some rn =>
                obtain ⟨r, n⟩ := rn
                rw [hev] at h
                simp only at h
                obtain ⟨h1, h2⟩ := evOps_sound os _ _ fp st' h (hinv r.wr) hk
                exact ⟨⟨fun _ => ⟨r, evCall_sound hc hev, h1⟩, fun hh => absurd hh (by simp)⟩, h2⟩
end

theorem pEv_pEv0 {P : Program} {all : Array Oper} {n0 : Nat} {K : PS → Prop} : ∀ (os : List Oper) (acc : List (List Nat × List Nat)) (st : PS), pEv P all n0 os acc (fun _ => K) st → pEv0 P all n0 os K st
  | [], acc, st, h => h
  | o :: os, acc, st, h => by
    simp only [pEv] at h
    simp only [pEv0]
    split at h
    · refine ⟨fun hw => ?_, fun hw => pEv_pEv0 os _ _ (h.2 hw)⟩
      have h := h.1 hw
      split at h
      · exact pEv_pEv0 os _ _ h
      · split at h
        · obtain ⟨r, h1, h2⟩ := h
          exact ⟨r, h1, pEv_pEv0 os _ _ h2⟩
        · exact h
    · exact h

section
variable {P : Program} {c0 : Cx} {H0 : FH} {Q : Exit → PS → Prop} {st : PS}

/-- A loop's rounds, from the second on too. -/
def pwI (P : Program) (c0 : Cx) (H0 : FH) (cd : Code) (Q : Exit → PS → Prop) (st : PS) : Prop :=
  ∀ a w, St c0 H0 st.T (find st.H) a w → ∀ (b : Frame) (k : List Item) (cs : List Frame), ∃ e a' w', (∃ st', Q e st' ∧ St c0 H0 st'.T (find st'.H) a' w') ∧ Arrives P (lone (b.at a (.code cd :: .inLoop cd :: k)) cs w) b k cs e a' w'

theorem pw_of_pwI {cd : Code} (h : pwI P c0 H0 cd Q st) : pw P c0 H0 (.loop cd) Q st := by
  intro a w hs b k cs
  obtain ⟨e, a', w', hq, harr⟩ := h a w hs b k cs
  exact ⟨e, a', w', hq, .of_steps (.one step_loop) harr⟩

theorem pwI_unfold {cd : Code} (h : pw P c0 H0 cd (thenP (pwI P c0 H0 cd Q) Q) st) : pwI P c0 H0 cd Q st := by
  intro a w hs b k cs
  obtain ⟨e, a₁, w₁, ⟨st1, hq, hs1⟩, harr⟩ := h a w hs b (.inLoop cd :: k) cs
  cases e with
  | normal =>
    obtain ⟨e₂, a₂, w₂, hq₂, harr₂⟩ := hq a₁ w₁ hs1 b k cs
    exact ⟨e₂, a₂, w₂, hq₂, .of_steps (Steps.trans harr (.one step_inLoop)) harr₂⟩
  | exit id => exact ⟨_, a₁, w₁, ⟨st1, hq, hs1⟩, .pass (x := .inLoop cd) rfl (fun _ _ => .inl (by simp)) harr⟩
  | goto l => exact ⟨_, a₁, w₁, ⟨st1, hq, hs1⟩, .pass (x := .inLoop cd) rfl (fun _ _ => .inl (by simp)) harr⟩
  | ret => exact ⟨_, a₁, w₁, ⟨st1, hq, hs1⟩, .pass (x := .inLoop cd) rfl (fun _ _ => .inl (by simp)) harr⟩
  | panic ch => exact ⟨_, a₁, w₁, ⟨st1, hq, hs1⟩, .pass (x := .inLoop cd) rfl (fun _ _ => .inl (by simp)) harr⟩
  | outgrown => exact ⟨_, a₁, w₁, ⟨st1, hq, hs1⟩, .pass (x := .inLoop cd) rfl (fun _ _ => .inl (by simp)) harr⟩

theorem pwI_post {cd : Code} {Q' : Exit → PS → Prop} (h : pwI P c0 H0 cd Q' st) (hq : ∀ e st, Q' e st → Q e st) : pwI P c0 H0 cd Q st := by
  intro a w hs b k cs
  obtain ⟨e, a', w', ⟨st', h1, h2⟩, harr⟩ := h a w hs b k cs
  exact ⟨e, a', w', ⟨st', hq _ _ h1, h2⟩, harr⟩

theorem pw_post' {cd : Code} {Q' : Exit → PS → Prop} (h : pw P c0 H0 cd Q' st) (hq : ∀ e st, Q' e st → Q e st) : pw P c0 H0 cd Q st :=
  pw_post h fun e st h => ⟨st, Wk.refl _, hq e st h⟩
end

def ends (e : Exit) (st : ES) : Exit → PS → Prop := fun e' s => e' = e ∧ s = ⟨st.T, st.H⟩

theorem evC_sound {P : Program} {X : XT} (hX : XOK P X) {call : FuncId → List PV → Heap → Nat → Option CR} (hc : CallOK P call) {c0 : Cx} {H0 HH : FH} : ∀ (k : Nat) (cd : Code) (st : ES) (e : Exit) (st' : ES), evC P X call k cd st = some (e, st') → (∀ b, b ∉ st.ws → find st.H b = HH b) →
    pw P c0 H0 cd (ends e st') ⟨st.T, st.H⟩ ∧ (∀ b, b ∉ st'.ws → find st'.H b = HH b) ∧ ∀ c, cd = .loop c → pwI P c0 H0 c (ends e st') ⟨st.T, st.H⟩
  | 0, _, _, _, _, h, _ => by simp [evC] at h
  | k + 1, cd, st, e, st', h, hi => by
    have nol : ∀ {c : Code} {X : Prop}, (∀ c', cd ≠ .loop c') → cd = .loop c → X := fun h1 h2 => absurd h2 (h1 _)
    cases cd with
    | seq x y =>
      simp only [evC] at h
      cases hx : evC P X call k x st with
      | none => rw [hx] at h; cases h
      | some r =>
        obtain ⟨e1, st1⟩ := r
        rw [hx] at h
        obtain ⟨h1, h2, _⟩ := evC_sound hX hc (c0 := c0) (H0 := H0) k x st e1 st1 hx hi
        cases e1 with
        | normal =>
          simp only at h
          obtain ⟨g1, g2, _⟩ := evC_sound hX hc (c0 := c0) (H0 := H0) k y st1 e st' h h2
          refine ⟨pw_seq (pw_post' h1 ?_), g2, fun c => nol (by simp)⟩
          rintro e' s ⟨rfl, rfl⟩
          exact g1
        | _ =>
          simp only [Option.some.injEq, Prod.mk.injEq] at h
          obtain ⟨rfl, rfl⟩ := h
          refine ⟨pw_seq (pw_post' h1 ?_), h2, fun c => nol (by simp)⟩
          rintro e' s ⟨rfl, rfl⟩
          exact ⟨rfl, rfl⟩
    | skip =>
      simp only [evC, Option.some.injEq, Prod.mk.injEq] at h
      obtain ⟨rfl, rfl⟩ := h
      exact ⟨pw_skip ⟨rfl, rfl⟩, hi, fun c => nol (by simp)⟩
    | label l =>
      simp only [evC, Option.some.injEq, Prod.mk.injEq] at h
      obtain ⟨rfl, rfl⟩ := h
      exact ⟨pw_label ⟨rfl, rfl⟩, hi, fun c => nol (by simp)⟩
    | exit l =>
      simp only [evC, Option.some.injEq, Prod.mk.injEq] at h
      obtain ⟨rfl, rfl⟩ := h
      exact ⟨pw_exit ⟨rfl, rfl⟩, hi, fun c => nol (by simp)⟩
    | goto l =>
      simp only [evC, Option.some.injEq, Prod.mk.injEq] at h
      obtain ⟨rfl, rfl⟩ := h
      exact ⟨pw_goto ⟨rfl, rfl⟩, hi, fun c => nol (by simp)⟩
    | ret =>
      simp only [evC, Option.some.injEq, Prod.mk.injEq] at h
      obtain ⟨rfl, rfl⟩ := h
      exact ⟨pw_ret ⟨rfl, rfl⟩, hi, fun c => nol (by simp)⟩
    | cond c x y =>
      simp only [evC] at h
      cases hv : ev st.T c with
      | bool t =>
        rw [hv] at h
        simp only at h
        obtain ⟨h1, h2, _⟩ := evC_sound hX hc (c0 := c0) (H0 := H0) k _ st e st' h hi
        refine ⟨pw_cond t hv (fun ht => ?_) (fun ht => ?_), h2, fun c => nol (by simp)⟩
        · subst ht; exact h1
        · subst ht; exact h1
      | _ => rw [hv] at h; cases h
    | block id c =>
      simp only [evC] at h
      cases hx : evC P X call k c st with
      | none => rw [hx] at h; cases h
      | some r =>
        obtain ⟨e1, st1⟩ := r
        rw [hx] at h
        obtain ⟨h1, h2, _⟩ := evC_sound hX hc (c0 := c0) (H0 := H0) k c st e1 st1 hx hi
        cases e1 with
        | exit id' =>
          simp only at h
          split at h
          · rename_i hid
            simp only [Option.some.injEq, Prod.mk.injEq] at h
            obtain ⟨rfl, rfl⟩ := h
            refine ⟨pw_block (pw_post' h1 ?_), h2, fun c => nol (by simp)⟩
            rintro e' s ⟨rfl, rfl⟩
            simp only [inBlockP, if_pos hid]
            exact ⟨rfl, rfl⟩
          · rename_i hid
            simp only [Option.some.injEq, Prod.mk.injEq] at h
            obtain ⟨rfl, rfl⟩ := h
            refine ⟨pw_block (pw_post' h1 ?_), h2, fun c => nol (by simp)⟩
            rintro e' s ⟨rfl, rfl⟩
            simp only [inBlockP, if_neg hid]
            exact ⟨rfl, rfl⟩
        | _ =>
          simp only [Option.some.injEq, Prod.mk.injEq] at h
          obtain ⟨rfl, rfl⟩ := h
          refine ⟨pw_block (pw_post' h1 ?_), h2, fun c => nol (by simp)⟩
          rintro e' s ⟨rfl, rfl⟩
          exact ⟨rfl, rfl⟩
    | loop c =>
      simp only [evC] at h
      have key : pwI P c0 H0 c (ends e st') ⟨st.T, st.H⟩ ∧ (∀ b, b ∉ st'.ws → find st'.H b = HH b) := by
        cases hx : evC P X call k c st with
        | none => rw [hx] at h; cases h
        | some r =>
          obtain ⟨e1, st1⟩ := r
          rw [hx] at h
          obtain ⟨h1, h2, _⟩ := evC_sound hX hc (c0 := c0) (H0 := H0) k c st e1 st1 hx hi
          cases e1 with
          | normal =>
            simp only at h
            obtain ⟨_, g2, g3⟩ := evC_sound hX hc (c0 := c0) (H0 := H0) k (.loop c) st1 e st' h h2
            refine ⟨pwI_unfold (pw_post' h1 ?_), g2⟩
            rintro e' s ⟨rfl, rfl⟩
            exact g3 c rfl
          | _ =>
            simp only [Option.some.injEq, Prod.mk.injEq] at h
            obtain ⟨rfl, rfl⟩ := h
            refine ⟨pwI_unfold (pw_post' h1 ?_), h2⟩
            rintro e' s ⟨rfl, rfl⟩
            exact ⟨rfl, rfl⟩
      exact ⟨pw_of_pwI key.1, key.2, fun c' hc' => by cases hc'; exact key.1⟩
    | region id all draw =>
      simp only [evC] at h
      split at h
      · rename_i fp st1 hev
        split at h
        · cases h
        · rename_i hck
          simp only [Option.some.injEq, Prod.mk.injEq] at h
          obtain ⟨rfl, rfl⟩ := h
          cases draw with
          | true =>
            simp only [Bool.true_and, Bool.not_eq_true', Bool.not_eq_false, Bool.and_eq_true] at hck
            obtain ⟨h1, h2⟩ := evOps_sound hX hc (KK := fun fp s => chk all fp = true ∧ ends .normal st1 .normal s) all.toList [] ⟨st.T, st.H, _, st.ws⟩ fp st1 hev hi ⟨hck.1, rfl, rfl⟩
            exact ⟨pw_region_draw hck.2 st.n h1, h2, fun c => nol (by simp)⟩
          | false =>
            obtain ⟨h1, h2⟩ := evOps_sound hX hc (KK := fun _ s => ends .normal st1 .normal s) all.toList [] ⟨st.T, st.H, _, st.ws⟩ fp st1 hev hi ⟨rfl, rfl⟩
            exact ⟨pw_region st.n (pEv_pEv0 _ _ _ h1), h2, fun c => nol (by simp)⟩
      · cases h
    | _ => simp [evC] at h

theorem enters_of {P : Program} {f : FuncId} {fn : Func} {cd : Code} (hf : P.funcs[f]? = some fn) (hb : fn.body = some cd) (hn : (fn.name == "runtime.NumGoroutine") = false) : Enters P f := by
  intro args w
  have hn' : ¬ fn.name = "runtime.NumGoroutine" := by simpa using hn
  simp [callFunc, hf, hb, hn', go_sem]

theorem evF_ok {P : Program} {X : XT} (hX : XOK P X) : ∀ d, CallOK P (evF P X d)
  | 0 => fun f args H n r h => by simp [evF] at h
  | d + 1 => fun f args H n r h => by
    simp only [evF] at h
    cases hf : P.funcs[f]? with
    | none => rw [hf] at h; cases h
    | some fn =>
      rw [hf] at h
      simp only at h
      cases hb : fn.body with
      | none => rw [hb] at h; cases h
      | some cd =>
        rw [hb] at h
        simp only at h
        split at h
        · cases h
        · rename_i hn
          simp only [Bool.not_eq_true] at hn
          refine ⟨enters_of hf hb hn, ?_⟩
          cases hx : evC P X (evF P X d) 100000 cd ⟨args ++ List.replicate (fn.ntmps - args.length) (.tup []), H, n, []⟩ with
          | none => rw [hx] at h; cases h
          | some est =>
            obtain ⟨e, st⟩ := est
            rw [hx] at h
            have key := fun c0 => evC_sound hX (evF_ok hX d) (c0 := c0) (H0 := find H) (HH := find H) 100000 cd _ e st hx (fun _ _ => rfl)
            cases hr : resOf P (find st.H) fn.results st.T with
            | none => cases e <;> simp [hr] at h
            | some q =>
              have hQ : (e = .normal ∨ e = .ret) ∧ r = ⟨q, st.H, st.n, st.ws⟩ := by
                cases e <;> simp [hr] at h <;> simp [h]
              obtain ⟨he, rfl⟩ := hQ
              refine ⟨PCall.of_body hf hb fun c0 => pw_post' (key c0).1 ?_, (key ⟨default, fun _ => False, fun _ => none, fun _ => none⟩).2.1⟩
              rintro e' s ⟨rfl, rfl⟩
              rcases he with rfl | rfl <;> exact ⟨q, hr, rfl, rfl⟩

/-- A closed call, reckoned. -/
theorem PFun.of_ev {P : Program} {X : XT} (hX : XOK P X) {f : FuncId} {args : List PV} {r : PV} (h : ((evF P X 100 f args [] 0).map fun c => c.v) = some r) (hc : r.closed = true) : PFun P f args r ∧ Enters P f := by
  rw [Option.map_eq_some_iff] at h
  obtain ⟨c, hc', rfl⟩ := h
  obtain ⟨h1, h2, _⟩ := evF_ok hX 100 f args [] 0 c hc'
  exact ⟨⟨hc, h2.mono fun q H' hq => hq.1⟩, h1⟩

end Pv
