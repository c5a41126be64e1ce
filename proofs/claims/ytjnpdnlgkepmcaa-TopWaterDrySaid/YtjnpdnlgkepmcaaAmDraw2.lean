/- Regions whose order Go leaves open: whatever order comes up, what was walked holds. Conditions: none. -/
import Derived.Test.YtjnpdnlgkepmcaaAmDraw
namespace Go.Proofs.Ytjnpdnlgkepmcaa.AM
set_option linter.unusedSimpArgs false
set_option linter.unusedVariables false
open Go Go.RowKit
theorem nmem_iff {l : List Nat} {n : Nat} : nmem l n = true ↔ n ∈ l := by
 induction l with
 | nil => simp [nmem]
 | cons k r ih => simp only [nmem, List.mem_cons]; split <;> simp_all
theorem mem_unwatch {af : List Nat} : ∀ {W : List Watch} {x : Watch}, x ∈ W → x.i ∉ af → x ∈ unwatch af W
  | y :: W, x, h, hn => by
    simp only [unwatch]
    rcases List.mem_cons.1 h with rfl | h
    · rw [if_neg (fun e => hn (nmem_iff.1 e))]; simp
    · split
      · exact mem_unwatch h hn
      · exact List.mem_cons_of_mem _ (mem_unwatch h hn)
theorem WOK.unwatch {af : List Nat} {h : AHeap} : ∀ {W : List Watch}, WOK W h → WOK (unwatch af W) h
  | [], H => H
  | y :: W, H => by
    simp only [AM.unwatch]
    split
    · exact WOK.unwatch H.2
    · exact ⟨H.1, WOK.unwatch H.2⟩
def arem : List (Nat × Value) → List Nat → List (Nat × Value)
 | [], _ => []
 | (k, u) :: r, l => if nmem l k then arem r l else (k, u) :: arem r l
theorem look_arem : ∀ (t : List (Nat × Value)) (l : List Nat) (k : Nat), look (arem t l) k = if k ∈ l then none else look t k
  | [], l, k => by simp [arem, look]
  | (j, u) :: t, l, k => by
    simp only [arem]
    split
    · rename_i hj
      rw [look_arem t l k]
      simp only [look]
      split
      · rfl
      · rename_i hk
        rw [if_neg (fun e => hk (by subst e; exact nmem_iff.1 hj))]
    · rename_i hj
      simp only [look]
      split
      · rename_i hk; subst hk
        rw [if_neg (fun hm => hj (nmem_iff.2 hm))]
      · exact look_arem t l k
theorem look_aputO (t : List (Nat × Value)) (d : Option Nat) (v : Option Value) (k : Nat) : look (aputO t d v) k = if d = some k then v else look t k := by
  cases d with
  | none => simp [aputO]
  | some d =>
    cases v with
    | none => simp only [aputO, look_adel]; by_cases h : k = d <;> simp [h, eq_comm]
    | some v => simp only [aputO, look_aput]; by_cases h : k = d <;> simp [h, eq_comm]
theorem filter_lt {α : Type} {p q : α → Bool} (hq : ∀ y, q y = true → p y = true) {x : α} : ∀ {l : List α}, x ∈ l → p x = true → q x = false → (l.filter q).length < (l.filter p).length
  | [], h, _, _ => by simp at h
  | y :: l, h, hp, hn => by
    have hle : (l.filter q).length ≤ (l.filter p).length := by
      clear h
      induction l with
      | nil => simp
      | cons z l ih =>
        simp only [List.filter_cons]
        by_cases h1 : q z = true
        · rw [if_pos h1, if_pos (hq z h1)]; simpa using ih
        · rw [if_neg h1]; split
          · simp; omega
          · exact ih
    simp only [List.filter_cons]
    rcases List.mem_cons.1 h with rfl | h
    · rw [hp, hn]; simp; omega
    · have := filter_lt hq h hp hn
      by_cases h1 : q y = true
      · rw [if_pos h1, if_pos (hq y h1)]; simp; omega
      · rw [if_neg h1]; split
        · simp; omega
        · exact this
section
variable {E : Env}
def RVop (E : Env) (i : Nat) (g : IOpG) (s : St) (W : List Watch) : Prop :=
 ∃ v, (match g.op with
  | .load n agg x => ∃ u, s.ev E x = some u ∧ ((∃ p, vvp u = none ∧ vptr u = some p ∧ (⟨i, n, agg, p.1, p.2, v, none⟩ : Watch) ∈ W) ∨ ∃ q, vvp u = some q ∧ (if agg then ldV q.1 q.2 n else q.1.cells[q.2]?) = some v)
  | .mp 1 x y => ∃ b k, (s.ev E x).bind vmp = some b ∧ (s.ev E y).bind vstr = some k ∧ (⟨i, 0, false, b, 0, v, some k⟩ : Watch) ∈ W
  | op => pev E s op = some v) ∧ ∀ d, g.dst = some d → look s.t d = some v
def RV (E : Env) (i : Nat) (g : IOpG) (s : St) (W : List Watch) : Prop :=
 match g.guard with
 | none => RVop E i g s W
 | some (t, want) => ∃ b, (look s.t t).bind (gwant want) = some b ∧ (if b then RVop E i g s W else ∀ d, g.dst = some d → look s.t d = skipV)
theorem looks_op {g : IOpG} {t : Nat} (h : t ∈ g.op.slots) : t ∈ g.looks := List.mem_append_left _ h
theorem looks_guard {g : IOpG} {t : Nat} {b : Bool} (h : g.guard = some (t, b)) : t ∈ g.looks := by
 unfold IOpG.looks; rw [h]; simp
theorem RVop.keep {i : Nat} {g : IOpG} {s s' : St} {W W' : List Watch} (h : RVop E i g s W) (ha : Agree g.op.slots s s') (hd : ∀ d, g.dst = some d → look s'.t d = look s.t d) (hW : ∀ x ∈ W, x.i = i → x ∈ W') : RVop E i g s' W' := by
 obtain ⟨v, h1, h2⟩ := h
 refine ⟨v, ?_, fun d hdd => by rw [hd d hdd]; exact h2 d hdd⟩
 obtain ⟨dst, gd, op⟩ := g
 cases op
 case load n agg x =>
  obtain ⟨u, h3, h4⟩ := h1
  refine ⟨u, by rw [← ev_congr (s := s) (s' := s') ha]; exact h3, ?_⟩
  rcases h4 with ⟨p, h5, h6, h7⟩ | h4
  · exact .inl ⟨p, h5, h6, hW _ h7 rfl⟩
  · exact .inr h4
 case mp n x y =>
  rcases n with _ | _ | n
  · simp [pev] at h1
  · obtain ⟨b, k, h3, h4, h5⟩ := h1
    refine ⟨b, k, ?_, ?_, hW _ h5 rfl⟩
    · rw [← ev_congr (s := s) (s' := s') ha.left]; exact h3
    · rw [← ev_congr (s := s) (s' := s') ha.right]; exact h4
  · simp [pev] at h1
 all_goals
  simp only at h1 ⊢
  rw [← pev_congr (s := s) (s' := s') ha]
  exact h1
theorem RV.keep {i : Nat} {g : IOpG} {s s' : St} {W W' : List Watch} (h : RV E i g s W) (ha : Agree g.looks s s') (hd : ∀ d, g.dst = some d → look s'.t d = look s.t d) (hW : ∀ x ∈ W, x.i = i → x ∈ W') : RV E i g s' W' := by
 have ha' : Agree g.op.slots s s' := fun t ht => ha t (looks_op ht)
 unfold RV at h ⊢
 split at h
 · exact h.keep ha' hd hW
 · rename_i t want hg
   obtain ⟨b, h1, h2⟩ := h
   refine ⟨b, by rw [← ha t (looks_guard hg)]; exact h1, ?_⟩
   split
   · rename_i hb; rw [if_pos hb] at h2; exact h2.keep ha' hd hW
   · rename_i hb; rw [if_neg hb] at h2; exact fun d hdd => by rw [hd d hdd]; exact h2 d hdd
theorem WOK.mem {W : List Watch} {h : AHeap} (H : WOK W h) {x : Watch} (hx : x ∈ W) : wat h x = some x.v := by
  induction W with
  | nil => simp at hx
  | cons y W ih =>
    rcases List.mem_cons.1 hx with rfl | hx
    · exact H.1
    · exact ih H.2 hx
theorem iop1_of_RV {i : Nat} {g : IOpG} {s s' : St} {W : List Watch} (hr : isReader g.op = true) (h : RV E i g s W) (hW : WOK W s'.h) (ha : Agree g.looks s s') :
    ∃ ov, iop1 E g s' (fun s2 => s2 = ⟨aputO s'.t g.dst ov, s'.h⟩) ∧ ∀ d, g.dst = some d → look s.t d = ov := by
  have hop : RVop E i g s W → ∃ v, istep E g.op s' (fun u h' => (⟨aputO s'.t g.dst u, h'⟩ : St) = ⟨aputO s'.t g.dst (some v), s'.h⟩) ∧ ∀ d, g.dst = some d → look s.t d = some v := by
    rintro ⟨v, h1, h2⟩
    refine ⟨v, ?_, h2⟩
    have ha' : Agree g.op.slots s s' := fun t ht => ha t (looks_op ht)
    obtain ⟨dst, gd, op⟩ := g
    cases op
    case load n agg x =>
      obtain ⟨u, h3, h4⟩ := h1
      rw [ev_congr (s := s) (s' := s') ha'] at h3
      have h6 : lev E s' n agg x = some v := by
        unfold lev; rw [h3]
        simp only [Option.bind_some]
        rcases h4 with ⟨p, h5, h6, h7⟩ | ⟨q, h5, h6⟩
        · rw [h5, h6]; exact hW.mem h7
        · rw [h5]; exact h6
      simp only [istep, xev, h6, Option.bind_some, obind]
    case mp n x y =>
      rcases n with _ | _ | n
      · simp [isReader] at hr
      · obtain ⟨b, k, h3, h4, h5⟩ := h1
        rw [ev_congr (s := s) (s' := s') ha'.left] at h3
        rw [ev_congr (s := s) (s' := s') ha'.right] at h4
        obtain ⟨ks, h6, h7⟩ := bind_some (show (mpKs s'.h b).bind (fun ks => some (.bool (hasK ks k))) = some v from hW.mem h5)
        have h8 : wev E s' (.mp 1 x y) = some (some v, s'.h) := by
          injection h7 with h7
          simp only [wev, h3, h4, h6, Option.bind_some, h7]
        simp only [istep, xev, h8, obind]
      · simp [isReader] at hr
    all_goals first
      | (simp [isReader] at hr; done)
      | (simp only at h1
         rw [pev_congr (s := s) (s' := s') ha'] at h1
         first | (simp only [istep, xev, h1, Option.bind_some, obind]; done) | exact .inl (by simp only [xev, h1, Option.bind_some, obind]))
  unfold RV at h
  unfold iop1 igrd
  split at h
  · rename_i hg
    obtain ⟨v, h1, h2⟩ := hop h
    exact ⟨some v, by rw [hg]; exact h1, h2⟩
  · rename_i t want hg
    obtain ⟨b, h1, h2⟩ := h
    rw [ha t (looks_guard hg)] at h1
    split at h2
    · rename_i hb
      obtain ⟨v, h3, h4⟩ := hop h2
      refine ⟨some v, ?_, h4⟩
      rw [hg]
      simp only [h1, obind, if_pos hb]
      exact h3
    · rename_i hb
      refine ⟨skipV, ?_, h2⟩
      rw [hg]
      simp only [h1, obind, if_neg hb]
end
end Go.Proofs.Ytjnpdnlgkepmcaa.AM
