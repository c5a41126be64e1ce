/- Regions whose order Go leaves open: the theorem. Conditions: none. -/
import Derived.Test.YtjnpdnlgkepmcaaAmDraw2
namespace Go.Proofs.Ytjnpdnlgkepmcaa.AM
set_option linter.unusedSimpArgs false
set_option linter.unusedVariables false
open Go Go.RowKit
structure RDR (ops : Array Oper) (gs : List IOpG) (i : Nat) (g : IOpG) : Prop where
 rd : isReader g.op = true
 self : ∀ d, g.dst = some d → d ∉ g.looks
 pairs : ∀ j y, gs[j]? = some y → j ≠ i → chkPair ops i g j y = true
theorem chkPairs_spec {ops : Array Oper} {i : Nat} {x : IOpG} : ∀ {gs : List IOpG} {k : Nat}, chkPairs ops i x k gs = true → ∀ j y, gs[j]? = some y → k + j ≠ i → chkPair ops i x (k + j) y = true
  | [], _, _, j, y, hy, _ => by simp at hy
  | z :: gs, k, h, j, y, hy, hne => by
    simp only [chkPairs, Bool.and_eq_true, Bool.or_eq_true, beq_iff_eq] at h
    cases j with
    | zero => simp at hy; subst hy; exact h.1.resolve_left (by simpa using hne)
    | succ j =>
      simp at hy
      have := chkPairs_spec h.2 j y hy (by omega)
      rw [show k + (j + 1) = k + 1 + j by omega]; exact this
def TOK (ops : Array Oper) (gs : List IOpG) : Bool → List Nat → DT → Prop
  | hd, done, .fin => hd = true ∧ ∀ i, i < ops.size → i ∈ done
  | hd, _, .no => hd = false
  | hd, done, .rd i g t => hd = true ∧ gs[i]? = some g ∧ i ∉ done ∧ (∀ e ∈ afterOf ops i, e ∈ done) ∧ RDR ops gs i g ∧ TOK ops gs true (i :: done) t
  | hd, done, .wr i g af t alt => gs[i]? = some g ∧ af = afterOf ops i ∧ i ∉ done ∧ (∀ e ∈ afterOf ops i, e ∈ done) ∧
    (hd = true → ∀ j, j < ops.size → j ∈ done ∨ j ∈ (DT.wr i g af t alt).keys ∨ ∃ e ∈ afterOf ops j, e ∉ done) ∧ TOK ops gs true (i :: done) t ∧ TOK ops gs false done alt
theorem TOK.of_chk {ops : Array Oper} {gs : List IOpG} : ∀ {t t0 : DT} {hd : Bool} {done : List Nat}, fillT ops gs t0 = some t → chkT ops gs hd done t = true → TOK ops gs hd done t := by
  intro t
  have nm : ∀ {l : List Nat} {n : Nat}, nmem l n = true ↔ n ∈ l := nmem_iff
  have nf : ∀ {l : List Nat} {n : Nat}, nmem l n = false ↔ n ∉ l := fun {l n} => by rw [← nm (l := l) (n := n)]; simp
  induction t with
  | fin =>
    intro t0 hd done _ h
    simp only [chkT, Bool.and_eq_true, List.all_eq_true, List.mem_range] at h
    exact ⟨h.1, fun i hi => nm.1 (h.2 i hi)⟩
  | no => intro t0 hd done _ h; simpa [chkT, TOK] using h
  | rd i g t ih =>
    intro t0 hd done hf h
    cases t0 with
    | rd i0 g0 t0 =>
      simp only [fillT] at hf
      split at hf
      · rename_i g' t' h1 h2
        injection hf with hf; injection hf with e1 e2 e3; subst e1; subst e2; subst e3
        simp only [chkT, Bool.and_eq_true, List.all_eq_true, Bool.not_eq_true'] at h
        obtain ⟨⟨⟨⟨⟨⟨h3, h4⟩, h5⟩, h6⟩, h7⟩, h8⟩, h9⟩ := h
        refine ⟨h3, h1, nf.1 h4, fun e he => nm.1 (h5 e he), ⟨h6, fun d hd => ?_, fun j y hy hne => ?_⟩, ih h2 h9⟩
        · rw [hd] at h7; simp only [Bool.not_eq_true'] at h7; exact nf.1 h7
        · have := chkPairs_spec h8 j y hy (by simpa using hne); simpa using this
      · cases hf
    | fin => simp [fillT] at hf
    | no => simp [fillT] at hf
    | wr => simp only [fillT] at hf; split at hf <;> simp at hf
  | wr i g af t alt ih1 ih2 =>
    intro t0 hd done hf h
    cases t0 with
    | wr i0 g0 af0 t0 alt0 =>
      simp only [fillT] at hf
      split at hf
      · rename_i g' t' alt' h1 h2 h3
        injection hf with hf; injection hf with e1 e2 e3 e4 e5; subst e1; subst e2; subst e3; subst e4; subst e5
        simp only [chkT, Bool.and_eq_true, List.all_eq_true, Bool.not_eq_true', Bool.or_eq_true, List.mem_range, List.any_eq_true] at h
        obtain ⟨⟨⟨⟨h4, h5⟩, h6⟩, h7⟩, h8⟩ := h
        refine ⟨h1, rfl, nf.1 h4, fun e he => nm.1 (h5 e he), fun hh j hj => ?_, ih1 h2 h7, ih2 h3 h8⟩
        rcases h6 with h6 | h6
        · rw [hh] at h6; cases h6
        · rcases h6 j hj with (h9 | h9) | ⟨e, he, hne⟩
          · exact .inl (nm.1 h9)
          · exact .inr (.inl (nm.1 h9))
          · exact .inr (.inr ⟨e, he, nf.1 hne⟩)
      · cases hf
    | fin => simp [fillT] at hf
    | no => simp [fillT] at hf
    | rd => simp only [fillT] at hf; split at hf <;> simp at hf
section
variable {E : Env} {nt nb : Nat} {ops : Array Oper} {gs : List IOpG} {r : Option Nat}
theorem RDR.pair1 {i j : Nat} {x y : IOpG} (D : RDR ops gs i x) (hy : gs[j]? = some y) (hne : j ≠ i) {d : Nat} (hd : x.dst = some d) : y.dst ≠ some d ∧ (d ∈ y.looks → i ∈ afterOf ops j) := by
 have := D.pairs j y hy hne
 unfold chkPair at this
 simp only [hd, Bool.and_eq_true, bne_iff_ne, ne_eq, Bool.or_eq_true, Bool.not_eq_true'] at this
 refine ⟨this.1.1, fun hm => ?_⟩
 rcases this.1.2 with h | h
 · rw [nmem_iff.2 hm] at h; cases h
 · exact nmem_iff.1 h
theorem RDR.pair2 {i j : Nat} {x y : IOpG} (D : RDR ops gs i x) (hy : gs[j]? = some y) (hne : j ≠ i) {d : Nat} (hd : y.dst = some d) (hm : d ∈ x.looks) : j ∈ afterOf ops i ∨ i ∈ afterOf ops j := by
 have := D.pairs j y hy hne
 unfold chkPair at this
 simp only [hd, Bool.and_eq_true, Bool.or_eq_true, Bool.not_eq_true'] at this
 rcases this.2 with (h | h) | h
 · rw [nmem_iff.2 hm] at h; cases h
 · exact .inl (nmem_iff.1 h)
 · exact .inr (nmem_iff.1 h)
def Topo (ops : Array Oper) : List Nat → Prop
 | [] => True
 | i :: l => (∀ e ∈ afterOf ops i, e ∈ l) ∧ Topo ops l
theorem Topo.cl : ∀ {l : List Nat}, Topo ops l → ∀ i ∈ l, ∀ e ∈ afterOf ops i, e ∈ l
  | j :: l, h, i, hi, e, he => by
    rcases List.mem_cons.1 hi with rfl | hi
    · exact List.mem_cons_of_mem _ (h.1 e he)
    · exact List.mem_cons_of_mem _ (Topo.cl h.2 i hi e he)
theorem Topo.all {p : Nat → Prop} (hp : ∀ i, i < ops.size → (∀ e ∈ afterOf ops i, p e) → p i) : ∀ {l : List Nat}, Topo ops l → (∀ i ∈ l, i < ops.size) → ∀ i ∈ l, p i
  | j :: l, h, hl, i, hi => by
    have ih := Topo.all hp h.2 (fun i hi => hl i (List.mem_cons_of_mem _ hi))
    rcases List.mem_cons.1 hi with rfl | hi
    · exact hp i (hl i (by simp)) fun e he => ih e (h.1 e he)
    · exact ih i hi
structure DJ (E : Env) (nt nb : Nat) (ops : Array Oper) (gs : List IOpG) (done : List Nat) (T : DT) (listed : Array Bool) (W : List Watch) (ι : Iota) (s : St) (a : Act) (w : World) : Prop where
 tok : TOK ops gs true done T
 lsz : listed.size = ops.size
 dsz : ∀ i ∈ done, i < ops.size
 ldone : ∀ i, listed.getD i false = true → i ∈ done
 topo : Topo ops done
 pend : ∀ i ∈ done, listed.getD i false = false → ∃ g, gs[i]? = some g ∧ RDR ops gs i g ∧ RV E i g s W
 slots : ∀ t u, look s.t t = some u → (∃ v, a.tmps[t]? = some v ∧ VR ι s.h.next u v) ∨ ∃ i ∈ done, listed.getD i false = false ∧ ∃ g, gs[i]? = some g ∧ g.dst = some t
 rel : Rel ι s.h w
 sz : a.tmps.size = nt
 df : DefOK nb ι s.h a.defers w
 wok : WOK W s.h
def DT.isRd : DT → Bool
 | .rd .. => true
 | _ => false
theorem lt_gs {i : Nat} {g : IOpG} (hgs : gs.length = ops.size) (h : gs[i]? = some g) : i < ops.size := by rw [← hgs]; exact (List.getElem?_eq_some_iff.1 h).1
theorem advance {K : St → Prop} {listed : Array Bool} {a : Act} {w : World} {ι : Iota} (hgs : gs.length = ops.size) : ∀ (T : DT) (done : List Nat) (W : List Watch) (s : St), DJ E nt nb ops gs done T listed W ι s a w → idraw E T W K s →
    ∃ done' T' W' s', DJ E nt nb ops gs done' T' listed W' ι s' a w ∧ idraw E T' W' K s' ∧ s'.h = s.h ∧ T'.isRd = false := by
  intro T
  induction T with
  | fin => exact fun done W s J H => ⟨done, _, W, s, J, H, rfl, rfl⟩
  | no => exact fun done W s J H => ⟨done, _, W, s, J, H, rfl, rfl⟩
  | wr i g af t alt => exact fun done W s J H => ⟨done, _, W, s, J, H, rfl, rfl⟩
  | rd i g t ih =>
    intro done W s J H
    obtain ⟨_, hgi, hnew, hafter, hR, htok⟩ := J.tok
    have hunl : listed.getD i false = false := by
      cases hl : listed.getD i false with
      | false => rfl
      | true => exact absurd (J.ldone i hl) hnew
    have step : ∀ (ov : Option Value) (W' : List Watch), (∀ x ∈ W, x ∈ W') → WOK W' s.h → RV E i g ⟨aputO s.t g.dst ov, s.h⟩ W' → DJ E nt nb ops gs (i :: done) t listed W' ι ⟨aputO s.t g.dst ov, s.h⟩ a w := by
      intro ov W' hW hok hrv
      refine ⟨htok, J.lsz, fun j hj => ?_, fun j hj => List.mem_cons_of_mem _ (J.ldone j hj), ⟨hafter, J.topo⟩, fun j hj hl => ?_, fun t u hu => ?_, J.rel, J.sz, J.df, hok⟩
      · rcases List.mem_cons.1 hj with rfl | hj
        · exact lt_gs hgs hgi
        · exact J.dsz j hj
      · rcases List.mem_cons.1 hj with rfl | hj
        · exact ⟨g, hgi, hR, hrv⟩
        · obtain ⟨y, h0, h1, h2⟩ := J.pend j hj hl
          have hji : j ≠ i := fun e => hnew (by rw [← e]; exact hj)
          refine ⟨y, h0, h1, h2.keep (fun t ht => ?_) (fun d hd => ?_) (fun x hx _ => hW x hx)⟩
          · simp only
            rw [look_aputO]
            split
            · rename_i hd
              exact absurd (J.topo.cl j hj i ((hR.pair1 h0 hji hd).2 ht)) hnew
            · rfl
          · simp only
            rw [look_aputO]
            split
            · rename_i hdd
              exact absurd hd (hR.pair1 h0 hji hdd).1
            · rfl
      · simp only at hu
        rw [look_aputO] at hu
        split at hu
        · rename_i hd; exact .inr ⟨i, by simp, hunl, g, hgi, hd⟩
        · rcases J.slots t u hu with h | ⟨j, hj, h1, h2⟩
          · exact .inl h
          · exact .inr ⟨j, List.mem_cons_of_mem _ hj, h1, h2⟩
    have selfE : ∀ ov, Agree g.looks ⟨aputO s.t g.dst ov, s.h⟩ s := fun ov t ht => by
      simp only
      rw [look_aputO]
      split
      · rename_i hd; exact absurd ht (hR.self t hd)
      · rfl
    have hrd : isReader g.op = true := hR.rd
    have rvop : ∀ (v : Value) (W' : List Watch), rstep E i g.op s W = some (v, W') → (∀ x ∈ W, x ∈ W') ∧ WOK W' s.h ∧ RVop E i g ⟨aputO s.t g.dst (some v), s.h⟩ W' := by
      intro v W' hst
      have hag : Agree g.op.slots ⟨aputO s.t g.dst (some v), s.h⟩ s := fun t ht => selfE (some v) t (looks_op ht)
      have hd : ∀ d, g.dst = some d → look (aputO s.t g.dst (some v)) d = some v := fun d hd => by rw [look_aputO, if_pos hd]
      obtain ⟨dst, gd, op⟩ := g
      cases op
      case load n agg x =>
        simp only [rstep] at hst
        obtain ⟨u, h0, hst⟩ := bind_some hst
        split at hst
        · rename_i q hq
          obtain ⟨v', h2, hst⟩ := bind_some hst
          injection hst with hst
          injection hst with e1 e2
          subst e1; subst e2
          exact ⟨fun x hx => hx, J.wok, v', ⟨u, by rw [ev_congr hag]; exact h0, .inr ⟨q, hq, h2⟩⟩, hd⟩
        · rename_i hq
          obtain ⟨p, h1, hst⟩ := bind_some hst
          obtain ⟨v', h2, hst⟩ := bind_some hst
          injection hst with hst
          injection hst with e1 e2
          subst e1; subst e2
          exact ⟨fun x hx => List.mem_cons_of_mem _ hx, ⟨h2, J.wok⟩, v', ⟨u, by rw [ev_congr hag]; exact h0, .inl ⟨p, hq, h1, by simp⟩⟩, hd⟩
      case mp n x y =>
        rcases n with _ | _ | n
        · simp [isReader] at hrd
        · simp only [rstep] at hst
          obtain ⟨b, h0, hst⟩ := bind_some hst
          obtain ⟨k, h1, hst⟩ := bind_some hst
          obtain ⟨ks, h2, hst⟩ := bind_some hst
          injection hst with hst
          injection hst with e1 e2
          subst e1; subst e2
          exact ⟨fun x hx => List.mem_cons_of_mem _ hx, ⟨by simp [wat, h2], J.wok⟩, _, ⟨b, k, by rw [ev_congr hag.left]; exact h0, by rw [ev_congr hag.right]; exact h1, by simp⟩, hd⟩
        · simp [isReader] at hrd
      all_goals
        simp only [rstep] at hst
        obtain ⟨v', h2, hst⟩ := bind_some hst
        injection hst with hst
        injection hst with e1 e2
        subst e1; subst e2
        exact ⟨fun x hx => hx, J.wok, v', by simp only; rw [pev_congr hag]; exact h2, hd⟩
    simp only [idraw] at H
    unfold igrd at H
    split at H
    · rename_i hg
      obtain ⟨⟨v, W'⟩, h1, h2⟩ := obind_iff.1 H
      obtain ⟨h3, h4, h5⟩ := rvop v W' h1
      obtain ⟨d', r', W'', s', h6, h7, h8, h9⟩ := ih (i :: done) W' _ (step (some v) W' h3 h4 (by unfold RV; rw [hg]; exact h5)) h2
      exact ⟨d', r', W'', s', h6, h7, h8, h9⟩
    · rename_i t want hg
      obtain ⟨b, hb, H⟩ := obind_iff.1 H
      split at H
      · rename_i hbw
        obtain ⟨⟨v, W'⟩, h1, h2⟩ := obind_iff.1 H
        obtain ⟨h3, h4, h5⟩ := rvop v W' h1
        obtain ⟨d', r', W'', s', h6, h7, h8, h9⟩ := ih (i :: done) W' _ (step (some v) W' h3 h4 (by
          unfold RV; rw [hg]; exact ⟨b, by rw [selfE (some v) t (looks_guard hg)]; exact hb, by rw [if_pos hbw]; exact h5⟩)) h2
        exact ⟨d', r', W'', s', h6, h7, h8, h9⟩
      · rename_i hbw
        obtain ⟨d', r', W'', s', h6, h7, h8, h9⟩ := ih (i :: done) W _ (step skipV W (fun x hx => hx) J.wok (by
          unfold RV; rw [hg]; exact ⟨b, by rw [selfE skipV t (looks_guard hg)]; exact hb, by rw [if_neg hbw]; intro d hd; simp only; rw [look_aputO, if_pos hd]⟩)) H
        exact ⟨d', r', W'', s', h6, h7, h8, h9⟩
theorem ready_after {listed : Array Bool} {i : Nat} (h : i ∈ Region.ready .any ops listed) : listed.getD i false = false ∧ i < ops.size ∧ ∀ e ∈ afterOf ops i, listed.getD e false = true := by
 obtain ⟨h1, o, ho, h2⟩ := mem_ready.1 h
 have hi : i < ops.size := (Array.getElem?_eq_some_iff.1 ho).1
 refine ⟨?_, hi, fun e he => ?_⟩
 · rcases Nat.lt_or_ge i listed.size with hl | hl
   · simp [hl] at h1 ⊢; exact h1
   · simp [Array.getElem?_eq_none hl] at h1
 · unfold afterOf bindsOn at he
   rw [ho] at he
   obtain ⟨ed, hed, rfl⟩ := List.mem_map.1 he
   obtain ⟨h3, h4⟩ := List.mem_filter.1 hed
   exact h2 ed (by simpa using h3) h4
theorem ready_of {listed : Array Bool} {i : Nat} (hi : i < ops.size) (hls : listed.size = ops.size) (h1 : listed.getD i false = false) (h2 : ∀ e ∈ afterOf ops i, listed.getD e false = true) : i ∈ Region.ready .any ops listed := by
 have ho : ops[i]? = some ops[i] := Array.getElem?_eq_getElem hi
 refine mem_ready.2 ⟨?_, ops[i], ho, fun e he hb => h2 e.on ?_⟩
 · have hi : i < listed.size := by rw [hls]; exact hi
   simp [hi] at h1 ⊢; exact h1
 · unfold afterOf bindsOn
   rw [ho]
   exact List.mem_map.2 ⟨e, List.mem_filter.2 ⟨by simpa using he, hb⟩, rfl⟩
theorem getD_set {listed : Array Bool} {i j : Nat} (hi : i < listed.size) : (listed.setIfInBounds i true).getD j false = if j = i then true else listed.getD j false := by
 by_cases h : j = i
 · subst h; simp [hi]
 · rw [if_neg h]; simp [Array.getElem?_setIfInBounds_ne (fun e => h e.symm)]
theorem fin_of_all : ∀ {T : DT} {done : List Nat} {hd : Bool}, TOK ops gs hd done T → hd = true → T.isRd = false → (∀ i, i < ops.size → i ∈ done) → gs.length = ops.size → T = .fin := by
 intro T done hd tok hh hrd hall hgs
 cases T with
 | fin => rfl
 | no => simp only [TOK] at tok; rw [hh] at tok; cases tok
 | rd i g t => simp [DT.isRd] at hrd
 | wr i g af t alt => exact absurd (hall i (lt_gs hgs tok.1)) tok.2.2.1
theorem find_branch {K : St → Prop} {W : List Watch} {s : St} {done : List Nat} {j : Nat} : ∀ {T : DT} {hd : Bool}, TOK ops gs hd done T → idraw E T W K s → j ∈ T.keys → ∃ g t, gs[j]? = some g ∧ j ∉ done ∧ (∀ e ∈ afterOf ops j, e ∈ done) ∧ TOK ops gs true (j :: done) t ∧
    igrd g.guard s (istep E g.op s fun v h' => WOK (unwatch (afterOf ops j) W) h' ∧ idraw E t (unwatch (afterOf ops j) W) K ⟨aputO s.t g.dst v, h'⟩) (idraw E t (unwatch (afterOf ops j) W) K ⟨aputO s.t g.dst skipV, s.h⟩) := by
  intro T
  induction T with
  | fin => intro hd _ _ h; simp [DT.keys] at h
  | no => intro hd _ _ h; simp [DT.keys] at h
  | rd => intro hd _ _ h; simp [DT.keys] at h
  | wr i g af t alt ih1 ih2 =>
    intro hd tok H hj
    obtain ⟨h1, rfl, h2, h3, h4, h5, h6⟩ := tok
    obtain ⟨H1, H2⟩ := H
    rcases List.mem_cons.1 (show j ∈ i :: alt.keys from hj) with rfl | hj
    · exact ⟨g, t, h1, h2, h3, h5, H1⟩
    · exact ih2 h6 H2 hj
theorem draw_any {K : St → Prop} {Q : Exit → Act → World → Prop} (hgs : gs.length = ops.size) (hcode : ∀ (i : Nat) (o : Oper), ops[i]? = some o → ∃ g : IOpG, gs[i]? = some g ∧ cog E nt ops o = some g) {ι0 : Iota} {h0 : AHeap} {w0 : World}
    (hQ : ∀ ι s a w, K s → SRel nt nb ι s a w → Ext ι0 h0 w0 ι s.h w → Q .normal a w) :
    ∀ (fuel : Nat) (listed : Array Bool) (done : List Nat) (T : DT) (W : List Watch) (ι : Iota) (s : St) (a : Act) (w : World), DJ E nt nb ops gs done T listed W ι s a w → idraw E T W K s → Ext ι0 h0 w0 ι s.h w →
      ((List.range ops.size).filter fun i => !listed.getD i false).length ≤ fuel → wpAnyIn (FR r) 0 E.P .any ops Q fuel listed a w := by
  have finish : ∀ (listed : Array Bool) (done : List Nat) (T : DT) (W : List Watch) (ι : Iota) (s : St) (a : Act) (w : World), DJ E nt nb ops gs done T listed W ι s a w → idraw E T W K s → Ext ι0 h0 w0 ι s.h w →
      (∀ i, i < ops.size → listed.getD i false = true) → Q .normal a w := by
    intro listed done0 T0 W0 ι s0 a w J0 H0 X0 hall
    obtain ⟨done, T, W, s, J, H, hsh, hhead⟩ := advance hgs T0 done0 W0 s0 J0 H0
    have hT := fin_of_all J.tok rfl hhead (fun i hi => J.ldone i (hall i hi)) hgs
    subst hT
    refine hQ ι s a w H ⟨J.rel, fun t u hu => ?_, J.sz, J.df⟩ (by rw [hsh]; exact X0)
    rcases J.slots t u hu with h | ⟨i, hi, hl, _⟩
    · exact h
    · rw [hall i (J.dsz i hi)] at hl; cases hl
  have allListed : ∀ (listed : Array Bool) (done : List Nat) (T : DT) (W : List Watch) (ι : Iota) (s : St) (a : Act) (w : World), DJ E nt nb ops gs done T listed W ι s a w → idraw E T W K s → Region.ready .any ops listed = [] → ∀ i, i < ops.size → listed.getD i false = true := by
    intro listed done0 T0 W0 ι s0 a w J0 H0 hr
    obtain ⟨done, T, W, s, J, H, hsh, hhead⟩ := advance hgs T0 done0 W0 s0 J0 H0
    have none_ready : ∀ i, i < ops.size → (∀ e ∈ afterOf ops i, listed.getD e false = true) → listed.getD i false = true := by
      intro i hi h2
      cases hl : listed.getD i false with
      | true => rfl
      | false =>
        exfalso
        have := ready_of hi J.lsz hl h2
        rw [hr] at this; cases this
    have hdone := J.topo.all none_ready J.dsz
    have hT : T = .fin := by
      have tok := J.tok
      cases T with
      | fin => rfl
      | no => simp [TOK] at tok
      | rd i g t => simp [DT.isRd] at hhead
      | wr i g af t alt =>
        exfalso
        obtain ⟨h1, _, h2, h3, _⟩ := tok
        exact h2 (J.ldone i (none_ready i (lt_gs hgs h1) fun e he => hdone e (h3 e he)))
    subst hT
    exact fun i hi => hdone i (J.tok.2 i hi)
  intro fuel
  induction fuel with
  | zero =>
    intro listed done T W ι s a w J H X hf
    have hall : ∀ i, i < ops.size → listed.getD i false = true := by
      intro i hi
      cases hl : listed.getD i false with
      | true => rfl
      | false =>
        exfalso
        have : i ∈ (List.range ops.size).filter fun i => !listed.getD i false := List.mem_filter.2 ⟨List.mem_range.2 hi, by simp only [hl, Bool.not_false]⟩
        rw [List.eq_nil_of_length_eq_zero (Nat.le_zero.1 hf)] at this; cases this
    refine ⟨?_, finish listed done T W ι s a w J H X hall⟩
    cases hr : Region.ready .any ops listed with
    | nil => rfl
    | cons i l =>
      exfalso
      obtain ⟨h1, h2, _⟩ := ready_after (ops := ops) (listed := listed) (i := i) (by rw [hr]; simp)
      rw [hall i h2] at h1; cases h1
  | succ fuel ih =>
    intro listed done0 T0 W0 ι s0 a w J0 H0 X0 hf
    refine ⟨fun hr => finish listed done0 T0 W0 ι s0 a w J0 H0 X0 (allListed listed done0 T0 W0 ι s0 a w J0 H0 hr), fun i hi => ?_⟩
    obtain ⟨hunl, hlt, haft⟩ := ready_after hi
    obtain ⟨done, T, W, s, J, H, hsh, hhead⟩ := advance hgs T0 done0 W0 s0 J0 H0
    have X : Ext ι0 h0 w0 ι s.h w := by rw [hsh]; exact X0
    have ho : ops[i]? = some ops[i] := Array.getElem?_eq_getElem hlt
    obtain ⟨g, hgi, hcog⟩ := hcode i _ ho
    have hils : i < listed.size := by rw [J.lsz]; exact hlt
    have hf' : ((List.range ops.size).filter fun j => !(listed.setIfInBounds i true).getD j false).length ≤ fuel := by
      have := filter_lt (p := fun j => !listed.getD j false) (q := fun j => !(listed.setIfInBounds i true).getD j false) (x := i) (l := List.range ops.size) (fun j hj => by
        simp only [Bool.not_eq_true'] at hj ⊢
        rw [getD_set hils] at hj
        split at hj
        · cases hj
        · exact hj) (List.mem_range.2 hlt) (by simp only [hunl, Bool.not_false]) (by simp only [getD_set hils, if_true, Bool.not_true])
      omega
    let L : List Nat := (done.filter fun j => !listed.getD j false).filterMap fun j => (gs[j]?).bind fun y => y.dst
    have hL : ∀ t, t ∈ L ↔ ∃ j ∈ done, listed.getD j false = false ∧ ∃ y, gs[j]? = some y ∧ y.dst = some t := fun t => by
      simp only [L, List.mem_filterMap, List.mem_filter, Bool.not_eq_true', Option.bind_eq_some_iff]
      constructor
      · rintro ⟨y, ⟨h1, h2⟩, h3⟩; exact ⟨y, h1, h2, h3⟩
      · rintro ⟨y, h1, h2, h3⟩; exact ⟨y, ⟨h1, h2⟩, h3⟩
    have S' : SRel nt nb ι ⟨arem s.t L, s.h⟩ a w := ⟨J.rel, fun t u hu => by
      simp only at hu
      rw [look_arem] at hu
      split at hu
      · cases hu
      · rename_i ht
        rcases J.slots t u hu with h | ⟨y, h1, h2, h3⟩
        · exact h
        · exact absurd ((hL t).2 ⟨y, h1, h2, h3⟩) ht, J.sz, J.df⟩
    have hag : Agree g.looks s ⟨arem s.t L, s.h⟩ := fun t ht => by
      simp only
      rw [look_arem]
      split
      · rename_i hm
        exfalso
        obtain ⟨j, h1, h2, y, h3, h4⟩ := (hL t).1 hm
        obtain ⟨y', h5, hR, _⟩ := J.pend j h1 h2
        rw [h3] at h5; injection h5 with h5; subst h5
        by_cases hij : i = j
        · subst hij
          rw [h3] at hgi; injection hgi with hgi; subst hgi
          exact hR.self t h4 ht
        · have := (hR.pair1 hgi hij h4).2 ht
          rw [haft j this] at h2; cases h2
      · rfl
    by_cases hxd : i ∈ done
    ·
      obtain ⟨g', hg', hR, hrv⟩ := J.pend i hxd hunl
      rw [hgi] at hg'; injection hg' with hg'; subst hg'
      obtain ⟨ov, h1', h2⟩ := iop1_of_RV (s' := ⟨arem s.t L, s.h⟩) hR.rd hrv J.wok hag
      refine op_sound (s := ⟨arem s.t L, s.h⟩) ho hcog S' h1' ?_
      rintro ι' s2 a' w' rfl S2 X2
      refine ih _ done T W ι' s a' w' ⟨J.tok, by simpa using J.lsz, J.dsz, fun j hj => ?_, J.topo, fun j hj hl => ?_, fun t u hu => ?_, S2.rel, S2.sz, S2.df, J.wok⟩ H (X.trans X2) hf'
      · rw [getD_set hils] at hj
        split at hj
        · rename_i hjx; subst hjx; exact hxd
        · exact J.ldone j hj
      · rw [getD_set hils] at hl
        split at hl
        · cases hl
        · exact J.pend j hj hl
      · by_cases ht : g.dst = some t
        · left
          have h3 := S2.tm t u
          simp only [look_aputO, if_pos ht] at h3
          exact h3 (by rw [← h2 t ht]; exact hu)
        · by_cases htL : t ∈ L
          · right
            obtain ⟨j, h3, h4, y, h5, h6⟩ := (hL t).1 htL
            refine ⟨j, h3, ?_, y, h5, h6⟩
            rw [getD_set hils]
            split
            · rename_i hji
              exfalso
              subst hji
              rw [hgi] at h5; injection h5 with h5; subst h5
              exact ht h6
            · exact h4
          · left
            have h3 := S2.tm t u
            simp only [look_aputO, if_neg ht, look_arem, if_neg htL] at h3
            exact h3 hu
    ·
      have hkey : i ∈ T.keys := by
        have tok := J.tok
        cases T with
        | fin => exact absurd (tok.2 i hlt) hxd
        | no => simp [TOK] at tok
        | rd i g t => simp [DT.isRd] at hhead
        | wr j g af t alt =>
          rcases tok.2.2.2.2.1 rfl i hlt with h | h | ⟨e, he, hne⟩
          · exact absurd h hxd
          · exact h
          · exact absurd (J.ldone e (haft e he)) hne
      obtain ⟨g', t, hg', _, hafter, htok, H⟩ := find_branch J.tok H hkey
      rw [hgi] at hg'; injection hg' with hg'; subst hg'
      have H2 : iop1 E g ⟨arem s.t L, s.h⟩ (fun s2 => ∃ ov, s2.t = aputO (arem s.t L) g.dst ov ∧ WOK (unwatch (afterOf ops i) W) s2.h ∧ idraw E t (unwatch (afterOf ops i) W) K ⟨aputO s.t g.dst ov, s2.h⟩) := by
        unfold iop1
        have H3 : igrd g.guard ⟨arem s.t L, s.h⟩ (istep E g.op s fun v h' => WOK (unwatch (afterOf ops i) W) h' ∧ idraw E t (unwatch (afterOf ops i) W) K ⟨aputO s.t g.dst v, h'⟩) (idraw E t (unwatch (afterOf ops i) W) K ⟨aputO s.t g.dst skipV, s.h⟩) := by
          unfold igrd at H ⊢
          split at H
          · exact H
          · rename_i t want hg
            simp only
            rw [← hag t (looks_guard hg)]
            exact H
        refine igrd_mono H3 (fun h => ?_) (fun h => ⟨skipV, rfl, J.wok.unwatch, h⟩)
        exact istep_mono (istep_congr (fun t ht => hag t (looks_op ht)) rfl h) fun v h' hh => ⟨v, rfl, hh.1, hh.2⟩
      refine op_sound (s := ⟨arem s.t L, s.h⟩) ho hcog S' H2 ?_
      rintro ι' s2 a' w' ⟨ov, ht2, hw2, hK2⟩ S2 X2
      refine ih _ (i :: done) t (unwatch (afterOf ops i) W) ι' ⟨aputO s.t g.dst ov, s2.h⟩ a' w' ⟨htok, by simpa using J.lsz, fun j hj => ?_, fun j hj => ?_, ⟨hafter, J.topo⟩, fun j hj hl => ?_, fun t u hu => ?_, S2.rel, S2.sz, S2.df, hw2⟩ hK2 (X.trans X2) hf'
      · rcases List.mem_cons.1 hj with rfl | hj
        · exact hlt
        · exact J.dsz j hj
      · rw [getD_set hils] at hj
        split at hj
        · rename_i hjx; subst hjx; simp
        · exact List.mem_cons_of_mem _ (J.ldone j hj)
      · rw [getD_set hils] at hl
        split at hl
        · cases hl
        · rename_i hji
          rcases List.mem_cons.1 hj with h | hj
          · exact absurd h hji
          · obtain ⟨y, h0, h1, h2⟩ := J.pend j hj hl
            refine ⟨y, h0, h1, h2.keep (fun t ht => ?_) (fun d hd => ?_) (fun x hx hxi => mem_unwatch hx fun hm => by rw [hxi] at hm; rw [haft j hm] at hl; cases hl)⟩
            · simp only
              rw [look_aputO]
              split
              · rename_i hdx
                exfalso
                rcases h1.pair2 hgi (fun e => hji e.symm) hdx ht with h3 | h3
                · exact hxd (J.topo.cl j hj _ h3)
                · rw [haft j h3] at hl; cases hl
              · rfl
            · simp only
              rw [look_aputO]
              split
              · rename_i hdx
                exact absurd hdx (h1.pair1 hgi (fun e => hji e.symm) hd).1
              · rfl
      · simp only at hu
        by_cases ht : g.dst = some t
        · left
          have h3 := S2.tm t u
          rw [ht2, look_aputO, if_pos ht] at h3
          rw [look_aputO, if_pos ht] at hu
          exact h3 hu
        · rw [look_aputO, if_neg ht] at hu
          by_cases htL : t ∈ L
          · right
            obtain ⟨j, h3, h4, y, h5, h6⟩ := (hL t).1 htL
            refine ⟨j, List.mem_cons_of_mem _ h3, ?_, y, h5, h6⟩
            rw [getD_set hils]
            split
            · rename_i hji
              exfalso
              subst hji
              exact hxd h3
            · exact h4
          · left
            have h3 := S2.tm t u
            rw [ht2, look_aputO, if_neg ht, look_arem, if_neg htL] at h3
            exact h3 hu
end
end Go.Proofs.Ytjnpdnlgkepmcaa.AM
