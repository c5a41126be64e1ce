/- Regions whose order Go leaves open: the order that is walked, and what it asks. Conditions: none. -/
import Derived.Test.YtjnpdnlgkepmcaaAmOp
namespace Go.Proofs.Ytjnpdnlgkepmcaa.AM
set_option linter.unusedSimpArgs false
set_option linter.unusedVariables false
open Go Go.RowKit
def Opd.slots : Opd → List Nat
 | .t n => [n]
 | _ => []
def oslots : List Opd → List Nat
 | [] => []
 | x :: r => x.slots ++ oslots r
def pslots : List (Nat × Nat × Opd) → List Nat
 | [] => []
 | (_, _, x) :: r => x.slots ++ pslots r
def Oslots : Option Opd → List Nat
 | none => []
 | some x => x.slots
def IOp.slots : IOp → List Nat
 | .mov x | .un _ x | .conv _ x | .box x | .load _ _ x | .s2b x | .nilchk x | .faddr _ x | .field _ _ _ x | .extract _ x | .lenS x | .lenV x | .capN x | .nileq _ _ x | .clr _ _ x => x.slots
 | .pick c a b => c.slots ++ a.slots ++ b.slots
 | .ibin _ _ x y | .shift _ _ x y | .sbin _ x y | .bbin _ x y | .eqv _ _ x y | .store _ x y | .iaddr _ x y | .iaddrA _ _ x y | .indexA _ _ _ x y | .indexS x y | .append _ _ x y | .copy _ x y | .mp _ x y | .mslice _ _ _ x y | .appz _ _ _ x y => x.slots ++ y.slots
 | .alloc _ | .lenA _ | .nope => []
 | .build _ ps | .bslice _ _ _ ps => pslots ps
 | .sliceS x lo hi => x.slots ++ Oslots lo ++ Oslots hi
 | .sliceV _ x lo hi mx | .sliceA _ _ x lo hi mx => x.slots ++ Oslots lo ++ Oslots hi ++ Oslots mx
 | .minmax _ x r => x.slots ++ oslots r
 | .mkfunc _ a b => oslots a ++ oslots b
 | .call _ l => oslots l
 | .callv f l => f.slots ++ oslots l
def isReader : IOp → Bool
 | .alloc _ | .box _ | .s2b _ | .bslice .. | .mslice .. | .store .. | .append .. | .appz .. | .copy .. | .clr .. | .nope | .call .. | .callv .. => false
 | .mp n _ _ => Nat.beq n 1
 | _ => true
def Agree (l : List Nat) (s s' : St) : Prop := ∀ t, t ∈ l → look s.t t = look s'.t t
section
variable {E : Env} {s s' : St}
theorem ev_congr {x : Opd} (h : Agree x.slots s s') : s.ev E x = s'.ev E x := by
 cases x with
 | t n => exact h n (by simp [Opd.slots])
 | _ => rfl
theorem evs_congr : ∀ {l : List Opd}, Agree (oslots l) s s' → evs E s l = evs E s' l
  | [], _ => rfl
  | x :: r, h => by
    simp only [evs]
    rw [ev_congr (fun t ht => h t (by simp [oslots, ht])), evs_congr (fun t ht => h t (by simp [oslots, ht]))]
theorem evp_congr : ∀ {l : List (Nat × Nat × Opd)}, Agree (pslots l) s s' → evp E s l = evp E s' l
  | [], _ => rfl
  | (_, _, x) :: r, h => by
    simp only [evp]
    rw [ev_congr (fun t ht => h t (by simp [pslots, ht])), evp_congr (fun t ht => h t (by simp [pslots, ht]))]
theorem bnd_congr {d : Nat} {x : Option Opd} (h : Agree (Oslots x) s s') : bnd E s d x = bnd E s' d x := by
 cases x with
 | none => rfl
 | some x => simp only [bnd]; rw [ev_congr h]
theorem Agree.left {a b : List Nat} (h : Agree (a ++ b) s s') : Agree a s s' := fun t ht => h t (List.mem_append_left _ ht)
theorem Agree.right {a b : List Nat} (h : Agree (a ++ b) s s') : Agree b s s' := fun t ht => h t (List.mem_append_right _ ht)
theorem pev_congr {i : IOp} (h : Agree i.slots s s') : pev E s i = pev E s' i := by
 cases i <;> simp only [IOp.slots] at h <;> simp only [pev]
 case mov x => exact ev_congr h
 case pick c a b => rw [ev_congr h.left.left, ev_congr h.left.right, ev_congr h.right]
 case ibin op k x y => rw [ev_congr h.left, ev_congr h.right]
 case shift op k x y => rw [ev_congr h.left, ev_congr h.right]
 case sbin op x y => rw [ev_congr h.left, ev_congr h.right]
 case bbin n x y => rw [ev_congr h.left, ev_congr h.right]
 case nileq k n x => rw [ev_congr h]
 case eqv sh n x y => rw [ev_congr h.left, ev_congr h.right]
 case un op x => rw [ev_congr h]
 case conv k x => rw [ev_congr h]
 case build z ps => rw [evp_congr h]
 case nilchk x => rw [ev_congr h]
 case faddr o x => rw [ev_congr h]
 case field o n g x => rw [ev_congr h]
 case iaddr z x i => rw [ev_congr h.left, ev_congr h.right]
 case iaddrA l z x i => rw [ev_congr h.left, ev_congr h.right]
 case indexA l z g x i => rw [ev_congr h.left, ev_congr h.right]
 case indexS x i => rw [ev_congr h.left, ev_congr h.right]
 case sliceS x lo hi =>
  rw [ev_congr h.left.left, bnd_congr h.left.right]
  congr 1; funext a; rw [bnd_congr h.right]
 case sliceV z x lo hi mx =>
  rw [ev_congr h.left.left.left, bnd_congr h.left.left.right]
  congr 1; funext a; rw [bnd_congr h.left.right]
  congr 1; funext l; congr 1; funext hh; rw [bnd_congr h.right]
 case sliceA n z x lo hi mx =>
  rw [ev_congr h.left.left.left, bnd_congr h.left.left.right, bnd_congr h.left.right, bnd_congr h.right]
 case extract i x => rw [ev_congr h]
 case lenS x => rw [ev_congr h]
 case lenV x => rw [ev_congr h]
 case capN x => rw [ev_congr h]
 case minmax m x r => rw [ev_congr h.left, evs_congr h.right]
 case mkfunc k a b => rw [evs_congr h.left, evs_congr h.right]
theorem wev_congr {i : IOp} (h : Agree i.slots s s') (hh : s.h = s'.h) : wev E s i = wev E s' i := by
 cases i <;> simp only [IOp.slots] at h <;> simp only [wev, hh]
 case box x => rw [ev_congr h]
 case s2b x => rw [ev_congr h]
 case bslice l z c ps => rw [evp_congr h]
 case mslice z b c l r => rw [ev_congr h.left, ev_congr h.right]
 case store n a x => rw [ev_congr h.left, ev_congr h.right]
 case append z b x y => rw [ev_congr h.left, ev_congr h.right]
 case copy z x y => rw [ev_congr h.left, ev_congr h.right]
 case appz z b c x y => rw [ev_congr h.left, ev_congr h.right]
 case clr e z x => rw [ev_congr h]
 case mp n x y => rcases n with _ | _ | n <;> simp only [wev, hh, ev_congr h.left, ev_congr h.right]
theorem lev_congr {n : Nat} {g : Bool} {x : Opd} (h : Agree x.slots s s') (hh : s.h = s'.h) : lev E s n g x = lev E s' n g x := by
 unfold lev; rw [ev_congr h, hh]
theorem istep_congr {i : IOp} {k : Option Value → AHeap → Prop} (h : Agree i.slots s s') (hh : s.h = s'.h) : istep E i s k → istep E i s' k := by
  intro H
  cases i
  case call key l => simp only [IOp.slots] at h; simp only [istep, evs_congr h, hh] at H ⊢; exact H
  case callv f l => simp only [IOp.slots] at h; simp only [istep, ev_congr h.left, evs_congr h.right, hh] at H ⊢; exact H
  case load n g x => simp only [IOp.slots] at h; simp only [istep, xev, lev_congr h hh, hh] at H ⊢; exact H
  case alloc z => simp only [istep, xev, wev_congr h hh] at H ⊢; exact H
  case box x => simp only [istep, xev, wev_congr h hh] at H ⊢; exact H
  case s2b x => simp only [istep, xev, wev_congr h hh] at H ⊢; exact H
  case bslice => simp only [istep, xev, wev_congr h hh] at H ⊢; exact H
  case mslice => simp only [istep, xev, wev_congr h hh] at H ⊢; exact H
  case store => simp only [istep, xev, wev_congr h hh] at H ⊢; exact H
  case append => simp only [istep, xev, wev_congr h hh] at H ⊢; exact H
  case copy => simp only [istep, xev, wev_congr h hh] at H ⊢; exact H
  case appz => simp only [istep, xev, wev_congr h hh] at H ⊢; exact H
  case clr => simp only [istep, xev, wev_congr h hh] at H ⊢; exact H
  case mp => simp only [istep, xev, wev_congr h hh] at H ⊢; exact H
  case sliceV z x lo hi mx =>
    have hp := pev_congr (E := E) h
    simp only [IOp.slots] at h
    rcases H with H | H
    · left; simp only [xev, hp, hh] at H ⊢; exact H
    · right
      have : sev E s z x lo hi mx = sev E s' z x lo hi mx := by
        unfold sev
        cases hi with
        | none => rfl
        | some hi => cases mx with
          | some mx =>
            simp only
            rw [ev_congr h.left.left.left, bnd_congr h.left.left.right, bnd_congr h.left.right, bnd_congr h.right, hh]
          | none =>
            simp only
            rw [ev_congr h.left.left.left, hh, bnd_congr h.left.left.right, bnd_congr h.left.right]
      rw [this] at H; exact H
  all_goals (simp only [istep, xev, pev_congr h, hh] at H ⊢; exact H)
end
structure Watch where
 i : Nat
 n : Nat
 agg : Bool
 b : Nat
 o : Nat
 v : Value
 k : Option ByteArray := none
def levh (h : AHeap) (n : Nat) (agg : Bool) (b o : Nat) : Option Value :=
 (h.row b).bind fun c => if agg then (if o + n ≤ c.length then some (.agg ((c.drop o).take n).toArray) else none) else c[o]?
def wat (h : AHeap) (x : Watch) : Option Value := match x.k with
 | none => levh h x.n x.agg x.b x.o
 | some k => (mpKs h x.b).bind fun ks => some (.bool (hasK ks k))
def WOK : List Watch → AHeap → Prop
 | [], _ => True
 | x :: r, h => wat h x = some x.v ∧ WOK r h
def rstep (E : Env) (i : Nat) (op : IOp) (s : St) (W : List Watch) : Option (Value × List Watch) :=
  match op with
  | .load n agg x => (s.ev E x).bind fun v => match vvp v with
    | some q => (if agg then ldV q.1 q.2 n else q.1.cells[q.2]?).bind fun v => some (v, W)
    | none => (vptr v).bind fun p => (levh s.h n agg p.1 p.2).bind fun v => some (v, ⟨i, n, agg, p.1, p.2, v, none⟩ :: W)
  | .mp 1 x y => ((s.ev E x).bind vmp).bind fun b => ((s.ev E y).bind vstr).bind fun k => (mpKs s.h b).bind fun ks => some (.bool (hasK ks k), ⟨i, 0, false, b, 0, .bool (hasK ks k), some k⟩ :: W)
  | op => (pev E s op).bind fun v => some (v, W)
inductive DT
 | fin
 | no
 | rd (i : Nat) (g : IOpG) (t : DT)
 | wr (i : Nat) (g : IOpG) (af : List Nat) (t alt : DT)
def unwatch (af : List Nat) : List Watch → List Watch
 | [] => []
 | x :: r => if nmem af x.i then unwatch af r else x :: unwatch af r
def idraw (E : Env) : DT → List Watch → (St → Prop) → St → Prop
 | .fin, _, K, s => K s
 | .no, _, _, _ => True
 | .rd i g r, W, K, s => igrd g.guard s (obind (rstep E i g.op s W) fun q => idraw E r q.2 K ⟨aputO s.t g.dst (some q.1), s.h⟩) (idraw E r W K ⟨aputO s.t g.dst skipV, s.h⟩)
 | .wr _ g af r alt, W, K, s => igrd g.guard s (istep E g.op s fun v h' => WOK (unwatch af W) h' ∧ idraw E r (unwatch af W) K ⟨aputO s.t g.dst v, h'⟩) (idraw E r (unwatch af W) K ⟨aputO s.t g.dst skipV, s.h⟩) ∧ idraw E alt W K s
def bindsOn (o : Oper) : List Nat := (o.after.toList.filter (Region.binds .any)).map (·.on)
def afterOf (ops : Array Oper) (i : Nat) : List Nat := match ops[i]? with | some o => bindsOn o | none => []
def IOpG.looks (g : IOpG) : List Nat := g.op.slots ++ (match g.guard with | some (t, _) => [t] | none => [])
def chkPair (ops : Array Oper) (i : Nat) (x : IOpG) (j : Nat) (y : IOpG) : Bool :=
  (match x.dst with
   | some d => y.dst != some d && (!nmem y.looks d || nmem (afterOf ops j) i)
   | none => true) &&
  (match y.dst with
   | some d => !nmem x.looks d || nmem (afterOf ops i) j || nmem (afterOf ops j) i
   | none => true)
def chkPairs (ops : Array Oper) (i : Nat) (x : IOpG) : Nat → List IOpG → Bool
 | _, [] => true
 | j, y :: r => (j == i || chkPair ops i x j y) && chkPairs ops i x (j + 1) r
def DT.keys : DT → List Nat
 | .wr i _ _ _ alt => i :: alt.keys
 | _ => []
def fillT (ops : Array Oper) (gs : List IOpG) : DT → Option DT
  | .fin => some .fin
  | .no => some .no
  | .rd i _ t => match gs[i]?, fillT ops gs t with
    | some g, some t => some (.rd i g t)
    | _, _ => none
  | .wr i _ _ t alt => match gs[i]?, fillT ops gs t, fillT ops gs alt with
    | some g, some t, some alt => some (.wr i g (afterOf ops i) t alt)
    | _, _, _ => none
def chkT (ops : Array Oper) (gs : List IOpG) : Bool → List Nat → DT → Bool
  | hd, done, .fin => hd && (List.range ops.size).all (nmem done)
  | hd, _, .no => !hd
  | hd, done, .rd i g t => hd && !nmem done i && (afterOf ops i).all (nmem done) && isReader g.op && (match g.dst with | some d => !nmem g.looks d | none => true) && chkPairs ops i g 0 gs && chkT ops gs true (i :: done) t
  | hd, done, .wr i g af t alt => !nmem done i && (afterOf ops i).all (nmem done) &&
    (!hd || (List.range ops.size).all fun j => nmem done j || nmem (DT.wr i g af t alt).keys j || (afterOf ops j).any fun e => !nmem done e) &&
    chkT ops gs true (i :: done) t && chkT ops gs false done alt
end Go.Proofs.Ytjnpdnlgkepmcaa.AM
