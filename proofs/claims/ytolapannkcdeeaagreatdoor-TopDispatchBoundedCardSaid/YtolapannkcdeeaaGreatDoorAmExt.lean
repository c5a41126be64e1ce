/- Functions of the library by their contracts, as functions of the small language. Conditions: none. -/
import Derived.Test.YtolapannkcdeeaaGreatDoorAmDec
import Derived.Test.YtolapannkcdeeaaGreatDoorAmHas
import Derived.Test.YtolapannkcdeeaaGreatDoorAmFrame
import Derived.Test.YtolapannkcdeeaaGreatDoorAmCast
import Derived.Shelf.Abstract
import Derived.Lib.SplitLaws
namespace Go.Proofs.YtolapannkcdeeaaGreatDoor.AM
set_option linter.unusedSimpArgs false
set_option linter.unusedVariables false
set_option maxRecDepth 100000
open Go Go.RowKit Go.Sort
theorem vr_fn0 {ι : Iota} {N : Nat} {g : FuncId} {v : Value} (h : VR ι N (.func (.func g) #[] #[]) v) : v = .func (.func g) #[] #[] := by
  generalize hx : Value.func _ _ _ = x at h
  cases h with
  | func g' xs ys us vs hs h1 hs' h2 =>
    injection hx with e1 e2 e3
    subst e2; subst e3
    injection e1 with e1; subst e1
    rw [Array.eq_empty_of_size_eq_zero (xs := ys) (by simpa using hs.symm), Array.eq_empty_of_size_eq_zero (xs := vs) (by simpa using hs'.symm)]
  | _ => first | (cases hx; done) | (unfold VS at hx; cases hx; done) | (unfold VT at hx; cases hx; done) | (unfold VP at hx; cases hx; done) | (unfold VZ at hx; cases hx; done) | (unfold VE at hx; cases hx; done)
theorem run_ext {E : Env} {f : FuncId} (he : Go.Proofs.Enters E.P f) (vs : List Value) (w : World) :
  ((do let d ← Deferred.ofValue (.func (.func f) #[] #[]) vs.toArray; invoke d.target d.args) : Sem Next).run E.P w = .ok (.enter f vs.toArray) w := by
 have h := he vs.toArray w
 simp only [Deferred.ofValue, Sem.run_bind, Sem.run_pure, Result.andThen, invoke]
 simpa using h
theorem ICalls.ext {E : Env} {k : Nat} {f : FuncId} (hid : E.id k = f) (he : Go.Proofs.Enters E.P f) {us : List Value} {Q : Value → AHeap → Prop}
  (H : ∀ ι w vs, Rel ι AHeap.none w → VRL ι 0 us vs → Calls E.P f vs.toArray w fun e w' => Lift Q ι AHeap.none w e w') : ICalls E k us AHeap.none Q := by
 intro ι w fv' vs R hf hl
 rw [hid] at hf
 obtain rfl := vr_fn0 hf
 exact ⟨.enter f vs.toArray, w, run_ext he vs w, R, Ext.refl _ _ _, callsIn_wide.2 (H ι w vs R hl)⟩
theorem Below.rel {ι : Iota} {w w' : World} (R : Rel ι AHeap.none w) (hB : Below w.heap.size w w') : Rel ι AHeap.none w' ∧ Ext ι AHeap.none w ι AHeap.none w' := by
 refine ⟨Rel.bare (fun r i v hv => ?_) (R.gb.of fun r hr _ => osz_heap (hB.block r hr)), Nat.le_refl _, .refl, hB.size, fun r hr _ => ⟨hB.block r hr, none_mut⟩, fun _ _ _ _ => rfl, hB.os, hB.tape, hB.output⟩
 have := R.im r i v hv
 unfold World.cell? at this ⊢
 rw [hB.block r (R.lt_of_im hv)]; exact this
theorem lift_plain {u : Value} (hu : vrcD u = true) {ι : Iota} {w w' : World} (R : Rel ι AHeap.none w) (hB : Below w.heap.size w w') : Lift (fun v _ => v = u) ι AHeap.none w (.returned u) w' :=
 ⟨ι, u, u, AHeap.none, rfl, rfl, vrcD_vr hu, (Below.rel R hB).1, (Below.rel R hB).2⟩
theorem below_grow {w : World} (n : Nat) (os : Array Obj) : Below w.heap.size w (grow (w.drewN n) os) :=
 ⟨rfl, rfl, rfl, by simp [grow, World.drewN], fun k hk => by simp only [grow, World.drewN]; rw [Array.getElem?_append_left hk]⟩
theorem vrl1 {ι : Iota} {N : Nat} {u : Value} {vs : List Value} (h : VRL ι N [u] vs) : ∃ v, vs = [v] ∧ VR ι N u v := by
 obtain ⟨h1, h2⟩ := h
 match vs, h1 with
 | [v], _ => exact ⟨v, rfl, h2 0 _ _ rfl rfl⟩
theorem vrl2 {ι : Iota} {N : Nat} {u u2 : Value} {vs : List Value} (h : VRL ι N [u, u2] vs) : ∃ v v2, vs = [v, v2] ∧ VR ι N u v ∧ VR ι N u2 v2 := by
 obtain ⟨h1, h2⟩ := h
 match vs, h1 with
 | [v, v2], _ => exact ⟨v, v2, rfl, h2 0 _ _ rfl rfl, h2 1 _ _ rfl rfl⟩
section
variable {ι : Iota} {w : World}
theorem gw_max (h : GW w) : ∃ m, w.cell? ⟨0, 0, none⟩ = some (.int .i64 m) := by
 obtain ⟨v, h1, m, rfl⟩ := h (0, 0, fun v => ∃ m, v = .int .i64 m) (List.mem_cons_self ..)
 exact ⟨m, h1⟩
theorem gw_syn (h : GW w) : ∃ t p, w.cell? ⟨1, 0, none⟩ = some (.iface t p) := by
 obtain ⟨v, h1, t, p, rfl⟩ := h (1, 0, fun v => ∃ t p, v = .iface t p) (List.mem_cons_of_mem _ (List.mem_cons_self ..))
 exact ⟨t, p, h1⟩
theorem gw_rng (h : GW w) : ∃ t p, w.cell? ⟨2, 0, none⟩ = some (.iface t p) := by
 obtain ⟨v, h1, t, p, rfl⟩ := h (2, 0, fun v => ∃ t p, v = .iface t p) (List.mem_cons_of_mem _ (List.mem_cons_of_mem _ (List.mem_cons_self ..)))
 exact ⟨t, p, h1⟩
theorem gw_tab (h : GW w) {i : Nat} (hi : i < 20) : w.cell? ⟨3, i, none⟩ = some (.int .u64 (Lib.pow10Tab.getD i 0)) := by
 obtain ⟨v, h1, rfl⟩ := h (3, i, fun v => v = .int .u64 (Lib.pow10Tab.getD i 0)) (List.mem_cons_of_mem _ (List.mem_cons_of_mem _ (List.mem_cons_of_mem _ (List.mem_map.2 ⟨i, List.mem_range.2 hi, rfl⟩))))
 exact h1
theorem tab_is (h : GW w) (hb : GB w) : Lib.TabIs Tryz.prog w "internal/strconv.uint64pow10" .u64 Lib.pow10Tab := by
 have hs : osz w 3 = some 20 := hb (3, 20) (List.mem_cons_self ..)
 have hg : Tryz.prog.globalNamed "internal/strconv.uint64pow10" = some 3 := by kernel_rfl
 have hlen : Lib.pow10Tab.length = 20 := by simp [Lib.pow10Tab]
 unfold Lib.TabIs World.var?
 rw [hg]
 simp only [Option.bind_some]
 unfold osz at hs
 split at hs
 · rename_i cs t f e
   rw [e]
   injection hs with hs
   simp only [Option.some.injEq]
   apply Array.ext'
   apply List.ext_getElem?
   intro i
   by_cases hi : i < 20
   · have := gw_tab h hi
     unfold World.cell? at this
     rw [show (⟨3, i, none⟩ : Addr).block = 3 from rfl, e] at this
     simp only [Option.isSome_none, Bool.false_eq_true, if_false] at this
     rw [Array.getElem?_toList, this]
     simp [List.getD, hlen, hi]
   · rw [List.getElem?_eq_none (by simp; omega), List.getElem?_eq_none (by simp [hlen]; omega)]
 · cases hs
end
theorem ent41 : Go.Proofs.Enters E.P 41 := by
 show Go.Proofs.Enters Tryz.prog 41
 exact Go.Proofs.enters_of Tryz.func41 (by kernel_rfl) rfl
theorem ent42 : Go.Proofs.Enters E.P 42 := by
 show Go.Proofs.Enters Tryz.prog 42
 exact Go.Proofs.enters_of Tryz.func42 (by kernel_rfl) rfl
theorem ent81 : Go.Proofs.Enters E.P 81 := by
 show Go.Proofs.Enters Tryz.prog 81
 exact Go.Proofs.enters_of Tryz.func81 (by kernel_rfl) rfl
theorem ent86 : Go.Proofs.Enters E.P 86 := by
 show Go.Proofs.Enters Tryz.prog 86
 exact Go.Proofs.enters_of Tryz.func86 (by kernel_rfl) rfl
theorem ent87 : Go.Proofs.Enters E.P 87 := by
 show Go.Proofs.Enters Tryz.prog 87
 exact Go.Proofs.enters_of Tryz.func87 (by kernel_rfl) rfl
def in64 (n : Int) : Bool := decide (-9223372036854775808 ≤ n ∧ n ≤ 9223372036854775807)
def f385 (n : Int) : Option ByteArray := ogrd (in64 n) (some ⟨(Lib.itoa n).toArray⟩)
theorem c385 {n : Int} {x : ByteArray} (H : f385 n = some x) : ICalls E 385 [.int .i64 n] AHeap.none fun v _ => v = .string x := by
 obtain ⟨hn, H⟩ := ogrd_some H
 injection H with H; subst H
 have hn := of_decide_eq_true hn
 refine ICalls.ext (f := 81) (by kernel_rfl) ent81 fun ι w vs R hl => ?_
 obtain ⟨v, rfl, h1⟩ := vrl1 hl
 obtain ⟨_, rfl⟩ := h1.int_of (k := .i64) (n := n) rfl
 refine (Tryz.strconv_Itoa n hn.1 hn.2 w (tab_is R.gw R.gb)).mono ?_
 rintro e w' ⟨rfl, k, os, rfl⟩
 exact lift_plain rfl R (below_grow k os)
def f384 (l : List ByteArray) (sep : ByteArray) : Option ByteArray := ogrd (decide (l.length ≤ 140737488355328 ∧ (Lib.join (l.map (·.data.toList)) sep.data.toList).length ≤ 140737488355328)) (some ⟨(Lib.join (l.map (·.data.toList)) sep.data.toList).toArray⟩)
theorem c384 {l : List ByteArray} {sep : ByteArray} {x : ByteArray} (H : f384 l sep = some x) : ICalls E 384 [VS 1 (l.map eS), .string sep] AHeap.none fun v _ => v = .string x := by
 obtain ⟨hn, H⟩ := ogrd_some H
 injection H with H; subst H
 obtain ⟨hn, hn2⟩ := of_decide_eq_true hn
 refine ICalls.ext (f := 41) (by kernel_rfl) ent41 fun ι w vs R hl => ?_
 obtain ⟨v, v2, rfl, h1, h2⟩ := vrl2 hl
 obtain ⟨_, rfl⟩ := h2.str_of (s := sep) rfl
 rcases h1.vs_of with ⟨h0, h3⟩ | ⟨r, f, c', _, hc, rfl, h4, h5⟩
 · have h0 : l = [] := by simpa using h0
   subst h0
   have : ∃ a c, v = .slice a 0 c := by
     rcases h3 with rfl | ⟨a, c, rfl⟩
     · exact ⟨_, _, rfl⟩
     · exact ⟨_, _, rfl⟩
   obtain ⟨a, c, rfl⟩ := this
   refine (Tryz.strings_Join_none a c sep w).mono ?_
   rintro e w' ⟨rfl, rfl⟩
   exact lift_plain rfl R (Below.refl _ _)
 · have hcell : ∀ (j : Nat) x, l[j]? = some x → w.cell? ⟨r, f + j, none⟩ = some (.string x) := fun j x hx => by
     obtain ⟨_, v, h6, h7⟩ := h5 j 0 (.string x) (.string x) (by rw [List.getElem?_map, hx]; rfl) rfl
     obtain ⟨_, rfl⟩ := h7.str_of (s := x) rfl
     have := R.im _ _ _ h6
     simpa using this
   rw [List.length_map] at hc ⊢
   by_cases h0 : l = []
   · subst h0
     refine (Tryz.strings_Join_none (some ⟨r, f, none⟩) c' sep w).mono ?_
     rintro e w' ⟨rfl, rfl⟩
     exact lift_plain rfl R (Below.refl _ _)
   · have hpos : 0 < l.length := List.length_pos_iff.2 h0
     have hlt : r < w.heap.size := World.block_lt_of_cell? _ _ (hcell 0 l[0] (List.getElem?_eq_getElem hpos))
     refine (Tryz.strings_Join r f c' l sep w hcell hlt hn hc hn2).mono ?_
     rintro e w' ⟨rfl, hB⟩
     exact lift_plain rfl R hB
def f382 (s sep : ByteArray) : Option (List ByteArray) := ogrd (decide (s.size < 4294967281 ∧ 1 ≤ sep.size)) (some (Lib.splitB sep 0 (Lib.countB s sep) s))
theorem c382 {s sep : ByteArray} {x : List ByteArray} (H : f382 s sep = some x) : ICalls E 382 [.string s, .string sep] AHeap.none fun v _ => v = VS 1 (x.map eS) := by
  obtain ⟨hn, H⟩ := ogrd_some H
  injection H with H
  obtain ⟨hn, hn2⟩ := of_decide_eq_true hn
  refine ICalls.ext (f := 42) (by kernel_rfl) ent42 fun ι w vs R hl => ?_
  obtain ⟨v, v2, rfl, h1, h2⟩ := vrl2 hl
  obtain ⟨_, rfl⟩ := h1.str_of (s := s) rfl
  obtain ⟨_, rfl⟩ := h2.str_of (s := sep) rfl
  obtain ⟨m, hm⟩ := gw_max R.gw
  refine (Tryz.strings_Split s sep m w hn hm hn2).mono ?_
  rintro e w' ⟨rfl, rfl⟩
  have hx : x.length = Lib.countB s sep + 1 := by rw [← H]; exact Lib.splitB_all sep hn2 0 _ s rfl
  rw [H, ← hx]
  obtain ⟨R1, X1⟩ := R.junk (.cells (x.map Value.string).toArray 9)
  have hcell : ∀ (i : Nat) (z : Value), (x.map Value.string)[i]? = some z → (w.alloc (.cells (x.map Value.string).toArray 9)).cell? ⟨w.heap.size, i, none⟩ = some z := fun i z hz => by
    have := World.cell?_alloc_mark w (x.map Value.string).toArray 9 (0, 0) i
    rw [this]
    simpa using hz
  have R2 := R1.imx (r := w.heap.size) (g := fun i => (x.map Value.string)[i]?) none_mut hcell
  have X2 := ((Ext.refl ι AHeap.none w).trans X1).imx (r := w.heap.size) (g := fun i => (x.map Value.string)[i]?) (.inl (Nat.le_refl _))
  refine ⟨_, _, _, _, rfl, rfl, ?_, R2, X2⟩
  have hfresh : ∀ i, ι.im w.heap.size i = none := fun i => by
    cases hi : ι.im w.heap.size i with
    | none => rfl
    | some v => have := R.lt_of_im hi; omega
  have := VR.vs_mk (ι := addIm ι w.heap.size (fun i => (x.map Value.string)[i]?)) (N := 0) (z := 1) (r := w.heap.size) (f := 0) (c' := x.length) (es := x.map eS) (by omega) (by simp) (fun i el hh => by
      rw [List.getElem?_map, Option.map_eq_some_iff] at hh
      obtain ⟨b, _, rfl⟩ := hh; rfl) (fun i j el u hh hu => by
      rw [List.getElem?_map, Option.map_eq_some_iff] at hh
      obtain ⟨b, hb, rfl⟩ := hh
      cases j with
      | succ j => simp [Value.cells] at hu
      | zero =>
        simp [Value.cells] at hu; subst hu
        refine ⟨rfl, .string b, ?_, .str b⟩
        rw [imx_new (hfresh _)]
        simp [hb])
  rw [List.length_map] at this
  exact this
def f395 (s p : ByteArray) : Option ByteArray := some ⟨(Lib.trimPrefix s.data.toList p.data.toList).toArray⟩
theorem c395 {s p x : ByteArray} (H : f395 s p = some x) : ICalls E 395 [.string s, .string p] AHeap.none fun v _ => v = .string x := by
 injection H with H; subst H
 refine ICalls.ext (f := 87) (by kernel_rfl) ent87 fun ι w vs R hl => ?_
 obtain ⟨v, v2, rfl, h1, h2⟩ := vrl2 hl
 obtain ⟨_, rfl⟩ := h1.str_of (s := s) rfl
 obtain ⟨_, rfl⟩ := h2.str_of (s := p) rfl
 refine (Tryz.strings_TrimPrefix s p w).mono ?_
 rintro e w' ⟨rfl, rfl⟩
 exact lift_plain rfl R (Below.refl _ _)
def ifv (b : Bool) : Value := match b with
 | true => .nilIface
 | false => .iface (Tryz.laysC172_ren.t 168) (VP (.agg #[]) 0)
theorem ifv_t {b : Bool} (h : b = true) : ifv b = .nilIface := by subst h; rfl
theorem ifv_f {b : Bool} (h : b = false) : ifv b = .iface (Tryz.laysC172_ren.t 168) (VP (.agg #[]) 0) := by subst h; rfl
instance {b : Bool} : Cl (ifv b) := ⟨by
 cases b
 · exact .iface _ _ (.vp _ _ fun u h => by simp [Value.cells] at h)
 · exact .one _ rfl⟩
def numV (s : ByteArray) : Int := match Lib.atoiAll s.data.toList with
 | .ok v => v
 | .range => Lib.atoiSat s.data.toList
 | _ => 0
def numO (s : ByteArray) : Bool := match Lib.atoiAll s.data.toList with
 | .ok _ => true
 | _ => false
theorem lift_pair {v : Int} {N : Nat} {ι : Iota} {w w' : World} (R : Rel ι AHeap.none w) (hB : Below w.heap.size w w') : Lift (fun u _ => u = .tuple ⟨[.int .i64 v, ifv false]⟩) ι AHeap.none w (.returned (.tuple #[.int .i64 v, .iface (Tryz.laysC172_ren.t 168) (.pointer (some ⟨N, 0, none⟩))])) w' := by
  refine ⟨ι, _, _, AHeap.none, rfl, rfl, ?_, (Below.rel R hB).1, (Below.rel R hB).2⟩
  refine .tuple _ _ rfl fun i u x hu hx => ?_
  match i with
  | 0 => simp at hu hx; subst hu; subst hx; exact .int _ _
  | 1 =>
    simp at hu hx; subst hu; subst hx
    refine .iface _ _ _ ?_
    have := VR.vp (ι := ι) (N := AHeap.none.next) (.agg #[]) 0 N 0 (fun j u h => by simp [Value.cells] at h) (fun j u v h => by simp [Value.cells] at h)
    exact this
  | i + 2 => simp at hu
def f394 (s : ByteArray) : Option (Int × Bool) := ogrd (decide (s.size ≤ 281474976710656)) (some (numV s, numO s))
theorem c394 {s : ByteArray} {x : Int × Bool} (H : f394 s = some x) : ICalls E 394 [.string s] AHeap.none fun v _ => v = .tuple ⟨[.int .i64 x.1, ifv x.2]⟩ := by
 obtain ⟨hn, H⟩ := ogrd_some H
 injection H with H; subst H
 have hn := of_decide_eq_true hn
 refine ICalls.ext (f := 86) (by kernel_rfl) ent86 fun ι w vs R hl => ?_
 obtain ⟨v, rfl, h1⟩ := vrl1 hl
 obtain ⟨_, rfl⟩ := h1.str_of (s := s) rfl
 unfold numV numO
 cases h : Lib.atoiAll s.data.toList
 · refine (Tryz.strconv_Atoi_ok s (by omega) _ h w).mono ?_
   rintro e w' ⟨rfl, hW⟩
   refine lift_plain rfl R ?_
   rcases hW with rfl | ⟨t, rfl⟩
   · exact Below.refl _ _
   · exact Lib.bytesWorld_below _ _ _
 · obtain ⟨t, p, hv⟩ := gw_syn R.gw
   refine (Any.strconv_Atoi_syntax Tryz.laysC172 s hn h (.iface t p) w hv (.inr ⟨t, p, rfl⟩)).mono ?_
   rintro e w' ⟨N, rfl, _, _, hB⟩
   exact lift_pair R hB
 · obtain ⟨t, p, hv⟩ := gw_rng R.gw
   refine (Any.strconv_Atoi_range Tryz.laysC172 s hn h (.iface t p) w hv (.inr ⟨t, p, rfl⟩)).mono ?_
   rintro e w' ⟨N, rfl, _, _, hB⟩
   exact lift_pair R hB
end Go.Proofs.YtolapannkcdeeaaGreatDoor.AM
