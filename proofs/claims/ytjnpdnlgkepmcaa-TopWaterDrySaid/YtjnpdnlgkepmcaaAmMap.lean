/- Maps of strings that are in them: what the model's operations do. Conditions: none. -/
import Derived.Test.YtjnpdnlgkepmcaaAmLoop
import Derived.MapKept
import Derived.WideMake
namespace Go.Proofs.Ytjnpdnlgkepmcaa.AM
set_option linter.unusedSimpArgs false
set_option linter.unusedVariables false
open Go Go.RowKit
theorem hasK_iff {ks : List ByteArray} {k : ByteArray} : hasK ks k = true ↔ k ∈ ks := by
 unfold hasK
 rw [List.any_eq_true]
 constructor
 · rintro ⟨x, hx, e⟩
   rw [(Go.MapKept.bytes_beq x k).1 e] at hx; exact hx
 · exact fun h => ⟨k, h, (Go.MapKept.bytes_beq k k).2 rfl⟩
section
variable {P : Program} {w : World} {mt kt et : TypeId} {r : Nat} {es : Array MapEntry} {clock : Nat} {ks : List ByteArray} {k : ByteArray}
theorem mp_keys (hk : es.toList.map (·.key) = ks.map .string) : ∀ x, x ∈ es.toList → Go.MapKept.IsKey .string x.key := by
 intro x hx
 have : x.key ∈ es.toList.map (·.key) := List.mem_map.2 ⟨x, hx, rfl⟩
 rw [hk] at this
 obtain ⟨s, _, e⟩ := List.mem_map.1 this
 rw [← e]; simp [Go.MapKept.IsKey]
theorem mp_mem (hk : es.toList.map (·.key) = ks.map .string) {k : ByteArray} : (∃ x, x ∈ es.toList ∧ x.key = .string k) ↔ k ∈ ks := by
 constructor
 · rintro ⟨x, hx, e⟩
   have : x.key ∈ es.toList.map (·.key) := List.mem_map.2 ⟨x, hx, rfl⟩
   rw [hk, e] at this
   obtain ⟨s, hs, e⟩ := List.mem_map.1 this
   injection e with e; subst e; exact hs
 · intro h
   have : Value.string k ∈ ks.map Value.string := List.mem_map.2 ⟨k, h, rfl⟩
   rw [← hk] at this
   obtain ⟨x, hx, e⟩ := List.mem_map.1 this
   exact ⟨x, hx, e⟩
theorem run_mget (hm : P.underlying mt = some (.map kt et)) (hd : P.underlying kt = some .string) (hz : ∀ w, (zeroValue et).run P w = .ok (.bool false) w) (hb : w.heap[r]? = some (.map es clock)) (hk : es.toList.map (·.key) = ks.map .string) (hv : ∀ e, e ∈ es.toList → e.val = .bool true) :
   (Instr.lookup mt (.map (some r)) (.string k) false).run P w = .ok (.bool (hasK ks k)) w := by
 have hik : Go.MapKept.IsKey .string (.string k) := by simp [Go.MapKept.IsKey]
 rcases Go.MapKept.findNow_spec hik es.toList 0 (mp_keys hk) with ⟨h1, h2⟩ | ⟨j, e, h1, h2, h3⟩
 · have hn : hasK ks k = false := Bool.eq_false_iff.2 fun h => by
    obtain ⟨x, hx, e⟩ := (mp_mem hk).2 (hasK_iff.1 h)
    exact h2 x hx e
   simp [Instr.lookup, run_underlying hm, Go.MapKept.run_getObj_map hb, Go.MapKept.run_checkKey hd hik, Go.MapKept.run_findKey hd h1, Result.andThen, hz, hn]
 · have hme := List.mem_of_getElem? h2
   have hn : hasK ks k = true := hasK_iff.2 ((mp_mem hk).1 ⟨e, hme, h3⟩)
   simp [Instr.lookup, run_underlying hm, Go.MapKept.run_getObj_map hb, Go.MapKept.run_checkKey hd hik, Go.MapKept.run_findKey hd h1, Result.andThen, hn, hv e hme]
theorem run_mset (hm : P.underlying mt = some (.map kt et)) (hd : P.underlying kt = some .string) (hb : w.heap[r]? = some (.map es clock)) (hk : es.toList.map (·.key) = ks.map .string) (hv : ∀ e, e ∈ es.toList → e.val = .bool true) :
   ∃ o, (Instr.mapUpdate mt (.map (some r)) (.string k) (.bool true)).run P w = .ok () (w.putObj r o) ∧ MPR (mset ks k) o := by
 have hik : Go.MapKept.IsKey .string (.string k) := by simp [Go.MapKept.IsKey]
 rcases Go.MapKept.findNow_spec hik es.toList 0 (mp_keys hk) with ⟨h1, h2⟩ | ⟨j, e, h1, h2, h3⟩
 · have hn : hasK ks k = false := Bool.eq_false_iff.2 fun h => by
     obtain ⟨x, hx, e⟩ := (mp_mem hk).2 (hasK_iff.1 h)
     exact h2 x hx e
   refine ⟨.map (es.push { key := .string k, val := .bool true, born := clock }) (clock + 1), ?_, _, _, rfl, ?_, fun e he => ?_⟩
   · simp [Instr.mapUpdate, run_underlying hm, Go.MapKept.run_getObj_map hb, Go.MapKept.run_checkKey hd hik, Go.MapKept.run_findKey hd h1, Go.MapKept.run_setObj_map _ hb, Result.andThen, World.putObj]
   · unfold mset; rw [hn]; simp [hk]
   · simp only [Array.toList_push, List.mem_append, List.mem_singleton] at he
     rcases he with he | rfl
     · exact hv e he
     · rfl
 · have hme := List.mem_of_getElem? h2
   have hn : hasK ks k = true := hasK_iff.2 ((mp_mem hk).1 ⟨e, hme, h3⟩)
   have hj : es[j]? = some e := by simpa using h2
   refine ⟨.map (es.modify j fun e => { e with key := .string k, val := .bool true }) clock, ?_, _, _, rfl, ?_, fun x hx => ?_⟩
   · simp [Instr.mapUpdate, run_underlying hm, Go.MapKept.run_getObj_map hb, Go.MapKept.run_checkKey hd hik, Go.MapKept.run_findKey hd h1, hj, h3, Go.MapKept.run_keyThatStays hik, Go.MapKept.run_setObj_map _ hb, Result.andThen, World.putObj]
   · unfold mset; rw [hn]
     show _ = ks.map Value.string
     rw [← hk]
     refine List.ext_getElem? fun q => ?_
     simp only [List.getElem?_map, Array.getElem?_toList, Array.getElem?_modify]
     by_cases e2 : j = q
     · subst e2; rw [if_pos rfl, hj]; simp [h3]
     · rw [if_neg e2]
   · obtain ⟨q, hq⟩ := List.mem_iff_getElem?.1 hx
     simp only [Array.getElem?_toList, Array.getElem?_modify] at hq
     by_cases e2 : j = q
     · subst e2; rw [if_pos rfl, hj] at hq
       injection hq with hq; subst hq; rfl
     · rw [if_neg e2] at hq
       exact hv x (List.mem_of_getElem? (i := q) (by simpa using hq))
end
def MPS (E : Env) (o : Oper) (x y : Opd) : Nat → Prop
 | 0 => ∃ t, o.op = .makeMap t none
 | 1 => ∃ t p q k e, o.op = .lookup t p q false ∧ E.P.underlying t = some (.map k e) ∧ copd E p = some x ∧ copd E q = some y ∧ E.P.underlying k = some .string ∧ (E.P.info? e).bind (·.zero) = some (.bool false)
 | _ => ∃ t p q k e, o.op = .mapUpdate t p q (.const (.bool true)) ∧ E.P.underlying t = some (.map k e) ∧ copd E p = some x ∧ copd E q = some y ∧ E.P.underlying k = some .string
section
variable {E : Env} {ι : Iota} {s : St} {a : Act} {w : World}
theorem mpKs_loop {h : AHeap} {b : Nat} {ks : List ByteArray} (e : mpKs h b = some ks) : ∃ L, h.get b = some (.loop L) ∧ L.pending = some mapC ∧ kd L.body = ks := by
 unfold mpKs at e
 split at e
 · rename_i L hg
   split at e
   · rename_i hp
     injection e with e
     exact ⟨L, hg, hp, e⟩
   · cases e
 · cases e
theorem mp_real {h : AHeap} {b : Nat} {ks : List ByteArray} (R : Rel ι h w) (e : mpKs h b = some ks) : ∃ L o, h.get b = some (.loop L) ∧ w.heap[(ι b).r]? = some o ∧ MPR ks o := by
 obtain ⟨L, h1, h2, h3⟩ := mpKs_loop e
 obtain ⟨o, h4, h5⟩ := R.loop b L h1
 rcases h5.is with ⟨hp, _⟩ | ⟨ks', rfl, hm⟩
 · exact absurd h2 hp
 · have : ks' = ks := by rw [← h3]; exact (kd_kc ks').symm
   subst this
   exact ⟨_, o, h1, h4, hm⟩
theorem mp_make {o : Oper} {x y : Opd} {r : Option Value × AHeap} (hc : MPS E o x y 0) (R : Rel ι s.h w) (he : wev E s (.mp 0 x y) = some r) : Done E ι s a w o r := by
 obtain ⟨t, ho⟩ := hc
 simp only [wev, Option.some.injEq] at he; subst he
 obtain ⟨R2, X2⟩ := R.newLoop (L := mpL []) (o := .map #[] 0) ⟨.inr ⟨[], rfl, #[], 0, rfl, rfl, fun e he => by simp at he⟩⟩
 refine ⟨_, _, .value (.map (some w.heap.size)), ?_, ⟨_, rfl, ?_⟩, R2, X2⟩
 · simp [execOp, ho, run_makeMap_plain]
 · have := VR.map (ι := upd ι s.h.next ⟨w.heap.size, 0, 0⟩) (N := s.h.next + 1) s.h.next (by omega)
   rw [upd_same] at this
   exact this
theorem VR.map_of {N : Nat} {u v : Value} (h : VR ι N u v) {b : Nat} (hu : vmp u = some b) : b < N ∧ v = .map (some (ι b).r) := by
 unfold vmp at hu
 split at hu
 · injection hu with hu; subst hu
   cases h with
   | map m hm => exact ⟨hm, rfl⟩
 · cases hu
theorem mp_set {o : Oper} {n : Nat} {x y : Opd} {r : Option Value × AHeap} (hc : MPS E o x y (n + 2)) (R : Rel ι s.h w) (T : TR ι s.h.next s.t a.tmps) (he : wev E s (.mp (n + 2) x y) = some r) : Done E ι s a w o r := by
 obtain ⟨t, p, q, k, e, ho, hu, hp, hq, hk⟩ := hc
 simp only [wev] at he
 obtain ⟨b, h1, he⟩ := bind_some he
 obtain ⟨ks0, h2, he⟩ := bind_some he
 obtain ⟨ks, h3, he⟩ := bind_some he
 injection he with he; subst he
 obtain ⟨u1, h4, h5⟩ := bind_some h1
 obtain ⟨u2, h6, h7⟩ := bind_some h2
 have hm := VR.map_of (ev_sim hp T h4) h5
 have hs := ((ev_sim hq T h6).str_of h7).2
 obtain ⟨L, o1, g1, g2, es, clock, rfl, g4, g5⟩ := mp_real R h3
 obtain ⟨o2, z1, z2⟩ := run_mset (P := E.P) (w := w) (k := ks0) hu hk g2 g4 g5
 obtain ⟨R2, X2⟩ := R.putObj g1 (.loop (mpL (mset ks ks0))) o2 (.inr ⟨_, rfl, ⟨.inr ⟨_, rfl, z2⟩⟩⟩)
 refine ⟨ι, _, .skip, ?_, rfl, R2, X2⟩
 have hc : a.eval (.const (.bool true)) = .bool true := rfl
 simp [execOp, ho, hm.2, hs, hc, z1]
theorem mp_get {o : Oper} {x y : Opd} {r : Option Value × AHeap} (hc : MPS E o x y 1) (R : Rel ι s.h w) (T : TR ι s.h.next s.t a.tmps) (he : wev E s (.mp 1 x y) = some r) : Done E ι s a w o r := by
 obtain ⟨t, p, q, k, e, ho, hu, hp, hq, hk, hz⟩ := hc
 simp only [wev] at he
 obtain ⟨b, h1, he⟩ := bind_some he
 obtain ⟨ks0, h2, he⟩ := bind_some he
 obtain ⟨ks, h3, he⟩ := bind_some he
 injection he with he; subst he
 obtain ⟨u1, h4, h5⟩ := bind_some h1
 obtain ⟨u2, h6, h7⟩ := bind_some h2
 have hm := VR.map_of (ev_sim hp T h4) h5
 have hs := ((ev_sim hq T h6).str_of h7).2
 obtain ⟨L, o1, g1, g2, es, clock, rfl, g4, g5⟩ := mp_real R h3
 have hz2 : ∀ w, (zeroValue e).run E.P w = .ok (.bool false) w := by
  intro w
  obtain ⟨i, hi, hz⟩ := bind_some hz
  simp [zeroValue, typeInfo, Sem.run, hi, hz]
 have z1 := run_mget (P := E.P) (w := w) (k := ks0) hu hk hz2 g2 g4 g5
 refine ⟨ι, w, .value (.bool (hasK ks ks0)), ?_, ⟨_, rfl, .bool _⟩, R, Ext.refl _ _ _⟩
 simp [execOp, ho, hm.2, hs, z1]
end
end Go.Proofs.Ytjnpdnlgkepmcaa.AM
