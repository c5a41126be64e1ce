/- slices.Repeat of one element. Conditions: none. -/
import Derived.Test.YtolapannkcdeeaaGreatAmLift4
import Derived.Test.YtolapannkcdeeaaGreatAmHas
namespace Go.Proofs.YtolapannkcdeeaaGreat.AM
set_option linter.unusedSimpArgs false
set_option linter.unusedVariables false
open Go Go.RowKit
attribute [local irreducible] ICallV ICalls Recast rng
namespace Rep
noncomputable def f261  (a0 : Int) (a1 : Int) : Option (Int × Int) :=
 some ((IntKind.u64.wrap ((IntKind.u64.wrap ((IntKind.u64.wrap ((a0.fdiv (2 ^ (min (32 : Int).toNat (IntKind.bits .u64)))) * (a1.fdiv (2 ^ (min (32 : Int).toNat (IntKind.bits .u64)))))) + ((IntKind.u64.wrap ((IntKind.u64.wrap ((a0.fdiv (2 ^ (min (32 : Int).toNat (IntKind.bits .u64)))) * (IntKind.u64.wrap (BitVec.ofInt (IntKind.bits .u64) a1 &&& BitVec.ofInt (IntKind.bits .u64) (4294967295 : Int)).toNat))) + ((IntKind.u64.wrap ((IntKind.u64.wrap (BitVec.ofInt (IntKind.bits .u64) a0 &&& BitVec.ofInt (IntKind.bits .u64) (4294967295 : Int)).toNat) * (IntKind.u64.wrap (BitVec.ofInt (IntKind.bits .u64) a1 &&& BitVec.ofInt (IntKind.bits .u64) (4294967295 : Int)).toNat))).fdiv (2 ^ (min (32 : Int).toNat (IntKind.bits .u64)))))).fdiv (2 ^ (min (32 : Int).toNat (IntKind.bits .u64)))))) + ((IntKind.u64.wrap ((IntKind.u64.wrap (BitVec.ofInt (IntKind.bits .u64) (IntKind.u64.wrap ((IntKind.u64.wrap ((a0.fdiv (2 ^ (min (32 : Int).toNat (IntKind.bits .u64)))) * (IntKind.u64.wrap (BitVec.ofInt (IntKind.bits .u64) a1 &&& BitVec.ofInt (IntKind.bits .u64) (4294967295 : Int)).toNat))) + ((IntKind.u64.wrap ((IntKind.u64.wrap (BitVec.ofInt (IntKind.bits .u64) a0 &&& BitVec.ofInt (IntKind.bits .u64) (4294967295 : Int)).toNat) * (IntKind.u64.wrap (BitVec.ofInt (IntKind.bits .u64) a1 &&& BitVec.ofInt (IntKind.bits .u64) (4294967295 : Int)).toNat))).fdiv (2 ^ (min (32 : Int).toNat (IntKind.bits .u64)))))) &&& BitVec.ofInt (IntKind.bits .u64) (4294967295 : Int)).toNat) + (IntKind.u64.wrap ((IntKind.u64.wrap (BitVec.ofInt (IntKind.bits .u64) a0 &&& BitVec.ofInt (IntKind.bits .u64) (4294967295 : Int)).toNat) * (a1.fdiv (2 ^ (min (32 : Int).toNat (IntKind.bits .u64)))))))).fdiv (2 ^ (min (32 : Int).toNat (IntKind.bits .u64)))))), (IntKind.u64.wrap (a0 * a1)))
set_option maxHeartbeats 1000000 in
theorem c261  {a0 : Int} {a1 : Int} {x : Int × Int} (H : f261 a0 a1 = some x) : ICalls E 261 [(.int .u64 a0), (.int .u64 a1)] AHeap.none fun v _ => v = (.tuple ⟨[(.int .u64 x.1), (.int .u64 x.2)]⟩) := by
 refine icalls_fn (pfnw ?_); unfold f261 at H; (conv => whnf); refine pw_so ?_; refine po_all ?_; (conv => whnf); refine pw_so ?_; refine po_all ?_; (conv => whnf); refine pw_so ?_; refine po_all ?_; (conv => whnf); refine pw_so ?_; refine po_all ?_; (conv => whnf); refine pw_so ?_; refine po_all ?_; (conv => whnf); refine pw_so ?_; refine po_all ?_; (conv => whnf); refine pw_so ?_; refine po_all ?_; (conv => whnf); refine pw_so ?_; refine po_all ?_; (conv => whnf); refine pw_so ?_; refine po_all ?_; (conv => whnf); refine pw_so ?_; refine po_all ?_; (conv => whnf); refine pw_so ?_; refine po_all ?_; (conv => whnf); refine pw_so ?_; refine po_all ?_; (conv => whnf); refine pw_ret ?_
 (conv => whnf); cases H; rfl
noncomputable def f255  (a0 : Int) (a1 : Int) : Option (Int × Int) :=
 obnd (f261 a0 a1) fun (y1 : Int × Int) =>
 some (y1.1, y1.2)
set_option maxHeartbeats 1000000 in
theorem c255  {a0 : Int} {a1 : Int} {x : Int × Int} (H : f255 a0 a1 = some x) : ICalls E 255 [(.int .u64 a0), (.int .u64 a1)] AHeap.none fun v _ => v = (.tuple ⟨[(.int .u64 x.1), (.int .u64 x.2)]⟩) := by
 refine icalls_fn (pfnw ?_); unfold f255 at H; (conv => whnf); refine pw_so ?_; refine po_all ?_; (conv => whnf); refine pw_seq ?_; refine pw_cond ?_; (conv => whnf); refine pw_skip ?_; (conv => whnf); refine pw_so ?_; refine po_all ?_; (conv => whnf); obtain ⟨y1, h2, H⟩ := obnd_some H; refine (c261 h2).go ?_; (conv => whnf); refine pw_so ?_; refine po_all ?_; (conv => whnf); refine pw_ret ?_; (conv => whnf); cases H; rfl
theorem u64_id {n : Int} (h0 : 0 ≤ n) (h1 : n < 18446744073709551616) : IntKind.u64.wrap n = n := by
 have : IntKind.u64.wrap n = n % 18446744073709551616 := by
  simp [IntKind.wrap, IntKind.bits, IntKind.signed]
 rw [this]; omega
theorem mask_lo {n : Nat} (h : n < 18446744073709551616) : ((BitVec.ofInt 64 (n : Int) &&& BitVec.ofInt 64 4294967295).toNat : Int) = ((n % 4294967296 : Nat) : Int) := by
 have e1 : BitVec.ofInt 64 (n : Int) = BitVec.ofNat 64 n := by simp
 have e2 : BitVec.ofInt 64 4294967295 = BitVec.ofNat 64 (2 ^ 32 - 1) := rfl
 rw [e1, e2, BitVec.toNat_and, BitVec.toNat_ofNat, BitVec.toNat_ofNat, Nat.mod_eq_of_lt (show n < 2 ^ 64 by omega), Nat.mod_eq_of_lt (show 2 ^ 32 - 1 < 2 ^ 64 by omega), Nat.and_two_pow_sub_one_eq_mod]
def wu (x : Int) : Int := IntKind.u64.wrap x
def lo32 (x : Int) : Int := wu ((BitVec.ofInt 64 x &&& BitVec.ofInt 64 4294967295).toNat : Int)
def hi32 (x : Int) : Int := x.fdiv 4294967296
def mhi (x y : Int) : Int :=
 wu (wu (wu (hi32 x * hi32 y) + hi32 (wu (wu (hi32 x * lo32 y) + hi32 (wu (lo32 x * lo32 y))))) + hi32 (wu (lo32 (wu (wu (hi32 x * lo32 y) + hi32 (wu (lo32 x * lo32 y)))) + wu (lo32 x * hi32 y))))
theorem f261_eq (x y : Int) : f261 x y = some (mhi x y, wu (x * y)) := rfl
theorem f255_one {n : Int} (h0 : 0 ≤ n) (h1 : n ≤ 1099511627776) : f255 1 n = some (0, n) := by
 obtain ⟨m, rfl⟩ := Int.eq_ofNat_of_zero_le h0
 unfold f255
 rw [f261_eq]
 have hm : m ≤ 1099511627776 := by omega
 have h1d : hi32 1 = 0 := rfl
 have h0d : hi32 0 = 0 := rfl
 have hmd : hi32 (m : Int) = ((m / 4294967296 : Nat) : Int) := by
  unfold hi32; rw [Int.fdiv_eq_ediv_of_nonneg _ (by omega)]; rfl
 have hk1 : lo32 1 = 1 := rfl
 have hk0 : lo32 0 = 0 := rfl
 have hw0 : wu 0 = 0 := rfl
 have ha : lo32 (m : Int) = ((m % 4294967296 : Nat) : Int) := by
  unfold lo32 wu; rw [mask_lo (by omega)]; exact u64_id (by omega) (by omega)
 have haw : wu ((m % 4294967296 : Nat) : Int) = ((m % 4294967296 : Nat) : Int) := u64_id (by omega) (by omega)
 have had : hi32 ((m % 4294967296 : Nat) : Int) = 0 := by
  unfold hi32; rw [Int.fdiv_eq_ediv_of_nonneg _ (by omega)]; omega
 have hbw : wu ((m / 4294967296 : Nat) : Int) = ((m / 4294967296 : Nat) : Int) := u64_id (by omega) (by omega)
 have hbd : hi32 ((m / 4294967296 : Nat) : Int) = 0 := by
  unfold hi32; rw [Int.fdiv_eq_ediv_of_nonneg _ (by omega)]; omega
 have hmw : wu (m : Int) = (m : Int) := u64_id (by omega) (by omega)
 simp only [mhi, h1d, hmd, ha, hk1, Int.one_mul, Int.zero_mul, hw0, Int.zero_add, haw, had, h0d, hk0, hbw, hbd, hmw, obnd]
end Rep
open Rep
theorem copy_o {t : List (Nat × Value)} {h : AHeap} {d x : Opd} {k : Option Value × AHeap → Prop} {dv xv : Value} {b o n code : Nat} {sx : Sl} {els c : List Value} (hd : (St.mk t h).ev E d = some dv) (hdv : vsl dv = some ⟨.blk b o, n, code⟩) (hx : (St.mk t h).ev E x = some xv) (hxv : vsl xv = some sx)
  (hels : h.els 1 sx = some els) (hrow : h.get b = some (.rw c)) (hn : n ≠ 0) (hle : o + min n sx.len * 1 ≤ c.length) (hk : k (some (.int .i64 ((min n sx.len : Nat) : Int)), h.put b (.rw (setCells c o (flat (els.take (min n sx.len))))))) : obind (xev E ⟨t, h⟩ (.copy 1 d x)) k := by
 refine obind_iff.2 ⟨_, ?_, hk⟩
 simp only [xev, wev, hd, hdv, hx, hxv, hels, hrow, Option.bind_some]
 rw [if_pos ⟨hn, hle⟩]
theorem slo_o {t : List (Nat × Value)} {h : AHeap} {K : Option Value × AHeap → Prop} {N k lo : Nat} (hlo : look t lo = some (.int .i64 (k : Int))) (hk : k ≤ N) (H : K (some (mkSl 0 (0 + k * 1) (N - k) 1), h)) : obind (xev E ⟨t, h⟩ (.sliceV 1 (.c (mkSl 0 0 N 1)) (some (.t lo)) none none)) K := by
 refine obind_iff.2 ⟨_, ?_, H⟩
 simp [xev, pev, bnd, hlo, St.ev, vsl, mkSl, hk, resl]
theorem shi_o {t : List (Nat × Value)} {h : AHeap} {K : Option Value × AHeap → Prop} {N k hi : Nat} (hhi : look t hi = some (.int .i64 (k : Int))) (hk : k ≤ N) (H : K (some (mkSl 0 0 k 1), h)) : obind (xev E ⟨t, h⟩ (.sliceV 1 (.c (mkSl 0 0 N 1)) none (some (.t hi)) none)) K := by
 refine obind_iff.2 ⟨_, ?_, H⟩
 simp [xev, pev, bnd, hhi, St.ev, vsl, mkSl, hk, resl]
theorem chunk_one : ∀ {n : Nat} {l : List Int}, chunk n 1 (l.map eI) = (l.take n).map eI
 | 0, _ => by simp [chunk]
 | n + 1, [] => by simp [chunk]
 | n + 1, v :: r => by simp only [List.map_cons, chunk, List.take_succ_cons]; rw [chunk_one]
def repR (a : Int) (N k : Nat) : List Int := List.replicate k a ++ List.replicate (N - k) 0
def repG (N k : Nat) : Option (Nat ⊕ Unit) := if 1 ≤ k ∧ k < N then some (.inl (k + min (N - k) k)) else if k = N then some (.inr ()) else none
theorem rep_loop {N k : Nat} (h1 : 1 ≤ k) (h2 : k ≤ N) : ∃ f, oloopN (repG N) f k = some () := by
  generalize hm : N - k = m
  induction m using Nat.strongRecOn generalizing k with
  | _ m ih =>
    rcases Nat.lt_or_ge k N with h | h
    · obtain ⟨f, hf⟩ := ih (N - (k + min (N - k) k)) (by omega) (k := k + min (N - k) k) (by omega) (by omega) rfl
      exact ⟨f + 1, by simp only [oloopN, repG, if_pos (show 1 ≤ k ∧ k < N from ⟨h1, h⟩)]; exact hf⟩
    · obtain rfl : k = N := by omega
      exact ⟨1, by simp only [oloopN, repG, if_neg (show ¬ (1 ≤ k ∧ k < k) by omega), if_pos]⟩
theorem Rep.run {a n : Int} (hn : mfits 8 n n = true) (hpos : 1 ≤ n) : ICalls E 246 [VS 1 ([a].map eI), .int .i64 n] AHeap.none fun v h' => ∃ b, v = .slice (some ⟨b, 0, none⟩) n.toNat 1 ∧ h'.get b = some (.rw ((List.replicate n.toNat a).map eI)) := by
 obtain ⟨h0, _, _, h1⟩ := mfits_o hn
 obtain ⟨N, rfl⟩ := Int.eq_ofNat_of_zero_le h0
 have hf : Rep.f255 (IntKind.u64.wrap (([a].map eI).length : Int)) (IntKind.u64.wrap (N : Int)) = some (0, (N : Int)) := by
   rw [u64_id h0 (by omega)]; exact f255_one h0 h1
 have hw : IntKind.i64.wrap (N : Int) = (N : Int) := wrap_in (by omega) (by omega)
 refine icalls_fn (pfnw ?_);(conv=>whnf);refine pw_so ?_;refine po_all ?_;(conv=>whnf);refine pw_seq ?_; refine pw_so ?_;refine po_all ?_;(conv=>whnf); refine pw_cond ?_; (conv=>whnf)
 refine pw_skip ?_; (conv=>whnf); refine pw_so ?_; refine po_all ?_; (conv=>whnf)
 refine (Rep.c255 hf).go ?_; (conv=>whnf); refine pw_seq ?_; refine pw_so ?_; refine po_all ?_; (conv=>whnf)
 refine pw_cond ?_; (conv=>whnf); refine pbr_f (ilt_f (by show (N : Int) ≤ 9223372036854775807; omega)) ?_; (conv=>whnf); refine pw_skip ?_; (conv=>whnf)
 refine pw_so ?_; refine po_all ?_; (conv=>whnf)
 refine mk_o (f := eI) (x := (0 : Int)) rfl (show mfits 8 (IntKind.i64.wrap (N : Int)) (IntKind.i64.wrap (N : Int)) = true by rw [hw]; exact hn) ?_; (conv=>whnf)
 refine pw_so ?_; refine po_all ?_; (conv=>whnf)
 refine copy_o (b := 0) (o := 0) (n := (IntKind.i64.wrap (N : Int)).toNat) (code := 1) (sx := ⟨.val 1 ([a].map eI), 1, 1⟩) rfl rfl rfl rfl rfl rfl (by rw [hw]; omega) (by rw [hw]; simp; omega) ?_; (conv=>whnf)
 have hpos' : 1 ≤ N := by omega
 have e0 : setCells (List.map eI (List.replicate N 0)) 0 (flat (List.take (min N 1) (List.map eI [a]))) = (repR a N 1).map eI := by
   rw [show min N 1 = 1 by omega]
   obtain ⟨m, rfl⟩ : ∃ m, N = m + 1 := ⟨N - 1, by omega⟩
   simp [repR, setCells, flat, Value.cells, List.replicate_succ]
 show PW E _ _ ⟨[(7, mkSl 0 0 (IntKind.i64.wrap (N : Int)).toNat 1), (8, .int .i64 ((min (IntKind.i64.wrap (N : Int)).toNat 1 : Nat) : Int))], ⟨1, [(0, .rw (setCells (List.map eI (List.replicate (IntKind.i64.wrap (N : Int)).toNat 0)) 0 (flat (List.take (min (IntKind.i64.wrap (N : Int)).toNat 1) (List.map eI [a])))))], false⟩⟩
 rw [hw]
 simp only [Int.toNat_natCast]
 rw [e0, show min N 1 = 1 by omega]
 obtain ⟨f, hloop⟩ := rep_loop (N := N) (k := 1) (Nat.le_refl _) hpos'
 refine pw_join (fun (_ : Unit) => ⟨[(7, mkSl 0 0 N 1)], ⟨1, [(0, .rw ((repR a N N).map eI))], false⟩⟩) () ?_ ?_
 · refine pw_block ?_
   refine pw_loop (τ := Nat) (ρ := Unit) (fun k => ⟨[(7, mkSl 0 0 N 1), (8, .int .i64 (k : Int))], ⟨1, [(0, .rw ((repR a N k).map eI))], false⟩⟩) (oloop_of hloop) .refl (fun _ => Nat.le_refl _) ?_
   intro k x hg
   unfold repG at hg
   refine pw_seq ?_; refine pw_so ?_; refine po_all ?_; (conv=>whnf); refine pw_cond ?_; (conv=>whnf)
   split at hg
   · rename_i hk
     injection hg with hg; subst hg
     refine pbr_t (ilt_n hk.2) ?_; (conv=>whnf); refine pw_skip ?_; (conv=>whnf); refine pw_block ?_; refine pw_draw ?_; (conv=>whnf)
     refine slo_o (k := k) rfl (Nat.le_of_lt hk.2) ?_; (conv=>whnf)
     refine shi_o (k := k) rfl (Nat.le_of_lt hk.2) ?_; (conv=>whnf)
     refine ⟨?_, trivial⟩
     refine copy_o (b := 0) (o := 0 + k * 1) (n := N - k) (code := 1) (sx := ⟨.blk 0 0, k, 1⟩) (els := chunk k 1 ((repR a N k).map eI)) rfl rfl rfl rfl ?_ rfl (by omega) ?_ ?_
     · show (if 0 + k * 1 ≤ (List.map eI (repR a N k)).length then some (chunk k 1 ((List.map eI (repR a N k)).drop 0)) else none) = _
       rw [if_pos (by simp [repR])]; rfl
     · simp [repR]; omega
     · have e1 : setCells (List.map eI (repR a N k)) (0 + k * 1) (flat (List.take (min (N - k) k) (chunk k 1 (List.map eI (repR a N k))))) = (repR a N (k + min (N - k) k)).map eI := by
        have hc : (repR a N k).take k = List.replicate k a := by simp [repR]
        rw [chunk_one, hc, ← List.map_take, flat_ints, List.take_replicate, show min (min (N - k) k) k = min (N - k) k by omega]
        have := setCells_app (l := (List.replicate (min (N - k) k) a).map eI) (p := (List.replicate k a).map eI) (q := (List.replicate (N - k) (0 : Int)).map eI) (by simp; omega)
        simp only [List.length_map, List.length_replicate] at this
        rw [repR, List.map_append, show 0 + k * 1 = k by omega, this]
        simp only [repR, List.map_append, List.map_replicate, List.drop_replicate]
        rw [show List.replicate (k + min (N - k) k) (eI a) = List.replicate k (eI a) ++ List.replicate (min (N - k) k) (eI a) from List.replicate_append_replicate.symm, show N - k - min (N - k) k = N - (k + min (N - k) k) by omega]
       (conv=>whnf)
       refine ⟨trivial, ?_⟩
       show pputs _ _ (some (.int .i64 ((min (N - k) k : Nat) : Int))) fun t => pdraw E _ _ _ ⟨t, ⟨1, [(0, .rw (setCells (List.map eI (repR a N k)) (0 + k * 1) (flat (List.take (min (N - k) k) (chunk k 1 (List.map eI (repR a N k)))))))], false⟩⟩
       rw [e1]
       (conv=>whnf)
       refine ⟨?_, trivial⟩
       (conv=>whnf)
       refine ⟨trivial, ?_⟩
       (conv=>whnf)
       refine ⟨_, rfl, ?_⟩
       have e2 : IntKind.i64.wrap ((k : Int) + ((min (N - k) k : Nat) : Int)) = ((k + min (N - k) k : Nat) : Int) := by
        rw [wrap_in (by omega) (by omega)]; simp
       rw [e2]; exact .refl
   · split at hg
     · rename_i hk
       injection hg with hg; subst hg; rw [hk]
       refine pbr_f (ilt_nf (Nat.le_refl _)) ?_; (conv=>whnf); refine pw_exit ?_; (conv=>whnf); refine ⟨_, rfl, ?_⟩; intro _; (conv=>whnf)
       exact ⟨.cons rfl .nil, rfl⟩
     · cases hg
 · refine pw_so ?_; refine po_all ?_; (conv=>whnf); refine pw_ret ?_; (conv=>whnf)
   exact ⟨0, rfl, by simp [repR]; rfl⟩
def f246 (l : List Int) (n : Int) : Option (List Int) := match l with
 | [a] => ogrd (mfits 8 n n) (ogrd (ile 1 n) (some (List.replicate n.toNat a)))
 | _ => none
theorem c246 {l : List Int} {n : Int} {x : List Int} (H : f246 l n = some x) : ICalls E 246 [VS 1 (l.map eI), .int .i64 n] AHeap.none fun v h' => ∃ b, v = .slice (some ⟨b, 0, none⟩) x.length 1 ∧ h'.get b = some (.rw (x.map eI)) := by
 unfold f246 at H
 split at H
 · obtain ⟨h1, H⟩ := ogrd_some H
   obtain ⟨h2, H⟩ := ogrd_some H
   injection H with H; subst H
   rw [ile_eq] at h2
   simpa using Rep.run h1 (of_decide_eq_true h2)
 · cases H
end Go.Proofs.YtolapannkcdeeaaGreat.AM
