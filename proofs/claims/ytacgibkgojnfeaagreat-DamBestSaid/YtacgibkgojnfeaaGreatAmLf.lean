/- Computations of functions, and that the functions do them (printed by tools/lift.py). Conditions: none. -/
import Derived.Test.YtacgibkgojnfeaaGreatAmLf0
namespace Go.Proofs.YtacgibkgojnfeaaGreat.AM
set_option linter.unusedSimpArgs false
set_option linter.unusedVariables false
open Go Go.RowKit
attribute [local irreducible] ICallV ICalls Recast rng
/-- guidevane/guidevanelaw09.DamBest -/
noncomputable def f264 [LO]  (a0 : List (Int × Int × Int)) (a1 : Int) (a2 : Int) (a3 : Int) (a4 : Int) (a5 : Int) (a6 : Int) : Option Bool :=
  obnd (f10) fun (y1 : Bool) =>
  oite (!y1) (
   some false
    ) (
   obnd (
    obnd (f178 a0) fun (y8 : Bool) =>
    obnd (
     oite (!y8) (
      some true
       ) (
      obnd (f51 a0) fun (y13 : Int) =>
      some (!(ieq y13 (0 : Int)))
       )
      ) fun (r10 : Bool) =>
    oite r10 (
     some true
      ) (
     obnd (f52 a1) fun (y16 : Int) =>
     some (!(ieq y16 (0 : Int)))
      )
     ) fun (r4 : Bool) =>
   oite r4 (
    some true
     ) (
    obnd (f53 a0) fun (y19 : (List (Int × Int × Int))) =>
    obnd (f55 y19 a1) fun (y21 : Int × Int × Int × Int × Int × Int × Int) =>
    oite ((!(ieq y21.2.2.2.2.2.2 (0 : Int)))) (
     obnd (
      oite ((ieq y21.2.2.2.2.2.2 (12 : Int))) (
       some true
        ) (
       some (ieq y21.2.2.2.2.2.2 (8 : Int))
        )
       ) fun (r24 : Bool) =>
     some r24
      ) (
     obnd (f53 a0) fun (y27 : (List (Int × Int × Int))) =>
     obnd (f265 y27 a1 y21.1 y21.2.1 y21.2.2.1 y21.2.2.2.1 y21.2.2.2.2.1 y21.2.2.2.2.2.1) fun (y29 : Int × Int) =>
     obnd (
      obnd (
       oite ((!(ieq y29.2 (0 : Int)))) (
        some true
         ) (
        some (!(ieq y29.1 (0 : Int)))
         )
        ) fun (r35 : Bool) =>
      oite r35 (
       some true
        ) (
       obnd (f180 y21.1 y21.2.1 y21.2.2.1 y21.2.2.2.1 y21.2.2.2.2.1 y21.2.2.2.2.2.1) fun (y39 : Int) =>
       some (!(ieq y39 (0 : Int)))
        )
       ) fun (r31 : Bool) =>
     oite r31 (
      some false
       ) (
      obnd (
       obnd (
        obnd (
         oite ((ieq (IntKind.i64.wrap (BitVec.ofInt (IntKind.bits .i64) (a1.fdiv (2 ^ (min (0 : Int).toNat (IntKind.bits .i64)))) &&& BitVec.ofInt (IntKind.bits .i64) (1 : Int)).toNat) (1 : Int))) (
          obnd (f15 a2 (-100 : Int) (100 : Int)) fun (y55 : Bool) =>
          some y55
           ) (
          some false
           )
          ) fun (r50 : Bool) =>
        oite r50 (
         some (IntKind.i64.wrap (y21.2.1 + a2))
          ) (
         some y21.2.1
          )
         ) fun (r46 : Int) =>
       obnd (
        obnd (
         oite ((ieq (IntKind.i64.wrap (BitVec.ofInt (IntKind.bits .i64) (a1.fdiv (2 ^ (min (1 : Int).toNat (IntKind.bits .i64)))) &&& BitVec.ofInt (IntKind.bits .i64) (1 : Int)).toNat) (1 : Int))) (
          obnd (f15 a3 (-100 : Int) (100 : Int)) fun (y67 : Bool) =>
          some y67
           ) (
          some false
           )
          ) fun (r62 : Bool) =>
        oite r62 (
         some (IntKind.i64.wrap (y21.2.2.1 + a3))
          ) (
         some y21.2.2.1
          )
         ) fun (r58 : Int) =>
       obnd (
        obnd (
         oite ((ieq (IntKind.i64.wrap (BitVec.ofInt (IntKind.bits .i64) (a1.fdiv (2 ^ (min (2 : Int).toNat (IntKind.bits .i64)))) &&& BitVec.ofInt (IntKind.bits .i64) (1 : Int)).toNat) (1 : Int))) (
          obnd (f15 a4 (-100 : Int) (100 : Int)) fun (y79 : Bool) =>
          some y79
           ) (
          some false
           )
          ) fun (r74 : Bool) =>
        oite r74 (
         some (IntKind.i64.wrap (y21.2.2.2.1 + a4))
          ) (
         some y21.2.2.2.1
          )
         ) fun (r70 : Int) =>
       obnd (
        obnd (
         oite ((ieq (IntKind.i64.wrap (BitVec.ofInt (IntKind.bits .i64) (a1.fdiv (2 ^ (min (3 : Int).toNat (IntKind.bits .i64)))) &&& BitVec.ofInt (IntKind.bits .i64) (1 : Int)).toNat) (1 : Int))) (
          obnd (f15 a5 (-100 : Int) (100 : Int)) fun (y91 : Bool) =>
          some y91
           ) (
          some false
           )
          ) fun (r86 : Bool) =>
        oite r86 (
         some (IntKind.i64.wrap (y21.2.2.2.2.1 + a5))
          ) (
         some y21.2.2.2.2.1
          )
         ) fun (r82 : Int) =>
       obnd (
        obnd (
         oite ((ieq (IntKind.i64.wrap (BitVec.ofInt (IntKind.bits .i64) (a1.fdiv (2 ^ (min (4 : Int).toNat (IntKind.bits .i64)))) &&& BitVec.ofInt (IntKind.bits .i64) (1 : Int)).toNat) (1 : Int))) (
          obnd (f15 a6 (-100 : Int) (100 : Int)) fun (y103 : Bool) =>
          some y103
           ) (
          some false
           )
          ) fun (r98 : Bool) =>
        oite r98 (
         some (IntKind.i64.wrap (y21.2.2.2.2.2.1 + a6))
          ) (
         some y21.2.2.2.2.2.1
          )
         ) fun (r94 : Int) =>
       some (r46, r58, r70, r82, r94)
        ) fun (r42 : Int × Int × Int × Int × Int) =>
      obndS (
       obnd (
        oite ((!((ieq y21.1 y21.1) && (((ieq r42.1 y21.2.1) && ((ieq r42.2.1 y21.2.2.1) && ((ieq r42.2.2.1 y21.2.2.2.1) && ((ieq r42.2.2.2.1 y21.2.2.2.2.1) && ((ieq r42.2.2.2.2 y21.2.2.2.2.2.1) && true))))) && true)))) (
         obnd (f180 y21.1 r42.1 r42.2.1 r42.2.2.1 r42.2.2.2.1 r42.2.2.2.2) fun (y115 : Int) =>
         some (ieq y115 (0 : Int))
          ) (
         some false
          )
         ) fun (r110 : Bool) =>
       oite r110 (
        obnd (f53 a0) fun (y118 : (List (Int × Int × Int))) =>
        obnd (f265 y118 a1 y21.1 r42.1 r42.2.1 r42.2.2.1 r42.2.2.2.1 r42.2.2.2.2) fun (y120 : Int × Int) =>
        obnd (
         oite ((!(ieq y120.2 (19 : Int)))) (
          some (!(ieq y120.2 (3 : Int)))
           ) (
          some false
           )
          ) fun (r122 : Bool) =>
        oite r122 (
         some (.inr (false))
          ) (
         obnd (f269 a0 y21.1 y21.2.1 y21.2.2.1 y21.2.2.2.1 y21.2.2.2.2.1 y21.2.2.2.2.2.1) fun (y128 : Int × (List Int)) =>
         obnd (f269 a0 y21.1 r42.1 r42.2.1 r42.2.2.1 r42.2.2.2.1 r42.2.2.2.2) fun (y130 : Int × (List Int)) =>
         obnd (f268 y128.1 y128.2 y130.1 y130.2) fun (y132 : Int) =>
         oite ((ilt (0 : Int) y132)) (
          some (.inr (false))
           ) (
          some (.inl ())
           )
          )
         ) (
        some (.inl ())
         )
        ) fun (_ : Unit) =>
      obnd (f53s a0) fun (y136 : (List (Int × Int × Int))) =>
      obnd (
       oloop (τ := Int × (List (Int × Int × Int))) (ρ := (List (Int × Int × Int))) (fun e142 =>
        oite ((ilt e142.1 (y136.length : Int))) (
         ogrd ((ile 0 e142.1)) (
         obnd (e142.2[e142.1.toNat]?) fun (x147 : Int × Int × Int) =>
         obnd (f34 x147.1 x147.2.1 x147.2.2) fun (y149 : Int × Int × Int × Int × Int) =>
         obnd (
          obnd (
           obnd (
            oite ((ieq (IntKind.i64.wrap (BitVec.ofInt (IntKind.bits .i64) (a1.fdiv (2 ^ (min (0 : Int).toNat (IntKind.bits .i64)))) &&& BitVec.ofInt (IntKind.bits .i64) (1 : Int)).toNat) (1 : Int))) (
             obnd (f15 a2 (-10 : Int) (10 : Int)) fun (y164 : Bool) =>
             some y164
              ) (
             some false
              )
             ) fun (r159 : Bool) =>
           oite r159 (
            some (IntKind.i64.wrap ((0 : Int) + (IntKind.i64.wrap (a2 * y149.1))))
             ) (
            some (0 : Int)
             )
            ) fun (r155 : Int) =>
          obnd (
           obnd (
            oite ((ieq (IntKind.i64.wrap (BitVec.ofInt (IntKind.bits .i64) (a1.fdiv (2 ^ (min (1 : Int).toNat (IntKind.bits .i64)))) &&& BitVec.ofInt (IntKind.bits .i64) (1 : Int)).toNat) (1 : Int))) (
             obnd (f15 a3 (-10 : Int) (10 : Int)) fun (y176 : Bool) =>
             some y176
              ) (
             some false
              )
             ) fun (r171 : Bool) =>
           oite r171 (
            some (IntKind.i64.wrap (r155 + (IntKind.i64.wrap (a3 * y149.2.1))))
             ) (
            some r155
             )
            ) fun (r167 : Int) =>
          obnd (
           obnd (
            oite ((ieq (IntKind.i64.wrap (BitVec.ofInt (IntKind.bits .i64) (a1.fdiv (2 ^ (min (2 : Int).toNat (IntKind.bits .i64)))) &&& BitVec.ofInt (IntKind.bits .i64) (1 : Int)).toNat) (1 : Int))) (
             obnd (f15 a4 (-10 : Int) (10 : Int)) fun (y188 : Bool) =>
             some y188
              ) (
             some false
              )
             ) fun (r183 : Bool) =>
           oite r183 (
            some (IntKind.i64.wrap (r167 + (IntKind.i64.wrap (a4 * y149.2.2.1))))
             ) (
            some r167
             )
            ) fun (r179 : Int) =>
          obnd (
           obnd (
            oite ((ieq (IntKind.i64.wrap (BitVec.ofInt (IntKind.bits .i64) (a1.fdiv (2 ^ (min (3 : Int).toNat (IntKind.bits .i64)))) &&& BitVec.ofInt (IntKind.bits .i64) (1 : Int)).toNat) (1 : Int))) (
             obnd (f15 a5 (-10 : Int) (10 : Int)) fun (y200 : Bool) =>
             some y200
              ) (
             some false
              )
             ) fun (r195 : Bool) =>
           oite r195 (
            some (IntKind.i64.wrap (r179 + (IntKind.i64.wrap (a5 * y149.2.2.2.1))))
             ) (
            some r179
             )
            ) fun (r191 : Int) =>
          obnd (
           obnd (
            oite ((ieq (IntKind.i64.wrap (BitVec.ofInt (IntKind.bits .i64) (a1.fdiv (2 ^ (min (4 : Int).toNat (IntKind.bits .i64)))) &&& BitVec.ofInt (IntKind.bits .i64) (1 : Int)).toNat) (1 : Int))) (
             obnd (f15 a6 (-10 : Int) (10 : Int)) fun (y212 : Bool) =>
             some y212
              ) (
             some false
              )
             ) fun (r207 : Bool) =>
           oite r207 (
            some (IntKind.i64.wrap (r191 + (IntKind.i64.wrap (a6 * y149.2.2.2.2))))
             ) (
            some r191
             )
            ) fun (r203 : Int) =>
          some r203
           ) fun (r151 : Int) =>
         some (.inl (((IntKind.i64.wrap (e142.1 + (1 : Int))), (e142.2.set e142.1.toNat (x147.1, x147.2.1, r151)))))
         )
          ) (
         oinr (
           ogrd (Nat.beq y136.length e142.2.length) (
           some e142.2
           )
           )
          )
         ) ((0 : Int), y136)
        ) fun (r138 : (List (Int × Int × Int))) =>
      obnd (f51 r138) fun (y218 : Int) =>
      oite ((!(ieq y218 (0 : Int)))) (
       some true
        ) (
       obnd (f53 r138) fun (y221 : (List (Int × Int × Int))) =>
       obnd (f55 y221 a1) fun (y223 : Int × Int × Int × Int × Int × Int × Int) =>
       obnd (
        oite ((!(ieq y223.2.2.2.2.2.2 (0 : Int)))) (
         some true
          ) (
         obnd (f180 y223.1 y223.2.1 y223.2.2.1 y223.2.2.2.1 y223.2.2.2.2.1 y223.2.2.2.2.2.1) fun (y230 : Int) =>
         some (!(ieq y230 (0 : Int)))
          )
         ) fun (r225 : Bool) =>
       oite r225 (
        some false
         ) (
        obnd (f57 r138 y223.1 y223.2.1 y223.2.2.1 y223.2.2.2.1 y223.2.2.2.2.1 y223.2.2.2.2.2.1) fun (y233 : Int × Int) =>
        obnd (
         oite ((ieq y233.2 (0 : Int))) (
          some (ieq y233.1 (0 : Int))
           ) (
          some false
           )
          ) fun (r235 : Bool) =>
        some r235
         )
        )
       )
      )
     )
    )
set_option maxHeartbeats 1000000 in
theorem c264 [LO]  {a0 : List (Int × Int × Int)} {a1 : Int} {a2 : Int} {a3 : Int} {a4 : Int} {a5 : Int} {a6 : Int} {x : Bool} (H : f264 a0 a1 a2 a3 a4 a5 a6 = some x) : ICalls E 264 [(VS 3 (a0.map e_III)), (.int .i64 a1), (.agg ⟨[(.int .i64 a2), (.int .i64 a3), (.int .i64 a4), (.int .i64 a5), (.int .i64 a6)]⟩)] AHeap.none fun v _ => v = (.bool x) := by
  refine icalls_fn (pfnw ?_); unfold f264 at H;(conv=>whnf);refine pwa ?_;(conv=>whnf);refine pw_seq ?_;refine pwa ?_;(conv=>whnf);obtain ⟨y1, h2, H⟩ := obnd_some H;refine (c10 h2).go ?_;(conv=>whnf);refine pw_cond ?_;(conv=>whnf);refine pbr_oite H (fun g3 H => ?_) (fun g3 H => ?_)
  · (conv=>whnf);refine pwa ?_;(conv=>whnf);refine pw_ret ?_;(conv=>whnf);cases H; rfl
  · (conv=>whnf);refine pw_skip ?_;(conv=>whnf);refine pw_seq ?_;obtain ⟨r4, h5, H⟩ := obnd_some H;refine pw_join (ρ := Bool) (fun e => ⟨[(0, (VS 3 (a0.map e_III))), (1, (.int .i64 a1)), (5, (.pointer (some ⟨0, 0, none⟩))), (38, (.bool e))], ⟨1, [(0, .rw [(.int .i64 a2), (.int .i64 a3), (.int .i64 a4), (.int .i64 a5), (.int .i64 a6)])], false⟩⟩) r4 ?_ ?_
    · refine pw_ops ?_;refine po_ops 4 ?_;(conv=>whnf);obtain ⟨y8, h9, h5⟩ := obnd_some h5;refine (c178 h9).go ?_;(conv=>whnf);obtain ⟨r10, h11, h5⟩ := obnd_some h5;refine po_seg (τ := Bool) 4 (fun e => ⟨[(0, (VS 3 (a0.map e_III))), (1, (.int .i64 a1)), (5, (.pointer (some ⟨0, 0, none⟩))), (33, (.bool e))], ⟨1, [(0, .rw [(.int .i64 a2), (.int .i64 a3), (.int .i64 a4), (.int .i64 a5), (.int .i64 a6)])], false⟩⟩) r10 ?_ ?_
      · refine po_all ?_;(conv=>whnf);refine pbr_oite h11 (fun g12 h11 => ?_) (fun g12 h11 => ?_)
        · (conv=>whnf);(iterate 3 refine pbr_t g12 ?_;(conv=>whnf));cases h11;exact ⟨(.cons rfl (.cons rfl (.cons rfl (.cons rfl .nil)))), rfl⟩
        · (conv=>whnf);refine pbr_f g12 ?_;(conv=>whnf);obtain ⟨y13, h14, h11⟩ := obnd_some h11;refine (c51 h14).go ?_;(conv=>whnf);refine pbr_f g12 ?_;(conv=>whnf);refine pbr_f g12 ?_;(conv=>whnf);cases h11;exact ⟨(.cons rfl (.cons rfl (.cons rfl (.cons rfl .nil)))), rfl⟩
      · refine po_all ?_;(conv=>whnf);refine pbr_oite h5 (fun g15 h5 => ?_) (fun g15 h5 => ?_)
        · (conv=>whnf);(iterate 3 refine pbr_t g15 ?_;(conv=>whnf));cases h5;exact ⟨(.cons rfl (.cons rfl (.cons rfl (.cons rfl .nil)))), rfl⟩
        · (conv=>whnf);refine pbr_f g15 ?_;(conv=>whnf);obtain ⟨y16, h17, h5⟩ := obnd_some h5;refine (c52 h17).go ?_;(conv=>whnf);refine pbr_f g15 ?_;(conv=>whnf);refine pbr_f g15 ?_;(conv=>whnf);cases h5;exact ⟨(.cons rfl (.cons rfl (.cons rfl (.cons rfl .nil)))), rfl⟩
    · refine pw_cond ?_;(conv=>whnf);refine pbr_oite H (fun g18 H => ?_) (fun g18 H => ?_)
      · (conv=>whnf);refine pwa ?_;(conv=>whnf);refine pw_ret ?_;(conv=>whnf);cases H; rfl
      · (conv=>whnf);refine pw_skip ?_;(conv=>whnf);refine pwa ?_;(conv=>whnf);obtain ⟨y19, h20, H⟩ := obnd_some H;refine (c53 h20).go ?_;(conv=>whnf);obtain ⟨y21, h22, H⟩ := obnd_some H;refine (c55 h22).go ?_;(conv=>whnf);refine pw_seq ?_;refine pwa ?_;(conv=>whnf);refine pw_cond ?_;(conv=>whnf);refine pbr_oite H (fun g23 H => ?_) (fun g23 H => ?_)
        · (conv=>whnf);refine pw_so ?_;refine po_ops 3 ?_;(conv=>whnf);obtain ⟨r24, h25, H⟩ := obnd_some H;refine po_seg (τ := Bool) 3 (fun e => ⟨[(53, (.bool e))], ⟨2, [(1, .rw [(.int .i64 y21.1), (.int .i64 y21.2.1), (.int .i64 y21.2.2.1), (.int .i64 y21.2.2.2.1), (.int .i64 y21.2.2.2.2.1), (.int .i64 y21.2.2.2.2.2.1)]), (0, .rw [(.int .i64 a2), (.int .i64 a3), (.int .i64 a4), (.int .i64 a5), (.int .i64 a6)])], false⟩⟩) r24 ?_ ?_
          · refine po_all ?_;(conv=>whnf);refine pbr_oite h25 (fun g26 h25 => ?_) (fun g26 h25 => ?_)
            · (conv=>whnf);refine pbr_t g26 ?_;(conv=>whnf);refine pbr_t g26 ?_;(conv=>whnf);cases h25;exact ⟨(.cons rfl .nil), rfl⟩
            · (conv=>whnf);refine pbr_f g26 ?_;(conv=>whnf);refine pbr_f g26 ?_;(conv=>whnf);cases h25;exact ⟨(.cons rfl .nil), rfl⟩
          · refine po_all ?_;(conv=>whnf);refine pw_ret ?_;(conv=>whnf);cases H; rfl
        · (conv=>whnf);refine pw_skip ?_;(conv=>whnf);refine pw_seq ?_;refine pw_sd ?_;(conv=>whnf);refine ⟨?_, trivial⟩;(conv=>whnf);obtain ⟨y27, h28, H⟩ := obnd_some H;refine (c53 h28).go ?_;(conv=>whnf);refine ⟨by repeat (first | exact trivial | refine And.intro rfl ?_), ?_⟩;(conv=>whnf);refine ⟨?_, trivial⟩;(conv=>whnf);obtain ⟨y29, h30, H⟩ := obnd_some H;refine (c265 h30).go ?_;(conv=>whnf);refine ⟨by repeat (first | exact trivial | refine And.intro rfl ?_), ?_⟩;(conv=>whnf);obtain ⟨r31, h32, H⟩ := obnd_some H;refine pw_join (ρ := Bool) (fun e => ⟨[(0, (VS 3 (a0.map e_III))), (1, (.int .i64 a1)), (5, (.pointer (some ⟨0, 0, none⟩))), (7, (.pointer (some ⟨1, 0, none⟩))), (72, (.bool e))], ⟨2, [(1, .rw [(.int .i64 y21.1), (.int .i64 y21.2.1), (.int .i64 y21.2.2.1), (.int .i64 y21.2.2.2.1), (.int .i64 y21.2.2.2.2.1), (.int .i64 y21.2.2.2.2.2.1)]), (0, .rw [(.int .i64 a2), (.int .i64 a3), (.int .i64 a4), (.int .i64 a5), (.int .i64 a6)])], false⟩⟩) r31 ?_ ?_
          · refine pw_ops ?_;refine po_ops 3 ?_;(conv=>whnf);obtain ⟨r35, h36, h32⟩ := obnd_some h32;refine po_seg (τ := Bool) 3 (fun e => ⟨[(0, (VS 3 (a0.map e_III))), (1, (.int .i64 a1)), (5, (.pointer (some ⟨0, 0, none⟩))), (7, (.pointer (some ⟨1, 0, none⟩))), (67, (.bool e))], ⟨2, [(1, .rw [(.int .i64 y21.1), (.int .i64 y21.2.1), (.int .i64 y21.2.2.1), (.int .i64 y21.2.2.2.1), (.int .i64 y21.2.2.2.2.1), (.int .i64 y21.2.2.2.2.2.1)]), (0, .rw [(.int .i64 a2), (.int .i64 a3), (.int .i64 a4), (.int .i64 a5), (.int .i64 a6)])], false⟩⟩) r35 ?_ ?_
            · refine po_all ?_;(conv=>whnf);refine pbr_oite h36 (fun g37 h36 => ?_) (fun g37 h36 => ?_)
              · (conv=>whnf);refine pbr_t g37 ?_;(conv=>whnf);refine pbr_t g37 ?_;(conv=>whnf);cases h36;exact ⟨(.cons rfl (.cons rfl (.cons rfl (.cons rfl (.cons rfl .nil))))), rfl⟩
              · (conv=>whnf);refine pbr_f g37 ?_;(conv=>whnf);refine pbr_f g37 ?_;(conv=>whnf);cases h36;exact ⟨(.cons rfl (.cons rfl (.cons rfl (.cons rfl (.cons rfl .nil))))), rfl⟩
            · refine po_all ?_;(conv=>whnf);refine pbr_oite h32 (fun g38 h32 => ?_) (fun g38 h32 => ?_)
              · (conv=>whnf);(iterate 3 refine pbr_t g38 ?_;(conv=>whnf));cases h32;exact ⟨(.cons rfl (.cons rfl (.cons rfl (.cons rfl (.cons rfl .nil))))), rfl⟩
              · (conv=>whnf);refine pbr_f g38 ?_;(conv=>whnf);obtain ⟨y39, h40, h32⟩ := obnd_some h32;refine (c180 h40).go ?_;(conv=>whnf);refine pbr_f g38 ?_;(conv=>whnf);refine pbr_f g38 ?_;(conv=>whnf);cases h32;exact ⟨(.cons rfl (.cons rfl (.cons rfl (.cons rfl (.cons rfl .nil))))), rfl⟩
          · refine pw_cond ?_;(conv=>whnf);refine pbr_oite H (fun g41 H => ?_) (fun g41 H => ?_)
            · (conv=>whnf);refine pwa ?_;(conv=>whnf);refine pw_ret ?_;(conv=>whnf);cases H; rfl
            · (conv=>whnf);refine pw_skip ?_;(conv=>whnf);refine pwa ?_;(conv=>whnf);obtain ⟨r42, h43, H⟩ := obnd_some H;refine pw_join (ρ := Int × Int × Int × Int × Int) (fun e => ⟨[(0, (VS 3 (a0.map e_III))), (1, (.int .i64 a1)), (5, (.pointer (some ⟨0, 0, none⟩))), (7, (.pointer (some ⟨1, 0, none⟩))), (11, (.pointer (some ⟨2, 0, none⟩)))], ⟨3, [(2, .rw [(.int .i64 y21.1), (.int .i64 e.1), (.int .i64 e.2.1), (.int .i64 e.2.2.1), (.int .i64 e.2.2.2.1), (.int .i64 e.2.2.2.2)]), (1, .rw [(.int .i64 y21.1), (.int .i64 y21.2.1), (.int .i64 y21.2.2.1), (.int .i64 y21.2.2.2.1), (.int .i64 y21.2.2.2.2.1), (.int .i64 y21.2.2.2.2.2.1)]), (0, .rw [(.int .i64 a2), (.int .i64 a3), (.int .i64 a4), (.int .i64 a5), (.int .i64 a6)])], false⟩⟩) r42 ?_ ?_
              · refine pwa ?_;(conv=>whnf);refine pw_block ?_;refine pw_unroll 6 ?_;(conv=>whnf);refine pw_seq ?_;refine pwa ?_;(conv=>whnf);refine pw_cond ?_;(conv=>whnf);refine pw_skip ?_;(conv=>whnf);obtain ⟨r46, h47, h43⟩ := obnd_some h43;refine pw_join (ρ := Int) (fun e => ⟨[(0, (VS 3 (a0.map e_III))), (1, (.int .i64 a1)), (5, (.pointer (some ⟨0, 0, none⟩))), (7, (.pointer (some ⟨1, 0, none⟩))), (11, (.pointer (some ⟨2, 0, none⟩))), (12, (.int .i64 0))], ⟨3, [(2, .rw [(.int .i64 y21.1), (.int .i64 e), (.int .i64 y21.2.2.1), (.int .i64 y21.2.2.2.1), (.int .i64 y21.2.2.2.2.1), (.int .i64 y21.2.2.2.2.2.1)]), (1, .rw [(.int .i64 y21.1), (.int .i64 y21.2.1), (.int .i64 y21.2.2.1), (.int .i64 y21.2.2.2.1), (.int .i64 y21.2.2.2.2.1), (.int .i64 y21.2.2.2.2.2.1)]), (0, .rw [(.int .i64 a2), (.int .i64 a3), (.int .i64 a4), (.int .i64 a5), (.int .i64 a6)])], false⟩⟩) r46 ?_ ?_
                · refine pw_block ?_;obtain ⟨r50, h51, h47⟩ := obnd_some h47;refine pw_join (ρ := Bool) (fun e => ⟨[(0, (VS 3 (a0.map e_III))), (1, (.int .i64 a1)), (5, (.pointer (some ⟨0, 0, none⟩))), (7, (.pointer (some ⟨1, 0, none⟩))), (11, (.pointer (some ⟨2, 0, none⟩))), (12, (.int .i64 0)), (88, (.bool e))], ⟨3, [(2, .rw [(.int .i64 y21.1), (.int .i64 y21.2.1), (.int .i64 y21.2.2.1), (.int .i64 y21.2.2.2.1), (.int .i64 y21.2.2.2.2.1), (.int .i64 y21.2.2.2.2.2.1)]), (1, .rw [(.int .i64 y21.1), (.int .i64 y21.2.1), (.int .i64 y21.2.2.1), (.int .i64 y21.2.2.2.1), (.int .i64 y21.2.2.2.2.1), (.int .i64 y21.2.2.2.2.2.1)]), (0, .rw [(.int .i64 a2), (.int .i64 a3), (.int .i64 a4), (.int .i64 a5), (.int .i64 a6)])], false⟩⟩) r50 ?_ ?_
                  · refine pw_ops ?_;refine po_all ?_;(conv=>whnf);refine pbr_oite h51 (fun g54 h51 => ?_) (fun g54 h51 => ?_)
                    · (conv=>whnf);(iterate 3 refine pbr_t g54 ?_;(conv=>whnf));obtain ⟨y55, h56, h51⟩ := obnd_some h51;refine (c15 h56).go ?_;(conv=>whnf);refine pbr_t g54 ?_;(conv=>whnf);cases h51;exact ⟨(.cons rfl (.cons rfl (.cons rfl (.cons rfl (.cons rfl (.cons rfl (.cons rfl .nil))))))), rfl⟩
                    · (conv=>whnf);(iterate 4 refine pbr_f g54 ?_;(conv=>whnf));cases h51;exact ⟨(.cons rfl (.cons rfl (.cons rfl (.cons rfl (.cons rfl (.cons rfl (.cons rfl .nil))))))), rfl⟩
                  · refine pw_cond ?_;(conv=>whnf);refine pbr_oite h47 (fun g57 h47 => ?_) (fun g57 h47 => ?_)
                    · (conv=>whnf);refine pw_draw ?_;(conv=>whnf);refine ⟨?_, trivial⟩;(conv=>whnf);refine ⟨by repeat (first | exact trivial | refine And.intro rfl ?_), ?_⟩;(conv=>whnf);cases h47;exact ⟨(.cons rfl (.cons rfl (.cons rfl (.cons rfl (.cons rfl (.cons rfl .nil)))))), rfl⟩
                    · (conv=>whnf);refine pw_skip ?_;(conv=>whnf);cases h47;exact ⟨(.cons rfl (.cons rfl (.cons rfl (.cons rfl (.cons rfl (.cons rfl .nil)))))), rfl⟩
                · refine pw_ops ?_;refine po_all ?_;(conv=>whnf);refine ⟨_, .refl, nl rfl, ?_⟩;(conv=>whnf);refine pw_seq ?_;refine pwa ?_;(conv=>whnf);refine pw_cond ?_;(conv=>whnf);refine pw_skip ?_;(conv=>whnf);obtain ⟨r58, h59, h43⟩ := obnd_some h43;refine pw_join (ρ := Int) (fun e => ⟨[(0, (VS 3 (a0.map e_III))), (1, (.int .i64 a1)), (5, (.pointer (some ⟨0, 0, none⟩))), (7, (.pointer (some ⟨1, 0, none⟩))), (11, (.pointer (some ⟨2, 0, none⟩))), (12, (.int .i64 1))], ⟨3, [(2, .rw [(.int .i64 y21.1), (.int .i64 r46), (.int .i64 e), (.int .i64 y21.2.2.2.1), (.int .i64 y21.2.2.2.2.1), (.int .i64 y21.2.2.2.2.2.1)]), (1, .rw [(.int .i64 y21.1), (.int .i64 y21.2.1), (.int .i64 y21.2.2.1), (.int .i64 y21.2.2.2.1), (.int .i64 y21.2.2.2.2.1), (.int .i64 y21.2.2.2.2.2.1)]), (0, .rw [(.int .i64 a2), (.int .i64 a3), (.int .i64 a4), (.int .i64 a5), (.int .i64 a6)])], false⟩⟩) r58 ?_ ?_
                  · refine pw_block ?_;obtain ⟨r62, h63, h59⟩ := obnd_some h59;refine pw_join (ρ := Bool) (fun e => ⟨[(0, (VS 3 (a0.map e_III))), (1, (.int .i64 a1)), (5, (.pointer (some ⟨0, 0, none⟩))), (7, (.pointer (some ⟨1, 0, none⟩))), (11, (.pointer (some ⟨2, 0, none⟩))), (12, (.int .i64 1)), (88, (.bool e))], ⟨3, [(2, .rw [(.int .i64 y21.1), (.int .i64 r46), (.int .i64 y21.2.2.1), (.int .i64 y21.2.2.2.1), (.int .i64 y21.2.2.2.2.1), (.int .i64 y21.2.2.2.2.2.1)]), (1, .rw [(.int .i64 y21.1), (.int .i64 y21.2.1), (.int .i64 y21.2.2.1), (.int .i64 y21.2.2.2.1), (.int .i64 y21.2.2.2.2.1), (.int .i64 y21.2.2.2.2.2.1)]), (0, .rw [(.int .i64 a2), (.int .i64 a3), (.int .i64 a4), (.int .i64 a5), (.int .i64 a6)])], false⟩⟩) r62 ?_ ?_
                    · refine pw_ops ?_;refine po_all ?_;(conv=>whnf);refine pbr_oite h63 (fun g66 h63 => ?_) (fun g66 h63 => ?_)
                      · (conv=>whnf);(iterate 3 refine pbr_t g66 ?_;(conv=>whnf));obtain ⟨y67, h68, h63⟩ := obnd_some h63;refine (c15 h68).go ?_;(conv=>whnf);refine pbr_t g66 ?_;(conv=>whnf);cases h63;exact ⟨(.cons rfl (.cons rfl (.cons rfl (.cons rfl (.cons rfl (.cons rfl (.cons rfl .nil))))))), rfl⟩
                      · (conv=>whnf);(iterate 4 refine pbr_f g66 ?_;(conv=>whnf));cases h63;exact ⟨(.cons rfl (.cons rfl (.cons rfl (.cons rfl (.cons rfl (.cons rfl (.cons rfl .nil))))))), rfl⟩
                    · refine pw_cond ?_;(conv=>whnf);refine pbr_oite h59 (fun g69 h59 => ?_) (fun g69 h59 => ?_)
                      · (conv=>whnf);refine pw_draw ?_;(conv=>whnf);refine ⟨?_, trivial⟩;(conv=>whnf);refine ⟨by repeat (first | exact trivial | refine And.intro rfl ?_), ?_⟩;(conv=>whnf);cases h59;exact ⟨(.cons rfl (.cons rfl (.cons rfl (.cons rfl (.cons rfl (.cons rfl .nil)))))), rfl⟩
                      · (conv=>whnf);refine pw_skip ?_;(conv=>whnf);cases h59;exact ⟨(.cons rfl (.cons rfl (.cons rfl (.cons rfl (.cons rfl (.cons rfl .nil)))))), rfl⟩
                  · refine pw_ops ?_;refine po_all ?_;(conv=>whnf);refine ⟨_, .refl, nl rfl, ?_⟩;(conv=>whnf);refine pw_seq ?_;refine pwa ?_;(conv=>whnf);refine pw_cond ?_;(conv=>whnf);refine pw_skip ?_;(conv=>whnf);obtain ⟨r70, h71, h43⟩ := obnd_some h43;refine pw_join (ρ := Int) (fun e => ⟨[(0, (VS 3 (a0.map e_III))), (1, (.int .i64 a1)), (5, (.pointer (some ⟨0, 0, none⟩))), (7, (.pointer (some ⟨1, 0, none⟩))), (11, (.pointer (some ⟨2, 0, none⟩))), (12, (.int .i64 2))], ⟨3, [(2, .rw [(.int .i64 y21.1), (.int .i64 r46), (.int .i64 r58), (.int .i64 e), (.int .i64 y21.2.2.2.2.1), (.int .i64 y21.2.2.2.2.2.1)]), (1, .rw [(.int .i64 y21.1), (.int .i64 y21.2.1), (.int .i64 y21.2.2.1), (.int .i64 y21.2.2.2.1), (.int .i64 y21.2.2.2.2.1), (.int .i64 y21.2.2.2.2.2.1)]), (0, .rw [(.int .i64 a2), (.int .i64 a3), (.int .i64 a4), (.int .i64 a5), (.int .i64 a6)])], false⟩⟩) r70 ?_ ?_
                    · refine pw_block ?_;obtain ⟨r74, h75, h71⟩ := obnd_some h71;refine pw_join (ρ := Bool) (fun e => ⟨[(0, (VS 3 (a0.map e_III))), (1, (.int .i64 a1)), (5, (.pointer (some ⟨0, 0, none⟩))), (7, (.pointer (some ⟨1, 0, none⟩))), (11, (.pointer (some ⟨2, 0, none⟩))), (12, (.int .i64 2)), (88, (.bool e))], ⟨3, [(2, .rw [(.int .i64 y21.1), (.int .i64 r46), (.int .i64 r58), (.int .i64 y21.2.2.2.1), (.int .i64 y21.2.2.2.2.1), (.int .i64 y21.2.2.2.2.2.1)]), (1, .rw [(.int .i64 y21.1), (.int .i64 y21.2.1), (.int .i64 y21.2.2.1), (.int .i64 y21.2.2.2.1), (.int .i64 y21.2.2.2.2.1), (.int .i64 y21.2.2.2.2.2.1)]), (0, .rw [(.int .i64 a2), (.int .i64 a3), (.int .i64 a4), (.int .i64 a5), (.int .i64 a6)])], false⟩⟩) r74 ?_ ?_
                      · refine pw_ops ?_;refine po_all ?_;(conv=>whnf);refine pbr_oite h75 (fun g78 h75 => ?_) (fun g78 h75 => ?_)
                        · (conv=>whnf);(iterate 3 refine pbr_t g78 ?_;(conv=>whnf));obtain ⟨y79, h80, h75⟩ := obnd_some h75;refine (c15 h80).go ?_;(conv=>whnf);refine pbr_t g78 ?_;(conv=>whnf);cases h75;exact ⟨(.cons rfl (.cons rfl (.cons rfl (.cons rfl (.cons rfl (.cons rfl (.cons rfl .nil))))))), rfl⟩
                        · (conv=>whnf);(iterate 4 refine pbr_f g78 ?_;(conv=>whnf));cases h75;exact ⟨(.cons rfl (.cons rfl (.cons rfl (.cons rfl (.cons rfl (.cons rfl (.cons rfl .nil))))))), rfl⟩
                      · refine pw_cond ?_;(conv=>whnf);refine pbr_oite h71 (fun g81 h71 => ?_) (fun g81 h71 => ?_)
                        · (conv=>whnf);refine pw_draw ?_;(conv=>whnf);refine ⟨?_, trivial⟩;(conv=>whnf);refine ⟨by repeat (first | exact trivial | refine And.intro rfl ?_), ?_⟩;(conv=>whnf);cases h71;exact ⟨(.cons rfl (.cons rfl (.cons rfl (.cons rfl (.cons rfl (.cons rfl .nil)))))), rfl⟩
                        · (conv=>whnf);refine pw_skip ?_;(conv=>whnf);cases h71;exact ⟨(.cons rfl (.cons rfl (.cons rfl (.cons rfl (.cons rfl (.cons rfl .nil)))))), rfl⟩
                    · refine pw_ops ?_;refine po_all ?_;(conv=>whnf);refine ⟨_, .refl, nl rfl, ?_⟩;(conv=>whnf);refine pw_seq ?_;refine pwa ?_;(conv=>whnf);refine pw_cond ?_;(conv=>whnf);refine pw_skip ?_;(conv=>whnf);obtain ⟨r82, h83, h43⟩ := obnd_some h43;refine pw_join (ρ := Int) (fun e => ⟨[(0, (VS 3 (a0.map e_III))), (1, (.int .i64 a1)), (5, (.pointer (some ⟨0, 0, none⟩))), (7, (.pointer (some ⟨1, 0, none⟩))), (11, (.pointer (some ⟨2, 0, none⟩))), (12, (.int .i64 3))], ⟨3, [(2, .rw [(.int .i64 y21.1), (.int .i64 r46), (.int .i64 r58), (.int .i64 r70), (.int .i64 e), (.int .i64 y21.2.2.2.2.2.1)]), (1, .rw [(.int .i64 y21.1), (.int .i64 y21.2.1), (.int .i64 y21.2.2.1), (.int .i64 y21.2.2.2.1), (.int .i64 y21.2.2.2.2.1), (.int .i64 y21.2.2.2.2.2.1)]), (0, .rw [(.int .i64 a2), (.int .i64 a3), (.int .i64 a4), (.int .i64 a5), (.int .i64 a6)])], false⟩⟩) r82 ?_ ?_
                      · refine pw_block ?_;obtain ⟨r86, h87, h83⟩ := obnd_some h83;refine pw_join (ρ := Bool) (fun e => ⟨[(0, (VS 3 (a0.map e_III))), (1, (.int .i64 a1)), (5, (.pointer (some ⟨0, 0, none⟩))), (7, (.pointer (some ⟨1, 0, none⟩))), (11, (.pointer (some ⟨2, 0, none⟩))), (12, (.int .i64 3)), (88, (.bool e))], ⟨3, [(2, .rw [(.int .i64 y21.1), (.int .i64 r46), (.int .i64 r58), (.int .i64 r70), (.int .i64 y21.2.2.2.2.1), (.int .i64 y21.2.2.2.2.2.1)]), (1, .rw [(.int .i64 y21.1), (.int .i64 y21.2.1), (.int .i64 y21.2.2.1), (.int .i64 y21.2.2.2.1), (.int .i64 y21.2.2.2.2.1), (.int .i64 y21.2.2.2.2.2.1)]), (0, .rw [(.int .i64 a2), (.int .i64 a3), (.int .i64 a4), (.int .i64 a5), (.int .i64 a6)])], false⟩⟩) r86 ?_ ?_
                        · refine pw_ops ?_;refine po_all ?_;(conv=>whnf);refine pbr_oite h87 (fun g90 h87 => ?_) (fun g90 h87 => ?_)
                          · (conv=>whnf);(iterate 3 refine pbr_t g90 ?_;(conv=>whnf));obtain ⟨y91, h92, h87⟩ := obnd_some h87;refine (c15 h92).go ?_;(conv=>whnf);refine pbr_t g90 ?_;(conv=>whnf);cases h87;exact ⟨(.cons rfl (.cons rfl (.cons rfl (.cons rfl (.cons rfl (.cons rfl (.cons rfl .nil))))))), rfl⟩
                          · (conv=>whnf);(iterate 4 refine pbr_f g90 ?_;(conv=>whnf));cases h87;exact ⟨(.cons rfl (.cons rfl (.cons rfl (.cons rfl (.cons rfl (.cons rfl (.cons rfl .nil))))))), rfl⟩
                        · refine pw_cond ?_;(conv=>whnf);refine pbr_oite h83 (fun g93 h83 => ?_) (fun g93 h83 => ?_)
                          · (conv=>whnf);refine pw_draw ?_;(conv=>whnf);refine ⟨?_, trivial⟩;(conv=>whnf);refine ⟨by repeat (first | exact trivial | refine And.intro rfl ?_), ?_⟩;(conv=>whnf);cases h83;exact ⟨(.cons rfl (.cons rfl (.cons rfl (.cons rfl (.cons rfl (.cons rfl .nil)))))), rfl⟩
                          · (conv=>whnf);refine pw_skip ?_;(conv=>whnf);cases h83;exact ⟨(.cons rfl (.cons rfl (.cons rfl (.cons rfl (.cons rfl (.cons rfl .nil)))))), rfl⟩
                      · refine pw_ops ?_;refine po_all ?_;(conv=>whnf);refine ⟨_, .refl, nl rfl, ?_⟩;(conv=>whnf);refine pw_seq ?_;refine pwa ?_;(conv=>whnf);refine pw_cond ?_;(conv=>whnf);refine pw_skip ?_;(conv=>whnf);obtain ⟨r94, h95, h43⟩ := obnd_some h43;refine pw_join (ρ := Int) (fun e => ⟨[(0, (VS 3 (a0.map e_III))), (1, (.int .i64 a1)), (5, (.pointer (some ⟨0, 0, none⟩))), (7, (.pointer (some ⟨1, 0, none⟩))), (11, (.pointer (some ⟨2, 0, none⟩))), (12, (.int .i64 4))], ⟨3, [(2, .rw [(.int .i64 y21.1), (.int .i64 r46), (.int .i64 r58), (.int .i64 r70), (.int .i64 r82), (.int .i64 e)]), (1, .rw [(.int .i64 y21.1), (.int .i64 y21.2.1), (.int .i64 y21.2.2.1), (.int .i64 y21.2.2.2.1), (.int .i64 y21.2.2.2.2.1), (.int .i64 y21.2.2.2.2.2.1)]), (0, .rw [(.int .i64 a2), (.int .i64 a3), (.int .i64 a4), (.int .i64 a5), (.int .i64 a6)])], false⟩⟩) r94 ?_ ?_
                        · refine pw_block ?_;obtain ⟨r98, h99, h95⟩ := obnd_some h95;refine pw_join (ρ := Bool) (fun e => ⟨[(0, (VS 3 (a0.map e_III))), (1, (.int .i64 a1)), (5, (.pointer (some ⟨0, 0, none⟩))), (7, (.pointer (some ⟨1, 0, none⟩))), (11, (.pointer (some ⟨2, 0, none⟩))), (12, (.int .i64 4)), (88, (.bool e))], ⟨3, [(2, .rw [(.int .i64 y21.1), (.int .i64 r46), (.int .i64 r58), (.int .i64 r70), (.int .i64 r82), (.int .i64 y21.2.2.2.2.2.1)]), (1, .rw [(.int .i64 y21.1), (.int .i64 y21.2.1), (.int .i64 y21.2.2.1), (.int .i64 y21.2.2.2.1), (.int .i64 y21.2.2.2.2.1), (.int .i64 y21.2.2.2.2.2.1)]), (0, .rw [(.int .i64 a2), (.int .i64 a3), (.int .i64 a4), (.int .i64 a5), (.int .i64 a6)])], false⟩⟩) r98 ?_ ?_
                          · refine pw_ops ?_;refine po_all ?_;(conv=>whnf);refine pbr_oite h99 (fun g102 h99 => ?_) (fun g102 h99 => ?_)
                            · (conv=>whnf);(iterate 3 refine pbr_t g102 ?_;(conv=>whnf));obtain ⟨y103, h104, h99⟩ := obnd_some h99;refine (c15 h104).go ?_;(conv=>whnf);refine pbr_t g102 ?_;(conv=>whnf);cases h99;exact ⟨(.cons rfl (.cons rfl (.cons rfl (.cons rfl (.cons rfl (.cons rfl (.cons rfl .nil))))))), rfl⟩
                            · (conv=>whnf);(iterate 4 refine pbr_f g102 ?_;(conv=>whnf));cases h99;exact ⟨(.cons rfl (.cons rfl (.cons rfl (.cons rfl (.cons rfl (.cons rfl (.cons rfl .nil))))))), rfl⟩
                          · refine pw_cond ?_;(conv=>whnf);refine pbr_oite h95 (fun g105 h95 => ?_) (fun g105 h95 => ?_)
                            · (conv=>whnf);refine pw_draw ?_;(conv=>whnf);refine ⟨?_, trivial⟩;(conv=>whnf);refine ⟨by repeat (first | exact trivial | refine And.intro rfl ?_), ?_⟩;(conv=>whnf);cases h95;exact ⟨(.cons rfl (.cons rfl (.cons rfl (.cons rfl (.cons rfl (.cons rfl .nil)))))), rfl⟩
                            · (conv=>whnf);refine pw_skip ?_;(conv=>whnf);cases h95;exact ⟨(.cons rfl (.cons rfl (.cons rfl (.cons rfl (.cons rfl (.cons rfl .nil)))))), rfl⟩
                        · refine pw_ops ?_;refine po_all ?_;(conv=>whnf);refine ⟨_, .refl, nl rfl, ?_⟩;(conv=>whnf);refine pw_seq ?_;refine pwa ?_;(conv=>whnf);refine pw_cond ?_;(conv=>whnf);refine pw_exit ?_;(conv=>whnf);cases h43;exact ⟨(.cons rfl (.cons rfl (.cons rfl (.cons rfl (.cons rfl .nil))))), rfl⟩
              · obtain ⟨r106, h107, h108, h109⟩ := obndS_some H;refine pw_joinS (ρ := Unit) (fun e => ⟨[(0, (VS 3 (a0.map e_III))), (1, (.int .i64 a1)), (5, (.pointer (some ⟨0, 0, none⟩)))], ⟨3, [(2, .rw [(.int .i64 y21.1), (.int .i64 r42.1), (.int .i64 r42.2.1), (.int .i64 r42.2.2.1), (.int .i64 r42.2.2.2.1), (.int .i64 r42.2.2.2.2)]), (1, .rw [(.int .i64 y21.1), (.int .i64 y21.2.1), (.int .i64 y21.2.2.1), (.int .i64 y21.2.2.2.1), (.int .i64 y21.2.2.2.2.1), (.int .i64 y21.2.2.2.2.2.1)]), (0, .rw [(.int .i64 a2), (.int .i64 a3), (.int .i64 a4), (.int .i64 a5), (.int .i64 a6)])], false⟩⟩) r106 ?_ ?_
                · obtain ⟨r110, h111, h107⟩ := obnd_some h107;refine pw_join (ρ := Bool) (fun e => ⟨[(0, (VS 3 (a0.map e_III))), (1, (.int .i64 a1)), (5, (.pointer (some ⟨0, 0, none⟩))), (7, (.pointer (some ⟨1, 0, none⟩))), (11, (.pointer (some ⟨2, 0, none⟩))), (107, (.bool e))], ⟨3, [(2, .rw [(.int .i64 y21.1), (.int .i64 r42.1), (.int .i64 r42.2.1), (.int .i64 r42.2.2.1), (.int .i64 r42.2.2.2.1), (.int .i64 r42.2.2.2.2)]), (1, .rw [(.int .i64 y21.1), (.int .i64 y21.2.1), (.int .i64 y21.2.2.1), (.int .i64 y21.2.2.2.1), (.int .i64 y21.2.2.2.2.1), (.int .i64 y21.2.2.2.2.2.1)]), (0, .rw [(.int .i64 a2), (.int .i64 a3), (.int .i64 a4), (.int .i64 a5), (.int .i64 a6)])], false⟩⟩) r110 ?_ ?_
                  · refine pw_ops ?_;refine po_all ?_;(conv=>whnf);refine pbr_oite h111 (fun g114 h111 => ?_) (fun g114 h111 => ?_)
                    · (conv=>whnf);refine pbr_t g114 ?_;(conv=>whnf);obtain ⟨y115, h116, h111⟩ := obnd_some h111;refine (c180 h116).go ?_;(conv=>whnf);refine pbr_t g114 ?_;(conv=>whnf);refine pbr_t g114 ?_;(conv=>whnf);cases h111;exact ⟨(.cons rfl (.cons rfl (.cons rfl (.cons rfl (.cons rfl (.cons rfl .nil)))))), rfl⟩
                    · (conv=>whnf);(iterate 3 refine pbr_f g114 ?_;(conv=>whnf));cases h111;exact ⟨(.cons rfl (.cons rfl (.cons rfl (.cons rfl (.cons rfl (.cons rfl .nil)))))), rfl⟩
                  · refine pw_cond ?_;(conv=>whnf);refine pbr_oite h107 (fun g117 h107 => ?_) (fun g117 h107 => ?_)
                    · (conv=>whnf);refine pw_seq ?_;refine pw_sd ?_;(conv=>whnf);refine ⟨?_, trivial⟩;(conv=>whnf);obtain ⟨y118, h119, h107⟩ := obnd_some h107;refine (c53 h119).go ?_;(conv=>whnf);refine ⟨by repeat (first | exact trivial | refine And.intro rfl ?_), ?_⟩;(conv=>whnf);refine ⟨?_, trivial⟩;(conv=>whnf);obtain ⟨y120, h121, h107⟩ := obnd_some h107;refine (c265 h121).go ?_;(conv=>whnf);refine ⟨by repeat (first | exact trivial | refine And.intro rfl ?_), ?_⟩;(conv=>whnf);obtain ⟨r122, h123, h107⟩ := obnd_some h107;refine pw_join (ρ := Bool) (fun e => ⟨[(0, (VS 3 (a0.map e_III))), (1, (.int .i64 a1)), (5, (.pointer (some ⟨0, 0, none⟩))), (7, (.pointer (some ⟨1, 0, none⟩))), (11, (.pointer (some ⟨2, 0, none⟩))), (121, (.bool e))], ⟨3, [(2, .rw [(.int .i64 y21.1), (.int .i64 r42.1), (.int .i64 r42.2.1), (.int .i64 r42.2.2.1), (.int .i64 r42.2.2.2.1), (.int .i64 r42.2.2.2.2)]), (1, .rw [(.int .i64 y21.1), (.int .i64 y21.2.1), (.int .i64 y21.2.2.1), (.int .i64 y21.2.2.2.1), (.int .i64 y21.2.2.2.2.1), (.int .i64 y21.2.2.2.2.2.1)]), (0, .rw [(.int .i64 a2), (.int .i64 a3), (.int .i64 a4), (.int .i64 a5), (.int .i64 a6)])], false⟩⟩) r122 ?_ ?_
                      · refine pw_ops ?_;refine po_all ?_;(conv=>whnf);refine pbr_oite h123 (fun g126 h123 => ?_) (fun g126 h123 => ?_)
                        · (conv=>whnf);refine pbr_t g126 ?_;(conv=>whnf);refine pbr_t g126 ?_;(conv=>whnf);cases h123;exact ⟨(.cons rfl (.cons rfl (.cons rfl (.cons rfl (.cons rfl (.cons rfl .nil)))))), rfl⟩
                        · (conv=>whnf);refine pbr_f g126 ?_;(conv=>whnf);refine pbr_f g126 ?_;(conv=>whnf);cases h123;exact ⟨(.cons rfl (.cons rfl (.cons rfl (.cons rfl (.cons rfl (.cons rfl .nil)))))), rfl⟩
                      · refine pw_cond ?_;(conv=>whnf);refine pbr_oite h107 (fun g127 h107 => ?_) (fun g127 h107 => ?_)
                        · (conv=>whnf);refine pwa ?_;(conv=>whnf);refine pw_ret ?_;(conv=>whnf);cases h107;obtain rfl := h109 _ rfl; rfl
                        · (conv=>whnf);refine pw_skip ?_;(conv=>whnf);refine pw_sd ?_;(conv=>whnf);refine ⟨?_, trivial⟩;(conv=>whnf);obtain ⟨y128, h129, h107⟩ := obnd_some h107;refine (c269 h129).go ?_;(conv=>whnf);refine ⟨by repeat (first | exact trivial | refine And.intro rfl ?_), ?_⟩;(conv=>whnf);refine ⟨?_, trivial⟩;(conv=>whnf);obtain ⟨y130, h131, h107⟩ := obnd_some h107;refine (c269 h131).go ?_;(conv=>whnf);refine ⟨by repeat (first | exact trivial | refine And.intro rfl ?_), ?_⟩;(conv=>whnf);refine ⟨?_, trivial⟩;(conv=>whnf);obtain ⟨y132, h133, h107⟩ := obnd_some h107;refine (c268 h133).go ?_;(conv=>whnf);refine ⟨by repeat (first | exact trivial | refine And.intro rfl ?_), ?_⟩
                          (conv=>whnf);refine pw_cond ?_;(conv=>whnf);refine pbr_oite h107 (fun g134 h107 => ?_) (fun g134 h107 => ?_)
                          · (conv=>whnf);refine pwa ?_;(conv=>whnf);refine pw_ret ?_;(conv=>whnf);cases h107;obtain rfl := h109 _ rfl; rfl
                          · (conv=>whnf);refine pw_skip ?_;(conv=>whnf);cases h107;exact ⟨_, rfl, ⟨(.cons rfl (.cons rfl (.cons rfl .nil))), rfl⟩⟩
                    · (conv=>whnf);refine pw_skip ?_;(conv=>whnf);cases h107;exact ⟨_, rfl, ⟨(.cons rfl (.cons rfl (.cons rfl .nil))), rfl⟩⟩
                · intro r135 hr; have H := h108 _ hr;refine pwa ?_;(conv=>whnf);obtain ⟨y136, h137, H⟩ := obnd_some H;refine ICalls.goS (f := e_III) (c53s h137) (.cons (.refl _) .nil) ?_;(conv=>whnf);obtain ⟨r138, h139, H⟩ := obnd_some H;refine pw_joinR (ρ := (List (Int × Int × Int))) (fun e => ⟨[(1, (.int .i64 a1)), (15, (VS 3 (e.map e_III)))], ⟨4, [(2, .rw [(.int .i64 y21.1), (.int .i64 r42.1), (.int .i64 r42.2.1), (.int .i64 r42.2.2.1), (.int .i64 r42.2.2.2.1), (.int .i64 r42.2.2.2.2)]), (1, .rw [(.int .i64 y21.1), (.int .i64 y21.2.1), (.int .i64 y21.2.2.1), (.int .i64 y21.2.2.2.1), (.int .i64 y21.2.2.2.2.1), (.int .i64 y21.2.2.2.2.2.1)]), (0, .rw [(.int .i64 a2), (.int .i64 a3), (.int .i64 a4), (.int .i64 a5), (.int .i64 a6)])], false⟩⟩) r138 ?_ ?_
                  · refine pwa ?_;(conv=>whnf);refine pw_block ?_;refine pw_loop (τ := Int × (List (Int × Int × Int))) (fun e => ⟨[(1, (.int .i64 a1)), (5, (.pointer (some ⟨0, 0, none⟩))), (15, (.slice (some ⟨3, 0, none⟩) y136.length 4)), (16, (.int .i64 e.1))], ⟨4, [(3, .rw (flat (e.2.map e_III))), (2, .rw [(.int .i64 y21.1), (.int .i64 r42.1), (.int .i64 r42.2.1), (.int .i64 r42.2.2.1), (.int .i64 r42.2.2.2.1), (.int .i64 r42.2.2.2.2)]), (1, .rw [(.int .i64 y21.1), (.int .i64 y21.2.1), (.int .i64 y21.2.2.1), (.int .i64 y21.2.2.2.1), (.int .i64 y21.2.2.2.2.1), (.int .i64 y21.2.2.2.2.2.1)]), (0, .rw [(.int .i64 a2), (.int .i64 a3), (.int .i64 a4), (.int .i64 a5), (.int .i64 a6)])], false⟩⟩) h139 ?_ (fun _ => nl rfl) ?_
                    · exact .sub' (nl rfl) (.cons rfl (.cons rfl (.cons rfl (.cons rfl .nil))))
                    · intro e142 x143 h144;refine pw_seq ?_;refine pwa ?_;(conv=>whnf);refine pw_cond ?_;(conv=>whnf);refine pbr_oite h144 (fun g145 h144 => ?_) (fun g145 h144 => ?_)
                      · (conv=>whnf);refine pw_skip ?_;(conv=>whnf);refine pw_seq ?_;refine pw_block ?_;refine pwa ?_;(conv=>whnf);refine pwa ?_;(conv=>whnf);refine pbr_ogrd h144 (fun g146 h144 => ?_);(conv=>whnf);refine pbr_t g145 ?_;(conv=>whnf);refine ld_st (f := e_III) (l := e142.2) (n := e142.1.toNat) h144 (fun x147 h148 h144 => ?_);(conv=>whnf);obtain ⟨y149, h150, h144⟩ := obnd_some h144;refine (c34 h150).go ?_;(conv=>whnf);obtain ⟨r151, h152, h144⟩ := obnd_some h144;refine pw_join (ρ := Int) (fun e => ⟨[(1, (.int .i64 a1)), (5, (.pointer (some ⟨0, 0, none⟩))), (15, (.slice (some ⟨3, 0, none⟩) y136.length 4)), (16, (.int .i64 e142.1)), (17, (.int .i64 e))], ⟨5, [(4, .rw [(.int .i64 y149.1), (.int .i64 y149.2.1), (.int .i64 y149.2.2.1), (.int .i64 y149.2.2.2.1), (.int .i64 y149.2.2.2.2)]), (3, .rw (flat (e142.2.map e_III))), (2, .rw [(.int .i64 y21.1), (.int .i64 r42.1), (.int .i64 r42.2.1), (.int .i64 r42.2.2.1), (.int .i64 r42.2.2.2.1), (.int .i64 r42.2.2.2.2)]), (1, .rw [(.int .i64 y21.1), (.int .i64 y21.2.1), (.int .i64 y21.2.2.1), (.int .i64 y21.2.2.2.1), (.int .i64 y21.2.2.2.2.1), (.int .i64 y21.2.2.2.2.2.1)]), (0, .rw [(.int .i64 a2), (.int .i64 a3), (.int .i64 a4), (.int .i64 a5), (.int .i64 a6)])], false⟩⟩) r151 ?_ ?_
                        · refine pwa ?_;(conv=>whnf);refine pw_block ?_;refine pw_unroll 6 ?_;(conv=>whnf);refine pw_seq ?_;refine pwa ?_;(conv=>whnf);refine pw_cond ?_;(conv=>whnf);refine pw_skip ?_;(conv=>whnf);obtain ⟨r155, h156, h152⟩ := obnd_some h152;refine pw_join (ρ := Int) (fun e => ⟨[(1, (.int .i64 a1)), (5, (.pointer (some ⟨0, 0, none⟩))), (15, (.slice (some ⟨3, 0, none⟩) y136.length 4)), (16, (.int .i64 e142.1)), (17, (.int .i64 e)), (18, (.pointer (some ⟨4, 0, none⟩))), (19, (.int .i64 0))], ⟨5, [(4, .rw [(.int .i64 y149.1), (.int .i64 y149.2.1), (.int .i64 y149.2.2.1), (.int .i64 y149.2.2.2.1), (.int .i64 y149.2.2.2.2)]), (3, .rw (flat (e142.2.map e_III))), (2, .rw [(.int .i64 y21.1), (.int .i64 r42.1), (.int .i64 r42.2.1), (.int .i64 r42.2.2.1), (.int .i64 r42.2.2.2.1), (.int .i64 r42.2.2.2.2)]), (1, .rw [(.int .i64 y21.1), (.int .i64 y21.2.1), (.int .i64 y21.2.2.1), (.int .i64 y21.2.2.2.1), (.int .i64 y21.2.2.2.2.1), (.int .i64 y21.2.2.2.2.2.1)]), (0, .rw [(.int .i64 a2), (.int .i64 a3), (.int .i64 a4), (.int .i64 a5), (.int .i64 a6)])], false⟩⟩) r155 ?_ ?_
                          · refine pw_block ?_;obtain ⟨r159, h160, h156⟩ := obnd_some h156;refine pw_join (ρ := Bool) (fun e => ⟨[(1, (.int .i64 a1)), (5, (.pointer (some ⟨0, 0, none⟩))), (15, (.slice (some ⟨3, 0, none⟩) y136.length 4)), (16, (.int .i64 e142.1)), (17, (.int .i64 0)), (18, (.pointer (some ⟨4, 0, none⟩))), (19, (.int .i64 0)), (157, (.bool e))], ⟨5, [(4, .rw [(.int .i64 y149.1), (.int .i64 y149.2.1), (.int .i64 y149.2.2.1), (.int .i64 y149.2.2.2.1), (.int .i64 y149.2.2.2.2)]), (3, .rw (flat (e142.2.map e_III))), (2, .rw [(.int .i64 y21.1), (.int .i64 r42.1), (.int .i64 r42.2.1), (.int .i64 r42.2.2.1), (.int .i64 r42.2.2.2.1), (.int .i64 r42.2.2.2.2)]), (1, .rw [(.int .i64 y21.1), (.int .i64 y21.2.1), (.int .i64 y21.2.2.1), (.int .i64 y21.2.2.2.1), (.int .i64 y21.2.2.2.2.1), (.int .i64 y21.2.2.2.2.2.1)]), (0, .rw [(.int .i64 a2), (.int .i64 a3), (.int .i64 a4), (.int .i64 a5), (.int .i64 a6)])], false⟩⟩) r159 ?_ ?_
                            · refine pw_ops ?_;refine po_all ?_;(conv=>whnf);refine pbr_oite h160 (fun g163 h160 => ?_) (fun g163 h160 => ?_)
                              · (conv=>whnf);(iterate 3 refine pbr_t g163 ?_;(conv=>whnf));obtain ⟨y164, h165, h160⟩ := obnd_some h160;refine (c15 h165).go ?_;(conv=>whnf);refine pbr_t g163 ?_;(conv=>whnf);cases h160;exact ⟨(.cons rfl (.cons rfl (.cons rfl (.cons rfl (.cons rfl (.cons rfl (.cons rfl (.cons rfl .nil)))))))), rfl⟩
                              · (conv=>whnf);(iterate 4 refine pbr_f g163 ?_;(conv=>whnf));cases h160;exact ⟨(.cons rfl (.cons rfl (.cons rfl (.cons rfl (.cons rfl (.cons rfl (.cons rfl (.cons rfl .nil)))))))), rfl⟩
                            · refine pw_cond ?_;(conv=>whnf);refine pbr_oite h156 (fun g166 h156 => ?_) (fun g166 h156 => ?_)
                              · (conv=>whnf);refine pw_draw ?_;(conv=>whnf);refine ⟨?_, trivial⟩;(conv=>whnf);refine ⟨by repeat (first | exact trivial | refine And.intro rfl ?_), ?_⟩;(conv=>whnf);cases h156;exact ⟨(.cons rfl (.cons rfl (.cons rfl (.cons rfl (.cons rfl (.cons rfl (.cons rfl .nil))))))), rfl⟩
                              · (conv=>whnf);refine pw_skip ?_;(conv=>whnf);cases h156;exact ⟨(.cons rfl (.cons rfl (.cons rfl (.cons rfl (.cons rfl (.cons rfl (.cons rfl .nil))))))), rfl⟩
                          · refine pw_ops ?_;refine po_all ?_;(conv=>whnf);refine ⟨_, .refl, nl rfl, ?_⟩;(conv=>whnf);refine pw_seq ?_;refine pwa ?_;(conv=>whnf);refine pw_cond ?_;(conv=>whnf);refine pw_skip ?_;(conv=>whnf);obtain ⟨r167, h168, h152⟩ := obnd_some h152;refine pw_join (ρ := Int) (fun e => ⟨[(1, (.int .i64 a1)), (5, (.pointer (some ⟨0, 0, none⟩))), (15, (.slice (some ⟨3, 0, none⟩) y136.length 4)), (16, (.int .i64 e142.1)), (17, (.int .i64 e)), (18, (.pointer (some ⟨4, 0, none⟩))), (19, (.int .i64 1))], ⟨5, [(4, .rw [(.int .i64 y149.1), (.int .i64 y149.2.1), (.int .i64 y149.2.2.1), (.int .i64 y149.2.2.2.1), (.int .i64 y149.2.2.2.2)]), (3, .rw (flat (e142.2.map e_III))), (2, .rw [(.int .i64 y21.1), (.int .i64 r42.1), (.int .i64 r42.2.1), (.int .i64 r42.2.2.1), (.int .i64 r42.2.2.2.1), (.int .i64 r42.2.2.2.2)]), (1, .rw [(.int .i64 y21.1), (.int .i64 y21.2.1), (.int .i64 y21.2.2.1), (.int .i64 y21.2.2.2.1), (.int .i64 y21.2.2.2.2.1), (.int .i64 y21.2.2.2.2.2.1)]), (0, .rw [(.int .i64 a2), (.int .i64 a3), (.int .i64 a4), (.int .i64 a5), (.int .i64 a6)])], false⟩⟩) r167 ?_ ?_
                            · refine pw_block ?_;obtain ⟨r171, h172, h168⟩ := obnd_some h168;refine pw_join (ρ := Bool) (fun e => ⟨[(1, (.int .i64 a1)), (5, (.pointer (some ⟨0, 0, none⟩))), (15, (.slice (some ⟨3, 0, none⟩) y136.length 4)), (16, (.int .i64 e142.1)), (17, (.int .i64 r155)), (18, (.pointer (some ⟨4, 0, none⟩))), (19, (.int .i64 1)), (157, (.bool e))], ⟨5, [(4, .rw [(.int .i64 y149.1), (.int .i64 y149.2.1), (.int .i64 y149.2.2.1), (.int .i64 y149.2.2.2.1), (.int .i64 y149.2.2.2.2)]), (3, .rw (flat (e142.2.map e_III))), (2, .rw [(.int .i64 y21.1), (.int .i64 r42.1), (.int .i64 r42.2.1), (.int .i64 r42.2.2.1), (.int .i64 r42.2.2.2.1), (.int .i64 r42.2.2.2.2)]), (1, .rw [(.int .i64 y21.1), (.int .i64 y21.2.1), (.int .i64 y21.2.2.1), (.int .i64 y21.2.2.2.1), (.int .i64 y21.2.2.2.2.1), (.int .i64 y21.2.2.2.2.2.1)]), (0, .rw [(.int .i64 a2), (.int .i64 a3), (.int .i64 a4), (.int .i64 a5), (.int .i64 a6)])], false⟩⟩) r171 ?_ ?_
                              · refine pw_ops ?_;refine po_all ?_;(conv=>whnf);refine pbr_oite h172 (fun g175 h172 => ?_) (fun g175 h172 => ?_)
                                · (conv=>whnf);(iterate 3 refine pbr_t g175 ?_;(conv=>whnf));obtain ⟨y176, h177, h172⟩ := obnd_some h172;refine (c15 h177).go ?_;(conv=>whnf);refine pbr_t g175 ?_;(conv=>whnf);cases h172;exact ⟨(.cons rfl (.cons rfl (.cons rfl (.cons rfl (.cons rfl (.cons rfl (.cons rfl (.cons rfl .nil)))))))), rfl⟩
                                · (conv=>whnf);(iterate 4 refine pbr_f g175 ?_;(conv=>whnf));cases h172;exact ⟨(.cons rfl (.cons rfl (.cons rfl (.cons rfl (.cons rfl (.cons rfl (.cons rfl (.cons rfl .nil)))))))), rfl⟩
                              · refine pw_cond ?_;(conv=>whnf);refine pbr_oite h168 (fun g178 h168 => ?_) (fun g178 h168 => ?_)
                                · (conv=>whnf);refine pw_draw ?_;(conv=>whnf);refine ⟨?_, trivial⟩;(conv=>whnf);refine ⟨by repeat (first | exact trivial | refine And.intro rfl ?_), ?_⟩;(conv=>whnf);cases h168;exact ⟨(.cons rfl (.cons rfl (.cons rfl (.cons rfl (.cons rfl (.cons rfl (.cons rfl .nil))))))), rfl⟩
                                · (conv=>whnf);refine pw_skip ?_;(conv=>whnf);cases h168;exact ⟨(.cons rfl (.cons rfl (.cons rfl (.cons rfl (.cons rfl (.cons rfl (.cons rfl .nil))))))), rfl⟩
                            · refine pw_ops ?_;refine po_all ?_;(conv=>whnf);refine ⟨_, .refl, nl rfl, ?_⟩;(conv=>whnf);refine pw_seq ?_;refine pwa ?_;(conv=>whnf);refine pw_cond ?_;(conv=>whnf);refine pw_skip ?_;(conv=>whnf);obtain ⟨r179, h180, h152⟩ := obnd_some h152;refine pw_join (ρ := Int) (fun e => ⟨[(1, (.int .i64 a1)), (5, (.pointer (some ⟨0, 0, none⟩))), (15, (.slice (some ⟨3, 0, none⟩) y136.length 4)), (16, (.int .i64 e142.1)), (17, (.int .i64 e)), (18, (.pointer (some ⟨4, 0, none⟩))), (19, (.int .i64 2))], ⟨5, [(4, .rw [(.int .i64 y149.1), (.int .i64 y149.2.1), (.int .i64 y149.2.2.1), (.int .i64 y149.2.2.2.1), (.int .i64 y149.2.2.2.2)]), (3, .rw (flat (e142.2.map e_III))), (2, .rw [(.int .i64 y21.1), (.int .i64 r42.1), (.int .i64 r42.2.1), (.int .i64 r42.2.2.1), (.int .i64 r42.2.2.2.1), (.int .i64 r42.2.2.2.2)]), (1, .rw [(.int .i64 y21.1), (.int .i64 y21.2.1), (.int .i64 y21.2.2.1), (.int .i64 y21.2.2.2.1), (.int .i64 y21.2.2.2.2.1), (.int .i64 y21.2.2.2.2.2.1)]), (0, .rw [(.int .i64 a2), (.int .i64 a3), (.int .i64 a4), (.int .i64 a5), (.int .i64 a6)])], false⟩⟩) r179 ?_ ?_
                              · refine pw_block ?_;obtain ⟨r183, h184, h180⟩ := obnd_some h180;refine pw_join (ρ := Bool) (fun e => ⟨[(1, (.int .i64 a1)), (5, (.pointer (some ⟨0, 0, none⟩))), (15, (.slice (some ⟨3, 0, none⟩) y136.length 4)), (16, (.int .i64 e142.1)), (17, (.int .i64 r167)), (18, (.pointer (some ⟨4, 0, none⟩))), (19, (.int .i64 2)), (157, (.bool e))], ⟨5, [(4, .rw [(.int .i64 y149.1), (.int .i64 y149.2.1), (.int .i64 y149.2.2.1), (.int .i64 y149.2.2.2.1), (.int .i64 y149.2.2.2.2)]), (3, .rw (flat (e142.2.map e_III))), (2, .rw [(.int .i64 y21.1), (.int .i64 r42.1), (.int .i64 r42.2.1), (.int .i64 r42.2.2.1), (.int .i64 r42.2.2.2.1), (.int .i64 r42.2.2.2.2)]), (1, .rw [(.int .i64 y21.1), (.int .i64 y21.2.1), (.int .i64 y21.2.2.1), (.int .i64 y21.2.2.2.1), (.int .i64 y21.2.2.2.2.1), (.int .i64 y21.2.2.2.2.2.1)]), (0, .rw [(.int .i64 a2), (.int .i64 a3), (.int .i64 a4), (.int .i64 a5), (.int .i64 a6)])], false⟩⟩) r183 ?_ ?_
                                · refine pw_ops ?_;refine po_all ?_;(conv=>whnf);refine pbr_oite h184 (fun g187 h184 => ?_) (fun g187 h184 => ?_)
                                  · (conv=>whnf);(iterate 3 refine pbr_t g187 ?_;(conv=>whnf));obtain ⟨y188, h189, h184⟩ := obnd_some h184;refine (c15 h189).go ?_;(conv=>whnf);refine pbr_t g187 ?_;(conv=>whnf);cases h184;exact ⟨(.cons rfl (.cons rfl (.cons rfl (.cons rfl (.cons rfl (.cons rfl (.cons rfl (.cons rfl .nil)))))))), rfl⟩
                                  · (conv=>whnf);(iterate 4 refine pbr_f g187 ?_;(conv=>whnf));cases h184;exact ⟨(.cons rfl (.cons rfl (.cons rfl (.cons rfl (.cons rfl (.cons rfl (.cons rfl (.cons rfl .nil)))))))), rfl⟩
                                · refine pw_cond ?_;(conv=>whnf);refine pbr_oite h180 (fun g190 h180 => ?_) (fun g190 h180 => ?_)
                                  · (conv=>whnf);refine pw_draw ?_;(conv=>whnf);refine ⟨?_, trivial⟩;(conv=>whnf);refine ⟨by repeat (first | exact trivial | refine And.intro rfl ?_), ?_⟩;(conv=>whnf);cases h180;exact ⟨(.cons rfl (.cons rfl (.cons rfl (.cons rfl (.cons rfl (.cons rfl (.cons rfl .nil))))))), rfl⟩
                                  · (conv=>whnf);refine pw_skip ?_;(conv=>whnf);cases h180;exact ⟨(.cons rfl (.cons rfl (.cons rfl (.cons rfl (.cons rfl (.cons rfl (.cons rfl .nil))))))), rfl⟩
                              · refine pw_ops ?_;refine po_all ?_;(conv=>whnf);refine ⟨_, .refl, nl rfl, ?_⟩;(conv=>whnf);refine pw_seq ?_;refine pwa ?_;(conv=>whnf);refine pw_cond ?_;(conv=>whnf);refine pw_skip ?_;(conv=>whnf);obtain ⟨r191, h192, h152⟩ := obnd_some h152;refine pw_join (ρ := Int) (fun e => ⟨[(1, (.int .i64 a1)), (5, (.pointer (some ⟨0, 0, none⟩))), (15, (.slice (some ⟨3, 0, none⟩) y136.length 4)), (16, (.int .i64 e142.1)), (17, (.int .i64 e)), (18, (.pointer (some ⟨4, 0, none⟩))), (19, (.int .i64 3))], ⟨5, [(4, .rw [(.int .i64 y149.1), (.int .i64 y149.2.1), (.int .i64 y149.2.2.1), (.int .i64 y149.2.2.2.1), (.int .i64 y149.2.2.2.2)]), (3, .rw (flat (e142.2.map e_III))), (2, .rw [(.int .i64 y21.1), (.int .i64 r42.1), (.int .i64 r42.2.1), (.int .i64 r42.2.2.1), (.int .i64 r42.2.2.2.1), (.int .i64 r42.2.2.2.2)]), (1, .rw [(.int .i64 y21.1), (.int .i64 y21.2.1), (.int .i64 y21.2.2.1), (.int .i64 y21.2.2.2.1), (.int .i64 y21.2.2.2.2.1), (.int .i64 y21.2.2.2.2.2.1)]), (0, .rw [(.int .i64 a2), (.int .i64 a3), (.int .i64 a4), (.int .i64 a5), (.int .i64 a6)])], false⟩⟩) r191 ?_ ?_
                                · refine pw_block ?_;obtain ⟨r195, h196, h192⟩ := obnd_some h192;refine pw_join (ρ := Bool) (fun e => ⟨[(1, (.int .i64 a1)), (5, (.pointer (some ⟨0, 0, none⟩))), (15, (.slice (some ⟨3, 0, none⟩) y136.length 4)), (16, (.int .i64 e142.1)), (17, (.int .i64 r179)), (18, (.pointer (some ⟨4, 0, none⟩))), (19, (.int .i64 3)), (157, (.bool e))], ⟨5, [(4, .rw [(.int .i64 y149.1), (.int .i64 y149.2.1), (.int .i64 y149.2.2.1), (.int .i64 y149.2.2.2.1), (.int .i64 y149.2.2.2.2)]), (3, .rw (flat (e142.2.map e_III))), (2, .rw [(.int .i64 y21.1), (.int .i64 r42.1), (.int .i64 r42.2.1), (.int .i64 r42.2.2.1), (.int .i64 r42.2.2.2.1), (.int .i64 r42.2.2.2.2)]), (1, .rw [(.int .i64 y21.1), (.int .i64 y21.2.1), (.int .i64 y21.2.2.1), (.int .i64 y21.2.2.2.1), (.int .i64 y21.2.2.2.2.1), (.int .i64 y21.2.2.2.2.2.1)]), (0, .rw [(.int .i64 a2), (.int .i64 a3), (.int .i64 a4), (.int .i64 a5), (.int .i64 a6)])], false⟩⟩) r195 ?_ ?_
                                  · refine pw_ops ?_;refine po_all ?_;(conv=>whnf);refine pbr_oite h196 (fun g199 h196 => ?_) (fun g199 h196 => ?_)
                                    · (conv=>whnf);(iterate 3 refine pbr_t g199 ?_;(conv=>whnf));obtain ⟨y200, h201, h196⟩ := obnd_some h196;refine (c15 h201).go ?_;(conv=>whnf);refine pbr_t g199 ?_;(conv=>whnf);cases h196;exact ⟨(.cons rfl (.cons rfl (.cons rfl (.cons rfl (.cons rfl (.cons rfl (.cons rfl (.cons rfl .nil)))))))), rfl⟩
                                    · (conv=>whnf);(iterate 4 refine pbr_f g199 ?_;(conv=>whnf));cases h196;exact ⟨(.cons rfl (.cons rfl (.cons rfl (.cons rfl (.cons rfl (.cons rfl (.cons rfl (.cons rfl .nil)))))))), rfl⟩
                                  · refine pw_cond ?_;(conv=>whnf);refine pbr_oite h192 (fun g202 h192 => ?_) (fun g202 h192 => ?_)
                                    · (conv=>whnf);refine pw_draw ?_;(conv=>whnf);refine ⟨?_, trivial⟩;(conv=>whnf);refine ⟨by repeat (first | exact trivial | refine And.intro rfl ?_), ?_⟩;(conv=>whnf);cases h192;exact ⟨(.cons rfl (.cons rfl (.cons rfl (.cons rfl (.cons rfl (.cons rfl (.cons rfl .nil))))))), rfl⟩
                                    · (conv=>whnf);refine pw_skip ?_;(conv=>whnf);cases h192;exact ⟨(.cons rfl (.cons rfl (.cons rfl (.cons rfl (.cons rfl (.cons rfl (.cons rfl .nil))))))), rfl⟩
                                · refine pw_ops ?_;refine po_all ?_;(conv=>whnf);refine ⟨_, .refl, nl rfl, ?_⟩;(conv=>whnf);refine pw_seq ?_;refine pwa ?_;(conv=>whnf);refine pw_cond ?_;(conv=>whnf);refine pw_skip ?_;(conv=>whnf);obtain ⟨r203, h204, h152⟩ := obnd_some h152;refine pw_join (ρ := Int) (fun e => ⟨[(1, (.int .i64 a1)), (5, (.pointer (some ⟨0, 0, none⟩))), (15, (.slice (some ⟨3, 0, none⟩) y136.length 4)), (16, (.int .i64 e142.1)), (17, (.int .i64 e)), (18, (.pointer (some ⟨4, 0, none⟩))), (19, (.int .i64 4))], ⟨5, [(4, .rw [(.int .i64 y149.1), (.int .i64 y149.2.1), (.int .i64 y149.2.2.1), (.int .i64 y149.2.2.2.1), (.int .i64 y149.2.2.2.2)]), (3, .rw (flat (e142.2.map e_III))), (2, .rw [(.int .i64 y21.1), (.int .i64 r42.1), (.int .i64 r42.2.1), (.int .i64 r42.2.2.1), (.int .i64 r42.2.2.2.1), (.int .i64 r42.2.2.2.2)]), (1, .rw [(.int .i64 y21.1), (.int .i64 y21.2.1), (.int .i64 y21.2.2.1), (.int .i64 y21.2.2.2.1), (.int .i64 y21.2.2.2.2.1), (.int .i64 y21.2.2.2.2.2.1)]), (0, .rw [(.int .i64 a2), (.int .i64 a3), (.int .i64 a4), (.int .i64 a5), (.int .i64 a6)])], false⟩⟩) r203 ?_ ?_
                                  · refine pw_block ?_;obtain ⟨r207, h208, h204⟩ := obnd_some h204;refine pw_join (ρ := Bool) (fun e => ⟨[(1, (.int .i64 a1)), (5, (.pointer (some ⟨0, 0, none⟩))), (15, (.slice (some ⟨3, 0, none⟩) y136.length 4)), (16, (.int .i64 e142.1)), (17, (.int .i64 r191)), (18, (.pointer (some ⟨4, 0, none⟩))), (19, (.int .i64 4)), (157, (.bool e))], ⟨5, [(4, .rw [(.int .i64 y149.1), (.int .i64 y149.2.1), (.int .i64 y149.2.2.1), (.int .i64 y149.2.2.2.1), (.int .i64 y149.2.2.2.2)]), (3, .rw (flat (e142.2.map e_III))), (2, .rw [(.int .i64 y21.1), (.int .i64 r42.1), (.int .i64 r42.2.1), (.int .i64 r42.2.2.1), (.int .i64 r42.2.2.2.1), (.int .i64 r42.2.2.2.2)]), (1, .rw [(.int .i64 y21.1), (.int .i64 y21.2.1), (.int .i64 y21.2.2.1), (.int .i64 y21.2.2.2.1), (.int .i64 y21.2.2.2.2.1), (.int .i64 y21.2.2.2.2.2.1)]), (0, .rw [(.int .i64 a2), (.int .i64 a3), (.int .i64 a4), (.int .i64 a5), (.int .i64 a6)])], false⟩⟩) r207 ?_ ?_
                                    · refine pw_ops ?_;refine po_all ?_;(conv=>whnf);refine pbr_oite h208 (fun g211 h208 => ?_) (fun g211 h208 => ?_)
                                      · (conv=>whnf);(iterate 3 refine pbr_t g211 ?_;(conv=>whnf));obtain ⟨y212, h213, h208⟩ := obnd_some h208;refine (c15 h213).go ?_;(conv=>whnf);refine pbr_t g211 ?_;(conv=>whnf);cases h208;exact ⟨(.cons rfl (.cons rfl (.cons rfl (.cons rfl (.cons rfl (.cons rfl (.cons rfl (.cons rfl .nil)))))))), rfl⟩
                                      · (conv=>whnf);(iterate 4 refine pbr_f g211 ?_;(conv=>whnf));cases h208;exact ⟨(.cons rfl (.cons rfl (.cons rfl (.cons rfl (.cons rfl (.cons rfl (.cons rfl (.cons rfl .nil)))))))), rfl⟩
                                    · refine pw_cond ?_;(conv=>whnf);refine pbr_oite h204 (fun g214 h204 => ?_) (fun g214 h204 => ?_)
                                      · (conv=>whnf);refine pw_draw ?_;(conv=>whnf);refine ⟨?_, trivial⟩;(conv=>whnf);refine ⟨by repeat (first | exact trivial | refine And.intro rfl ?_), ?_⟩;(conv=>whnf);cases h204;exact ⟨(.cons rfl (.cons rfl (.cons rfl (.cons rfl (.cons rfl (.cons rfl (.cons rfl .nil))))))), rfl⟩
                                      · (conv=>whnf);refine pw_skip ?_;(conv=>whnf);cases h204;exact ⟨(.cons rfl (.cons rfl (.cons rfl (.cons rfl (.cons rfl (.cons rfl (.cons rfl .nil))))))), rfl⟩
                                  · refine pw_ops ?_;refine po_all ?_;(conv=>whnf);refine ⟨_, .refl, nl rfl, ?_⟩;(conv=>whnf);refine pw_seq ?_;refine pwa ?_;(conv=>whnf);refine pw_cond ?_;(conv=>whnf);refine pw_exit ?_;(conv=>whnf);cases h152;exact ⟨(.cons rfl (.cons rfl (.cons rfl (.cons rfl (.cons rfl .nil))))), rfl⟩
                        · refine pw_ops ?_;refine po_all ?_;(conv=>whnf);refine pbr_t g146 ?_;(conv=>whnf);refine pbr_t g145 ?_;(conv=>whnf);refine set_st (f := e_III) (l := e142.2) (n := e142.1.toNat) (j := 2) (x := x147) (y := (x147.1, x147.2.1, r151)) h148 rfl rfl rfl ?_;(conv=>whnf);refine pw_ops ?_;refine po_all ?_;(conv=>whnf);cases h144;refine ⟨_, rfl, ?_⟩;exact Recast.fz (fun _ => false) (nl rfl) (.cons (.same rfl rfl (OBnd.rwc (nl rfl) oneL_flat)) (.cons (.same rfl rfl (OBnd.rwl (nl rfl) rfl (.cons .cl (.cons .cl (.cons .cl (.cons .cl (.cons .cl (.cons .cl .nil)))))))) (.cons (.same rfl rfl (OBnd.rwl (nl rfl) rfl (.cons .cl (.cons .cl (.cons .cl (.cons .cl (.cons .cl (.cons .cl .nil)))))))) (.cons (.same rfl rfl (OBnd.rwl (nl rfl) rfl (.cons .cl (.cons .cl (.cons .cl (.cons .cl (.cons .cl .nil))))))) .nil)))) (.cons rfl (.same _ .cl) (.cons rfl (.same _ (.ptr (nl rfl))) (.cons rfl (.same _ (.slice (nl rfl))) (.cons rfl (.same _ .cl) .nil))))
                      · (conv=>whnf);refine pw_exit ?_;(conv=>whnf);obtain ⟨w217, rfl, h215⟩ := oinr_some h144;refine ⟨_, rfl, ?_⟩; rintro rfl;(conv=>whnf);obtain ⟨g216, h215⟩ := ogrd_some h215;cases h215;exact Recast.fz (fun b => Nat.beq b 3) (nl rfl) (.cons (.same rfl rfl (OBnd.rwl (nl rfl) rfl (.cons .cl (.cons .cl (.cons .cl (.cons .cl (.cons .cl (.cons .cl .nil)))))))) (.cons (.same rfl rfl (OBnd.rwl (nl rfl) rfl (.cons .cl (.cons .cl (.cons .cl (.cons .cl (.cons .cl (.cons .cl .nil)))))))) (.cons (.same rfl rfl (OBnd.rwl (nl rfl) rfl (.cons .cl (.cons .cl (.cons .cl (.cons .cl (.cons .cl .nil))))))) .nil))) (.cons rfl (.same _ .cl) (.cons rfl (.sls rfl rfl rfl g216) .nil))
                  · refine pw_seq ?_;refine pwa ?_;(conv=>whnf);obtain ⟨y218, h219, H⟩ := obnd_some H;refine (c51 h219).go ?_;(conv=>whnf);refine pw_cond ?_;(conv=>whnf);refine pbr_oite H (fun g220 H => ?_) (fun g220 H => ?_)
                    · (conv=>whnf);refine pwa ?_;(conv=>whnf);refine pw_ret ?_;(conv=>whnf);cases H; rfl
                    · (conv=>whnf);refine pw_skip ?_;(conv=>whnf);refine pwa ?_;(conv=>whnf);obtain ⟨y221, h222, H⟩ := obnd_some H;refine (c53 h222).go ?_;(conv=>whnf);obtain ⟨y223, h224, H⟩ := obnd_some H;refine (c55 h224).go ?_;(conv=>whnf);refine pw_seq ?_;obtain ⟨r225, h226, H⟩ := obnd_some H;refine pw_join (ρ := Bool) (fun e => ⟨[(15, (VS 3 (r138.map e_III))), (20, (.pointer (some ⟨4, 0, none⟩))), (188, (.bool e))], ⟨5, [(4, .rw [(.int .i64 y223.1), (.int .i64 y223.2.1), (.int .i64 y223.2.2.1), (.int .i64 y223.2.2.2.1), (.int .i64 y223.2.2.2.2.1), (.int .i64 y223.2.2.2.2.2.1)]), (2, .rw [(.int .i64 y21.1), (.int .i64 r42.1), (.int .i64 r42.2.1), (.int .i64 r42.2.2.1), (.int .i64 r42.2.2.2.1), (.int .i64 r42.2.2.2.2)]), (1, .rw [(.int .i64 y21.1), (.int .i64 y21.2.1), (.int .i64 y21.2.2.1), (.int .i64 y21.2.2.2.1), (.int .i64 y21.2.2.2.2.1), (.int .i64 y21.2.2.2.2.2.1)]), (0, .rw [(.int .i64 a2), (.int .i64 a3), (.int .i64 a4), (.int .i64 a5), (.int .i64 a6)])], false⟩⟩) r225 ?_ ?_
                      · refine pw_ops ?_;refine po_all ?_;(conv=>whnf);refine pbr_oite h226 (fun g229 h226 => ?_) (fun g229 h226 => ?_)
                        · (conv=>whnf);(iterate 3 refine pbr_t g229 ?_;(conv=>whnf));cases h226;exact ⟨(.cons rfl (.cons rfl (.cons rfl .nil))), rfl⟩
                        · (conv=>whnf);refine pbr_f g229 ?_;(conv=>whnf);obtain ⟨y230, h231, h226⟩ := obnd_some h226;refine (c180 h231).go ?_;(conv=>whnf);refine pbr_f g229 ?_;(conv=>whnf);refine pbr_f g229 ?_;(conv=>whnf);cases h226;exact ⟨(.cons rfl (.cons rfl (.cons rfl .nil))), rfl⟩
                      · refine pw_cond ?_;(conv=>whnf);refine pbr_oite H (fun g232 H => ?_) (fun g232 H => ?_)
                        · (conv=>whnf);refine pwa ?_;(conv=>whnf);refine pw_ret ?_;(conv=>whnf);cases H; rfl
                        · (conv=>whnf);refine pw_skip ?_;(conv=>whnf);refine pwa ?_;(conv=>whnf);obtain ⟨y233, h234, H⟩ := obnd_some H;refine (c57 h234).go ?_;(conv=>whnf);refine pw_so ?_;refine po_ops 3 ?_;(conv=>whnf);obtain ⟨r235, h236, H⟩ := obnd_some H;refine po_seg (τ := Bool) 3 (fun e => ⟨[(200, (.bool e))], ⟨5, [(4, .rw [(.int .i64 y223.1), (.int .i64 y223.2.1), (.int .i64 y223.2.2.1), (.int .i64 y223.2.2.2.1), (.int .i64 y223.2.2.2.2.1), (.int .i64 y223.2.2.2.2.2.1)]), (2, .rw [(.int .i64 y21.1), (.int .i64 r42.1), (.int .i64 r42.2.1), (.int .i64 r42.2.2.1), (.int .i64 r42.2.2.2.1), (.int .i64 r42.2.2.2.2)]), (1, .rw [(.int .i64 y21.1), (.int .i64 y21.2.1), (.int .i64 y21.2.2.1), (.int .i64 y21.2.2.2.1), (.int .i64 y21.2.2.2.2.1), (.int .i64 y21.2.2.2.2.2.1)]), (0, .rw [(.int .i64 a2), (.int .i64 a3), (.int .i64 a4), (.int .i64 a5), (.int .i64 a6)])], false⟩⟩) r235 ?_ ?_
                          · refine po_all ?_;(conv=>whnf);refine pbr_oite h236 (fun g237 h236 => ?_) (fun g237 h236 => ?_)
                            · (conv=>whnf);refine pbr_t g237 ?_;(conv=>whnf);refine pbr_t g237 ?_;(conv=>whnf);cases h236;exact ⟨(.cons rfl .nil), rfl⟩
                            · (conv=>whnf);refine pbr_f g237 ?_;(conv=>whnf);refine pbr_f g237 ?_;(conv=>whnf);cases h236;exact ⟨(.cons rfl .nil), rfl⟩
                          · refine po_all ?_;(conv=>whnf);refine pw_ret ?_;(conv=>whnf);cases H; rfl

end Go.Proofs.YtacgibkgojnfeaaGreat.AM
