import Derived.Test.YtdcojbamfchgiaaQChunkx32
import Derived.Test.YtdcojbamfchgiaaChunkFun
import Derived.Test.YtdcojbamfchgiaaChunkRef
namespace Go.Proofs.Ytdcojbamfchgiaa.Pure
open Go Go.RowKit Go.Proofs.Ytdcojbamfchgiaa.QChunk Go.Proofs.YtdcojbamfchgiaaW.PrintWords Go.Proofs.YtdcojbamfchgiaaW.PrintLast Go.Proofs.Ytdcojbamfchgiaa.Export Go.Proofs.Ytdcojbamfchgiaa.ChunkNum Go.Proofs.Ytdcojbamfchgiaa.ChunkImp Go.Proofs.Ytdcojbamfchgiaa.ChunkCut Go.Proofs.Ytdcojbamfchgiaa.ChunkTak Go.Proofs.Ytdcojbamfchgiaa.ChunkAwk Go.Proofs.Ytdcojbamfchgiaa.ChunkSame Go.Proofs.Ytdcojbamfchgiaa.ChunkRim

theorem ChunkImports : switchboardlaw16_ChunkImports.Pure := by
  intro s hs
  refine ⟨2000000 + 1, ?_⟩
  unfold switchboardlaw16_ChunkImports.f
  by_cases h : (s.size : Int) > 600
  · rw [if_pos h, awake_is _ (by omega), Option.bind_some]
  · rw [if_neg h, import_is s (by omega) _ (by omega), Option.bind_some, rimport_is s (by omega) _ (by omega), Option.bind_some]
    obtain ⟨x, y, d, e, hi⟩ : ∃ x y d e, impB (bl s) = (x, y, d, e) := ⟨_, _, _, _, rfl⟩
    rw [hi]
    have hf : Few x ∧ Few y := by
      by_cases he : e = 0
      · subst he; exact few_right (out_imp hi).1
      · obtain ⟨rfl, rfl, _⟩ := imp_err hi he; exact ⟨few_nil, few_nil⟩
    rw [same_is x y x y hf.1 hf.2 _ (by omega), Option.bind_some, decide_eq_true (show x = x ∧ y = y from ⟨rfl, rfl⟩), if_pos rfl, if_pos rfl]
    rw [show (e != e) = false from bne_self_eq_false _, switchboardlaw16_ChunkImports.j0, if_neg (by decide)]
    by_cases he : e = 0
    · subst he
      have ho := out_imp hi
      rw [ChunkAwk.export_yes ho.1, Option.bind_some, if_pos rfl, if_pos (show (outS x y d).toList = s.toList by rw [tl, tl, bl_out, ho.2]), if_pos rfl, awake_is _ (by omega), Option.bind_some]
    · obtain ⟨rfl, rfl, rfl⟩ := imp_err hi he
      have hn : rightX [] [] 0 = false := by decide
      rw [ChunkAwk.export_no hn, Option.bind_some, if_neg he, awake_is _ (by omega), Option.bind_some]
end Go.Proofs.Ytdcojbamfchgiaa.Pure
