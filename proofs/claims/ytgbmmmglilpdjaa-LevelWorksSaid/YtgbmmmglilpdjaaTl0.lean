/- The kinds of the level's texts. -/
import Derived.Test.YtgbmmmglilpdjaaTx8
import Derived.Test.YtgbmmmglilpdjaaProg
import Derived.Laws.Externs
set_option linter.unusedVariables false
set_option linter.unusedSimpArgs false
namespace Go.Ax
open Go.Proofs Go.RowKit
set_option maxRecDepth 100000

noncomputable abbrev LP : Program := Try.prog
theorem mixedL : LP.follows .mixedOrders = true := by kernel_rfl

structure Ent where
  key : ByteArray
  seq : Int
  del : Bool
  val : ByteArray

structure Meta where
  num : Int
  level : Int
  low : ByteArray
  high : ByteArray
  size : Int

structure Vers where
  files : List Meta
  log : Int
  next : Int
  seq : Int

structure Conf where
  files : Int
  size : Int
  cut : Int

def entE : Enc Ent := ⟨fun e => .agg [.v (.string e.key), .v (.int .u64 e.seq), .v (.bool e.del), .v (.string e.val)], 4, fun _ => rfl, fun _ => rfl⟩
def metaE : Enc Meta := ⟨fun e => .agg [.v (.int .i64 e.num), .v (.int .i64 e.level), .v (.string e.low), .v (.string e.high), .v (.int .i64 e.size)], 5, fun _ => rfl, fun _ => rfl⟩
def intE : Enc Int := ⟨fun e => .v (.int .i64 e), 1, fun _ => rfl, fun _ => rfl⟩
def u64E : Enc Int := ⟨fun e => .v (.int .u64 e), 1, fun _ => rfl, fun _ => rfl⟩

def Δ0 : REnv := fun _ _ _ _ _ => False
theorem Δ0_ok {P : Program} : ∀ f, SoundR P f (Δ0 f) := fun f => .none f
def Γ0 : Env := fun _ => .none
theorem Γ0_ok {P : Program} : ∀ f, SoundF P f (Γ0 f) := fun f => sound_none f

end Go.Ax
