/- The run of awake. -/
import Derived.Test.YtnhcbfaomehaeaaGreatDoorC2
namespace Go.Proofs.YtnhcbfaomehaeaaGreatDoor.R1
open Go
set_option maxRecDepth 1000000

noncomputable def row0 : AO := .ro [.string ⟨⟨[]⟩⟩, .string ⟨⟨[105, 110, 102]⟩⟩, .string ⟨⟨[105, 97]⟩⟩, .string ⟨⟨[105]⟩⟩, .string ⟨⟨[105, 99, 110, 97]⟩⟩, .string ⟨⟨[105]⟩⟩, .string ⟨⟨[110]⟩⟩, .string ⟨⟨[]⟩⟩] 107
noncomputable def row1 : AO := .ro [.string ⟨⟨[110, 111]⟩⟩, .string ⟨⟨[121, 101, 115]⟩⟩] 109
noncomputable def row4 : AO := .ro [.string ⟨⟨[]⟩⟩, .string ⟨⟨[99, 108, 97, 115, 115]⟩⟩, .string ⟨⟨[110, 111, 100, 101]⟩⟩, .string ⟨⟨[100, 114, 111, 112]⟩⟩, .string ⟨⟨[112, 111, 100]⟩⟩, .string ⟨⟨[100, 101, 108, 101, 116, 101]⟩⟩, .string ⟨⟨[116, 105, 99, 107]⟩⟩, .string ⟨⟨[99, 121, 99, 108, 101]⟩⟩] 107
noncomputable def row5 : AO := .ro [.string ⟨⟨[]⟩⟩, .string ⟨⟨[97, 100, 100, 101, 100]⟩⟩, .string ⟨⟨[102, 114, 101, 101, 100]⟩⟩, .string ⟨⟨[119, 111, 107, 101, 110]⟩⟩, .string ⟨⟨[105, 100, 108, 101]⟩⟩, .string ⟨⟨[98, 105, 110, 100, 115]⟩⟩, .string ⟨⟨[101, 118, 105, 99, 116, 115]⟩⟩, .string ⟨⟨[99, 108, 97, 105, 109, 115]⟩⟩, .string ⟨⟨[99, 108, 101, 97, 114, 101, 100]⟩⟩, .string ⟨⟨[119, 97, 105, 116, 115]⟩⟩, .string ⟨⟨[112, 97, 114, 107, 115]⟩⟩, .string ⟨⟨[100, 114, 111, 112, 112, 101, 100]⟩⟩] 221
noncomputable def h0 : T AO := .n (some row0) (.n (some row1) .e (.n (some row5) .e .e)) (.n none (.n (some row4) .e .e) .e)
noncomputable def s0 : St := ⟨h0, 21, 0, 0⟩

/-- True, having looked at no old block but the four, and turned none. -/
noncomputable def okRun : Option (Value × St) → Bool
  | some (.bool true, s) => Nat.beq (Nat.land (Nat.lor (Nat.land s.rd 2097100) s.wr) 2097151) 0
  | _ => false

theorem awake_run : okRun ((hdX tb 5000 40).call 4 [] s0) = true := by kernel_rfl

end Go.Proofs.YtnhcbfaomehaeaaGreatDoor.R1
