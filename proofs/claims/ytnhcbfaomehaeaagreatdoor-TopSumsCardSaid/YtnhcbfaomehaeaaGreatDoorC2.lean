/- The tables of the program, and that they hold. Printed by gentab.py. -/
import Derived.Test.YtnhcbfaomehaeaaGreatDoorC1
import Derived.Test.YtnhcbfaomehaeaaGreatDoorProg
import Derived.KernelRfl
namespace Go.Proofs.YtnhcbfaomehaeaaGreatDoor.R1
open Go
set_option maxRecDepth 100000

noncomputable def ti2 : TI := ⟨.int .i64, 1, 8, [.int .i64 0]⟩
noncomputable def ti3 : TI := ⟨.int .i64, 1, 8, [.int .i64 0]⟩
noncomputable def ti4 : TI := ⟨.bool, 1, 1, [.bool false]⟩
noncomputable def ti5 : TI := ⟨.int .u8, 1, 1, [.int .u8 0]⟩
noncomputable def ti9 : TI := ⟨.str, 1, 16, [.string ⟨⟨[]⟩⟩]⟩
noncomputable def ti24 : TI := ⟨.slice 25, 1, 24, [.slice none 0 0]⟩
noncomputable def ti25 : TI := ⟨.slice 2, 1, 24, [.slice none 0 0]⟩
noncomputable def ti31 : TI := ⟨.iface, 1, 16, [.nilIface]⟩
noncomputable def ti40 : TI := ⟨.ptr 71, 1, 8, [.pointer none]⟩
noncomputable def ti42 : TI := ⟨.int .i64, 1, 8, [.int .i64 0]⟩
noncomputable def ti43 : TI := ⟨.slice 75, 1, 24, [.slice none 0 0]⟩
noncomputable def ti46 : TI := ⟨.ptr 49, 1, 8, [.pointer none]⟩
noncomputable def ti47 : TI := ⟨.slice 5, 1, 24, [.slice none 0 0]⟩
noncomputable def ti49 : TI := ⟨.struct [(0, (1, 46)), (1, (1, 47))], 2, 32, [.pointer none, .slice none 0 0]⟩
noncomputable def ti53 : TI := ⟨.slice 124, 1, 24, [.slice none 0 0]⟩
noncomputable def ti55 : TI := ⟨.struct [(0, (1, 53)), (1, (1, 42))], 2, 32, [.slice none 0 0, .int .i64 0]⟩
noncomputable def ti57 : TI := ⟨.struct [(0, (2, 55)), (2, (1, 9))], 3, 48, [.slice none 0 0, .int .i64 0, .string ⟨⟨[]⟩⟩]⟩
noncomputable def ti62 : TI := ⟨.int .u64, 1, 8, [.int .u64 0]⟩
noncomputable def ti65 : TI := ⟨.int .u64, 1, 8, [.int .u64 0]⟩
noncomputable def ti66 : TI := ⟨.ptr 91, 1, 8, [.pointer none]⟩
noncomputable def ti68 : TI := ⟨.ptr 101, 1, 8, [.pointer none]⟩
noncomputable def ti71 : TI := ⟨.struct [(0, (1, 3)), (1, (1, 66)), (2, (1, 68))], 3, 24, [.int .i64 0, .pointer none, .pointer none]⟩
noncomputable def ti72 : TI := ⟨.slice 9, 1, 24, [.slice none 0 0]⟩
noncomputable def ti75 : TI := ⟨.struct [(0, (1, 3)), (1, (1, 3)), (2, (1, 3)), (3, (1, 3)), (4, (1, 4)), (5, (1, 25))], 6, 64, [.int .i64 0, .int .i64 0, .int .i64 0, .int .i64 0, .bool false, .slice none 0 0]⟩
noncomputable def ti85 : TI := ⟨.ptr 5, 1, 8, [.pointer none]⟩
noncomputable def ti86 : TI := ⟨.ptr 132, 1, 8, [.pointer none]⟩
noncomputable def ti89 : TI := ⟨.struct [(0, (1, 3)), (1, (1, 3)), (2, (1, 4))], 3, 24, [.int .i64 0, .int .i64 0, .bool false]⟩
noncomputable def ti91 : TI := ⟨.struct [(0, (1, 86))], 1, 8, [.pointer none]⟩
noncomputable def ti92 : TI := ⟨.ptr 140, 1, 8, [.pointer none]⟩
noncomputable def ti94 : TI := ⟨.ptr 146, 1, 8, [.pointer none]⟩
noncomputable def ti96 : TI := ⟨.ptr 149, 1, 8, [.pointer none]⟩
noncomputable def ti98 : TI := ⟨.ptr 153, 1, 8, [.pointer none]⟩
noncomputable def ti101 : TI := ⟨.struct [(0, (1, 92)), (1, (1, 94)), (2, (1, 96)), (3, (1, 98)), (4, (1, 3))], 5, 40, [.pointer none, .pointer none, .pointer none, .pointer none, .int .i64 0]⟩
noncomputable def ti107 : TI := ⟨.array 8 9, 8, 128, [.string ⟨⟨[]⟩⟩, .string ⟨⟨[]⟩⟩, .string ⟨⟨[]⟩⟩, .string ⟨⟨[]⟩⟩, .string ⟨⟨[]⟩⟩, .string ⟨⟨[]⟩⟩, .string ⟨⟨[]⟩⟩, .string ⟨⟨[]⟩⟩]⟩
noncomputable def ti109 : TI := ⟨.array 2 9, 2, 32, [.string ⟨⟨[]⟩⟩, .string ⟨⟨[]⟩⟩]⟩
noncomputable def ti112 : TI := ⟨.struct [(0, (1, 42)), (1, (1, 3))], 2, 16, [.int .i64 0, .int .i64 0]⟩
noncomputable def ti115 : TI := ⟨.other, 1, 8, [.nilFunc]⟩
noncomputable def ti116 : TI := ⟨.array 8 115, 8, 64, [.nilFunc, .nilFunc, .nilFunc, .nilFunc, .nilFunc, .nilFunc, .nilFunc, .nilFunc]⟩
noncomputable def ti120 : TI := ⟨.ptr 42, 1, 8, [.pointer none]⟩
noncomputable def ti124 : TI := ⟨.struct [(0, (1, 3)), (1, (1, 3)), (2, (1, 3)), (3, (1, 3))], 4, 32, [.int .i64 0, .int .i64 0, .int .i64 0, .int .i64 0]⟩
noncomputable def ti128 : TI := ⟨.uptr, 1, 8, [.pointer none]⟩
noncomputable def ti130 : TI := ⟨.map 3 89, 1, 8, [.map none]⟩
noncomputable def ti132 : TI := ⟨.struct [(0, (1, 3)), (1, (1, 130))], 2, 16, [.int .i64 0, .map none]⟩
noncomputable def ti133 : TI := ⟨.ptr 185, 1, 8, [.pointer none]⟩
noncomputable def ti135 : TI := ⟨.ptr 193, 1, 8, [.pointer none]⟩
noncomputable def ti138 : TI := ⟨.struct [(0, (1, 133)), (1, (1, 135))], 2, 16, [.pointer none, .pointer none]⟩
noncomputable def ti140 : TI := ⟨.struct [(0, (2, 138))], 2, 16, [.pointer none, .pointer none]⟩
noncomputable def ti141 : TI := ⟨.map 3 3, 1, 8, [.map none]⟩
noncomputable def ti142 : TI := ⟨.slice 182, 1, 24, [.slice none 0 0]⟩
noncomputable def ti144 : TI := ⟨.struct [(0, (1, 142)), (1, (1, 141))], 2, 32, [.slice none 0 0, .map none]⟩
noncomputable def ti146 : TI := ⟨.struct [(0, (2, 144))], 2, 32, [.slice none 0 0, .map none]⟩
noncomputable def ti147 : TI := ⟨.map 3 302, 1, 8, [.map none]⟩
noncomputable def ti149 : TI := ⟨.struct [(0, (1, 147))], 1, 8, [.map none]⟩
noncomputable def ti151 : TI := ⟨.slice 248, 1, 24, [.slice none 0 0]⟩
noncomputable def ti153 : TI := ⟨.struct [(0, (1, 151))], 1, 24, [.slice none 0 0]⟩
noncomputable def ti177 : TI := ⟨.array 3 3, 3, 24, [.int .i64 0, .int .i64 0, .int .i64 0]⟩
noncomputable def ti179 : TI := ⟨.ptr 224, 1, 8, [.pointer none]⟩
noncomputable def ti182 : TI := ⟨.struct [(0, (1, 3)), (1, (1, 3)), (2, (1, 4)), (3, (1, 3)), (4, (1, 25)), (5, (1, 3)), (6, (1, 3)), (7, (1, 3)), (8, (1, 3))], 9, 88, [.int .i64 0, .int .i64 0, .bool false, .int .i64 0, .slice none 0 0, .int .i64 0, .int .i64 0, .int .i64 0, .int .i64 0]⟩
noncomputable def ti183 : TI := ⟨.slice 3, 1, 24, [.slice none 0 0]⟩
noncomputable def ti185 : TI := ⟨.struct [(0, (1, 179)), (1, (1, 183))], 2, 32, [.pointer none, .slice none 0 0]⟩
noncomputable def ti186 : TI := ⟨.ptr 227, 1, 8, [.pointer none]⟩
noncomputable def ti189 : TI := ⟨.struct [(0, (1, 3)), (1, (1, 25))], 2, 32, [.int .i64 0, .slice none 0 0]⟩
noncomputable def ti191 : TI := ⟨.struct [(0, (2, 189)), (2, (1, 25))], 3, 56, [.int .i64 0, .slice none 0 0, .slice none 0 0]⟩
noncomputable def ti193 : TI := ⟨.struct [(0, (1, 3)), (1, (1, 186))], 2, 16, [.int .i64 0, .pointer none]⟩
noncomputable def ti198 : TI := ⟨.slice 31, 1, 24, [.slice none 0 0]⟩
noncomputable def ti221 : TI := ⟨.array 12 9, 12, 192, [.string ⟨⟨[]⟩⟩, .string ⟨⟨[]⟩⟩, .string ⟨⟨[]⟩⟩, .string ⟨⟨[]⟩⟩, .string ⟨⟨[]⟩⟩, .string ⟨⟨[]⟩⟩, .string ⟨⟨[]⟩⟩, .string ⟨⟨[]⟩⟩, .string ⟨⟨[]⟩⟩, .string ⟨⟨[]⟩⟩, .string ⟨⟨[]⟩⟩, .string ⟨⟨[]⟩⟩]⟩
noncomputable def ti222 : TI := ⟨.map 3 182, 1, 8, [.map none]⟩
noncomputable def ti224 : TI := ⟨.struct [(0, (1, 3)), (1, (1, 222))], 2, 16, [.int .i64 0, .map none]⟩
noncomputable def ti225 : TI := ⟨.map 3 191, 1, 8, [.map none]⟩
noncomputable def ti227 : TI := ⟨.struct [(0, (1, 3)), (1, (1, 225))], 2, 16, [.int .i64 0, .map none]⟩
noncomputable def ti248 : TI := ⟨.struct [(0, (1, 3)), (1, (1, 3)), (2, (1, 3))], 3, 24, [.int .i64 0, .int .i64 0, .int .i64 0]⟩
noncomputable def ti261 : TI := ⟨.struct [(0, (1, 3)), (1, (1, 3)), (2, (1, 142)), (3, (1, 3))], 4, 48, [.int .i64 0, .int .i64 0, .slice none 0 0, .int .i64 0]⟩
noncomputable def ti286 : TI := ⟨.slice 53, 1, 24, [.slice none 0 0]⟩
noncomputable def ti297 : TI := ⟨.ptr 151, 1, 8, [.pointer none]⟩
noncomputable def ti299 : TI := ⟨.ptr 144, 1, 8, [.pointer none]⟩
noncomputable def ti302 : TI := ⟨.struct [(0, (9, 182)), (9, (1, 3))], 10, 96, [.int .i64 0, .int .i64 0, .bool false, .int .i64 0, .slice none 0 0, .int .i64 0, .int .i64 0, .int .i64 0, .int .i64 0, .int .i64 0]⟩
noncomputable def ti306 : TI := ⟨.other, 1, 8, [.nilFunc]⟩
noncomputable def ti308 : TI := ⟨.struct [(0, (1, 306))], 1, 8, [.nilFunc]⟩
noncomputable def ti309 : TI := ⟨.array 5 308, 5, 40, [.nilFunc, .nilFunc, .nilFunc, .nilFunc, .nilFunc]⟩
noncomputable def ti313 : TI := ⟨.struct [(0, (1, 53))], 1, 24, [.slice none 0 0]⟩
noncomputable def ti333 : TI := ⟨.other, 1, 8, [.nilFunc]⟩
noncomputable def ti361 : TI := ⟨.struct [(0, (1, 3)), (1, (1, 142))], 2, 32, [.int .i64 0, .slice none 0 0]⟩
noncomputable def ti379 : TI := ⟨.slice 361, 1, 24, [.slice none 0 0]⟩
noncomputable def ti387 : TI := ⟨.other, 1, 8, [.nilFunc]⟩
noncomputable def ti392 : TI := ⟨.slice 189, 1, 24, [.slice none 0 0]⟩
noncomputable def ti420 : TI := ⟨.slice 142, 1, 24, [.slice none 0 0]⟩
noncomputable def tyT : T TI := (.n none (.n none (.n (some ti3) (.n none (.n none (.n (some ti31) (.n none .e (.n (some ti191) .e .e)) .e) (.n (some ti47) .e .e)) (.n none (.n none (.n (some ti71) (.n (some ti135) .e .e) .e) .e) (.n (some ti55) (.n none (.n (some ti151) .e .e) .e) (.n none (.n (some ti183) .e .e) .e)))) (.n none (.n none (.n none (.n none (.n none .e (.n (some ti387) .e .e)) .e) (.n none .e (.n (some ti227) .e .e))) (.n none (.n none (.n (some ti147) .e .e) .e) (.n (some ti115) (.n (some ti179) .e .e) .e))) (.n none (.n (some ti43) (.n (some ti75) .e .e) (.n (some ti107) (.n none (.n (some ti299) .e .e) .e) .e)) (.n none (.n (some ti91) .e .e) (.n none .e (.n none (.n (some ti379) .e .e) .e)))))) (.n (some ti5) (.n (some ti9) (.n none (.n none (.n (some ti65) .e (.n (some ti193) .e .e)) (.n none .e (.n (some ti225) .e .e))) (.n (some ti49) .e (.n none (.n (some ti177) .e .e) .e))) (.n (some ti25) (.n none .e (.n none (.n none (.n (some ti297) .e .e) .e) (.n none (.n (some ti361) .e .e) .e))) (.n (some ti57) (.n (some ti89) (.n (some ti153) .e .e) .e) (.n none (.n (some ti185) (.n (some ti313) .e .e) .e) .e)))) (.n none (.n none (.n none (.n none (.n (some ti133) (.n (some ti261) .e .e) .e) .e) (.n (some ti101) .e .e)) (.n (some ti53) (.n (some ti85) (.n (some ti149) .e .e) .e) (.n none (.n none (.n (some ti309) .e .e) .e) .e))) (.n none (.n none (.n none (.n (some ti141) .e .e) (.n none (.n (some ti333) .e .e) .e)) (.n (some ti109) .e .e)) (.n none (.n none .e (.n (some ti221) .e .e)) (.n none (.n (some ti189) .e .e) .e)))))) (.n (some ti2) (.n (some ti4) (.n none (.n none (.n none (.n none (.n (some ti128) .e .e) .e) (.n (some ti96) .e (.n (some ti224) .e .e))) (.n none (.n none (.n (some ti144) .e .e) .e) (.n (some ti112) .e .e))) (.n (some ti24) (.n (some ti40) (.n (some ti72) (.n none .e (.n (some ti392) .e .e)) .e) .e) (.n none .e (.n (some ti120) .e (.n (some ti248) .e .e))))) (.n none (.n none (.n none (.n (some ti68) (.n (some ti132) .e .e) .e) (.n none (.n none .e (.n (some ti420) .e .e)) .e)) (.n none .e (.n (some ti116) (.n none (.n (some ti308) .e .e) .e) .e))) (.n none (.n none (.n none (.n (some ti140) .e .e) .e) .e) (.n none (.n (some ti92) .e .e) (.n (some ti124) .e .e))))) (.n none (.n none (.n none (.n none (.n (some ti66) (.n (some ti130) .e .e) .e) (.n (some ti98) .e .e)) (.n none (.n none (.n (some ti146) .e .e) .e) (.n none (.n none (.n (some ti306) .e .e) .e) .e))) (.n none (.n (some ti42) (.n none (.n (some ti138) .e .e) .e) .e) (.n none .e (.n none (.n (some ti186) .e .e) .e)))) (.n none (.n none (.n none (.n none .e (.n (some ti198) .e .e)) .e) (.n none (.n (some ti86) .e .e) (.n none (.n (some ti182) .e .e) .e))) (.n none (.n (some ti46) (.n none (.n (some ti142) .e .e) .e) (.n none (.n none (.n (some ti302) .e .e) .e) .e)) (.n (some ti62) (.n (some ti94) (.n none (.n (some ti286) .e .e) .e) (.n (some ti222) .e .e)) .e))))))

noncomputable def fnT : T FI := (.n none (.n none (.n none (.n (some (fiOf Tryz.f7)) (.n (some (fiOf Tryz.f15)) (.n (some (fiOf Tryz.f31)) (.n (some (fiOf Tryz.f63)) (.n (some (fiOf Tryz.f127)) (.n (some (fiOf Tryz.f255)) .e .e) .e) (.n (some (fiOf Tryz.f191)) .e .e)) (.n none (.n none (.n (some (fiOf Tryz.f287)) .e .e) .e) (.n (some (.lem .phaseNext)) .e .e))) (.n (some (fiOf Tryz.f47)) (.n (some (fiOf Tryz.f79)) (.n none (.n (some (fiOf Tryz.f271)) .e .e) .e) .e) (.n (some (fiOf Tryz.f111)) (.n (some (fiOf Tryz.f175)) .e .e) .e))) (.n (some (fiOf Tryz.f23)) (.n (some (fiOf Tryz.f39)) (.n none (.n (some (fiOf Tryz.f135)) (.n (some (fiOf Tryz.f263)) .e .e) .e) .e) (.n none (.n (some (fiOf Tryz.f167)) (.n (some (fiOf Tryz.f295)) .e .e) .e) (.n (some (fiOf Tryz.f231)) .e .e))) (.n (some (fiOf Tryz.f55)) (.n (some (fiOf Tryz.f87)) (.n (some (fiOf Tryz.f151)) (.n (some (fiOf Tryz.f279)) .e .e) .e) .e) (.n (some (fiOf Tryz.f119)) .e (.n (some (fiOf Tryz.f247)) .e .e))))) (.n (some (fiOf Tryz.f11)) (.n (some (.ext .add64 0)) (.n (some (fiOf Tryz.f35)) (.n (some (fiOf Tryz.f67)) (.n none (.n (some (fiOf Tryz.f259)) .e .e) .e) (.n (some (fiOf Tryz.f195)) .e .e)) (.n none (.n (some (fiOf Tryz.f163)) (.n (some (fiOf Tryz.f291)) .e .e) .e) (.n (some (fiOf Tryz.f227)) .e .e))) (.n (some (fiOf Tryz.f51)) (.n (some (fiOf Tryz.f83)) (.n none (.n (some (fiOf Tryz.f275)) .e .e) .e) (.n (some (fiOf Tryz.f211)) .e .e)) (.n (some (fiOf Tryz.f115)) .e .e))) (.n (some (fiOf Tryz.f27)) (.n (some (fiOf Tryz.f43)) (.n (some (fiOf Tryz.f75)) (.n (some (.ext .indexByteString 0)) (.n (some (fiOf Tryz.f267)) .e .e) .e) (.n (some (fiOf Tryz.f203)) .e .e)) (.n none (.n (some (fiOf Tryz.f171)) (.n (some (fiOf Tryz.f299)) .e .e) .e) (.n (some (fiOf Tryz.f235)) .e .e))) (.n (some (fiOf Tryz.f59)) (.n none (.n (some (fiOf Tryz.f155)) (.n (some (fiOf Tryz.f283)) .e .e) .e) (.n (some (fiOf Tryz.f219)) .e .e)) (.n none (.n (some (fiOf Tryz.f187)) .e .e) (.n none (.n (some (fiOf Tryz.f379)) .e .e) .e)))))) (.n (some (fiOf Tryz.f5)) (.n (some (fiOf Tryz.f9)) (.n (some (fiOf Tryz.f17)) (.n (some (fiOf Tryz.f33)) (.n (some (fiOf Tryz.f65)) (.n none (.n (some (fiOf Tryz.f257)) .e .e) .e) (.n (some (fiOf Tryz.f193)) .e .e)) (.n none (.n (some (fiOf Tryz.f161)) (.n (some (fiOf Tryz.f289)) .e .e) .e) (.n (some (fiOf Tryz.f225)) .e .e))) (.n (some (.ext .noEscape 0)) (.n none (.n none (.n (some (fiOf Tryz.f273)) .e .e) .e) (.n (some (fiOf Tryz.f209)) .e .e)) (.n (some (fiOf Tryz.f113)) (.n (some (fiOf Tryz.f177)) .e .e) .e))) (.n (some (fiOf Tryz.f25)) (.n (some (fiOf Tryz.f41)) (.n none (.n (some (fiOf Tryz.f137)) .e .e) .e) (.n none (.n none (.n (some (fiOf Tryz.f297)) .e .e) .e) (.n (some (fiOf Tryz.f233)) .e .e))) (.n (some (fiOf Tryz.f57)) (.n (some (fiOf Tryz.f89)) (.n (some (fiOf Tryz.f153)) (.n (some (fiOf Tryz.f281)) .e .e) .e) .e) (.n (some (fiOf Tryz.f121)) .e (.n none (.n (some (fiOf Tryz.f377)) .e .e) .e))))) (.n (some (fiOf Tryz.f13)) (.n (some (fiOf Tryz.f21)) (.n (some (fiOf Tryz.f37)) (.n none (.n (some (fiOf Tryz.f133)) (.n (some (fiOf Tryz.f261)) .e .e) .e) (.n (some (fiOf Tryz.f197)) .e .e)) (.n none (.n (some (fiOf Tryz.f165)) (.n (some (fiOf Tryz.f293)) .e .e) .e) .e)) (.n (some (fiOf Tryz.f53)) (.n none (.n (some (fiOf Tryz.f149)) (.n (some (fiOf Tryz.f277)) .e .e) .e) (.n (some (fiOf Tryz.f213)) .e .e)) (.n (some (fiOf Tryz.f117)) .e .e))) (.n (some (fiOf Tryz.f29)) (.n none (.n (some (fiOf Tryz.f77)) (.n none (.n (some (fiOf Tryz.f269)) .e .e) .e) (.n (some (fiOf Tryz.f205)) .e .e)) (.n none (.n (some (fiOf Tryz.f173)) .e .e) .e)) (.n (some (fiOf Tryz.f61)) (.n (some (fiOf Tryz.f93)) (.n (some (fiOf Tryz.f157)) (.n (some (fiOf Tryz.f285)) .e .e) .e) (.n (some (fiOf Tryz.f221)) .e .e)) (.n (some (fiOf Tryz.f125)) (.n (some (fiOf Tryz.f189)) .e .e) .e)))))) (.n none (.n (some (fiOf Tryz.f4)) (.n (some (fiOf Tryz.f8)) (.n (some (fiOf Tryz.f16)) (.n (some (fiOf Tryz.f32)) (.n (some (fiOf Tryz.f64)) (.n none (.n (some (fiOf Tryz.f256)) .e .e) .e) (.n (some (fiOf Tryz.f192)) .e .e)) (.n (some (fiOf Tryz.f96)) (.n (some (fiOf Tryz.f160)) (.n (some (fiOf Tryz.f288)) .e .e) .e) (.n (some (fiOf Tryz.f224)) .e .e))) (.n (some (fiOf Tryz.f48)) (.n none (.n (some (fiOf Tryz.f144)) (.n (some (fiOf Tryz.f272)) .e .e) .e) .e) (.n (some (fiOf Tryz.f112)) (.n (some (fiOf Tryz.f176)) .e .e) (.n (some (fiOf Tryz.f240)) .e .e)))) (.n (some (fiOf Tryz.f24)) (.n (some (fiOf Tryz.f40)) (.n none (.n (some (fiOf Tryz.f136)) .e .e) (.n (some (fiOf Tryz.f200)) .e .e)) (.n none (.n (some (fiOf Tryz.f168)) (.n (some (fiOf Tryz.f296)) .e .e) .e) (.n (some (fiOf Tryz.f232)) .e .e))) (.n (some (fiOf Tryz.f56)) (.n (some (fiOf Tryz.f88)) (.n (some (fiOf Tryz.f152)) (.n (some (fiOf Tryz.f280)) .e .e) .e) (.n (some (fiOf Tryz.f216)) .e .e)) (.n (some (fiOf Tryz.f120)) .e (.n (some (fiOf Tryz.f248)) .e .e))))) (.n (some (fiOf Tryz.f12)) (.n (some (fiOf Tryz.f20)) (.n (some (fiOf Tryz.f36)) (.n none (.n (some (fiOf Tryz.f132)) .e .e) (.n (some (fiOf Tryz.f196)) .e .e)) (.n (some (fiOf Tryz.f100)) (.n (some (fiOf Tryz.f164)) (.n (some (fiOf Tryz.f292)) .e .e) .e) (.n (some (fiOf Tryz.f228)) .e .e))) (.n none (.n (some (fiOf Tryz.f84)) (.n (some (fiOf Tryz.f148)) .e .e) (.n (some (fiOf Tryz.f212)) .e .e)) (.n (some (fiOf Tryz.f116)) .e (.n (some (fiOf Tryz.f244)) .e .e)))) (.n (some (fiOf Tryz.f28)) (.n (some (fiOf Tryz.f44)) (.n (some (fiOf Tryz.f76)) .e (.n (some (fiOf Tryz.f204)) .e .e)) (.n none (.n (some (fiOf Tryz.f172)) (.n (some (fiOf Tryz.f300)) .e .e) .e) (.n (some (fiOf Tryz.f236)) .e .e))) (.n (some (fiOf Tryz.f60)) (.n (some (fiOf Tryz.f92)) .e (.n (some (fiOf Tryz.f220)) .e .e)) (.n none (.n (some (fiOf Tryz.f188)) .e .e) (.n none (.n (some (fiOf Tryz.f380)) .e .e) .e)))))) (.n (some (fiOf Tryz.f6)) (.n (some (fiOf Tryz.f10)) (.n (some (fiOf Tryz.f18)) (.n (some (fiOf Tryz.f34)) (.n none (.n none (.n (some (fiOf Tryz.f258)) .e .e) .e) (.n (some (fiOf Tryz.f194)) .e .e)) (.n none (.n (some (fiOf Tryz.f162)) (.n (some (fiOf Tryz.f290)) .e .e) .e) .e)) (.n (some (fiOf Tryz.f50)) (.n (some (.ext .countString 0)) (.n none (.n (some (fiOf Tryz.f274)) .e .e) .e) (.n (some (fiOf Tryz.f210)) .e .e)) (.n (some (fiOf Tryz.f114)) (.n (some (fiOf Tryz.f178)) .e .e) (.n (some (fiOf Tryz.f242)) .e .e)))) (.n (some (fiOf Tryz.f26)) (.n (some (fiOf Tryz.f42)) (.n none (.n (some (.ext .makeNoZero 5)) (.n (some (fiOf Tryz.f266)) .e .e) .e) .e) (.n none (.n none (.n (some (fiOf Tryz.f298)) .e .e) .e) (.n (some (fiOf Tryz.f234)) .e .e))) (.n (some (fiOf Tryz.f58)) (.n (some (fiOf Tryz.f90)) (.n (some (fiOf Tryz.f154)) (.n (some (fiOf Tryz.f282)) .e .e) .e) (.n none (.n (some (fiOf Tryz.f346)) .e .e) .e)) (.n (some (fiOf Tryz.f122)) .e (.n (some (fiOf Tryz.f250)) .e .e))))) (.n (some (fiOf Tryz.f14)) (.n (some (fiOf Tryz.f22)) (.n (some (fiOf Tryz.f38)) (.n (some (fiOf Tryz.f70)) (.n (some (fiOf Tryz.f134)) (.n (some (fiOf Tryz.f262)) .e .e) .e) .e) (.n (some (fiOf Tryz.f102)) (.n (some (fiOf Tryz.f166)) (.n (some (fiOf Tryz.f294)) .e .e) .e) (.n (some (fiOf Tryz.f230)) .e .e))) (.n (some (fiOf Tryz.f54)) (.n (some (fiOf Tryz.f86)) (.n (some (fiOf Tryz.f150)) .e .e) (.n (some (fiOf Tryz.f214)) .e .e)) (.n none (.n (some (fiOf Tryz.f182)) .e .e) (.n (some (fiOf Tryz.f246)) .e .e)))) (.n (some (fiOf Tryz.f30)) (.n (some (fiOf Tryz.f46)) (.n (some (fiOf Tryz.f78)) (.n none (.n (some (fiOf Tryz.f270)) .e .e) .e) (.n (some (fiOf Tryz.f206)) .e .e)) (.n none (.n (some (fiOf Tryz.f174)) .e .e) (.n (some (fiOf Tryz.f238)) .e .e))) (.n (some (fiOf Tryz.f62)) (.n none (.n (some (fiOf Tryz.f158)) (.n (some (fiOf Tryz.f286)) .e .e) .e) (.n (some (fiOf Tryz.f222)) .e .e)) (.n (some (fiOf Tryz.f126)) (.n (some (fiOf Tryz.f190)) .e .e) (.n (some (fiOf Tryz.f254)) .e .e))))))))
noncomputable def tb : Tab := ⟨tyT, fnT, [(299, "Push", 380, none), (299, "Pop", 379, none), (299, "Len", 209, none), (297, "Push", 377, none), (297, "Len", 346, some 151)], 14⟩

theorem tys : allT (tyB Tryz.prog) tyT 0 1 = true := by kernel_rfl

theorem fo4 : FnOk Tryz.prog 4 (fiOf Tryz.f4) := fnOk_of Tryz.func4 (by kernel_rfl)
theorem fo5 : FnOk Tryz.prog 5 (fiOf Tryz.f5) := fnOk_of Tryz.func5 (by kernel_rfl)
theorem fo6 : FnOk Tryz.prog 6 (fiOf Tryz.f6) := fnOk_of Tryz.func6 (by kernel_rfl)
theorem fo7 : FnOk Tryz.prog 7 (fiOf Tryz.f7) := fnOk_of Tryz.func7 (by kernel_rfl)
theorem fo8 : FnOk Tryz.prog 8 (fiOf Tryz.f8) := fnOk_of Tryz.func8 (by kernel_rfl)
theorem fo9 : FnOk Tryz.prog 9 (fiOf Tryz.f9) := fnOk_of Tryz.func9 (by kernel_rfl)
theorem fo10 : FnOk Tryz.prog 10 (fiOf Tryz.f10) := fnOk_of Tryz.func10 (by kernel_rfl)
theorem fo11 : FnOk Tryz.prog 11 (fiOf Tryz.f11) := fnOk_of Tryz.func11 (by kernel_rfl)
theorem fo12 : FnOk Tryz.prog 12 (fiOf Tryz.f12) := fnOk_of Tryz.func12 (by kernel_rfl)
theorem fo13 : FnOk Tryz.prog 13 (fiOf Tryz.f13) := fnOk_of Tryz.func13 (by kernel_rfl)
theorem fo14 : FnOk Tryz.prog 14 (fiOf Tryz.f14) := fnOk_of Tryz.func14 (by kernel_rfl)
theorem fo15 : FnOk Tryz.prog 15 (fiOf Tryz.f15) := fnOk_of Tryz.func15 (by kernel_rfl)
theorem fo16 : FnOk Tryz.prog 16 (fiOf Tryz.f16) := fnOk_of Tryz.func16 (by kernel_rfl)
theorem fo17 : FnOk Tryz.prog 17 (fiOf Tryz.f17) := fnOk_of Tryz.func17 (by kernel_rfl)
theorem fo18 : FnOk Tryz.prog 18 (fiOf Tryz.f18) := fnOk_of Tryz.func18 (by kernel_rfl)
theorem fo20 : FnOk Tryz.prog 20 (fiOf Tryz.f20) := fnOk_of Tryz.func20 (by kernel_rfl)
theorem fo21 : FnOk Tryz.prog 21 (fiOf Tryz.f21) := fnOk_of Tryz.func21 (by kernel_rfl)
theorem fo22 : FnOk Tryz.prog 22 (fiOf Tryz.f22) := fnOk_of Tryz.func22 (by kernel_rfl)
theorem fo23 : FnOk Tryz.prog 23 (fiOf Tryz.f23) := fnOk_of Tryz.func23 (by kernel_rfl)
theorem fo24 : FnOk Tryz.prog 24 (fiOf Tryz.f24) := fnOk_of Tryz.func24 (by kernel_rfl)
theorem fo25 : FnOk Tryz.prog 25 (fiOf Tryz.f25) := fnOk_of Tryz.func25 (by kernel_rfl)
theorem fo26 : FnOk Tryz.prog 26 (fiOf Tryz.f26) := fnOk_of Tryz.func26 (by kernel_rfl)
theorem fo27 : FnOk Tryz.prog 27 (fiOf Tryz.f27) := fnOk_of Tryz.func27 (by kernel_rfl)
theorem fo28 : FnOk Tryz.prog 28 (fiOf Tryz.f28) := fnOk_of Tryz.func28 (by kernel_rfl)
theorem fo29 : FnOk Tryz.prog 29 (fiOf Tryz.f29) := fnOk_of Tryz.func29 (by kernel_rfl)
theorem fo30 : FnOk Tryz.prog 30 (fiOf Tryz.f30) := fnOk_of Tryz.func30 (by kernel_rfl)
theorem fo31 : FnOk Tryz.prog 31 (fiOf Tryz.f31) := fnOk_of Tryz.func31 (by kernel_rfl)
theorem fo32 : FnOk Tryz.prog 32 (fiOf Tryz.f32) := fnOk_of Tryz.func32 (by kernel_rfl)
theorem fo33 : FnOk Tryz.prog 33 (fiOf Tryz.f33) := fnOk_of Tryz.func33 (by kernel_rfl)
theorem fo34 : FnOk Tryz.prog 34 (fiOf Tryz.f34) := fnOk_of Tryz.func34 (by kernel_rfl)
theorem fo35 : FnOk Tryz.prog 35 (fiOf Tryz.f35) := fnOk_of Tryz.func35 (by kernel_rfl)
theorem fo36 : FnOk Tryz.prog 36 (fiOf Tryz.f36) := fnOk_of Tryz.func36 (by kernel_rfl)
theorem fo37 : FnOk Tryz.prog 37 (fiOf Tryz.f37) := fnOk_of Tryz.func37 (by kernel_rfl)
theorem fo38 : FnOk Tryz.prog 38 (fiOf Tryz.f38) := fnOk_of Tryz.func38 (by kernel_rfl)
theorem fo39 : FnOk Tryz.prog 39 (fiOf Tryz.f39) := fnOk_of Tryz.func39 (by kernel_rfl)
theorem fo40 : FnOk Tryz.prog 40 (fiOf Tryz.f40) := fnOk_of Tryz.func40 (by kernel_rfl)
theorem fo41 : FnOk Tryz.prog 41 (fiOf Tryz.f41) := fnOk_of Tryz.func41 (by kernel_rfl)
theorem fo42 : FnOk Tryz.prog 42 (fiOf Tryz.f42) := fnOk_of Tryz.func42 (by kernel_rfl)
theorem fo43 : FnOk Tryz.prog 43 (fiOf Tryz.f43) := fnOk_of Tryz.func43 (by kernel_rfl)
theorem fo44 : FnOk Tryz.prog 44 (fiOf Tryz.f44) := fnOk_of Tryz.func44 (by kernel_rfl)
theorem fo46 : FnOk Tryz.prog 46 (fiOf Tryz.f46) := fnOk_of Tryz.func46 (by kernel_rfl)
theorem fo47 : FnOk Tryz.prog 47 (fiOf Tryz.f47) := fnOk_of Tryz.func47 (by kernel_rfl)
theorem fo48 : FnOk Tryz.prog 48 (fiOf Tryz.f48) := fnOk_of Tryz.func48 (by kernel_rfl)
theorem fo50 : FnOk Tryz.prog 50 (fiOf Tryz.f50) := fnOk_of Tryz.func50 (by kernel_rfl)
theorem fo51 : FnOk Tryz.prog 51 (fiOf Tryz.f51) := fnOk_of Tryz.func51 (by kernel_rfl)
theorem fo53 : FnOk Tryz.prog 53 (fiOf Tryz.f53) := fnOk_of Tryz.func53 (by kernel_rfl)
theorem fo54 : FnOk Tryz.prog 54 (fiOf Tryz.f54) := fnOk_of Tryz.func54 (by kernel_rfl)
theorem fo55 : FnOk Tryz.prog 55 (fiOf Tryz.f55) := fnOk_of Tryz.func55 (by kernel_rfl)
theorem fo56 : FnOk Tryz.prog 56 (fiOf Tryz.f56) := fnOk_of Tryz.func56 (by kernel_rfl)
theorem fo57 : FnOk Tryz.prog 57 (fiOf Tryz.f57) := fnOk_of Tryz.func57 (by kernel_rfl)
theorem fo58 : FnOk Tryz.prog 58 (fiOf Tryz.f58) := fnOk_of Tryz.func58 (by kernel_rfl)
theorem fo59 : FnOk Tryz.prog 59 (fiOf Tryz.f59) := fnOk_of Tryz.func59 (by kernel_rfl)
theorem fo60 : FnOk Tryz.prog 60 (fiOf Tryz.f60) := fnOk_of Tryz.func60 (by kernel_rfl)
theorem fo61 : FnOk Tryz.prog 61 (fiOf Tryz.f61) := fnOk_of Tryz.func61 (by kernel_rfl)
theorem fo62 : FnOk Tryz.prog 62 (fiOf Tryz.f62) := fnOk_of Tryz.func62 (by kernel_rfl)
theorem fo63 : FnOk Tryz.prog 63 (fiOf Tryz.f63) := fnOk_of Tryz.func63 (by kernel_rfl)
theorem fo64 : FnOk Tryz.prog 64 (fiOf Tryz.f64) := fnOk_of Tryz.func64 (by kernel_rfl)
theorem fo65 : FnOk Tryz.prog 65 (fiOf Tryz.f65) := fnOk_of Tryz.func65 (by kernel_rfl)
theorem fo67 : FnOk Tryz.prog 67 (fiOf Tryz.f67) := fnOk_of Tryz.func67 (by kernel_rfl)
theorem fo70 : FnOk Tryz.prog 70 (fiOf Tryz.f70) := fnOk_of Tryz.func70 (by kernel_rfl)
theorem fo75 : FnOk Tryz.prog 75 (fiOf Tryz.f75) := fnOk_of Tryz.func75 (by kernel_rfl)
theorem fo76 : FnOk Tryz.prog 76 (fiOf Tryz.f76) := fnOk_of Tryz.func76 (by kernel_rfl)
theorem fo77 : FnOk Tryz.prog 77 (fiOf Tryz.f77) := fnOk_of Tryz.func77 (by kernel_rfl)
theorem fo78 : FnOk Tryz.prog 78 (fiOf Tryz.f78) := fnOk_of Tryz.func78 (by kernel_rfl)
theorem fo79 : FnOk Tryz.prog 79 (fiOf Tryz.f79) := fnOk_of Tryz.func79 (by kernel_rfl)
theorem fo83 : FnOk Tryz.prog 83 (fiOf Tryz.f83) := fnOk_of Tryz.func83 (by kernel_rfl)
theorem fo84 : FnOk Tryz.prog 84 (fiOf Tryz.f84) := fnOk_of Tryz.func84 (by kernel_rfl)
theorem fo86 : FnOk Tryz.prog 86 (fiOf Tryz.f86) := fnOk_of Tryz.func86 (by kernel_rfl)
theorem fo87 : FnOk Tryz.prog 87 (fiOf Tryz.f87) := fnOk_of Tryz.func87 (by kernel_rfl)
theorem fo88 : FnOk Tryz.prog 88 (fiOf Tryz.f88) := fnOk_of Tryz.func88 (by kernel_rfl)
theorem fo89 : FnOk Tryz.prog 89 (fiOf Tryz.f89) := fnOk_of Tryz.func89 (by kernel_rfl)
theorem fo90 : FnOk Tryz.prog 90 (fiOf Tryz.f90) := fnOk_of Tryz.func90 (by kernel_rfl)
theorem fo92 : FnOk Tryz.prog 92 (fiOf Tryz.f92) := fnOk_of Tryz.func92 (by kernel_rfl)
theorem fo93 : FnOk Tryz.prog 93 (fiOf Tryz.f93) := fnOk_of Tryz.func93 (by kernel_rfl)
theorem fo96 : FnOk Tryz.prog 96 (fiOf Tryz.f96) := fnOk_of Tryz.func96 (by kernel_rfl)
theorem fo100 : FnOk Tryz.prog 100 (fiOf Tryz.f100) := fnOk_of Tryz.func100 (by kernel_rfl)
theorem fo102 : FnOk Tryz.prog 102 (fiOf Tryz.f102) := fnOk_of Tryz.func102 (by kernel_rfl)
theorem fo111 : FnOk Tryz.prog 111 (fiOf Tryz.f111) := fnOk_of Tryz.func111 (by kernel_rfl)
theorem fo112 : FnOk Tryz.prog 112 (fiOf Tryz.f112) := fnOk_of Tryz.func112 (by kernel_rfl)
theorem fo113 : FnOk Tryz.prog 113 (fiOf Tryz.f113) := fnOk_of Tryz.func113 (by kernel_rfl)
theorem fo114 : FnOk Tryz.prog 114 (fiOf Tryz.f114) := fnOk_of Tryz.func114 (by kernel_rfl)
theorem fo115 : FnOk Tryz.prog 115 (fiOf Tryz.f115) := fnOk_of Tryz.func115 (by kernel_rfl)
theorem fo116 : FnOk Tryz.prog 116 (fiOf Tryz.f116) := fnOk_of Tryz.func116 (by kernel_rfl)
theorem fo117 : FnOk Tryz.prog 117 (fiOf Tryz.f117) := fnOk_of Tryz.func117 (by kernel_rfl)
theorem fo119 : FnOk Tryz.prog 119 (fiOf Tryz.f119) := fnOk_of Tryz.func119 (by kernel_rfl)
theorem fo120 : FnOk Tryz.prog 120 (fiOf Tryz.f120) := fnOk_of Tryz.func120 (by kernel_rfl)
theorem fo121 : FnOk Tryz.prog 121 (fiOf Tryz.f121) := fnOk_of Tryz.func121 (by kernel_rfl)
theorem fo122 : FnOk Tryz.prog 122 (fiOf Tryz.f122) := fnOk_of Tryz.func122 (by kernel_rfl)
theorem fo125 : FnOk Tryz.prog 125 (fiOf Tryz.f125) := fnOk_of Tryz.func125 (by kernel_rfl)
theorem fo126 : FnOk Tryz.prog 126 (fiOf Tryz.f126) := fnOk_of Tryz.func126 (by kernel_rfl)
theorem fo127 : FnOk Tryz.prog 127 (fiOf Tryz.f127) := fnOk_of Tryz.func127 (by kernel_rfl)
theorem fo132 : FnOk Tryz.prog 132 (fiOf Tryz.f132) := fnOk_of Tryz.func132 (by kernel_rfl)
theorem fo133 : FnOk Tryz.prog 133 (fiOf Tryz.f133) := fnOk_of Tryz.func133 (by kernel_rfl)
theorem fo134 : FnOk Tryz.prog 134 (fiOf Tryz.f134) := fnOk_of Tryz.func134 (by kernel_rfl)
theorem fo135 : FnOk Tryz.prog 135 (fiOf Tryz.f135) := fnOk_of Tryz.func135 (by kernel_rfl)
theorem fo136 : FnOk Tryz.prog 136 (fiOf Tryz.f136) := fnOk_of Tryz.func136 (by kernel_rfl)
theorem fo137 : FnOk Tryz.prog 137 (fiOf Tryz.f137) := fnOk_of Tryz.func137 (by kernel_rfl)
theorem fo144 : FnOk Tryz.prog 144 (fiOf Tryz.f144) := fnOk_of Tryz.func144 (by kernel_rfl)
theorem fo148 : FnOk Tryz.prog 148 (fiOf Tryz.f148) := fnOk_of Tryz.func148 (by kernel_rfl)
theorem fo149 : FnOk Tryz.prog 149 (fiOf Tryz.f149) := fnOk_of Tryz.func149 (by kernel_rfl)
theorem fo150 : FnOk Tryz.prog 150 (fiOf Tryz.f150) := fnOk_of Tryz.func150 (by kernel_rfl)
theorem fo151 : FnOk Tryz.prog 151 (fiOf Tryz.f151) := fnOk_of Tryz.func151 (by kernel_rfl)
theorem fo152 : FnOk Tryz.prog 152 (fiOf Tryz.f152) := fnOk_of Tryz.func152 (by kernel_rfl)
theorem fo153 : FnOk Tryz.prog 153 (fiOf Tryz.f153) := fnOk_of Tryz.func153 (by kernel_rfl)
theorem fo154 : FnOk Tryz.prog 154 (fiOf Tryz.f154) := fnOk_of Tryz.func154 (by kernel_rfl)
theorem fo155 : FnOk Tryz.prog 155 (fiOf Tryz.f155) := fnOk_of Tryz.func155 (by kernel_rfl)
theorem fo157 : FnOk Tryz.prog 157 (fiOf Tryz.f157) := fnOk_of Tryz.func157 (by kernel_rfl)
theorem fo158 : FnOk Tryz.prog 158 (fiOf Tryz.f158) := fnOk_of Tryz.func158 (by kernel_rfl)
theorem fo160 : FnOk Tryz.prog 160 (fiOf Tryz.f160) := fnOk_of Tryz.func160 (by kernel_rfl)
theorem fo161 : FnOk Tryz.prog 161 (fiOf Tryz.f161) := fnOk_of Tryz.func161 (by kernel_rfl)
theorem fo162 : FnOk Tryz.prog 162 (fiOf Tryz.f162) := fnOk_of Tryz.func162 (by kernel_rfl)
theorem fo163 : FnOk Tryz.prog 163 (fiOf Tryz.f163) := fnOk_of Tryz.func163 (by kernel_rfl)
theorem fo164 : FnOk Tryz.prog 164 (fiOf Tryz.f164) := fnOk_of Tryz.func164 (by kernel_rfl)
theorem fo165 : FnOk Tryz.prog 165 (fiOf Tryz.f165) := fnOk_of Tryz.func165 (by kernel_rfl)
theorem fo166 : FnOk Tryz.prog 166 (fiOf Tryz.f166) := fnOk_of Tryz.func166 (by kernel_rfl)
theorem fo167 : FnOk Tryz.prog 167 (fiOf Tryz.f167) := fnOk_of Tryz.func167 (by kernel_rfl)
theorem fo168 : FnOk Tryz.prog 168 (fiOf Tryz.f168) := fnOk_of Tryz.func168 (by kernel_rfl)
theorem fo171 : FnOk Tryz.prog 171 (fiOf Tryz.f171) := fnOk_of Tryz.func171 (by kernel_rfl)
theorem fo172 : FnOk Tryz.prog 172 (fiOf Tryz.f172) := fnOk_of Tryz.func172 (by kernel_rfl)
theorem fo173 : FnOk Tryz.prog 173 (fiOf Tryz.f173) := fnOk_of Tryz.func173 (by kernel_rfl)
theorem fo174 : FnOk Tryz.prog 174 (fiOf Tryz.f174) := fnOk_of Tryz.func174 (by kernel_rfl)
theorem fo175 : FnOk Tryz.prog 175 (fiOf Tryz.f175) := fnOk_of Tryz.func175 (by kernel_rfl)
theorem fo176 : FnOk Tryz.prog 176 (fiOf Tryz.f176) := fnOk_of Tryz.func176 (by kernel_rfl)
theorem fo177 : FnOk Tryz.prog 177 (fiOf Tryz.f177) := fnOk_of Tryz.func177 (by kernel_rfl)
theorem fo178 : FnOk Tryz.prog 178 (fiOf Tryz.f178) := fnOk_of Tryz.func178 (by kernel_rfl)
theorem fo182 : FnOk Tryz.prog 182 (fiOf Tryz.f182) := fnOk_of Tryz.func182 (by kernel_rfl)
theorem fo187 : FnOk Tryz.prog 187 (fiOf Tryz.f187) := fnOk_of Tryz.func187 (by kernel_rfl)
theorem fo188 : FnOk Tryz.prog 188 (fiOf Tryz.f188) := fnOk_of Tryz.func188 (by kernel_rfl)
theorem fo189 : FnOk Tryz.prog 189 (fiOf Tryz.f189) := fnOk_of Tryz.func189 (by kernel_rfl)
theorem fo190 : FnOk Tryz.prog 190 (fiOf Tryz.f190) := fnOk_of Tryz.func190 (by kernel_rfl)
theorem fo191 : FnOk Tryz.prog 191 (fiOf Tryz.f191) := fnOk_of Tryz.func191 (by kernel_rfl)
theorem fo192 : FnOk Tryz.prog 192 (fiOf Tryz.f192) := fnOk_of Tryz.func192 (by kernel_rfl)
theorem fo193 : FnOk Tryz.prog 193 (fiOf Tryz.f193) := fnOk_of Tryz.func193 (by kernel_rfl)
theorem fo194 : FnOk Tryz.prog 194 (fiOf Tryz.f194) := fnOk_of Tryz.func194 (by kernel_rfl)
theorem fo195 : FnOk Tryz.prog 195 (fiOf Tryz.f195) := fnOk_of Tryz.func195 (by kernel_rfl)
theorem fo196 : FnOk Tryz.prog 196 (fiOf Tryz.f196) := fnOk_of Tryz.func196 (by kernel_rfl)
theorem fo197 : FnOk Tryz.prog 197 (fiOf Tryz.f197) := fnOk_of Tryz.func197 (by kernel_rfl)
theorem fo200 : FnOk Tryz.prog 200 (fiOf Tryz.f200) := fnOk_of Tryz.func200 (by kernel_rfl)
theorem fo203 : FnOk Tryz.prog 203 (fiOf Tryz.f203) := fnOk_of Tryz.func203 (by kernel_rfl)
theorem fo204 : FnOk Tryz.prog 204 (fiOf Tryz.f204) := fnOk_of Tryz.func204 (by kernel_rfl)
theorem fo205 : FnOk Tryz.prog 205 (fiOf Tryz.f205) := fnOk_of Tryz.func205 (by kernel_rfl)
theorem fo206 : FnOk Tryz.prog 206 (fiOf Tryz.f206) := fnOk_of Tryz.func206 (by kernel_rfl)
theorem fo209 : FnOk Tryz.prog 209 (fiOf Tryz.f209) := fnOk_of Tryz.func209 (by kernel_rfl)
theorem fo210 : FnOk Tryz.prog 210 (fiOf Tryz.f210) := fnOk_of Tryz.func210 (by kernel_rfl)
theorem fo211 : FnOk Tryz.prog 211 (fiOf Tryz.f211) := fnOk_of Tryz.func211 (by kernel_rfl)
theorem fo212 : FnOk Tryz.prog 212 (fiOf Tryz.f212) := fnOk_of Tryz.func212 (by kernel_rfl)
theorem fo213 : FnOk Tryz.prog 213 (fiOf Tryz.f213) := fnOk_of Tryz.func213 (by kernel_rfl)
theorem fo214 : FnOk Tryz.prog 214 (fiOf Tryz.f214) := fnOk_of Tryz.func214 (by kernel_rfl)
theorem fo216 : FnOk Tryz.prog 216 (fiOf Tryz.f216) := fnOk_of Tryz.func216 (by kernel_rfl)
theorem fo219 : FnOk Tryz.prog 219 (fiOf Tryz.f219) := fnOk_of Tryz.func219 (by kernel_rfl)
theorem fo220 : FnOk Tryz.prog 220 (fiOf Tryz.f220) := fnOk_of Tryz.func220 (by kernel_rfl)
theorem fo221 : FnOk Tryz.prog 221 (fiOf Tryz.f221) := fnOk_of Tryz.func221 (by kernel_rfl)
theorem fo222 : FnOk Tryz.prog 222 (fiOf Tryz.f222) := fnOk_of Tryz.func222 (by kernel_rfl)
theorem fo223 : FnOk Tryz.prog 223 (.lem .phaseNext) := callFunc_body Tryz.func223 (by kernel_rfl)
theorem fo224 : FnOk Tryz.prog 224 (fiOf Tryz.f224) := fnOk_of Tryz.func224 (by kernel_rfl)
theorem fo225 : FnOk Tryz.prog 225 (fiOf Tryz.f225) := fnOk_of Tryz.func225 (by kernel_rfl)
theorem fo227 : FnOk Tryz.prog 227 (fiOf Tryz.f227) := fnOk_of Tryz.func227 (by kernel_rfl)
theorem fo228 : FnOk Tryz.prog 228 (fiOf Tryz.f228) := fnOk_of Tryz.func228 (by kernel_rfl)
theorem fo230 : FnOk Tryz.prog 230 (fiOf Tryz.f230) := fnOk_of Tryz.func230 (by kernel_rfl)
theorem fo231 : FnOk Tryz.prog 231 (fiOf Tryz.f231) := fnOk_of Tryz.func231 (by kernel_rfl)
theorem fo232 : FnOk Tryz.prog 232 (fiOf Tryz.f232) := fnOk_of Tryz.func232 (by kernel_rfl)
theorem fo233 : FnOk Tryz.prog 233 (fiOf Tryz.f233) := fnOk_of Tryz.func233 (by kernel_rfl)
theorem fo234 : FnOk Tryz.prog 234 (fiOf Tryz.f234) := fnOk_of Tryz.func234 (by kernel_rfl)
theorem fo235 : FnOk Tryz.prog 235 (fiOf Tryz.f235) := fnOk_of Tryz.func235 (by kernel_rfl)
theorem fo236 : FnOk Tryz.prog 236 (fiOf Tryz.f236) := fnOk_of Tryz.func236 (by kernel_rfl)
theorem fo238 : FnOk Tryz.prog 238 (fiOf Tryz.f238) := fnOk_of Tryz.func238 (by kernel_rfl)
theorem fo240 : FnOk Tryz.prog 240 (fiOf Tryz.f240) := fnOk_of Tryz.func240 (by kernel_rfl)
theorem fo242 : FnOk Tryz.prog 242 (fiOf Tryz.f242) := fnOk_of Tryz.func242 (by kernel_rfl)
theorem fo244 : FnOk Tryz.prog 244 (fiOf Tryz.f244) := fnOk_of Tryz.func244 (by kernel_rfl)
theorem fo246 : FnOk Tryz.prog 246 (fiOf Tryz.f246) := fnOk_of Tryz.func246 (by kernel_rfl)
theorem fo247 : FnOk Tryz.prog 247 (fiOf Tryz.f247) := fnOk_of Tryz.func247 (by kernel_rfl)
theorem fo248 : FnOk Tryz.prog 248 (fiOf Tryz.f248) := fnOk_of Tryz.func248 (by kernel_rfl)
theorem fo250 : FnOk Tryz.prog 250 (fiOf Tryz.f250) := fnOk_of Tryz.func250 (by kernel_rfl)
theorem fo254 : FnOk Tryz.prog 254 (fiOf Tryz.f254) := fnOk_of Tryz.func254 (by kernel_rfl)
theorem fo255 : FnOk Tryz.prog 255 (fiOf Tryz.f255) := fnOk_of Tryz.func255 (by kernel_rfl)
theorem fo256 : FnOk Tryz.prog 256 (fiOf Tryz.f256) := fnOk_of Tryz.func256 (by kernel_rfl)
theorem fo257 : FnOk Tryz.prog 257 (fiOf Tryz.f257) := fnOk_of Tryz.func257 (by kernel_rfl)
theorem fo258 : FnOk Tryz.prog 258 (fiOf Tryz.f258) := fnOk_of Tryz.func258 (by kernel_rfl)
theorem fo259 : FnOk Tryz.prog 259 (fiOf Tryz.f259) := fnOk_of Tryz.func259 (by kernel_rfl)
theorem fo261 : FnOk Tryz.prog 261 (fiOf Tryz.f261) := fnOk_of Tryz.func261 (by kernel_rfl)
theorem fo262 : FnOk Tryz.prog 262 (fiOf Tryz.f262) := fnOk_of Tryz.func262 (by kernel_rfl)
theorem fo263 : FnOk Tryz.prog 263 (fiOf Tryz.f263) := fnOk_of Tryz.func263 (by kernel_rfl)
theorem fo266 : FnOk Tryz.prog 266 (fiOf Tryz.f266) := fnOk_of Tryz.func266 (by kernel_rfl)
theorem fo267 : FnOk Tryz.prog 267 (fiOf Tryz.f267) := fnOk_of Tryz.func267 (by kernel_rfl)
theorem fo269 : FnOk Tryz.prog 269 (fiOf Tryz.f269) := fnOk_of Tryz.func269 (by kernel_rfl)
theorem fo270 : FnOk Tryz.prog 270 (fiOf Tryz.f270) := fnOk_of Tryz.func270 (by kernel_rfl)
theorem fo271 : FnOk Tryz.prog 271 (fiOf Tryz.f271) := fnOk_of Tryz.func271 (by kernel_rfl)
theorem fo272 : FnOk Tryz.prog 272 (fiOf Tryz.f272) := fnOk_of Tryz.func272 (by kernel_rfl)
theorem fo273 : FnOk Tryz.prog 273 (fiOf Tryz.f273) := fnOk_of Tryz.func273 (by kernel_rfl)
theorem fo274 : FnOk Tryz.prog 274 (fiOf Tryz.f274) := fnOk_of Tryz.func274 (by kernel_rfl)
theorem fo275 : FnOk Tryz.prog 275 (fiOf Tryz.f275) := fnOk_of Tryz.func275 (by kernel_rfl)
theorem fo277 : FnOk Tryz.prog 277 (fiOf Tryz.f277) := fnOk_of Tryz.func277 (by kernel_rfl)
theorem fo279 : FnOk Tryz.prog 279 (fiOf Tryz.f279) := fnOk_of Tryz.func279 (by kernel_rfl)
theorem fo280 : FnOk Tryz.prog 280 (fiOf Tryz.f280) := fnOk_of Tryz.func280 (by kernel_rfl)
theorem fo281 : FnOk Tryz.prog 281 (fiOf Tryz.f281) := fnOk_of Tryz.func281 (by kernel_rfl)
theorem fo282 : FnOk Tryz.prog 282 (fiOf Tryz.f282) := fnOk_of Tryz.func282 (by kernel_rfl)
theorem fo283 : FnOk Tryz.prog 283 (fiOf Tryz.f283) := fnOk_of Tryz.func283 (by kernel_rfl)
theorem fo285 : FnOk Tryz.prog 285 (fiOf Tryz.f285) := fnOk_of Tryz.func285 (by kernel_rfl)
theorem fo286 : FnOk Tryz.prog 286 (fiOf Tryz.f286) := fnOk_of Tryz.func286 (by kernel_rfl)
theorem fo287 : FnOk Tryz.prog 287 (fiOf Tryz.f287) := fnOk_of Tryz.func287 (by kernel_rfl)
theorem fo288 : FnOk Tryz.prog 288 (fiOf Tryz.f288) := fnOk_of Tryz.func288 (by kernel_rfl)
theorem fo289 : FnOk Tryz.prog 289 (fiOf Tryz.f289) := fnOk_of Tryz.func289 (by kernel_rfl)
theorem fo290 : FnOk Tryz.prog 290 (fiOf Tryz.f290) := fnOk_of Tryz.func290 (by kernel_rfl)
theorem fo291 : FnOk Tryz.prog 291 (fiOf Tryz.f291) := fnOk_of Tryz.func291 (by kernel_rfl)
theorem fo292 : FnOk Tryz.prog 292 (fiOf Tryz.f292) := fnOk_of Tryz.func292 (by kernel_rfl)
theorem fo293 : FnOk Tryz.prog 293 (fiOf Tryz.f293) := fnOk_of Tryz.func293 (by kernel_rfl)
theorem fo294 : FnOk Tryz.prog 294 (fiOf Tryz.f294) := fnOk_of Tryz.func294 (by kernel_rfl)
theorem fo295 : FnOk Tryz.prog 295 (fiOf Tryz.f295) := fnOk_of Tryz.func295 (by kernel_rfl)
theorem fo296 : FnOk Tryz.prog 296 (fiOf Tryz.f296) := fnOk_of Tryz.func296 (by kernel_rfl)
theorem fo297 : FnOk Tryz.prog 297 (fiOf Tryz.f297) := fnOk_of Tryz.func297 (by kernel_rfl)
theorem fo298 : FnOk Tryz.prog 298 (fiOf Tryz.f298) := fnOk_of Tryz.func298 (by kernel_rfl)
theorem fo299 : FnOk Tryz.prog 299 (fiOf Tryz.f299) := fnOk_of Tryz.func299 (by kernel_rfl)
theorem fo300 : FnOk Tryz.prog 300 (fiOf Tryz.f300) := fnOk_of Tryz.func300 (by kernel_rfl)
theorem fo346 : FnOk Tryz.prog 346 (fiOf Tryz.f346) := fnOk_of Tryz.func346 (by kernel_rfl)
theorem fo377 : FnOk Tryz.prog 377 (fiOf Tryz.f377) := fnOk_of Tryz.func377 (by kernel_rfl)
theorem fo379 : FnOk Tryz.prog 379 (fiOf Tryz.f379) := fnOk_of Tryz.func379 (by kernel_rfl)
theorem fo380 : FnOk Tryz.prog 380 (fiOf Tryz.f380) := fnOk_of Tryz.func380 (by kernel_rfl)

theorem fo19 : FnOk Tryz.prog 19 (.ext .add64 0) := fun x y c w => by
  refine (callFunc_ext (e := fun args => do
    let (x, y, c) ← Extern.MathBitsCarry.three "Add64" args
    pure (Extern.MathBitsCarry.pair ((x + y + c) % Extern.MathBitsCarry.m64) ((x + y + c) / Extern.MathBitsCarry.m64))) Tryz.func19 (by kernel_rfl) (by kernel_rfl) (by kernel_rfl) (by kernel_rfl) _ w).trans ?_
  simp only [bind_assoc, pure_bind]

theorem fo139 : FnOk Tryz.prog 139 (.ext .indexByteString 0) := fun x y w => callFunc_ext (e := Extern.BytealgIndexByte.indexByte) Tryz.func139 (by kernel_rfl) (by kernel_rfl) (by kernel_rfl) (by kernel_rfl) _ w

theorem fo82 : FnOk Tryz.prog 82 (.ext .countString 0) := fun x y w => callFunc_ext (e := Extern.BytealgCount.count) Tryz.func82 (by kernel_rfl) (by kernel_rfl) (by kernel_rfl) (by kernel_rfl) _ w

theorem fo49 : FnOk Tryz.prog 49 (.ext .noEscape 0) := fun x w => by
  obtain ⟨e, he, h⟩ : ∃ e, Extern.find Tryz.f49 = some e ∧ ∀ x w, (e #[x]).run Tryz.prog w = .ok x w := ⟨_, rfl, fun _ _ => rfl⟩
  refine (callFunc_ext Tryz.func49 (by kernel_rfl) (by kernel_rfl) (by kernel_rfl) he _ w).trans ?_
  simp only [Sem.run_bind, h, Result.andThen_ok, Sem.run_pure]

theorem fo138 : FnOk Tryz.prog 138 (.ext .makeNoZero 5) := ⟨by kernel_rfl, Tryz.f138.resultTypes, _, rfl, by kernel_rfl, fun x w => callFunc_ext (e := Extern.BytealgMakeNoZero.makeNoZero #[] Tryz.f138.resultTypes) Tryz.func138 (by kernel_rfl) (by kernel_rfl) (by kernel_rfl) (by kernel_rfl) _ w⟩


theorem fns : FaT (FnOk Tryz.prog) fnT 0 1 := (.o (.o (.o (.s fo7 (.s fo15 (.s fo31 (.s fo63 (.s fo127 (.s fo255 .e .e) .e) (.s fo191 .e .e)) (.o (.o (.s fo287 .e .e) .e) (.s fo223 .e .e))) (.s fo47 (.s fo79 (.o (.s fo271 .e .e) .e) .e) (.s fo111 (.s fo175 .e .e) .e))) (.s fo23 (.s fo39 (.o (.s fo135 (.s fo263 .e .e) .e) .e) (.o (.s fo167 (.s fo295 .e .e) .e) (.s fo231 .e .e))) (.s fo55 (.s fo87 (.s fo151 (.s fo279 .e .e) .e) .e) (.s fo119 .e (.s fo247 .e .e))))) (.s fo11 (.s fo19 (.s fo35 (.s fo67 (.o (.s fo259 .e .e) .e) (.s fo195 .e .e)) (.o (.s fo163 (.s fo291 .e .e) .e) (.s fo227 .e .e))) (.s fo51 (.s fo83 (.o (.s fo275 .e .e) .e) (.s fo211 .e .e)) (.s fo115 .e .e))) (.s fo27 (.s fo43 (.s fo75 (.s fo139 (.s fo267 .e .e) .e) (.s fo203 .e .e)) (.o (.s fo171 (.s fo299 .e .e) .e) (.s fo235 .e .e))) (.s fo59 (.o (.s fo155 (.s fo283 .e .e) .e) (.s fo219 .e .e)) (.o (.s fo187 .e .e) (.o (.s fo379 .e .e) .e)))))) (.s fo5 (.s fo9 (.s fo17 (.s fo33 (.s fo65 (.o (.s fo257 .e .e) .e) (.s fo193 .e .e)) (.o (.s fo161 (.s fo289 .e .e) .e) (.s fo225 .e .e))) (.s fo49 (.o (.o (.s fo273 .e .e) .e) (.s fo209 .e .e)) (.s fo113 (.s fo177 .e .e) .e))) (.s fo25 (.s fo41 (.o (.s fo137 .e .e) .e) (.o (.o (.s fo297 .e .e) .e) (.s fo233 .e .e))) (.s fo57 (.s fo89 (.s fo153 (.s fo281 .e .e) .e) .e) (.s fo121 .e (.o (.s fo377 .e .e) .e))))) (.s fo13 (.s fo21 (.s fo37 (.o (.s fo133 (.s fo261 .e .e) .e) (.s fo197 .e .e)) (.o (.s fo165 (.s fo293 .e .e) .e) .e)) (.s fo53 (.o (.s fo149 (.s fo277 .e .e) .e) (.s fo213 .e .e)) (.s fo117 .e .e))) (.s fo29 (.o (.s fo77 (.o (.s fo269 .e .e) .e) (.s fo205 .e .e)) (.o (.s fo173 .e .e) .e)) (.s fo61 (.s fo93 (.s fo157 (.s fo285 .e .e) .e) (.s fo221 .e .e)) (.s fo125 (.s fo189 .e .e) .e)))))) (.o (.s fo4 (.s fo8 (.s fo16 (.s fo32 (.s fo64 (.o (.s fo256 .e .e) .e) (.s fo192 .e .e)) (.s fo96 (.s fo160 (.s fo288 .e .e) .e) (.s fo224 .e .e))) (.s fo48 (.o (.s fo144 (.s fo272 .e .e) .e) .e) (.s fo112 (.s fo176 .e .e) (.s fo240 .e .e)))) (.s fo24 (.s fo40 (.o (.s fo136 .e .e) (.s fo200 .e .e)) (.o (.s fo168 (.s fo296 .e .e) .e) (.s fo232 .e .e))) (.s fo56 (.s fo88 (.s fo152 (.s fo280 .e .e) .e) (.s fo216 .e .e)) (.s fo120 .e (.s fo248 .e .e))))) (.s fo12 (.s fo20 (.s fo36 (.o (.s fo132 .e .e) (.s fo196 .e .e)) (.s fo100 (.s fo164 (.s fo292 .e .e) .e) (.s fo228 .e .e))) (.o (.s fo84 (.s fo148 .e .e) (.s fo212 .e .e)) (.s fo116 .e (.s fo244 .e .e)))) (.s fo28 (.s fo44 (.s fo76 .e (.s fo204 .e .e)) (.o (.s fo172 (.s fo300 .e .e) .e) (.s fo236 .e .e))) (.s fo60 (.s fo92 .e (.s fo220 .e .e)) (.o (.s fo188 .e .e) (.o (.s fo380 .e .e) .e)))))) (.s fo6 (.s fo10 (.s fo18 (.s fo34 (.o (.o (.s fo258 .e .e) .e) (.s fo194 .e .e)) (.o (.s fo162 (.s fo290 .e .e) .e) .e)) (.s fo50 (.s fo82 (.o (.s fo274 .e .e) .e) (.s fo210 .e .e)) (.s fo114 (.s fo178 .e .e) (.s fo242 .e .e)))) (.s fo26 (.s fo42 (.o (.s fo138 (.s fo266 .e .e) .e) .e) (.o (.o (.s fo298 .e .e) .e) (.s fo234 .e .e))) (.s fo58 (.s fo90 (.s fo154 (.s fo282 .e .e) .e) (.o (.s fo346 .e .e) .e)) (.s fo122 .e (.s fo250 .e .e))))) (.s fo14 (.s fo22 (.s fo38 (.s fo70 (.s fo134 (.s fo262 .e .e) .e) .e) (.s fo102 (.s fo166 (.s fo294 .e .e) .e) (.s fo230 .e .e))) (.s fo54 (.s fo86 (.s fo150 .e .e) (.s fo214 .e .e)) (.o (.s fo182 .e .e) (.s fo246 .e .e)))) (.s fo30 (.s fo46 (.s fo78 (.o (.s fo270 .e .e) .e) (.s fo206 .e .e)) (.o (.s fo174 .e .e) (.s fo238 .e .e))) (.s fo62 (.o (.s fo158 (.s fo286 .e .e) .e) (.s fo222 .e .e)) (.s fo126 (.s fo190 .e .e) (.s fo254 .e .e))))))))


theorem me1 (v : Value) (w : World) : (method (Tryz.prog.types.size + Made.depth) 299 v "Push").run Tryz.prog w = .ok (380, v) w := by kernel_rfl
theorem me2 (v : Value) (w : World) : (method (Tryz.prog.types.size + Made.depth) 299 v "Pop").run Tryz.prog w = .ok (379, v) w := by kernel_rfl
theorem me3 (v : Value) (w : World) : (method (Tryz.prog.types.size + Made.depth) 299 v "Len").run Tryz.prog w = .ok (209, v) w := by kernel_rfl
theorem me4 (v : Value) (w : World) : (method (Tryz.prog.types.size + Made.depth) 297 v "Push").run Tryz.prog w = .ok (377, v) w := by kernel_rfl
theorem me5 (a : Addr) (w : World) : (method (Tryz.prog.types.size + Made.depth) 297 (.pointer (some a)) "Len").run Tryz.prog w = ((do let u ← loadVar 151 a; pure (346, u)) : Sem (FuncId × Value)).run Tryz.prog w := by kernel_rfl

theorem tabOk : TabOk Tryz.prog tb where
  ty := fun t ti h => by
    have := allT_get tys h
    rw [Nat.zero_add, Nat.one_mul] at this
    exact tyB_ok this
  fn := fun f fi h => by
    have := FaT.get fns h
    rwa [Nat.zero_add, Nat.one_mul] at this
  meth := fun t n f d h => by
    simp only [tb, List.mem_cons, Prod.mk.injEq, List.not_mem_nil, or_false] at h
    rcases h with ⟨rfl, rfl, rfl, rfl⟩ | ⟨rfl, rfl, rfl, rfl⟩ | ⟨rfl, rfl, rfl, rfl⟩ | ⟨rfl, rfl, rfl, rfl⟩ | ⟨rfl, rfl, rfl, rfl⟩
    · exact fun v args w => meth_of (me1 v w) (callFunc_body Tryz.func380 (by kernel_rfl)) args
    · exact fun v args w => meth_of (me2 v w) (callFunc_body Tryz.func379 (by kernel_rfl)) args
    · exact fun v args w => meth_of (me3 v w) (callFunc_body Tryz.func209 (by kernel_rfl)) args
    · exact fun v args w => meth_of (me4 v w) (callFunc_body Tryz.func377 (by kernel_rfl)) args
    · exact fun a args w u hu => meth_of (by rw [me5]; simp only [Sem.run_bind, hu, Result.andThen_ok, Sem.run_pure]) (callFunc_body Tryz.func346 (by kernel_rfl)) args
  follows := by kernel_rfl

end Go.Proofs.YtnhcbfaomehaeaaGreatDoor.R1
