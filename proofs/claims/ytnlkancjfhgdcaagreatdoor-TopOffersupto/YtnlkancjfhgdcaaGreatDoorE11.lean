/- Proved here: functions of the program, printed as propositions. Conditions: none beyond the hypotheses that each theorem states. -/
import Derived.Test.YtnlkancjfhgdcaaGreatDoorE09
set_option linter.all false
set_option maxRecDepth 100000
open Go Go.Proofs
namespace Ev
noncomputable section
variable{a0 a1 a2 a3 a4 a5 a6 a7 a8 a9 x0 x1 x2 x3 x4 x5 x6 x7 x8 x9 x10 x11 x12 x13 x14 x15 x16 x17 x18 x19 x20:AV}{h:aL}{K:KH}{N:List AV→aL→Prop}{e:Ends}{rt:List AV→aL→Prop}
theorem aM0(s:RO (aO .geq .no a0 (iv 1)) fun v=>
 gV v true (fun w=>w a0 h) h fun w x=>
 Qr v true (aO .leq .no w (iv 11)) x fun w x=>
 RO (bJ w (.bool false) v) fun v=>
 aQ v=true∧K v x):C 326 [a0] h K:=
 ent Tryz.func326 (A:=cT) rfl rfl (Eq.mp (by kernel_rfl) s)
theorem aM1(s:C 457 [(iv 2),(iv 0),a0] h fun v w=>
 RO (aR 0 v) fun x=>
 RO (aR 1 v) fun v=>
 aQ x=true∧aQ v=true∧K (.tuple [x,v]) w):C 456 [a0] h K:=
 ent Tryz.func456 (A:=cT) rfl rfl (Eq.mp (by kernel_rfl) s)
theorem aM2(s:RO (aO .eql .no a0 (iv 1)) fun v=>
 cB v (C 464 [a1,a2] h fun v w=>
 RO (aR 0 v) fun x=>
 RO (aR 1 v) fun v=>
 aQ x=true∧aQ v=true∧K (.tuple [x,v]) w)
 (RO (aO .eql .no a0 (iv 2)) fun v=>
 cB v (C 465 [a1,a2] h fun v w=>
 RO (aR 0 v) fun x=>
 RO (aR 1 v) fun v=>
 aQ x=true∧aQ v=true∧K (.tuple [x,v]) w)
 (RO (aO .eql .no a0 (iv 3)) fun v=>
 cB v (C 466 [a1,a2] h fun v w=>
 RO (aR 0 v) fun x=>
 RO (aR 1 v) fun v=>
 aQ x=true∧aQ v=true∧K (.tuple [x,v]) w)
 (RO (aO .eql .no a0 (iv 4)) fun v=>
 cB v (C 467 [a1,a2] h fun v w=>
 RO (aR 0 v) fun x=>
 RO (aR 1 v) fun y=>
 RO (aR 2 v) fun v=>
 aQ x=true∧aQ v=true∧K (.tuple [x,v]) w)
 (RO (aO .eql .no a0 (iv 5)) fun v=>
 cB v (C 467 [a1,a2] h fun v w=>
 RO (aR 0 v) fun x=>
 RO (aR 1 v) fun x=>
 RO (aR 2 v) fun v=>
 aQ x=true∧aQ v=true∧K (.tuple [x,v]) w)
 (RO (aO .eql .no a0 (iv 6)) fun v=>
 cB v (RO (aO .eql .no a1 a2) fun v=>
 C 468 [v] h fun v w=>
 RO (aR 0 v) fun x=>
 RO (aR 1 v) fun v=>
 aQ x=true∧aQ v=true∧K (.tuple [x,v]) w)
 (RO (aO .eql .no a0 (iv 7)) fun v=>
 cB v (RO (aO .neq .no a1 a2) fun v=>
 C 468 [v] h fun v w=>
 RO (aR 0 v) fun x=>
 RO (aR 1 v) fun v=>
 aQ x=true∧aQ v=true∧K (.tuple [x,v]) w)
 (RO (aO .eql .no a0 (iv 8)) fun v=>
 cB v (RO (aO .lss .no a1 a2) fun v=>
 C 468 [v] h fun v w=>
 RO (aR 0 v) fun x=>
 RO (aR 1 v) fun v=>
 aQ x=true∧aQ v=true∧K (.tuple [x,v]) w)
 (RO (aO .eql .no a0 (iv 9)) fun v=>
 cB v (RO (aO .leq .no a1 a2) fun v=>
 C 468 [v] h fun v w=>
 RO (aR 0 v) fun x=>
 RO (aR 1 v) fun v=>
 aQ x=true∧aQ v=true∧K (.tuple [x,v]) w)
 (RO (aO .eql .no a0 (iv 10)) fun v=>
 cB v (RO (aO .neq .no a1 (iv 0)) fun v=>
 gV v true (fun w=>w a2 h) h fun w x=>
 Qr v true (aO .neq .no w (iv 0)) x fun w x=>
 RO (bJ w (.bool false) v) fun v=>
 C 468 [v] x fun v w=>
 RO (aR 0 v) fun x=>
 RO (aR 1 v) fun v=>
 aQ x=true∧aQ v=true∧K (.tuple [x,v]) w)
 (RO (aO .eql .no a0 (iv 11)) fun v=>
 cB v (RO (aO .neq .no a1 (iv 0)) fun v=>
 gV v false (fun w=>w a2 h) h fun w x=>
 Qr v false (aO .neq .no w (iv 0)) x fun w x=>
 RO (bJ (.bool true) w v) fun v=>
 C 468 [v] x fun v w=>
 RO (aR 0 v) fun x=>
 RO (aR 1 v) fun v=>
 aQ x=true∧aQ v=true∧K (.tuple [x,v]) w)
 (aQ (iv 0)=true∧aQ (iv 1)=true∧K (.tuple [(iv 0),(iv 1)]) h)))))))))))):C 457 [a0,a1,a2] h K:=
 ent Tryz.func457 (A:=cT) rfl rfl (Eq.mp (by kernel_rfl) s)
theorem aM3(s:RO (aO .add .no a0 a1) fun v=>
 RO (aO .lss .no a0 (iv 0)) fun w=>
 RO (aO .lss .no a1 (iv 0)) fun x=>
 RO (aO .eql .bool w x) fun w=>
 gV w true (fun x=>x v h) h fun x y=>
 Qr w true (aO .lss .no x (iv 0)) y fun x y=>
 gV w true (fun z=>z a0 y) y fun y z=>
 Qr w true (aO .lss .no y (iv 0)) z fun y z=>
 Qr w true (aO .neq .bool x y) z fun x y=>
 RO (bJ x (.bool false) w) fun w=>
 cB w (aQ (iv 0)=true∧aQ (iv 6)=true∧K (.tuple [(iv 0),(iv 6)]) y)
 (aQ v=true∧aQ (iv 0)=true∧K (.tuple [v,(iv 0)]) y)):C 464 [a0,a1] h K:=
 ent Tryz.func464 (A:=cT) rfl rfl (Eq.mp (by kernel_rfl) s)
theorem aM4(s:RO (aO .sub .no a0 a1) fun v=>
 RO (aO .lss .no a0 (iv 0)) fun w=>
 RO (aO .lss .no a1 (iv 0)) fun x=>
 RO (aO .neq .bool w x) fun w=>
 gV w true (fun x=>x v h) h fun x y=>
 Qr w true (aO .lss .no x (iv 0)) y fun x y=>
 gV w true (fun z=>z a0 y) y fun y z=>
 Qr w true (aO .lss .no y (iv 0)) z fun y z=>
 Qr w true (aO .neq .bool x y) z fun x y=>
 RO (bJ x (.bool false) w) fun w=>
 cB w (aQ (iv 0)=true∧aQ (iv 6)=true∧K (.tuple [(iv 0),(iv 6)]) y)
 (aQ v=true∧aQ (iv 0)=true∧K (.tuple [v,(iv 0)]) y)):C 465 [a0,a1] h K:=
 ent Tryz.func465 (A:=cT) rfl rfl (Eq.mp (by kernel_rfl) s)
theorem aM5(s:C 475 [a0] h fun v w=>
 C 475 [a1] w fun w x=>
 C 474 [v,w] x fun v w=>
 RO (aR 0 v) fun x=>
 RO (aR 1 v) fun v=>
 (fun(j8:AV→aL→Prop)=>
 RO (aO .lss .no a0 (iv 0)) fun y=>
 RO (aO .lss .no a1 (iv 0)) fun z=>
 RO (aO .neq .bool y z) fun y=>
 cB y (RO (aO .add .no (.int .u64 9223372036854775807) (.int .u64 1)) fun y=>
 j8 y w)
 (j8 (.int .u64 9223372036854775807) w))
 fun x13 w=>
 RO (aO .gtr .no x (.int .u64 0)) fun x=>
 gV x false (fun y=>y v w) w fun v w=>
 gV x false (fun y=>y x13 w) w fun w y=>
 Qr x false (aO .gtr .no v w) y fun v w=>
 RO (bJ (.bool true) v x) fun v=>
 cB v (aQ (iv 0)=true∧aQ (iv 6)=true∧K (.tuple [(iv 0),(iv 6)]) w)
 (RO (aO .mul .no a0 a1) fun v=>
 aQ v=true∧aQ (iv 0)=true∧K (.tuple [v,(iv 0)]) w)):C 466 [a0,a1] h K:=
 ent Tryz.func466 (A:=cT) rfl rfl (Eq.mp (by kernel_rfl) s)
theorem aM6(s:RO (aO .eql .no a1 (iv 0)) fun v=>
 cB v (aQ (iv 0)=true∧aQ (iv 0)=true∧aQ (iv 7)=true∧K (.tuple [(iv 0),(iv 0),(iv 7)]) h)
 (RO (aO .eql .no a0 (iv (-9223372036854775808))) fun v=>
 gV v true (fun w=>w a1 h) h fun w x=>
 Qr v true (aO .eql .no w (iv (-1))) x fun w x=>
 RO (bJ w (.bool false) v) fun v=>
 cB v (aQ (iv 0)=true∧aQ (iv 0)=true∧aQ (iv 6)=true∧K (.tuple [(iv 0),(iv 0),(iv 6)]) x)
 (RO (aO .quo .no a0 a1) fun v=>
 RO (aO .rem .no a0 a1) fun w=>
 aQ v=true∧aQ w=true∧aQ (iv 0)=true∧K (.tuple [v,w,(iv 0)]) (up x 9)))):C 467 [a0,a1] h K:=
 ent Tryz.func467 (A:=cT) rfl rfl (Eq.mp (by kernel_rfl) s)
theorem aHR(s:cB a0 (aQ (iv 1)=true∧aQ (iv 0)=true∧K (.tuple [(iv 1),(iv 0)]) h)
 (aQ (iv 0)=true∧aQ (iv 0)=true∧K (.tuple [(iv 0),(iv 0)]) h)):C 468 [a0] h K:=
 ent Tryz.func468 (A:=cT) rfl rfl (Eq.mp (by kernel_rfl) s)
theorem aM7(s:RO (aO .lss .no a0 (iv 0)) fun v=>
 cB v (RO (qM .u64 a0) fun v=>
 RO (gS .neg v) fun v=>
 aQ v=true∧K v h)
 (RO (qM .u64 a0) fun v=>
 aQ v=true∧K v h)):C 475 [a0] h K:=
 ent Tryz.func475 (A:=cT) rfl rfl (Eq.mp (by kernel_rfl) s)
theorem aM8(s:RO (aO .and .no a0 (.int .u64 4294967295)) fun v=>
 RO (aO .shr .no a0 (.int .u64 32)) fun w=>
 RO (aO .and .no a1 (.int .u64 4294967295)) fun x=>
 RO (aO .shr .no a1 (.int .u64 32)) fun y=>
 RO (aO .mul .no v x) fun z=>
 RO (aO .mul .no w x) fun x=>
 RO (aO .shr .no z (.int .u64 32)) fun z=>
 RO (aO .add .no x z) fun x=>
 RO (aO .and .no x (.int .u64 4294967295)) fun z=>
 RO (aO .shr .no x (.int .u64 32)) fun x=>
 RO (aO .mul .no v y) fun v=>
 RO (aO .add .no z v) fun v=>
 RO (aO .mul .no w y) fun w=>
 RO (aO .add .no w x) fun w=>
 RO (aO .shr .no v (.int .u64 32)) fun v=>
 RO (aO .add .no w v) fun v=>
 RO (aO .mul .no a0 a1) fun w=>
 aQ v=true∧aQ w=true∧K (.tuple [v,w]) h):C 474 [a0,a1] h K:=
 ent Tryz.func474 (A:=cT) rfl rfl (Eq.mp (by kernel_rfl) s)
end
end Ev
