/-
  The oracles of this seat.
-/
import Derived.Test.YtpgfeijkfmgnjaaGreatDoorAwTab
import Derived.Shelf.Strings.OnBuilder
import Derived.Shelf.Strconv.Itoa0
import Derived.Shelf.Strconv.Itoa1
import Derived.Shelf.LaysM
import Derived.Shelf.Strconv.Itoa2
import Derived.Shelf.LaysC
import Derived.Shelf.Strconv.AtoiAll
import Derived.Shelf.Strings.Prefix
import Derived.Test.YtpgfeijkfmgnjaaGreatDoorProg
set_option maxHeartbeats 0
set_option maxRecDepth 100000
namespace Go.Vm.Seat
open Go.Proofs
noncomputable def zl:List (Nat×ZF):=[(210,Zpj),(261,Zpq),(99,Zin),(190,ccZ 166),(144,ZkI 166),(207,ZnY)]
def ZcY:List PV:=[.int .u64 1,.int .u64 10,.int .u64 100,.int .u64 1000,.int .u64 10000,.int .u64 100000,.int .u64 1000000,.int .u64 10000000,.int .u64 100000000,.int .u64 1000000000,.int .u64 10000000000,.int .u64 100000000000,.int .u64 1000000000000,.int .u64 10000000000000,.int .u64 100000000000000,.int .u64 1000000000000000,.int .u64 10000000000000000,.int .u64 100000000000000000,.int .u64 1000000000000000000,.int .u64 10000000000000000000]
noncomputable def E0:Env where
 T:=ZpP Ztp
 F:=fun f=>match Zsi zl f with|true=>none|false=>Zqb Zvu f
 G:=fun k=>(match Nat.beq k 3 with|true=>some ZcY|false=>none)
 Z:=ZjG zl
 eff:=fun f=>[203,198,86,155,156,204,246,269,205,143,190,144].any (Nat.beq f)
 own:=fun f d=>[(182,31)].any fun x=>Nat.beq f x.1&&Nat.beq d x.2
 tyd:=fun t=>Nat.beq t 166
 I:=fun k=>[1,2].any (Nat.beq k)
 mono:=false
theorem tOk:TOk E0 Tryz.prog:=⟨fun _ _ h=>Zcn h⟩
theorem fOk:FOk E0 Tryz.prog:=fun f fn c h hb=>by
 simp only [E0] at h
 split at h
 · cases h
 · exact Zne h hb
theorem follows:Tryz.prog.follows .mixedOrders=true:=by kernel_rfl
noncomputable def E1:Env:={E0 with mono:=true}
theorem ZgA:TOk E1 Tryz.prog:=⟨fun _ _ h=>Zcn h⟩
theorem Zlw {f:FuncId} {args:List PV} {H H':Heap} {r:PV} (h:CallOk E1 Tryz.prog f args H r H'):CallOk E0 Tryz.prog f args H r H':=CallOk.env (E:=E1) (E':=E0) (hG:=rfl) (hI:=rfl) (hm:=fun _=>rfl) h
theorem ZhG (c:UInt8):((c.toNat:Int)=46)↔c=46:=by
 constructor
 · intro h
   apply UInt8.toNat_inj.1
   have:c.toNat=46:=by omega
   rw [this];rfl
 · rintro rfl;rfl
theorem Zhj : ∀ (s : Bs) (k : Nat), (V7 s 46 k = -1 ∧ ZbQ s 46 = 0 ∧ ZG s = [s]) ∨
  ∃ a b,s=a++46::b∧V7 s 46 k=((k+a.length:Nat):Int)∧ZG s=a::ZG b∧ZbQ s 46=ZbQ b 46+1
 | [],k=> .inl ⟨rfl,rfl,rfl⟩
 | c :: r, k => by
   by_cases h:c=46
   · subst h
     refine .inr ⟨[],r,rfl,?_,?_,?_⟩
     · simp [V7]
     · simp [ZG]
     · simp [ZbQ]
   · have h1 : ¬ ((c.toNat : Int) = 46) := fun e => h ((ZhG c).1 e)
     have h2:(c==46)=false:=by simpa using h
     have e1:V7 (c::r) 46 k=V7 r 46 (k+1):=by simp [V7,h1]
     have e2:ZbQ (c::r) 46=ZbQ r 46:=by simp [ZbQ,h1]
     rw [e1,e2]
     rcases Zhj r (k+1) with ⟨q1,q2,q3⟩|⟨a,b,q1,q2,q3,q4⟩
     · exact .inl ⟨q1,q2,by simp only [ZG,h2,q3]⟩
     · refine .inr ⟨c :: a, b, by rw [q1]; rfl, ?_, by simp only [ZG, h2, q3], q4⟩
       rw [q2]
       simp
       omega
theorem ZcS (s : Bs) : (V7 s 46 0 = -1 ∧ ZbQ s 46 = 0 ∧ ZG s = [s]) ∨
  ∃ a b,s=a++46::b∧V7 s 46 0=(a.length:Int)∧ZG s=a::ZG b∧ZbQ s 46=ZbQ b 46+1:=by
 have:=Zhj s 0
 simpa using this
def ZlX:Bs→Nat
 | []=>0
 |b::r=>if b=46 then ZlX r+1 else ZlX r
theorem Wx:∀ s:Bs,ZbQ s 46=(ZlX s:Int)
 | []=>rfl
 | b :: r => by
   simp only [ZbQ,ZlX,ZhG]
   split
   · rw [Wx r];simp
   · exact Wx r
theorem Zjv:∀ s:Bs,ZlX s≤s.length
 | []=>Nat.le_refl _
 | b :: r => by
   simp only [ZlX,List.length_cons]
   have:=Zjv r
   split<;>omega
end Go.Vm.Seat
namespace Go.Proofs
open Go.Shelf Go.RowKit Go.Sort Go.Lib
def Tryz.lays156_ren:Go.Shelf.Ren:=⟨fun|156=>99|165=>142|166=>143|169=>144|240=>190|241=>191|276=>236|277=>237|n=>n,fun|31=>61|9=>9|3=>3|4=>4|0=>0|20=>20|72=>166|76=>137|70=>163|37=>164|75=>136|127=>195|164=>221|5=>5|80=>168|n=>n,fun|n=>n⟩
theorem Tryz.lays156:Go.Proofs.Lays.n156 Tryz.prog Tryz.lays156_ren:={
 mixed:=by kernel_rfl
 f156:=Tryz.func99.trans (congrArg some (by kernel_rfl))
 f165:=Tryz.func142.trans (congrArg some (by kernel_rfl))
 f166:=Tryz.func143.trans (congrArg some (by kernel_rfl))
 f169:=Tryz.func144.trans (congrArg some (by kernel_rfl))
 f240:=Tryz.func190.trans (congrArg some (by kernel_rfl))
 f241:=Tryz.func191.trans (congrArg some (by kernel_rfl))
 f276:=Tryz.func236.trans (congrArg some (by kernel_rfl))
 f277:=Tryz.func237.trans (congrArg some (by kernel_rfl))
 t0:=Tryz.underlying0
 a0:=Tryz.isAgg0
 z0:=Tryz.sizeOf0
 v0:=Tryz.zeroValue0
 t3:=Tryz.underlying3
 a3:=Tryz.isAgg3
 z3:=Tryz.sizeOf3
 v3:=Tryz.zeroValue3
 t4:=Tryz.underlying4
 a4:=Tryz.isAgg4
 z4:=Tryz.sizeOf4
 v4:=Tryz.zeroValue4
 t9:=Tryz.underlying9
 a9:=Tryz.isAgg9
 z9:=Tryz.sizeOf9
 v9:=Tryz.zeroValue9
 t20:=Tryz.underlying20
 a20:=Tryz.isAgg20
 z20:=Tryz.sizeOf20
 v20:=Tryz.zeroValue20
 t31:=Tryz.underlying61
 a31:=Tryz.isAgg61
 z31:=Tryz.sizeOf61
 v31:=Tryz.zeroValue61
 t37:=Tryz.underlying164
 a37:=Tryz.isAgg164
 z37:=Tryz.sizeOf164
 v37:=Tryz.zeroValue164
 t70:=Tryz.underlying163
 a70:=Tryz.isAgg163
 z70:=Tryz.sizeOf163
 v70:=Tryz.zeroValue163
 t72:=Tryz.underlying166
 a72:=Tryz.isAgg166
 z72:=Tryz.sizeOf166
 v72:=Tryz.zeroValue166
 t75:=Tryz.underlying136
 a75:=Tryz.isAgg136
 z75:=Tryz.sizeOf136
 v75:=Tryz.zeroValue136
 t76:=Tryz.underlying137
 a76:=Tryz.isAgg137
 z76:=Tryz.sizeOf137
 v76:=Tryz.zeroValue137
 t127:=Tryz.underlying195
 a127:=Tryz.isAgg195
 z127:=Tryz.sizeOf195
 v127:=Tryz.zeroValue195
 t164:=Tryz.underlying221
 a164:=Tryz.isAgg221
 z164:=Tryz.sizeOf221
 v164:=Tryz.zeroValue221}
theorem Tryz.Builder_Extra_156:Builder.Extra Tryz.prog Tryz.lays156_ren:={
 sizeBuilder:=by kernel_rfl
 liesBuilder:=by kernel_rfl
 t5:=Tryz.underlying5
 a5:=Tryz.isAgg5
 z5:=Tryz.sizeOf5
 v5:=Tryz.zeroValue5
 infoByte:=by kernel_rfl
 cellsByte:=by kernel_rfl
 sizeByte:=by kernel_rfl
 neB5:=by decide}
theorem Tryz.strings_Join_none (a : Option Addr) (c : Nat) (sep : ByteArray) (w : World) :
  Calls Tryz.prog 99 #[.slice a 0 c,.string sep] w fun e w'=>e= .returned (.string ⟨#[]⟩)∧w'=w:=Any.strings_Join_none Tryz.lays156 Tryz.Builder_Extra_156 a c sep w
theorem Tryz.strings_Join (bk o c : Nat) (xs : List ByteArray) (sep : ByteArray) (w : World) (hcells : ∀ (j : Nat) x, xs[j]? = some x → w.cell? ⟨bk, o + j, none⟩ = some (.string x)) (hbk : bk < w.heap.size) (hN : xs.length ≤ 140737488355328) (hcap : xs.length ≤ c) (hlen : (Lib.join (xs.map (·.data.toList)) sep.data.toList).length ≤ 140737488355328) :
  Calls Tryz.prog 99 #[.slice (some ⟨bk,o,none⟩) xs.length c,.string sep] w fun e w'=>e= .returned (.string ⟨(Lib.join (xs.map (·.data.toList)) sep.data.toList).toArray⟩)∧Below w.heap.size w w':=Any.strings_Join Tryz.lays156 Tryz.Builder_Extra_156 bk o c xs sep w hcells hbk hN hcap hlen
def Tryz.lays129_ren:Go.Shelf.Ren:=⟨fun|129=>242|n=>n,fun|53=>203|3=>3|4=>4|46=>180|5=>5|9=>9|n=>n,fun|n=>n⟩
theorem Tryz.lays129:Go.Proofs.Lays.n129 Tryz.prog Tryz.lays129_ren:={
 mixed:=by kernel_rfl
 f129:=Tryz.func242.trans (congrArg some (by kernel_rfl))
 t3:=Tryz.underlying3
 a3:=Tryz.isAgg3
 z3:=Tryz.sizeOf3
 v3:=Tryz.zeroValue3
 t4:=Tryz.underlying4
 a4:=Tryz.isAgg4
 z4:=Tryz.sizeOf4
 v4:=Tryz.zeroValue4
 t5:=Tryz.underlying5
 a5:=Tryz.isAgg5
 z5:=Tryz.sizeOf5
 v5:=Tryz.zeroValue5
 t9:=Tryz.underlying9
 a9:=Tryz.isAgg9
 z9:=Tryz.sizeOf9
 v9:=Tryz.zeroValue9
 t46:=Tryz.underlying180
 a46:=Tryz.isAgg180
 z46:=Tryz.sizeOf180
 v46:=Tryz.zeroValue180
 t53:=Tryz.underlying203
 a53:=Tryz.isAgg203
 z53:=Tryz.sizeOf203
 v53:=Tryz.zeroValue203}
theorem Tryz.bits_Len64 (x : Int) (w : World) (h0 : 0 ≤ x) (h1 : x ≤ 18446744073709551615) :
  Calls Tryz.prog 242 #[.int .u64 x] w fun e w'=>e= .returned (.int .i64 (Lib.bitLen x.toNat))∧w'=w:=Any.bits_Len64 Tryz.lays129 x w h0 h1
def Tryz.lays317_ren:Go.Shelf.Ren:=⟨fun|317=>241|n=>n,fun|3=>3|46=>180|n=>n,fun|n=>n⟩
theorem Tryz.lays317:Go.Proofs.Lays.n317 Tryz.prog Tryz.lays317_ren:={
 mixed:=by kernel_rfl
 f317:=Tryz.func241.trans (congrArg some (by kernel_rfl))
 t3:=Tryz.underlying3
 a3:=Tryz.isAgg3
 z3:=Tryz.sizeOf3
 v3:=Tryz.zeroValue3
 t46:=Tryz.underlying180
 a46:=Tryz.isAgg180
 z46:=Tryz.sizeOf180
 v46:=Tryz.zeroValue180}
theorem Tryz.internal_strconv_log10Pow2 (x : Nat) (h : x ≤ 64) (w : World) :
  Calls Tryz.prog 241 #[.int .i64 x] w fun e w'=>e= .returned (.int .i64 (Lib.l10 x))∧w'=w:=Any.internal_strconv_log10Pow2 Tryz.lays317 x h w
def Tryz.lays318_ren:Go.Shelf.Ren:=⟨fun|318=>243|n=>n,fun|3=>3|4=>4|n=>n,fun|n=>n⟩
theorem Tryz.lays318:Go.Proofs.Lays.n318 Tryz.prog Tryz.lays318_ren:={
 mixed:=by kernel_rfl
 f318:=Tryz.func243.trans (congrArg some (by kernel_rfl))
 t3:=Tryz.underlying3
 a3:=Tryz.isAgg3
 z3:=Tryz.sizeOf3
 v3:=Tryz.zeroValue3
 t4:=Tryz.underlying4
 a4:=Tryz.isAgg4
 z4:=Tryz.sizeOf4
 v4:=Tryz.zeroValue4}
theorem Tryz.internal_strconv_bool2_int (b : Bool) (w : World) :
  Calls Tryz.prog 243 #[.bool b] w fun e w'=>e= .returned (.int .i64 (if b then 1 else 0))∧w'=w:=Any.internal_strconv_bool2_int Tryz.lays318 b w
def Tryz.lays283_ren:Go.Shelf.Ren:=⟨fun|283=>199|n=>n,fun|3=>3|9=>9|4=>4|n=>n,fun|n=>n⟩
theorem Tryz.lays283:Go.Proofs.Lays.n283 Tryz.prog Tryz.lays283_ren:={
 mixed:=by kernel_rfl
 f283:=Tryz.func199.trans (congrArg some (by kernel_rfl))
 t3:=Tryz.underlying3
 a3:=Tryz.isAgg3
 z3:=Tryz.sizeOf3
 v3:=Tryz.zeroValue3
 t4:=Tryz.underlying4
 a4:=Tryz.isAgg4
 z4:=Tryz.sizeOf4
 v4:=Tryz.zeroValue4
 t9:=Tryz.underlying9
 a9:=Tryz.isAgg9
 z9:=Tryz.sizeOf9
 v9:=Tryz.zeroValue9}
theorem Tryz.internal_strconv_small (i : Nat) (h : i < 100) (w : World) :
  Calls Tryz.prog 199 #[.int .i64 i] w fun e w'=>e= .returned (.string ⟨(Lib.decDigits i).toArray⟩)∧w'=w:=Any.internal_strconv_small Tryz.lays283 i h w
def Tryz.lays285_ren:Go.Shelf.Ren:=⟨fun|285=>201|n=>n,fun|37=>164|53=>203|3=>3|4=>4|51=>212|9=>9|5=>5|0=>0|n=>n,fun|n=>n⟩
theorem Tryz.lays285:Go.Proofs.Lays.n285 Tryz.prog Tryz.lays285_ren:={
 mixed:=by kernel_rfl
 f285:=Tryz.func201.trans (congrArg some (by kernel_rfl))
 t0:=Tryz.underlying0
 a0:=Tryz.isAgg0
 z0:=Tryz.sizeOf0
 v0:=Tryz.zeroValue0
 t3:=Tryz.underlying3
 a3:=Tryz.isAgg3
 z3:=Tryz.sizeOf3
 v3:=Tryz.zeroValue3
 t4:=Tryz.underlying4
 a4:=Tryz.isAgg4
 z4:=Tryz.sizeOf4
 v4:=Tryz.zeroValue4
 t5:=Tryz.underlying5
 a5:=Tryz.isAgg5
 z5:=Tryz.sizeOf5
 v5:=Tryz.zeroValue5
 t9:=Tryz.underlying9
 a9:=Tryz.isAgg9
 z9:=Tryz.sizeOf9
 v9:=Tryz.zeroValue9
 t37:=Tryz.underlying164
 a37:=Tryz.isAgg164
 z37:=Tryz.sizeOf164
 v37:=Tryz.zeroValue164
 t51:=Tryz.underlying212
 a51:=Tryz.isAgg212
 z51:=Tryz.sizeOf212
 v51:=Tryz.zeroValue212
 t53:=Tryz.underlying203
 a53:=Tryz.isAgg203
 z53:=Tryz.sizeOf203
 v53:=Tryz.zeroValue203}
theorem Tryz.internal_strconv_formatBase10 (blk off cap : Nat) (u : Nat) (d : Array UInt8) (w : World) (hH : Holds (fun (b : UInt8) => Value.int .u8 (b.toNat : Int)) w blk off d) (hu : u < 10 ^ d.size) (hu64 : u < 18446744073709551616) (hsz : d.size < 4611686018427387904) :
  Calls Tryz.prog 201 #[.slice (some ⟨blk,off,none⟩) d.size cap,.int .u64 u] w fun e w'=>
   e= .returned (.tuple #[])∧∃ (n v':Nat) (dk:Array UInt8),w'=(putRow (fun (b:UInt8)=>Value.int .u8 (b.toNat:Int)) w blk off dk).drewN n∧FmtInv d.size u 0 v' dk:=Any.internal_strconv_formatBase10 Tryz.lays285 blk off cap u d w hH hu hu64 hsz
def Tryz.laysC172_ren:Go.Shelf.Ren:=⟨fun|172=>100|244=>145|245=>146|247=>192|279=>193|280=>194|281=>195|282=>196|287=>238|316=>239|171=>67|205=>240|321=>265|322=>266|243=>106|246=>152|283=>199|284=>200|285=>201|286=>202|129=>242|317=>241|318=>243|319=>244|320=>245|337=>267|338=>268|n=>n,fun|9=>9|3=>3|75=>136|76=>137|4=>4|5=>5|167=>196|37=>164|0=>0|85=>197|2=>2|168=>199|53=>203|175=>224|46=>180|210=>228|127=>195|145=>240|143=>238|21=>21|171=>202|173=>206|212=>231|51=>212|20=>20|213=>232|232=>254|233=>255|80=>168|n=>n,fun|15=>1|16=>2|17=>3|18=>6|19=>7|n=>n⟩
theorem Tryz.laysC172:Go.Proofs.LaysC.n172 Tryz.prog Tryz.laysC172_ren:={
 mixed:=by kernel_rfl
 f129:=Tryz.func242.trans (congrArg some (by kernel_rfl))
 f171:=Tryz.func67.trans (congrArg some (by kernel_rfl))
 f172:=Tryz.func100.trans (congrArg some (by kernel_rfl))
 f205:=Tryz.func240.trans (congrArg some (by kernel_rfl))
 f243:=Tryz.func106.trans (congrArg some (by kernel_rfl))
 f244:=Tryz.func145.trans (congrArg some (by kernel_rfl))
 f245:=Tryz.func146.trans (congrArg some (by kernel_rfl))
 f246:=Tryz.func152.trans (congrArg some (by kernel_rfl))
 f247:=Tryz.func192.trans (congrArg some (by kernel_rfl))
 f279:=Tryz.func193.trans (congrArg some (by kernel_rfl))
 f280:=Tryz.func194.trans (congrArg some (by kernel_rfl))
 f281:=Tryz.func195.trans (congrArg some (by kernel_rfl))
 f282:=Tryz.func196.trans (congrArg some (by kernel_rfl))
 f283:=Tryz.func199.trans (congrArg some (by kernel_rfl))
 f284:=Tryz.func200.trans (congrArg some (by kernel_rfl))
 f285:=Tryz.func201.trans (congrArg some (by kernel_rfl))
 f286:=Tryz.func202.trans (congrArg some (by kernel_rfl))
 f287:=Tryz.func238.trans (congrArg some (by kernel_rfl))
 f316:=Tryz.func239.trans (congrArg some (by kernel_rfl))
 f317:=Tryz.func241.trans (congrArg some (by kernel_rfl))
 f318:=Tryz.func243.trans (congrArg some (by kernel_rfl))
 f319:=Tryz.func244.trans (congrArg some (by kernel_rfl))
 f320:=Tryz.func245.trans (congrArg some (by kernel_rfl))
 f321:=Tryz.func265.trans (congrArg some (by kernel_rfl))
 f322:=Tryz.func266.trans (congrArg some (by kernel_rfl))
 f337:=Tryz.func267.trans (congrArg some (by kernel_rfl))
 f338:=Tryz.func268.trans (congrArg some (by kernel_rfl))
 t0:=Tryz.underlying0
 a0:=Tryz.isAgg0
 z0:=Tryz.sizeOf0
 v0:=Tryz.zeroValue0
 t2:=Tryz.underlying2
 a2:=Tryz.isAgg2
 z2:=Tryz.sizeOf2
 v2:=Tryz.zeroValue2
 t3:=Tryz.underlying3
 a3:=Tryz.isAgg3
 z3:=Tryz.sizeOf3
 v3:=Tryz.zeroValue3
 t4:=Tryz.underlying4
 a4:=Tryz.isAgg4
 z4:=Tryz.sizeOf4
 v4:=Tryz.zeroValue4
 t5:=Tryz.underlying5
 a5:=Tryz.isAgg5
 z5:=Tryz.sizeOf5
 v5:=Tryz.zeroValue5
 t9:=Tryz.underlying9
 a9:=Tryz.isAgg9
 z9:=Tryz.sizeOf9
 v9:=Tryz.zeroValue9
 t20:=Tryz.underlying20
 a20:=Tryz.isAgg20
 z20:=Tryz.sizeOf20
 v20:=Tryz.zeroValue20
 t21:=Tryz.underlying21
 a21:=Tryz.isAgg21
 z21:=Tryz.sizeOf21
 v21:=Tryz.zeroValue21
 t37:=Tryz.underlying164
 a37:=Tryz.isAgg164
 z37:=Tryz.sizeOf164
 v37:=Tryz.zeroValue164
 t46:=Tryz.underlying180
 a46:=Tryz.isAgg180
 z46:=Tryz.sizeOf180
 v46:=Tryz.zeroValue180
 t51:=Tryz.underlying212
 a51:=Tryz.isAgg212
 z51:=Tryz.sizeOf212
 v51:=Tryz.zeroValue212
 t53:=Tryz.underlying203
 a53:=Tryz.isAgg203
 z53:=Tryz.sizeOf203
 v53:=Tryz.zeroValue203
 t75:=Tryz.underlying136
 a75:=Tryz.isAgg136
 z75:=Tryz.sizeOf136
 v75:=Tryz.zeroValue136
 t76:=Tryz.underlying137
 a76:=Tryz.isAgg137
 z76:=Tryz.sizeOf137
 v76:=Tryz.zeroValue137
 t85:=Tryz.underlying197
 a85:=Tryz.isAgg197
 z85:=Tryz.sizeOf197
 v85:=Tryz.zeroValue197
 t127:=Tryz.underlying195
 a127:=Tryz.isAgg195
 z127:=Tryz.sizeOf195
 v127:=Tryz.zeroValue195
 t143:=Tryz.underlying238
 a143:=Tryz.isAgg238
 z143:=Tryz.sizeOf238
 v143:=Tryz.zeroValue238
 t145:=Tryz.underlying240
 a145:=Tryz.isAgg240
 z145:=Tryz.sizeOf240
 v145:=Tryz.zeroValue240
 t167:=Tryz.underlying196
 a167:=Tryz.isAgg196
 z167:=Tryz.sizeOf196
 v167:=Tryz.zeroValue196
 t168:=Tryz.underlying199
 a168:=Tryz.isAgg199
 z168:=Tryz.sizeOf199
 v168:=Tryz.zeroValue199
 t171:=Tryz.underlying202
 a171:=Tryz.isAgg202
 z171:=Tryz.sizeOf202
 v171:=Tryz.zeroValue202
 t173:=Tryz.underlying206
 a173:=Tryz.isAgg206
 z173:=Tryz.sizeOf206
 v173:=Tryz.zeroValue206
 t175:=Tryz.underlying224
 a175:=Tryz.isAgg224
 z175:=Tryz.sizeOf224
 v175:=Tryz.zeroValue224
 t210:=Tryz.underlying228
 a210:=Tryz.isAgg228
 z210:=Tryz.sizeOf228
 v210:=Tryz.zeroValue228
 t212:=Tryz.underlying231
 a212:=Tryz.isAgg231
 z212:=Tryz.sizeOf231
 v212:=Tryz.zeroValue231
 t213:=Tryz.underlying232
 a213:=Tryz.isAgg232
 z213:=Tryz.sizeOf232
 t232:=Tryz.underlying254
 a232:=Tryz.isAgg254
 z232:=Tryz.sizeOf254
 v232:=Tryz.zeroValue254
 t233:=Tryz.underlying255
 a233:=Tryz.isAgg255
 z233:=Tryz.sizeOf255
 v233:=Tryz.zeroValue255
 g15:=by kernel_rfl
 g16:=by kernel_rfl
 g17:=by kernel_rfl
 g18:=by kernel_rfl
 g19:=by kernel_rfl
 t80:=Tryz.underlying168
 a80:=Tryz.isAgg168
 z80:=Tryz.sizeOf168
 v80:=Tryz.zeroValue168
 i0:=by kernel_rfl
 i2:=by kernel_rfl
 i3:=by kernel_rfl
 i4:=by kernel_rfl
 i5:=by kernel_rfl
 i9:=by kernel_rfl
 i20:=by kernel_rfl
 i21:=by kernel_rfl
 i37:=by kernel_rfl
 i46:=by kernel_rfl
 i51:=by kernel_rfl
 i53:=by kernel_rfl
 i75:=by kernel_rfl
 i76:=by kernel_rfl
 i80:=by kernel_rfl
 i85:=by kernel_rfl
 i127:=by kernel_rfl
 i143:=by kernel_rfl
 i145:=by kernel_rfl
 i167:=by kernel_rfl
 i168:=by kernel_rfl
 i171:=by kernel_rfl
 i173:=by kernel_rfl
 i175:=by kernel_rfl
 i210:=by kernel_rfl
 i212:=by kernel_rfl
 i232:=by kernel_rfl
 i233:=by kernel_rfl
 m15:=by kernel_rfl
 m16:=by kernel_rfl
 m17:=by kernel_rfl
 m18:=by kernel_rfl
 m19:=by kernel_rfl
 c0:=by kernel_rfl
 c2:=by kernel_rfl
 c3:=by kernel_rfl
 c4:=by kernel_rfl
 c5:=by kernel_rfl
 c9:=by kernel_rfl
 c20:=by kernel_rfl
 c21:=by kernel_rfl
 c37:=by kernel_rfl
 c46:=by kernel_rfl
 c51:=by kernel_rfl
 c53:=by kernel_rfl
 c75:=by kernel_rfl
 c76:=by kernel_rfl
 c80:=by kernel_rfl
 c85:=by kernel_rfl
 c127:=by kernel_rfl
 c143:=by kernel_rfl
 c145:=by kernel_rfl
 c167:=by kernel_rfl
 c168:=by kernel_rfl
 c171:=by kernel_rfl
 c173:=by kernel_rfl
 c175:=by kernel_rfl
 c210:=by kernel_rfl
 c212:=by kernel_rfl
 c213:=by kernel_rfl
 c232:=by kernel_rfl
 c233:=by kernel_rfl}
theorem Tryz.strconv_Atoi_ok (s : ByteArray) (hmax : s.size ≤ 9223372036854775806) (v : Int) (h : Lib.atoiAll s.data.toList = .ok v) (w : World) :
  Calls Tryz.prog 100 #[.string s] w fun e w'=>e= .returned (.tuple #[.int .i64 v,.nilIface])∧(w'=w∨∃ t,w'=Lib.bytesWorld w 5 t):=Any.strconv_Atoi_ok Tryz.laysC172 s hmax v h w
theorem Tryz.strconv_Atoi_syntax (s : ByteArray) (hlim : s.size ≤ 281474976710656) (hok : ∀ v, Lib.atoiAll s.data.toList ≠ .ok v) (hr : Lib.atoiAll s.data.toList ≠ .range) (ev : Value) (w : World) (hv : w.cell? ⟨1, 0, none⟩ = some ev) (hev : ev = .nilIface ∨ ∃ te pe, ev = .iface te pe) :
  Calls Tryz.prog 100 #[.string s] w fun e w'=>∃ N,e= .returned (.tuple #[.int .i64 (0),.iface 199 (.pointer (some ⟨N,0,none⟩))])∧w.heap.size≤N∧w'.heap[N]? = some (.cells #[.string ⟨#[65,116,111,105]⟩,.string s,ev] 228 (0,0))∧Below w.heap.size w w':=by
 cases h:Lib.atoiAll s.data.toList
 · exact (hok _ h).elim
 · exact Any.strconv_Atoi_syntax Tryz.laysC172 s hlim h ev w hv hev
 · exact (hr h).elim
theorem Tryz.strconv_Atoi_range (s : ByteArray) (hlim : s.size ≤ 281474976710656) (h : Lib.atoiAll s.data.toList = .range) (ev : Value) (w : World) (hv : w.cell? ⟨2, 0, none⟩ = some ev) (hev : ev = .nilIface ∨ ∃ te pe, ev = .iface te pe) :
  Calls Tryz.prog 100 #[.string s] w fun e w'=>∃ N,e= .returned (.tuple #[.int .i64 (Lib.atoiSat s.data.toList),.iface 199 (.pointer (some ⟨N,0,none⟩))])∧w.heap.size≤N∧w'.heap[N]? = some (.cells #[.string ⟨#[65,116,111,105]⟩,.string s,ev] 228 (0,0))∧Below w.heap.size w w':=Any.strconv_Atoi_range Tryz.laysC172 s hlim h ev w hv hev
def Tryz.lays101_ren:Go.Shelf.Ren:=⟨fun|101=>101|208=>147|206=>197|n=>n,fun|9=>9|4=>4|3=>3|n=>n,fun|n=>n⟩
theorem Tryz.lays101:Go.Proofs.Lays.n101 Tryz.prog Tryz.lays101_ren:={
 mixed:=by kernel_rfl
 f101:=Tryz.func101.trans (congrArg some (by kernel_rfl))
 f206:=Tryz.func197.trans (congrArg some (by kernel_rfl))
 f208:=Tryz.func147.trans (congrArg some (by kernel_rfl))
 t3:=Tryz.underlying3
 a3:=Tryz.isAgg3
 z3:=Tryz.sizeOf3
 v3:=Tryz.zeroValue3
 t4:=Tryz.underlying4
 a4:=Tryz.isAgg4
 z4:=Tryz.sizeOf4
 v4:=Tryz.zeroValue4
 t9:=Tryz.underlying9
 a9:=Tryz.isAgg9
 z9:=Tryz.sizeOf9
 v9:=Tryz.zeroValue9}
theorem Tryz.strings_TrimPrefix (s p : ByteArray) (w : World) :
  Calls Tryz.prog 101 #[.string s,.string p] w fun e w'=>e= .returned (.string ⟨(Lib.trimPrefix s.data.toList p.data.toList).toArray⟩)∧w'=w:=Any.strings_TrimPrefix Tryz.lays101 s p w
end Go.Proofs
namespace Go.Vm.Seat
open Go.Proofs Go.RowKit Go.Lib
theorem z210:ZOk E0 Tryz.prog (210,Zpj):=Zo9 Tryz.func210 (by kernel_rfl) (by kernel_rfl) (by kernel_rfl) (by kernel_rfl)
theorem Zr5:ZOk E0 Tryz.prog (261,Zpq):=ZnZ Tryz.func261 (by kernel_rfl) (by kernel_rfl) (by kernel_rfl) (by kernel_rfl)
theorem z99:ZOk E0 Tryz.prog (99,Zin):=ZmF fe99.ok rfl (fun a c sep w=>Tryz.strings_Join_none a c sep w) fun bk o c xs sep w h1 h2 h3 h4 h5=>Tryz.strings_Join bk o c xs sep w h1 h2 h3 h4 h5
theorem Zvy:ZOk E0 Tryz.prog (190,ccZ 166):=ZpC fe190.ok (fun b w h0 h1 h2=>Any.Builder_copyCheck_fresh {Tryz.lays156 with} Tryz.Builder_Extra_156.toX72 b w h0 h1 h2) (fun b w h0=>Any.Builder_copyCheck_used {Tryz.lays156 with} Tryz.Builder_Extra_156.toX72 b w h0) (by kernel_rfl)
theorem ZkV (b : Nat) (p : Value) (w : World) (hbk : w.heap[b]? = some (.cells #[p, .slice none 0 0] 166 (0, 0))) :
  Calls Tryz.prog 144 #[.pointer (some ⟨b,0,none⟩)] w fun e w'=>e= .returned (.string ⟨#[]⟩)∧w'=w.drew:=by
 have hUS:∀ pt it ty W,(Builtin.unsafeString_ #[pt,it] ty #[.pointer none,.int .i64 0]).run Tryz.prog W= .ok (.string .empty) W:=fun pt it ty W=>Lib.run_unsafeString_none W _ _ _ none
 have c1:w.drew.cell? ⟨b,1,none⟩=some (.slice none 0 0):=by
  have:w.drew.heap[b]? = some (.cells #[p,.slice none 0 0] 166 (0,0)):=hbk
  rw [Lib.cell_of_heap this];rfl
 have hSD:∀ ts ty,(Builtin.unsafeSliceData_ ts ty #[.slice none 0 0]).run Tryz.prog w.drew= .ok (.pointer none) w.drew:=fun _ _=>rfl
 have mixed:=follows
 go_enter Tryz.func144,Tryz.ntmps144
 go_wp2
 go_region_o
 all_goals (go_wp2;go_ret;exact ⟨rfl,rfl⟩)
theorem Zia (b : Nat) (p : Value) (bb o cap : Nat) (cur : Array Value) (l : List UInt8) (w : World) (hbk : w.heap[b]? = some (.cells #[p, .slice (some ⟨bb, o, none⟩) l.length cap] 166 (0, 0))) (hg : w.heap[bb]? = some (.cells cur 5 (0, 0))) (h0 : l ≠ []) (hn : l.length ≤ cap) (hcs : o + cap ≤ cur.size) (hm : l.length ≤ 1000000)
  (hcell:∀ j x,l[j]? = some x→w.cell? ⟨bb,o+j,none⟩=some (.int .u8 x.toNat)) :
  Calls Tryz.prog 144 #[.pointer (some ⟨b,0,none⟩)] w fun e w'=>e= .returned (.string ⟨l.toArray⟩)∧w'=w.drew.freeze ⟨bb,o,none⟩ l.length:=by
 have hl0:l.length≠0:=by simpa using h0
 have c1:w.drew.cell? ⟨b,1,none⟩=some (.slice (some ⟨bb,o,none⟩) l.length cap):=by
  have:w.drew.heap[b]? = some (.cells #[p,.slice (some ⟨bb,o,none⟩) l.length cap] 166 (0,0)):=hbk
  rw [Lib.cell_of_heap this];rfl
 have hc5:Tryz.prog.cellsOf 5=1:=by kernel_rfl
 have hSD:∀ ts ty,(Builtin.unsafeSliceData_ ts ty #[.slice (some ⟨bb,o,none⟩) l.length cap]).run Tryz.prog w.drew= .ok (.pointer (some ⟨bb,o,none⟩)) w.drew:=fun _ _=>
  Lib.run_unsafeSliceData_row _ _ _ _ _ _ (by omega)
 have hUS:∀ it ty,(Builtin.unsafeString_ #[195,it] ty #[.pointer (some ⟨bb,o,none⟩),.int .i64 l.length]).run Tryz.prog w.drew= .ok (.string ⟨l.toArray⟩) (w.drew.freeze ⟨bb,o,none⟩ l.length):=fun it ty=>
  Uv w.drew _ it ty 5 Tryz.underlying195 hc5 bb o cur.size (by have hg':w.drew.heap[bb]? = some (.cells cur 5 (0,0)):=hg;simp [World.shape?,hg']) l h0 (by omega) (by omega) (fun j x hj=>by
   have:=hcell j x hj
   rw [Yb]
   exact this)
 clear hbk hg hn hcs hm hcell h0
 have mixed:=follows
 go_enter Tryz.func144,Tryz.ntmps144
 go_wp2
 go_region_o
 all_goals (go_wp2;go_ret;exact ⟨rfl,rfl⟩)
theorem ZvH:ZOk E0 Tryz.prog (144,ZkI 166):=Zm7 fe144.ok ZkV Zia (by kernel_rfl)
theorem ZuZ:ZOk E0 Tryz.prog (207,ZnY):=ZlW Tryz.func207 (by kernel_rfl) (by kernel_rfl) (by kernel_rfl) (by kernel_rfl)
theorem ZoR:ZOk E1 Tryz.prog (207,ZnY):=ZlW Tryz.func207 (by kernel_rfl) (by kernel_rfl) (by kernel_rfl) (by kernel_rfl)
theorem zOk:YE E0 Tryz.prog E0.Z:=Zgu (VY z210 (VY Zr5 (VY z99 (VY Zvy (VY ZvH (VY ZuZ Zmk))))))
