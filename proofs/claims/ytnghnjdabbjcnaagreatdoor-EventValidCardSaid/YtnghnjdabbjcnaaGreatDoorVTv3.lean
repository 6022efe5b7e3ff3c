/-
  Valid terms of the reference.
-/
import Derived.Test.YtnghnjdabbjcnaaGreatDoorVAwShelf
set_option maxHeartbeats 0
set_option maxRecDepth 100000
namespace Go.Vm.Seat
variable {a b:Bool} {d e k lvl s:Int} {i n:Nat} {x:UInt8} {nm:List UInt8} {kz l:List Tm} {t:Tm} {A:Box}
open Go.Proofs Go.RowKit Go.Lib
theorem z171:ZOk E0 Tryz.prog (171,ZqU):=ZqD Tryz.func171 (by kernel_rfl) (by kernel_rfl) (by kernel_rfl) (by kernel_rfl)
theorem z175:ZOk E0 Tryz.prog (175,ZqK):=Zqv Tryz.func175 (by kernel_rfl) (by kernel_rfl) (by kernel_rfl) (by kernel_rfl)
theorem z43:ZOk E0 Tryz.prog (43,Zgx):=Zoe fe43.ok rfl (fun a c sep w=>Tryz.strings_Join_none a c sep w) fun bk o c xs sep w h1 h2 h3 h4 h5=>Tryz.strings_Join bk o c xs sep w h1 h2 h3 h4 h5
theorem z39:ZOk E0 Tryz.prog (39,ccZ 49):=Zs6 fe39.ok (fun b w h0 h1 h2=>Any.Builder_copyCheck_fresh {Tryz.lays156 with} Tryz.Builder_Extra_156.toX72 b w h0 h1 h2) (fun b w h0=>Any.Builder_copyCheck_used {Tryz.lays156 with} Tryz.Builder_Extra_156.toX72 b w h0) (by kernel_rfl)
theorem ZlB (b:Nat) (p:Value) (w:World) (hbk:w.heap[b]? = some (.cells #[p,.slice none 0 0] 49 (0,0))):Calls Tryz.prog 20 #[.pointer (some ⟨b,0,none⟩)] w fun e w'=>e= .returned (.string ⟨#[]⟩)∧w'=w.drew:=by
 have hUS:∀pt it ty W,(Builtin.unsafeString_ #[pt,it] ty #[.pointer none,.int .i64 0]).run Tryz.prog W= .ok (.string .empty) W:=fun pt it ty W=>Lib.run_unsafeString_none W _ _ _ none;have c1:w.drew.cell? ⟨b,1,none⟩=some (.slice none 0 0):=by have:w.drew.heap[b]? = some (.cells #[p,.slice none 0 0] 49 (0,0)):=hbk;rw[Lib.cell_of_heap this];rfl
 have hSD:∀ts ty,(Builtin.unsafeSliceData_ ts ty #[.slice none 0 0]).run Tryz.prog w.drew= .ok (.pointer none) w.drew:=fun _ _=>rfl;have mixed:=follows;go_enter Tryz.func20,Tryz.ntmps20;go_wp2;go_region_o;all_goals (go_wp2;go_ret;exact⟨rfl,rfl⟩)
theorem Zje (b:Nat) (p:Value) (bb o cap:Nat) (cur:Array Value) (l:List UInt8) (w:World) (hbk:w.heap[b]? = some (.cells #[p,.slice (some ⟨bb,o,none⟩) l.length cap] 49 (0,0))) (hg:w.heap[bb]? = some (.cells cur 5 (0,0))) (h0:l≠ []) (hn:l.length≤cap) (hcs:o+cap≤cur.size) (hm:l.length≤1000000) (hcell:∀j x,l[j]? = some x→w.cell? ⟨bb,o+j,none⟩=some (.int .u8 x.toNat)):Calls Tryz.prog 20 #[.pointer (some ⟨b,0,none⟩)] w fun e w'=>e= .returned (.string ⟨l.toArray⟩)∧w'=w.drew.freeze ⟨bb,o,none⟩ l.length:=by
 have hl0:l.length≠0:=by simpa using h0
 have c1:w.drew.cell? ⟨b,1,none⟩=some (.slice (some ⟨bb,o,none⟩) l.length cap):=by have:w.drew.heap[b]? = some (.cells #[p,.slice (some ⟨bb,o,none⟩) l.length cap] 49 (0,0)):=hbk;rw[Lib.cell_of_heap this];rfl
 have hc5:Tryz.prog.cellsOf 5=1:=by kernel_rfl
 have hSD:∀ts ty,(Builtin.unsafeSliceData_ ts ty #[.slice (some ⟨bb,o,none⟩) l.length cap]).run Tryz.prog w.drew= .ok (.pointer (some ⟨bb,o,none⟩)) w.drew:=fun _ _=>
  Lib.run_unsafeSliceData_row _ _ _ _ _ _ (by omega)
 have hUS:∀it ty,(Builtin.unsafeString_ #[83,it] ty #[.pointer (some ⟨bb,o,none⟩),.int .i64 l.length]).run Tryz.prog w.drew= .ok (.string ⟨l.toArray⟩) (w.drew.freeze ⟨bb,o,none⟩ l.length):=fun it ty=>
  Uf w.drew _ it ty 5 Tryz.underlying83 hc5 bb o cur.size (by have hg':w.drew.heap[bb]? = some (.cells cur 5 (0,0)):=hg;simp[World.shape?,hg']) l h0 (by omega) (by omega) (fun j x hj=>by
   have:=hcell j x hj
   rw[ZV]
   exact this)
 clear hbk hg hn hcs hm hcell h0;have mixed:=follows;go_enter Tryz.func20,Tryz.ntmps20;go_wp2;go_region_o;all_goals (go_wp2;go_ret;exact⟨rfl,rfl⟩)
theorem z20:ZOk E0 Tryz.prog (20,ZgN 49):=Zm7 fe20.ok ZlB Zje (by kernel_rfl)
theorem Zvw:ZOk E0 Tryz.prog (153,Zpd):=Zmu Tryz.func153 (by kernel_rfl) (by kernel_rfl) (by kernel_rfl) (by kernel_rfl)
theorem ZpJ:ZOk E1 Tryz.prog (153,Zpd):=Zmu Tryz.func153 (by kernel_rfl) (by kernel_rfl) (by kernel_rfl) (by kernel_rfl)
theorem zOk:YF E0 Tryz.prog E0.Z:=Zfh (VC z171 (VC z175 (VC z43 (VC z39 (VC z20 (VC Zvw ZnT))))))
theorem ZeB (h:a=true↔b=true):PV.bool a=PV.bool b:=by rw[Bool.eq_iff_iff.2 h]
theorem ZqW (c:Int):∀H,CO 180 [.int .u8 c] H (.bool (Zcr c)) H:=by
 refine Jw tOk fe180.ok rfl ?_;repeat' first|refine KM ?_|refine Jb ?_ ?_|refine Jo ?_|intro hb
 all_goals
  refine ZeB ?_
  simp[Zcr,ZeQ,ZmO]at *
  try omega
theorem c94 (c:Int):∀H,CO 94 [.int .u8 c] H (.bool (ZeQ c)) H:=by
 refine Jw tOk fe94.ok rfl ?_;repeat' first|refine KM ?_|refine Jb ?_ ?_|refine Jo ?_|intro hb
 all_goals
  refine ZeB ?_
  simp[ZeQ]at *
  try omega
theorem c95 (c:Int):∀H,CO 95 [.int .u8 c] H (.bool (ZmO c)) H:=by
 refine Jw tOk fe95.ok rfl ?_;repeat' first|refine KM ?_|refine Jb ?_ ?_|refine Jo ?_|intro hb
 all_goals
  refine ZeB ?_
  simp[ZmO]at *
  try omega
theorem V3 {s:List UInt8} (h:s[i]? = some x) (hx:Yx x=false):s.all Yx=false:=by rw[List.all_eq_false];exact⟨x,List.mem_of_getElem? h,by simp[hx]⟩
theorem Zbe (c:UInt8) (r:List UInt8):YA (c::r)=(decide ((c::r).length≤24)&&(ZeQ (Int.ofNat c.toNat)&&(c::r).all Yx)):=rfl
theorem Zix {c:Int} (h:Zcr c=true) (h1:¬ (48≤c∧c≤57)) (h2:c≠95) (h3:c≠35):ZeQ c=true:=by simp[Zcr,ZeQ,ZmO]at *;omega
theorem eTs:E0.T 9=some ⟨.string,1,16,.str []⟩:=rfl
theorem Zmc {s:List UInt8} {c:UInt8} (h:s[i]? = some c):UH E0 9 (.str s) (.int .i64 (i:Int))=some (.int .u8 (c.toNat:Int)):=by
 have en:nat? (.int .i64 (i:Int))=some i:=rfl;have hn:nth s i=some c:=by rw[Zm];exact h
 simp only[UH,eTs,en,hn];rfl
theorem Q4 {c:Bool} (h:a=false∨b=false∨c=false):PV.bool false=PV.bool (a&&(b&&c)):=by rcases h with rfl|rfl|rfl<;>simp
theorem ZfP {s:List UInt8} (h:s[i]? = some x) (hx:Yx x=true) (ht:(s.take i).all Yx=true):(s.take (i+1)).all Yx=true:=by rw[List.take_add_one,h];simp[List.all_append,ht,hx]
theorem c145 (s:List UInt8) (hs:s.length≤maxLen):∀H,CO 145 [.str s] H (.bool (YA s)) H:=by
 refine Jw tOk fe145.ok rfl ?_;cases s with
 |nil=>
  repeat' first|refine Jk ?_|refine Ka ?_|fail
  all_goals first
   | rfl
   | (exfalso;simp at hb;done)
 |cons c r=>
  have hc:=ZqW (Int.ofNat c.toNat);obtain⟨S,hS⟩:∃S,S=Zcr (Int.ofNat c.toNat):=⟨_,rfl⟩;have hj:=Zmc (show(c::r)[0]? = some c from rfl);rw[Zbe];obtain⟨s,hss⟩:∃s,s=c::r:=⟨_,rfl⟩;rw[← hss]at hs hj ⊢;have hne:¬ s= []:=by rw[hss];simp
  have hm:c∈s:=by rw[hss];simp
  have hall:S=false→s.all Yx=false:=fun h=>by rw[List.all_eq_false];exact⟨c,hm,by rw[show Yx c=S from hS.symm,h];simp⟩
  rw[← hS]at hc;repeat' first|refine Jk ?_|refine Jc (hc _) ?_|refine JX ?_|refine Jt ?_|refine Jb ?_ ?_|refine Jo ?_|intro hb
  all_goals first
   | (exfalso;simp at hb;exact hne hb)
   | (refine Q4 (.inl ?_);simp at hb;simp;omega)
   | (refine Q4 (.inr (.inr (hall (by simpa using hb))));done)
   | (refine Q4 (.inr (.inl ?_));clear hc hall hj hS hm hne hss;simp[ZeQ]at *;omega)
   | skip
  all_goals
   have f1:S=true:=by simpa using ‹(!S)=false›
   have f2:¬ (48≤(c.toNat:Int)∧(c.toNat:Int)≤57):=by
    first
     | (have:= ‹decide ((c.toNat:Int)≤57)=false›;simp at this;omega)
     | (have:= ‹decide (48≤(c.toNat:Int))=false›;simp at this;omega)
   have f3:(c.toNat:Int)≠95:=by simpa using ‹((c.toNat:Int)==95)=false›
   have f4:(c.toNat:Int)≠35:=by simpa using ‹((c.toNat:Int)==35)=false›
   have hlt:ZeQ (Int.ofNat c.toNat)=true:=Zix (hS ▸ f1) f2 f3 f4
   have h24:s.length≤24:=by
    have:= ‹decide (24<Int.ofNat s.length)=false›
    simp at this;omega
   rw[show(decide (s.length≤24)&&(ZeQ (Int.ofNat c.toNat)&&s.all Yx))=s.all Yx by simp only[h24,hlt,decide_true,Bool.true_and]]
   refine Wp.while (fun m tm H=>∃(i:Nat),∃base,i+m=s.length∧(s.take i).all Yx=true∧tm=ovr base [(0,.str s),(38,.int .i64 (s.length:Int)),(39,.int .i64 (i:Int))]∧H=⟨[],0,[],0⟩)
    (fun m tm H hI=>?_) s.length _ _ ⟨0,_,by omega,by simp,Ze ⟨rfl,rfl,rfl,trivial⟩,rfl⟩
   clear hc hall hj
   obtain⟨i,base,hi,hall,rfl,rfl⟩:=hI
   by_cases hlt2:i<s.length
   · obtain⟨d, hd⟩ : ∃d, s[i]? = some d := ⟨s[i], by simp⟩
     have hj:=Zmc hd
     have hc:=ZqW (Int.ofNat d.toNat)
     obtain⟨D,hD⟩:∃D,D=Zcr (Int.ofNat d.toNat):=⟨_,rfl⟩
     rw[← hD]at hc
     repeat' first|refine Jc (hc _) ?_|refine JX ?_|refine Jt ?_|refine Jb ?_ ?_|refine Jo ?_|intro hb
     · rw[V3 hd (by rw[show Yx d=D from hD.symm];simpa using hb)]
     · refine LoopI.go (m - 1) (by omega) ⟨i + 1, _, by omega, ZfP hd (by rw[show Yx d = D from hD.symm]; simpa using hb) hall, Ze ⟨rfl, rfl, ?_, trivial⟩, rfl⟩
       exact Zg (Zd (n:=i+1) (by unfold maxLen at hs;omega))
     · exfalso;simp at hb;omega
   · have e : i = s.length := by omega
     subst e
     repeat' first|refine Jt ?_|refine Jb ?_ ?_|refine Jo ?_|intro hb
     · exfalso;simp at hb
     · rw[← hall,List.take_length]
theorem ZhO (h:¬ (k=1∨k=2∨k=3)∨s<0∨5<s∨(k=3∧s≠0)∨(k≠3∧0<n)):Xj k nm s n=1:=if_pos h
theorem ZiX (h:¬ (¬ (k=1∨k=2∨k=3)∨s<0∨5<s∨(k=3∧s≠0)∨(k≠3∧0<n))) (h2:YA nm=false):Xj k nm s n=2:=by unfold Xj;rw[if_neg h,if_pos h2]
theorem Zir (h:¬ (¬ (k=1∨k=2∨k=3)∨s<0∨5<s∨(k=3∧s≠0)∨(k≠3∧0<n))) (h2:YA nm=true) (h3:8<n):Xj k nm s n=3:=by unfold Xj;rw[if_neg h,if_neg (by simp[h2]),if_pos h3]
theorem Zid (h:¬ (¬ (k=1∨k=2∨k=3)∨s<0∨5<s∨(k=3∧s≠0)∨(k≠3∧0<n))) (h2:YA nm=true) (h3:¬ 8<n):Xj k nm s n=0:=by unfold Xj;rw[if_neg h,if_neg (by simp[h2]),if_neg h3]
theorem Zar {n:Int} (h:Xj k nm s kz.length=e) (he:e≠0):(Tm.mk k nm s b kz).check lvl n d=(e,n+1,if d<lvl then lvl else d):=by simp only[Tm.check];rw[h,if_pos he]
theorem Zkp {n:Int} (h:Xj k nm s kz.length=0):(Tm.mk k nm s b kz).check lvl n d=Xk kz (lvl+1) (n+1) (if d<lvl then lvl else d):=by simp only[Tm.check];rw[h,if_neg (by simp)]
theorem Zeg {n n' d':Int} (h:l[i]? = some t) (hc:t.check lvl n d=(e,n',d')):Xk (l.drop i) lvl n d=if e≠0 then(e,n',d') else Xk (l.drop (i+1)) lvl n' d':=by rw[Zw h];simp only[Xk,hc]
theorem Zg3 (h:l[i]? = some t):Zk (l.drop i)=t.size+Zk (l.drop (i+1)):=by rw[Zw h];simp only[Zk]
mutual
theorem U1 {n m:Nat} (h:n≤m):∀{p:PV},under n p=true→under m p=true
 | .ptr id _ _ _,hp=>by simp only[under,Nat.blt_eq]at *;omega
 | .own id _ _ _,hp=>by simp only[under,Nat.blt_eq]at *;omega
 | .map id,hp=>by simp only[under,Nat.blt_eq]at *;omega
 | .agg cs,hp=>by simp only[under]at *;exact Xm h hp
 | .tup cs,hp=>by simp only[under]at *;exact Xm h hp
 | .fn _ cs,hp=>by simp only[under]at *;exact Xm h hp
 | .undef,_| .bool _,_| .int _ _,_| .str _,_| .sl _ _ _,_| .fptr _ _,_| .nilp,_| .nils,_| .nilm,_| .nilf,_| .nili,_| .ifc,_=>rfl
theorem Xm {n m:Nat} (h:n≤m):∀{l:List PV},ZO n l=true→ZO m l=true
 | [],_=>rfl
 |p::r,hl=>by simp only[ZO,Bool.and_eq_true]at *;exact⟨U1 h hl.1,Xm h hl.2⟩
end
theorem Zdt {m:Nat} (h:n≤m) {b:Box} (hb:Yy n b=true):Yy m b=true:=by
 cases b with
 |cells es el=>exact List.all_eq_true.2 fun x hx=>Xm h (List.all_eq_true.1 hb x hx)
 |map es=>refine List.all_eq_true.2 fun x hx=>?_;have:=List.all_eq_true.1 hb x hx;simp only[Bool.and_eq_true]at this ⊢;exact⟨U1 h this.1,U1 h this.2⟩
 |sp t cs=>exact Xm h hb
 |dead=>rfl
theorem ZaX (hA:Yy n A=true) (k k':IntKind) (x y:Int):[A,.cells 1 [[.int k x]],.cells 1 [[.int k' y]]].all (Yy n)=true:=by simp only[List.all_cons,hA];rfl
theorem Zqt {B:Box} (hA:Yy n A=true) (k k':IntKind) (x y:Int) (hB:Yy n B=true):[A,.cells 1 [[.int k x]],.cells 1 [[.int k' y]],B].all (Yy n)=true:=by simp only[List.all_cons,hA,hB];rfl
theorem c98 (ht:t.Ok):∀{A:Box},Yy 3 A=true→∀{lvl n d:Int},0≤lvl→lvl+t.size<4611686018427387904→0≤n→n+t.size<4611686018427387904→0≤d→d<4611686018427387904→CO 98 [.agg t.cells,.int .i64 lvl,.ptr 1 1 0 0,.ptr 2 1 0 0] ⟨[A,.cells 1 [[.int .i64 n]],.cells 1 [[.int .i64 d]]],0,[],0⟩ (.int .i64 (t.check lvl n d).1) ⟨[A,.cells 1 [[.int .i64 (t.check lvl n d).2.1]],.cells 1 [[.int .i64 (t.check lvl n d).2.2]]],0,[],0⟩:=by
 induction ht with
 | @mk k nm s b kz hk hs hn hl hok ih=>
 intro A hA lvl n d hl0 hl1 hn0 hn1 hd0 hd1;simp only[Tm.size]at hl1 hn1;obtain⟨e,n',d',hchk⟩:∃e n' d',(Tm.mk k nm s b kz).check lvl n d=(e,n',d'):=⟨_,_,_,rfl⟩;rw[hchk];have hw:IntKind.i64.wrap (n+1)=n+1:=IntWalk.i64_in _ (by omega);have hw2:IntKind.i64.wrap (lvl+1)=lvl+1:=IntWalk.i64_in _ (by omega);have hc:=c145 nm hn;obtain⟨N,hN⟩:∃N,N=YA nm:=⟨_,rfl⟩;rw[← hN]at hc;refine ZgI (own:=fun _=>false) tOk fe98.ok ?_;refine Wp.seq ?_;repeat' first|refine Jk ?_|refine Jc (hc _) ?_|refine Kv ?_|refine Jb ?_ ?_|refine Jo ?_|intro hb
 all_goals first
  | (have h0 := ZhO (k := k) (nm := nm) (s := s) (n := kz.length) (by clear ih hok hc hchk; simp only[Zb, beq_iff_eq, bne_iff_ne, decide_eq_true_eq, decide_eq_false_iff_not, beq_eq_false_iff_ne, bne_eq_false_iff_eq]at *; omega)
     cases hchk.symm.trans (Zar h0 (by decide))
     exact DropF.ret [(8,.int .i64 1)] ⟨rfl,trivial⟩ rfl rfl (ZaX hA _ _ _ _) (RetE.ret rfl rfl (by rw[hw];rfl)))
  | (have h0 := ZiX (k := k) (nm := nm) (s := s) (n := kz.length) (by clear ih hok hc hchk; simp only[Zb, beq_iff_eq, decide_eq_true_eq, decide_eq_false_iff_not, beq_eq_false_iff_ne, bne_eq_false_iff_eq]at *; omega) (by rw[← hN]; simpa using hb)
     cases hchk.symm.trans (Zar h0 (by decide))
     exact DropF.ret [(8,.int .i64 2)] ⟨rfl,trivial⟩ rfl rfl (ZaX hA _ _ _ _) (RetE.ret rfl rfl (by rw[hw];rfl)))
  | (have h0 := Zir (k := k) (nm := nm) (s := s) (n := kz.length) (by clear ih hok hc hchk; simp only[Zb, beq_iff_eq, decide_eq_true_eq, decide_eq_false_iff_not, beq_eq_false_iff_ne, bne_eq_false_iff_eq]at *; omega) (by rw[← hN]; simpa using ‹(!N) = false›) (by simp[Zb]at hb; omega)
     cases hchk.symm.trans (Zar h0 (by decide))
     exact DropF.ret [(8,.int .i64 3)] ⟨rfl,trivial⟩ rfl rfl (ZaX hA _ _ _ _) (RetE.ret rfl rfl (by rw[hw];rfl)))
  | skip
 all_goals
  have h0:Xj k nm s kz.length=0:=Zid (by clear ih hok hc hchk;simp only[Zb,beq_iff_eq,decide_eq_false_iff_not,beq_eq_false_iff_ne,bne_eq_false_iff_eq]at *;omega) (by rw[← hN];simpa using ‹(!N)=false›) (by simp[Zb]at hb;omega)
  have hgo:=hchk.symm.trans (Zkp h0)
  clear hchk hc h0
  refine Wp.while (fun m tm H=>∃(i:Nat),∃base,∃n1 d1:Int,i+m=kz.length∧(e,n',d')=Xk (kz.drop i) (lvl+1) n1 d1∧0≤n1∧n1+Zk (kz.drop i)<4611686018427387904∧0≤d1∧d1<4611686018427387904∧tm=ovr base [(1,.int .i64 lvl),(2,.ptr 1 1 0 0),(3,.ptr 2 1 0 0),(57,slV b 4 (Za kz)),(58,.int .i64 (kz.length:Int)),(59,.int .i64 (i:Int))]∧H=⟨[A,.cells 1 [[.int .i64 n1]],.cells 1 [[.int .i64 d1]],.cells 4 [[.int .i64 k,.str nm,.int .i64 s,slV b 4 (Za kz)]]],0,[],0⟩)
   (fun m tm H hI=>Wp.drop ?_) kz.length _ _ ⟨0,_,n+1,if d<lvl then lvl else d,by omega,by simpa using hgo,by omega,by simp;omega,by split<;>omega,by split<;>omega,Ze ⟨rfl,rfl,rfl,rfl,Zg (by rw[Zb]),rfl,trivial⟩,by rw[hw]⟩
  clear hgo
  obtain⟨i,base,n1,d1,hi,hgo,hn2,hn3,hd2,hd3,rfl,rfl⟩:=hI
  unfold maxLen at hl
  by_cases hlt:i<kz.length
  · obtain⟨t', ht'⟩ : ∃t', kz[i]? = some t' := ⟨kz[i], by simp⟩
    have hm:t'∈kz:=List.mem_of_getElem? ht'
    have hle:=XH hm
    have hsd:=Zg3 ht'
    have hr:=t'.check_range (lvl+1) n1 d1
    obtain⟨e1,n2,d2,h1⟩:∃e1 n2 d2,t'.check (lvl+1) n1 d1=(e1,n2,d2):=⟨_,_,_,rfl⟩
    have hc:=ih t' hm hA (lvl:=lvl+1) (n:=n1) (d:=d1) (by omega) (by omega) (by omega) (by omega) (by omega) (by omega)
    rw[h1]at hc hr
    simp only[]at hc hr
    rw[← hw2]at hc
    rw[Zeg ht' h1]at hgo
    obtain⟨k',nm',s',b',kz'⟩:=t'
    have hc:=hc.ext (ext:=[.cells 4 [[.int .i64 k,.str nm,.int .i64 s,slV b 4 (Za kz)]],.cells 4 [[.int .i64 k',.str nm',.int .i64 s',slV b' 4 (Za kz')]]]) rfl (by simp[ZO,under,Tm.cells,Zl]) (ZaX hA _ _ _ _) (by simp)
    have hj:=Zj ht'
    repeat' first|refine Jc hc ?_|refine Jx ?_|refine Jb ?_ ?_|refine Jz ?_ ?_|refine Jo ?_|intro hb
    · have hb1 : e1 ≠ 0 := by simpa using hb
      rw[if_pos hb1]at hgo
      cases hgo
      exact DropF.ret [(8,.int .i64 _)] ⟨rfl,trivial⟩ rfl rfl (ZaX hA _ _ _ _) (RetE.ret rfl rfl rfl)
    · have hb1 : ¬ e1 ≠ 0 := by simpa using hb
      rw[if_neg hb1]at hgo
      exact DropQ.go [(1,.int .i64 lvl),(2,.ptr 1 1 0 0),(3,.ptr 2 1 0 0),(57,slV b 4 (Za kz)),(58,.int .i64 (kz.length:Int)),(59,.int .i64 ((i+1:Nat):Int))] ⟨rfl,rfl,rfl,rfl,rfl,Zg (Zd (n:=i+1) (by omega)),trivial⟩
       (by simp[Zl,under]) rfl (Zqt (Zdt (show 3≤4 by omega) hA) _ _ _ _ (by simp[Yy,ZO,Zl,under])) (LoopI.go (m-1) (by omega) ⟨i+1,_,n2,d2,by omega,hgo,by omega,by omega,by omega,by omega,rfl,rfl⟩)
    · exfalso;simp at hb;omega
  · have e : i = kz.length := by omega
    subst e
    repeat' first|refine Jz ?_ ?_|refine Jo ?_|intro hb
    · exfalso;simp at hb
    · simp only[List.drop_length, Xk]at hgo
      cases hgo
      exact DropF.ret [(8,.int .i64 0)] ⟨rfl,trivial⟩ rfl rfl (ZaX hA _ _ _ _) (RetE.ret rfl rfl rfl)
theorem c65 (ht:t.Ok) (hsz:t.size<4611686018427387000):∀H,CO 65 [.agg t.cells] H (.int .i64 t.valid) H:=by
 have hc:=c98 ht (A:= .cells 4 [t.cells]) (by obtain⟨k,nm,s,b,kz⟩:=t;simp[Yy,Tm.cells,ZO,Zl,under]) (lvl:=1) (n:=0) (d:=0) (by omega) (by omega) (by omega) (by omega) (by omega) (by omega);rw[t.valid_check];obtain⟨e,n,d,h1⟩:∃e n d,t.check 1 0 0=(e,n,d):=⟨_,_,_,rfl⟩;rw[h1]at hc ⊢;obtain⟨k,nm,s,b,kz⟩:=t;refine Jw tOk fe65.ok rfl ?_;repeat' first|refine Jk ?_|refine Jc hc ?_|refine Jt ?_|refine Jb ?_ ?_|refine Jo ?_|intro hb
 all_goals (refine Zg ?_;clear hc h1;simp only[bne_iff_ne,bne_eq_false_iff_eq,decide_eq_true_eq,decide_eq_false_iff_not]at *;(repeat' split)<;>omega)
theorem ifq (h:a=b):PV.bool a=PV.bool b:=by rw[h]
theorem Zlr {d:UInt8}:Yx d=(ZeQ (Int.ofNat d.toNat)||(ZmO (Int.ofNat d.toNat)||(decide ((d.toNat:Int)=95)||decide ((d.toNat:Int)=35)))):=rfl
theorem c62 (s:List UInt8) (hs:s.length≤maxLen):∀H,CO 62 [.str s] H (.bool (YA s)) H:=by
 refine Jw tOk fe62.ok rfl ?_;cases s with
 |nil=>
  repeat' first|refine Jk ?_|refine Ka ?_|fail
  all_goals first
   | rfl
   | (exfalso;simp at hb;done)
 |cons c r=>
  have hc:=c94 (Int.ofNat c.toNat);obtain⟨L,hL⟩:∃L,L=ZeQ (Int.ofNat c.toNat):=⟨_,rfl⟩;have hj:=Zmc (show(c::r)[0]? = some c from rfl);rw[Zbe];obtain⟨s,hss⟩:∃s,s=c::r:=⟨_,rfl⟩;rw[← hss]at hs hj ⊢;have hne:s.length≠0:=by rw[hss];simp
  rw[← hL]at hc ⊢;repeat' first|refine Jk ?_|refine Jc (hc _) ?_|refine JX ?_|refine Jt ?_|refine Jb ?_ ?_|refine Jo ?_|intro hb
  all_goals first
   | (exfalso;exact hne (by simpa using hb))
   | (refine Q4 (.inl ?_);simp at hb;simp;omega)
   | (refine Q4 (.inr (.inl (by simpa using hb)));done)
   | skip
  have h24:s.length≤24:=by have:= ‹decide (24<Int.ofNat s.length)=false›;simp at this;omega
  have hlt:L=true:=by simpa using hb
  rw[show(decide (s.length≤24)&&(L&&s.all Yx))=s.all Yx by simp only[h24,hlt,decide_true,Bool.true_and]];refine Wp.while (fun m tm H=>∃(i:Nat),∃base,i+m=s.length∧(s.take i).all Yx=true∧tm=ovr base [(0,.str s),(3,.int .i64 (i:Int))]∧H=⟨[],0,[],0⟩)
   (fun m tm H hI=>?_) s.length _ _ ⟨0,_,by omega,by simp,Ze ⟨rfl,rfl,trivial⟩,rfl⟩
  clear hc hj;obtain⟨i,base,hi,hall,rfl,rfl⟩:=hI;by_cases hlt2:i<s.length
  ·obtain⟨d, hd⟩ : ∃d, s[i]? = some d := ⟨s[i], by simp⟩;have hj:=Zmc hd;have hc:=c94 (Int.ofNat d.toNat);have hc2:=c95 (Int.ofNat d.toNat);have hp:=Zlr (d:=d);generalize ZeQ (Int.ofNat d.toNat)=D1 at hc hp;generalize ZmO (Int.ofNat d.toNat)=D2 at hc2 hp;(repeat' first|refine Jk ?_|refine Jc (hc _) ?_|refine Jc (hc2 _) ?_|refine JX ?_|refine Jt ?_|refine Jb ?_ ?_|refine Jo ?_|intro hb);all_goals first
    | (refine LoopI.go (m-1) (by omega) ⟨i+1,_,by omega,ZfP hd (by rw[hp];simp at hb;simp[hb]) hall,Ze ⟨rfl,Zg (Zd (n:=i+1) (by unfold maxLen at hs;omega)),trivial⟩,rfl⟩;done)
    | (exfalso;simp at hb;omega)
    | skip
   (have hq:Yx d=false:=by rw[hp];clear hc hc2 hj hp hd hall hi;simp at *;simp[*]);rw[V3 hd hq]
  {(have e:i=s.length:=by omega);subst e;(repeat' first|refine Jt ?_|refine Jb ?_ ?_|refine Jo ?_|intro hb);{exfalso;simp at hb};{rw[← hall,List.take_length]}}
theorem Zu3 (k:Int) (nm:List UInt8) (s:Int) (b:Bool) (kz:List Tm) (hn:nm.length≤maxLen):∀H,CO 181 [.agg [.int .i64 k,.str nm,.int .i64 s,slV b 4 (Za kz)]] H (.int .i64 (Xj k nm s kz.length)) H:=by
 have hc:=c62 nm hn;obtain⟨N,hN⟩:∃N,N=YA nm:=⟨_,rfl⟩;rw[← hN]at hc;refine Jw tOk fe181.ok rfl ?_;repeat' first|refine Jk ?_|refine Jc (hc _) ?_|refine Kv ?_|refine Jb ?_ ?_|refine Jo ?_|intro hb
 all_goals (refine Zg ?_;clear hc)
 all_goals first
  | exact(ZhO (by simp only[Zb,beq_iff_eq,bne_iff_ne,decide_eq_true_eq,decide_eq_false_iff_not,beq_eq_false_iff_ne,bne_eq_false_iff_eq]at *;omega)).symm
  | exact(ZiX (by simp only[Zb,beq_iff_eq,decide_eq_true_eq,decide_eq_false_iff_not,beq_eq_false_iff_ne,bne_eq_false_iff_eq]at *;omega) (by rw[← hN];simpa using hb)).symm
  | exact(Zir (by simp only[Zb,beq_iff_eq,decide_eq_true_eq,decide_eq_false_iff_not,beq_eq_false_iff_ne,bne_eq_false_iff_eq]at *;omega) (by rw[← hN];simpa using ‹(!N)=false›) (by simp[Zb]at hb;omega)).symm
  | exact(Zid (by simp only[Zb,beq_iff_eq,decide_eq_false_iff_not,beq_eq_false_iff_ne,bne_eq_false_iff_eq]at *;omega) (by rw[← hN];simpa using ‹(!N)=false›) (by simp[Zb]at hb;omega)).symm
theorem Zd6 (h:l[i]? = some t) (he:t.nodes=e):Yk (l.drop i)=if e≠0 then e else Yk (l.drop (i+1)):=by rw[Zw h];simp only[Yk,he]
theorem c143 (ht:t.Ok):∀H,CO 143 [.agg t.cells] H (.int .i64 t.nodes) H:=by
 induction ht with
 | @mk k nm s b kz hk hs hn hl hok ih=>
 have hc:=Zu3 k nm s b kz hn;simp only[Tm.nodes];generalize Xj k nm s kz.length=e at hc;refine Jw tOk fe143.ok rfl ?_;repeat' first|refine Jc (hc _) ?_|refine Jb ?_ ?_|refine Jo ?_|intro hb
 ·have h1:e≠0:=by simpa using hb
  rw[if_pos h1]
 rw[if_neg (by simpa using hb)];clear hc;refine Wp.while (fun m tm H=>∃(i:Nat),∃base,i+m=kz.length∧Yk kz=Yk (kz.drop i)∧tm=ovr base [(1,.ptr 0 4 0 0),(4,.int .i64 (i:Int))]∧H=⟨[.cells 4 [[.int .i64 k,.str nm,.int .i64 s,slV b 4 (Za kz)]]],0,[],0⟩)
  (fun m tm H hI=>?_) kz.length _ _ ⟨0,_,by omega,by simp,Ze ⟨rfl,rfl,trivial⟩,rfl⟩
 obtain⟨i,base,hi,hgo,rfl,rfl⟩:=hI;rw[hgo];unfold maxLen at hl;by_cases hlt:i<kz.length
 ·obtain⟨t',ht'⟩:∃t',kz[i]? = some t':=⟨kz[i],by simp⟩;have hm:t'∈kz:=List.mem_of_getElem? ht';have hc:=ih t' hm;obtain⟨e1,he1⟩:∃e1,t'.nodes=e1:=⟨_,rfl⟩;rw[he1]at hc;rw[Zd6 ht' he1];obtain⟨k',nm',s',b',kz'⟩:=t';have hj:=Zj ht';repeat' first|refine Jc (hc _) ?_|refine Kx ?_|refine Jb ?_ ?_|refine Jo ?_|intro hb
  {rw[if_pos (by simpa using hb)]};{rw[if_neg (by simpa using hb)];exact LoopI.go (m-1) (by omega) ⟨i+1,_,by omega,rfl,Ze ⟨rfl,Zg (Zd (n:=i+1) (by omega)),trivial⟩,rfl⟩};{exfalso;rw[Zb]at hb;simp at hb;omega}
 ·have e:i=kz.length:=by omega
  subst e;repeat' first|refine Jl ?_|refine Jb ?_ ?_|refine Jo ?_|intro hb
  {exfalso;rw[Zb]at hb;simp at hb};{simp[Yk]}
theorem ZvA (ht:t.Ok):t.size<4611686018427387904→∀H,CO 144 [.agg t.cells] H (.int .i64 (t.depth:Int)) H:=by
 induction ht with
 | @mk k nm s b kz hk hs hn hl hok ih=>
 intro hsz;simp only[Tm.size]at hsz;have hdl:=Zas kz;simp only[Tm.depth];refine Jw tOk fe144.ok rfl ?_;repeat' first|refine Jo ?_|fail
 refine Wp.while (fun m tm H=>∃(i:Nat),∃base,i+m=kz.length∧tm=ovr base [(1,.ptr 0 4 0 0),(3,.int .i64 (Yv (kz.take i):Int)),(4,.int .i64 (i:Int))]∧H=⟨[.cells 4 [[.int .i64 k,.str nm,.int .i64 s,slV b 4 (Za kz)]]],0,[],0⟩)
  (fun m tm H hI=>?_) kz.length _ _ ⟨0,_,by omega,Ze ⟨rfl,rfl,rfl,trivial⟩,rfl⟩
 obtain⟨i,base,hi,rfl,rfl⟩:=hI;unfold maxLen at hl;by_cases hlt:i<kz.length
 ·obtain⟨t',ht'⟩:∃t',kz[i]? = some t':=⟨kz[i],by simp⟩;have hm:t'∈kz:=List.mem_of_getElem? ht';have hle:=XH hm;have hdt:=ZeC ht';have hc:=ih t' hm (by omega);obtain⟨k',nm',s',b',kz'⟩:=t';have hj:=Zj ht';repeat' first|refine Jc (hc _) ?_|refine Kx ?_|refine Jb ?_ ?_|refine Jo ?_|intro hb
  {refine LoopI.go (m-1) (by omega) ⟨i+1,_,by omega,Ze ⟨rfl,Zg ?_,Zg (Zd (n:=i+1) (by omega)),trivial⟩,rfl⟩;rw[hdt];split<;>omega};{exfalso;rw[Zb]at hb;simp at hb;omega}
 ·have e:i=kz.length:=by omega
  subst e;repeat' first|refine Jl ?_|refine Jb ?_ ?_|refine Jo ?_|intro hb
  {exfalso;rw[Zb]at hb;simp at hb};{refine Zg ?_;rw[List.take_length];exact Zd (n:=Yv kz+1) (by omega)}
theorem c97 (ht:t.Ok) (hsz:t.size<4611686018427387904):∀H,CO 97 [.agg t.cells] H (.int .i64 t.valid) H:=by
 have h1:=c143 ht;have h2:=Zua ht hsz;have h3:=ZvA ht hsz;unfold Tm.valid;generalize t.nodes=e at h1;generalize t.size=n at h2;generalize t.depth=d at h3;obtain⟨k,nm,s,b,kz⟩:=t;refine Jw tOk fe97.ok rfl ?_;repeat' first|refine Jk ?_|(apply qCl;rfl;rfl;rfl;rfl;first|exact h1 _|exact h2 _|exact h3 _)|refine Jt ?_|refine Jb ?_ ?_|refine Jo ?_|intro hb
 all_goals (refine Zg ?_;clear h1 h2 h3;simp only[bne_iff_ne,bne_eq_false_iff_eq,decide_eq_true_eq,decide_eq_false_iff_not]at *;(repeat' split)<;>omega)
