/-
  Parts of event.read: names, the copy of words, the shape of a word.
-/
import Derived.Lib.Hide
import Derived.BigGuard
import Derived.Test.YtnghnjdabbjcnaaGreatDoorYn
set_option maxHeartbeats 0
set_option maxRecDepth 100000
namespace Go.Vm
variable {a b v:Value} {S:Uo} {p q:PV}
theorem Zam (h:Zfa v=true):∃t p,v= .iface t p:=by cases v<;>first|exact⟨_,_,rfl⟩|cases h
theorem Zeq (h:Zjr v=true):∃m,v= .int .i64 m:=by
 cases v with
 |int k m=>cases k<;>first|exact⟨_,rfl⟩|cases h
 |_=>cases h
noncomputable def Zia (s:List UInt8):PV:=match Lib.atoiAll s with
 | .ok v=> .tup [.int .i64 v,.nili]
 | .range=> .tup [.int .i64 (Lib.atoiSat s),.ifc]
 |_=> .tup [.int .i64 0,.ifc]
theorem V0.tup2 (h:V0 S p a) (h2:V0 S q b):V0 S (.tup [p,q]) (.tuple #[a,b]):=by
 refine .tup _ _ rfl fun i hi=>?_;match i,hi with
 |0,_=>exact h
 |1,_=>exact h2
 |n+2,h=>exact absurd h (by simp)
theorem V0.tup3 {r:PV} {c:Value} (h:V0 S p a) (h2:V0 S q b) (h3:V0 S r c):V0 S (.tup [p,q,r]) (.tuple #[a,b,c]):=by
 refine .tup _ _ rfl fun i hi=>?_;match i,hi with
 |0,_=>exact h
 |1,_=>exact h2
 |2,_=>exact h3
 |n+3,h=>exact absurd h (by simp)
end Go.Vm
namespace Go.Vm.Seat
variable {n:Int} {s sep:List UInt8}
open Go.Proofs Go.RowKit Go.Sort
def Zoq (w:World):Prop:=∀j,j<20→w.cell? ⟨4,j,none⟩=some (.int .u64 ((10 ^ j:Nat):Int))
theorem Zw1 (u:Nat) (h1:1≤u) (h2:u<18446744073709551616) (w:World) (htab:Zoq w):Calls Tryz.prog 155 #[.int .u64 u] w fun e w'=>e= .returned (.int .i64 (Lib.nDigits u))∧w'=w:=by
 obtain⟨hnd,h19⟩:=Lib.numDigits_eq u h1 h2;have hL:Lib.bitLen u≤64:=Lib.bitLen_le u 64 (Nat.le_refl _) h2;have hcell:=htab (Lib.l10 (Lib.bitLen u)) (by omega);have hto:((u:Int)).toNat=u:=by omega
 generalize hq:Lib.l10 (Lib.bitLen u)=q at hnd h19 hcell;generalize hT:10 ^ q=T at hnd hcell;have h20:q<20:=by omega
 have Hnd:=Lib.hid hnd;clear hnd htab;have mixed:=follows;go_enter Tryz.func155,Tryz.ntmps155;go_wp2_with (first
  | (go_at_call 113;refine(Tryz.bits_Len64 _ _ (by omega) (by omega)).mono ?_;rintro e w' ⟨rfl,rfl⟩)
  | (go_at_call 183;refine(Tryz.internal_strconv_log10Pow2 _ (by first|exact hL|(rw[hto];exact hL)) _).mono ?_;rintro e w' ⟨rfl,rfl⟩)
  | (go_at_call 184;refine(Tryz.internal_strconv_bool2_int _ _).mono ?_;rintro e w' ⟨rfl,rfl⟩))
 all_goals go_ret
 all_goals (
  refine⟨?_,rfl⟩
  have hnd:=Hnd.out
  congr 2
  split at hnd<;>simp_all<;>omega)
theorem ZvT (u : Nat) (hu1 : 100 ≤ u) (hu2 : u ≤ 999999) (w : World) (htab : Zoq w) :
  Calls Tryz.prog 115 #[.int .i64 u,.int .i64 10] w fun e w'=>e= .returned (.string ⟨(Lib.decDigits u).toArray⟩)∧Below w.heap.size w w':=by
 have hu64:u<18446744073709551616:=by omega
 have hnd20:Lib.nDigits u≤20:=by have:=Lib.numDigits_eq u (by omega) hu64;split at this<;>omega
 have hb3:Lib.nDigits u≤23:=by omega
 have hlt:4<w.heap.size:=Lib.lt_of_cell (htab 0 (by omega))
 have htab2:Zoq (w.alloc (.cells Lib.zeros24 169)):=fun j hj=>by
  rw[← htab j hj]
  exact World.cell?_of_block (w:=w) (Below.heap_alloc w _ _ hlt)
 have hal:Tryz.prog.arrayLen 169=24:=by kernel_rfl
 have hsl1:∀W,(Instr.sliceAt 169 (.pointer (some ⟨w.heap.size,0,none⟩)) (some (.int .i64 1)) (some (.int .i64 (1+(Lib.nDigits u:Int)))) none).run Tryz.prog W= .ok (.slice (some ⟨w.heap.size,1,none⟩) (Lib.nDigits u) 23) W:=fun W=>by
  rw[run_sliceAt_array_lh W 169 ⟨w.heap.size,0,none⟩ (by kernel_rfl) .i64 .i64 1 (1+(Lib.nDigits u:Int)) (by omega) (by omega) (by rw[hal];omega)]
  go_simp
  omega
 have hH0:=Lib.holds_zero w 169 (Lib.nDigits u) (by omega)
 have hfmt:=Tryz.internal_strconv_formatBase10 w.heap.size 1 23 u (Array.replicate (Lib.nDigits u) 0) (w.alloc (.cells Lib.zeros24 169)) hH0 (by rw[Array.size_replicate];exact Lib.lt_pow_nDigits u) hu64 (by rw[Array.size_replicate];omega)
 rw[Array.size_replicate]at hfmt
 have HH0:=Lib.hid hH0
 clear hH0 hal
 have mixed:=follows
 go_enter Tryz.func115,Tryz.ntmps115
 go_wp2_with (first
  | (go_at_call 155;refine(Zw1 u (by omega) hu64 _ htab2).mono ?_;rintro e w' ⟨rfl,rfl⟩))
 go_at_call 156
 refine hfmt.mono ?_
 rintro e w' ⟨rfl,k,v',dk,rfl,hF⟩
 have hcv:(convert 47 9 (.slice (some ⟨w.heap.size,1,none⟩) (Lib.nDigits u) 23)).run Tryz.prog ((putRow (fun (b:UInt8)=>Value.int .u8 (b.toNat:Int)) (w.alloc (.cells Lib.zeros24 169)) w.heap.size 1 dk).drewN k)= .ok (.string ⟨(Lib.decDigits u).toArray⟩) ((putRow (fun (b:UInt8)=>Value.int .u8 (b.toNat:Int)) (w.alloc (.cells Lib.zeros24 169)) w.heap.size 1 dk).drewN k):=by
  have h:=run_convert_bytes_back (P:=Tryz.prog) ((putRow (fun (b:UInt8)=>Value.int .u8 (b.toNat:Int)) (w.alloc (.cells Lib.zeros24 169)) w.heap.size 1 dk).drewN k) 47 9 5 ⟨w.heap.size,1,none⟩ 23 (Lib.decDigits u) Tryz.underlying47 Tryz.underlying5 Tryz.underlying9 (fun j hj=>by
   rw[Lib.row_is_numeral hF j hj,Lib.add_plain,World.cell?_drewN]
   exact cell?_putRow (fun (b:UInt8)=>Value.int .u8 (b.toNat:Int)) _ w.heap.size 1 _ dk HH0.out (by rw[hF.size,Array.size_replicate]) j (by rw[hF.size];rw[Lib.decDigits_length]at hj;exact hj))
  rw[Lib.decDigits_length]at h
  exact h
 go_wp2
 go_ret
 obtain⟨os,eo⟩:=Lib.fin_pos w (.cells Lib.zeros24 169) dk k
 refine⟨rfl,?_⟩
 rw[eo]
 exact Zhx w k os
theorem Zu8 (u:Nat) (hu:u<100) (w:World):Calls Tryz.prog 115 #[.int .i64 u,.int .i64 10] w fun e w'=>e= .returned (.string ⟨(Lib.decDigits u).toArray⟩)∧Below w.heap.size w w':=by have mixed:=follows;go_enter Tryz.func115,Tryz.ntmps115;go_wp2_with (go_at_call 154;refine(Tryz.internal_strconv_small u hu _).mono ?_;rintro e w' ⟨rfl,rfl⟩);go_ret;exact⟨rfl,Below.refl _ _⟩
theorem Zj2:∀j,j<20→ZbK[j]? = some (.int .u64 ((10 ^ j:Nat):Int)):=by
 intro j hj
 rcases(show j=0∨j=1∨j=2∨j=3∨j=4∨j=5∨j=6∨j=7∨j=8∨j=9∨j=10∨j=11∨j=12∨j=13∨j=14∨j=15∨j=16∨j=17∨j=18∨j=19 by omega) with
  rfl|rfl|rfl|rfl|rfl|rfl|rfl|rfl|rfl|rfl|rfl|rfl|rfl|rfl|rfl|rfl|rfl|rfl|rfl|rfl<;>rfl
theorem ZvP (h0:0≤n) (h1:n≤999999):∀H,CO 115 [.int .i64 n,.int .i64 10] H (.str (Lib.itoa n)) H:=by obtain⟨u,rfl⟩:∃u:Nat,n=(u:Int):=⟨n.toNat,by omega⟩;refine QP fe115.ok rfl fun g w vals hst hg hv=>?_;obtain⟨v0,v1,rfl,e0,e1⟩:=Xx hv;obtain rfl:=e0.int_inv;obtain rfl:=e1.int_inv;refine⟨.string ⟨(Lib.decDigits u).toArray⟩,.str _ _ (by rw[Lib.itoa_nonneg]),?_⟩;by_cases hs:u<100;{exact Zu8 u hs w};{exact ZvT u (by omega) (by omega) w fun j hj=>ZpC hg (k:=4) rfl hst (Zj2 j hj)}
theorem c78 (h0:0≤n) (h1:n≤999999):∀H,CO 78 [.int .i64 n] H (.str (Lib.itoa n)) H:=by
 have hc:=ZvP h0 h1;refine Jw tOk fe78.ok rfl ?_;repeat' first|refine Jc (hc _) ?_|refine Jo ?_|fail
 all_goals rfl
theorem c41 (h0:0≤n) (h1:n≤999999):∀H,CO 41 [.int .i64 n] H (.str (Lib.itoa n)) H:=by
 have hc:=c78 h0 h1;refine Jw tOk fe41.ok rfl ?_;repeat' first|refine Jc (hc _) ?_|refine Jo ?_|fail
 all_goals rfl
theorem ZbZ {b:ByteArray} (h:b.data.toList=s):b.size=s.length:=by rw[← h];simp
theorem c52 (hs:s.length≤1000000):∀H,CO 52 [.str s] H (Zia s) H:=by
 refine ZcE fe52.ok rfl fun g w vals hst hg hv=>?_;obtain⟨v0,rfl,e0⟩:=Ze6 hv;obtain⟨b,rfl,hb⟩:=e0.str_inv;have hz:=ZbZ hb;obtain⟨c1,q1,r1⟩:=hg.2.2 2 Zfa rfl;obtain⟨c2,q2,r2⟩:=hg.2.2 3 Zfa rfl;obtain⟨t1,p1,rfl⟩:=Zam r1;obtain⟨t2,p2,rfl⟩:=Zam r2;have y1:=hst _ _ _ q1;have y2:=hst _ _ _ q2;unfold Zia;cases h:Lib.atoiAll s with
 |ok v=>refine(Tryz.strconv_Atoi_ok b (by omega) v (by rw[hb];exact h) w).mono fun e w' ⟨h1,h2⟩=>⟨_,h1,V0.tup2 (.int _ _) .nili,?_⟩;rcases h2 with rfl|⟨t,rfl⟩;{exact Below.refl _ _};{exact Lib.bytesWorld_below _ _ _}
 |range=>have hc:=Tryz.strconv_Atoi_range b (by omega) (by rw[hb];exact h) _ w y2 (.inr ⟨_,_,rfl⟩);rw[hb]at hc;exact hc.mono fun e w' ⟨N,h1,_,_,h2⟩=>⟨_,h1,V0.tup2 (.int _ _) (.ifc _ _),h2⟩
 |_=>have hc:=Tryz.strconv_Atoi_syntax b (by omega) (fun v e=>by rw[hb,h]at e;cases e) (fun e=>by rw[hb,h]at e;cases e) _ w y1 (.inr ⟨_,_,rfl⟩);exact hc.mono fun e w' ⟨N,h1,_,_,h2⟩=>⟨_,h1,V0.tup2 (.int _ _) (.ifc _ _),h2⟩
theorem c49 (hs:s.length≤1000000) (h1:1≤sep.length):∀H,CO 49 [.str s,.str sep] H (.sl .none 1 (Zp (spl sep s))) H:=by
 refine ZfD fe49.ok fun g w vals hst hg hv=>?_;obtain⟨v0,v1,rfl,e0,e1⟩:=Xx hv;obtain⟨b,rfl,hb⟩:=e0.str_inv;obtain⟨c,rfl,hc⟩:=e1.str_inv;have hz:=ZbZ hb;have hz2:=ZbZ hc;obtain⟨c1,q1,r1⟩:=hg.2.2 1 Zjr rfl;obtain⟨m,rfl⟩:=Zeq r1;have hne:sep≠ []:=fun e=>by rw[e]at h1;simp at h1
 have hm:=Lib.splitB_data c 0 (Lib.countB b c) b;rw[hb,hc]at hm;have hcB:Lib.countB b c=Lib.count s sep:=by rw[← hb, ← hc]
 have hcall:=Tryz.strings_Split b c m w (by omega) (hst _ _ _ q1) (by omega);have hlen:=Lib.splitB_all c (by omega) 0 _ b rfl;refine⟨Lib.splitB c 0 (Lib.countB b c) b,9,?_,?_⟩;{rw[hm,hcB,ZjJ hne _ s (Nat.le_refl _)]};{rw[hlen];exact hcall}
theorem c24 (hs:s.length≤1000000):∀H,CO 24 [.str s,.str sep] H (.tup [.str (Lib.cut s sep).1,.str (Lib.cut s sep).2.1,.bool (Lib.cut s sep).2.2]) H:=by refine QP fe24.ok rfl fun g w vals hst hg hv=>?_;obtain⟨v0,v1,rfl,e0,e1⟩:=Xx hv;obtain⟨b,rfl,hb⟩:=e0.str_inv;obtain⟨c,rfl,hc⟩:=e1.str_inv;have hz:=ZbZ hb;obtain⟨c1,q1,r1⟩:=hg.2.2 1 Zjr rfl;obtain⟨m,rfl⟩:=Zeq r1;have hcall:=Tryz.strings_Cut b c m w (by omega) (hst _ _ _ q1);rw[hb,hc]at hcall;refine⟨_,V0.tup3 (.str _ _ rfl) (.str _ _ rfl) (.bool _),hcall.mono fun e w' ⟨h1,n,h2⟩=>⟨h1,?_⟩⟩;subst h2;exact⟨rfl,rfl,rfl,Nat.le_refl _,fun _ _=>rfl⟩
end Go.Vm.Seat
namespace Go.Vm
variable {t:Tm}
theorem Zmo {s:Bs} (h:Z5 s=true):s.length≤24:=by
 cases s with
 |nil=>exact Nat.zero_le _
 |cons c r=>simp only[Z5,Bool.and_eq_true,decide_eq_true_eq]at h;exact h.1
theorem ZkB {k:Int} {nm:Bs} {s:Int} {n:Nat} (h:YW k nm s n=0):Z5 nm=true:=by unfold YW at h;split at h;{cases h};split at h;{cases h};{rename_i h2;simpa using h2}
mutual
theorem ZuR:∀t:Tm,t.nodes=0→t.wr=true
 | .mk k nm s b kz, h => by
   rw[Tm.nodes]at h
   have h0:YW k nm s kz.length=0:=by
    by_cases e:YW k nm s kz.length=0
    · exact e
    · rw[if_pos e]at h;exact h
   rw[if_neg (by omega)]at h
   have hkids:=Zrc kz h
   rw[Tm.wr,decide_eq_true (Zmo (ZkB h0)),Bool.true_and]
   by_cases hk:k=3
   · rw[if_pos hk];exact hkids
   · rw[if_neg hk]
     have:¬ (¬ (k=1∨k=2∨k=3)∨s<0∨5<s∨(k=3∧s≠0)∨(k≠3∧0<kz.length)):=fun e=>by
      unfold YW at h0
      rw[if_pos e]at h0
      cases h0
     simp only[not_or,Int.not_lt]at this
     rw[decide_eq_true (by omega),decide_eq_true this.2.1,decide_eq_true this.2.2.1];rfl
theorem Zrc:∀l:List Tm,Yy l=0→wrL l=true
 | [],_=>rfl
 | t :: r, h => by
   rw[Yy]at h
   have h0:t.nodes=0:=by
    by_cases e:t.nodes=0
    · exact e
    · rw[if_pos e]at h;exact h
   rw[if_neg (by omega)]at h
   rw[wrL,ZuR t h0,Zrc r h];rfl
end
structure Tm.TV (t:Tm):Prop where
 ok:t.Ok
 v:t.valid=0
theorem ZfH (h:t.TV):t.size≤400:=Y9 h.v
theorem Zra (h:t.TV):t.wr=true:=ZuR t (ZnG h.v)
theorem ZpG (h:t.TV):(wT t).length≤16000:=by have h1:=ZiB t (Zra h);have h2:=ZfH h;omega
end Go.Vm
namespace Go.Vm.Seat
open Go.Proofs
theorem c42 {t:Tm} (hf:t.TV):∀H,CO 42 [.agg t.cells] H (.tup [.str (wT t),.int .i64 0]) H:=by
 have ht:=hf.ok;have hV:=c65 ht (by have:=ZfH hf;omega);rw[hf.v]at hV;obtain⟨r,H',hw,rfl,bx',lv',nt',p',v',rfl,hb,hS, -⟩:=wrT ht (Zra hf) (bx:=[.cells 4 [t.cells],.sp 49 [.nilp,.nils]]) (lv:=[]) (nt:=0) (id:=1) (s:=[]) rfl (.no _ _) (by have:=ZfH hf;simp only[List.length_nil];omega);rw[List.nil_append]at hS;obtain⟨lv2,hs⟩:=ZwN hb hS (by have:=ZpG hf;omega);generalize wT t=W at hs ⊢;clear hS hb;obtain⟨k,nm,s,b,kz⟩:=t;simp only[Tm.cells]at hV hw ⊢;refine Jw tOk fe42.ok rfl ?_;repeat' first|(apply qCl;rfl;rfl;rfl;rfl;first|exact hV _|exact hw|exact hs)|refine Ka ?_|fail
 all_goals rfl
end Go.Vm.Seat
namespace Go.Vm
variable {m:Mo}
def tfT (t:Tm):List Bs:=[[124],wT t]
theorem ZfJ (a b:List Bs):Zp (a++b)=Zp a++Zp b:=by simp[Zp]
theorem Wf (l:List Bs):noB (Zp l)=true:=by simp only[noB,Zp,List.all_map,List.all_eq_true];intro x _;rfl
theorem Znx (l:List Bs):(Zp l).all (fun c=>c.all ZP)=true:=by simp only[Zp,List.all_map,List.all_eq_true];intro x _;rfl
theorem ZdZ (N:Nat):∀l:List Bs,(∀x,x∈l→x.length≤N)→(W6 [32] l).length≤(N+1)*l.length
 | [],_=>by simp[W6]
 | [x],h=>by have:=h x (by simp);simp only[W6,List.length_cons,List.length_nil];omega
 |x::y::r,h=>by have h1:=h x (by simp);have h2:=ZdZ N (y::r) (fun z hz=>h z (List.mem_cons_of_mem _ hz));rw[W6];simp only[List.length_append,List.length_cons,List.length_nil]at h2 ⊢;rw[Nat.mul_add (N+1)];omega
theorem XM:∀(l:List Tm),(l.flatMap tfT).length=2*l.length
 | []=>rfl
 |t::r=>by rw[List.flatMap_cons,List.length_append,XM r];simp only[tfT,List.length_cons,List.length_nil];omega
def nmK (k:Int):Z3:=nmsL.getD k.toNat []
def ZkT (m:Mo):List Z3:=(if m.kind=6 then[] else[Lib.itoa m.num])++((if m.kind=1 then[Lib.itoa m.role] else[])++(if m.kind=4∨m.kind=5 then[Lib.itoa m.goal] else[]))
def ZlO (m:Mo):List Z3:=(nmK m.kind::ZkT m)++m.agents
def Vp (m:Mo):Z3:=W6 [32] (ZlO m++m.terms.flatMap tfT)
structure Mo.Ln (m:Mo):Prop where
 k1:1≤m.kind
 k7:m.kind≤7
 n:0≤m.num∧m.num≤999999
 r:0≤m.role∧m.role≤999999
 g:0≤m.goal∧m.goal≤999999
 al:m.agents.length≤4
 ags:∀x,x∈m.agents→x.length≤2000
 tl:m.terms.length≤12
 ts:∀t,t∈m.terms→t.TV
theorem ZeM {n:Int} (h0:0≤n) (h1:n≤999999):(Lib.itoa n).length≤20:=by obtain⟨u,rfl⟩:∃u:Nat,n=(u:Int):=⟨n.toNat,by omega⟩;rw[Lib.itoa_nonneg,Lib.decDigits_length];have:=Lib.nDigits_le20 u (by omega);omega
theorem ZkH (h:m.Ln):(ZlO m).length≤8∧∀x,x∈ZlO m→x.length≤16000:=by
 have e1:=ZeM h.n.1 h.n.2;have e2:=ZeM h.r.1 h.r.2;have e3:=ZeM h.g.1 h.g.2;have hal:=h.al;have hn:(ZkT m).length≤3∧∀x,x∈ZkT m→x.length≤20:=by unfold ZkT;constructor;{simp only[List.length_append];split<;>split<;>split<;>simp};{intro x hx;rcases List.mem_append.1 hx with hx|hx;{split at hx;{cases hx};{rw[List.mem_singleton]at hx;subst hx;exact e1}};{rcases List.mem_append.1 hx with hx|hx;{split at hx;{rw[List.mem_singleton]at hx;subst hx;exact e2};{cases hx}};{split at hx;{rw[List.mem_singleton]at hx;subst hx;exact e3};{cases hx}}}}
 have hk:(nmK m.kind).length≤7:=by obtain⟨kd,nu,ro,an,ag,go,tn,te⟩:=m;have h1:=h.k1;have h7:=h.k7;simp only at h1 h7;show(nmK kd).length≤7;rcases(show kd=1∨kd=2∨kd=3∨kd=4∨kd=5∨kd=6∨kd=7 by omega) with rfl|rfl|rfl|rfl|rfl|rfl|rfl<;>decide
 unfold ZlO;constructor;{simp only[List.length_append,List.length_cons];omega};{intro x hx;rcases List.mem_append.1 hx with hx|hx;{rcases List.mem_cons.1 hx with rfl|hx;{omega};{have:=hn.2 x hx;omega}};{have:=h.ags x hx;omega}}
theorem ZlM (h:m.Ln):(Vp m).length≤600000:=by
 obtain⟨h1,h2⟩:=ZkH h;have htl:=XM m.terms;have hmem:∀y,y∈ZlO m++m.terms.flatMap tfT→y.length≤16000:=fun y hy=>by rcases List.mem_append.1 hy with hy|hy;{exact h2 y hy};{obtain⟨t,ht,hy⟩:=List.mem_flatMap.1 hy;have:=ZpG (h.ts t ht);simp only[tfT,List.mem_cons,List.not_mem_nil,or_false]at hy;rcases hy with rfl|rfl;{simp};{omega}}
 have hjl:=ZdZ 16000 _ hmem;rw[List.length_append,htl]at hjl;have h3:=h.tl;have:(16000+1)*((ZlO m).length+2*m.terms.length)≤(16000+1)*32:=Nat.mul_le_mul_left _ (by omega);unfold Vp;omega
end Go.Vm
namespace Go.Vm.Seat
variable {l:List Bs} {out:PV} {lv:List Nat} {nt:Nat}
open Go.Proofs
theorem Znw:ApT E0 29 29 1 16:=⟨_,_,_,_,_,rfl,rfl,rfl,rfl,rfl,rfl,rfl,by decide,rfl⟩
theorem apF (h:ApV false 1 (Zp l) out lv nt) {x:PV} {r:List Bs} (hx:ElV 1 x (Zp r)) (hl:l.length+r.length≤100000):∃out' lv' nt',(∀bx ro,ZL E0 29 29 out x ⟨bx,ro,lv,nt⟩=some (out',⟨bx,ro,lv',nt'⟩))∧ApV false 1 (Zp (l++r)) out' lv' nt':=by obtain⟨out',lv',nt',hap,hA', -⟩:=h.app Znw hx (Znx _) (ZQ (by simp only[Zu];omega) (by decide)) (Wf _);rw[← ZfJ]at hA';exact⟨out',lv',nt',hap,hA'⟩
theorem ZeD (hA:ApV false 1 (Zp l) out lv nt) (h1:l.length≤1000000) (h2:(W6 [32] l).length≤1000000) (bx:List Box):CO 43 [out,.str [32]] ⟨bx,0,lv,nt⟩ (.str (W6 [32] l)) ⟨bx,0,lv,nt⟩:=by
 refine(z43 [out,.str [32]] _ _ _ ?_).1;have gq:(Nat.ble l.length 1000000&&Nat.ble (W6 [32] l).length 1000000)=true:=by rw[Nat.ble_eq_true_of_le h1,Nat.ble_eq_true_of_le h2];rfl
 generalize hL:Zp l=L at hA;cases hA with
 |nil _ _ h=>cases h
 |full=>subst hL;simp only[Zhj,Zfe,gq]
 |tok=>subst hL;simp only[Zhj,Zfe,gq]
theorem c19 {m:Mo} (hm:m.Ln):∀H,CO 19 [.agg m.cells] H (.str (Vp m)) H:=by
 have hsh:=WT;unfold shC at hsh;have hjl:=ZlM hm;have hPl:=(ZkH hm).1;have hte:=hm.ts;have hl:=hm.tl;have hal:=hm.al;have hk1:=hm.k1;have hk7:=hm.k7;have hi1:=c41 hm.n.1 hm.n.2;have hi2:=c41 hm.r.1 hm.r.2;have hi3:=c41 hm.g.1 hm.g.2;have hcl:=Zb m.terms;unfold Vp at hjl ⊢;obtain⟨P0,hP0⟩:∃P0,P0=ZlO m:=⟨_,rfl⟩;rw[← hP0]at hjl hPl ⊢;unfold ZlO ZkT at hP0;clear hm;obtain⟨kd,nu,ro,an,ag,go,tn,te⟩:=m;simp only[Mo.cells]at hjl hte hl hal hk1 hk7 hi1 hi2 hi3 hcl hP0 ⊢;generalize Lib.itoa nu=w1 at hi1 hP0;generalize Lib.itoa ro=w2 at hi2 hP0;generalize Lib.itoa go=w3 at hi3 hP0;have hA1:∀x:Bs,ApV false 1 (Zp [x]) (.sl .full 1 [[.str x]]) [] 0:=fun x=> .full _ _ _ rfl (Wf [x]);rcases(show kd=6∨kd=2∨kd=3∨kd=7∨kd=1∨kd=4∨kd=5 by omega) with rfl|rfl|rfl|rfl|rfl|rfl|rfl;have hAQ:=hA1 (nmK 6);have hPQ:[nmK 6]++ag=P0:=by rw[hP0];rfl
 rotate_left;obtain⟨p0,lp0,np0,hq0,hAQ⟩:=apF (hA1 (nmK 2)) (x:= .sl .full 1 [[.str w1]]) (r:=[w1]) (.sl _ _ _) (by simp);have hPQ:[nmK 2]++ [w1]++ag=P0:=by rw[hP0];rfl
 rotate_left;obtain⟨p0,lp0,np0,hq0,hAQ⟩:=apF (hA1 (nmK 3)) (x:= .sl .full 1 [[.str w1]]) (r:=[w1]) (.sl _ _ _) (by simp);have hPQ:[nmK 3]++ [w1]++ag=P0:=by rw[hP0];rfl
 rotate_left;obtain⟨p0,lp0,np0,hq0,hAQ⟩:=apF (hA1 (nmK 7)) (x:= .sl .full 1 [[.str w1]]) (r:=[w1]) (.sl _ _ _) (by simp);have hPQ:[nmK 7]++ [w1]++ag=P0:=by rw[hP0];rfl
 rotate_left;obtain⟨p0,lp0,np0,hq0,hB0⟩:=apF (hA1 (nmK 1)) (x:= .sl .full 1 [[.str w1]]) (r:=[w1]) (.sl _ _ _) (by simp);obtain⟨p1,lp1,np1,hq1,hAQ⟩:=apF hB0 (x:= .sl .full 1 [[.str w2]]) (r:=[w2]) (.sl _ _ _) (by simp);have hPQ:[nmK 1]++ [w1]++ [w2]++ag=P0:=by rw[hP0];rfl
 rotate_left;obtain⟨p0,lp0,np0,hq0,hB0⟩:=apF (hA1 (nmK 4)) (x:= .sl .full 1 [[.str w1]]) (r:=[w1]) (.sl _ _ _) (by simp);obtain⟨p1,lp1,np1,hq1,hAQ⟩:=apF hB0 (x:= .sl .full 1 [[.str w3]]) (r:=[w3]) (.sl _ _ _) (by simp);have hPQ:[nmK 4]++ [w1]++ [w3]++ag=P0:=by rw[hP0];rfl
 rotate_left;obtain⟨p0,lp0,np0,hq0,hB0⟩:=apF (hA1 (nmK 5)) (x:= .sl .full 1 [[.str w1]]) (r:=[w1]) (.sl _ _ _) (by simp);obtain⟨p1,lp1,np1,hq1,hAQ⟩:=apF hB0 (x:= .sl .full 1 [[.str w3]]) (r:=[w3]) (.sl _ _ _) (by simp);have hPQ:[nmK 5]++ [w1]++ [w3]++ag=P0:=by rw[hP0];rfl
 rotate_left;all_goals
  obtain⟨o2,lv2,nt2,hap2,hAX⟩:=apF hAQ (x:=slV an 1 (Zp ag)) (r:=ag) (.slV _ _ _) (by simp only[List.length_append,List.length_cons,List.length_nil];omega)
  rw[hPQ]at hAX
  clear hAQ hPQ hP0
  refine ZS (own:=fun d=>Nat.beq d 30006) tOk fe19.ok (by simp only[ZG,frzG,Wm,ZM];rfl) rfl ?_
  refine Wp.seq ?_
  repeat' first|(apply qCl;rfl;rfl;rfl;rfl;first|exact hi1 _|exact hi2 _|exact hi3 _)|refine Kv ?_|refine KO ?_|refine Jd (hsh _) ?_|(apply dAl;rfl;rfl;rfl;rfl;exact IsV.ptrM;exact IsH.mkN)|refine Jh ?_|(apply dWB tOk follows;rfl;kernel_rfl;rfl;exact IsH.mkN)|fail
  refine Wp.while (fun m tm H => ∃(i : Nat) (base : TM) (out : PV) (lv : List Nat) (nt : Nat), i + m = te.length ∧ ApV false 1 (Zp (P0 ++ (te.take i).flatMap tfT)) out lv nt ∧
    tm=ovr base [(4,out),(46,slV tn 4 (Za te)),(47,.int .i64 (te.length:Int)),(48,.int .i64 (i:Int))]∧H=⟨_,0,lv,nt⟩)
   (fun m tm H hI=>Wp.drop ?_) te.length _ _ ⟨0,_,_,_,_,by omega,by rw[List.take_zero,List.flatMap_nil,List.append_nil];exact hAX,Zd ⟨rfl,rfl,Zg (by rw[hcl]),rfl,trivial⟩,rfl⟩
  obtain⟨i,base,out,lv,nt,hi,hA,rfl,rfl⟩:=hI
  have hlx:=Zv (i:Int) (te.length:Int)
  by_cases hlt:i<te.length
  · obtain⟨x, hx⟩ : ∃x, te[i]? = some x := ⟨te[i], by simp⟩
    rw[decide_eq_true (by omega)]at hlx
    have hF:=c42 (hte x (List.mem_of_getElem? hx))
    have hsn:P0++(te.take (i+1)).flatMap tfT=(P0++(te.take i).flatMap tfT)++ [[124],wT x]:=by
     rw[List.take_add_one,hx,List.flatMap_append,List.append_assoc];rfl
    have htl:=XM (te.take i)
    rw[List.length_take]at htl
    obtain⟨o5,lv5,nt5,hap5,hA5⟩:=apF hA (x:= .sl .full 1 [[.str [124]],[.str (wT x)]]) (r:=[[124],wT x]) (.sl _ _ _) (by simp only[List.length_append,htl,List.length_cons,List.length_nil];omega)
    rw[← hsn]at hA5
    clear hAX hA hsn htl
    generalize wT x=w2 at hF hap5
    obtain⟨k',nm',s',b',kz'⟩:=x
    have hj:=Zk hx
    simp only[Tm.cells]at hF
    repeat' first|refine Jc (hF _) ?_|refine Kv ?_|refine KQ ?_|fail
    refine DropQ.go [(4,o5),(46,slV tn 4 (Za te)),(47,.int .i64 (te.length:Int)),(48,.int .i64 ((i+1:Nat):Int))] ⟨rfl,rfl,rfl,Zg (Ze (n:=i+1) (by omega)),trivial⟩ ?_ rfl ?_ (LoopI.go (m-1) (by omega) ⟨i+1,_,o5,lv5,nt5,by omega,hA5,rfl,rfl⟩)
    · simp[Zl,under,hA5.under]
    · simp[Ys,ZC,Zl,under]
  · have e : i = te.length := by omega
    subst e
    rw[decide_eq_false (by omega)]at hlx
    rw[List.take_length]at hA
    have htl:=XM te
    have hJ:=fun bx=>ZeD hA (by rw[List.length_append,htl];omega) (by omega) bx
    clear hAX hA htl
    repeat' first|refine Jc (hJ _) ?_|refine Kk ?_|fail
    all_goals rfl
end Go.Vm.Seat
namespace Go.Vm
theorem ZtW (w:Z3):(ixW w nmsL 0<1∧kdP w 7=0)∨(1≤ixW w nmsL 0∧ixW w nmsL 0=kdP w 7):=by by_cases h0:w=nmsL.getD 0 [];{subst h0;exact .inl (by decide)};by_cases h1:w=nmsL.getD 1 [];{subst h1;exact .inr (by decide)};by_cases h2:w=nmsL.getD 2 [];{subst h2;exact .inr (by decide)};by_cases h3:w=nmsL.getD 3 [];{subst h3;exact .inr (by decide)};by_cases h4:w=nmsL.getD 4 [];{subst h4;exact .inr (by decide)};by_cases h5:w=nmsL.getD 5 [];{subst h5;exact .inr (by decide)};by_cases h6:w=nmsL.getD 6 [];{subst h6;exact .inr (by decide)};by_cases h7:w=nmsL.getD 7 [];{subst h7;exact .inr (by decide)};refine .inl ⟨?_,?_⟩;{simp only[nmsL,List.getD_cons_zero,List.getD_cons_succ]at h0 h1 h2 h3 h4 h5 h6 h7;simp only[nmsL,ixW,if_neg h0,if_neg h1,if_neg h2,if_neg h3,if_neg h4,if_neg h5,if_neg h6,if_neg h7];decide};{simp only[kdP,if_neg h1,if_neg h2,if_neg h3,if_neg h4,if_neg h5,if_neg h6,if_neg h7]}
end Go.Vm
namespace Go.Vm.Seat
variable {l:List Bs}
open Go.Proofs
theorem c57 {s:Bs} (hs:s.length≤maxLen):∀H,CO 57 [.str s] H (.bool (!YV s)) H:=by
 have hc:=c58 hs;generalize YV s=B at hc ⊢;cases B;all_goals
  refine Jw tOk fe57.ok rfl ?_
  repeat' first|refine Jc (hc _) ?_|refine Ka ?_|fail
  all_goals rfl
theorem Zwe (hl:∀s,s∈l→s.length≤maxLen) (hlen:l.length≤100000) (b:Bool):∀H,CO 91 [slV b 1 (Zp l),.fn 57 []] H (.int .i64 (ixN l 0)) H:=by
 have hsl:=Zu l;refine Jw tOk fe91.ok rfl ?_;repeat' first|refine KS ?_|fail
 refine Wp.while (fun m tm H=>∃(i:Nat) (base:TM),i+m=l.length∧ixN l 0=ixN (l.drop i) i∧tm=ovr base [(0,slV b 1 (Zp l)),(1,.fn 57 []),(7,.int .i64 (l.length:Int)),(8,.int .i64 (i:Int))]∧H=⟨[],0,[],0⟩)
  (fun m tm H hI=>?_) l.length _ _ ⟨0,_,by omega,by simp,Zd ⟨rfl,rfl,Zg (by rw[hsl]),rfl,trivial⟩,rfl⟩
 obtain⟨i,base,hi,hgo,rfl,rfl⟩:=hI;rw[hgo];by_cases hlt:i<l.length;{obtain⟨a,ha⟩:∃a,l[i]? = some a:=⟨l[i],by simp⟩;have hj:=YU ha;have hc:=c57 (hl a (List.mem_of_getElem? ha));have hlx:=Zv (i:Int) (l.length:Int);rw[decide_eq_true (by omega)]at hlx;rw[ZgQ ha];by_cases hd:YV a=false;{rw[if_pos hd];rw[hd]at hc;have hc:∀H,CO 57 [.str a] H (.bool true) H:=hc;(repeat' first|refine Jc (hc _) ?_|refine KQ ?_|fail);all_goals rfl};{rw[if_neg hd];rw[show YV a=true by simpa using hd]at hc;have hc:∀H,CO 57 [.str a] H (.bool false) H:=hc;(repeat' first|refine Jc (hc _) ?_|refine KQ ?_|fail);exact LoopI.go (m-1) (by omega) ⟨i+1,_,by omega,rfl,Zd ⟨rfl,rfl,rfl,Zg (Ze (n:=i+1) (by omega)),trivial⟩,rfl⟩}}
 ·have e:i=l.length:=by omega
  subst e;have hlx:=Zv (l.length:Int) (l.length:Int);rw[decide_eq_false (by omega)]at hlx;rw[List.drop_length];repeat' first|refine Kk ?_|fail
  all_goals rfl
theorem Zqd (hl:∀s,s∈l→s.length≤maxLen) (hlen:l.length≤100000) (b:Bool):∀H,CO 56 [slV b 1 (Zp l),.fn 57 []] H (.bool (l.any fun s=> !YV s)) H:=by
 have hc:=Zwe hl hlen b;rw[← Zfg l 0];have hge:=XP (ixN l 0) 0;generalize ixN l 0=x at hc hge ⊢;generalize decide (0≤x)=A at hge ⊢;refine Jw tOk fe56.ok rfl ?_;cases A;all_goals
  repeat' first|refine Jc (hc _) ?_|refine Kd ?_|fail
  all_goals rfl
theorem Zrz {l:List Z3} (hne:l≠ []) (hl:l.length≤100000) (b:Bool):∀H,CO 53 [slV b 1 (Zp l)] H (slV true 1 (Zp l)) H:=by
 refine Jw tOk fe53.ok (ZJ _ _ _ _ _) ?_;obtain⟨out',lv',nt',hap,hA, -⟩:=(ApV.full (es:=1) [] [] 0 (rfl:false=false) rfl).app Zns (.slV b 1 (Zp l)) (Zgr l) (ZQ (by simp[Zu];omega) (by decide)) (Zgw l);rw[We hne b]at hap ⊢;rw[We hne true];repeat' first|refine Kv ?_|refine Ka ?_|fail
 exact(hA.frz3 _ _).trans (by rw[List.nil_append,We hne false])
abbrev wB (w:Z3) (ws:List Z3):Box:= .cells 1 [[.sl .none 1 (Zp (w::ws))]]
abbrev cA:Box:= .cells 6 [UI 0 0 0 0]
theorem Zvh (nm w:Z3) (ws:List Z3) (f1 f2 f3:Bool) (a b c d:Int):CO 51 [.agg [.str nm,.bool f1,.bool f2,.bool f3,.int .i64 a,.int .i64 b,.int .i64 c,.int .i64 d],.ptr 1 1 0 0] ⟨[cA,wB w ws],0,[],0⟩ (.bool (decide (nm=w))) ⟨[cA,wB w ws],0,[],0⟩:=by
 have he:=Zmh nm w;generalize decide (nm=w)=B at he ⊢;have key:CO 51 [.agg [.str nm,.bool f1,.bool f2,.bool f3,.int .i64 a,.int .i64 b,.int .i64 c,.int .i64 d],.ptr 1 1 0 0] ⟨[cA,wB w ws],0,[],0⟩ (.bool B) ⟨[cA,wB w ws,.cells 8 [[.str nm,.bool f1,.bool f2,.bool f3,.int .i64 a,.int .i64 b,.int .i64 c,.int .i64 d]]],0,[],0⟩:=by
  refine ZW (own:=fun _=>false) tOk fe51.ok ?_;refine Wp.seq ?_;repeat' first|refine Ka ?_|refine JD ?_|refine Kb ?_|fail
  all_goals exact RetE.ret rfl rfl rfl
 exact key.shed (by simp) (Nat.zero_le _) rfl rfl
theorem Zt1 (w:Z3) (ws:List Z3):CO 50 [.sl .none 8 shC,.fn 51 [.ptr 1 1 0 0]] ⟨[cA,wB w ws],0,[],0⟩ (.int .i64 (ixW w nmsL 0)) ⟨[cA,wB w ws],0,[],0⟩:=by
 unfold shC;refine ZW (own:=fun _=>false) tOk fe50.ok ?_;refine Wp.seq ?_;repeat' first|refine Jo ?_|fail
 refine Wp.while (fun m tm H=>∃(i:Nat) (base:TM),i+m=8∧ixW w nmsL 0=ixW w (nmsL.drop i) i∧tm=ovr base [(0,.sl .none 8 [_,_,_,_,_,_,_,_]),(1,.fn 51 [.ptr 1 1 0 0]),(7,.int .i64 8),(8,.int .i64 (i:Int))]∧H=⟨[cA,wB w ws],0,[],0⟩)
  (fun m tm H hI=>?_) 8 _ _ ⟨0,_,by omega,rfl,Zd ⟨rfl,rfl,rfl,rfl,trivial⟩,rfl⟩
 obtain⟨i,base,hi,hx,rfl,rfl⟩:=hI;rw[hx];by_cases hi8:i=8
 ·subst hi8;repeat' first|refine KN ?_|fail
  all_goals exact RetE.ret rfl rfl rfl
 ·have hc:=Zvh (nmsL.getD i []) w ws;have hdr:ixW w (nmsL.drop i) i=if w=nmsL.getD i [] then(i:Int) else ixW w (nmsL.drop (i+1)) (i+1):=by rcases(show i=0∨i=1∨i=2∨i=3∨i=4∨i=5∨i=6∨i=7 by omega) with rfl|rfl|rfl|rfl|rfl|rfl|rfl|rfl<;>rfl
  obtain⟨j,hj⟩:∃j,j=i+1:=⟨_,rfl⟩;by_cases hb:w=nmsL.getD i []
  ·rw[hdr, if_pos hb];rw[decide_eq_true hb.symm]at hc;rcases(show i=0∨i=1∨i=2∨i=3∨i=4∨i=5∨i=6∨i=7 by omega) with rfl|rfl|rfl|rfl|rfl|rfl|rfl|rfl;all_goals
    simp only[nmsL,List.getD_cons_succ,List.getD_cons_zero]at hc
    repeat' first|refine Jc (hc _ _ _ _ _ _ _) ?_|refine Kh ?_|fail
    all_goals exact RetE.ret rfl rfl rfl
  ·rw[hdr, if_neg hb];rw[decide_eq_false (fun e=>hb e.symm)]at hc;rw[← hj];rcases(show i=0∨i=1∨i=2∨i=3∨i=4∨i=5∨i=6∨i=7 by omega) with rfl|rfl|rfl|rfl|rfl|rfl|rfl|rfl;all_goals
    simp only[nmsL,List.getD_cons_succ,List.getD_cons_zero]at hc
    repeat' first|refine Jc (hc _ _ _ _ _ _ _) ?_|refine Kh ?_|fail
    exact LoopI.go (m-1) (by omega) ⟨j,_,by omega,rfl,Zd ⟨rfl,rfl,rfl,by subst hj;rfl,trivial⟩,rfl⟩
