/-
  The variables of a term: terms that stand twice go.
-/
import Derived.Test.YtnghnjdabbjcnaaGreatDoorVNb
set_option maxHeartbeats 0
set_option maxRecDepth 100000
namespace Go.Vm.Seat
variable {rest:List Box} {L:List Tm} {v:PV} {kk:Int} {j k n:Nat} {t u:Tm} {H:Heap}
open Go.Proofs
inductive Gth (rest:List Box):PV→List Tm→Prop
 |nil:Gth rest .nils []
 |own (o:Nat) (L:List Tm) (hb:rest[o]? = some (.cells 4 (Za L))) (hL:L≠ []):Gth rest (.own (o+3) 4 0 L.length) L
structure Fra (rest:List Box) (v:PV) (rest':List Box) (v':PV):Prop where
 len:rest.length≤rest'.length
 bx:∀i b,rest[i]? = some b→(∀n,v≠ .own (i+3) 4 0 n)→rest'[i]? = some b∧∀n,v'≠ .own (i+3) 4 0 n
theorem Fra.trans {r v r' v' r2 v2} (h:Fra r v r' v') (h2:Fra r' v' r2 v2):Fra r v r2 v2:=
 ⟨Nat.le_trans h.len h2.len,fun i b hb hv=>let ⟨a,c⟩:=h.bx i b hb hv;h2.bx i b a c⟩
theorem Vt (A K S:Box) (rest:List Box) (b:Box):nth (A::K::S::(rest++ [b])) (rest.length+3)=some b:=by rw[Zm];simp
theorem Zdn (A K S:Box) (rest:List Box) (i:Nat):nth (A::K::S::rest) (i+3)=rest[i]? :=by rw[Zm];simp
theorem W8 (l:List Tm):Yo (Za l)=some (Za l):=by
 induction l with
 |nil=>rfl
 |cons a r ih=>obtain⟨k,nm,s,b,kz⟩:=a;show Yo ([.int .i64 k,.str nm,.int .i64 s,slV b 4 (Za kz)]::Za r)=_;simp only[Yo,XA,ih];rfl
def Wh (kk:Int) (A:Box) (v:PV) (rest:List Box):Heap:=⟨A:: .cells 1 [[.int .i64 kk]]:: .cells 1 [[v]]::rest,0,[],0⟩
def Zpp (kk:Int) (A:Box) (L:List Tm) (rest:List Box) (v:PV) (H:Heap):Prop:=∃v' rest',H=Wh kk A v' rest'∧Gth rest' v' L∧Fra rest v rest' v'
abbrev Zc:List PV:=[.int .i64 0,.str [],.int .i64 0,.nils]
theorem ZnQ (A K S X:Box) (rest:List Box):ZK E0 30 30 .nils (.sl .full 4 [Zc]) ⟨A::K::S::(rest++ [X]),0,[],0⟩=some (.own (rest.length+4) 4 0 1,⟨A::K::S::((rest++ [X])++ [Box.cells 4 ([]++ [Zc])]),0,[],0⟩):=by have he:=ZW (s:= .nils) YB (ElV.sl .full 4 [Zc]) rfl rfl rfl ⟨A::K::S::(rest++ [X]),0,[],0⟩;simp only[ZK,he,YD];rw[if_pos (ZR (by simp) (by decide))];simp[Heap.push]
theorem Zno (A K S X:Box) {o:Nat} (hb:rest[o]? = some (.cells 4 (Za L))) (hL:L≠ []) (hlen:L.length≤100000):ZK E0 30 30 (.own (o+3) 4 0 L.length) (.sl .full 4 [Zc]) ⟨A::K::S::(rest++ [X]),0,[],0⟩=some (.own (rest.length+4) 4 0 (L.length+1),⟨A::K::S::((rest++ [X]).set o .dead++ [Box.cells 4 (Za L++ [Zc])]),0,[],0⟩):=by
 have ho:o<rest.length:=Zz hb;have hn:nth (A::K::S::(rest++ [X])) (o+3)=some (.cells 4 (Za L)):=by rw[Zdn,List.getElem?_append_left ho];exact hb
 have hs:YK ⟨A::K::S::(rest++ [X]),0,[],0⟩ (.own (o+3) 4 0 L.length)=some (Za L):=by simp only[YK,hn];rw[if_pos ⟨trivial,by rw[Zb];omega⟩,List.drop_zero, ← Zb L,List.take_length];exact W8 L
 have hpos:0<L.length:=List.length_pos_iff.2 hL;have he:=ZW (s:= .own (o+3) 4 0 L.length) YB (ElV.sl .full 4 [Zc]) rfl rfl rfl ⟨A::K::S::(rest++ [X]),0,[],0⟩;simp only[ZK,he,YD,WH,hs];rw[if_pos ⟨trivial,Nat.zero_le _,Zb L,ZR (by rw[Zb];simp;omega) (by decide)⟩];simp[Zb]
theorem Zst {x:Tm} (kk:Int) (A:Box) (hG:Gth rest v L) (hlen:L.length≤100000):∃H',CO 188 [.agg x.cells,.ptr 1 1 0 0,.ptr 2 1 0 0] (Wh kk A v rest) (.tup []) H'∧Zpp kk A (L++if x.knd=kk then[x] else[]) rest v H':=by
 obtain⟨k,nm,s,b,kz⟩:=x;unfold Wh;refine Za3 (own:=fun d=>Nat.beq d 12||Nat.beq d 30006) tOk fe188.ok ?_;refine Wp.seq ?_;have hl5:ZZ E0 3 (.ptr (rest.length+3) 4 0 0) ⟨A:: .cells 1 [[.int .i64 kk]]:: .cells 1 [[v]]::(rest++ [Box.cells 4 [[.int .i64 k,.str nm,.int .i64 s,slV b 4 (Za kz)]]]),0,[],0⟩=some (.int .i64 k):=Zfd (ti:=⟨.int .i64,1,8,.int .i64 0⟩) rfl rfl (Vt _ _ _ _ _) rfl rfl;have hl9:ZZ E0 39 (.ptr (rest.length+3) 4 0 0) ⟨A:: .cells 1 [[.int .i64 kk]]:: .cells 1 [[v]]::(rest++ [Box.cells 4 [[.int .i64 k,.str nm,.int .i64 s,slV b 4 (Za kz)]]]),0,[],0⟩=some (.agg [.int .i64 k,.str nm,.int .i64 s,slV b 4 (Za kz)]):=WT rfl rfl (Vt _ _ _ _ _) rfl rfl;cases hG with
 |nil=>
  repeat' first|refine Kf ?_|refine Jb ?_ ?_|refine Jo ?_|refine Ky ?_|intro hb
  ·apply dLd;{rfl};{rfl};{rfl};{exact hl9};{exact IsV.any _};{show Nat.blt _ _ = true;simp[Nat.blt]};(repeat' first|refine JB ?_|refine Jh ?_|fail);have hap:=ZnQ A (.cells 1 [[.int .i64 kk]]) (.cells 1 [[.nils]]) (.cells 4 [[.int .i64 k,.str nm,.int .i64 s,slV b 4 (Za kz)]]) rest;have hia:Zy E0 30 (.own (rest.length+4) 4 0 1) (.int .i64 0)=some (.ptr (rest.length+4) 4 0 0):=ZdO (j:=0) rfl rfl rfl rfl (by omega);have hwr : Heap.wr ⟨A :: .cells 1 [[.int .i64 kk]] :: .cells 1 [[.nils]] :: ((rest ++ [Box.cells 4 [[.int .i64 k, .str nm, .int .i64 s, slV b 4 (Za kz)]]]) ++ [Box.cells 4 ([] ++ [Zc])]), 0, [], 0⟩ (.ptr (rest.length + 4) 4 0 0) [.int .i64 k, .str nm, .int .i64 s, slV b 4 (Za kz)] =
     some ⟨A:: .cells 1 [[.int .i64 kk]]:: .cells 1 [[.nils]]::((rest++ [Box.cells 4 [[.int .i64 k,.str nm,.int .i64 s,slV b 4 (Za kz)]]])++ [Box.cells 4 (Za [Tm.mk k nm s b kz])]),0,[],0⟩:=by
    rw[U6 (es:=4) (el:=[Zc]) (old:=Zc) (by rw[Zm];simp) rfl (by simp) (Nat.zero_le _)]
    simp[Wq]
   apply ZqH;{rfl};{rfl};{rfl};{rfl};{rfl};{rfl};{exact hap};{simp};apply dIa;{rfl};{rfl};{rfl};{rfl};{exact hia};{exact IsV.any _};apply dSt;{rfl};{rfl};{rfl};{rfl};{exact IsL.n};{rfl};{simp only[List.all_cons,List.all_nil,Yd,Bool.and_true];rfl};{exact hwr};{exact IsH.mkN};{simp[Zm]};{show true=Nat.ble _ _;symm;exact Nat.ble_eq_true_of_le (by simp)};{rfl};apply dSt;{rfl};{rfl};{rfl};{rfl};{exact IsL.n};{rfl};{rfl};{rfl};{exact IsH.mkN};{rfl};{show false=Nat.ble _ _;symm;rw[Bool.eq_false_iff];intro h;have:=Nat.le_of_ble_eq_true h;simp at this};{rfl};apply DrwQ.nil;(have hkk:k=kk:=by simpa using hb);refine RetP.go rfl rfl ⟨_,(rest++ [Box.cells 4 [[.int .i64 k,.str nm,.int .i64 s,slV b 4 (Za kz)]]])++ [Box.cells 4 (Za [Tm.mk k nm s b kz])],rfl,?_,?_⟩;{rw[if_pos (show(Tm.mk k nm s b kz).knd=kk from hkk),List.nil_append];exact Gth.own (rest.length+1) [Tm.mk k nm s b kz] (by simp) (by simp)};{refine⟨by simp,fun i bx hbx _=>?_⟩;have hi:=Zz hbx;refine⟨by rw[List.append_assoc,List.getElem?_append_left hi];exact hbx,fun n hn=>?_⟩;have:rest.length+4=i+3:=(PV.own.inj hn).1;omega}
  {(have hkk:¬ k=kk:=by simpa using hb);refine RetP.go rfl rfl ⟨_,rest++ [Box.cells 4 [[.int .i64 k,.str nm,.int .i64 s,slV b 4 (Za kz)]]],rfl,?_,?_⟩;{rw[if_neg (show ¬ (Tm.mk k nm s b kz).knd=kk from hkk),List.append_nil];exact .nil};{refine⟨by simp,fun i bx hbx _=>⟨by rw[List.getElem?_append_left (Zz hbx)];exact hbx,fun n hn=>by cases hn⟩⟩}}
 |own o L hob hL=>
  have ho:o<rest.length:=Zz hob;repeat' first|refine Kf ?_|refine Jb ?_ ?_|refine Jo ?_|refine Ky ?_|intro hb
  ·apply dLd;{rfl};{rfl};{rfl};{exact hl9};{exact IsV.any _};{show Nat.blt _ _ = true;simp[Nat.blt]};(repeat' first|refine JB ?_|refine Jh ?_|fail);have hap:=Zno A (.cells 1 [[.int .i64 kk]]) (.cells 1 [[.own (o+3) 4 0 L.length]]) (.cells 4 [[.int .i64 k,.str nm,.int .i64 s,slV b 4 (Za kz)]]) hob hL hlen;have hia:Zy E0 30 (.own (rest.length+4) 4 0 (L.length+1)) (.int .i64 (L.length:Int))=some (.ptr (rest.length+4) 4 (0+L.length) 0):=ZdO rfl rfl rfl rfl (by omega);have hwr : Heap.wr ⟨A :: .cells 1 [[.int .i64 kk]] :: .cells 1 [[.own (o + 3) 4 0 L.length]] :: ((rest ++ [Box.cells 4 [[.int .i64 k, .str nm, .int .i64 s, slV b 4 (Za kz)]]]).set o .dead ++ [Box.cells 4 (Za L ++ [Zc])]), 0, [], 0⟩ (.ptr (rest.length + 4) 4 (0 + L.length) 0) [.int .i64 k, .str nm, .int .i64 s, slV b 4 (Za kz)] =
     some ⟨A:: .cells 1 [[.int .i64 kk]]:: .cells 1 [[.own (o+3) 4 0 L.length]]::((rest++ [Box.cells 4 [[.int .i64 k,.str nm,.int .i64 s,slV b 4 (Za kz)]]]).set o .dead++ [Box.cells 4 (Za (L++ [Tm.mk k nm s b kz]))]),0,[],0⟩:=by
    rw[U6 (es:=4) (el:=Za L++ [Zc]) (old:=Zc) (by rw[Zm];simp) (by rw[Zm,Nat.zero_add,List.getElem?_append_right (by rw[Zb];omega)];simp[Zb]) (by simp) (Nat.zero_le _)]
    have e2:(Za L++ [Zc]).set (0+L.length) (List.take 0 Zc++([.int .i64 k,.str nm,.int .i64 s,slV b 4 (Za kz)]++List.drop (0+ [PV.int .i64 k,.str nm,.int .i64 s,slV b 4 (Za kz)].length) Zc))=Za (L++ [Tm.mk k nm s b kz]):=by
     rw[Zs,Wq,Nat.zero_add,List.set_append_right _ _ (by rw[Zb];omega)]
     simp[Zb]
    rw[e2]
    simp
   apply ZqH;{rfl};{rfl};{rfl};{rfl};{rfl};{rfl};{exact hap};{simp};apply dIa;{rfl};{rfl};{rfl};{rfl};{exact hia};{exact IsV.any _};apply dSt;{rfl};{rfl};{rfl};{rfl};{exact IsL.n};{rfl};{simp only[List.all_cons,List.all_nil,Yd,Bool.and_true];rfl};{exact hwr};{exact IsH.mkN};{simp[Zm]};{show true=Nat.ble _ _;symm;exact Nat.ble_eq_true_of_le (by simp)};{rfl};apply dSt;{rfl};{rfl};{rfl};{rfl};{exact IsL.n};{rfl};{rfl};{rfl};{exact IsH.mkN};{rfl};{show false=Nat.ble _ _;symm;rw[Bool.eq_false_iff];intro h;have:=Nat.le_of_ble_eq_true h;simp at this};{rfl};apply DrwQ.nil;(have hkk:k=kk:=by simpa using hb);refine RetP.go rfl rfl ⟨_,(rest++ [Box.cells 4 [[.int .i64 k,.str nm,.int .i64 s,slV b 4 (Za kz)]]]).set o .dead++ [Box.cells 4 (Za (L++ [Tm.mk k nm s b kz]))],rfl,?_,?_⟩;{rw[if_pos (show(Tm.mk k nm s b kz).knd=kk from hkk)];have:=Gth.own (rest:=(rest++ [Box.cells 4 [[.int .i64 k,.str nm,.int .i64 s,slV b 4 (Za kz)]]]).set o .dead++ [Box.cells 4 (Za (L++ [Tm.mk k nm s b kz]))]) (rest.length+1) (L++ [Tm.mk k nm s b kz]) (by simp) (by simp);rw[List.length_append]at this;exact this};{refine⟨by simp;omega,fun i bx hbx hv=>?_⟩;have hi:=Zz hbx;have hio:i≠o:=fun e=>hv L.length (by rw[e]);refine⟨?_,fun n hn=>?_⟩;{rw[List.getElem?_append_left (by simp;omega),List.getElem?_set_ne (Ne.symm hio),List.getElem?_append_left hi];exact hbx};{have:rest.length+4=i+3:=(PV.own.inj hn).1;omega}}
  {(have hkk:¬ k=kk:=by simpa using hb);refine RetP.go rfl rfl ⟨_,rest++ [Box.cells 4 [[.int .i64 k,.str nm,.int .i64 s,slV b 4 (Za kz)]]],rfl,?_,?_⟩;{rw[if_neg (show ¬ (Tm.mk k nm s b kz).knd=kk from hkk),List.append_nil];exact .own o L (by rw[List.getElem?_append_left ho];exact hob) hL};{refine⟨by simp,fun i bx hbx hv=>⟨by rw[List.getElem?_append_left (Zz hbx)];exact hbx,hv⟩⟩}}
theorem Gth.lt (h:Gth rest v L) {i:Nat} (hi:rest.length≤i):∀n,v≠ .own (i+3) 4 0 n:=by
 cases h with
 |nil=>intro n hn;cases hn
 |own o L hb hL=>intro n hn;have h1:=Zz hb;have:o+3=i+3:=(PV.own.inj hn).1;omega
theorem Gth.app (h:Gth rest v L) (l:List Box):Gth (rest++l) v L:=by
 cases h with
 |nil=>exact .nil
 |own o L hb hL=>exact .own o L (by rw[List.getElem?_append_left (Zz hb)];exact hb) hL
theorem Fra.app (rest:List Box) (v:PV) (l:List Box):Fra rest v (rest++l) v:=
 ⟨by simp,fun i b hb hv=>⟨by rw[List.getElem?_append_left (Zz hb)];exact hb,hv⟩⟩
theorem Zkr {k:Int} {nm:List UInt8} {s:Int} {b:Bool} {kz:List Tm}:VE kk (Tm.mk k nm s b kz).all=(if(Tm.mk k nm s b kz).knd=kk then[Tm.mk k nm s b kz] else[])++VE kk (Qx kz):=by simp only[Tm.all,VE,List.filter_cons];by_cases c:(Tm.mk k nm s b kz).knd=kk<;>simp[c]
theorem Zlo {l l':List Tm}:VE kk (l++l')=VE kk l++VE kk l':=List.filter_append _ _
theorem ZmD (kk:Int) (A:Box) (ht:t.Ok):∀{rest:List Box} {v:PV} {L:List Tm},Gth rest v L→L.length+t.size≤100000→∃H',CO 187 [.agg t.cells,.fn 188 [.ptr 1 1 0 0,.ptr 2 1 0 0]] (Wh kk A v rest) (.tup []) H'∧Zpp kk A (L++VE kk t.all) rest v H':=by
 induction ht with
 | @mk k nm s b kz hk hs hn hl hok ih=>
 intro rest v L hG hsz;simp only[Tm.size]at hsz;have hGt:=hG.lt (Nat.le_refl _);obtain⟨H1,hc,v1,rest1,rfl,hG1,hF1⟩:=Zst (x:=Tm.mk k nm s b kz) kk A (hG.app [Box.cells 4 [[.int .i64 k,.str nm,.int .i64 s,slV b 4 (Za kz)]]]) (by omega);have hTB:=(hF1.bx rest.length (.cells 4 [[.int .i64 k,.str nm,.int .i64 s,slV b 4 (Za kz)]]) (by simp) hGt).1;unfold Wh at hc ⊢;refine Za3 (own:=fun _=>false) tOk fe187.ok ?_;refine Wp.seq ?_;have hl7:ZZ E0 39 (.ptr (rest.length+3) 4 0 0) ⟨A:: .cells 1 [[.int .i64 kk]]:: .cells 1 [[v]]::(rest++ [Box.cells 4 [[.int .i64 k,.str nm,.int .i64 s,slV b 4 (Za kz)]]]),0,[],0⟩=some (.agg [.int .i64 k,.str nm,.int .i64 s,slV b 4 (Za kz)]):=WT rfl rfl (Vt _ _ _ _ _) rfl rfl;have hl10:ZZ E0 30 (.ptr (rest.length+3) 4 0 3) ⟨A:: .cells 1 [[.int .i64 kk]]:: .cells 1 [[v1]]::rest1,0,[],0⟩=some (slV b 4 (Za kz)):=Zfd rfl rfl ((Zdn _ _ _ _ _).trans hTB) rfl rfl;repeat' first|refine Jc hc ?_|refine Kf ?_|refine KN ?_|fail
 rw[show(Tm.mk k nm s b kz).knd=k from rfl]at hG1;refine Wp.while (fun m tm H => ∃(i : Nat) (base : TM) (v' : PV) (rest' : List Box), i + m = kz.length ∧ Gth rest' v' (L ++ ((if k = kk then[Tm.mk k nm s b kz] else[]) ++ VE kk (Qx (kz.take i)))) ∧ Fra rest v rest' v' ∧
   tm=ovr base [(1,.fn 188 [.ptr 1 1 0 0,.ptr 2 1 0 0]),(10,slV b 4 (Za kz)),(11,.int .i64 (kz.length:Int)),(12,.int .i64 (i:Int))]∧H=⟨A:: .cells 1 [[.int .i64 kk]]:: .cells 1 [[v']]::rest',0,[],0⟩)
  (fun m tm H hI=>?_) kz.length _ _ ⟨0,_,v1,rest1,by omega,by simpa[Qx,VE] using hG1,(Fra.app rest v _).trans hF1,Ze ⟨rfl,rfl,Zg (by rw[Zb]),rfl,trivial⟩,rfl⟩
 clear hl7 hl10 hG1 hF1 hTB hc;obtain⟨i,base,v',rest',hi,hG',hF',rfl,rfl⟩:=hI;unfold maxLen at hl;by_cases hlt:i<kz.length
 ·obtain⟨t',ht'⟩:∃t',kz[i]? = some t':=⟨kz[i],by simp⟩;have hm:t'∈kz:=List.mem_of_getElem? ht';have hs2:=ZdU ht';have hst:=Wo ht';have hsl:=ZA kz (i+1);have hlen1:(VE kk (Qx (kz.take i))).length≤Zk (kz.take i):=by rw[← UI];exact QG _ _
  have hlen2:(if k=kk then[Tm.mk k nm s b kz] else[]).length≤1:=by split<;>simp
  have hj0:=ht';obtain⟨k',nm',s',b',kz'⟩:=t';have hj:=Zj ht';obtain⟨H1,hc,v2,rest2,rfl,hG2,hF2⟩:=ih _ hm (hG'.app [Box.cells 4 [[.int .i64 k',.str nm',.int .i64 s',slV b' 4 (Za kz')]]]) (by simp only[List.length_append];omega);unfold Wh at hc;have hwr : Heap.wr ⟨A :: .cells 1 [[.int .i64 kk]] :: .cells 1 [[v']] :: (rest' ++ [Box.cells 4 [Zc]]), 0, [], 0⟩ (.ptr (rest'.length + 3) 4 0 0) [.int .i64 k', .str nm', .int .i64 s', slV b' 4 (Za kz')] =
    some ⟨A:: .cells 1 [[.int .i64 kk]]:: .cells 1 [[v']]::(rest'++ [Box.cells 4 [[.int .i64 k',.str nm',.int .i64 s',slV b' 4 (Za kz')]]]),0,[],0⟩:=by
   rw[U6 (es:=4) (el:=[Zc]) (old:=Zc) (Vt _ _ _ _ _) rfl (by simp) (Nat.zero_le _)]
   simp
  have hl16:ZZ E0 39 (.ptr (rest'.length+3) 4 0 0) ⟨A:: .cells 1 [[.int .i64 kk]]:: .cells 1 [[v']]::(rest'++ [Box.cells 4 [[.int .i64 k',.str nm',.int .i64 s',slV b' 4 (Za kz')]]]),0,[],0⟩=some (.agg [.int .i64 k',.str nm',.int .i64 s',slV b' 4 (Za kz')]):=WT rfl rfl (Vt _ _ _ _ _) rfl rfl;repeat' first|refine Jc hc ?_|refine Kf ?_|refine Jx ?_|refine Jz ?_ ?_|refine Jo ?_|intro hb
  {refine LoopI.go (m-1) (by omega) ⟨i+1,_,v2,rest2,by omega,?_,(hF'.trans (Fra.app rest' v' _)).trans hF2,Ze ⟨rfl,rfl,rfl,Zg (Zd (n:=i+1) (by omega)),trivial⟩,rfl⟩;rw[hs2,Zlo];simpa only[List.append_assoc] using hG2};{exfalso;simp at hb;omega}
 ·have e:i=kz.length:=by omega
  subst e;rw[List.take_length]at hG';repeat' first|refine Jz ?_ ?_|refine Jo ?_|intro hb
  {exfalso;simp at hb};{exact RetP.go rfl rfl ⟨v',rest',rfl,by rw[Zkr];exact hG',hF'⟩}
theorem ZpE {id:Nat} (h:k≤n):Yf E0 30 (.own id 4 0 n) (some (.int .i64 (k:Int))) none none=some (.own id 4 (0+k) (n-k)):=by
 obtain⟨ti,e,et⟩:∃ti,E0.T 30=some ti∧ti.tk= .slice 39:=⟨_,rfl,rfl⟩;obtain⟨ei,e2,e3⟩:∃ei,E0.T 39=some ei∧ei.size=4:=⟨_,rfl,rfl⟩;have hn:nat? (.int .i64 (k:Int))=some k:=by simp[nat?]
 simp only[Yf,e,et,e2,e3,if_true,XP,hn,if_pos h]
theorem ZrU {id:Nat} (h:k≤n):Yf E0 30 (.own id 4 0 n) none (some (.int .i64 (k:Int))) none=some (.own id 4 0 k):=by
 obtain⟨ti,e,et⟩:∃ti,E0.T 30=some ti∧ti.tk= .slice 39:=⟨_,rfl,rfl⟩;obtain⟨ei,e2,e3⟩:∃ei,E0.T 39=some ei∧ei.size=4:=⟨_,rfl,rfl⟩;have hn:nat? (.int .i64 (k:Int))=some k:=by simp[nat?]
 simp only[Yf,e,et,e2,e3,if_true,XP,hn,if_pos h,Nat.sub_zero]
theorem ZeU {id ix len:Nat} (hj:j<len):Zy E0 30 (.own id 4 ix len) (.int .i64 (j:Int))=some (.ptr id 4 (ix+j) 0):=ZdO rfl rfl rfl rfl hj
theorem Zho {id:Nat} (hb:nth H.bx id=some (.cells 4 (Za L))) (hj:L[j]? = some t):ZZ E0 39 (.ptr id 4 j 0) H=some (.agg t.cells):=by obtain⟨k,nm,s,b,kz⟩:=t;exact WT rfl rfl hb ((Zm _ _).trans (Zj hj)) rfl
theorem Zbm (L:List Tm) (j:Nat) (t:Tm):(Za L).set j t.cells=Za (L.set j t):=by simp only[Ys,List.map_set]
theorem Zp2 {id:Nat} (hb:nth H.bx id=some (.cells 4 (Za L))) (hj:L[j]? = some u) (hro:H.ro≤id):H.wr (.ptr id 4 j 0) t.cells=some {H with bx:=H.bx.set id (.cells 4 (Za (L.set j t)))}:=by obtain⟨k,nm,s,b,kz⟩:=t;obtain⟨k',nm',s',b',kz'⟩:=u;rw[U6 hb ((Zm _ _).trans (Zj hj)) (by simp[Tm.cells]) hro];rw[← Zbm];simp[Tm.cells]
theorem ZvR (ht:t.Ok) (hu:u.Ok) (h1:t.size<4611686018427387904) (h2:u.size<4611686018427387904):∀H,CO 203 [.agg t.cells,.agg u.cells] H (.bool (decide (t.cmp u=0))) H:=by
 have hc:=fun H=>Zqa (d35 ht hu h1 h2 H);generalize t.cmp u=c at hc ⊢;obtain⟨k,nm,s,b,kz⟩:=t;obtain⟨k',nm',s',b',kz'⟩:=u;refine Jw tOk fe203.ok rfl ?_;repeat' first|refine Jc (hc _) ?_|refine Jt ?_|refine Jb ?_ ?_|refine Jo ?_|intro hb
 all_goals (refine ifq ?_;simp at hb;simp[hb])
def Zpv (id:Nat) (bx:List Box) (L:List Tm) (r:PV) (H:Heap):Prop:=∃(M:List Tm) (D:List (List PV)),r= .own id 4 0 M.length∧H=⟨bx.set id (.cells 4 (Za M++D)),0,[],0⟩∧M.length≤L.length∧(L≠ []→M≠ [])∧∀x,x∈M→x∈L
theorem ZgY (M:List Tm) (k:Nat):(Za M).take k=Za (M.take k):=by simp only[Ys,List.map_take]
theorem ZgZ {id:Nat} {bx:List Box} (hid:bx[id]? = some (.cells 4 (Za L))) (hok:∀x,x∈L→x.Ok∧x.size≤100000) (hlen:L.length≤100000):∃r H',CO 36 [.own id 4 0 L.length,.fn 203 []] ⟨bx,0,[],0⟩ r H'∧Zpv id bx L r H':=by
 have hlt:=Zz hid;have hself:bx.set id (.cells 4 (Za L))=bx:=by
  refine List.ext_getElem? fun k=>?_;rw[List.getElem?_set];split
  ·rename_i e;subst e;first
    | exact hid.symm
    | (rw[if_pos hlt];exact hid.symm)
  {rfl}
 have hcmp:∀x y,x∈L→y∈L→∀H,CO 203 [.agg x.cells,.agg y.cells] H (.bool (decide (x.cmp y=0))) H:=fun x y hx hy=>ZvR (hok x hx).1 (hok y hy).1 (by have:=(hok x hx).2;omega) (by have:=(hok y hy).2;omega);refine Zt (own:=fun _=>false) tOk fe36.ok ?_;refine Wp.seq ?_;have hblt:∀b:Box,Nat.blt id (bx.set id b).length=true:=fun b=>by rw[List.length_set];exact Nat.ble_eq_true_of_le hlt
 have hsame:Zpv id bx L (.own id 4 0 L.length) ⟨bx,0,[],0⟩:=⟨L,[],rfl,by rw[List.append_nil,hself],Nat.le_refl _,fun h=>h,fun _ h=>h⟩;repeat' first|refine Jb ?_ ?_|refine Jo ?_|intro hb
 {exact RetR.ret rfl hsame};have h2:2≤L.length:=by simp at hb;omega
 refine Wp.while (fun m tm H=>∃(k:Nat) (base:TM),k+m=L.length∧1≤k∧tm=ovr base [(0,.own id 4 0 L.length),(1,.fn 203 []),(5,.int .i64 (k:Int))]∧H=⟨bx,0,[],0⟩)
  (fun m tm H hI=>?_) (L.length-1) _ _ ⟨1,_,by omega,by omega,Ze ⟨rfl,rfl,rfl,trivial⟩,rfl⟩
 obtain⟨k,base,hi,hk1,rfl,rfl⟩:=hI;by_cases hklt:k<L.length
 ·obtain⟨x,hx⟩:∃x,L[k]? = some x:=⟨L[k],by simp⟩;obtain⟨y,hy⟩:∃y,L[k-1]? = some y:=⟨L[k-1]'(by omega),by simp⟩;have hnb:nth bx id=some (.cells 4 (Za L)):=(Zm _ _).trans hid;have hwr:IntKind.i64.wrap ((k:Int)-1)=((k-1:Nat):Int):=by rw[show(k:Int)-1=((k-1:Nat):Int) by omega];exact IntWalk.i64_in _ (by omega)
  have hi1:=ZeU (id:=id) (ix:=0) (len:=L.length) hklt;have hi2:Zy E0 30 (.own id 4 0 L.length) (.int .i64 (IntKind.i64.wrap ((k:Int)-1)))=some (.ptr id 4 (0+(k-1)) 0):=by rw[hwr];exact ZeU (by omega)
  have hl1:ZZ E0 39 (.ptr id 4 (0+k) 0) ⟨bx,0,[],0⟩=some (.agg x.cells):=by rw[Nat.zero_add];exact Zho hnb hx
  have hl2:ZZ E0 39 (.ptr id 4 (0+(k-1)) 0) ⟨bx,0,[],0⟩=some (.agg y.cells):=by rw[Nat.zero_add];exact Zho hnb hy
  have hc:=hcmp x y (List.mem_of_getElem? hx) (List.mem_of_getElem? hy);generalize decide (x.cmp y=0)=B at hc;have hsl:=ZpE (id:=id) (Nat.le_of_lt hklt);have hblt0:Nat.blt id bx.length=true:=by have:=hblt (.cells 4 (Za L));rwa [hself]at this
  cases B with
  | false=>(repeat' first|refine Jb ?_ ?_|refine Jo ?_|refine Jd (hc _) ?_|refine JK ?_|(apply dLd;rfl;rfl;rfl;assumption;exact IsV.any _;(first|rfl|(show Nat.blt _ _=true;first|assumption|(simp[Nat.blt];done))))|refine Kb ?_|intro hb);{exact LoopI.go (m-1) (by omega) ⟨k+1,_,by omega,by omega,Ze ⟨rfl,rfl,Zg (Zd (n:=k+1) (by omega)),trivial⟩,rfl⟩};{exfalso;simp at hb;omega}
  | true=>
   (repeat' first|refine JS ?_|refine Jb ?_ ?_|refine Jo ?_|refine Jd (hc _) ?_|refine JK ?_|(apply dLd;rfl;rfl;rfl;assumption;exact IsV.any _;(first|rfl|(show Nat.blt _ _=true;first|assumption|(simp[Nat.blt];done))))|refine Kb ?_|intro hb);rotate_left;{exfalso;simp at hb;omega};clear hc hl1 hl2 hi1 hi2 hx hy hwr;refine Wp.while (fun m2 tm H => ∃(kk k2 : Nat) (M : List Tm) (base : TM), k + k2 + m2 = L.length ∧ k ≤ kk ∧ kk < k + k2 ∧ M.length = L.length ∧ (∀x, x ∈ M → x ∈ L) ∧
     tm=ovr base [(0,.own id 4 0 L.length),(1,.fn 203 []),(5,.int .i64 (kk:Int)),(6,.own id 4 (0+k) (L.length-k)),(7,.int .i64 (k2:Int))]∧H=⟨bx.set id (.cells 4 (Za M)),0,[],0⟩)
    (fun m2 tm H hI=>?_) (L.length-k-1) _ _ ⟨k,1,L,_,by omega,by omega,by omega,rfl,fun _ h=>h,Ze ⟨rfl,rfl,rfl,rfl,rfl,trivial⟩,by rw[hself]⟩
   obtain⟨kk,k2,M,base2,hi2,hk2,hk3,hM,hMm,rfl,rfl⟩:=hI;(have hnb:nth (bx.set id (.cells 4 (Za M))) id=some (.cells 4 (Za M)):=by rw[Zm];simp[hlt]);by_cases hlt2:k2<L.length-k;{obtain⟨x,hx⟩:∃x,M[k+k2]? = some x:=⟨M[k+k2]'(by omega),by simp⟩;obtain⟨y,hy⟩:∃y,M[k+(k2-1)]? = some y:=⟨M[k+(k2-1)]'(by omega),by simp⟩;obtain⟨u,hu⟩:∃u,M[kk]? = some u:=⟨M[kk]'(by omega),by simp⟩;(have hwr:IntKind.i64.wrap ((k2:Int)-1)=((k2-1:Nat):Int):=by rw[show(k2:Int)-1=((k2-1:Nat):Int) by omega];exact IntWalk.i64_in _ (by omega));have hi1:=ZeU (id:=id) (ix:=0+k) hlt2;(have hi2:Zy E0 30 (.own id 4 (0+k) (L.length-k)) (.int .i64 (IntKind.i64.wrap ((k2:Int)-1)))=some (.ptr id 4 (0+k+(k2-1)) 0):=by rw[hwr];exact ZeU (by omega));have hi3:=ZeU (id:=id) (ix:=0) (len:=L.length) (j:=kk) (by omega);(have hl1:ZZ E0 39 (.ptr id 4 (0+k+k2) 0) ⟨bx.set id (.cells 4 (Za M)),0,[],0⟩=some (.agg x.cells):=by rw[Nat.zero_add];exact Zho hnb hx);(have hl2:ZZ E0 39 (.ptr id 4 (0+k+(k2-1)) 0) ⟨bx.set id (.cells 4 (Za M)),0,[],0⟩=some (.agg y.cells):=by rw[Nat.zero_add];exact Zho hnb hy);have hc:=hcmp x y (hMm x (List.mem_of_getElem? hx)) (hMm y (List.mem_of_getElem? hy));generalize decide (x.cmp y=0)=B at hc;(have hst:Heap.wr ⟨bx.set id (.cells 4 (Za M)),0,[],0⟩ (.ptr id 4 (0+kk) 0) x.cells=some ⟨bx.set id (.cells 4 (Za (M.set kk x))),0,[],0⟩:=by rw[Nat.zero_add,Zp2 hnb hu (Nat.zero_le _),List.set_set]);have hblt2:=hblt (.cells 4 (Za M));(have hset:∀z,z∈M.set kk x→z∈L:=fun z hz=>by rcases List.mem_or_eq_of_mem_set hz with h|h;{exact hMm z h};{rw[h];exact hMm x (List.mem_of_getElem? hx)});obtain⟨k',nm',s',b',kz'⟩:=x;simp only[Tm.cells]at hst hl1;(repeat' first|refine JJ ?_|refine Kf ?_|refine Jb ?_ ?_|refine Jo ?_|refine Jd (hc _) ?_|refine JK ?_|(apply dLd;rfl;rfl;rfl;assumption;exact IsV.any _;(first|rfl|(show Nat.blt _ _=true;first|assumption|(simp[Nat.blt];done))))|(apply dB (ty:=4);rfl;rfl;rfl;rfl)|refine Kb ?_|intro hb);{exact LoopI.go (m2-1) (by omega) ⟨kk+1,k2+1,_,_,by omega,by omega,by omega,by rw[List.length_set];exact hM,hset,Ze ⟨rfl,rfl,Zg (Zd (n:=kk+1) (by omega)),rfl,Zg (Zd (n:=k2+1) (by omega)),trivial⟩,rfl⟩};{exact LoopI.go (m2-1) (by omega) ⟨kk,k2+1,M,_,by omega,by omega,by omega,hM,hMm,Ze ⟨rfl,rfl,rfl,rfl,Zg (Zd (n:=k2+1) (by omega)),trivial⟩,rfl⟩};{exfalso;simp at hb;omega}};{(have e2:k2=L.length-k:=by omega);subst e2;have hsl2:=ZpE (id:=id) (k:=kk) (n:=L.length) (by omega);have hsl3:=ZrU (id:=id) (k:=kk) (n:=L.length) (by omega);(have hclr:∃D,Zab E0 30 (.own id 4 (0+kk) (L.length-kk)) ⟨bx.set id (.cells 4 (Za M)),0,[],0⟩=some (.tup [],⟨bx.set id (.cells 4 (Za (M.take kk)++D)),0,[],0⟩):=by have h:=Zk1 (E:=E0) (t:=30) (e:=39) (es:=4) (el:=Za M) (ix:=0+kk) (len:=L.length-kk) (H:=⟨bx.set id (.cells 4 (Za M)),0,[],0⟩) rfl rfl rfl rfl rfl (by decide) rfl hnb (Nat.zero_le _) (by rw[Zb];omega);rw[List.set_set,Nat.zero_add,ZgY]at h;rw[Nat.zero_add];exact⟨_,h⟩);obtain⟨D,hclr⟩:=hclr;(have hlt3:(M.take kk).length=kk:=by rw[List.length_take];omega);(repeat' first|refine JS ?_|(apply Zur;rfl;rfl;assumption)|refine Jb ?_ ?_|refine Jo ?_|refine Kb ?_|intro hb);{exfalso;simp at hb};{refine RetR.ret rfl ⟨M.take kk,D,by rw[hlt3];rfl,rfl,by omega,fun _ h=>?_,fun x hx=>hMm x (List.mem_of_mem_take hx)⟩;rw[h]at hlt3;simp at hlt3;omega}}
 ·have e:k=L.length:=by omega
  subst e;repeat' first|refine Jb ?_ ?_|refine Jo ?_|refine Kb ?_|intro hb
  {exfalso;simp at hb};{exact RetR.ret rfl hsame}
