/-
  The powers of a term: exponent.Of; a copy of powers: exponent.copied.
-/
import Derived.Test.YtcopccjkfbmpcaaGreatDoorOm
set_option maxHeartbeats 0
set_option maxRecDepth 100000
namespace Go.Vm.Seat
variable {l:List Pw} {i:Nat} {x:Pw} {H:Heap} {t:Tm} {n:Int}
open Go.Proofs
theorem Zoc (l:List Pw) (i:Nat) (y:Pw):(pwL l).set i (pwC y)=pwL (l.set i y):=by simp only [pwL,List.map_set]
theorem Znf (h:l[i]? = some x):nth (pwL l) i=some (pwC x):=(Zo _ _).trans (Xh h)
theorem ZmS (hb:nth H.bx 0=some (.cells 5 (pwL l))) (h:l[i]? = some x):Z4 E0 3 (.ptr 0 5 (0+i) 4) H=some (.int .i64 x.2):=by
 rw [Nat.zero_add]
 exact ZgS (ti:=⟨.int .i64,1,8,.int .i64 0⟩) rfl rfl hb (Znf h) (by
  obtain ⟨⟨k,nm,s,b,kz⟩,m⟩:=x
  rfl)
theorem ZqW (h:l[i]? = some x) (m:Int) (B:Box):Heap.wr ⟨[.cells 5 (pwL l),B],0,[],0⟩ (.ptr 0 5 (0+i) 4) [.int .i64 m]=some ⟨[.cells 5 (pwL (l.set i (x.1,m))),B],0,[],0⟩:=by
 rw [Nat.zero_add,Zc9 (H:=⟨[.cells 5 (pwL l),B],0,[],0⟩) rfl (Znf h) (by rw [ZeG];exact Nat.le_refl 5) (Nat.zero_le _)]
 have e:(pwC x).take 4++([PV.int .i64 m]++(pwC x).drop (4+ [PV.int .i64 m].length))=pwC (x.1,m):=by
  obtain ⟨⟨k,nm,s,b,kz⟩,xn⟩:=x
  rfl
 rw [e,Zoc]
 rfl
theorem Zmx (hP : PlaceE l t i) (hx : l[i]? = some x) (h00 : x.1.cmp t = 0) (hxb : -1000000 ≤ x.2 ∧ x.2 ≤ 1000000) (hn : -1000000 ≤ n ∧ n ≤ 1000000) (hlen : l.length ≤ 1000)
  (hB:CallOk E0 Tryz.prog 231 [.own 0 5 0 l.length,.agg t.cells,.fn 232 []] ⟨[.cells 5 (pwL l),.cells 5 [pwC (t,n)]],0,[],0⟩ (.tup [.int .i64 (i:Int),.bool true]) ⟨[.cells 5 (pwL l),.cells 5 [pwC (t,n)]],0,[],0⟩) :
  ∃ r H1,CallOk E0 Tryz.prog 227 [.own 0 5 0 l.length,.agg (pwC (t,n))] ⟨[.cells 5 (pwL l)],0,[],0⟩ r H1∧Znv (Vf l t n) r H1:=by
 rw [Zbz hP hx h00]
 have hil:=ZB hx
 have hia:=ZlS (id:=0) (ix:=0) hil
 have hld1:=ZmS (H:=⟨[.cells 5 (pwL l),.cells 5 [pwC (t,n)]],0,[],0⟩) rfl hx
 have hadd:=Zon (a:=x.2) (b:=n) (by omega) (by omega)
 have hwr:=ZqW hx (x.2+n) (.cells 5 [pwC (t,n)])
 have hx2:(l.set i (x.1,x.2+n))[i]? = some (x.1,x.2+n):=by rw [List.getElem?_set_self hil]
 have hld2:=ZmS (H:=⟨[.cells 5 (pwL (l.set i (x.1,x.2+n))),.cells 5 [pwC (t,n)]],0,[],0⟩) rfl hx2
 have heq:=Z6 (x.2+n) 0
 have hi1:Xo E0 .add 3 (.int .i64 (i:Int)) (.int .i64 1)=some (.int .i64 ((i+1:Nat):Int)):=by
  rw [Zon (by omega) (by omega)]
  congr 2
 have hl2:(l.set i (x.1,x.2+n)).length=l.length:=List.length_set
 have hdel:=ZoL (H:=⟨[.cells 5 (pwL (l.set i (x.1,x.2+n))),.cells 5 [pwC (t,n)]],0,[],0⟩) (id:=0) (n:=l.length) (i:=i) (el:=pwL (l.set i (x.1,x.2+n))) rfl (Nat.zero_le _) (by rw [Z0,hl2]) hil hlen (ZaY _)
 have he:(pwL (l.set i (x.1,x.2+n))).take i++(pwL (l.set i (x.1,x.2+n))).drop (i+1)=pwL (l.take i++l.drop (i+1)):=by
  simp only [pwL,List.map_append,List.map_take,List.map_drop,List.map_set]
  rw [List.take_set_of_le (Nat.le_refl _),List.drop_set_of_lt (by omega)]
 rw [he] at hdel
 have hfin1:Znv (l.take i++l.drop (i+1)) (.own 0 5 0 (l.length-1)) ⟨[.cells 5 (pwL (l.take i++l.drop (i+1))),.cells 5 [pwC (t,n)]],0,[],0⟩:=U3 (by simp only [List.length_append,List.length_take,List.length_drop];omega) rfl
 have hfin2:Znv (l.set i (x.1,x.2+n)) (.own 0 5 0 l.length) ⟨[.cells 5 (pwL (l.set i (x.1,x.2+n))),.cells 5 [pwC (t,n)]],0,[],0⟩:=U3 hl2.symm rfl
 have hdel:CallOk E0 Tryz.prog 234 [.own 0 5 0 l.length,.int .i64 (i:Int),.int .i64 ((i+1:Nat):Int)] ⟨[.cells 5 (pwL (l.set i (x.1,x.2+n))),.cells 5 [pwC (t,n)]],0,[],0⟩ (.own 0 5 0 (l.length-1)) ⟨[.cells 5 (pwL (l.take i++l.drop (i+1))),.cells 5 [pwC (t,n)]],0,[],0⟩:=hdel
 by_cases hz:x.2+n=0
 · rw [if_pos hz]
   rw [decide_eq_true hz] at heq
   generalize l.take i++l.drop (i+1)=R at hdel hfin1 ⊢
   generalize l.set i (x.1,x.2+n)=S at hwr hld2 hdel
   clear hx2 hfin2 he hl2
   generalize x.2+n=m at hadd hwr hld2 heq
   obtain ⟨k,nm,s,b,kz⟩:=t
   simp only [pwC,Tm.cells,List.cons_append,List.nil_append] at hB hld1 hwr hld2 hdel hfin1 ⊢
   refine ZT (own:=fun _=>false) tOk fe227.ok ?_
   refine Wp.seq ?_
   repeat' first|refine Jc hB ?_|refine Jc hdel ?_|refine Ji ?_|refine JJ ?_|(apply qLd;rfl;rfl;rfl;assumption;exact IsV.any _)|refine Jt ?_|refine Jo ?_|refine JD ?_|refine JK ?_|(apply dLd;rfl;rfl;rfl;assumption;exact IsV.any _;(first|rfl|(show Nat.blt _ _=true;first|assumption|(simp [Nat.blt];done))))|refine Jh ?_|(apply Wp.drawS tOk follows;kernel_rfl;rfl)|fail
   all_goals exact RetR.ret rfl hfin1
 · rw [if_neg hz]
   rw [decide_eq_false hz] at heq
   generalize l.set i (x.1,x.2+n)=S at hwr hld2 hfin2 ⊢
   clear hx2 hfin1 he hl2 hdel
   generalize x.2+n=m at hadd hwr hld2 heq
   obtain ⟨k,nm,s,b,kz⟩:=t
   simp only [pwC,Tm.cells,List.cons_append,List.nil_append] at hB hld1 hwr hld2 hfin2 ⊢
   refine ZT (own:=fun _=>false) tOk fe227.ok ?_
   refine Wp.seq ?_
   repeat' first|refine Jc hB ?_|refine Ji ?_|refine JJ ?_|(apply qLd;rfl;rfl;rfl;assumption;exact IsV.any _)|refine Jt ?_|refine Jo ?_|refine JD ?_|refine JK ?_|(apply dLd;rfl;rfl;rfl;assumption;exact IsV.any _;(first|rfl|(show Nat.blt _ _=true;first|assumption|(simp [Nat.blt];done))))|refine Jh ?_|(apply Wp.drawS tOk follows;kernel_rfl;rfl)|fail
   all_goals exact RetR.ret rfl hfin2
theorem Zwi (hA : V7 l) (hl : PwB 1000000 l) (ht : t.Ok ∧ t.size ≤ 100000) (hn : -1000000 ≤ n ∧ n ≤ 1000000) (hlen : l.length ≤ 1000) {v0 : PV} {L : List Box} (hM : Mut0 5 v0 L (pwL l)) :
  ∃ r H1,CallOk E0 Tryz.prog 227 [v0,.agg (pwC (t,n))] ⟨L,0,[],0⟩ r H1∧Out 5 H1 r (pwL (Vf l t n)):=by
 obtain ⟨i,fd,hP,hiff,hB⟩:=Zv8 hA (fun x hx=>(hl x hx).1) ht hlen hM [.cells 5 [pwC (t,n)]]
 cases fd with
 | false =>
   obtain ⟨r,H1,h1,h2⟩:=ZqK hP (fun x hx h=>by have:=hiff.2 ⟨x,hx,h⟩;cases this) ht hlen hM hB
   exact ⟨r,H1,Zuz h1,h2⟩
 | true =>
   obtain ⟨x,hx,h00⟩:=hiff.1 rfl
   rcases XZ hM with ⟨rfl,rfl,h⟩|⟨rfl,rfl⟩
   · obtain rfl := ZcO h
     simp at hx
   · rw [Z0] at hB ⊢
     exact Zmx hP hx h00 (hl x (List.mem_of_getElem? hx)).2 hn hlen hB
theorem ZjA (hA : V7 l) (hl : PwB 1000000 l) (ht : t.Ok ∧ t.size ≤ 100000) (hn : -1000000 ≤ n ∧ n ≤ 1000000) (hlen : l.length ≤ 1000) {v : PV} (hro : H.ro = 0) (hv : Mut 5 H.bx v (pwL l)) :
  ∃ v' B,CallOk E0 Tryz.prog 227 [v,.agg (pwC (t,n))] H v' {H with bx:=Vo v H.bx++ [B]}∧Mut 5 (Vo v H.bx++ [B]) v' (pwL (Vf l t n))∧(v'= .nils∨∃ m,v'= .own H.bx.length 5 0 m):=
 CallOk.mut hro hv (Xl l) (by
  obtain ⟨k,nm,s,b,kz⟩:=t
  simp only [pwC,Tm.cells,List.cons_append,List.nil_append,Zx,frzG,XM,ZE]
  rfl) fun v0 L hM=>Zwi hA hl ht hn hlen hM
end Go.Vm.Seat
namespace Go.Vm
theorem ZnT {t:Tm} {n:Int} {l l':List Pw} (h:V7 l) (hn:n≠0) (e:t.col n l=some l'):V7 l':=by
 obtain ⟨h1,h2⟩:=QZ t n l h hn
 cases ha:t.ari with
 | true =>
   obtain ⟨e1,e2⟩:=h1 ha
   rw [e] at e1
   cases e1
   exact e2
 | false =>
   rw [h2 ha] at e
   cases e
theorem ZkG {kz : List Tm} {i : Nat} {x : Tm} (n : Int) (l : List Pw) (h : kz[i]? = some x) : colL (kz.drop i) n l = match x.col n l with
  | some l'=>colL (kz.drop (i+1)) n l'
  | none=>none:=by
 rw [Zy h];rfl
end Go.Vm
namespace Go.Vm.Seat
variable {es:Nat} {H:Heap} {v:PV} {el:List (List PV)} {bx ext:List Box} {t:Tm} {l:List Pw}
open Go.Proofs
theorem ZjC (hf:Z8 el=some el) (h:Mut es H.bx v el):Out es H v el:=by
 cases h with
 |nil=>exact .nil
 |own k _ h=>exact .own k el [] (by rw [List.append_nil];exact h) hf
theorem ZiR {v0:PV} {L:List Box} (h:Mut0 es v0 L el):Mut es (L++ext) v0 el:=by
 cases h with
 |nil=>exact .nil
 |own=>exact .own 0 el rfl
theorem Q7 (h:Mut es bx v el):Mut es (bx++ext) v el:=by
 cases h with
 |nil=>exact .nil
 |own k _ h=>exact .own k el (by rw [List.getElem?_append_left (ZB h)];exact h)
def Zve (c:Option (List Pw)) (r:PV) (H:Heap):Prop:=(∃ l' v,c=some l'∧r= .tup [v,.bool true]∧Out 5 H v (pwL l'))∨(c=none∧r= .tup [.nils,.bool false])
def ZtN (t:Tm):Prop:=∀ {l:List Pw} {n B:Int},V7 l→PwB B l→0≤B→B+t.size≤1000000→l.length+t.size≤900→(n=1∨n= -1)→∀ {v0:PV} {L:List Box},Mut0 5 v0 L (pwL l)→
 ∃ r H1,CallOk E0 Tryz.prog 218 [v0,.agg t.cells,.int .i64 n] ⟨L,0,[],0⟩ r H1∧Zve (t.col n l) r H1
theorem Zh3 (t:Tm) (n:Int):Zx [.agg t.cells,.int .i64 n]=some [.agg t.cells,.int .i64 n]:=by
 obtain ⟨k,nm,s,b,kz⟩:=t
 simp only [Tm.cells,Zx,frzG,XM,ZE]
 rfl
theorem Zt5 (hw : ZtN t) {n B : Int} (hA : V7 l) (hl : PwB B l) (hB : 0 ≤ B) (hBt : B + t.size ≤ 1000000) (hlen : l.length + t.size ≤ 900) (hn : n = 1 ∨ n = -1) (hv : Mut 5 bx v (pwL l)) :
  (∃ l',t.col n l=some l'∧∃ v' bx',CallOk E0 Tryz.prog 218 [v,.agg t.cells,.int .i64 n] ⟨bx,0,[],0⟩ (.tup [v',.bool true]) ⟨bx',0,[],0⟩∧Mut 5 bx' v' (pwL l')∧bx.length≤bx'.length)∨
  (t.col n l=none∧∃ bx',CallOk E0 Tryz.prog 218 [v,.agg t.cells,.int .i64 n] ⟨bx,0,[],0⟩ (.tup [.nils,.bool false]) ⟨bx',0,[],0⟩∧bx.length≤bx'.length):=by
 cases hc:t.col n l with
 | some l' =>
   refine .inl ⟨l',rfl,?_⟩
   obtain ⟨v',B',h1,h2, -⟩:=CallOk.mutT (E:=E0) (P:=Tryz.prog) (f:=218) (q:= .bool true) rfl (H:=⟨bx,0,[],0⟩) (el':=pwL l') rfl hv (Xl l) (Zh3 t n) fun v0 L hM=>by
    obtain ⟨r,H1,h1,h2⟩:=hw hA hl hB hBt hlen hn hM
    rw [hc] at h2
    rcases h2 with ⟨l2,v2,e,rfl,ho⟩|⟨e,_⟩
    · cases e
      exact ⟨v2,H1,h1,ho⟩
    · cases e
   exact ⟨v',_,h1,h2,by simp [WC]⟩
 | none =>
   refine .inr ⟨rfl,?_⟩
   have h1:=CallOk.mutF (E:=E0) (P:=Tryz.prog) (f:=218) (cs:=[.nils,.bool false]) rfl (H:=⟨bx,0,[],0⟩) rfl hv (Xl l) (Zh3 t n) fun v0 L hM=>by
    obtain ⟨r,H1,h1,h2⟩:=hw hA hl hB hBt hlen hn hM
    rw [hc] at h2
    rcases h2 with ⟨l2,v2,e,_⟩|⟨_,rfl⟩
    · cases e
    · exact ⟨H1,h1⟩
   exact ⟨_,h1,by simp [WC]⟩
theorem XX (bx:List Box) (B:Box):nth (bx++ [B]) bx.length=some B:=by rw [Zo];simp
theorem Zn9 (bx:List Box) (x:Tm):Heap.wr ⟨bx++ [.cells 4 [zcT]],0,[],0⟩ (.ptr bx.length 4 0 0) x.cells=some ⟨bx++ [.cells 4 [x.cells]],0,[],0⟩:=by
 obtain ⟨k',nm',s',b',kz'⟩:=x
 have h:=Zc9 (H:=⟨bx++ [.cells 4 [zcT]],0,[],0⟩) (id:=bx.length) (es:=4) (ix:=0) (off:=0) (el:=[zcT]) (cs:=(Tm.mk k' nm' s' b' kz').cells) (old:=zcT) (XX _ _) rfl (Nat.le_refl 4) (Nat.zero_le _)
 rw [h]
 simp [Tm.cells,zcT]
theorem Zo0 (bx:List Box) (x:Tm):Z4 E0 48 (.ptr bx.length 4 0 0) ⟨bx++ [.cells 4 [x.cells]],0,[],0⟩=some (.agg x.cells):=by
 obtain ⟨k',nm',s',b',kz'⟩:=x
 exact U8 rfl rfl (el:=[(Tm.mk k' nm' s' b' kz').cells]) (XX _ _) rfl rfl
theorem ZdW (t:Tm) (n:Int):QH E0 193 [(0,.agg t.cells),(1,.int .i64 n)]=some (.agg (pwC (t,n))):=by
 obtain ⟨k,nm,s,b,kz⟩:=t
 rfl
theorem Zut (ht:t.Ok):t.size≤400→ZtN t:=by
 induction ht with
 | @mk k nm s f kz hk hs hn hl hok ih=>
 intro hsz l n B hA hP hB hBt hlen hn1 v0 L hM
 have hins:=fun (h:(Tm.mk k nm s f kz).Ok) (bx:List Box) (hv:Mut 5 bx v0 (pwL l))=>ZjA (H:=⟨bx,0,[],0⟩) (n:=n) hA (hP.mono (by omega)) ⟨h,by omega⟩ (by omega) (by omega) rfl hv
 have hsp:=ZtK (.mk k nm s f kz)
 have hbd:=ZdW (.mk k nm s f kz) n
 simp only [Tm.size] at hsz hBt hlen
 have hkl:=Yy kz
 rw [Tm.col]
 simp only [Tm.sym,Tm.cells] at hsp hbd ⊢
 by_cases he:Zbi k nm=true
 · rw [if_pos he]
   rw [he] at hsp
   clear hins hbd
   obtain ⟨n',hn'⟩:∃ n',n'=if nm=VF then -n else n:=⟨_,rfl⟩
   have hn2:n'=1∨n'= -1:=by
    rw [hn']
    split<;>omega
   have hw:IntKind.i64.wrap (0-n)= -n:=by rw [IntWalk.i64_in _ (by omega)];omega
   have hlenK:=Zb kz
   obtain ⟨rfl,hnm⟩:=WI he
   rw [← hn']
   by_cases har:arB nm kz.length=true
   · rw [if_pos har]
     obtain ⟨C,hC⟩:∃ C,C=colL kz n' l:=⟨_,rfl⟩
     rw [← hC]
     have hmu:=ZiR (ext:=[.cells 4 [[.int .i64 3,.str nm,.int .i64 s,slV f 4 (Za kz)]]]) hM
     rcases XZ hM with ⟨rfl,rfl,hpn⟩|⟨rfl,rfl⟩
     all_goals
      rcases hnm with rfl|rfl|rfl
      all_goals
       first
        | rw [if_pos rfl] at hn'
        | rw [if_neg (by decide)] at hn'
       simp only [ZcM,Zcu,Zcc,Bool.not_eq_true',decide_eq_false_iff_not,decide_eq_true_eq] at har
       simp only [Uc,VF,Uj] at hsp hmu ⊢
       refine ZT (own:=fun _=>false) tOk fe218.ok ?_
       refine Wp.seq ?_
       repeat' first|refine Jk ?_|refine Jc (hsp _) ?_|refine Jl ?_|refine Jt ?_|refine Jb ?_ ?_|refine Jo ?_|intro hb
       all_goals try first
        | (exfalso;simp at hb<;>omega)
        | (exfalso;rw [hlenK] at hb;revert hb;simp only [bne_iff_ne,ne_eq];omega)
       refine Wp.while (fun m tm H => ∃ (i : Nat) (base : TM) (v : PV) (bx : List Box) (li : List Pw), i + m = kz.length ∧ V7 li ∧ PwB (B + Zl (kz.take i)) li ∧ li.length ≤ l.length + Zl (kz.take i) ∧ colL (kz.drop i) n' li = C ∧ Mut 5 bx v (pwL li) ∧
         tm=ovr base [(0,v),(2,.int .i64 n'),(52,slV f 4 (Za kz)),(53,.int .i64 (kz.length:Int)),(54,.int .i64 (i:Int))]∧H=⟨bx,0,[],0⟩)
        (fun m tm H hI=>?_) kz.length _ _ ⟨0,_,_,_,l,by omega,hA,by simpa [Zl] using hP,by simp [Zl],by rw [List.drop_zero,hC],hmu,Zf ⟨rfl,Ze (by first|(rw [hn'];done)|(rw [hn'];exact hw)),rfl,Ze (by rw [Zb]),rfl,trivial⟩,rfl⟩
       clear hmu hC hA hP hn1
       obtain ⟨i,base,v,bx,li,hi,fA,fP,fL,fC,fM,rfl,rfl⟩:=hI
       have h4:=ZL kz i
       by_cases hlt:i<kz.length
       · obtain ⟨x, hx⟩ : ∃ x, kz[i]? = some x := ⟨kz[i], by simp⟩
         have hm:x∈kz:=List.mem_of_getElem? hx
         have hle:=Z7 hm
         have h5:Zl (kz.take (i+1))=Zl (kz.take i)+x.size:=by
          rw [List.take_add_one,hx,UR]
          simp [Zl]
         have h6:=ZL kz (i+1)
         rw [ZkG n' li hx] at fC
         have hn3: -1≤n'∧n'≤1:=by omega
         have hn4:n'≠0:=by omega
         have hs3:x.size≤100000:=by omega
         have hB3:0≤B+(Zl (kz.take i):Int):=by omega
         have fP':∀ l',x.col n' li=some l'→PwB (B+Zl (kz.take i)+x.size) l':=fun l' e=>Zpk x n' li l' (B+Zl (kz.take i)) hB3 hn3 (hok x hm) hs3 fP e
         have fL':∀ l',x.col n' li=some l'→l'.length≤li.length+x.size:=fun l' e=>Zfc x n' li l' e
         have fA':∀ l',x.col n' li=some l'→V7 l':=fun l' e=>ZnT fA hn4 e
         have hv2:Mut 5 (bx++ [.cells 4 [x.cells]]) v (pwL li):=Q7 fM
         have hcol:=Zt5 (ih x hm (by omega)) fA fP (by omega) (by omega) (by omega) hn2 hv2
         have hal:∀ ρ,aOp E0 false ρ (.alloc 48) ⟨bx,0,[],0⟩=some (.ptr bx.length 4 0 0,⟨bx++ [.cells 4 [zcT]],0,[],0⟩):=fun ρ=>rfl
         have hwr:=Zn9 bx x
         have hld:=Zo0 bx x
         have hlx:=Zq (i:Int) (kz.length:Int)
         rw [decide_eq_true (by omega)] at hlx
         clear ih hv2
         rcases hcol with ⟨l',e,v',bx',hc,hM', -⟩|⟨e,bx',hc, -⟩
         · have p1 := fP' l' e
           have p2:=fL' l' e
           have p3:=fA' l' e
           rw [e] at fC
           obtain ⟨k',nm',s',b',kz'⟩:=x
           have hj:=Zk hx
           simp only [Tm.cells] at hc hld hwr
           clear fP' fL' fA' fM
           repeat' first|refine Jc hc ?_|(apply RegQ.rAl;rfl;rfl;assumption)|refine Ji ?_|(apply qLd;rfl;rfl;rfl;assumption;exact IsV.any _)|refine Jx ?_|refine Jt ?_|refine Jo ?_|fail
           exact LoopI.go (m-1) (by omega) ⟨i+1,_,v',bx',l',by omega,p3,by rw [h5];exact p1.mono (by push_cast;omega),by omega,fC,hM',Zf ⟨rfl,rfl,rfl,rfl,Ze (Zd (n:=i+1) (by omega)),trivial⟩,rfl⟩
         · rw [e] at fC
           obtain ⟨k',nm',s',b',kz'⟩:=x
           have hj:=Zk hx
           simp only [Tm.cells] at hc hld hwr
           clear fP' fL' fA' fM
           repeat' first|refine Jc hc ?_|(apply RegQ.rAl;rfl;rfl;assumption)|refine Ji ?_|(apply qLd;rfl;rfl;rfl;assumption;exact IsV.any _)|refine Jx ?_|refine Jt ?_|refine Jo ?_|fail
           exact RetR.ret rfl (.inr ⟨fC.symm,rfl⟩)
       · have e : i = kz.length := by omega
         subst e
         rw [List.drop_length,colL] at fC
         clear ih
         have hlx:=Zq (kz.length:Int) (kz.length:Int)
         rw [decide_eq_false (by omega)] at hlx
         repeat' first|refine Ji ?_|refine Jt ?_|refine Jo ?_|fail
         exact RetR.ret rfl (.inl ⟨li,v,fC.symm,rfl,ZjC (H:=⟨bx,0,[],0⟩) (Xl li) fM⟩)
   · rw [if_neg har]
     clear ih
     rcases XZ hM with ⟨rfl,rfl,hpn⟩|⟨rfl,rfl⟩
     all_goals
      rcases hnm with rfl|rfl|rfl
      all_goals
       simp only [ZcM,Zcu,Zcc,Bool.not_eq_true',decide_eq_false_iff_not,decide_eq_true_eq] at har
       simp only [Uc,VF,Uj] at hsp ⊢
       refine ZT (own:=fun _=>false) tOk fe218.ok ?_
       refine Wp.seq ?_
       repeat' first|refine Jk ?_|refine Jc (hsp _) ?_|refine Jl ?_|refine Jt ?_|refine Jb ?_ ?_|refine Jo ?_|intro hb
       all_goals first
        | (exfalso;simp at hb<;>omega)
        | (exfalso;rw [hlenK] at hb;revert hb;simp only [bne_eq_false_iff_eq];omega)
        | exact RetR.ret rfl (.inr ⟨rfl,rfl⟩)
 · rw [if_neg he]
   rw [Bool.eq_false_iff.2 he] at hsp
   have hmu:=ZiR (ext:=[.cells 4 [[.int .i64 k,.str nm,.int .i64 s,slV f 4 (Za kz)]]]) hM
   obtain ⟨v',B',hc,hM', -⟩:=hins (.mk hk hs hn hl hok) _ hmu
   have hfin:=ZjC (H:=⟨_,0,[],0⟩) (Xl _) hM'
   clear ih hins
   simp only [pwC,Tm.cells,List.cons_append,List.nil_append] at hbd hc
   rcases XZ hM with ⟨rfl,rfl,hpn⟩|⟨rfl,rfl⟩
   all_goals
    refine ZT (own:=fun _=>false) tOk fe218.ok ?_
    refine Wp.seq ?_
    repeat' first|refine Jc (hsp _) ?_|refine Jc hc ?_|(apply qBd;rfl;rfl;rfl;assumption;exact IsV.aggN)|refine Jt ?_|refine Jo ?_|fail
    all_goals exact RetR.ret rfl (.inl ⟨_,v',rfl,rfl,hfin⟩)
theorem Zlg (hf:Z8 el=some el) (h:Mut es bx v el):∃ b,frzC 0 ⟨bx,0,[],0⟩ v=some (slV b es el):=by
 cases h with
 |nil=>exact ⟨true,by rw [Zg];rfl⟩
 | own k _ h =>
   refine ⟨false,?_⟩
   have hn:nth bx k=some (.cells es el):=(Zo _ _).trans h
   simp only [frzC,Nat.not_lt_zero,if_false,hn]
   rw [if_pos ⟨trivial,by omega⟩,List.drop_zero,List.take_length,hf,Yb]
theorem ZqH {m:Nat} {p:PV} (h:frzC m H v=some p) (hv:∀ cs,v≠ .agg cs):frz2 m H v=some p:=by
 cases v
 case agg cs=>exact absurd rfl (hv cs)
 all_goals exact h
theorem Zor (h:Mut es bx v el):∀ cs,v≠ .agg cs:=fun cs e=>by
 subst e
 cases h
theorem Zid (hf:Z8 el=some el) (h:Mut es bx v el):∃ b,∀ e:Int,frz3 0 ⟨bx,0,[],0⟩ (.tup [v,.int .i64 e])=some (.tup [slV b es el,.int .i64 e]):=by
 obtain ⟨b,hb⟩:=Zlg hf h
 refine ⟨b,fun e=>?_⟩
 rw [WW]
 simp only [Wn,ZqH hb (Zor h)]
 rfl
theorem Vv (h:Mut 5 bx v (pwL l)):(v= .nils∧l= [])∨∃ k,v= .own k 5 0 l.length∧bx[k]? = some (.cells 5 (pwL l)):=by
 generalize e:pwL l=el at h
 cases h with
 |nil=>exact .inl ⟨rfl,ZcO e⟩
 | own k _ hk =>
   subst e
   exact .inr ⟨k,by rw [Z0],hk⟩
theorem ZqB (ht:t.Ok) (hs:t.size≤100000):∃ b,∀ H,CallOk E0 Tryz.prog 208 [.agg t.cells] H (.tup [slV b 5 (pwL (ofG t).1),.int .i64 (ofG t).2]) H:=by
 have hV:=c46 ht (by omega)
 have hnil:slV true 5 (pwL [])= .nils:=Zg 5
 unfold ofG
 by_cases h1:t.valid≠0
 · rw [if_pos h1]
   refine ⟨true,?_⟩
   rw [hnil]
   generalize t.valid=v at hV h1 ⊢
   have hne:=Y3 h1
   obtain ⟨k,nm,s,f,kz⟩:=t
   simp only [Tm.cells] at hV ⊢
   refine Jw tOk fe208.ok rfl ?_
   repeat' first|refine Jc (hV _) ?_|refine Ji ?_|refine Jo ?_|fail
   all_goals rfl
 · rw [if_neg h1]
   have h1:=Classical.not_not.1 h1
   have hsz:=Xe h1
   rw [h1] at hV
   have hcol:=Zt5 (bx:=[.cells 4 [t.cells]]) (Zut ht hsz) (l:=[]) (n:=1) (B:=0) trivial (PwB.nil 0) (by omega) (by omega) (by simp;omega) (.inl rfl) .nil
   rcases hcol with ⟨l',e,v',bx',hc,hM, -⟩|⟨e,bx',hc, -⟩
   · rw [e]
     obtain ⟨F,hF⟩:=Zid (Xl l') hM
     clear e
     dsimp only
     obtain ⟨n,hn⟩:∃ n,n=l'.length:=⟨_,rfl⟩
     have hgt:=Xt (n:Int) 200
     have hmc:=Vv hM
     rw [← hn] at hmc
     by_cases h3:200<l'.length
     · rw [if_pos h3]
       refine ⟨true,?_⟩
       rw [hnil]
       rw [decide_eq_true (by omega)] at hgt
       clear hF
       obtain ⟨k,nm,s,f,kz⟩:=t
       simp only [Tm.cells] at hV hc ⊢
       refine Jw tOk fe208.ok rfl ?_
       rcases hmc with ⟨rfl,rfl⟩|⟨q,rfl, -⟩
       · exfalso;simp at h3
       repeat' first|refine Jc (hV _) ?_|refine Jc hc ?_|refine Ji ?_|refine Jt ?_|refine Jo ?_|fail
       all_goals rfl
     · rw [if_neg h3]
       refine ⟨F,?_⟩
       rw [decide_eq_false (by omega)] at hgt
       obtain ⟨k,nm,s,f,kz⟩:=t
       simp only [Tm.cells] at hV hc ⊢
       refine Jw tOk fe208.ok (ZaP _ _ _ _ _) ?_
       rcases hmc with ⟨rfl,rfl⟩|⟨q,rfl, -⟩
       · obtain rfl : n = 0 := hn
         repeat' first|refine Jc (hV _) ?_|refine Jc hc ?_|refine Ji ?_|refine Jt ?_|refine Jo ?_|fail
         all_goals exact hF 0
       repeat' first|refine Jc (hV _) ?_|refine Jc hc ?_|refine Ji ?_|refine Jt ?_|refine Jo ?_|fail
       all_goals exact hF 0
   · rw [e]
     dsimp only
     refine ⟨true,?_⟩
     rw [hnil]
     clear e
     obtain ⟨k,nm,s,f,kz⟩:=t
     simp only [Tm.cells] at hV hc ⊢
     refine Jw tOk fe208.ok rfl ?_
     repeat' first|refine Jc (hV _) ?_|refine Jc hc ?_|refine Jt ?_|refine Jo ?_|fail
     all_goals rfl
