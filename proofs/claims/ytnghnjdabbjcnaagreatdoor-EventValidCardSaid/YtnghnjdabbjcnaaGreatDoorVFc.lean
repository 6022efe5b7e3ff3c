/-
  Boxes that nothing looks at any more are dropped.
-/
import Derived.Test.YtnghnjdabbjcnaaGreatDoorVFb
import Derived.Laws.AppendOwn
import Derived.Laws.Append
namespace Go.Vm
variable {b cap es i m:Nat} {arr old:Array Value} {c sv v xv z:Value} {el ys:List (List PV)} {S:VN} {p q s x:PV} {du:TypeDesc} {e t ty u:TypeId} {base:Option Addr} {ti:TI} {op:BinOp} {r:Result Next} {ρa:Operand→PV} {ρ:Operand→Value} {o:Oper}
section
variable {g:Gh} {H:Heap} {w:World}
theorem UW {H:Heap} {id:Nat} {b:Box} (h:({H with bx:=H.bx.set id .dead}:Heap).bx[i]? = some b) (hb:b≠ .dead):i≠id∧H.bx[i]? = some b:=by simp only[List.getElem?_set]at h;split at h;{split at h;{exact(hb (by simpa using h.symm)).elim};{cases h}};{rename_i e;exact⟨fun e'=>e e'.symm,h⟩}
theorem W9 {H:Heap} {id:Nat} (h:({H with bx:=H.bx.set id .dead}:Heap).liveAt i):i≠id∧H.liveAt i:=by obtain⟨b,hb,ha⟩:=h;obtain⟨h1,h2⟩:=UW hb (fun e=>by subst e;exact ha);exact⟨h1,b,h2,ha⟩
theorem Zlm (hi:Inv g H w) (id:Nat):Inv g {H with bx:=H.bx.set id .dead} w where
 st:=hi.st
 bx i es el h:=hi.bx i es el (UW h (by simp)).2
 mp i es h:=hi.mp i es (UW h (by simp)).2
 sp i T cs h:=hi.sp i T cs (UW h (by simp)).2
 inj i j b h1 h2:=hi.inj i j b (W9 h1).2 (W9 h2).2
 sd i h:=hi.sd i (by simpa using h)
 td:=hi.td
 tk t b lo hi' h1 h2:=let ⟨a,b,c⟩:=hi.tk t b lo hi' h1 h2;⟨a,b,fun i hl=>c i (W9 hl).2⟩
 tinj:=hi.tinj
 nd:=hi.nd
 lt:=hi.lt
 sz:=hi.sz
 ro:=by simpa using hi.ro
 rm i b c T m h1:=hi.rm i b c T m (W9 h1).2
theorem Zi5 {id:Nat} (hro:H.ro≤id) (w:World):Keep g H w g {H with bx:=H.bx.set id .dead} w where
 le:= .refl g
 heap _ _ _:=rfl
 store _ _ _ _:=rfl
 size:=Nat.le_refl _
 new id b h h':=by rw[h]at h';cases h'
 tnew t b lo hi h h':=by rw[h]at h';cases h'
 ro:=rfl
 bxl:=by simp
 bx i h:=by
  simp only[List.getElem?_set]
  rw[if_neg (by omega)]
 nt:=Nat.le_refl _
 lv t h:= .inl h
 al _ _ _ h:=(W9 h).2
 ns _ _ h:=h
 so:= .rfls
theorem ZfB (hi:Inv g H w) {w':World} {id:Nat} {old:Box} (hro:H.ro≤id) (hid:H.bx[id]? = some old) (hold:old.alive) (hσ:g.σ id=some b) (hS:∀o,g.S b o=none) (ho:∀k,k≠b→w'.heap[k]? = w.heap[k]?) (hsz:w'.heap.size=w.heap.size) {c:Array Value} {T:TypeId} (hn:w'.heap[b]? = some (.cells c T (0,0))) (_hfz:∀a,w'.frozen? a=w.frozen? a) (hso:SameOut g w w') (hw:∀i (hi:i<el.length),(el[i]).length=es) (hle:el.length*es≤c.size) (hv:∀i (hi:i<el.length) j (hj:j<(el[i]).length),∃v,c[i*es+j]? = some v∧V g ((el[i])[j]) v) (K:Nat) (hK:K≤c.size):Inv (g.link H.bx.length b K) {H with bx:=H.bx.set id .dead++ [.cells es el]} w'∧Keep g H w (g.link H.bx.length b K) {H with bx:=H.bx.set id .dead++ [.cells es el]} w':=by
 have hidl:=Zz hid;have hb:b<w.heap.size:=hi.sz _ _ hσ;have hlive:H.liveAt id:=⟨old,hid,hold⟩;have hsn:g.σ H.bx.length=none:=hi.sd _ (Nat.le_refl _);have hleg:g.Le (g.link H.bx.length b K):=⟨fun _ _ _ h=>h,fun i b h=>by
  simp only[Gh.link]
  split
  · rename_i e;subst e;rw[hsn]at h;cases h
  · exact h,fun _ _ h=>h,fun i b h=>by
  simp only[Gh.link]
  rw[if_neg (fun e=>by subst e;rw[hsn]at h;cases h)],rfl⟩
 have hσo:∀i,i≠H.bx.length→(g.link H.bx.length b K).σ i=g.σ i:=fun i h=>by simp[Gh.link,h]
 have hσn:(g.link H.bx.length b K).σ H.bx.length=some b:=by simp[Gh.link]
 obtain⟨H',hH'⟩:∃H':Heap,H'={H with bx:=H.bx.set id .dead++ [.cells es el]}:=⟨_,rfl⟩;have hbx:H'.bx=H.bx.set id .dead++ [.cells es el]:=by rw[hH']
 have hget:∀i,i<H.bx.length→H'.bx[i]? = if i=id then some .dead else H.bx[i]? :=fun i h=>by rw[hbx,List.getElem?_append_left (by simpa using h),List.getElem?_set];by_cases e:i=id;{subst e;simp[h]};{simp[e,Ne.symm e]}
 have hnew:H'.bx[H.bx.length]? = some (.cells es el):=by rw[hbx,List.getElem?_append_right (by simp)];simp
 have hlen:H'.bx.length=H.bx.length+1:=by rw[hbx];simp
 have hcase:∀i x,H'.bx[i]? = some x→x≠ .dead→(i≠id∧i<H.bx.length∧H.bx[i]? = some x)∨(i=H.bx.length∧x= .cells es el):=fun i x hx hd=>by have hlt:=Zz hx;rcases Nat.lt_or_ge i H.bx.length with h|h;{rw[hget i h]at hx;split at hx;{exact(hd (by simpa using hx.symm)).elim};{rename_i e;exact .inl ⟨e,h,hx⟩}};{(have e:i=H.bx.length:=by omega);subst e;rw[hnew]at hx;exact .inr ⟨rfl,by simpa using hx.symm⟩}
 have hl':∀i,H'.liveAt i→(i≠id∧i<H.bx.length∧H.liveAt i)∨i=H.bx.length:=fun i ⟨x,hx,ha⟩=>by rcases hcase i x hx (fun e=>by subst e;exact ha) with⟨a,b,c⟩|⟨a,_⟩;{exact .inl ⟨a,b,x,c,ha⟩};{exact .inr a}
 have hne:∀i k,i≠id→H.liveAt i→g.σ i=some k→k≠b:=fun i k h1 h2 h3 e=>h1 (hi.inj i id b h2 hlive (e ▸ h3) hσ);rw[← hH'];have hro':H'.ro=H.ro:=by rw[hH']
 have hnt':H'.nt=H.nt:=by rw[hH']
 have hlv':H'.live=H.live:=by rw[hH']
 refine⟨⟨?_,?_,?_,?_,?_,?_,?_,?_,?_,?_,?_,?_,?_,?_⟩,⟨hleg,?_,fun _ _ _ _=>rfl,?_,?_,?_,hro',?_,?_,?_,?_,?_,?_,hso⟩⟩
 ·intro k o v h;have:k≠b:=fun e=>by subst e;rw[show(g.link H.bx.length k K).S k o=g.S k o from rfl,hS]at h;cases h
  rw[cell_of_heap (ho k this)];exact hi.st _ _ _ h
 {intro i es' el' h;rcases hcase i _ h (by simp) with⟨h1,h2,h3⟩|⟨h1,h2⟩;{obtain⟨k,c',T',a1,a2,a3,a4,a5,a6⟩:=hi.bx i es' el' h3;exact⟨k,c',T',by rw[hσo i (by omega)];exact a1,by rw[ho k (hne i k h1 ⟨_,h3,trivial⟩ a1)];exact a2,a3,a4,fun i hi' j hj=>let ⟨v,e,x⟩:=a5 i hi' j hj;⟨v,e,x.mono hleg⟩,a6⟩};{subst h1;cases h2;exact⟨b,c,T,hσn,hn,hw,hle,fun i hi' j hj=>let ⟨v,e,x⟩:=hv i hi' j hj;⟨v,e,x.mono hleg⟩,hS⟩}};{intro i es' h;rcases hcase i _ h (by simp) with⟨h1,h2,h3⟩|⟨h1,h2⟩;{obtain⟨k,c',T',a1,a2,a3,a4,a5⟩:=hi.mp i es' h3;exact⟨k,c',T',by rw[hσo i (by omega)];exact a1,by rw[ho k (hne i k h1 ⟨_,h3,trivial⟩ a1)];exact a2,a3,fun i hi'=>let ⟨e,a,x,y⟩:=a4 i hi';⟨e,a,x.mono hleg,y.mono hleg⟩,a5⟩};{cases h2}};{intro i T' cs' h;rcases hcase i _ h (by simp) with⟨h1,h2,h3⟩|⟨h1,h2⟩;{obtain⟨k,c',a1,a2,a3,a4,a5⟩:=hi.sp i T' cs' h3;exact⟨k,c',by rw[hσo i (by omega)];exact a1,by rw[ho k (hne i k h1 ⟨_,h3,trivial⟩ a1)];exact a2,a3,fun j hj=>let ⟨v,e,x⟩:=a4 j hj;⟨v,e,x.mono hleg⟩,a5⟩};{cases h2}};{intro i j k h1 h2 h3 h4;rcases hl' i h1 with⟨i1,i2,i3⟩|rfl<;>rcases hl' j h2 with⟨j1,j2,j3⟩|rfl;{rw[hσo i (by omega)]at h3;rw[hσo j (by omega)]at h4;exact hi.inj i j k i3 j3 h3 h4};{rw[hσo i (by omega)]at h3;rw[hσn]at h4;cases h4;exact(hne i _ i1 i3 h3 rfl).elim};{rw[hσo j (by omega)]at h4;rw[hσn]at h3;cases h3;exact(hne j _ j1 j3 h4 rfl).elim};{rfl}};{intro i h;rw[hlen]at h;rw[hσo i (by omega)];exact hi.sd i (by omega)};{intro t h;exact hi.td t (by rw[← hnt'];exact h)};{intro t k lo hi' h1 h2;rw[hlv']at h1;obtain⟨⟨c',T',h3,h4⟩,h5,h6⟩:=hi.tk t k lo hi' h1 h2;have hkb:k≠b:=fun e=>h6 id hlive (e ▸ hσ);refine⟨⟨c',T',by rw[ho k hkb];exact h3,h4⟩,h5,fun i hl=>?_⟩;rcases hl' i hl with⟨i1,i2,i3⟩|rfl;{rw[hσo i (by omega)];exact h6 i i3};{rw[hσn];intro e;cases e;exact hkb rfl}};{intro t t' k lo hi' lo' hi2 h1 h2;rw[hlv']at h1 h2;exact hi.tinj t t' k lo hi' lo' hi2 h1 h2};{rw[hlv'];exact hi.nd};{intro t h;rw[hlv']at h;rw[hnt'];exact hi.lt t h};{intro i k h;rw[hsz];by_cases e:i=H.bx.length;{subst e;rw[hσn]at h;cases h;exact hb};{rw[hσo i e]at h;exact hi.sz _ _ h}};{rw[hro',hlen];have:=hi.ro;omega};{intro i k c' T' m h1 h2 h3;rcases hl' i h1 with⟨i1,i2,i3⟩|rfl;{rw[hσo i (by omega)]at h2;rw[ho k (hne i k i1 i3 h2)]at h3;simp only[Gh.link];rw[if_neg (by omega)];exact hi.rm i k c' T' m i3 h2 h3};{rw[hσn]at h2;cases h2;rw[hn]at h3;cases h3;simpa[Gh.link] using hK}};{intro k hk hsh;exact ho k fun e=>hsh.1 id hro hlive (e ▸ hσ)};{rw[hsz];exact Nat.le_refl _};{intro i k h h';by_cases e:i=H.bx.length;{subst e;rw[hσn]at h';cases h';exact .inr ⟨id,hro,hlive,hσ⟩};{rw[hσo i e,h]at h';cases h'}};{intro t k lo hi' h h';rw[show(g.link H.bx.length b K).τ t=g.τ t from rfl,h]at h';cases h'};{rw[hlen];omega};{intro i h;rw[hget i (by have:=hi.ro;omega),if_neg (by omega)]};{rw[hnt'];exact Nat.le_refl _};{intro t h;rw[hlv']at h;exact .inl h};{intro i k h h';rcases hl' i h' with⟨_,_,h⟩|rfl;{exact h};{rw[hsn]at h;cases h}};{intro i h h';rw[hσo i (by omega)];exact h'}
end
def RL0 (S:VN) (es:Nat) (el:List (List PV)) (arr:Array Value):Prop:=
 (∀i (hi : i < el.length), (el[i]).length = es) ∧ el.length * es ≤ arr.size ∧
   ∀i (hi:i<el.length) j (hj:j<(el[i]).length),∃v,arr[i*es+j]? = some v∧V0 S ((el[i])[j]) v
theorem RL0.nil (S:VN) (es:Nat) (arr:Array Value):RL0 S es [] arr:=⟨fun i hi=>absurd hi (by simp),by simp,fun i hi=>absurd hi (by simp)⟩
theorem RL0.append {a b:Array Value} (h:RL0 S es el a) (h':RL0 S es ys b) (hs:a.size=el.length*es):RL0 S es (el++ys) (a++b):=by refine⟨fun i hi=>?_,by simp[Nat.add_mul];have:=h'.2.1;omega,fun i hi j hj=>?_⟩;{by_cases e:i<el.length;{rw[List.getElem_append_left e];exact h.1 i e};{rw[List.getElem_append_right (by omega)];exact h'.1 _ (by simp at hi;omega)}};{by_cases e:i<el.length;{have e1:(el++ys)[i]=el[i]:=List.getElem_append_left e;(have hj':j<(el[i]).length:=by rw[← e1];exact hj);obtain⟨v,q,x⟩:=h.2.2 i e j hj';(have hlt:i*es+j<a.size:=by rw[hs];exact UO e (by rw[← h.1 i e];exact hj'));refine⟨v,by rw[Array.getElem?_append_left hlt];exact q,?_⟩;simpa only[e1] using x};{(have hk:i-el.length<ys.length:=by simp at hi;omega);have e1:(el++ys)[i]=ys[i-el.length]:=List.getElem_append_right (by omega);(have hj':j<(ys[i-el.length]).length:=by rw[← e1];exact hj);obtain⟨v,q,x⟩:=h'.2.2 _ hk j hj';(have hge:i*es+j=a.size+((i-el.length)*es+j):=by rw[hs,Nat.sub_mul];have:=Nat.mul_le_mul_right es (show el.length≤i by omega);omega);refine⟨v,by rw[hge,Array.getElem?_append_right (by omega)];simpa using q,?_⟩;simpa only[e1] using x}}
theorem RL0.more {a:Array Value} (h:RL0 S es el a) (b:Array Value):RL0 S es el (a++b):=by
 refine⟨h.1,by simp;have:=h.2.1;omega,fun i hi j hj=>?_⟩;obtain⟨v,q,x⟩:=h.2.2 i hi j hj;have hlt:i*es+j<a.size:=by rcases Nat.lt_or_ge (i*es+j) a.size with h|h;{exact h};{simp[Array.getElem?_eq_none h]at q}
 exact⟨v,by rw[Array.getElem?_append_left hlt];exact q,x⟩
theorem RL0.toRL {g:Gh} {a:Array Value} (h:RL0 g.S es el a):RL g es el a:=
 ⟨h.1,h.2.1,fun i hi j hj=>let ⟨v,q,x⟩:=h.2.2 i hi j hj;⟨v,q,.pure _ _ x⟩⟩
theorem ZcX (n:Nat):∀(r c:Nat),Builtin.growBy n r c≤max c (n+(n+768) / 4)
 |0,c=>by simp[Builtin.growBy];omega
 |r+1,c=>by simp only[Builtin.growBy];split;{omega};{have:=ZcX n r (c+(c+768) / 4);omega}
theorem ZgJ {n c:Nat} (h:c<n):4*Builtin.nextslicecap n c≤5*(n+256):=by unfold Builtin.nextslicecap;split;{omega};{split;{omega};{have:=ZcX n 4 c;omega}}
section
variable {E:Env} {P:Program} {g:Gh} {H:Heap} {w:World}
theorem QI (hi:Inv g H w) {tl:Tail} (h:V g (.sl tl es el) v):∃arr,(Builtin.firstCells es el.length v).run P w= .ok arr w∧RL0 g.S es el arr∧arr.size=el.length*es:=by
 obtain⟨b,o,cap,vals,a,rfl,hc,hw,hs,hv, -,ha⟩:=h.sl_inv;by_cases h0:0<el.length;case neg=>
  have e0:el= []:=by
   cases el with
   | nil=>rfl
   | cons _ _=>simp at h0
  subst e0
  exact⟨#[],by simp[Builtin.firstCells,loadCells,loadCellsFrom],.nil _ _ _,by simp⟩
 obtain rfl:=ha (.inl h0);have hr:(Builtin.firstCells es el.length (.slice (some ⟨b,o,none⟩) el.length cap)).run P w= .ok ((List.range (el.length*es)).map (fun j=>(w.cell? ⟨b,o+j,none⟩).getD undef)).toArray w:=by
  have:=run_loadCells_list (P:=P) w ⟨b,o,none⟩ ((List.range (el.length*es)).map (fun j=>(w.cell? ⟨b,o+j,none⟩).getD undef)) (fun j v hj=>by
   rw[ZV]
   have hj':j<el.length*es:=by
    have:=Zz hj;simpa using this
   simp[hj']at hj
   have hpos:0<es:=by
    rcases Nat.eq_zero_or_pos es with h|h
    · subst h;simp at hj'
    · exact h
   have:=hi.st _ _ _ (hs (j / es) (j % es) (by rw[Nat.div_lt_iff_lt_mul hpos];exact hj') (Nat.mod_lt _ hpos))
   rw[Nat.add_assoc,Nat.div_add_mod']at this
   rw[this]at hj ⊢
   simpa using hj)
  simpa[Builtin.firstCells] using this
 refine⟨_,hr,⟨hw,by simp,fun i hi' j hj=>?_⟩,by simp⟩;have hje:j<es:=by rw[hw i hi']at hj;exact hj
 have hlt:=UO hi' hje;have:=hi.st _ _ _ (hs i j hi' hje);refine⟨vals i j,?_,hv i hi' j hj⟩;rw[Nat.add_assoc]at this;simp[hlt,this]
theorem ZlE (hi:Inv g H w) (hp:V g p v) (hes:Wi es p=es) (h:YK H p=some ys):(Builtin.lenOf v).run P w= .ok ys.length w∧∃arr,(Builtin.firstCells es ys.length v).run P w= .ok arr w∧RL0 g.S es ys arr∧arr.size=ys.length*es:=by
 unfold YK at h;split at h;{cases h;obtain rfl:=hp.nils_inv;exact⟨by simp[Builtin.lenOf], #[],by simp[Builtin.firstCells],.nil _ _ _,by simp⟩};{rename_i tl es0 el0;cases h;have he:es0=es:=hes;clear hes;subst he;obtain⟨arr,h1,h2,h3⟩:=QI (P:=P) hi hp;refine⟨?_,arr,h1,h2,h3⟩;obtain⟨b,o,cap,vals,a,rfl, -⟩:=hp.sl_inv;simp[Builtin.lenOf]}
 ·rename_i id es' ix len;have he:es'=es:=hes;clear hes;subst he;rw[Zm]at h;split at h
  ·rename_i es0 el hb;split at h
   ·rename_i hcond;obtain⟨rfl,hle⟩:=hcond;obtain⟨b,cap,a,hσ,hc,ha,hsp,rfl⟩:=hp.own_inv;obtain⟨b',c,T,h1,h2,h3,h4,h5,h6⟩:=hi.bx _ _ _ hb;rw[hσ]at h1;cases h1;obtain⟨f1,f2⟩:=QK h;(have hl:ys.length=len:=by rw[f1];simp;omega);subst hl;by_cases h0:ys.length=0;{(have e0:ys= []:=by simpa using h0);subst e0;refine⟨by simp[Builtin.lenOf], #[],?_,.nil _ _ _,by simp⟩;have:=run_loadCells_list (P:=P) w a [] (fun j v hj=>by simp at hj);simpa[Builtin.firstCells] using this}
    ·have := ha (by omega);subst this;refine⟨by simp[Builtin.lenOf],?_⟩;(have hRL:RL g es' ((el.drop ix).take ys.length) ((List.range (ys.length*es')).map (fun j=>(c[ix*es'+j]?).getD undef)).toArray:=by refine⟨fun i hi=>by simpa using h3 (ix+i) (by simp at hi;omega),by simp;exact Nat.mul_le_mul_right _ (Nat.min_le_left _ _),fun i hi j hj=>?_⟩;(have hi':ix+i<el.length:=by simp at hi;omega);(have hi2:i<ys.length:=by simp at hi;omega);(have e1:((el.drop ix).take ys.length)[i]=el[ix+i]:=by simp);(have hj':j<(el[ix+i]).length:=by rw[← e1];exact hj);obtain⟨v,q1,q2⟩:=h5 (ix+i) hi' j hj';have hlt:=UO hi2 (show j<es' by rw[h3 _ hi']at hj';exact hj');(have e2:(ix+i)*es'+j=ix*es'+(i*es'+j):=by rw[Nat.add_mul,Nat.add_assoc]);rw[e2]at q1;refine⟨v,by simp[hlt,q1],by simpa only[e1] using q2⟩);obtain⟨z1,z2,z3⟩:=hRL.frozen h;refine⟨_,?_,⟨z2,by simp,z3⟩,by simp⟩;have:=run_loadCells_list (P:=P) w ⟨b,ix*es',none⟩ ((List.range (ys.length*es')).map (fun j=>(c[ix*es'+j]?).getD undef)) (fun j v hj=>by
      rw[ZV]
      have hj':j<ys.length*es':=by have:=Zz hj;simpa using this
      simp[hj']at hj
      have hin:ix*es'+j<c.size:=by
       have:=Nat.mul_le_mul_right es' hle
       rw[Nat.add_mul]at this
       omega
      simp[hin]at hj
      simp[World.cell?,h2,hin,hj])
     simpa[Builtin.firstCells] using this
   {cases h}
  {cases h}
 {cases h}
def Zqd (H:Heap) (du:TypeDesc) (es:Nat) (x:PV) (ys:List (List PV)):Prop:=
 ((∃e2,du= .slice e2)∧Wi es x=es∧YK H x=some ys)∨(du= .string∧es=1∧∃b,x= .str b∧ys=Zo b)
theorem Zcl (hi:Inv g H w) (hp:V g p v) (h:Zqd H du es p ys):(Builtin.lenOf v).run P w= .ok ys.length w∧∃arr,(Builtin.firstCells es ys.length v).run P w= .ok arr w∧RL0 g.S es ys arr∧arr.size=ys.length*es:=by
 rcases h with⟨_,h1,h2⟩|⟨_,rfl,b,rfl,rfl⟩;{exact ZlE hi hp h1 h2}
 ·obtain⟨s,rfl,rfl⟩:=hp.str_inv;have hl:(Zo s.data.toList).length=s.size:=by simp[Zo]
  have hx:s.extract 0 s.size=s:=by have h:=Lib.extract_data s 0 s.size;(have e:(s.extract 0 s.size).data=s.data:=by rw[← Array.toList_inj,h];simp only[List.drop_zero,Nat.sub_zero];exact List.take_of_length_le (Nat.le_of_eq (by rfl)));cases hs:s.extract 0 s.size;rw[hs]at e;cases s;simp at e;rw[e]
  have ha:(s.data.map fun b=>Value.int .u8 b.toNat).size=s.size:=by simp
  refine⟨by simp[Builtin.lenOf,hl],s.data.map fun b=> .int .u8 b.toNat,?_,⟨fun i hi=>by simp[Zo],by rw[hl,ha];omega,fun i hi j hj=>?_⟩,by rw[hl,ha];omega⟩;{rw[hl];simp[Builtin.firstCells,hx]};{(have hj0:j=0:=by simp[Zo]at hj;exact hj);subst hj0;(have hi':i<s.data.size:=by rw[hl]at hi;exact hi);refine⟨.int .u8 (s.data[i]).toNat,by rw[Nat.mul_one,Nat.add_zero,Array.getElem?_map,Array.getElem?_eq_getElem hi'];rfl,?_⟩;(have e:((Zo s.data.toList)[i])[0]= .int .u8 (Int.ofNat (s.data[i]).toNat):=by simp[Zo]);simp only[e];exact .int _ _}
theorem ZeE (b:List UInt8):∀c∈Zo b,c.all ZL=true:=fun c hc=>by
 obtain⟨x,_,rfl⟩:=List.mem_map.1 hc
 rfl
theorem Qq (hE:TOk E P) {by_:Nat} (h:XK E t u s x H=some (es,by_,ys)):∃e du i z,P.underlying t=some (.slice e)∧P.underlying u=some du∧Zcf E t=e∧P.info? e=some i∧i.zero=some z∧i.size=es∧i.bytes=by_∧z.cells.size=es∧0<es∧Wi es s=es∧Zqd H du es x ys∧(∀c∈ys,c.all ZL=true)∧Zkt s=true:=by
 have hz0:∀(z:Value) (n:Nat),(ofConst z).cells.length=n→0<n→z.cells.size=n:=fun z n hc hn=>by have:=(VL.zero (g:=⟨fun _ _=>none,fun _=>none,fun _=>none,fun _=>0,false⟩) z (by omega)).1;simp at this;omega
 unfold XK at h;split at h;{rename_i ti ui ht hu;obtain⟨i,d,z,h1,h2,h3,rfl⟩:=hE.spec ht;obtain⟨iu,du,zu,u1,u2,u3,rfl⟩:=hE.spec hu;simp only at h;split at h;{rename_i e hd hd2;(have hel:Zcf E t=e:=by simp only[Zcf,ht,hd]);have hd:=Yg hd;have hd2:=YE hd2;subst hd;subst hd2;split at h;{rename_i ei b hei;obtain⟨i',d',z',h1',h2',h3',rfl⟩:=hE.spec hei;simp only at h;split at h;{split at h;{rename_i hc;simp only[Option.some.injEq,Prod.mk.injEq]at h;obtain⟨rfl,rfl,rfl⟩:=h;obtain⟨c1,c2,c3,c4⟩:=hc;exact⟨e,_,i',z',h2,u2,hel,h1',h3',c1,rfl,hz0 z' 1 c2 (by omega),by omega,c3,.inr ⟨rfl,rfl,b,rfl,rfl⟩,ZeE b,c4⟩};{cases h}};{cases h}};{cases h}};{rename_i e e2 hd hd2;(have hel:Zcf E t=e:=by simp only[Zcf,ht,hd]);have hd:=Yg hd;have hd2:=Yg hd2;subst hd;subst hd2;split at h;{rename_i ei hei;obtain⟨i',d',z',h1',h2',h3',rfl⟩:=hE.spec hei;simp only at h;split at h;{rename_i hc;obtain⟨c1,c2,c3,c4⟩:=hc;split at h;{rename_i ys' hys;split at h;{rename_i hall;simp only[Option.some.injEq,Prod.mk.injEq]at h;obtain⟨rfl,rfl,rfl⟩:=h;exact⟨e,_,i',z',h2,u2,hel,h1',h3',rfl,rfl,hz0 z' _ c2 c1,c1,c3,.inl ⟨⟨e2,rfl⟩,c4,hys⟩,fun c hc=>List.all_eq_true.1 hall.1 c hc,hall.2⟩};{cases h}};{cases h}};{cases h}};{cases h}};{cases h}};{cases h}
theorem WM {i : TypeInfo} (h1 : P.underlying t = some (.slice e)) (h2 : P.underlying u = some du) (hdu : (∃e2, du = .slice e2) ∨ du = .string) (h3 : P.info? e = some i) {n : Nat}
  (hl:(Builtin.lenOf xv).run P w= .ok m w) (hf:(Builtin.firstCells i.size m xv).run P w= .ok arr w) (hle:n+m≤cap) :
  (Builtin.append_ #[t, u] ty #[.slice base n cap, xv]).run P w = match base with
    | some a=>((storeCells (a.add (n*i.size)) arr.toList).run P w).andThen fun _ w'=> .ok (.slice base (n+m) cap) w'
    | none=> .ok (.slice base (n+m) cap) w:=by rcases hdu with⟨e2,rfl⟩|rfl<;>cases base<;>simp[Builtin.append_,run_underlying h1,run_underlying h2,ZG h3,hl,hf,hle]
theorem ZaN {i:TypeInfo} (h1:P.underlying t=some (.slice e)) (h2:P.underlying u=some du) (hdu:(∃e2,du= .slice e2)∨du= .string) (h3:P.info? e=some i) (hz:i.zero=some z) {n:Nat} (hl:(Builtin.lenOf xv).run P w= .ok m w) (ho:(Builtin.firstCells i.size n (.slice base n cap)).run P w.drew= .ok old w.drew) (hf:(Builtin.firstCells i.size m xv).run P w.drew= .ok arr w.drew) (hle:cap<n+m) (hfit:(n+m+256)*i.bytes≤211106232532992) (hbig:n+m≤4611686018427387904):∃nc,n+m≤nc∧nc≤9223372036854775807∧(Builtin.append_ #[t,u] ty #[.slice base n cap,xv]).run P w= .ok (.slice (some ⟨w.heap.size,0,none⟩) (n+m) nc) (w.drew.alloc (.cells (old++arr++Builtin.zeroCells z.cells (nc-(n+m))) e)):=by
 refine⟨grownCap w (n+m) cap e,by simp[grownCap,Question.cut],?_,?_⟩;{have:=grownCap_le_maxLen w (n+m) cap e (by unfold maxLen;omega);unfold maxLen at this;omega};have hn:¬ (n+m≤cap):=by omega
 have h63':¬ (9223372036854775807<((n:Int)+(m:Int))):=by omega
 have h48':¬ (281474976710656<Builtin.nextslicecap (n+m) cap*i.bytes):=by have:=ZgJ hle;have h2:=Nat.mul_le_mul_right i.bytes this;rw[Nat.mul_assoc,Nat.mul_assoc]at h2;omega
 rcases hdu with⟨e2,rfl⟩|rfl<;>simp[Builtin.append_,run_underlying h1,run_underlying h2,sizeOf,typeInfo,zeroValue,h3,hz,hl,hn,h63',h48',Question.forced,ho,hf,newRow,grownCap]
theorem ZaR (z:Array Value) (k:Nat):(Builtin.zeroCells z k).size=k*z.size:=by simp[Builtin.zeroCells]
theorem ZhV {n:Nat} (h:VX n m b=true):(n+m+256)*b≤211106232532992∧n+m≤4611686018427387904:=by simp only[VX,Bool.and_eq_true,Nat.ble_eq]at h;exact h
theorem YU (hi:Inv g H w) {i:TypeInfo} (h1:P.underlying t=some (.slice e)) (h2:P.underlying u=some du) (hdu:(∃e2,du= .slice e2)∨du= .string) (h3:P.info? e=some i) (hz:i.zero=some z) (hzs:z.cells.size=i.size)

  (ho:(Builtin.firstCells i.size el.length (.slice base el.length cap)).run P w.drew= .ok old w.drew) (ro:RL0 g.S i.size el old) (so:old.size=el.length*i.size)
  (hl:(Builtin.lenOf xv).run P w= .ok ys.length w) (hf:(Builtin.firstCells i.size ys.length xv).run P w.drew= .ok arr w.drew) (ra:RL0 g.S i.size ys arr) (sa:arr.size=ys.length*i.size)
  (hroom:cap<el.length+ys.length) (hfit:VX el.length ys.length i.bytes=true) :
  (Zbg e (el ++ ys) = true → ∀l : List Nat, l.Sublist H.live → ∃v w' g', (Builtin.append_ #[t, u] ty #[.slice base el.length cap, xv]).run P w = .ok v w' ∧ V g' (.sl (.tok H.nt) i.size (el ++ ys)) v ∧
    Inv g' {H with nt:=H.nt+1,live:=H.nt::l} w'∧Keep g H w g' {H with nt:=H.nt+1,live:=H.nt::l} w')∧
  ∃v w' g',(Builtin.append_ #[t,u] ty #[.slice base el.length cap,xv]).run P w= .ok v w'∧V g' (.own H.bx.length i.size 0 (el.length+ys.length)) v∧
   Inv g' (H.push (.cells i.size (el++ys))) w'∧Keep g H w g' (H.push (.cells i.size (el++ys))) w':=by
 obtain⟨f1,f2⟩:=ZhV hfit
 obtain⟨nc,hnc,hncm,hrun⟩:=ZaN (ty:=ty) h1 h2 hdu h3 hz hl ho hf hroom f1 f2
 have hi1:Inv g H w.drew:=hi.same rfl
 have k0:Keep g H w g H w.drew:= .same rfl
 have hsz:(old++arr++Builtin.zeroCells z.cells (nc-(el.length+ys.length))).size=nc*i.size:=by
  simp only[Array.size_append,ZaR,so,sa,hzs, ← Nat.add_mul]
  congr 1
  omega
 have hR:=(ro.append ra so).more (Builtin.zeroCells z.cells (nc-(el.length+ys.length)))
 have hlen:(el++ys).length=el.length+ys.length:=by simp
 refine⟨fun htb l hsub=>?_,?_⟩
 · obtain⟨i1, k1⟩ := ZaP hi1 (old ++ arr ++ Builtin.zeroCells z.cells (nc - (el.length + ys.length))) e ((el.length + ys.length) * i.size) (nc * i.size) (by omega) l hsub
   refine⟨_,_,_,hrun,?_,i1,k0.then hi k1⟩
   have hS:∀o,o<(el.length+ys.length)*i.size→((g.addS w.drew.heap.size (ZeJ (old++arr++Builtin.zeroCells z.cells (nc-(el.length+ys.length))) ((el.length+ys.length)*i.size))).tok H.nt (w.drew.heap.size,(el.length+ys.length)*i.size,(nc*i.size,e))).S w.heap.size o=(old++arr++Builtin.zeroCells z.cells (nc-(el.length+ys.length)))[o]? :=fun o ho=>by
    simp[Gh.tok,Gh.addS,ZeJ,ho]
   refine V.sl_mk (fun a b=>((old++arr++Builtin.zeroCells z.cells (nc-(el.length+ys.length)))[a*i.size+b]?).getD undef) hlen.symm (by omega) hR.1 (fun a b ha hb=>?_) (fun a ha b hb=>?_) ⟨e,htb,.inr ?_⟩
   · have hlt := UO (show a < el.length + ys.length by omega) hb
     rw[Nat.zero_add,hS _ hlt]
     obtain⟨v,q,_⟩:=hR.2.2 a ha b (by rw[hR.1 a ha];exact hb)
     rw[q];rfl
   · obtain⟨v, q, x⟩ := hR.2.2 a ha b hb
     simp only[q,Option.getD_some]
     exact x.mono k1.le.S
   · simp[Gh.tok]
 · obtain⟨g', a1, a2, a3⟩ := Zd7 hi1 (n := el.length + ys.length) e hR.toRL nc hnc (by omega) hncm
   exact⟨_,_,g',hrun,a1,a2,k0.then hi a3⟩
theorem WJ {k:Nat}:∀{l r:List Nat},X5 k l=some r→k∈l∧r.Sublist l∧(l.Nodup→∀x,x∈r→x≠k)
 | [],r,h=>by simp[X5]at h
 |x::l,r,h=>by simp only[X5]at h;split at h;{rename_i e;cases h;subst e;exact⟨by simp,List.sublist_cons_self _ _,fun hn y hy e=>by subst e;exact(List.nodup_cons.1 hn).1 hy⟩};{rename_i e;split at h;{rename_i r' hr;cases h;obtain⟨a,b,c⟩:=WJ hr;refine⟨by simp[a],b.cons_cons x,fun hn y hy=>?_⟩;rcases List.mem_cons.1 hy with rfl|hy;{exact e};{exact c (List.nodup_cons.1 hn).2 y hy}};{cases h}}
theorem RL0.one (h:RL0 S es ys arr) (hs:arr.size=ys.length*es) (hpos:0<es) (hc:∀c∈ys,c.all ZL=true):∀v∈arr.toList,v.oneCell'=true:=by
 intro v hv;obtain⟨x,hx,rfl⟩:=List.mem_iff_getElem.1 hv;have hx':x<ys.length*es:=by simpa[hs] using hx
 have hi:x / es<ys.length:=by rw[Nat.div_lt_iff_lt_mul hpos];exact hx'
 have hj:x % es<(ys[x / es]).length:=by rw[h.1 _ hi];exact Nat.mod_lt _ hpos
 obtain⟨v,q,y⟩:=h.2.2 _ hi _ hj;rw[Nat.div_add_mod']at q;have:arr.toList[x]=v:=by
  have hx2:x<arr.size:=by simpa using hx
  rw[Array.getElem?_eq_getElem hx2]at q;simpa using q
 rw[this];exact XR (.pure (g:=⟨S,fun _=>none,fun _=>none,fun _=>0,false⟩) _ _ y) (List.all_eq_true.1 (hc _ (List.getElem_mem _)) _ (List.getElem_mem _))
theorem ZcM (hi:Inv g H w) {i:TypeInfo} (h1:P.underlying t=some (.slice e)) (h2:P.underlying u=some du) (hdu:(∃e2,du= .slice e2)∨du= .string) (h3:P.info? e=some i) (hz:i.zero=some z) (hzs:z.cells.size=i.size) {arr':Array Value} (hs:V g s sv) (hss:Wi i.size s=i.size) (hpos:0<i.size) (hl:(Builtin.lenOf xv).run P w= .ok ys.length w) (hf:(Builtin.firstCells i.size ys.length xv).run P w= .ok arr w) (ra:RL0 g.S i.size ys arr) (sa:arr.size=ys.length*i.size) (hf':(Builtin.firstCells i.size ys.length xv).run P w.drew= .ok arr' w.drew) (ra':RL0 g.S i.size ys arr') (sa':arr'.size=ys.length*i.size) (hco:∀c∈ys,c.all ZL=true) {H':Heap} (h:WH s i.size i.bytes ys H=some (q,H')):∃v w' g',(Builtin.append_ #[t,u] ty #[sv,xv]).run P w= .ok v w'∧V g' q v∧Inv g' H' w'∧Keep g H w g' H' w':=by
 have hi1:Inv g H w.drew:=hi.same rfl;unfold WH at h;split at h
 ·rename_i id es0 ix len;have he:es0=i.size:=hss;clear hss;subst he;split at h
  ·rename_i el hel;split at h
   ·rename_i hc;obtain⟨rfl,hro,rfl,hfit⟩:=hc;cases h;have hel':=hel;simp only[YK,Zm]at hel';split at hel'
    ·rename_i es1 el0 hb;split at hel'
     ·rename_i hcond;obtain⟨rfl,hle⟩:=hcond;obtain⟨b,cap,a,hσ,hcc,ha,hsp,hk,rfl⟩:=hs.own_inv2;obtain⟨b',c,T,g1,g2,g3,g4,g5,g6⟩:=hi.bx _ _ _ hb;rw[hσ]at g1;cases g1;have ha:=ha (.inr rfl);subst ha;by_cases hroom:el.length+ys.length≤cap
      ·have hK : g.κ id ≤ c.size := hi.rm id b c T _ ⟨_, hb, trivial⟩ hσ g2;have hmul:(el.length+ys.length)*i.size≤cap*i.size:=Nat.mul_le_mul_right _ hroom;rw[Nat.add_mul]at hmul;have hk1:=hk.1;rw[Nat.zero_add]at hk1;(have hfit2:0*i.size+el.length*i.size+arr.toList.length≤c.size:=by simp only[Array.length_toList,sa];omega);have hrun:=run_storeCells_at (P:=P) b (0*i.size+el.length*i.size) T arr.toList 0 c w g2 (by omega) (ra.one sa hpos hco);rw[Nat.add_zero]at hrun;(have hRL:RL g i.size ((el0.drop 0).take el.length) (c.toList.take (0*i.size+el.length*i.size)).toArray:=by refine⟨fun x hx=>by simpa using g3 x (by simp at hx;omega),?_,fun x hx j hj=>?_⟩;{(have : min (0 * i.size + el.length * i.size) c.size = el.length * i.size := by omega);simp only[List.drop_zero,List.length_take,List.size_toArray,Array.length_toList,this];exact Nat.mul_le_mul_right _ (Nat.min_le_left _ _)};{(have hx' : x < el0.length := by simp at hx; omega);(have hx2:x<el.length:=by simp at hx;omega);(have e1:((el0.drop 0).take el.length)[x]=el0[x]:=by simp);(have hj':j<(el0[x]).length:=by rw[← e1];exact hj);obtain⟨v,q1,q2⟩:=g5 x hx' j hj';have hlt:=UO hx2 (show j<i.size by rw[g3 _ hx']at hj';exact hj');refine⟨v,?_,by simpa only[e1] using q2⟩;simp only[List.getElem?_toArray];rw[List.getElem?_take_of_lt (by omega)];simpa using q1});obtain⟨z1,z2,z3⟩:=hRL.frozen hel';(have sA:(c.toList.take (0*i.size+el.length*i.size)).toArray.size=el.length*i.size:=by simp;omega);have hA:RL0 g.S i.size el (c.toList.take (0*i.size+el.length*i.size)).toArray:=⟨z2,by omega,z3⟩;have hR:=(hA.append ra sA).more (c.toList.drop (0*i.size+el.length*i.size+arr.toList.length)).toArray;(have hC:(c.toList.take (0*i.size+el.length*i.size)++arr.toList++c.toList.drop (0*i.size+el.length*i.size+arr.toList.length)).toArray=(c.toList.take (0*i.size+el.length*i.size)).toArray++arr++(c.toList.drop (0*i.size+el.length*i.size+arr.toList.length)).toArray:=by apply Array.toList_inj.1;simp);obtain⟨i1, k1⟩ := ZfB hi hro hb trivial hσ g6 (fun k hk => setRow_other w b k _ hk) (by simp) (setRow_heap w b c _ T _ g2) (Xa w b c _ T _ g2) ⟨by simp, by simp⟩ (es := i.size) (el := el ++ ys) hR.1 (by
         rw[Ya _ _ _ hfit2];simp only[List.length_append,Nat.add_mul];omega) (fun x hx j hj=>let ⟨v,q,y⟩:=hR.2.2 x hx j hj;⟨v,by rw[hC];exact q,.pure _ _ y⟩) (g.κ id) (by rw[Ya _ _ _ hfit2];exact hK)
       refine⟨.slice (some ⟨b,0*i.size,none⟩) (el.length+ys.length) cap,_,_,?_,?_,i1,k1⟩;{rw[WM (ty:=ty) h1 h2 hdu h3 hl hf hroom];simp only[ZV,hrun,Result.andThen_ok]};{exact V.own _ _ 0 _ b cap _ (by simp[Gh.link]) hroom (fun _=>rfl) rfl ⟨by simpa[Gh.link] using hk1,hk.2⟩}
      {obtain⟨-,old,ho,ro,so⟩:=ZlE (P:=P) hi1 hs (es:=i.size) rfl hel;obtain⟨v,w',g',hr,hv,hi',hk'⟩:=(YU (ty:=ty) hi h1 h2 hdu h3 hz hzs ho ro so hl hf' ra' sa' (by omega) hfit).2;have hlt:id<H.bx.length:=Zz hb;(have e:({H.push (.cells i.size (el++ys)) with bx:=(H.push (.cells i.size (el++ys))).bx.set id .dead}:Heap)={H with bx:=H.bx.set id .dead++ [.cells i.size (el++ys)]}:=by simp[Heap.push,hlt]);have i2:=Zlm hi' id;have k2:=hk'.then hi (Zi5 (g:=g') (H:=H.push (.cells i.size (el++ys))) (id:=id) hro w');rw[e]at i2 k2;exact⟨v,w',g',hr,hv,i2,k2⟩}
     {cases hel'}
    {cases hel'}
   {cases h}
  {cases h}
 {cases h}
theorem Zda (hE:TOk E P) (hi:Inv g H w) {t u ty:TypeId} {s x:PV} {sv xv:Value} (hs:V g s sv) (hx:V g x xv) {q:PV} {H':Heap} (h:ZP E t u s x H=some (q,H')):∃v w' g',(Builtin.append_ #[t,u] ty #[sv,xv]).run P w= .ok v w'∧V g' q v∧Inv g' H' w'∧Keep g H w g' H' w':=by
 unfold ZP at h;split at h
 ·rename_i es by_ ys hap;obtain⟨e,du,i,z,h1,h2,hel0,h3,hz,rfl,rfl,hzs,hpos,hss,hsrc,hco,hso⟩:=Qq hE hap;obtain⟨hl,arr,hf,ra,sa⟩:=Zcl (P:=P) hi hx hsrc;have hi1:Inv g H w.drew:=hi.same rfl;obtain⟨-,arr',hf',ra',sa'⟩:=Zcl (P:=P) hi1 hx hsrc;split at h
  ·cases h;(have harr:arr.toList= []:=by simpa using sa);(have base:∀(b:Option Addr) (n cap:Nat),n≤cap→sv= .slice b n cap→(Builtin.append_ #[t,u] ty #[sv,xv]).run P w= .ok sv w:=by intro b n cap hn e0;subst e0;rw[WM (ty:=ty) h1 h2 (hsrc.imp (fun h=>h.1) fun h=>h.1) h3 hl hf (by simpa using hn)];cases b<;>simp[harr,storeCells]);refine⟨sv,w,g,?_,hs,hi,.refl _ _ _⟩;cases s with
   | nils=>obtain rfl:=hs.nils_inv;exact base _ _ _ (Nat.le_refl _) rfl
   | sl tl es el=>obtain⟨b,o,cap,vals,a,rfl,hc, -⟩:=hs.sl_inv;exact base _ _ _ hc rfl
   | own id es ix len=>obtain⟨b,cap,a, -,hc, -, -,rfl⟩:=hs.own_inv;exact base _ _ _ hc rfl
   | _=>simp[Zkt]at hso
  ·rename_i y yr;split at h
   ·rename_i k es' el;have he:es'=i.size:=hss;clear hss;subst he;split at h
    ·rename_i hfit;simp only[Bool.and_eq_true]at hfit;split at h
     ·rename_i l hel;cases h;obtain⟨hk,hsub,hne⟩:=WJ hel;have hne:=hne hi.nd;obtain⟨b,o,cap,vals,a,rfl,hc,hw,hst,hv,htl,ha⟩:=hs.sl_inv;obtain rfl:=ha (.inr ⟨k,rfl⟩);by_cases hroom:el.length+(y::yr).length≤cap
      ·obtain⟨T0, hT0, htl⟩ := htl;(have hτ:g.τ k=some (b,o+el.length*i.size,(o+cap*i.size,T0)):=by rcases htl with h|h;{simp at hroom;omega};{exact h});obtain⟨⟨c,T,hb,hsz,hTe⟩,hfree,hnob⟩:=hi.tk k b _ _ hk hτ;have hsz:o+cap*i.size≤c.size:=hsz;have hTe:T=T0:=hTe;subst hTe;have hmul:(el.length+(y::yr).length)*i.size≤cap*i.size:=Nat.mul_le_mul_right _ hroom;rw[Nat.add_mul]at hmul;(have hfit2:o+el.length*i.size+arr.toList.length≤c.size:=by simp only[Array.length_toList,sa];omega);have hrun:=run_storeCells_at (P:=P) b (o+el.length*i.size) T arr.toList 0 c w hb (by omega) (ra.one sa hpos hco);rw[Nat.add_zero]at hrun;have hlt:∀x,x∈l→x∈H.live∧x≠k:=fun x hx=>⟨hsub.subset hx,hne x hx⟩;obtain⟨i1,k1⟩:=ZbH hi hk hτ c (c.toList.take (o+el.length*i.size)++arr.toList++c.toList.drop (o+el.length*i.size+arr.toList.length)).toArray T ((y::yr).length*i.size) hb (setRow_heap w b c _ T _ hb) (Ya _ _ _ hfit2)
        (fun x hx=>by rw[XU _ _ _ hfit2,if_pos hx]) (fun x hx=>setRow_other w b x _ hx) (by simp) (Xa w b c _ T _ hb) l hlt (hi.nd.sublist hsub)
        (fun x=>if x<o+el.length*i.size then g.S b x else if x<o+el.length*i.size+(y::yr).length*i.size then(c.toList.take (o+el.length*i.size)++arr.toList++c.toList.drop (o+el.length*i.size+arr.toList.length)).toArray[x]? else none)
        (fun x v hx => by
          split at hx
          · rename_i h;exact .inl ⟨h,hx⟩
          · rename_i h
            split at hx
            · rename_i h';exact .inr ⟨by omega,h',hx⟩
            · cases hx)
        (fun x v hx => by
          have:x<o+el.length*i.size:=by
           rcases Nat.lt_or_ge x (o+el.length*i.size) with h|h
           · exact h
           · rw[hfree x h]at hx;cases hx
          simp only[if_pos this];exact hx) .rfls
       refine⟨.slice (some ⟨b,o,none⟩) (el.length+(y::yr).length) cap,_,_,?_,?_,i1,k1⟩;{rw[WM (ty:=ty) h1 h2 (hsrc.imp (fun h=>h.1) fun h=>h.1) h3 hl hf hroom];simp only[ZV,hrun,Result.andThen_ok]};{(have hS:∀x,((g.addS b (fun x=>if x<o+el.length*i.size then g.S b x else if x<o+el.length*i.size+(y::yr).length*i.size then(c.toList.take (o+el.length*i.size)++arr.toList++c.toList.drop (o+el.length*i.size+arr.toList.length)).toArray[x]? else none)).tok H.nt (b,o+el.length*i.size+(y::yr).length*i.size,(o+cap*i.size,T))).S b x=if x<o+el.length*i.size then g.S b x else if x<o+el.length*i.size+(y::yr).length*i.size then(c.toList.take (o+el.length*i.size)++arr.toList++c.toList.drop (o+el.length*i.size+arr.toList.length)).toArray[x]? else none:=fun x=>by simp[Gh.tok,Gh.addS]);(have hwid:∀i' (hi':i'<(el++y::yr).length),((el++y::yr)[i']).length=i.size:=fun i' hi'=>by by_cases hlt':i'<el.length;{rw[List.getElem_append_left hlt'];exact hw i' hlt'};{rw[List.getElem_append_right (by omega)];exact ra.1 _ (by simp only[List.length_append]at hi';omega)});refine V.sl_mk (fun a d=>if a<el.length then vals a d else(arr[(a-el.length)*i.size+d]?).getD undef) (by simp) (by simp at hroom ⊢;omega) hwid (fun a d ha hd=>?_) (fun a ha d hd=>?_) ⟨T,ZeD hT0 (ZnH hT0 hfit.2),.inr ?_⟩;{rw[hS];by_cases hlt':a<el.length;{have:=UO hlt' hd;simp only[if_pos hlt'];rw[if_pos (by omega)];exact hst a d hlt' hd};{(have ha':a-el.length<(y::yr).length:=by simp only[List.length_append]at ha;omega);have:=UO ha' hd;(have hge:o+a*i.size+d=o+el.length*i.size+((a-el.length)*i.size+d):=by rw[Nat.sub_mul];have:=Nat.mul_le_mul_right i.size (show el.length≤a by omega);omega);simp only[if_neg hlt'];rw[hge,if_neg (by omega),if_pos (by omega),XU _ _ _ hfit2,if_neg (by omega),if_pos (by simp only[Array.length_toList,sa];omega)];obtain⟨v,q,_⟩:=ra.2.2 _ ha' d (by rw[ra.1 _ ha'];exact hd);rw[Nat.add_sub_cancel_left,q];simpa using q}};{by_cases hlt':a<el.length;{simp only[if_pos hlt'];have e1:(el++y::yr)[a]=el[a]:=List.getElem_append_left hlt';(have hd':d<(el[a]).length:=by rw[← e1];exact hd);have:=(hv a hlt' d hd').mono k1.le.S;simpa only[e1] using this};{(have ha':a-el.length<(y::yr).length:=by simp only[List.length_append]at ha;omega);simp only[if_neg hlt'];have e1:(el++y::yr)[a]=(y::yr)[a-el.length]:=List.getElem_append_right (by omega);(have hd':d<((y::yr)[a-el.length]).length:=by rw[← e1];exact hd);obtain⟨v,q,x⟩:=ra.2.2 _ ha' d hd';rw[q];have:=x.mono k1.le.S;simpa only[e1,Option.getD_some] using this}};{simp[Gh.tok,Nat.add_mul];omega}}
      {obtain⟨old,ho,ro,so⟩:=QI (P:=P) hi1 hs;exact(YU (ty:=ty) hi h1 h2 (hsrc.imp (fun h=>h.1) fun h=>h.1) h3 hz hzs ho ro so hl hf' ra' sa' (by omega) hfit.1.1).1 (by rw[hel0]at hfit;exact hfit.1.2) l hsub}
     {cases h}
    {cases h}
   ·split at h
    ·rename_i el hfull;split at h
     ·rename_i hfit;simp only[Bool.and_eq_true]at hfit;cases h;cases s with
      | nils=>obtain rfl:=hs.nils_inv;simp only[YD,Option.some.injEq]at hfull;subst hfull;refine(YU (ty:=ty) (el:=[]) (old:= #[]) hi h1 h2 (hsrc.imp (fun h=>h.1) fun h=>h.1) h3 hz hzs (by simp[Builtin.firstCells]) (.nil _ _ _) (by simp) hl hf' ra' sa' (by simp) hfit.1).1 (by rw[hel0]at hfit;exact hfit.2) H.live (List.Sublist.refl _)
      | sl tl es' el'=>
       cases tl with
       | full=>simp only[YD,Option.some.injEq]at hfull;subst hfull;have he:es'=i.size:=hss;clear hss;subst he;obtain⟨old,ho,ro,so⟩:=QI (P:=P) hi1 hs;obtain⟨b,o,cap,vals,a,rfl,hc,hw,hst,hv,htl, -⟩:=hs.sl_inv;have htl:cap=el'.length:=htl;exact(YU (ty:=ty) hi h1 h2 (hsrc.imp (fun h=>h.1) fun h=>h.1) h3 hz hzs ho ro so hl hf' ra' sa' (by simp;omega) hfit.1).1 (by rw[hel0]at hfit;exact hfit.2) H.live (List.Sublist.refl _)
       | _=>simp[YD]at hfull
      | _=>simp[YD]at hfull
     {cases h}
    {exact ZcM (ty:=ty) hi h1 h2 (hsrc.imp (fun h=>h.1) fun h=>h.1) h3 hz hzs hs hss hpos hl hf ra sa hf' ra' sa' hco h}
 {cases h}
theorem Zdl (hE:TOk E P) (hi:Inv g H w) (hs:V g s sv) (hx:V g x xv) {H':Heap} (h:ZK E t u s x H=some (q,H')):∃v w' g',(Builtin.append_ #[t,u] ty #[sv,xv]).run P w= .ok v w'∧V g' q v∧Inv g' H' w'∧Keep g H w g' H' w':=by
 unfold ZK at h;split at h
 ·rename_i es by_ ys hap;split at h;{refine Zda hE hi hs hx ?_;unfold ZP;rw[hap];exact h}
  ·rename_i y yr;obtain⟨e,du,i,z,h1,h2,hel0,h3,hz,rfl,rfl,hzs,hpos,hss,hsrc,hco,hso⟩:=Qq hE hap;obtain⟨hl,arr,hf,ra,sa⟩:=Zcl (P:=P) hi hx hsrc;have hi1:Inv g H w.drew:=hi.same rfl;obtain⟨-,arr',hf',ra',sa'⟩:=Zcl (P:=P) hi1 hx hsrc;split at h
   ·rename_i el hfull;split at h
    ·rename_i hfit;cases h;cases s with
     | nils=>obtain rfl:=hs.nils_inv;simp only[YD,Option.some.injEq]at hfull;subst hfull;refine(YU (ty:=ty) (el:=[]) (old:= #[]) hi h1 h2 (hsrc.imp (fun h=>h.1) fun h=>h.1) h3 hz hzs (by simp[Builtin.firstCells]) (.nil _ _ _) (by simp) hl hf' ra' sa' (by simp) hfit).2
     | sl tl es' el'=>
      cases tl with
      | full=>simp only[YD,Option.some.injEq]at hfull;subst hfull;have he:es'=i.size:=hss;clear hss;subst he;obtain⟨old,ho,ro,so⟩:=QI (P:=P) hi1 hs;obtain⟨b,o,cap,vals,a,rfl,hc,hw,hst,hv,htl, -⟩:=hs.sl_inv;have htl:cap=el'.length:=htl;exact(YU (ty:=ty) hi h1 h2 (hsrc.imp (fun h=>h.1) fun h=>h.1) h3 hz hzs ho ro so hl hf' ra' sa' (by simp;omega) hfit).2
      | _=>simp[YD]at hfull
     | _=>simp[YD]at hfull
    {cases h}
   {exact ZcM (ty:=ty) hi h1 h2 (hsrc.imp (fun h=>h.1) fun h=>h.1) h3 hz hzs hs hss hpos hl hf ra sa hf' ra' sa' hco h}
 {cases h}
end
section
variable {E:Env} {P:Program} {g:Gh} {H:Heap} {w:World}
theorem Vz (op:BinOp) (t:TypeId) (x y:Operand) (a b:Value) (h:∀u v,a= .agg u→b= .agg v→False) (h2:a= .nilIface→b= .nilIface→False):(eqGuard op t x y a b).run P w= .ok () w:=by
 cases op<;>first|rfl|skip
 all_goals
  cases a<;>first|rfl|skip
  · cases b<;>first|rfl|exact(h2 rfl rfl).elim
  · cases b<;>first|rfl|exact(h _ _ rfl rfl).elim
theorem ZfE (hE:TOk E P) (ht:E.T t=some ti) {a:Value} (hp:V g p a) (hq:V g q c) {b:Bool} (h:aEq ti.tk p q=some b):(Op.equal t a c).run P w= .ok b w∧(∀k n,a≠ .int k n)∧(∀s,a≠ .string s)∧(∀u,a≠ .agg u)∧a≠ .nilIface∧(∀k n,a≠ .float k n)∧(∀k n m,a≠ .complex k n m):=by
 obtain⟨i,d,z,h1,h2,h3,rfl⟩:=hE.spec ht;simp only at h;have key:∀r:Bool,(∀n,(Op.equalIn (n+1) t a c).run P w= .ok r w)→(Op.equal t a c).run P w= .ok r w:=fun r h=>h 9999;unfold aEq at h;split at h;{rename_i x y;split at h;{rename_i hd;have hd:=ZeI hd;subst hd;cases h;obtain rfl:=hp.bool_inv;obtain rfl:=hq.bool_inv;refine⟨key _ fun n=>?_,by simp,by simp,by simp,by simp,by simp,by simp⟩;simp[Op.equalIn,run_underlying h2]};{cases h}}
 ·split at h;all_goals first
   | cases h
   | skip
  all_goals
   first
    | (have hd:=Yg ‹VT d=TK.slice _›;subst hd)
    | (have hd:=Zg1 ‹VT d=TK.pointer _›;subst hd)
    | (have hd:=Zdq ‹VT d=TK.map _ _›;subst hd)
    | (have h9 : VT d = TK.iface := by assumption
       obtain⟨f1,hd⟩:=Zgi h9;subst hd)
    | (obtain⟨f1,f2,f3,hd⟩:=Zm6 ‹VT d=TK.func›;subst hd)
  all_goals
   first
    | obtain rfl:=hp.nils_inv
    | (obtain⟨b,o,cap,vals,a,rfl, -⟩:=hp.sl_inv)
    | (obtain⟨b,cap,a, -, -, -, -,rfl⟩:=hp.own_inv)
    | obtain rfl:=hp.nilp_inv
    | (obtain⟨b, -,rfl⟩:=hp.ptr_inv)
    | obtain rfl:=hp.nilm_inv
    | (obtain⟨b, -,rfl⟩:=hp.map_inv)
    | obtain rfl:=hp.nilf_inv
    | obtain rfl:=hp.nili_inv
    | (obtain⟨t1,p1,rfl⟩:=hp.ifc_inv)
    | (obtain⟨vs,hl,rfl, -⟩:=hp.fn_inv)
  all_goals
   first
    | obtain rfl:=hq.nils_inv
    | (obtain⟨b,o,cap,vals,a,rfl, -⟩:=hq.sl_inv)
    | (obtain⟨b,cap,a, -, -, -, -,rfl⟩:=hq.own_inv)
    | obtain rfl:=hq.nilp_inv
    | (obtain⟨b, -,rfl⟩:=hq.ptr_inv)
    | obtain rfl:=hq.nilm_inv
    | (obtain⟨b, -,rfl⟩:=hq.map_inv)
    | obtain rfl:=hq.nilf_inv
    | obtain rfl:=hq.nili_inv
    | (obtain⟨t2,p2,rfl⟩:=hq.ifc_inv)
    | (obtain⟨vs,hl,rfl, -⟩:=hq.fn_inv)
  all_goals
   refine⟨key _ fun n=>?_,by simp,by simp,by simp,by simp,by simp,by simp⟩
   simp[Op.equalIn,run_underlying h2]
theorem Zib (hE : TOk E P) {ca cb : List PV} {va vb : Array Value} (ha : va.size = ca.length) (hva : ∀i (hi : i < ca.length), V g (ca[i]) (va[i]'(by omega))) (hb : vb.size = cb.length) (hvb : ∀i (hi : i < cb.length), V g (cb[i]) (vb[i]'(by omega))) (d : Nat) :
  ∀(fs:List Field) (c:Bool),(fs.all fun f=>f.name != "_")=true→Zm1 E ca cb (fs.map fun f=>(f.offset,f.type))=some c→(Op.eqFields (d+1) va vb fs).run P w= .ok c w
 | [],c,_,h=>by simp only[List.map_nil,Zm1,Option.some.injEq]at h;subst h;simp[Op.eqFields]
 |f::fs,c,hn,h=>by simp only[List.all_cons,Bool.and_eq_true,bne_iff_ne]at hn;have ih:=Zib hE ha hva hb hvb d fs;simp only[List.map_cons,Zm1]at h;split at h;{rename_i ti ht;obtain⟨i,D,z,h1,h2,h3,rfl⟩:=hE.spec ht;simp only at h;split at h;{rename_i x y htk e1 e2;have htk:=YE htk;subst htk;obtain⟨v1,r1,V1⟩:=U3 (w:=w) hE ha hva e1;obtain⟨v2,r2,V2⟩:=U3 (w:=w) hE hb hvb e2;obtain⟨b1,rfl,rfl⟩:=V1.str_inv;obtain⟨b2,rfl,rfl⟩:=V2.str_inv;split at h;{rename_i c' hc;cases h;have ih:=ih c' hn.2 hc;simp only[Op.eqFields,if_pos hn.1,Sem.run_bind,r1,r2,Result.andThen_ok,run_equalIn_string w d f.type b1 b2 h2,Sem.run_ite];rw[ByteArray.toList_eq,ByteArray.toList_eq];by_cases e:b1.data.toList=b2.data.toList;{simp[e,ih]};{have e2:b1.data≠b2.data:=fun h=>e (by rw[h]);simp[e,e2]}};{cases h}};{rename_i k x k1 x1 k2 x2 htk e1 e2;have htk:=QY htk;subst htk;obtain⟨v1,r1,V1⟩:=U3 (w:=w) hE ha hva e1;obtain⟨v2,r2,V2⟩:=U3 (w:=w) hE hb hvb e2;obtain rfl:=V1.int_inv;obtain rfl:=V2.int_inv;split at h;{rename_i hk;subst hk;split at h;{rename_i c' hc;cases h;have ih:=ih c' hn.2 hc;simp only[Op.eqFields,if_pos hn.1,Sem.run_bind,r1,r2,Result.andThen_ok,run_equalIn_int w d f.type _ _ _ _ h2,Sem.run_ite];by_cases e:x1=x2;{simp[e,ih]};{simp[e]}};{cases h}};{cases h}};{cases h}};{cases h}
theorem Zl7 (hE:TOk E P) (ht:E.T t=some ti) {fs:List (Nat×TypeId)} (htk:ti.tk= .struct fs) (hQ:E.Q t=true) {ca cb:List PV} {a:Value} (hp:V g (.agg ca) a) (hq:V g (.agg cb) c) {b:Bool} (h:Zm1 E ca cb fs=some b) (op:BinOp) (x y:Operand):(eqGuard op t x y a c).run P w= .ok () w∧(binOp .eql t a c).run P w= .ok (.bool b) w∧(binOp .neq t a c).run P w= .ok (.bool !b) w:=by
 obtain⟨i,D,z,h1,h2,h3,rfl⟩:=hE.spec ht;simp only at htk;obtain⟨A,rfl,rfl⟩:=Vg htk;have hq2:=hE.Q t hQ;simp only[qOk,Bool.and_eq_true,Bool.not_eq_true']at hq2;have hf:P.fieldsOf t=A:=by simp only[Program.fieldsOf,h2]
 obtain⟨va,ha,rfl,hva⟩:=hp.agg_inv;obtain⟨vb,hb,rfl,hvb⟩:=hq.agg_inv;have hn:=hq2.2.2;rw[hf]at hn;have hr:=Zib (w:=w) hE ha hva hb hvb 9998 A.toList b hn h;have he:=run_equalIn_agg (P:=P) w 9999 t va vb (by rw[hf];exact h2) hq2.1;rw[hf,hr]at he;refine⟨run_eqGuard_agg w op t x y va vb hq2.2.1,?_,?_⟩;{rw[run_eql_struct,he];rfl};{rw[run_neq_struct,he];rfl}
theorem Zp8 (hE:TOk E P) {a:Value} (hp:V g p a) (hq:V g q c) (x y:Operand) {r:PV} (h:XM E op t p q=some r):∃v,(do eqGuard op t x y a c;binOp op t a c:Sem Value).run P w= .ok v w∧V g r v:=by unfold XM at h;split at h;{rename_i k n k' m;obtain rfl:=hp.int_inv;obtain rfl:=hq.int_inv;have hg:(eqGuard op t x y (.int k n) (.int k' m)).run P w= .ok () w:=Vz _ _ _ _ _ _ (fun _ _ h=>by cases h) (fun h=>by cases h);split at h;{obtain⟨v,hr,hv⟩:=Zfm (g:=g) (P:=P) (w:=w) (k':=k') h t;exact⟨v,by simp[hg,hr],hv⟩};{obtain⟨v,hr,hv⟩:=Zfm (g:=g) (P:=P) (w:=w) (k':=k') h t;exact⟨v,by simp[hg,hr],hv⟩};{rename_i h1 h2;split at h;{rename_i e;subst e;obtain⟨v,hr,hv⟩:=ZkO (g:=g) (P:=P) (w:=w) h h1 h2 t;exact⟨v,by simp[hg,hr],hv⟩};{cases h}}};{rename_i s s';obtain⟨b1,rfl,rfl⟩:=hp.str_inv;obtain⟨b2,rfl,rfl⟩:=hq.str_inv;have hg:(eqGuard op t x y (.string b1) (.string b2)).run P w= .ok () w:=Vz _ _ _ _ _ _ (fun _ _ h=>by cases h) (fun h=>by cases h);obtain⟨v,hr,hv⟩:=Zqh (g:=g) (P:=P) (w:=w) h t;exact⟨v,by simp[hg,hr],hv⟩};{split at h;{obtain⟨b,hb,rfl⟩:=Option.map_eq_some_iff.1 h;unfold ZoC at hb;split at hb;{rename_i ti ht;split at hb;{rename_i htk _ _;split at hb;{rename_i hQ;obtain⟨g1,g2,g3⟩:=Zl7 (w:=w) hE ht htk hQ hp hq hb .eql x y;exact⟨.bool (b),by simp[g1,g2],.pure _ _ (.bool _)⟩};{cases hb}};{obtain⟨hr,n1,n2,n3,n4,n5,n6⟩:=ZfE (w:=w) hE ht hp hq hb;refine⟨.bool (b),?_,.pure _ _ (.bool _)⟩;have hg:(eqGuard .eql t x y a c).run P w= .ok () w:=Vz _ _ _ _ _ _ (fun u _ h=>(n3 u h).elim) (fun h=>(n4 h).elim);(have e:binOp .eql t a c=(do pure (.bool (← Op.equal t a c))):=by cases a<;>simp_all[binOp]);simp[hg,e,hr]}};{cases hb}};{obtain⟨b,hb,rfl⟩:=Option.map_eq_some_iff.1 h;unfold ZoC at hb;split at hb;{rename_i ti ht;split at hb;{rename_i htk _ _;split at hb;{rename_i hQ;obtain⟨g1,g2,g3⟩:=Zl7 (w:=w) hE ht htk hQ hp hq hb .neq x y;exact⟨.bool (!b),by simp[g1,g3],.pure _ _ (.bool _)⟩};{cases hb}};{obtain⟨hr,n1,n2,n3,n4,n5,n6⟩:=ZfE (w:=w) hE ht hp hq hb;refine⟨.bool (!b),?_,.pure _ _ (.bool _)⟩;have hg:(eqGuard .neq t x y a c).run P w= .ok () w:=Vz _ _ _ _ _ _ (fun u _ h=>(n3 u h).elim) (fun h=>(n4 h).elim);(have e:binOp .neq t a c=(do pure (.bool (!(← Op.equal t a c)))):=by cases a<;>simp_all[binOp]);simp[hg,e,hr]}};{cases hb}};{cases h}}
theorem Zom (hE:TOk E P) {a:Value} (hp:V g p a) (hq:V g q c) (x y:Operand) {r:PV} (h:Zoo E op t y p q=some r):∃v,(do eqGuard op t x y a c;binOp op t a c:Sem Value).run P w= .ok v w∧V g r v:=by unfold Zoo at h;split at h;{obtain rfl:=hp.nili_inv;obtain rfl:=hq.nili_inv;unfold ZtI at h;split at h;{rename_i cv;split at h;{rename_i ti ht;obtain⟨i,d,z,h1,h2,h3,rfl⟩:=hE.spec ht;simp only at h;(have key:VT d=TK.iface→(Op.equal t .nilIface .nilIface).run P w= .ok true w:=by intro h9;obtain⟨f1,hd⟩:=Zgi h9;subst hd;(have k2:∀n,(Op.equalIn (n+1) t .nilIface .nilIface).run P w= .ok true w:=fun n=>by simp[Op.equalIn,run_underlying h2]);exact k2 9999);split at h;{rename_i h9;cases h;(have hg:(eqGuard .eql t x (.const cv) .nilIface .nilIface).run P w= .ok () w:=by simp[eqGuard]);have e:binOp .eql t .nilIface .nilIface=(do pure (.bool (← Op.equal t .nilIface .nilIface))):=rfl;exact⟨.bool true,by simp[hg,e,key h9],.pure _ _ (.bool _)⟩};{rename_i h9;cases h;(have hg:(eqGuard .neq t x (.const cv) .nilIface .nilIface).run P w= .ok () w:=by simp[eqGuard]);have e:binOp .neq t .nilIface .nilIface=(do pure (.bool (!(← Op.equal t .nilIface .nilIface)))):=rfl;exact⟨.bool false,by simp[hg,e,key h9],.pure _ _ (.bool _)⟩};{cases h}};{cases h}};{cases h}};{exact Zp8 hE hp hq x y h}
theorem Zij:∀{l:List PV} {vs:List Value} {p q:PV} {v:Value},VL g l vs→V g p v→Zi9 l p=some q→∃u,(vs.foldlM Builtin.max2 v).run P w= .ok u w∧V g q u
 | [],vs,p,q,v,hl,hp,h=>by
  have:vs= []:=by have:=hl.1;simpa using this
  subst this;simp only[Zi9,Option.some.injEq]at h;subst h;exact⟨v,by simp,hp⟩
 |x::l,vs,p,q,v,hl,hp,h=>by
  cases vs with
  | nil=>have:=hl.1;simp at this
  | cons u vs=>have h0:V g x u:=hl.2 0 (by simp) (by simp);have hl':VL g l vs:=⟨by have:=hl.1;simpa using this,fun i hi hj=>hl.2 (i+1) (by simpa using hi) (by simpa using hj)⟩;unfold Zi9 at h;split at h;{cases ‹_::_= []›};{rename_i k y r k' z e;cases e;obtain rfl:=h0.int_inv;obtain rfl:=hp.int_inv;obtain⟨u,hu,hq⟩:=Zij hl' (.pure _ _ (.int _ _)) h;exact⟨u,by simpa[List.foldlM_cons,Builtin.max2] using hu,hq⟩};{cases h}
theorem ZiS:∀{l:List PV} {vs:List Value} {p q:PV} {v:Value},VL g l vs→V g p v→ZjT l p=some q→∃u,(vs.foldlM Builtin.min2 v).run P w= .ok u w∧V g q u
 | [],vs,p,q,v,hl,hp,h=>by
  have:vs= []:=by have:=hl.1;simpa using this
  subst this;simp only[ZjT,Option.some.injEq]at h;subst h;exact⟨v,by simp,hp⟩
 |x::l,vs,p,q,v,hl,hp,h=>by
  cases vs with
  | nil=>have:=hl.1;simp at this
  | cons u vs=>have h0:V g x u:=hl.2 0 (by simp) (by simp);have hl':VL g l vs:=⟨by have:=hl.1;simpa using this,fun i hi hj=>hl.2 (i+1) (by simpa using hi) (by simpa using hj)⟩;unfold ZjT at h;split at h;{cases ‹_::_= []›};{rename_i k y r k' z e;cases e;obtain rfl:=h0.int_inv;obtain rfl:=hp.int_inv;obtain⟨u,hu,hq⟩:=ZiS hl' (.pure _ _ (.int _ _)) h;exact⟨u,by simpa[List.foldlM_cons,Builtin.min2] using hu,hq⟩};{cases h}
theorem Wc {s:Sem Value} {H':Heap} (hr:∀v w',s.run P w= .ok v w'→r= .ok (.value v) w') (h:∃v w' g',s.run P w= .ok v w'∧V g' p v∧Inv g' H' w'∧Keep g H w g' H' w'):OpOk g H w r p H':=by obtain⟨v,w',g',a,b,c,d⟩:=h;exact⟨_,v,w',g',hr _ _ a,.inl rfl,b,c,d⟩
theorem YC {s:Sem Value} (hi:Inv g H w) (hr:∀v w',s.run P w= .ok v w'→r= .ok (.value v) w') (h:∃v,s.run P w= .ok v w∧V g p v):OpOk g H w r p H:=by obtain⟨v,a,b⟩:=h;exact⟨_,v,w,g,hr _ _ a,.inl rfl,b,hi,.refl _ _ _⟩
theorem ZcL {s:Sem Unit} {H':Heap} (hr:∀w',s.run P w= .ok () w'→r= .ok .skip w') (h:∃w',s.run P w= .ok () w'∧Inv g H' w'∧Keep g H w g H' w'):OpOk g H w r .undef H':=by obtain⟨w',a,c,d⟩:=h;exact⟨_,undef,w',g,hr _ a,.inr ⟨rfl,rfl⟩,.pure _ _ (.undef _),c,d⟩
theorem ZpO (hρ : ∀x, V g (ρa x) (ρ x)) (ps : Array (Nat × Operand)) :
  PL g (ps.toList.map fun p=>(p.1,ρa p.2)) (ps.map fun x=>(x.1,ρ x.2)).toList:=
 ⟨by simp,fun i hi hj=>by simpa using hρ _⟩
theorem ZoS (hρ : ∀x, V g (ρa x) (ρ x)) (ps : Array Operand) :
  VL g (ps.toList.map ρa) (ps.map ρ).toList:=⟨by simp,fun i hi hj=>by simpa using hρ _⟩
theorem ZeK (hρ:∀x,V g (ρa x) (ρ x)) (o:Option Operand):ZmE g (ZbE ρa o) (o.map ρ):=by
 cases o with
 |none=>trivial
 |some x=>exact hρ x
theorem Zku (hE:TOk E P) (hi:Inv g H w) {a:Value} (ha:V g x a) {H':Heap} (h:Zab E t x H=some (q,H')):∃v w',(Builtin.clear_ #[t] ty #[a]).run P w= .ok v w'∧V g q v∧Inv g H' w'∧Keep g H w g H' w':=by
 unfold Zab at h;split at h
 ·rename_i ti id es ix len ht;obtain⟨i,d,z,h1,h2,h3,rfl⟩:=hE.spec ht;simp only at h;split at h
  ·rename_i e hd;have hd:=Yg hd;subst hd;split at h
   ·rename_i ei hei;obtain⟨i',d',z',h1',h2',h3',rfl⟩:=hE.spec hei;split at h
    ·rename_i es' el hb;rw[Zm]at hb;simp only at h;split at h
     ·rename_i hcond;obtain⟨rfl,hz,hes,hpos,hro,hle,hco⟩:=hcond;subst hes;cases h;obtain⟨b,cap,a,hσ,hcap,haa,hsp,hκ,rfl⟩:=ha.own_inv2;obtain⟨b',c,T,g1,g2,g3,g4,g5,g6⟩:=hi.bx _ _ _ hb;rw[hσ]at g1;cases g1;by_cases hl0:len=0;{subst hl0;(have eH:({H with bx:=H.bx.set id (.cells i'.size (el.take ix++(List.replicate 0 (ofConst z').cells++el.drop (ix+0))))}:Heap)=H:=by(have:H.bx.set id (.cells i'.size (el.take ix++(List.replicate 0 (ofConst z').cells++el.drop (ix+0))))=H.bx:=by refine List.ext_getElem? fun k=>?_;rw[List.getElem?_set];split;{rename_i e;subst e;split;{simp[hb]};{rename_i hh;simp at hh;rw[List.getElem?_eq_none hh]at hb;cases hb}};{rfl});rw[this]);rw[eH];refine⟨.tuple #[],w,?_,.pure _ _ (.tup _ _ rfl fun i hi=>absurd hi (by simp)),hi,.refl ..⟩;simp[Builtin.clear_,run_underlying h2]}
      ·have hpl : 0 < len := Nat.pos_of_ne_zero hl0;obtain rfl:=haa (.inl hpl);obtain⟨r1,r2,r3⟩:=Zea (g:=g) z' len i'.size hz hpos;(have hzs:z'.cells.size=i'.size:=by have:=(VL.zero (g:=g) z' (by omega)).1;simp at this;omega);(have hasz:((Array.range (len*i'.size)).map (z'.cells[· % z'.cells.size]!)).toList.length=len*i'.size:=by simp);(have hfit:ix*i'.size+((Array.range (len*i'.size)).map (z'.cells[· % z'.cells.size]!)).toList.length≤c.size:=by rw[hasz, ← Nat.add_mul];exact Nat.le_trans (Nat.mul_le_mul_right _ hle) g4);(have hone:∀v∈((Array.range (len*i'.size)).map (z'.cells[· % z'.cells.size]!)).toList,v.oneCell'=true:=fun v hv=>by obtain⟨k,hk,rfl⟩:=List.mem_iff_getElem.1 hv;rw[hasz]at hk;have hk1:k / i'.size<len:=Nat.div_lt_of_lt_mul (by rw[Nat.mul_comm];exact hk);have hk2:k % i'.size<i'.size:=Nat.mod_lt _ hpos;obtain⟨v,q1,q2⟩:=r3 (k / i'.size) (by simpa using hk1) (k % i'.size) (by simp;omega);(have ek:k / i'.size*i'.size+k % i'.size=k:=by rw[Nat.mul_comm];exact Nat.div_add_mod _ _);rw[ek]at q1;(have:((Array.range (len*i'.size)).map (z'.cells[· % z'.cells.size]!)).toList[k]'(by rw[hasz];exact hk)=v:=by rw[Array.getElem?_eq_getElem (by simpa using hk)]at q1;simpa using q1);rw[this];refine XR q2 (List.all_eq_true.1 hco _ ?_);simp);have hst:=run_storeCells_at (P:=P) b (ix*i'.size) T _ 0 c w g2 hfit hone;rw[Nat.add_zero]at hst;(have hrun:(Builtin.clear_ #[t] ty #[.slice (some ⟨b,ix*i'.size,none⟩) len cap]).run P w= .ok (.tuple #[]) (w.setRow b (c.toList.take (ix*i'.size)++((Array.range (len*i'.size)).map (z'.cells[· % z'.cells.size]!)).toList++c.toList.drop (ix*i'.size+((Array.range (len*i'.size)).map (z'.cells[· % z'.cells.size]!)).toList.length)).toArray):=by(have hZ:Builtin.zeroCells z'.cells len=(Array.range (len*i'.size)).map (z'.cells[· % z'.cells.size]!):=by unfold Builtin.zeroCells;rw[hzs]);generalize w.setRow b (c.toList.take (ix*i'.size)++((Array.range (len*i'.size)).map (z'.cells[· % z'.cells.size]!)).toList++c.toList.drop (ix*i'.size+((Array.range (len*i'.size)).map (z'.cells[· % z'.cells.size]!)).toList.length)).toArray=W at hst;rw[← hZ]at hst;simp only[Builtin.clear_];obtain⟨m,rfl⟩:∃m,len=m+1:=⟨len-1,by omega⟩;simp[run_underlying h2,XD h1' h3'];rw[hst];rfl);generalize hZ:((Array.range (len*i'.size)).map (z'.cells[· % z'.cells.size]!)).toList=Z at *;refine⟨.tuple #[],_,hrun,.pure _ _ (.tup _ _ rfl fun i hi=>absurd hi (by simp)),?_⟩;refine Uc hi hro hb trivial hσ g6 (fun k hk=>setRow_other w b k _ hk) (by simp) (setRow_heap w b c _ T _ g2) (Xa w b c _ T _ g2) ?_ (fun es h=>by cases h) (fun c1 T1 m1 h=>by
        cases h
        rw[Ya _ _ _ hfit]
        exact hi.rm id b c T _ ⟨_,hb,trivial⟩ hσ g2) ⟨by simp,by simp⟩
       intro es0 el0 e0;cases e0;(have hlen:(el.take ix++(List.replicate len (ofConst z').cells++el.drop (ix+len))).length=el.length:=by simp;omega);have hat : ∀i (hi : i < (el.take ix ++ (List.replicate len (ofConst z').cells ++ el.drop (ix + len))).length), (ix ≤ i ∧ i < ix + len ∧ (el.take ix ++ (List.replicate len (ofConst z').cells ++ el.drop (ix + len)))[i] = (ofConst z').cells) ∨
         ((i<ix∨ix+len≤i)∧∃hi':i<el.length,(el.take ix++(List.replicate len (ofConst z').cells++el.drop (ix+len)))[i]=el[i]):=fun i hi=>by
        rw[hlen]at hi
        by_cases c1:i<ix
        · refine .inr ⟨.inl c1, hi, ?_⟩
          rw[List.getElem_append_left (by simp;omega)]
          simp
        · by_cases c2 : i < ix + len
          · refine .inl ⟨by omega, c2, ?_⟩
            rw[List.getElem_append_right (by simp;omega),List.getElem_append_left (by simp;omega)]
            simp
          · refine .inr ⟨.inr (by omega), hi, ?_⟩
            rw[List.getElem_append_right (by simp;omega),List.getElem_append_right (by simp;omega)]
            simp only[List.getElem_drop]
            congr 1
            simp;omega
       refine⟨_,T,rfl,fun i hi=>?_,?_,fun i hi j hj=>?_⟩;{rcases hat i hi with⟨_,_,e⟩|⟨_,hi',e⟩;{rw[e];exact hz};{rw[e];exact g3 i hi'}};{rw[Ya _ _ _ hfit,hlen];exact g4};{rw[XU _ _ _ hfit];rcases hat i hi with⟨a1,a2,e⟩|⟨a1,hi',e⟩;{(have hj':j<i'.size:=by rw[e,hz]at hj;exact hj);have hm:=Nat.mul_le_mul_right i'.size a1;have hm2:=Nat.mul_le_mul_right i'.size (show i+1≤ix+len from a2);rw[Nat.add_mul,Nat.one_mul]at hm2;rw[Nat.add_mul]at hm2;rw[if_neg (by omega),if_pos (by omega)];obtain⟨v,q1,q2⟩:=r3 (i-ix) (by simp;omega) j (by simp;omega);refine⟨v,?_,?_⟩;{(have:i*i'.size+j-ix*i'.size=(i-ix)*i'.size+j:=by rw[Nat.sub_mul];omega);rw[this, ← hZ,Array.getElem?_toList];exact q1};{(have:((el.take ix++(List.replicate len (ofConst z').cells++el.drop (ix+len)))[i])[j]=(ofConst z').cells[j]'(by rw[hz];exact hj'):=by simp only[e]);rw[this];simpa using q2}};{(have hj':j<i'.size:=by rw[e,g3 i hi']at hj;exact hj);obtain⟨v,q1,q2⟩:=g5 i hi' j (by rw[g3 i hi'];exact hj');(have e2:((el.take ix++(List.replicate len (ofConst z').cells++el.drop (ix+len)))[i])[j]=(el[i])[j]'(by rw[g3 i hi'];exact hj'):=by simp only[e]);refine⟨v,?_,by rw[e2];exact q2⟩;rcases a1 with a1|a1;{have:=Nat.mul_le_mul_right i'.size (show i+1≤ix from a1);rw[Nat.add_mul,Nat.one_mul]at this;rw[if_pos (by omega)];exact q1};{have:=Nat.mul_le_mul_right i'.size a1;rw[Nat.add_mul]at this;rw[if_neg (by omega),if_neg (by omega)];exact q1}}}
     {cases h}
    {cases h}
   {cases h}
  {cases h}
 {cases h}
theorem ZgW (hE:TOk E P) (hi:Inv g H w) {own:Bool} {b:Builtin} {ts:Array TypeId} {cs:Array Bool} {args:List PV} {vs:Array Value} (hv:VL g args vs.toList) {H':Heap} (h:Z9 E own b ts.toList args H=some (p,H')):OpOk g H w ((builtin b ts ty cs vs).run P w) p H':=by
 unfold Z9 at h;split at h
 ·rename_i ts' args' t x hts;obtain⟨q,hq,e⟩:=Option.map_eq_some_iff.1 h;cases e;obtain rfl:ts= #[t]:=by apply Array.ext';simpa using hts
  obtain⟨a,rfl⟩:∃a,vs= #[a]:=by have:=hv.1;simp at this;exact⟨vs[0],by apply Array.ext (by simpa using this);intro i h1 h2;simp at h2;subst h2;rfl⟩
  have ha:V g x a:=hv.2 0 (by simp) (by simp);exact YC (P:=P) hi (fun v w' hr=>by simp[builtin,hr]) (Zp5 (ty:=ty) hE hi ha hq)
 ·rename_i ts' args' t u s x hts;obtain rfl:ts= #[t,u]:=by apply Array.ext';simpa using hts
  obtain⟨a,c,rfl⟩:∃a c,vs= #[a,c]:=by have:=hv.1;simp at this;exact⟨vs[0],vs[1],by apply Array.ext (by simpa using this);intro i h1 h2;simp at h2;rcases i with _|_|i<;>first|rfl|omega⟩
  have ha:V g s a:=hv.2 0 (by simp) (by simp);have hc:V g x c:=hv.2 1 (by simp) (by simp);split at h;{exact Wc (P:=P) (fun v w' hr=>by simp[builtin,hr]) (Zdl (ty:=ty) hE hi ha hc h)};{exact Wc (P:=P) (fun v w' hr=>by simp[builtin,hr]) (Zda (ty:=ty) hE hi ha hc h)}
 ·rename_i ts' args' x r;obtain⟨q,hq,e⟩:=Option.map_eq_some_iff.1 h;cases e;obtain⟨a,vr,hvs⟩:∃a vr,vs.toList=a::vr:=by
   cases hc:vs.toList with
   | nil=>have:=hv.1;rw[hc]at this;simp at this
   | cons a vr=>exact⟨a,vr,rfl⟩
  rw[hvs]at hv;exact YC (P:=P) hi (fun v w' hr=>by simp[builtin,hr]) (s:=Builtin.max_ ts ty vs) (by
   obtain⟨u,h1,h2⟩:=Zij (P:=P) (w:=w) (l:=r) (vs:=vr) ⟨by have:=hv.1;simpa using this,fun i hi hj=>hv.2 (i+1) (by simpa using hi) (by simpa using hj)⟩ (hv.2 0 (by simp) (by simp)) hq
   exact⟨u,by simp only[Builtin.max_,hvs];exact h1,h2⟩)
 ·rename_i ts' args' x r;obtain⟨q,hq,e⟩:=Option.map_eq_some_iff.1 h;cases e;obtain⟨a,vr,hvs⟩:∃a vr,vs.toList=a::vr:=by
   cases hc:vs.toList with
   | nil=>have:=hv.1;rw[hc]at this;simp at this
   | cons a vr=>exact⟨a,vr,rfl⟩
  rw[hvs]at hv;exact YC (P:=P) hi (fun v w' hr=>by simp[builtin,hr]) (s:=Builtin.min_ ts ty vs) (by
   obtain⟨u,h1,h2⟩:=ZiS (P:=P) (w:=w) (l:=r) (vs:=vr) ⟨by have:=hv.1;simpa using this,fun i hi hj=>hv.2 (i+1) (by simpa using hi) (by simpa using hj)⟩ (hv.2 0 (by simp) (by simp)) hq
   exact⟨u,by simp only[Builtin.min_,hvs];exact h1,h2⟩)
 ·rename_i ts' args' t x hts;obtain rfl:ts= #[t]:=by apply Array.ext';simpa using hts
  obtain⟨a,rfl⟩:∃a,vs= #[a]:=by have:=hv.1;simp at this;exact⟨vs[0],by apply Array.ext (by simpa using this);intro i h1 h2;simp at h2;subst h2;rfl⟩
  have ha:V g x a:=hv.2 0 (by simp) (by simp);obtain⟨v,w',h1,h2,h3,h4⟩:=Zku (ty:=ty) hE hi ha h;exact Wc (P:=P) (fun v w' hr=>by simp[builtin,hr]) ⟨v,w',g,h1,h2,h3,h4⟩
 {cases h}
theorem Zqg (hE:TOk E P) (hi:Inv g H w) {own:Bool} (hρ:∀x,V g (ρa x) (ρ x)) {H':Heap} (h:aOp E own ρa o.op H=some (p,H')):OpOk g H w ((execOp ρ o).run P w) p H':=by
 obtain⟨dst,op,ty,pos,after,guard⟩:=o;simp only at h;unfold aOp at h;split at h;{rename_i x;cases h;exact .val _ (by simp[execOp]) (hρ x) hi};{rename_i x;cases h;exact .val _ (by simp[execOp]) (hρ x) hi};{rename_i c a b;split at h;{rename_i t ht;cases h;have hc:=hρ c;rw[ht]at hc;have hb:=hc.bool_inv;refine .val (if t then ρ a else ρ b) (by simp[execOp,hb,asBool]) ?_ hi;cases t;{exact hρ b};{exact hρ a}};{cases h}}
 ·rename_i e;split at h
  ·rename_i ei he;split at h
   ·rename_i hc;cases h;cases htd:E.tyd e with
    | true=>exact Wc (P:=P) (fun v w' hr=>by simp[execOp,hr]) (Zgw hE hi he hc.1 hc.2)
    | false=>exact Wc (P:=P) (fun v w' hr=>by simp[execOp,hr]) (Zko hE hi he hc.1 hc.2)
   {cases h}
  {cases h}
 {rename_i e x;split at h;{rename_i hc;cases h;exact Wc (P:=P) (fun v w' hr=>by simp[execOp,hr]) (Zpc hi (hρ x) hc e)};{cases h}};{rename_i t ps;obtain⟨q,hq,e⟩:=Option.map_eq_some_iff.1 h;cases e;exact YC (P:=P) hi (fun v w' hr=>by simp[execOp,hr]) (ZkM hE (ZpO hρ ps) hq)};{rename_i t n ps;split at h;{rename_i es el hbs;obtain⟨b1,b2⟩:=ZbR (w:=w) hE hi (ZpO hρ ps) hbs;split at h;{cases h;exact Wc (P:=P) (fun v w' hr=>by simp[execOp,hr]) b2};{split at h;{rename_i el' hf;cases h;exact Wc (P:=P) (fun v w' hr=>by simp[execOp,hr]) (b1 el' hf)};{cases h}}};{cases h}};{rename_i t a;obtain⟨q,hq,e⟩:=Option.map_eq_some_iff.1 h;cases e;exact YC (P:=P) hi (fun v w' hr=>by simp[execOp,hr]) (Zi0 hE hi (hρ a) hq)};{rename_i t a x;split at h;{rename_i ti ht;split at h;{rename_i hc;obtain⟨H2,hq,e⟩:=Option.map_eq_some_iff.1 h;cases e;exact ZcL (P:=P) (fun w' hr=>by simp[execOp,hr]) (ZkY hE hi ht (hρ a) (hρ x) hc.1 hc.2.1 hc.2.2 hq)};{cases h}};{cases h}};{rename_i x;split at h;{rename_i hx;cases h;have hc:=hρ x;rw[hx]at hc;obtain⟨b,hb,e⟩:=hc.ptr_inv;exact .val (ρ x) (by simp[execOp,e]) hc hi};{rename_i hx;cases h;have hc:=hρ x;rw[hx]at hc;obtain⟨b,o,vals,_,_,e⟩:=hc.fptr_inv;exact .val (ρ x) (by simp[execOp,e]) hc hi};{rename_i hx;cases h;have hc:=hρ x;rw[hx]at hc;obtain⟨vs,hl,e,_⟩:=hc.fn_inv;exact .val (ρ x) (by simp[execOp,e]) hc hi};{cases h}};{rename_i op' t x y yt;obtain⟨q,hq,e⟩:=Option.map_eq_some_iff.1 h;cases e;exact YC (P:=P) hi (fun v w' hr=>by simp only[execOp,Sem.run_bind,hr,Result.andThen_ok,Sem.run_pure]) (Zom hE (hρ x) (hρ y) x y hq)};{rename_i op' t x;obtain⟨q,hq,e⟩:=Option.map_eq_some_iff.1 h;cases e;exact YC (P:=P) hi (fun v w' hr=>by simp[execOp,hr]) (Zru (hρ x) hq)};{rename_i s d x;obtain⟨q,hq,e⟩:=Option.map_eq_some_iff.1 h;cases e;exact YC (P:=P) hi (fun v w' hr=>by simp[execOp,hr]) (ZnO hE hi.st (hρ x) hq)};{rename_i f fi ca;split at h;{rename_i hf;cases h;(have hf':fi= #[]:=by simpa using hf);subst hf';refine .val (.func (.func f) #[] (ca.map ρ)) (by simp[execOp,Instr.makeFunc]) (.fn f _ _ (by simp) fun i hi=>by simpa using hρ _) hi};{cases h}};{rename_i t;cases h;exact Wc (P:=P) (fun v w' hr=>by simp[execOp,hr]) (Zg5 hi t)};{rename_i t l c;split at h;{exact Wc (P:=P) (fun v w' hr=>by simp[execOp,hr]) (ZcR hE hi (hρ l) (hρ c) h)};{cases h}};{rename_i t x lo hi' mx;obtain⟨q,hq,e⟩:=Option.map_eq_some_iff.1 h;cases e;exact YC (P:=P) hi (fun v w' hr=>by simp[execOp,hr]) (Zlt hE (hρ x) (ZeK hρ lo) (ZeK hρ hi') (ZeK hρ mx) hq)};{rename_i t x f;obtain⟨q,hq,e⟩:=Option.map_eq_some_iff.1 h;cases e;exact YC (P:=P) hi (fun v w' hr=>by simp[execOp,hr]) (Zdc hE (hρ x) hq)};{rename_i t x f;obtain⟨q,hq,e⟩:=Option.map_eq_some_iff.1 h;cases e;exact YC (P:=P) hi (fun v w' hr=>by simp[execOp,hr]) (Zkd hE (hρ x) hq)};{rename_i t x i;obtain⟨q,hq,e⟩:=Option.map_eq_some_iff.1 h;cases e;exact YC (P:=P) hi (fun v w' hr=>by simp[execOp,hr]) (ZdS hE (hρ x) (hρ i) hq)};{rename_i t x i;obtain⟨q,hq,e⟩:=Option.map_eq_some_iff.1 h;cases e;exact YC (P:=P) hi (fun v w' hr=>by simp[execOp,hr]) (Zj9 hE (hρ x) (hρ i) hq)};{rename_i t x i ok;obtain⟨q,hq,e⟩:=Option.map_eq_some_iff.1 h;cases e;exact YC (P:=P) hi (fun v w' hr=>by simp[execOp,hr]) (ZiR hE hi (hρ x) (hρ i) hq)};{rename_i t m k x;obtain⟨H2,hq,e⟩:=Option.map_eq_some_iff.1 h;cases e;exact ZcL (P:=P) (fun w' hr=>by simp[execOp,hr]) (Zdh hE hi (hρ m) (hρ k) (hρ x) hq)};{rename_i x i;split at h;{rename_i vs hx;rw[Zm]at h;obtain⟨q,hq,e⟩:=Option.map_eq_some_iff.1 h;cases e;have hc:=hρ x;rw[hx]at hc;obtain⟨ws,hl,e,hv⟩:=hc.tup_inv;have hlt:=Zz hq;have hv':=hv i hlt;rw[VV hq]at hv';(have hlt':i<ws.size:=by omega);exact .val (ws[i]) (by simp[execOp,e,Instr.extract,hlt']) hv' hi};{cases h}};{rename_i b args ats;exact ZgW (w:=w) (ty:=ty) (cs:=_) hE hi (ZoS hρ args) h};{cases h}
end
abbrev unset:PV:= .tup []
structure Rel (E:Env) (g:Gh) (n:Nat) (tm:TM) (H:Heap) (a:Act) (w:World):Prop where
 sz:n≤a.tmps.size
 tm:∀t,V g (tm t) (a.tmps.getD t undef)
 inv:Inv g H w
 gl:GOk E g
 df:a.defers= []
theorem V.unset (g:Gh):V g unset Go.undef:= .tup _ _ rfl fun i hi=>absurd hi (by simp)
section
variable {E:Env} {P:Program} {g:Gh} {n:Nat} {tm:TM} {H:Heap} {a:Act} {w:World}
theorem Rel.eval (h:Rel E g n tm H a w) (x:Operand):V g (Zh E tm x) (a.eval x):=by
 cases x with
 |tmp t=>exact h.tm t
 |const v=>exact .pure _ _ (V0.ofConst _ v)
 |global k=>simp only[Zh,Act.eval];split;{rename_i cs hc;exact .pure _ _ (h.gl.1 k cs hc)};{exact .pure _ _ (.undef _)}
 |func f=>exact .fn f [] #[] rfl fun i hi=>absurd hi (by simp)
theorem Rel.put (h:Rel E g n tm H a w) {g':Gh} {H':Heap} {w':World} (hi:Inv g' H' w') (k:Keep g H w g' H' w') {d:Option Tmp} (hd:∀t,d=some t→t<n) {p:PV} {v:Value} (hv:V g' p v):Rel E g' n (ZN tm d p) H' (a.put d v) w':=by
 refine⟨?_,fun t=>?_,hi,⟨fun x cs hx=>(h.gl.1 x cs hx).mono k.le.S,fun m=>h.gl.2.1 (k.le.mono.symm.trans m),fun x q hx=>let ⟨t,e,hq⟩:=h.gl.2.2 x q hx;⟨t,k.le.S _ _ _ e,hq⟩⟩,?_⟩;{have:=h.sz;cases d<;>simpa[Act.put] using this}
 ·cases d with
  | none=>exact(h.tm t).mono k.le
  | some d=>have hlt:d<a.tmps.size:=Nat.lt_of_lt_of_le (hd d rfl) h.sz;simp only[ZN,Act.put];by_cases e:t=d;{subst e;rw[if_pos rfl];simpa[Array.getD,hlt] using hv};{rw[if_neg e];have:=(h.tm t).mono k.le;(have e2:(a.tmps.setIfInBounds d v).getD t undef=a.tmps.getD t undef:=by simp only[Array.getD_eq_getD_getElem?,Array.getElem?_setIfInBounds];rw[if_neg (Ne.symm e)]);rw[e2];exact this}
 {cases d<;>simp[Act.put,h.df]}
def UponCall (P:Program) (K:Value→World→Prop):Result Next→Prop
 | .ok (.value v) w=>K v w
 | .ok (.enter f args) w=>Calls P f args w fun e w'=>∃v,e= .returned v∧K v w'
 |_=>False
def CallOk (E:Env) (P:Program) (f:FuncId) (args:List PV) (H:Heap) (r:PV) (H':Heap):Prop:=
 ∀g w (vals:Array Value),Inv g H w→GOk E g→VL g args vals.toList→UponCall P (fun v w'=>∃g',V g' r v∧Inv g' H' w'∧Keep g H w g' H' w') ((callFunc f vals).run P w)
theorem UponCall.mono {K K':Value→World→Prop} (h:∀v w,K v w→K' v w) {r:Result Next} (x:UponCall P K r):UponCall P K' r:=by unfold UponCall at *;split;{exact h _ _ x};{exact Calls.mono x fun e w' ⟨v,e1,e2⟩=>⟨v,e1,h _ _ e2⟩};{rename_i h1 h2;split at x;{exact(h1 _ _ rfl).elim};{exact(h2 _ _ _ rfl).elim};{exact x}}
noncomputable def Zoz (E:Env) (call:FuncId→List PV→Heap→Option (PV×Heap)) (own:Tmp→Bool) (tm:TM) (o:Oper) (H:Heap):Option (PV×Heap):=
 match o.op with
 | .call { callee := .value f, args, .. } => match Zh E tm f with
   | .fn g caps=>call g (args.toList.map (Zh E tm)++caps) H
   | _=>none
 |op=>aOp E (own (o.dst.getD 0)) (Zh E tm) op H
inductive OpTo (E:Env) (P:Program) (own:Tmp→Bool) (tm:TM) (o:Oper) (H:Heap):PV→Heap→Prop
 |op (p:PV) (H':Heap) (h:aOp E (own (o.dst.getD 0)) (Zh E tm) o.op H=some (p,H')):OpTo E P own tm o H p H'
 | call (f : Operand) (args : Array Operand) (ats : Array TypeId) (k : FuncId) (caps : List PV) (p : PV) (H' : Heap) (ho : o.op = .call { callee := .value f, args, argTypes := ats })
     (hf:Zh E tm f= .fn k caps) (h:CallOk E P k (args.toList.map (Zh E tm)++caps) H p H'):OpTo E P own tm o H p H'
theorem V8 (hE:TOk E P) {own:Tmp→Bool} {H':Heap} (h:OpTo E P own tm o H p H') (hr:Rel E g n tm H a w) {next:Act→World→Prop} {Q:Exit→Act→World→Prop} (hn:∀v w' g',V g' p v→Inv g' H' w'→Keep g H w g' H' w'→next (a.put o.dst v) w'):o.wp P a w next Q:=by
 unfold Oper.wp;cases h with
 |op _ _ h=>obtain⟨nx,v,w',g',e,e2,hv,hi,hk⟩:=Zqg (w:=w) hE hr.inv hr.eval h;rw[e];rcases e2 with rfl|⟨rfl,rfl⟩;{exact hn _ _ _ hv hi hk};{exact hn _ _ _ hv hi hk}
 |call f args ats k caps _ _ ho hf h=>
  have hfv:=hr.eval f;rw[hf]at hfv;obtain⟨vs,hl,e,hvs⟩:=hfv.fn_inv;have hargs:VL g (args.toList.map (Zh E tm)++caps) (args.map a.eval++vs).toList:=by rw[Array.toList_append];refine(ZoS hr.eval args).append ⟨by simpa using hl,fun i hi hj=>by simpa using hvs i hi⟩
  have hu:=h g w (args.map a.eval++vs) hr.inv hr.gl hargs;have hx:(execOp a.eval o).run P w=(callFunc k (args.map a.eval++vs)).run P w:=by obtain⟨dst,op,ty,pos,after,guard⟩:=o;simp only at ho;subst ho;simp[execOp,resolve,e,Deferred.ofValue,invoke]
  rw[hx];generalize (callFunc k (args.map a.eval++vs)).run P w=r at hu;unfold UponCall at hu;split at hu;{obtain⟨g',a1,a2,a3⟩:=hu;exact hn _ _ _ a1 a2 a3};{refine Calls.mono hu fun e w' ⟨v,e1,g',a1,a2,a3⟩=>?_;subst e1;exact hn _ _ _ a1 a2 a3};{exact hu.elim}
noncomputable def Zf (ops:List Oper) (tm:TM) (o:Oper):Option Bool:=
 match o.guard with
 |none=>some true
 | some (j, want) => match nth ops j with
   | some oj => match oj.dst with
     | some d => match tm d with
       | .bool b=>some (b==want)
       | .tup _=>some false
       | _=>none
     | none=>some false
   | none=>some false
theorem YL {ops:Array Oper} {b:Bool} (h:Zf ops.toList tm o=some b) (hr:Rel E g n tm H a w):Region.wanted o (yielded ops a.tmps)=b:=by
 unfold Zf at h;unfold Region.wanted;cases hg:o.guard with
 |none=>simp only[hg,Option.some.injEq]at h;simpa using h
 |some x=>
  obtain⟨j,want⟩:=x;simp only[hg,Zm]at h;simp only[yielded];have e1:ops.toList[j]? = ops[j]? :=by simp
  rw[e1]at h;cases hj:ops[j]? with
  | none=>simp only[hj,Option.some.injEq]at h;subst h;simp
  | some oj=>
   simp only[hj]at h;cases hd:oj.dst with
   | none=>simp only[hd,Option.some.injEq]at h;subst h;simp[hd]
   | some d=>simp only[hd]at h;have hv:=hr.tm d;simp only[Option.bind_some,hd];by_cases hlt:d<a.tmps.size;{(have e2:a.tmps[d]? = some (a.tmps.getD d undef):=by simp[Array.getD,hlt]);rw[e2];split at h;{rename_i b' hb;rw[hb]at hv;rw[hv.bool_inv];simp only[Option.some.injEq]at h;subst h;cases b'<;>cases want<;>rfl};{rename_i vs hb;rw[hb]at hv;obtain⟨_,_,e,_⟩:=hv.tup_inv;rw[e];simp only[Option.some.injEq]at h;subst h;rfl};{cases h}};{have e2:a.tmps[d]? = none:=Array.getElem?_eq_none (Nat.le_of_not_lt hlt);rw[e2];(have e3:a.tmps.getD d undef=undef:=by simp[Array.getD,hlt]);rw[e3]at hv;split at h;{rename_i b' hb;rw[hb]at hv;have:=hv.bool_inv;cases this};{simp only[Option.some.injEq]at h;subst h;rfl};{cases h}}
end
mutual
def under (n:Nat):PV→Bool
 | .ptr id _ _ _=>Nat.blt id n
 | .own id _ _ _=>Nat.blt id n
 | .map id=>Nat.blt id n
 | .agg cs=>ZO n cs
 | .tup cs=>ZO n cs
 | .fn _ cs=>ZO n cs
 |_=>true
def ZO (n:Nat):List PV→Bool
 | []=>true
 |p::r=>under n p&&ZO n r
end
theorem Xr {n:Nat}:∀{l:List PV},ZO n l=true→∀i (hi:i<l.length),under n l[i]=true
 |p::r,h,0,_=>by simp only[ZO,Bool.and_eq_true]at h;exact h.1
 |p::r,h,i+1,hi=>by simp only[ZO,Bool.and_eq_true]at h;exact Xr h.2 i (by simpa using hi)
def Yy (n:Nat):Box→Bool
 | .cells _ el=>el.all (ZO n)
 | .map es=>es.all fun e=>under n e.1&&under n e.2
 | .sp _ cs=>ZO n cs
 | .dead=>true
def Gh.cutσ (g:Gh) (n:Nat):Gh:={g with σ:=fun i=>if i<n then g.σ i else none}
section
variable {g g':Gh} {H H':Heap} {w w':World} {n:Nat}
theorem Xo (h:i<n):(g.cutσ n).σ i=g.σ i:=by simp[Gh.cutσ,h]
theorem Yu (h:(g.cutσ n).σ i=some b):i<n∧g.σ i=some b:=by simp only[Gh.cutσ]at h;split at h;{rename_i hl;exact⟨hl,h⟩};{cases h}
theorem V.cut (x:V g p v):under n p=true→V (g.cutσ n) p v:=by
 induction x with
 |pure p v h=>intro _;exact .pure _ _ h
 |ptr id es ix off b e=>intro h;exact .ptr id es ix off b (by rw[Xo (Nat.le_of_ble_eq_true h)];exact e)
 |own id es ix len b cap a e hc ha hsp hk=>intro h;exact .own id es ix len b cap a (by rw[Xo (Nat.le_of_ble_eq_true h)];exact e) hc ha hsp hk
 |map id b e=>intro h;exact .map id b (by rw[Xo (Nat.le_of_ble_eq_true h)];exact e)
 |tok t es el b o cap e T hT ht=>intro _;exact .tok t es el b o cap e T hT ht
 |agg cs vs hl hv ih=>intro h;exact .agg cs vs hl fun i hi=>ih i hi (Xr h i hi)
 |tup cs vs hl hv ih=>intro h;exact .tup cs vs hl fun i hi=>ih i hi (Xr h i hi)
 |fn f cs vs hl hv ih=>intro h;exact .fn f cs vs hl fun i hi=>ih i hi (Xr h i hi)
theorem UD {l:List Box} {b:Box} (h:(l.take n)[i]? = some b):i<n∧l[i]? = some b:=by rw[List.getElem?_take]at h;split at h;{rename_i hl;exact⟨hl,h⟩};{cases h}
theorem Ve (h:({H with bx:=H.bx.take n}:Heap).liveAt i):i<n∧H.liveAt i:=by obtain⟨b,hb,ha⟩:=h;obtain⟨h1,h2⟩:=UD hb;exact⟨h1,b,h2,ha⟩
theorem Zek (hi:Inv g H w) (hn:n≤H.bx.length) (hro:H.ro≤n) (hu:(H.bx.take n).all (Yy n)=true):Inv (g.cutσ n) {H with bx:=H.bx.take n} w where
 st:=hi.st
 bx id es el h:=by
  obtain⟨hl,h0⟩:=UD h
  obtain⟨b,c,T,h1,h2,h3,h4,h5,h6⟩:=hi.bx id es el h0
  have hb:=List.all_eq_true.1 hu _ (List.mem_of_getElem? h)
  simp only[Yy,List.all_eq_true]at hb
  exact⟨b,c,T,by rw[Xo hl];exact h1,h2,h3,h4,fun i hi' j hj=>let ⟨v,e,x⟩:=h5 i hi' j hj;⟨v,e,x.cut (Xr (hb _ (List.getElem_mem _)) j hj)⟩,h6⟩
 mp id es h:=by
  obtain⟨hl,h0⟩:=UD h
  obtain⟨b,c,T,h1,h2,h3,h4,h5⟩:=hi.mp id es h0
  have hb:=List.all_eq_true.1 hu _ (List.mem_of_getElem? h)
  simp only[Yy,List.all_eq_true,Bool.and_eq_true]at hb
  exact⟨b,c,T,by rw[Xo hl];exact h1,h2,h3,fun i hi'=>let ⟨e,a,x,y⟩:=h4 i hi';⟨e,a,x.cut (hb _ (List.getElem_mem _)).1,y.cut (hb _ (List.getElem_mem _)).2⟩,h5⟩
 sp id T cs h:=by
  obtain⟨hl,h0⟩:=UD h
  obtain⟨b,c,h1,h2,h3,h4,h5⟩:=hi.sp id T cs h0
  have hb:=List.all_eq_true.1 hu _ (List.mem_of_getElem? h)
  simp only[Yy]at hb
  exact⟨b,c,by rw[Xo hl];exact h1,h2,h3,fun j hj=>let ⟨v,e,x⟩:=h4 j hj;⟨v,e,x.cut (Xr hb j hj)⟩,h5⟩
 inj i j b h1 h2 h3 h4:=hi.inj i j b (Ve h1).2 (Ve h2).2 (Yu h3).2 (Yu h4).2
 sd id h:=by
  have h:n≤id:=by simpa[Nat.min_eq_left hn] using h
  simp[Gh.cutσ,Nat.not_lt.2 h]
 td:=hi.td
 tk t b lo hi' h1 h2:=let ⟨a,b,c⟩:=hi.tk t b lo hi' h1 h2;⟨a,b,fun id hl e=>c id (Ve hl).2 (Yu e).2⟩
 tinj:=hi.tinj
 nd:=hi.nd
 lt:=hi.lt
 sz id b h:=hi.sz id b (Yu h).2
 ro:=by simpa[Nat.min_eq_left hn] using hro
 rm id b c T m h1 h2 h3:=hi.rm id b c T m (Ve h1).2 (Yu h2).2 h3
theorem Zgk (hi:Inv g H w) (k:Keep g H w g' H' w'):Keep g H w (g'.cutσ H.bx.length) {H' with bx:=H'.bx.take H.bx.length} w' where
 le:=⟨k.le.S,fun i b h=>by
  have hl:i<H.bx.length:=by
   rcases Nat.lt_or_ge i H.bx.length with h'|h'
   · exact h'
   · rw[hi.sd i h']at h;cases h
  rw[Xo hl];exact k.le.σ i b h,k.le.τ,k.le.κ,k.le.mono⟩
 heap:=k.heap
 store:=k.store
 size:=k.size
 new id b h h':=k.new id b h (Yu h').2
 tnew:=k.tnew
 ro:=k.ro
 bxl:=by have:=k.bxl;simp;omega
 bx id h:=by
  have hl:id<H.bx.length:=Nat.lt_of_lt_of_le h hi.ro
  simp only[List.getElem?_take,hl,if_true]
  exact k.bx id h
 nt:=k.nt
 lv:=k.lv
 al id b h h':=k.al id b h (Ve h').2
 ns id h h':=by rw[Xo h];exact k.ns id h h'
 so:=k.so
end
